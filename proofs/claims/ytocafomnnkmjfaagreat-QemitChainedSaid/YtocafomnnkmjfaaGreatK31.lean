import Derived.Test.YtocafomnnkmjfaaGreatK23
import Derived.Test.YtocafomnnkmjfaaGreatK30
set_option maxRecDepth 100000
set_option maxHeartbeats 2000000
namespace Go.Proofs.YtocafomnnkmjfaaGreat
open Go.RowKit
section
variable {P:Program} {w0:World} {G:Gs} {N:Nd} {S:List Ow} {f:Fr} {d:Code} {Q:Exit→Act→World→Prop} {α:Type}
theorem zb9 {T:α→Fr} {J:α→World→Prop} (h:∀ r w,Rel w0 G S r w→∃ y,(∀ a,FDen r f a→FDen Env.none (T y) a)∧J y w):AtQ w0 G N .normal f S (MidW N T J Q):=
 ⟨fun a w ⟨r,hR,hfd,hN,hds⟩=>by
  obtain ⟨y,h1,h2⟩:=h r w hR
  exact ⟨y,h1 a hfd,hN,hds,h2⟩⟩
end
structure CpAt (w:World) (c m:Nat) (ms:List Nat) (us:List Value) (n p:Nat) (M:MemP):Prop where
 cpu:w.heap[c]?=some (.cells (us++[pV m]).toArray cpuT (0,0))
 ul:us.length=24
 mem:ObjsAt w (m::ms) (memS 0 n p M)
 cm:c∉m::ms
section
variable {w w':World} {h c m:Nat} {ms:List Nat} {us:List Value} {n p:Nat} {M:MemP} {base ctx size:Int}
theorem HoAt.cp (ho:HoAt w h c m ms us n p M base ctx size):CpAt w c m ms us n p M:=⟨ho.cpu,ho.ul,ho.mem,ho.cm⟩
theorem CpAt.later (hc:CpAt w c m ms us n p M) (hB:Below w.heap.size w w'):CpAt w' c m ms us n p M:=⟨(hB.block c (zpz hc.cpu)).trans hc.cpu,hc.ul,zvw (zuc n p M) hc.mem hB,hc.cm⟩
theorem CpAt.ptr (hc:CpAt w c m ms us n p M):zac w Gs.nil c (0+24) [pV m]:=
 zd1 hc.cpu (by rw [List.getElem?_append_right (by rw [hc.ul];exact Nat.le_refl _),hc.ul];rfl)
end
theorem z62 {F:Int→Option QI} {a:Int} {R:Int→Int} {M:MemP} {y} (h:z65 (qAt F a) a R M=some y):∃ i,F a=some i∧z65 i a R M=some y:=by
 cases hF:F a with
 |none=>
  have:qAt F a=⟨0,0,0,0,0⟩:=(by unfold qAt;rw [hF];rfl);rw [this] at h;have h0:z65 ⟨0,0,0,0,0⟩ a R M=none:=rfl;rw [h0] at h;cases h
 |some i=>
  have:qAt F a=i:=(by unfold qAt;rw [hF];rfl);rw [this] at h;exact ⟨i,rfl,h⟩
def stAt (s:St) (y:(Int→Int)×Int×MemP) (j:Nat):St:={s with pc:=y.2.1,R:=y.1,steps:=s.steps+j}
theorem zh2 {l m:List CV} {n:Nat} (h:l.length=n):cut (l++m) 0 n=some l:=by
 unfold cut;rw [show Nat.ble (0+n) (l++m).length=true from Nat.ble_eq_true_of_le (by rw [List.length_append];omega)];rw [List.drop_zero, ← h,List.take_left]
abbrev trT:TypeId:=93
theorem zd3 {w:World} {G:Gs} {b:Nat} {us vs:List Value} {t:TypeId} (h:w.heap[b]?=some (.cells (us++vs).toArray t (0,0))) (hG:b∉G):zac w G b 0 us:=by
 refine ⟨zpz h,hG,fun j u hj=>?_⟩
 have hlt:j<us.length:=by
  rcases Nat.lt_or_ge j us.length with h1|h1
  ·exact h1
  ·rw [List.getElem?_eq_none h1] at hj;cases hj
 simp only [World.cell?,h,Nat.zero_add];simp [List.getElem?_append_left hlt,hj]
theorem zd2 {w:World} {G:Gs} {b off:Nat} {us:List Value} {x:Value} {t:TypeId} (h:w.heap[b]?=some (.cells us.toArray t (0,0))) (hG:b∉G) (hx:us[off]?=some x):zac w G b off [x]:=zfq (zd1 h hx) hG
theorem zd4 {w:World} {G:Gs} {b off:Nat} {us xs:List Value} {t:TypeId} (h:w.heap[b]?=some (.cells us.toArray t (0,0))) (hG:b∉G) (hx:∀ j u,xs[j]?=some u→us[off+j]?=some u):zac w G b off xs:=
 ⟨zpz h,hG,fun j u hj=>by
  have:=hx j u hj
  simp [World.cell?,h,this]⟩
theorem z67 {s:St} {M M':MemP} {v:Value} (h:zaq s M v M'):∃ s' k inf,v=zxp s' k inf:=by
 unfold zaq at h
 split at h
 ·obtain ⟨k,inf,_,hv,_⟩:=h
  exact ⟨s,k,inf,hv⟩
 ·split at h
  ·split at h
   ·obtain ⟨k,inf,_,_,hv,_⟩:=h
    exact ⟨s,k,inf,hv⟩
   ·exact ⟨_,_,_,h.1⟩
  ·obtain ⟨s',k,inf,hv,_⟩:=h
   exact ⟨s',k,inf,hv⟩
section
variable {w:World} {c m:Nat} {ms:List Nat} {n p:Nat} {M:MemP}
theorem z2m (s:St) (hs:s.ok) (hdue:s.due=0) (hst:s.steps≤1000000) (hC:CpAt w c m ms (stL s []) n p M) (hM:M.ok n p) (k:Nat) (most:Int) (hk:(k:Int)<most) (hkm:k≤1000000) {R':Int→Int} {pc':Int} {M':MemP} (hit:zrq (z0z M.fet) k s.R s.pc M=some (R',pc',M')) {i:QI} (hi:z0z M.fet pc'=some i) (hstop:(i.op=48∧i.imm=0)∨(z65 i pc' R' M'=none∧23≤i.op∧i.op≤26)):
  Calls Tryz.prog 40 #[pV c,.int .i64 most] w fun e w'=>(∃ inf,e= .returned (.agg #[.int .i64 (if i.op=48 then 4 else 5),.int .u32 inf])∧(i.op=48→inf=0))∧CpAt w' c m ms (stL (stAt s (R',pc',M') k) []) n p M'∧Held w ⟨[],c::m::ms⟩ w':=by
 have hF:∀ a x,z0z M.fet a=some x→x.ok:=fun a x hx=>(z02 hM hx).1
 have hr0:RunOk M n p s.R s.pc M:=⟨hs.pc,hs.reg,hs.zero,hM,rfl⟩
 have hstp:=hs.steps;refine zfh [pV c,.int .i64 most] Tryz.func40 Tryz.ntmps40 rfl zS ?_;refine z3i ?_;(conv=>whnf);refine z3f fun r w1 hR=>?_;obtain ⟨p4,us,e1,e2,e3⟩:=hR.own 0 _ rfl;obtain rfl:=ziw (us:=[.int .i64 0,.int .u32 0]) e3;have hB1:=hR.toBelow;have hp4:=zoi hR e1;refine ⟨z6d [(0,pV c),(1,.int .i64 most),(4,pV p4)],fun a' hf=>z6m ⟨z6k hf rfl,z6k hf rfl,z6i hf 4 rfl e1,trivial⟩,?_⟩
 have h4n:p4∉c::m::ms:=fun hm=>by
  rcases List.mem_cons.1 hm with rfl|hm
  ·have:=zpz hC.cpu;omega
  ·have:=hC.mem.lt p4 hm;omega
 have hC1:=hC.later hB1;clear hR e3 e1;refine z3i ?_;(conv=>whnf);refine z21 ?_
 refine z3b (fun j:{j:Nat//j≤k}=>[(0,one (pV c)),(1,one (.int .i64 most)),(4,one (pV p4)),(5,one (.int .i64 (j.1:Int)))]) (fun j w'=>∃ y,zrq (z0z M.fet) j.1 s.R s.pc M=some y∧CpAt w' c m ms (stL (stAt s y j.1) []) n p y.2.2∧Held w1 ⟨[],c::m::ms⟩ w'∧w'.heap[p4]?=some (.cells ([.int .i64 0,.int .u32 0]:List Value).toArray trT (0,0))) (fun j=>k-j.1) ⟨0,by omega⟩ Tn (fun r w' hR=>⟨(s.R,s.pc,M),rfl,by
  have:stAt s (s.R,s.pc,M) 0=s:=(by unfold stAt;simp);show CpAt w' c m ms (stL (stAt s (s.R,s.pc,M) 0) []) n p M;rw [this]
  exact hC1.later hR.toBelow,zp4 hR.toBelow,(hR.toBelow.block p4 (zpz e2)).trans e2⟩) (fun j w' hJ=>?_)
 obtain ⟨j,hj⟩:=j;dsimp only at hJ⊢;obtain ⟨y,hy,hCj,hhj,e4⟩:=hJ;have hrj:=zrt hF j hr0 hy
 have hsj:(stAt s y j).ok:=⟨hrj.pc,hrj.reg,hrj.zero,hs.fl,by show 0≤s.steps+(j:Int)∧s.steps+(j:Int)<1099511627776;omega⟩
 have hduej:(stAt s y j).due=0:=hdue;have hpcj:(stAt s y j).pc=y.2.1:=rfl;have hRj:(stAt s y j).R=y.1:=rfl;generalize hSJ:stAt s y j=sj at hCj hsj hduej hpcj hRj;refine z21 ?_;refine z25 ?_;refine z3i ?_;refine z2v mixed zK ?_;(conv=>whnf);refine ⟨_,zd1 hCj.cpu (x:= .int .i64 0) (by show some (Value.int .i64 sj.due)=_;rw [hduej]),?_⟩;refine kB ?_;refine z23 (t:=false) rfl nF (fun _=>z3j (zcd ?_));refine z25 ?_;refine z3i ?_;(conv=>whnf);refine z23 rfl (fun hc=>absurd (of_decide_eq_true hc) zO) (fun _=>z3j (zcd ?_))
 obtain ⟨L,hL⟩:∃ L,L=stL sj []:=⟨_,rfl⟩
 have hLl:(L.map CV.v).length=24:=by rw [List.length_map,hL];rfl
 have hLg:(L.map CV.v++[CV.ref 1 0])[24]?=some (CV.ref 1 0):=by rw [List.getElem?_append_right zO,hLl];rfl
 rw [← hL] at hCj
 have hstep:∀ (w':World) (g:Nat) (gs:List Nat),ObjsAt w' (g::gs) (memS 0 n p y.2.2)→Calls Tryz.prog 94 #[.agg L.toArray,.pointer (some ⟨g,0,none⟩)] w' fun e w2=>∃ q:List Value×MemP,((q.1.map CV.v).length=26∧(∀ S,zwf S (q.1.map CV.v)=true)∧zaq sj y.2.2 (.agg q.1.toArray) q.2)∧e= .returned (.agg q.1.toArray)∧ObjsAt w2 (g::gs) (memS 0 n p q.2)∧GrownBys w' w2 (g::gs):=fun w' g gs hU=>by
  rw [hL];refine (z7b sj hsj y.2.2 n p w' g gs hU hrj.mem).mono fun e w2 ⟨v,M2,he,hR2,_,hO,hG⟩=>?_;obtain ⟨s',kk,inf,rfl⟩:=z67 hR2;exact ⟨(stL s' [intV kk,u32V inf],M2),⟨rfl,fun _=>rfl,hR2⟩,he,hO,hG⟩
 refine z3d (α:=Nat×St×Int×Int×MemP) (fun q=>[(0,one (pV c)),(1,one (.int .i64 most)),(4,one (pV p4)),(5,one (.int .i64 (j:Int))),(6,one (pV q.1))]) (fun q w2=>zaq sj y.2.2 (zxp q.2.1 q.2.2.1 q.2.2.2.1) q.2.2.2.2∧CpAt w2 c m ms L n p q.2.2.2.2∧w2.heap[q.1]?=some (.cells (stL q.2.1 [intV q.2.2.1,u32V q.2.2.2.1]).toArray outT (0,0))∧Held w1 ⟨[],c::m::ms⟩ w2∧w2.heap[p4]?=some (.cells ([.int .i64 0,.int .u32 0]:List Value).toArray trT (0,0))∧q.1∉c::m::ms∧q.1≠p4) ?_ fun q w2 hl=>?_
 ·refine z3n 0 0 c rfl ⟨c::m::ms,[]⟩ (cpuU 0 L n p y.2.2) fun r w3 hR3=>?_
  have hB3:=hR3.toBelow;have hC3:=hCj.later hB3;have hU3:=zhl hC3.cpu hC3.mem hC3.cm;refine ⟨_,z1p hU3,rfl,?_⟩;refine z3m ?_;refine z2t (.q 0 (.q 1 (.q 2 (.q 4 (.q 5 (.q 6 (.alt 3 (.alt 7 (.alt 8 (.alt 9 (.alt 10 .done .no) .no) (.alt 9 (.alt 8 (.alt 10 .done .no) .no) .no)) (.alt 9 (.alt 7 (.alt 8 (.alt 10 .done .no) .no) .no) .no)) (.alt 7 (.alt 3 (.alt 8 (.alt 9 (.alt 10 .done .no) .no) (.alt 9 (.alt 8 (.alt 10 .done .no) .no) .no)) (.alt 9 (.alt 3 (.alt 8 (.alt 10 .done .no) .no) .no) .no)) (.alt 9 (.alt 3 (.alt 7 (.alt 8 (.alt 10 .done .no) .no) .no) (.alt 7 (.alt 3 (.alt 8 (.alt 10 .done .no) .no) .no) .no)) .no))))))))) mixed zK zK ?_;(conv=>whnf)
  repeat' (first
   |(refine ⟨?_,?_,?_,trivial⟩<;>(conv=>whnf))
   |(refine ⟨?_,?_,trivial⟩<;>(conv=>whnf))
   |(refine ⟨?_,trivial⟩;(conv=>whnf))
   |(erw [zh2 hLl];(conv=>whnf))
   |(erw [hLg];(conv=>whnf))
   |(refine ze8 (pre:=[.p (.agg (L.map .v))]) (suf:=[]) (xs:=[.agg L.toArray]) (ys:=[]) (α:=List Value×MemP) 1 (memS 0 n p y.2.2) (memS 1 n p y.2.2) (fun q=>memS 0 n p q.2) (fun q=>memS 1 n p q.2) (fun q=> .agg q.1.toArray) (fun q=>(q.1.map CV.v).length=26∧(∀ S,zwf S (q.1.map CV.v)=true)∧zaq sj y.2.2 (.agg q.1.toArray) q.2) zS (zud 1 n p y.2.2) (zuc n p y.2.2) (fun i hi=>zhm L n p y.2.2 _ i hi) (zcp _) rfl zK (fun q _=>zud 1 n p q.2) (fun q _=>zuc n p q.2) (fun _ _=>rfl) (fun w' g gs _ hU=>hstep w' g gs hU) ?_;rintro ⟨Lo,M2⟩ ⟨hLo,hone,hR2⟩;(conv=>whnf))
   |(erw [zdl (l:=List.map CV.v Lo) (n:=26) hLo];(conv=>whnf))
   |(erw [hone _];(conv=>whnf))
   |(erw [zdz (l:=List.map CV.v Lo) (hLo.trans rfl)];(conv=>whnf))
   |fail)
  all_goals
   refine zb9 fun r4 w4 hR4=>?_;obtain ⟨pb,us,b1,b2,b3⟩:=hR4.own 7 _ rfl;rw [z32 (by show _=(List.map CV.v Lo).length;rw [hLo];rfl)] at b3;obtain rfl:=ziw (us:=Lo) b3;obtain ⟨s',kk,inf,hv⟩:=z67 hR2
   have hLe:us=stL s' [intV kk,u32V inf]:=by
    injection hv with hv;exact congrArg Array.toList hv
   subst hLe;have hgr:=hR4.growns
   have hpbn:pb∉c::m::ms:=fun hm=>by
    obtain ⟨i2,hi2⟩:=List.getElem?_of_mem hm;have h7:=hR4.inj i2 7 pb (hR4.first i2 pb hi2) b1;subst h7;rw [List.getElem?_eq_none (by have:=hU3.len;simp only [List.length_cons,List.length_nil] at this⊢;omega)] at hi2
    cases hi2
   have hpbw:w3.heap.size≤pb:=by
    rcases Nat.lt_or_ge pb w3.heap.size with h1|h1
    ·rcases (hR4.new 7 pb b1).2 h1 with h2|h2
     ·exact absurd h2 hpbn
     ·cases h2
    ·exact h1
   have hO4:ObjsAt w4 (c::m::ms) (cpuU 0 L n p M2):=hR4.objs (by have:=hU3.len;exact this) (fun i o ho=>by
    show (cpuU 0 L n p M2++([_]:List Ow))[i]?=some o
    rw [List.getElem?_append_left (by
     rcases Nat.lt_or_ge i (cpuU 0 L n p M2).length with h1|h1
     ·exact h1
     ·rw [List.getElem?_eq_none h1] at ho;cases ho)]
    exact ho) (by have:=hU3.len;rw [← this];exact zhi L n p M2)
   obtain ⟨m2,ms2,em,hc4,hm4,hn4⟩:=zhp hO4;injection em with em1 em2;subst em1;subst em2;refine ⟨(pb,s',kk,inf,M2),fun a' hf=>?_,hR2,⟨hc4,by rw [← List.length_map (f:=CV.v)];exact hLl,hm4,hn4⟩,b2,zp7 (zp7 (gs1:=[]) hhj (zp4 hB3) nofun) (zp5 hgr) fun b hb=> .inl hb,(hgr.block p4 (Nat.lt_of_lt_of_le (zpz e4) hB3.size) h4n).trans ((hB3.block p4 (zpz e4)).trans e4),hpbn,fun e=>by subst e;have:=hpbw;have:=zpz e4;have:=hB3.size;omega⟩;show FDen Env.none (z6d [(0,pV c),(1,.int .i64 most),(4,pV p4),(5,.int .i64 (j:Int)),(6,pV pb)]) a';exact z6m ⟨z6i hf 0 rfl (hR4.first 0 c rfl),z6k hf rfl,z6k hf rfl,z6k hf rfl,z6i hf 6 rfl b1,trivial⟩
 ·obtain ⟨pb,s',kk,inf,M2⟩:=q
  dsimp only at hl;obtain ⟨hR2,hC2,eb,hh2,e42,hpbn,hpb4⟩:=hl;refine z25 ?_;refine z3i ?_;(conv=>whnf);refine ⟨_,zd1 (off:=0+24+0) eb rfl,?_⟩;(conv=>whnf);unfold zaq at hR2;rw [hrj.fet,hpcj,hRj] at hR2;by_cases hjk:j<k
  ·obtain ⟨z,hz⟩:=zru k (j+1) hjk hit
   have hz2:=hz;rw [zrv,hy] at hz2;obtain ⟨i2,hi2,hst2⟩:=z62 (show z65 (qAt (z0z M.fet) y.2.1) y.2.1 y.1 y.2.2=some z from hz2);obtain ⟨Rz,pz,Mz⟩:=z;have hop:=(z66 (hF _ _ hi2) hrj.reg hrj.zero hrj.mem hst2).2.2.2.2.2;rw [hi2] at hR2;dsimp only at hR2;rw [if_pos (show z5g i2.op=true from decide_eq_true hop),hst2] at hR2;obtain ⟨hv,hM2⟩:=hR2;subst hM2
   have hvl:stL s' [intV kk,u32V inf]=stL {sj with pc:=pz,R:=Rz,steps:=sj.steps+1} [intV 0,u32V 0]:=by
    injection hv with hv;exact congrArg Array.toList hv
   have hk0:kk=0:=by
    have h1:=congrArg (fun l=>l[24]?) hvl;have h2:some (intV kk)=some (intV 0):=h1;injection h2 with h2;injection h2
   have hnx:stL s' []=stL (stAt s (Rz,pz,M2) (j+1)) []:=by
    have h1:=congrArg (List.take 24) hvl;have h2:stL s' []=stL {sj with pc:=pz,R:=Rz,steps:=sj.steps+1} []:=h1;rw [h2, ← hSJ];show stL ⟨pz,Rz,s.f,s.c0,s.c1,s.c2,s.c3,s.steps+(j:Int)+1,s.due⟩ []=stL ⟨pz,Rz,s.f,s.c0,s.c1,s.c2,s.c3,s.steps+((j+1:Nat):Int),s.due⟩ [];rw [show s.steps+(j:Int)+1=s.steps+((j+1:Nat):Int) by omega]
   refine z23 (t:=false) (by rw [hk0];rfl) nF (fun _=>z3j (zcd ?_))
   obtain ⟨L',hL'⟩:∃ L',L'=stL s' []:=⟨_,rfl⟩
   have hL'l:(L'.map CV.v).length=24:=by rw [List.length_map,hL'];rfl
   have hone:∀ S,zwf S (L'.map CV.v)=true:=fun S=>by rw [hL'];rfl
   have ebp:w2.heap[pb]?=some (.cells (L'++[intV kk,u32V inf]).toArray outT (0,0)):=(by rw [hL'];exact eb);refine z3d (α:=Unit) (fun _=>[(0,one (pV c)),(1,one (.int .i64 most)),(4,one (pV p4)),(5,one (.int .i64 (j:Int)))]) (fun _ w3=>CpAt w3 c m ms L' n p M2∧Held w1 ⟨[],c::m::ms⟩ w3∧w3.heap[p4]?=some (.cells ([.int .i64 0,.int .u32 0]:List Value).toArray trT (0,0))) ?_ fun _ w3 hl=>?_
   ·refine z3n 0 0 c rfl ⟨[c],[]⟩ [.cells cpuT ((L++[pV m]).map .v)] fun r w3 hR3=>?_
    have hB3:=hR3.toBelow;have hC3:=hC2.later hB3;refine ⟨_,z1p (zvy hC3.cpu),rfl,?_⟩;have ebp3:=(hB3.block pb (zpz ebp)).trans ebp;have e43:=(hB3.block p4 (zpz e42)).trans e42;have hh3:=zp7 (gs1:=[]) hh2 (zp4 hB3) nofun
    have hpbc:pb∉(⟨[c],[]⟩:Gs):=fun hm=>by
     rcases hm with hm|hm
     ·rw [List.mem_singleton] at hm
      exact hpbn (by rw [hm];exact List.mem_cons_self ..)
     ·cases hm
    refine z3m ?_;(conv=>whnf);refine ⟨L',zd3 ebp3 hpbc,by rw [← List.length_map (f:=CV.v)];exact hL'l,?_⟩;(conv=>whnf);have hlen2:((L++[pV m]).map CV.v).length=25:=(by rw [List.map_append,List.length_append,hLl];rfl);erw [zdl (l:=L'.map CV.v) (n:=24) hL'l];(conv=>whnf);erw [hone _];(conv=>whnf);erw [show Nat.ble (0+0+(L'.map CV.v).length) ((L++[pV m]).map CV.v).length=true from Nat.ble_eq_true_of_le (by rw [hL'l,hlen2];decide)];(conv=>whnf);rw [show Nat.ble ((L++[pV m]).map CV.v).length 8=false from by rw [hlen2];rfl];(conv=>whnf);refine zb9 fun r4 w4 hR4=>?_;obtain ⟨c',us,b1,b2,b3⟩:=hR4.own 0 _ rfl;have hcc:=hR4.first 0 c rfl;rw [hcc] at b1;injection b1 with b1;subst b1
    have hse:z3z ((L++[pV m]).map CV.v) 0 (L'.map CV.v)=(L'++[pV m]).map CV.v:=by
     rw [List.map_append,show List.map CV.v [pV m]=[CV.v (pV m)] from rfl,z33 (L'.map CV.v) (L.map CV.v) 0 zO 24 zO [CV.v (pV m)],z32 (by rw [hLl,hL'l]),List.map_append]
     rfl
    have b4:denL r4 (z3z ((L++[pV m]).map CV.v) 0 (L'.map CV.v)) us:=b3;rw [hse] at b4;obtain rfl:=ziw b4;have hgr:=hR4.growns;refine ⟨(),fun a' hf=>?_,⟨b2,by rw [← List.length_map (f:=CV.v)];exact hL'l,?_,hC3.cm⟩,zp7 hh3 (zp5 hgr) fun b hb=> .inl (by rw [List.mem_singleton.1 hb];exact List.mem_cons_self ..),(hgr.block p4 (zpz e43) fun hm=>h4n (by rw [List.mem_singleton.1 hm];exact List.mem_cons_self ..)).trans e43⟩
    ·show FDen Env.none (z6d [(0,pV c),(1,.int .i64 most),(4,pV p4),(5,.int .i64 (j:Int))]) a'
     exact z6m ⟨z6i hf 0 rfl hcc,z6k hf rfl,z6k hf rfl,z6k hf rfl,trivial⟩
    ·exact ObjsAt.later (zuc n p M2) hC3.mem hgr.size fun b hb=>hgr.block b (hC3.mem.lt b hb) fun hm=>hC3.cm (by rw [← List.mem_singleton.1 hm];exact hb)
   ·obtain ⟨hC5,hh5,e45⟩:=hl
    rw [hL',hnx] at hC5;refine z3m ?_;(conv=>whnf);refine ⟨((j+1:Nat):Int),by rw [show (j:Int)+1=((j+1:Nat):Int) by omega];exact wr64 zO,?_⟩;(conv=>whnf);exact zb4 (zcc ⟨j+1,by omega⟩ Tn (fun r w6 hR=>⟨(Rz,pz,M2),hz,hC5.later hR.toBelow,zp7 (gs1:=[]) hh5 (zp4 hR.toBelow) nofun,(hR.toBelow.block p4 (zpz e45)).trans e45⟩) (by show k-(j+1)<k-j;omega))
  ·have hjk:j=k:=by omega
   subst hjk;rw [hit] at hy;injection hy with hy;subst hy;dsimp only at hR2 hC2;rw [hi] at hR2;dsimp only at hR2
   have hres:kk=(if i.op=48 then 4 else 5)∧(i.op=48→inf=0)∧M2=M':=by
    rcases hstop with ⟨h48,him⟩|⟨hno,h1,h2⟩
    ·rw [if_neg (show ¬z5g i.op=true by rw [h48];decide)] at hR2
     obtain ⟨s2,k2,inf2,hv,h3⟩:=hR2;obtain ⟨_,rfl,rfl,rfl⟩:=h3 h48
     have hvl:stL s' [intV kk,u32V inf]=stL s2 [intV 4,u32V i.imm]:=by
      injection hv with hv;exact congrArg Array.toList hv
     have h1:some (intV kk)=some (intV 4):=congrArg (fun l=>l[24]?) hvl;have h2:some (u32V inf)=some (u32V i.imm):=congrArg (fun l=>l[25]?) hvl;injection h1 with h1;injection h1 with _ h1;injection h2 with h2;injection h2 with _ h2;exact ⟨by rw [if_pos h48];exact h1,fun _=>by rw [h2];exact him,rfl⟩
    ·rw [if_pos (show z5g i.op=true from decide_eq_true zO),hno] at hR2
     obtain ⟨k2,inf2,_,h3,hv,rfl⟩:=hR2
     have hvl:stL s' [intV kk,u32V inf]=stL sj [intV k2,u32V inf2]:=by
      injection hv with hv;exact congrArg Array.toList hv
     have h4:some (intV kk)=some (intV k2):=congrArg (fun l=>l[24]?) hvl;injection h4 with h4;injection h4 with _ h4;exact ⟨by rw [if_neg zO,h4];exact h3 h1,fun h=>by omega,rfl⟩
   obtain ⟨hkk,hinf,rfl⟩:=hres;have hkne:(kk !=0)=true:=(by rw [hkk];split<;>decide);refine z23 (t:=true) (congrArg (fun b=>one (Value.bool b)) hkne) (fun _=>?_) nT;refine z25 ?_;refine z3n 4 0 p4 rfl ⟨[p4],[]⟩ [.cells trT [.v (.int .i64 0),.v (.int .u32 0)]] fun r w3 hR3=>?_;have hB3:=hR3.toBelow;have hC3:=hC2.later hB3;have e43:=(hB3.block p4 (zpz e42)).trans e42;have eb3:=(hB3.block pb (zpz eb)).trans eb;have hh3:=zp7 (gs1:=[]) hh2 (zp4 hB3) nofun;refine ⟨_,z1p (zvy e43),rfl,?_⟩
   have hpb4':pb∉(⟨[p4],[]⟩:Gs):=fun hm=>by
    rcases hm with hm|hm
    ·rw [List.mem_singleton] at hm
     exact hpb4 hm
    ·cases hm
   refine z3m ?_;(conv=>whnf)
   refine ⟨[intV kk,u32V inf],zd4 eb3 hpb4' (fun j u hj=>by
    match j,hj with
    |0,hj=>exact hj
    |1,hj=>exact hj
    |j+2,hj=>simp at hj),rfl,?_⟩
   (conv=>whnf);refine zcd ?_;refine z3m ?_;(conv=>whnf);refine zco (zcg ?_) fun a w hq=>hq;(conv=>whnf);refine ⟨fun r w9 u hR hd=>?_⟩;rw [AV.val_den (x:= .agg #[.int .i64 kk,.int .u32 inf]) rfl hd];have hgr:=hR.growns
   have hCf:CpAt w9 c m ms L n p M2:=⟨(hgr.block c (zpz hC3.cpu) fun hm=>h4n (by rw [← List.mem_singleton.1 hm];exact List.mem_cons_self ..)).trans hC3.cpu,hC3.ul,ObjsAt.later (zuc n p M2) hC3.mem hgr.size fun b hb=>hgr.block b (hC3.mem.lt b hb) fun hm=>h4n (by rw [← List.mem_singleton.1 hm];exact List.mem_cons_of_mem _ hb),hC3.cm⟩
   rw [hL, ← hSJ] at hCf;refine ⟨⟨inf,by rw [hkk],hinf⟩,hCf,?_⟩;have hz1:=hB1.size;have hz3:=hh3.size;exact ⟨hgr.os.trans (hh3.os.trans hB1.os),hgr.tape.trans (hh3.tape.trans hB1.tape),hgr.output.trans (hh3.output.trans hB1.output),Nat.le_trans hz1 (Nat.le_trans hz3 hgr.size),fun b hb hn=>(hgr.block b zO fun hm=>by rw [List.mem_singleton] at hm;omega).trans ((zp0 hh3 zO fun hm=>hn (.inr hm)).trans (hB1.block b hb))⟩
end
theorem z80:(Tryz.prog.fieldsOf 93).toList=[fld "Kind" 3 0 0,fld "Info" 41 1 8]:=by kernel_rfl
theorem z8z (a b:Int) (w:World):(Op.equalIn 10000 93 (.agg #[.int .i64 a,.int .u32 b]) (.agg #[.int .i64 a,.int .u32 b])).run Tryz.prog w= .ok true w:=by
 rw [run_equalIn_agg _ _ _ _ _ zK zK,z80];have p0:(part 3 #[.int .i64 a,.int .u32 b] 0).run Tryz.prog w= .ok (.int .i64 a) w:=run_part_plain w zK rfl;have p1:(part 41 #[.int .i64 a,.int .u32 b] 1).run Tryz.prog w= .ok (.int .u32 b) w:=run_part_plain w zK rfl;have e0:(Op.equalIn 9999 3 (.int .i64 a) (.int .i64 a)).run Tryz.prog w= .ok (a==a) w:=run_equalIn_int w 9998 _ _ _ a a Tryz.underlying3;have e1:(Op.equalIn 9999 41 (.int .u32 b) (.int .u32 b)).run Tryz.prog w= .ok (b==b) w:=run_equalIn_int w 9998 _ _ _ b b Tryz.underlying41
 rw [zkk (f:=fld "Kind" 3 0 0) (by simp [fld]) p0 p0 (e0.trans (by rw [beq_self_eq_true]))]
 rw [zkk (f:=fld "Info" 41 1 8) (by simp [fld]) p1 p1 (e1.trans (by rw [beq_self_eq_true]))]
 simp only [Op.eqFields,Sem.run_pure]
theorem zz7 {w0:World} {G:Gs} {S:List Ow} {f:Fr} {o:Oper} {K:AV→Prop} {x y:Operand} {t':TypeId} (a b:Int) (hop:o.op= .binOp .eql 93 x y t') (hx:f.ev x= .p (.agg [.v (.int .i64 a),.v (.int .u32 b)])) (hy:f.ev y= .p (.agg [.v (.int .i64 a),.v (.int .u32 b)])) (hk:K (one (.bool true))):QRun Tryz.prog w0 G S f o K:=by
 refine ⟨_,hk,fun r c hf=>?_⟩;have h1:=hf.ev x;have h2:=hf.ev y;rw [hx] at h1;rw [hy] at h2;have e1:=AV.val_den (z9e [.int .i64 a,.int .u32 b]) h1;have e2:=AV.val_den (z9e [.int .i64 a,.int .u32 b]) h2;refine ⟨_,zi3 _ _,fun w hR=>?_⟩;have hg:=run_eqGuard_agg (P:=Tryz.prog) w .eql 93 x y #[.int .i64 a,.int .u32 b] #[.int .i64 a,.int .u32 b] zK
 have hb:(binOp .eql 93 (.agg #[.int .i64 a,.int .u32 b]) (.agg #[.int .i64 a,.int .u32 b])).run Tryz.prog w= .ok (.bool true) w:=by
  rw [run_eql_struct,z8z a b];rfl
 simp [execOp,hop,e1,e2,hg,hb]
theorem z5n:∀ (l:List It) (n k:Nat) (it:It) (sk:Sk),l[k]?=some it→it.s=some sk→∃ idx,(z5q n l)[idx]?=some (z5l (n+k) sk)∧∀ (i:Nat) (s:SiteP),i<idx→(z5q n l)[i]?=some s→s.off<4*((n+k:Nat):Int)
 |[],n,k,it,sk,h,_=>by simp at h
 |x::l,n,0,it,sk,h,hs=>by
  have h:x=it:=(by simpa using h);subst h;refine ⟨0,?_,fun i s hi=>absurd hi (Nat.not_lt_zero i)⟩;unfold z5q;rw [hs];rfl
 |x::l,n,k+1,it,sk,h,hs=>by
  obtain ⟨idx,h1,h2⟩:=z5n l (n+1) k it sk (by simpa using h) hs;rw [show n+1+k=n+(k+1) by omega] at h1 h2;unfold z5q
  cases hx:x.s with
  |none=>exact ⟨idx,h1,h2⟩
  |some s0=>
   refine ⟨idx+1,h1,fun i s hi h3=>?_⟩
   match i with
   |0=>
    have h3:z5l n s0=s:=(by simpa using h3);subst h3;show 4*(n:Int)<_;omega
   |i+1=>exact h2 i s zO (by simpa using h3)
section
variable {w:World} {h c m:Nat} {ms:List Nat} {n p:Nat} {M:MemP} {base ctx size:Int}
theorem z7g (s:St) (hs:s.ok) (hdue:s.due=0) (hst:s.steps≤1000000) (ho:HoAt w h c m ms (stL s []) n p M base ctx size) (hM:M.ok n p) (k:Nat) (hk:k<100000) {R':Int→Int} {pc':Int} {M':MemP} (hit:zrq (z0z M.fet) k s.R s.pc M=some (R',pc',M')) {i:QI} (hi:z0z M.fet pc'=some i) (hstop:(i.op=48∧i.imm=0)∨(z65 i pc' R' M'=none∧23≤i.op∧i.op≤26))
  (tx:List Int) (l:List SiteP) (A:Option Addr) (cp:Nat) (hsl:SlAt w w.heap.size A (l.flatMap z5k)) (hA:∀ b off,A=some ⟨b,off,none⟩→b∉c::m::ms) (hll:l.length≤1000000) (idx:Nat) (si:SiteP) (hix:l[idx]?=some si) (hlt:∀ (j:Nat) (x:SiteP),j<idx→l[j]?=some x→x.off<si.off) (hoff:pc'=base+si.off) (hso:0≤si.off∧si.off<1000000) (hkind:(si.kind=3→i.op≠48)∧(i.op≠48→si.kind=3)):
  Calls Tryz.prog 30 #[pV h,.agg #[strV tx,.slice A l.length cp]] w fun e w'=>e= .returned (.tuple #[z5m si,.bool true])∧HoAt w' h c m ms (stL (stAt s (R',pc',M') k) []) n p M' base ctx size∧Held w ⟨[],c::m::ms⟩ w':=by
 refine zfh [pV h,.agg #[strV tx,.slice A l.length cp]] Tryz.func30 Tryz.ntmps30 rfl zS ?_;refine z3i ?_;(conv=>whnf);refine z3f fun r w1 hR=>?_;obtain ⟨px,us,e1,e2,e3⟩:=hR.own 0 _ rfl;obtain rfl:=ziw (us:=[strV tx,.slice A l.length cp]) e3;obtain ⟨p4,us,f1,f2,f3⟩:=hR.own 1 _ rfl;obtain rfl:=ziw (us:=[.int .i64 0,.int .i64 0,.int .i64 0,.int .u32 0,.int .u32 0,.int .i64 0]) f3;have hB1:=hR.toBelow;have hpx:=zoi hR e1;have hp4:=zoi hR f1;refine ⟨z6d [(0,pV h),(3,pV px),(4,pV p4)],fun a' hf=>z6m ⟨z6k hf rfl,z6i hf 3 rfl e1,z6i hf 4 rfl f1,trivial⟩,?_⟩
 have hne:px≠p4:=fun e=>by subst e;exact absurd (hR.inj 0 1 _ e1 f1) (by decide)
 have hfar:∀ b,w.heap.size≤b→b∉c::m::ms:=fun b hb hm=>by
  rcases List.mem_cons.1 hm with rfl|hm
  ·have:=zpz ho.cpu;omega
  ·have:=ho.mem.lt b hm;omega
 have hhn:h∉c::m::ms:=fun hm=>(List.mem_cons.1 hm).elim (fun e=>ho.hc e) ho.hm;have ho1:=ho.later hB1;clear hR e3 f3;refine z25 (z26 4 rfl rfl rfl ?_);(conv=>whnf);refine ⟨_,zd1 (off:=0+0) ho1.host rfl,?_⟩;(conv=>whnf);refine ⟨by kernel_rfl,fun r w2 us' hR hd=>?_⟩;obtain rfl:=zcs (xs:=[pV c,.int .i64 100000]) rfl hd;have hB2:=hR.toBelow;have ho2:=ho1.later hB2
 refine (z2m s hs hdue hst ho2.cp hM k 100000 zO zO hit hi hstop).mono fun e w3 ⟨⟨inf,he,hinf⟩,hC3,hh3⟩=>⟨_,he,?_⟩
 have hh13:=zp7 (zp4 (gs:=c::m::ms) hB2) hh3 fun b hb=> .inl hb
 have ho3:HoAt w3 h c m ms (stL (stAt s (R',pc',M') k) []) n p M' base ctx size:=⟨(zp0 hh3 (zpz ho2.host) hhn).trans ho2.host,hC3.cpu,hC3.ul,hC3.mem,ho.hc,ho.hm,hC3.cm⟩
 have e23:=(zp0 hh13 (zpz e2) (hfar px hpx)).trans e2;have f23:=(zp0 hh13 (zpz f2) (hfar p4 hp4)).trans f2
 have hsl3:SlAt w3 w3.heap.size A (l.flatMap z5k):=fun j u hj=>by
  obtain ⟨b,off,eA,hb,hc⟩:=hsl j u hj;have hz1:=hB1.size;exact ⟨b,off,eA,Nat.lt_of_lt_of_le hb (Nat.le_trans hz1 hh13.size),(World.cell?_of_block ((zp0 hh13 (by show b<_;omega) (hA b off eA)).trans (hB1.block b hb))).trans hc⟩
 clear hR hd hB2 ho1 ho2 hC3 hh3 e2 f2;generalize hkk:(if i.op=48 then (4:Int) else 5)=kk;(conv=>whnf);refine zcd ?_;refine z3f fun r w4 hR=>?_;obtain ⟨p6,us,g1,g2,g3⟩:=hR.own 0 _ rfl;obtain rfl:=ziw (us:=[.int .i64 kk,.int .u32 inf]) g3;have hB4:=hR.toBelow;have hp6:=zoi hR g1;refine ⟨z6d [(0,pV h),(3,pV px),(4,pV p4),(6,pV p6)],fun a' hf=>z6m ⟨z6k hf rfl,z6k hf rfl,z6k hf rfl,z6i hf 6 rfl g1,trivial⟩,?_⟩;have ho4:=ho3.later hB4;have hsl4:SlAt w4 w4.heap.size A (l.flatMap z5k):=(hsl3.below hB4 (Nat.le_refl _)).more hB4.size;have e24:=(hB4.block px (zpz e23)).trans e23;have f24:=(hB4.block p4 (zpz f23)).trans f23;have hh14:=zp7 (gs1:=[]) hh13 (zp4 hB4) nofun
 have h64:p6≠p4:=fun e=>by subst e;have:=zpz f23;omega
 clear hR g3 g1 hsl3 e23 f23 ho3 hB4 hh13;refine z3i ?_;refine z2v mixed zK ?_;(conv=>whnf);refine ⟨[strV tx,.slice A l.length cp],zd0 e24,rfl,?_⟩;(conv=>whnf);refine ⟨_,zd1 (off:=0+0) ho4.host rfl,?_⟩;(conv=>whnf);refine ⟨_,zd1 (off:=0+0+0) ho4.cpu (x:= .int .u32 pc') rfl,?_⟩;(conv=>whnf);refine ⟨_,zd1 (off:=0+1) ho4.host rfl,?_⟩;(conv=>whnf);refine ⟨si.off,by rw [hoff,wr32];omega,?_⟩;(conv=>whnf);refine ⟨si.off,wr64 zO,?_⟩;(conv=>whnf);refine zz3 rfl zK (fun r w' hR=>zmq l (strV tx) A cp hll si.off idx ⟨si,hix,rfl⟩ (fun j x hj hx=>by have:=hlt j x hj hx;omega) w' ((hsl4.below hR.toBelow (Nat.le_refl _)).more hR.toBelow.size)) ?_;(conv=>whnf);refine z25 ?_;refine z3i ?_;(conv=>whnf);refine z23 rfl (fun hc=>absurd (of_decide_eq_true hc) zO) (fun _=>z3j (zcd ?_))
 have hil:idx<l.length:=by
  rcases Nat.lt_or_ge idx l.length with h1|h1
  ·exact h1
  ·rw [List.getElem?_eq_none h1] at hix;cases hix
 obtain ⟨bb,of2,rfl,hcl⟩:=zfx hsl4 hix
 refine z3i ?_
 conv=>whnf
 refine ⟨_,zd1 (off:=0+1) e24 rfl,?_⟩
 conv=>whnf
 (refine ⟨⟨by omega,by omega⟩,?_⟩;(conv=>whnf))
 refine ⟨z5k si,hcl,rfl,?_⟩;(conv=>whnf);refine z3f fun r w5 hR=>?_;obtain ⟨p8,us,b1,b2,b3⟩:=hR.own 0 _ rfl;obtain rfl:=ziw (us:=z5k si) b3;have hB5:=hR.toBelow;have hp8:=zoi hR b1;refine ⟨z6d [(0,pV h),(4,pV p4),(6,pV p6),(8,pV p8)],fun a' hf=>z6m ⟨z6k hf rfl,z6k hf rfl,z6k hf rfl,z6i hf 8 rfl b1,trivial⟩,?_⟩;have ho5:=ho4.later hB5;have f25:=(hB5.block p4 (zpz f24)).trans f24;have g25:=(hB5.block p6 (zpz g2)).trans g2;have hh15:=zp7 (gs1:=[]) hh14 (zp4 hB5) nofun
 have h84:p8≠p4:=fun e=>by subst e;have:=zpz f24;omega
 have n64:p6∉Gs.flat ⟨[p4],[]⟩:=fun hm=>by
  rcases znb.1 hm with hm|hm
  ·exact h64 (List.mem_singleton.1 hm)
  ·cases hm
 have n84:p8∉Gs.flat ⟨[p4],[]⟩:=fun hm=>by
  rcases znb.1 hm with hm|hm
  ·exact h84 (List.mem_singleton.1 hm)
  ·cases hm
 have b25:=b2;clear hR b3 b1 hsl4 e24 f24 ho4 hh14 hcl hB5
 have hfin:∀ (r:Env) (w6 w9:World) (S:List Ow),HoAt w6 h c m ms (stL (stAt s (R',pc',M') k) []) n p M' base ctx size→Held w1 ⟨[],c::m::ms⟩ w6→Rel w6 ⟨[p4],[]⟩ S r w9→HoAt w9 h c m ms (stL (stAt s (R',pc',M') k) []) n p M' base ctx size∧Held w ⟨[],c::m::ms⟩ w9:=fun r w6 w9 S ho6 hh16 hR=>by
  have hgr:=hR.growns;have h4c:p4∉c::m::ms:=hfar p4 hp4;have hz1:=hB1.size;have hz6:=hh16.size;refine ⟨⟨(hgr.block h (zpz ho6.host) fun hm=>?_).trans ho6.host,(hgr.block c (zpz ho6.cpu) fun hm=>h4c (by rw [← List.mem_singleton.1 hm];exact List.mem_cons_self ..)).trans ho6.cpu,ho6.ul,ObjsAt.later (zuc n p M') ho6.mem hgr.size fun b hb=>hgr.block b (ho6.mem.lt b hb) fun hm=>h4c (by rw [← List.mem_singleton.1 hm];exact List.mem_cons_of_mem _ hb),ho6.hc,ho6.hm,ho6.cm⟩,?_⟩
  ·rw [List.mem_singleton] at hm
   have:=zpz ho.host;omega
  ·exact ⟨hgr.os.trans (hh16.os.trans hB1.os),hgr.tape.trans (hh16.tape.trans hB1.tape),hgr.output.trans (hh16.output.trans hB1.output),Nat.le_trans hz1 (Nat.le_trans hz6 hgr.size),fun b hb hn=>(hgr.block b zO fun hm=>by rw [List.mem_singleton] at hm;omega).trans ((zp0 hh16 zO fun hm=>hn (.inr hm)).trans (hB1.block b hb))⟩
 refine z25 ?_;refine z3i ?_;(conv=>whnf);refine ⟨_,zd1 (off:=0+1) b2 rfl,?_⟩;(conv=>whnf);refine z23 rfl (fun hc=>?_) (fun hc=>?_)
 ·have hk3:si.kind=3:=of_decide_eq_true hc
  have hk5:kk=5:=by rw [← hkk,if_neg (hkind.1 hk3)]
  subst hk5
  ·refine z25 ?_
   refine z3n 4 0 p4 rfl ⟨[p4],[]⟩ [.cells siT [.v (.int .i64 0),.v (.int .i64 0),.v (.int .i64 0),.v (.int .u32 0),.v (.int .u32 0),.v (.int .i64 0)]] fun r w6 hR6=>?_;have hB6:=hR6.toBelow;have f26:=(hB6.block p4 (zpz f25)).trans f25;have g26:=(hB6.block p6 (zpz g25)).trans g25;have b26:=(hB6.block p8 (zpz b25)).trans b25;have ho6:=ho5.later hB6;have hh16:=zp7 (gs1:=[]) hh15 (zp4 hB6) nofun;refine ⟨_,z1p (zvy f26),rfl,?_⟩;refine z3m ?_;refine z2t (.q 0 (.q 1 (.q 2 (.q 3 (.alt 4 (.q 5 .done) .no))))) mixed zK zK ?_;(conv=>whnf);refine ⟨z5k si,zfq (zd0 b26) n84,rfl,?_⟩;(conv=>whnf);refine ⟨_,zd2 (off:=0+0) g26 n64 rfl,?_⟩;(conv=>whnf);refine ⟨?_,trivial⟩;(conv=>whnf);refine zcd ?_;refine z3m ?_;(conv=>whnf);refine zcl (zcg ?_);(conv=>whnf);refine ⟨fun r2 w9 u hR hd=>?_⟩;rw [AV.val_den (x:= .tuple #[z5m si,.bool true]) rfl hd];obtain ⟨q1,q2⟩:=hfin r2 w6 w9 _ ho6 hh16 hR;exact ⟨rfl,q1,q2⟩
 ·have hk3:¬si.kind=3:=of_decide_eq_false hc
  have h48:i.op=48:=Classical.byContradiction fun h=>hk3 (hkind.2 h);have hk4:kk=4:=(by rw [← hkk,if_pos h48]);have hi0:=hinf h48;subst hk4;subst hi0;refine z3j (zcd ?_)
  ·refine z25 ?_
   refine z3n 4 0 p4 rfl ⟨[p4],[]⟩ [.cells siT [.v (.int .i64 0),.v (.int .i64 0),.v (.int .i64 0),.v (.int .u32 0),.v (.int .u32 0),.v (.int .i64 0)]] fun r w6 hR6=>?_;have hB6:=hR6.toBelow;have f26:=(hB6.block p4 (zpz f25)).trans f25;have g26:=(hB6.block p6 (zpz g25)).trans g25;have b26:=(hB6.block p8 (zpz b25)).trans b25;have ho6:=ho5.later hB6;have hh16:=zp7 (gs1:=[]) hh15 (zp4 hB6) nofun;refine ⟨_,z1p (zvy f26),rfl,?_⟩;refine z3m ?_;refine z2t (.q 0 (.q 1 (.q 2 (.q 3 (.alt 4 (.q 5 .done) .no))))) mixed zK zK ?_;(conv=>whnf);refine ⟨z5k si,zfq (zd0 b26) n84,rfl,?_⟩;(conv=>whnf);refine ⟨[.int .i64 4,.int .u32 0],zfq (zd0 g26) n64,rfl,?_⟩;(conv=>whnf);refine zz7 4 0 rfl rfl rfl ?_;(conv=>whnf);refine ⟨?_,trivial⟩;(conv=>whnf);refine zcd ?_;refine z3m ?_;(conv=>whnf);refine zcg ?_;(conv=>whnf);refine ⟨fun r2 w9 u hR hd=>?_⟩;rw [AV.val_den (x:= .tuple #[z5m si,.bool true]) rfl hd];obtain ⟨q1,q2⟩:=hfin r2 w6 w9 _ ho6 hh16 hR;exact ⟨rfl,q1,q2⟩
end
theorem ztf (a:List Int):∀ (j v:Nat),(ztc a j).testBit v=true↔v<j∧0≤getV a (v:Int)
 |0,v=>by show (0:Nat).testBit v=true↔_;rw [Nat.zero_testBit];simp
 |j+1,v=>by
  have ih:=ztf a j v;show (if 0≤getV a (j:Int) then ztc a j|||2^j else ztc a j).testBit v=true↔_;by_cases hv:v=j
  ·subst hv
   by_cases h0:0≤getV a (v:Int)
   ·rw [if_pos h0,Nat.testBit_or,Nat.testBit_two_pow_self,Bool.or_true]
    exact ⟨fun _=>⟨by omega,h0⟩,fun _=>rfl⟩
   ·rw [if_neg h0,ih]
    exact ⟨fun h=>absurd h.1 zO,fun h=>absurd h.2 h0⟩
  ·have e:(if 0≤getV a (j:Int) then ztc a j|||2^j else ztc a j).testBit v=(ztc a j).testBit v:=by
    split
    ·rw [Nat.testBit_or,Nat.testBit_two_pow_of_ne zO,Bool.or_false]
    ·rfl
   rw [e,ih];exact ⟨fun h=>⟨by omega,h.2⟩,fun h=>⟨by omega,h.2⟩⟩
def ctxW (vs:List Int) (steps limit:Int) (i:Nat):Int:=if i=28 then steps else if i=29 then limit else if i<19 then getV vs (i:Int) else ((i:Int)*77777)%4294967296
def ctxL (vs:List Int) (steps limit:Int):List Int:=(List.range 64).map (ctxW vs steps limit)
theorem zhv (vs:List Int) (steps limit:Int):(ctxL vs steps limit).length=64:=by unfold ctxL;rw [List.length_map,List.length_range]
theorem zhu {vs:List Int} {steps limit:Int} {i:Nat} (h:i<64):(ctxL vs steps limit)[i]?=some (ctxW vs steps limit i):=by
 unfold ctxL;rw [List.getElem?_map,List.getElem?_range h];rfl
theorem zhx {vs:List Int} {steps limit:Int} (hv:VarsOk vs) (hs:word steps) (hl:word limit) (i:Nat):word (ctxW vs steps limit i):=by
 unfold ctxW
 split
 ·exact hs
 ·split
  ·exact hl
  ·split
   ·exact zop hv _
   ·exact yau _
theorem zhw {vs:List Int} {steps limit:Int} (hv:VarsOk vs) (hs:word steps) (hl:word limit):∀ x∈ctxL vs steps limit,word x:=fun x hx=>by
 obtain ⟨i,_,rfl⟩:=List.mem_map.1 hx;exact zhx hv hs hl i
theorem zqv {g M:MemP} {G P base:Nat} {vs code:List Int} {steps limit:Int} (hg:g.ok (256*G) G) (hG1:1≤G) (hGP:G<P) (hv:VarsOk vs) (hs:word steps) (hl:word limit) (h:HostIs g M G P base (ctxL vs steps limit) code):HostE G (256*P) P vs g M steps limit:=by
 have hc:=fun (i:Nat) (hi:i<64)=>h.ctx i _ (zhu hi) (zhx hv hs hl i);have hP:=h.ok.pmax;refine ⟨hv,h.ok,hg,hGP,fun v v0 v1=>?_,?_,?_,h.guest,fun y r y0 y1 hr=>?_,fun y y0 y1 r hr=>?_⟩
 ·have h1:=hc v.toNat zO
  rw [show ((v.toNat:Nat):Int)=v by omega] at h1;rw [h1];unfold ctxW;rw [if_neg zO,if_neg zO,if_pos zO,show ((v.toNat:Nat):Int)=v by omega]
 ·exact hc 28 zO
 ·exact hc 29 zO
 ·have hq:(y/256).toNat<G:=by omega
  have h1:=h.grr (y/256).toNat hq
  have hra:=z11 hg (y/256).toNat
  unfold MemP.right;rw [h1,h.ok.ld,hg.ld];have e1:decide (y<((256*P:Nat):Int))=true:=decide_eq_true zO;have e2:decide (y<((256*G:Nat):Int))=true:=decide_eq_true zO;rw [e1,e2,Bool.true_and,Bool.true_and];have e3:(g.rights[(y/256).toNat]?).getD 0=g.rightsAt (y/256).toNat:=rfl;rw [e3];generalize g.rightsAt (y/256).toNat=x at hra⊢;show ((x%4)/r%2==1)=(x/r%2==1);rcases hr with rfl|rfl
  ·rw [show x%4/1%2=x/1%2 by omega]
  ·rw [show x%4/2%2=x/2%2 by omega]
 ·unfold MemP.right
  rw [h.ok.ld,show (y/256).toNat=G by omega,h.crr];have e1:decide (y<((256*P:Nat):Int))=true:=decide_eq_true zO;rw [e1]
  rcases hr with rfl|rfl<;>rfl
theorem zql (junk:Int) (k:Nat):∀ j,0≤j→j<16→word (zqj junk k j):=fun j _ _=>by
 unfold zqj
 split
 ·exact yau _
 ·exact yap
theorem zqm (junk:Int) (k:Nat):zqj junk k 0=0:=by unfold zqj;rw [if_neg zO]
theorem zlt {i:QI} {R:Int→Int} {M:MemP} (h:zls i R M) (pc:Int):z65 i pc R M=none:=by
 obtain ⟨h1,h2,h3⟩:=h;unfold z65
 have hq:zzu i.op=0:=by
  rcases (by omega:i.op=23∨i.op=24∨i.op=25∨i.op=26) with h|h|h|h<;>rw [h]<;>rfl
 rw [if_neg zO,if_neg (by rw [hq];simp),if_neg zO];rcases (by omega:i.op=23∨i.op=24∨i.op=25∨i.op=26) with h|h|h|h
 ·rw [if_pos h]
  rw [if_pos zO,if_pos zO] at h3
  cases hb:M.bad ((R i.a+i.imm)%4294967296) 1 0 4 with
  |none=>exact absurd hb h3
  |some x=>rfl
 ·rw [if_neg zO,if_pos h]
  rw [if_pos zO,if_neg zO] at h3
  cases hb:M.bad ((R i.a+i.imm)%4294967296) 1 0 1 with
  |none=>exact absurd hb h3
  |some x=>rfl
 ·rw [if_neg zO,if_neg zO,if_pos h]
  rw [if_neg zO,if_pos zO] at h3
  cases hb:M.bad ((R i.a+i.imm)%4294967296) 2 0 4 with
  |none=>exact absurd hb h3
  |some x=>rfl
 ·rw [if_neg zO,if_neg zO,if_neg zO,if_pos h]
  rw [if_neg zO,if_neg zO] at h3
  cases hb:M.bad ((R i.a+i.imm)%4294967296) 2 0 1 with
  |none=>exact absurd hb h3
  |some x=>rfl
structure AgrR (b:Blk) (a:List Int) (G:Nat) (vs:List Int) (gm:MemP) (steps limit:Int) (sk:Sk) (R':Int→Int) (M':MemP):Prop where
 lim:limit<(steps+lenE b)%4294967296→sk.kind=1∧(∀ y,0≤y→y<256*(G:Int)→M'.get y=gm.get y)∧∀ i:Nat,i<64→M'.load (cxE G (i:Int)) 0 4=ctxW vs steps limit i
 guest:¬limit<(steps+lenE b)%4294967296→∀ y,0≤y→y<256*(G:Int)→M'.get y=(zku b vs gm).mem.get y
 count:¬limit<(steps+lenE b)%4294967296→M'.load (cxE G 28) 0 4=(steps+lenE b)%4294967296∧M'.load (cxE G 29) 0 4=limit
 vars:¬limit<(steps+lenE b)%4294967296→∀ v:Nat,v<19→(if sk.live.toNat.testBit v=true∧0≤getV a (v:Int)∧getV a (v:Int)<9 then R' (getV a (v:Int)+1) else M'.load (cxE G (v:Int)) 0 4)=getV (zku b vs gm).out.vars (v:Int)∧((zku b vs gm).out.leaves=false→M'.load (cxE G (v:Int)) 0 4=getV (zku b vs gm).out.vars (v:Int))
 rest:¬limit<(steps+lenE b)%4294967296→∀ i:Nat,38≤i→i<64→M'.load (cxE G (i:Int)) 0 4=ctxW vs steps limit i
 leaves:¬limit<(steps+lenE b)%4294967296→(zku b vs gm).out.leaves=true→(sk.kind=2∨sk.kind=3)∧sk.index=(zku b vs gm).out.index
 ends:¬limit<(steps+lenE b)%4294967296→(zku b vs gm).out.leaves=false→((sk.kind=4∨sk.kind=6)∧sk.target=(zku b vs gm).out.pc)∨(sk.kind=5∧M'.load (cxE G 19) 0 4=(zku b vs gm).out.pc)
theorem zpj {vs:List Int} (h:VarsOk vs) {v:Nat} (hv:v<19):getV (zpg vs) (v:Int)=getV vs (v:Int):=by
 unfold getV zpg;rw [Int.toNat_natCast,List.getElem?_append_left (by rw [List.length_take,h.len];omega),List.getElem?_take,if_pos hv]
theorem z7c {sk:Sk}:(zq1 sk).i.op=48∧(zq1 sk).i.imm=0:=⟨rfl,rfl⟩
theorem zqw {b:Blk} {a:List Int} {G P base:Nat} {vs:List Int} {gm:MemP} {steps limit junk:Int} (hb:b.ok) (hv:z9g b=true) (hA:AlOk a) (hG:1≤G) (hg:gm.ok (256*G) G) (hvs:VarsOk vs) (hs:word steps) (hl:word limit)
  (hGP:G<P) (hP:P≤4096) (hb0:base%4=0) (hb1:256*(G+1)≤base) (hb2:base+4*(yag b a (256*(G:Int)) (256*(G:Int)) 0).length≤256*P) {M0:MemP} (hM0:M0=zqd gm G P base (ctxL vs steps limit) (z8n (yag b a (256*(G:Int)) (256*(G:Int)) 0))):
  ∃ (k:Nat) (R':Int→Int) (pc':Int) (M':MemP) (j:Nat) (it:It) (sk:Sk),k<100000∧zrq (z0z M0.fet) k (zqj junk 16) (base:Int) M0=some (R',pc',M')∧z0z M0.fet pc'=some it.i∧((it.i.op=48∧it.i.imm=0)∨(z65 it.i pc' R' M'=none∧23≤it.i.op∧it.i.op≤26))∧
   (yag b a (256*(G:Int)) (256*(G:Int)) 0)[j]?=some it∧it.s=some sk∧pc'=(base:Int)+4*(j:Int)∧((sk.kind=3→it.i.op≠48)∧(it.i.op≠48→sk.kind=3))∧M'.ok (256*P) P∧AgrR b a G vs gm steps limit sk R' M':=by
 have hwk:=yai (a:=a) (ctx:=256*(G:Int)) (size:=256*(G:Int)) (pred:=0) hb hv (by unfold word;omega) zO yap;have hwl:=yah (a:=a) (ctx:=256*(G:Int)) (size:=256*(G:Int)) (pred:=0) hv;have hln:=(z9q hv).2;have hwp:∀ x∈z8n (yag b a (256*(G:Int)) (256*(G:Int)) 0),0≤x∧x<256:=yaz _;have htl:=z8o (yag b a (256*(G:Int)) (256*(G:Int)) 0)
 have his:HostIs gm M0 G P base (ctxL vs steps limit) (z8n (yag b a (256*(G:Int)) (256*(G:Int)) 0)):=by
  rw [hM0];exact zqy hg hGP hP (zhv _ _ _) hwp hb1 (by rw [htl];exact hb2)
 have hE:=zqv hg hG hGP hvs hs hl his;have hc:=zqx his hwk hb0 hb1 hb2 zO;have hctx:=fun (i:Nat) (hi:i<64)=>his.ctx i _ (zhu (vs:=vs) (steps:=steps) (limit:=limit) hi) (zhx hvs hs hl i);have hM0k:=his.ok;clear hM0 his;generalize hLe:yag b a (256*(G:Int)) (256*(G:Int)) 0=l at*;have hp0:pcE (base:Int) 0=(base:Int):=(by unfold pcE;omega);have hrun:=yan (F:=z0z M0.fet) (B:=(base:Int)) (R:=zqj junk 16) hb hv hA (pred:=0) yap hG hE zO (zql junk 16) (zqm junk 16) (by rw [hLe];exact hc);rw [hLe] at hrun;obtain ⟨q1,q2⟩:=hrun
 have hat:∀ (j:Nat) (it:It),l[j]?=some it→z0z M0.fet (pcE (base:Int) j)=some it.i:=fun j it hj=>by
  have:=hc.2 j it hj;rw [Nat.zero_add] at this;exact this
 by_cases hlim:limit<(steps+lenE b)%4294967296
 ·obtain ⟨h6,R',k,hk,hit⟩:=q1 hlim
  rw [hp0] at hit;refine ⟨k,R',pcE (base:Int) 6,M0,6,_,⟨1,0,0,0,0⟩,by omega,hit,hat 6 _ h6,.inl z7c,h6,rfl,rfl,⟨fun h=>absurd h (by decide),fun h=>absurd z7c.1 h⟩,hM0k,?_⟩;exact ⟨fun _=>⟨rfl,hE.guest,hctx⟩,fun h=>absurd hlim h,fun h=>absurd hlim h,fun h=>absurd hlim h,fun h=>absurd hlim h,fun h=>absurd hlim h,fun h=>absurd hlim h⟩
 ·obtain ⟨vs',hov,hvk,hcode⟩:=q2 hlim
  generalize hS:(steps+lenE b)%4294967296=S at*;have hSw:word S:=(by rw [← hS];exact yau _);have hnn:=hM0k.pmax;have hcx28:0≤cxE G 28∧cxE G 28+4≤(256*P:Nat):=(by unfold cxE;omega);have hst:=fun y hy=>z7o hcx28.1 zO 0 4 S hM0k hSw.1 zO y hy
  have htop:∀ {M':MemP},(∀ y,256*(G:Int)+112≤y→M'.get y=(MemP.store (cxE G 28) 0 4 S M0).get y)→M'.load (cxE G 28) 0 4=S∧∀ i:Nat,29≤i→i<64→M'.load (cxE G (i:Int)) 0 4=ctxW vs steps limit i:=fun {M'} hkeep=>by
   refine ⟨?_,fun i h1 h2=>?_⟩
   ·rw [ztj (N:=MemP.store (cxE G 28) 0 4 S M0) hcx28.1 0 4 (by unfold cxE;omega) fun y h3 h4=>hkeep y (by unfold cxE at h3;omega)]
    exact ztm hM0k zO hcx28.1 hcx28.2 hSw
   ·rw [← hctx i h2]
    refine ztj (by unfold cxE;omega) 0 4 (by unfold cxE;omega) fun y h3 h4=>?_;rw [hkeep y (by unfold cxE at h3;omega),hst y (by unfold cxE at h3;omega),if_neg (by unfold cxE at*;omega)]
  have hw29:ctxW vs steps limit 29=limit:=rfl;by_cases hleave:(zku b vs gm).out.leaves=true
  ·rw [if_pos hleave] at hcode
   obtain ⟨κ,j,it,R',M',hj,⟨k,hk,hit⟩,hrel,hs2,hcase⟩:=hcode;rw [hp0,Nat.zero_add] at hit;obtain ⟨t1,t2⟩:=htop hrel.keep;have hkap:κ=2∨κ=3:=hcase.imp (fun h=>h.1) fun h=>h.1;have hpcj:pcE (base:Int) j=(base:Int)+4*(j:Int):=rfl
   have hstop:(it.i.op=48∧it.i.imm=0)∨(z65 it.i (pcE (base:Int) j) R' M'=none∧23≤it.i.op∧it.i.op≤26):=by
    rcases hcase with ⟨_,rfl⟩|⟨_,hf⟩
    ·exact .inl z7c
    ·exact .inr ⟨zlt hf _,hf.1,hf.2.1⟩
   have hkind:(κ=3→it.i.op≠48)∧(it.i.op≠48→κ=3):=by
    rcases hcase with ⟨h2,rfl⟩|⟨h3,hf⟩
    ·exact ⟨fun h=>by omega,fun h=>absurd z7c.1 h⟩
    ·exact ⟨fun _=>by have:=hf.2.1;omega,fun _=>h3⟩
   refine ⟨k,R',_,M',j,it,skIn (emE b a (256*(G:Int)) 0) κ (zku b vs gm).out.index,by omega,hit,hat j it hj,hstop,hj,hs2,hpcj,hkind,hrel.mem,?_⟩;rw [← hS] at t1;refine ⟨fun h=>absurd (show limit<S by rw [← hS];exact h) hlim,fun _ y y0 y1=>hrel.guest y y0 y1,fun _=>⟨t1,(t2 29 zO zO).trans hw29⟩,fun _ v hv19=>⟨?_,fun h=>by rw [hleave] at h;cases h⟩,fun _ i h1 h2=>t2 i zO h2,fun _ _=>⟨hkap,rfl⟩,fun _ h=>by rw [hleave] at h;cases h⟩;rw [hov,zpj hvk hv19]
   have hkn:zsw 0 (v:Int):=⟨by omega,by omega,by omega,.inl zO⟩
   rw [show (skIn (emE b a (256*(G:Int)) 0) κ (zku b vs gm).out.index).live.toNat=ztc a 19 from Int.toNat_natCast _];by_cases hbit:0≤getV a (v:Int)
   ·have h9:=(hA.lo (v:Int) zO zO).2
    rw [if_pos ⟨(ztf a 19 v).2 ⟨hv19,hbit⟩,hbit,h9⟩];exact hrel.inR (v:Int) hkn hbit
   ·rw [if_neg fun h=>hbit h.2.1]
    exact hrel.inM (v:Int) hkn (by show getV a (v:Int)<0;omega)
  ·rw [if_neg hleave] at hcode
   obtain ⟨j,it,R',M',hj,⟨k,hk,hit⟩,hrel,hwords,hcase⟩:=hcode;rw [hp0,Nat.zero_add] at hit;obtain ⟨t1,t2⟩:=htop hrel.keep;have hpcj:pcE (base:Int) j=(base:Int)+4*(j:Int):=rfl
   obtain ⟨sk,rfl,hl0,hk3,hend⟩:∃ sk,it=zq1 sk∧sk.live=0∧sk.kind≠3∧(((sk.kind=4∨sk.kind=6)∧sk.target=(zku b vs gm).out.pc)∨(sk.kind=5∧M'.load (cxE G 19) 0 4=(zku b vs gm).out.pc)):=by
    rcases hcase with rfl|⟨rfl,hpc⟩|⟨rfl,_,h19⟩
    ·exact ⟨_,rfl,rfl,(by decide:(4:Int)≠3),.inl ⟨.inl rfl,rfl⟩⟩
    ·exact ⟨_,rfl,rfl,(by decide:(6:Int)≠3),.inl ⟨.inr rfl,hpc.symm⟩⟩
    ·exact ⟨_,rfl,rfl,(by decide:(5:Int)≠3),.inr ⟨rfl,h19⟩⟩
   refine ⟨k,R',_,M',j,zq1 sk,sk,by omega,hit,hat j _ hj,.inl z7c,hj,rfl,hpcj,⟨fun h=>absurd h hk3,fun h=>absurd z7c.1 h⟩,hrel.mem,?_⟩;rw [← hS] at t1;refine ⟨fun h=>absurd (show limit<S by rw [← hS];exact h) hlim,fun _ y y0 y1=>hrel.guest y y0 y1,fun _=>⟨t1,(t2 29 zO zO).trans hw29⟩,fun _ v hv19=>?_,fun _ i h1 h2=>t2 i zO h2,fun _ h=>absurd h hleave,fun _ _=>hend⟩;have hwv:=hwords (v:Int) zO zO;rw [hov,zpj hvk hv19,hl0];refine ⟨?_,fun _=>hwv⟩;rw [if_neg fun h=>by have h1:=h.1;rw [show (0:Int).toNat=0 from rfl,Nat.zero_testBit] at h1;exact Bool.noConfusion h1];exact hwv
section
abbrev cxT:TypeId:=64
abbrev vaT:TypeId:=42
def ctxF (f:Nat→Int):List Int:=(List.range 64).map f
theorem zhr (f:Nat→Int):(ctxF f).length=64:=by unfold ctxF;rw [List.length_map,List.length_range]
theorem zhq (f:Nat→Int) {i:Nat} (h:i<64):(ctxF f)[i]?=some (f i):=by unfold ctxF;rw [List.getElem?_map,List.getElem?_range h];rfl
theorem zhs (f g:Nat→Int) {k:Nat} (hk:k<64) (x:Int) (hg:∀ i,i<64→g i=if i=k then x else f i):(ctxF f).set k x=ctxF g:=by
 refine List.ext_getElem? fun i=>?_;rw [List.getElem?_set,zhr];by_cases h:i<64
 ·rw [zhq g h,hg i h,zhq f h]
  by_cases hik:k=i
  ·subst hik;rw [if_pos rfl,if_pos h,if_pos rfl]
  ·rw [if_neg hik,if_neg (fun e=>hik e.symm)]
 ·rw [if_neg zO,List.getElem?_eq_none (by rw [zhr];omega),List.getElem?_eq_none (by rw [zhr];omega)]
def cxA (j:Nat) (i:Nat):Int:=if i<j then ((i:Int)*77777)%4294967296 else 0
def cxB (vs:List Int) (j:Nat) (i:Nat):Int:=if i<j then getV vs (i:Int) else ((i:Int)*77777)%4294967296
def cxC (vs:List Int) (steps:Int) (i:Nat):Int:=if i=28 then steps else cxB vs 19 i
theorem zh4 (f:Nat→Int):(List.map CV.v (u32L (ctxF f))).length=64:=by rw [List.length_map,List.length_map,zhr]
theorem zh5 (f g:Nat→Int) {k:Nat} (hk:k<64) (x:Int) (hg:∀ i,i<64→g i=if i=k then x else f i):z3z (List.map CV.v (u32L (ctxF f))) (0+((k:Nat):Int).toNat*tsz Tryz.prog 41) [CV.v (Value.int .u32 x)]=List.map CV.v (u32L (ctxF g)):=by
 rw [z4h, ← zhs f g hk x hg];rw [show tsz Tryz.prog 41=1 from rfl,Nat.zero_add,Nat.mul_one,Int.toNat_natCast];unfold u32L;simp only [List.map_set]
theorem zht (vs:List Int) (steps limit:Int):ctxF (fun i=>if i=29 then limit else cxC vs steps i)=ctxL vs steps limit:=by
 unfold ctxF ctxL;refine List.map_congr_left fun i _=>?_;unfold ctxW cxC cxB;by_cases h1:i=29
 ·rw [if_pos h1,if_neg zO,if_pos h1]
 ·rw [if_neg h1]
  by_cases h2:i=28
  ·rw [if_pos h2,if_pos h2]
  ·rw [if_neg h2,if_neg h2,if_neg h1]
theorem zh6:List.map CV.v (u32L (List.replicate 64 0))=List.map CV.v (u32L (ctxF (cxA 0))):=rfl
attribute [local irreducible] ctxF
theorem zg6 (vs:List Int) (steps limit:Int) (hvs:VarsOk vs) (w:World):Calls Tryz.prog 29 #[z97 vs,.int .u32 steps,.int .u32 limit] w fun e w'=>e= .returned (.agg (u32L (ctxL vs steps limit)).toArray)∧Below w.heap.size w w':=by
 obtain ⟨C,hC⟩:∃ C,C=ctxL vs steps limit:=⟨_,rfl⟩
 refine zfh [z97 vs,.int .u32 steps,.int .u32 limit] Tryz.func29 Tryz.ntmps29 rfl zS ?_;refine z3i ?_;(conv=>whnf);refine z3i ?_;(conv=>whnf);refine z3c (α:=Unit) (fun _=>[(1,one (.int .u32 steps)),(2,one (.int .u32 limit)),(3,.p (.c (.ref 0 0))),(6,.p (.c (.ref 1 0))),(7,.p (.c (.ref 2 0)))]) (fun _=>[.cells vaT (z95 vs),.cells cxT ((u32L (List.replicate 64 0)).map .v),.cells cxT ((u32L (ctxF (cxA 64))).map .v)]) ?_ fun _=>?_
 ·refine z3i ?_
  (conv=>whnf);refine z21 ?_;refine z29 (α:={j:Nat//j≤64}) (fun x=>[(1,one (.int .u32 steps)),(2,one (.int .u32 limit)),(3,.p (.c (.ref 0 0))),(6,.p (.c (.ref 1 0))),(7,.p (.c (.ref 2 0))),(8,one (.int .i64 (x.1:Int)))]) (fun x=>[.cells vaT (z95 vs),.cells cxT ((u32L (List.replicate 64 0)).map .v),.cells cxT ((u32L (ctxF (cxA x.1))).map .v)]) (fun x=>64-x.1) ⟨0,by omega⟩ (zkb rfl Tn (aI sM (aI sM (aI ((aI rfl (Or.inl zh6))) trivial)))) (fun x=>?_);obtain ⟨j,hj⟩:=x;dsimp only;refine z3i ?_;(conv=>whnf);refine ⟨fun hc=>?_,fun hc=>?_⟩
  ·have hlt:j<64:=by simp at hc;omega
   (conv=>whnf);refine z25 (z21 ?_);refine z3m ?_;(conv=>whnf);refine ⟨(j:Int),by rw [wr32];omega,?_⟩;(conv=>whnf);refine ⟨((j:Int)*77777)%4294967296,wr32 _,?_⟩;(conv=>whnf)
   (refine ⟨⟨by omega,by omega⟩,?_⟩;(conv=>whnf))
   rw [show Nat.ble (0+((j:Nat):Int).toNat*tsz Tryz.prog 41+[CV.v (Value.int .u32 (((j:Int)*77777)%4294967296))].length) (List.map CV.v (u32L (ctxF (cxA j)))).length=true from Nat.ble_eq_true_of_le (by rw [zh4];show 0+j*1+1≤64;omega)];(conv=>whnf);rw [show Nat.ble (List.map CV.v (u32L (ctxF (cxA j)))).length 8=false from zdy (by rw [zh4];decide)];(conv=>whnf);refine zcm ?_;refine z3m ?_;(conv=>whnf);refine ⟨((j+1:Nat):Int),by rw [show (j:Int)+1=((j+1:Nat):Int) by omega];exact wr64 zO,?_⟩;(conv=>whnf);exact zcb ⟨j+1,by omega⟩ (zkb rfl Tn (aI sM (aI sM (aI ((aI rfl (Or.inl (zh5 (cxA j) (cxA (j+1)) hlt _ fun i hi=>by unfold cxA;by_cases h:i=j;(rw [if_pos h,if_pos zO,h]);(rw [if_neg h];by_cases h2:i<j;(rw [if_pos h2,if_pos zO]);(rw [if_neg h2,if_neg zO])))))) trivial)))) (by show 64-(j+1)<64-j;omega)
  ·conv=>whnf
   have:j=64:=(by simp at hc;omega);subst this;refine zce (zb6 (zb8 () (zkb rfl Tn Tn)))
 refine z3c (α:=Unit) (fun _=>[(1,one (.int .u32 steps)),(2,one (.int .u32 limit)),(3,.p (.c (.ref 0 0))),(6,.p (.c (.ref 1 0))),(7,.p (.c (.ref 2 0)))]) (fun _=>[.cells vaT (z95 vs),.cells cxT ((u32L (List.replicate 64 0)).map .v),.cells cxT ((u32L (ctxF (cxB vs 19))).map .v)]) ?_ fun _=>?_
 ·refine z3i ?_
  conv=>whnf
  refine z21 ?_
  have h0:ctxF (cxA 64)=ctxF (cxB vs 0):=by
   unfold ctxF;refine List.map_congr_left fun i hi=>?_;unfold cxA cxB;rw [if_pos (List.mem_range.1 hi),if_neg zO]
  rw [h0];refine z29 (α:={j:Nat//j≤19}) (fun x=>[(1,one (.int .u32 steps)),(2,one (.int .u32 limit)),(3,.p (.c (.ref 0 0))),(6,.p (.c (.ref 1 0))),(7,.p (.c (.ref 2 0))),(9,one (.int .i64 (x.1:Int)))]) (fun x=>[.cells vaT (z95 vs),.cells cxT ((u32L (List.replicate 64 0)).map .v),.cells cxT ((u32L (ctxF (cxB vs x.1))).map .v)]) (fun x=>19-x.1) ⟨0,by omega⟩ (zkb rfl Tn Tn) (fun x=>?_);obtain ⟨j,hj⟩:=x;dsimp only;refine z3i ?_;(conv=>whnf);refine ⟨fun hc=>?_,fun hc=>?_⟩
  ·have hlt:j<19:=by simp at hc;omega
   (conv=>whnf);refine z25 (z21 ?_);refine z3m ?_;(conv=>whnf)
   (refine ⟨⟨by omega,by omega⟩,?_⟩;(conv=>whnf))
   rw [show (z95 vs)[0+((j:Nat):Int).toNat*tsz Tryz.prog 41]?=some (.v (.int .u32 (getV vs (j:Int)))) from z90 hvs (i:=(j:Int)) ⟨by omega,by omega⟩];(conv=>whnf)
   (refine ⟨⟨by omega,by omega⟩,?_⟩;(conv=>whnf))
   rw [show Nat.ble (0+((j:Nat):Int).toNat*tsz Tryz.prog 41+[CV.v (Value.int .u32 (getV vs (j:Int)))].length) (List.map CV.v (u32L (ctxF (cxB vs j)))).length=true from Nat.ble_eq_true_of_le (by rw [zh4];show 0+j*1+1≤64;omega)];(conv=>whnf);rw [show Nat.ble (List.map CV.v (u32L (ctxF (cxB vs j)))).length 8=false from zdy (by rw [zh4];decide)];(conv=>whnf);refine zcm ?_;refine z3m ?_;(conv=>whnf);refine ⟨((j+1:Nat):Int),by rw [show (j:Int)+1=((j+1:Nat):Int) by omega];exact wr64 zO,?_⟩;(conv=>whnf);exact zcb ⟨j+1,by omega⟩ (zkb rfl Tn (aI sM (aI sM (aI ((aI rfl (Or.inl (zh5 (cxB vs j) (cxB vs (j+1)) zO _ fun i hi=>by unfold cxB;by_cases h:i=j;(rw [if_pos h,if_pos zO,h]);(rw [if_neg h];by_cases h2:i<j;(rw [if_pos h2,if_pos zO]);(rw [if_neg h2,if_neg zO])))))) trivial)))) (by show 19-(j+1)<19-j;omega)
  ·conv=>whnf
   have:j=19:=(by simp at hc;omega);subst this;refine zce (zb6 (zb8 () (zkb rfl Tn Tn)))
 refine z3i ?_
 conv=>whnf
 (refine ⟨⟨by omega,by omega⟩,?_⟩;(conv=>whnf))
 rw [show Nat.ble (0+(28:Int).toNat*tsz Tryz.prog 41+[CV.v (Value.int .u32 steps)].length) (List.map CV.v (u32L (ctxF (cxB vs 19)))).length=true from Nat.ble_eq_true_of_le (by rw [zh4];show 0+28*1+1≤64;omega)]
 conv=>whnf
 rw [show Nat.ble (List.map CV.v (u32L (ctxF (cxB vs 19)))).length 8=false from zdy (by rw [zh4];decide)]
 conv=>whnf
 rw [show z3z (List.map CV.v (u32L (ctxF (cxB vs 19)))) (0+(28:Int).toNat*tsz Tryz.prog 41) [CV.v (Value.int .u32 steps)]=List.map CV.v (u32L (ctxF (cxC vs steps))) from zh5 (cxB vs 19) (cxC vs steps) (k:=28) (by decide) steps fun i _=>rfl]
 refine z3i ?_
 conv=>whnf
 (refine ⟨⟨by omega,by omega⟩,?_⟩;(conv=>whnf))
 rw [show Nat.ble (0+(29:Int).toNat*tsz Tryz.prog 41+[CV.v (Value.int .u32 limit)].length) (List.map CV.v (u32L (ctxF (cxC vs steps)))).length=true from Nat.ble_eq_true_of_le (by rw [zh4];show 0+29*1+1≤64;omega)];(conv=>whnf);rw [show Nat.ble (List.map CV.v (u32L (ctxF (cxC vs steps)))).length 8=false from zdy (by rw [zh4];decide)];(conv=>whnf);rw [show z3z (List.map CV.v (u32L (ctxF (cxC vs steps)))) (0+(29:Int).toNat*tsz Tryz.prog 41) [CV.v (Value.int .u32 limit)]=List.map CV.v (u32L C) from (zh5 (cxC vs steps) (fun i=>if i=29 then limit else cxC vs steps i) (k:=29) (by decide) limit fun i _=>rfl).trans (by rw [zht,hC])];have hlen:(List.map CV.v (u32L C)).length=64:=(by rw [List.length_map,List.length_map,hC,zhv]);have hz:(List.map CV.v (u32L (List.replicate 64 0))).length=64:=rfl;refine z3i ?_;(conv=>whnf);rw [show cut (List.map CV.v (u32L C)) 0 (Tryz.prog.types[64].size)=some (List.map CV.v (u32L C)) from zh1 hlen];(conv=>whnf);rw [show Nat.beq (List.map CV.v (u32L C)).length (Tryz.prog.types[64].size)=true from by rw [hlen];rfl,zwl];(conv=>whnf);rw [show Nat.ble (0+(List.map CV.v (u32L C)).length) (List.map CV.v (u32L (List.replicate 64 0))).length=true from Nat.ble_eq_true_of_le (by rw [hlen,hz];omega)];(conv=>whnf);rw [z32 (show (List.map CV.v (u32L (List.replicate 64 0))).length=(List.map CV.v (u32L C)).length by rw [hlen,hz])];refine z3m ?_;(conv=>whnf);refine zcg ?_;(conv=>whnf);rw [show cut (List.map CV.v (u32L C)) 0 (Tryz.prog.types[64].size)=some (List.map CV.v (u32L C)) from zh1 hlen];(conv=>whnf)
 exact zmp (z9e _) fun w2 hB=>⟨by rw [hC],hB⟩
end
end Go.Proofs.YtocafomnnkmjfaaGreat
