import Derived.Shelf.Slices.Clone
import Derived.Test.YtocafomnnkmjfaaGreatK22
set_option maxRecDepth 100000
set_option maxHeartbeats 2000000
namespace Go.Proofs.YtocafomnnkmjfaaGreat
open Go.RowKit
theorem zhk (g g1 g2 g3 g4 g5 g6:Nat) (us:List Value) (n p:Nat) (M:MemP):zoz ⟨[g,g1,g2,g3,g4,g5,g6],[]⟩ (cpuU 0 us n p M)=true:=by
 show sbnd 7 (cpuU 0 us n p M)=true
 have h:bndL 7 (us.map .v++[.ref 1 0])=true:=by
  induction us with
  |nil=>rfl
  |cons u us ih=>simpa only [List.map_cons,List.cons_append,bndL,CV.bnd] using ih
 simp only [sbnd,Ow.bnd,zd6,bndL,CV.bnd,h]
 rfl
theorem z4f (s:St) (h0:0≤s.steps) (hd:s.due=0) (us:List Value) (hus:us.length=24) (M:MemP) (n p:Nat) (w:World) (g:Nat) (gs:List Nat) (hU:ObjsAt w (g::gs) (cpuU 0 us n p M)):
  Calls Tryz.prog 82 #[.pointer (some ⟨g,0,none⟩),stV s] w fun e w'=>e= .returned (.tuple #[])∧ObjsAt w' (g::gs) (cpuU 0 (stL {s with R:=regU s.R 0 0,f:=0} []) n p M)∧GrownBys w w' (g::gs):=by
 obtain ⟨g0,g1,g2,g3,g4,g5,g6,hg⟩:=z4k hU;injection hg with hg0 hgs;subst hgs;subst hg0
 obtain ⟨L,hL⟩:∃ L,L=stL s []:=⟨_,rfl⟩
 have hLS:StC L:=(by rw [hL];exact z6w s);rw [show stV s= .agg L.toArray by rw [hL]];refine zff [.p (.c (.ref 0 0)),.p (.agg (L.map .v))] [.pointer (some ⟨g,0,none⟩),.agg L.toArray] Tryz.func82 Tryz.ntmps82 rfl zS hU ⟨_,_,rfl,zi1 rfl,_,_,rfl,AV.of_den _ (.agg L.toArray),rfl⟩ ?_;have hLl:(L.map CV.v).length=24:=hLS.clen;have hX0:L.map CV.v=stC s []:=(by rw [hL]);refine z3i ?_;(conv=>whnf);refine z3c (α:={X:List CV//X=stC {s with R:=regU s.R 0 0} []}) (fun _=>[(0,.p (.c (.ref 0 0))),(3,.p (.c (.ref 7 0)))]) (fun x=>cpuU 0 us n p M++([.cells stT x.1]:List Ow)) ?_ fun x=>?_
 ·refine z3m ?_
  conv=>whnf
  (refine ⟨⟨by omega,by omega⟩,?_⟩;(conv=>whnf))
  erw [zs4 _ hLl (m:=0+1+(0:Int).toNat*1+1) zO];(conv=>whnf);erw [zs3 _ hLl zO];(conv=>whnf);exact zb8 ⟨_,rfl⟩ (zkb rfl Tn (aI sM (aI sM (aI sM (aI sM (aI sM (aI sM (aI sM (aI ((aI rfl (Or.inl (z6x (j:=0) 0 hX0 zO zO)))) trivial)))))))))
 obtain ⟨X,hX⟩:=x;dsimp only;have hXl:X.length=24:=(by rw [hX];rfl);refine z3c (α:={X:List CV//X=stC {s with R:=regU s.R 0 0,f:=0} []}) (fun _=>[(0,.p (.c (.ref 0 0))),(3,.p (.c (.ref 7 0)))]) (fun x=>cpuU 0 us n p M++([.cells stT x.1]:List Ow)) ?_ fun x=>?_
 ·refine z3m ?_
  (conv=>whnf);erw [zs4 _ hXl (m:=0+17+1) zO];(conv=>whnf);erw [zs3 _ hXl zO];(conv=>whnf);exact zb8 ⟨_,rfl⟩ (zkb rfl Tn (aI sM (aI sM (aI sM (aI sM (aI sM (aI sM (aI sM (aI ((aI rfl (Or.inl (by rw [hX];rfl)))) trivial)))))))))
 clear hX hXl X
 obtain ⟨X,hX⟩:=x
 dsimp only
 have hXl:X.length=24:=by rw [hX];rfl
 have h22:X[0+22]?=some (.v (intV s.steps)):=by rw [hX];rfl
 have h23:X[0+23]?=some (.v (intV s.due)):=by rw [hX];rfl
 refine z3c (α:=Unit) (fun _=>[(0,.p (.c (.ref 0 0))),(3,.p (.c (.ref 7 0)))]) (fun _=>cpuU 0 us n p M++([.cells stT X]:List Ow)) ?_ fun _=>?_
 ·refine z3m ?_
  (conv=>whnf);erw [h22];(conv=>whnf);refine zww rfl rfl rfl rfl ?_;rw [if_neg zO];(conv=>whnf);erw [zs4 _ hXl (m:=0+22+1) zO];(conv=>whnf);erw [zs3 _ hXl zO];(conv=>whnf);exact zb8 () (zkb rfl Tn (aI sM (aI sM (aI sM (aI sM (aI sM (aI sM (aI sM (aI ((aI rfl (Or.inl (by rw [hX];rfl)))) trivial)))))))))
 refine z3c (α:=Unit) (fun _=>[(0,.p (.c (.ref 0 0))),(3,.p (.c (.ref 7 0)))]) (fun _=>cpuU 0 us n p M++([.cells stT X]:List Ow)) ?_ fun _=>?_
 ·refine z3m ?_
  (conv=>whnf);erw [h23];(conv=>whnf);refine zww rfl rfl rfl rfl ?_;rw [if_neg zO];(conv=>whnf);erw [zs4 _ hXl (m:=0+23+1) zO];(conv=>whnf);erw [zs3 _ hXl zO];(conv=>whnf);exact zb8 () (zkb rfl Tn (aI sM (aI sM (aI sM (aI sM (aI sM (aI sM (aI sM (aI ((aI rfl (Or.inl (by rw [hX];rfl)))) trivial)))))))))
 obtain ⟨sf,hsf⟩:∃ sf:St,sf={s with R:=regU s.R 0 0,f:=0}:=⟨_,rfl⟩
 obtain ⟨Lf,hLf⟩:∃ Lf,Lf=stL sf []:=⟨_,rfl⟩
 have hLfS:StC Lf:=by rw [hLf];exact z6w sf
 have hXf:X=Lf.map .v:=by rw [hX,hLf,hsf]
 have hCl:(us.map CV.v++[CV.ref 1 0]).length=25:=by rw [List.length_append,List.length_map,hus];rfl
 clear hX hXl h22 h23
 subst hXf
 rw [← hsf, ← hLf]
 refine z3m ?_
 conv=>whnf
 erw [zh1 hLfS.clen]
 conv=>whnf
 erw [zdl hLfS.clen]
 conv=>whnf
 erw [hLfS.one]
 conv=>whnf
 erw [zs4 _ hCl (m:=0+(Lf.map CV.v).length) (by rw [hLfS.clen];omega)]
 conv=>whnf
 erw [zs3 _ hCl zO]
 conv=>whnf
 refine zb3 (f':=[]) (S':=cpuU 0 Lf n p M) (zj2 trivial (aI ((aI rfl (Or.inl (zho (by rw [hus]) hLfS.len _)))) Tn) rfl (zhk g g1 g2 g3 g4 g5 g6 Lf n p M)) (zb5 ?_)
 conv=>whnf
 exact zmn rfl rfl (fun i o h=>h) (zhi Lf n p M) fun w' h1 h2=>⟨rfl,h1,h2⟩
theorem zs9 {α:Type} {l:List α} (h:l.length=28):∃ x0 x1 x2 x3 x4 x5 x6 x7 x8 x9 x10 x11 x12 x13 x14 x15 x16 x17 x18 x19 x20 x21 x22 x23 x24 x25 x26 x27,l=[x0,x1,x2,x3,x4,x5,x6,x7,x8,x9,x10,x11,x12,x13,x14,x15,x16,x17,x18,x19,x20,x21,x22,x23,x24,x25,x26,x27]:=by
 match l,h with
 |[x0,x1,x2,x3,x4,x5,x6,x7,x8,x9,x10,x11,x12,x13,x14,x15,x16,x17,x18,x19,x20,x21,x22,x23,x24,x25,x26,x27],_=>exact ⟨x0,x1,x2,x3,x4,x5,x6,x7,x8,x9,x10,x11,x12,x13,x14,x15,x16,x17,x18,x19,x20,x21,x22,x23,x24,x25,x26,x27,rfl⟩
section
variable {w:World} {g:Nat} {vC vS:Value} {X:EmX}
theorem zjo (h:EmAt w g vC vS X) (is:List QI) (q n c:Nat) (hq:zac w (emGs g vC vS) q 0 (is.flatMap iqL)) (hn:is.length=n) (hlen:X.code.length+n≤1000000000):
  Calls Tryz.prog 115 #[.pointer (some ⟨g,0,none⟩),.slice (some ⟨q,0,none⟩) n c] w fun e w'=>e= .returned (.tuple #[])∧EmTo w w' g vC vS {X with code:=X.code++is}:=by
 have hal:=h.al;have hrel:=z1m h;obtain ⟨A,size,code,sites,live,index,written⟩:=X;dsimp only at hal hrel hlen⊢;obtain ⟨x0,x1,x2,x3,x4,x5,x6,x7,x8,x9,x10,x11,x12,x13,x14,x15,x16,x17,x18,x19,x20,x21,x22,x23,x24,x25,x26,x27,rfl⟩:=zs9 hal;refine zfi [.p (.c (.ref 0 0)),one (.slice (some ⟨q,0,none⟩) n c)] [.pointer (some ⟨g,0,none⟩),.slice (some ⟨q,0,none⟩) n c] Tryz.func115 Tryz.ntmps115 rfl zS hrel ⟨_,_,rfl,zi1 rfl,zc6 [.slice (some ⟨q,0,none⟩) n c]⟩ ?_;refine z3m ?_;(conv=>whnf);refine zbi rfl ?_ rfl;(conv=>whnf);refine ⟨is.flatMap iqL,fun j u hj=>⟨q,0,rfl,hq.1,hq.2.1,hq.2.2 j u hj⟩,?_,?_,?_⟩
 ·show _=n*5
  rw [← hn];clear hq hn hlen
  induction is with
  |nil=>rfl
  |cons o is ih=>simp only [List.flatMap_cons,List.length_append,ih,List.length_cons,List.length_nil];omega
 ·intro u hu
  obtain ⟨o,_,ho⟩:=List.mem_flatMap.1 hu;simp only [iqL,List.mem_cons,List.not_mem_nil,or_false] at ho
  rcases ho with rfl|rfl|rfl|rfl|rfl<;>rfl
 ·conv=>whnf
  refine ⟨by omega,?_⟩;(conv=>whnf);refine zb5 ?_;(conv=>whnf)
  refine zmk (X':=⟨[x0,x1,x2,x3,x4,x5,x6,x7,x8,x9,x10,x11,x12,x13,x14,x15,x16,x17,x18,x19,x20,x21,x22,x23,x24,x25,x26,x27],size,code++is,sites,live,index,written⟩) 1 2 rfl rfl rfl ?_ rfl (by decide) fun w' h'=>⟨rfl,h'⟩
  show some (Ow.row _ _ (code.length+n) (code.flatMap iqL++is.flatMap iqL))=some (Ow.row _ _ (code++is).length ((code++is).flatMap iqL));rw [List.flatMap_append,List.length_append,hn]
  rfl
theorem zse {S:List Ow} {K:Value→World→Prop} (h:EmAt w g vC vS X) (is:List QI) (j n:Nat) {t:TypeId} (hj:S[j]?=some (.cells t ((is.flatMap iqL).map .v))) (hn:is.length=n) (hlen:X.code.length+n≤1000000000) (hK:∀ w',EmTo w w' g vC vS {X with code:=X.code++is}→K (.tuple #[]) w'):
  Jmp Tryz.prog w Gs.nil 115 [one (pV g),.p (.c (.sl j 0 n n))] S K:=by
 refine ⟨by kernel_rfl,fun r w1 us hR hd=>?_⟩;obtain ⟨u1,l1,rfl,d1,d2⟩:=hd;obtain rfl:=zi6 d1;obtain ⟨u2,l2,rfl,d3,d4⟩:=d2;obtain rfl:l2=[]:=d4;obtain ⟨q,hq,rfl⟩:=zi5 d3;obtain ⟨q',vs,e1,e2,e3⟩:=hR.own j _ hj;rw [hq] at e1;injection e1 with e1;subst e1;obtain rfl:=ziw e3;have hB:=hR.toBelow;have h1:=h.later hB
 have hqn:w.heap.size≤q:=by
  rcases Nat.lt_or_ge q w.heap.size with h2|h2
  ·rcases (hR.new j q hq).2 h2 with h3|h3<;>cases h3
  ·exact h2
 have hcells:zac w1 (emGs g vC vS) q 0 (is.flatMap iqL):=by
  refine ⟨(hR.new j q hq).1,fun hm=>?_,fun i u hi=>by simp [World.cell?,e2,hi]⟩;have:=h.lts q (zui.1 hm);omega
 exact (zjo h1 is q n n hcells hn hlen).mono fun e w2 ⟨he,hl⟩=>⟨_,he,hK w2 (hl.early hB)⟩
theorem zsd {S:List Ow} {K:Value→World→Prop} {fid:FuncId} {args:List AV} {us:List Value} {X1 X2:EmX} {w0:World} (v:Value) (h:EmTo w0 w g vC vS X1) (hu:avals args=some us) (hok:fnOk Tryz.prog fid=true)
  (hc:∀ w1 vC1 vS1,EmAt w1 g vC1 vS1 X1→Calls Tryz.prog fid (pV g::us).toArray w1 fun e w'=>e= .returned v∧EmTo w1 w' g vC1 vS1 X2)
  (hK:∀ w',EmTo w0 w' g vC vS X2→K v w'):Jmp Tryz.prog w Gs.nil fid (one (pV g)::args) S K:=by
 refine ⟨hok,fun r w1 us' hR hd=>?_⟩;obtain ⟨u1,l1,rfl,d1,d2⟩:=hd;obtain rfl:=zi6 d1;obtain rfl:=zcs hu d2;obtain ⟨vC1,vS1,k1,k2⟩:=(h.later hR.toBelow).now
 exact (hc w1 vC1 vS1 k1).mono fun e w2 ⟨he,hl⟩=>⟨v,he,hK w2 (k2 w2 _ hl)⟩
theorem zbo (X:EmX) (i:QI):X.app [⟨i,none⟩]={X with code:=X.code++[i]}:=by
 unfold EmX.app z5q z5q;simp
theorem zbl (X:EmX) (is:List QI):X.app (is.map fun i=>⟨i,none⟩)={X with code:=X.code++is}:=by
 have:∀ (n:Nat) (is:List QI),z5q n (is.map fun i=>⟨i,none⟩)=[]:=fun n is=>by
  induction is generalizing n with
  |nil=>rfl
  |cons i is ih=>exact ih (n+1)
 have hm:∀ is:List QI,(is.map fun i=>(⟨i,none⟩:It)).map (·.i)=is:=fun is=>by
  induction is with
  |nil=>rfl
  |cons i is ih=>show i::_=i::is;rw [ih]
 unfold EmX.app;rw [this,List.append_nil,hm]
theorem zq5 (h:EmAt w g vC vS X) (op d a n:Int) (hlen:X.code.length≤100000000):
  Calls Tryz.prog 116 #[pV g,.int .i64 op,.int .i64 d,.int .i64 a,.int .u32 n] w fun e w'=>e= .returned (.tuple #[])∧EmTo w w' g vC vS (X.app [iI op d a n]):=by
 refine zfh [pV g,.int .i64 op,.int .i64 d,.int .i64 a,.int .u32 n] Tryz.func116 Tryz.ntmps116 rfl zS ?_
 refine z26 7 rfl rfl rfl ?_
 conv=>whnf
 refine zse h [⟨op,d,a,0,n⟩] 0 1 rfl rfl zO fun w1 hl=>?_
 conv=>whnf
 refine zb5 ?_
 conv=>whnf
 exact zmp rfl fun w2 hB=>⟨rfl,by unfold iI;rw [zbo];exact hl.later hB⟩
theorem z8t (h:EmAt w g vC vS X) (op d a b:Int) (hlen:X.code.length≤100000000):
  Calls Tryz.prog 72 #[pV g,.int .i64 op,.int .i64 d,.int .i64 a,.int .i64 b] w fun e w'=>e= .returned (.tuple #[])∧EmTo w w' g vC vS (X.app [i3 op d a b]):=by
 refine zfh [pV g,.int .i64 op,.int .i64 d,.int .i64 a,.int .i64 b] Tryz.func72 Tryz.ntmps72 rfl zS ?_
 refine z26 7 rfl rfl rfl ?_
 conv=>whnf
 refine zse h [⟨op,d,a,b,0⟩] 0 1 rfl rfl zO fun w1 hl=>?_
 conv=>whnf
 refine zb5 ?_
 conv=>whnf
 exact zmp rfl fun w2 hB=>⟨rfl,by unfold i3;rw [zbo];exact hl.later hB⟩
end
def zyr (k:Int):Option Int:=if (3≤k∧k≤11)∨k=14∨k=15 then some (qopE k) else none
theorem zyu (w:World):Calls Tryz.prog 69 #[] w fun e w'=>∃ b,e= .returned (.map (some b))∧IMap i64R i64D w' b 11 zyr∧w.heap.size≤b∧Below w.heap.size w w':=by
 refine zfh [] Tryz.func69 Tryz.ntmps69 rfl zS ?_
 refine z3i ?_
 conv=>whnf
 refine z3i ?_
 conv=>whnf
 refine zwv (R:=i64R) (cd:=i64D) rfl rfl ?_
 conv=>whnf
 refine zws (n:=0) rfl Tryz.underlying136 zq0 0 3 1 rfl rfl rfl rfl (by decide) (yaf (by unfold mid;omega)) (by unfold mid;omega) rfl ?_
 conv=>whnf
 refine zws (n:=1) rfl Tryz.underlying136 zq0 0 4 2 rfl rfl rfl rfl (by decide) (yaf (by unfold mid;omega)) (by unfold mid;omega) rfl ?_
 conv=>whnf
 refine zws (n:=2) rfl Tryz.underlying136 zq0 0 5 3 rfl rfl rfl rfl (by decide) (yaf (by unfold mid;omega)) (by unfold mid;omega) rfl ?_
 conv=>whnf
 refine zws (n:=3) rfl Tryz.underlying136 zq0 0 6 4 rfl rfl rfl rfl (by decide) (yaf (by unfold mid;omega)) (by unfold mid;omega) rfl ?_
 conv=>whnf
 refine zws (n:=4) rfl Tryz.underlying136 zq0 0 7 5 rfl rfl rfl rfl (by decide) (yaf (by unfold mid;omega)) (by unfold mid;omega) rfl ?_
 conv=>whnf
 refine zws (n:=5) rfl Tryz.underlying136 zq0 0 8 6 rfl rfl rfl rfl (by decide) (yaf (by unfold mid;omega)) (by unfold mid;omega) rfl ?_
 conv=>whnf
 refine zws (n:=6) rfl Tryz.underlying136 zq0 0 9 7 rfl rfl rfl rfl (by decide) (yaf (by unfold mid;omega)) (by unfold mid;omega) rfl ?_
 conv=>whnf
 refine zws (n:=7) rfl Tryz.underlying136 zq0 0 10 8 rfl rfl rfl rfl (by decide) (yaf (by unfold mid;omega)) (by unfold mid;omega) rfl ?_
 conv=>whnf
 refine zws (n:=8) rfl Tryz.underlying136 zq0 0 11 9 rfl rfl rfl rfl (by decide) (yaf (by unfold mid;omega)) (by unfold mid;omega) rfl ?_
 conv=>whnf
 refine zws (n:=9) rfl Tryz.underlying136 zq0 0 14 11 rfl rfl rfl rfl (by decide) (yaf (by unfold mid;omega)) (by unfold mid;omega) rfl ?_
 conv=>whnf
 refine zws (n:=10) rfl Tryz.underlying136 zq0 0 15 12 rfl rfl rfl rfl (by decide) (yaf (by unfold mid;omega)) (by unfold mid;omega) rfl ?_
 conv=>whnf
 refine z3m ?_
 conv=>whnf
 refine zcg ?_
 conv=>whnf
 refine zml 0 rfl fun w' b hm hb hB=>⟨b,rfl,hm.is (fun k=>?_),hb,hB⟩
 by_cases hk:(3≤k∧k≤11)∨k=14∨k=15
 ·have:k=3∨k=4∨k=5∨k=6∨k=7∨k=8∨k=9∨k=10∨k=11∨k=14∨k=15:=by omega
  rcases this with rfl|rfl|rfl|rfl|rfl|rfl|rfl|rfl|rfl|rfl|rfl<;>decide
 ·unfold zyr mput
  rw [if_neg hk];simp only [show ¬k=3 by omega,show ¬k=4 by omega,show ¬k=5 by omega,show ¬k=6 by omega,show ¬k=7 by omega,show ¬k=8 by omega,show ¬k=9 by omega,show ¬k=10 by omega,show ¬k=11 by omega,show ¬k=14 by omega,show ¬k=15 by omega,if_false]
section
variable {n:Nat} {m:Int→Option Int} {w0:World} {G:Gs} {N:Nd} {o:Oper} {f:Fr} {S:List Ow} {K:Fr→List Ow→Prop}
theorem zwt {t e:TypeId} {mo x v:Operand} (hop:o.op= .insert t mo x v) (ht:Tryz.prog.underlying t=some (.map 3 e)) (i:Nat) (k:Int) (fid:Nat)
  (hm:f.ev mo= .p (.c (.mp i))) (hi:S[i]?=some (ztv zne fnCd n m)) (hx:f.ev x=one (.int .i64 k)) (hv:f.ev v= .p (.c (.clo (.func fid) []))) (hn:n<1000000) (hkw:(Lit.int .i64 k).wf=true) (hdst:zjc N.n o.dst=true)
  (hk:K (f.put o.dst (.p (.c .any))) (S.set i (ztv zne fnCd (n+1) (mput m k (fid:Int))))):OpS Tryz.prog w0 G N o f S K:=by
 refine ⟨fun r a w hR hf hN hd next Q hK=>?_⟩;have h1:=hf.ev mo;have h2:=hf.ev x;have h3:=hf.ev v;rw [hm] at h1;rw [hx] at h2;rw [hv] at h3;obtain ⟨b,hb,hu⟩:=zi2 h1;obtain ⟨b',hb',hmap,_⟩:=hR.own i _ hi;rw [hb] at hb';injection hb' with hb';subst hb';obtain ⟨us,hus,hcap⟩:=zi0 h3;simp only [denL] at hcap;subst hcap;obtain ⟨w',hrun,hmap',hg⟩:=hmap.put znf ht hn hkw (x:=(fid:Int)) (Int.natCast_nonneg _) (t:=t)
 have hex:(execOp a.eval o).run Tryz.prog w= .ok .skip w':=by
  have hmk:fnMk (fid:Int)= .func (.func fid) #[] #[]:=rfl;rw [hmk] at hrun;simp [execOp,hop,hu,zi6 h2,hus,hrun]
 exact ya7 hex (hK _ _ _ _ hk (zox hR hf hN hd hdst (by simp [AV.den,Pc.den,CV.den]) (hR.setBlock hb hg (zq3 hb hmap') (hR.lt_of_blk hb)) (Env.le.refl r)))
end
def zxg (k:Int):Option Int:=
 if k=1 then some 119 else if k=2 then some 120 else if k=12 then some 121 else if k=13 then some 122 else if k=16 then some 123 else if k=17 then some 123 else if k=18 then some 123 else if k=19 then some 123 else if k=20 then some 124 else if k=21 then some 125 else if k=22 then some 126 else if k=23 then some 127 else if k=24 then some 128 else if k=25 then some 129 else none
theorem zxj (w:World):Calls Tryz.prog 70 #[] w fun e w'=>∃ b,e= .returned (.map (some b))∧IMap zne fnCd w' b 14 zxg∧w.heap.size≤b∧Below w.heap.size w w':=by
 refine zfh [] Tryz.func70 Tryz.ntmps70 rfl zS ?_
 refine z3i ?_
 conv=>whnf
 refine z3i ?_
 conv=>whnf
 refine zwv (R:=zne) (cd:=fnCd) rfl rfl ?_
 conv=>whnf
 refine zwt (n:=0) rfl Tryz.underlying138 0 1 119 rfl rfl rfl rfl (by decide) (yaf (by unfold mid;omega)) rfl ?_
 conv=>whnf
 refine zwt (n:=1) rfl Tryz.underlying138 0 2 120 rfl rfl rfl rfl (by decide) (yaf (by unfold mid;omega)) rfl ?_
 conv=>whnf
 refine zwt (n:=2) rfl Tryz.underlying138 0 12 121 rfl rfl rfl rfl (by decide) (yaf (by unfold mid;omega)) rfl ?_
 conv=>whnf
 refine zwt (n:=3) rfl Tryz.underlying138 0 13 122 rfl rfl rfl rfl (by decide) (yaf (by unfold mid;omega)) rfl ?_
 conv=>whnf
 refine zwt (n:=4) rfl Tryz.underlying138 0 16 123 rfl rfl rfl rfl (by decide) (yaf (by unfold mid;omega)) rfl ?_
 conv=>whnf
 refine zwt (n:=5) rfl Tryz.underlying138 0 17 123 rfl rfl rfl rfl (by decide) (yaf (by unfold mid;omega)) rfl ?_
 conv=>whnf
 refine zwt (n:=6) rfl Tryz.underlying138 0 18 123 rfl rfl rfl rfl (by decide) (yaf (by unfold mid;omega)) rfl ?_
 conv=>whnf
 refine zwt (n:=7) rfl Tryz.underlying138 0 19 123 rfl rfl rfl rfl (by decide) (yaf (by unfold mid;omega)) rfl ?_
 conv=>whnf
 refine zwt (n:=8) rfl Tryz.underlying138 0 20 124 rfl rfl rfl rfl (by decide) (yaf (by unfold mid;omega)) rfl ?_
 conv=>whnf
 refine zwt (n:=9) rfl Tryz.underlying138 0 21 125 rfl rfl rfl rfl (by decide) (yaf (by unfold mid;omega)) rfl ?_
 conv=>whnf
 refine zwt (n:=10) rfl Tryz.underlying138 0 22 126 rfl rfl rfl rfl (by decide) (yaf (by unfold mid;omega)) rfl ?_
 conv=>whnf
 refine zwt (n:=11) rfl Tryz.underlying138 0 23 127 rfl rfl rfl rfl (by decide) (yaf (by unfold mid;omega)) rfl ?_
 conv=>whnf
 refine zwt (n:=12) rfl Tryz.underlying138 0 24 128 rfl rfl rfl rfl (by decide) (yaf (by unfold mid;omega)) rfl ?_
 conv=>whnf
 refine zwt (n:=13) rfl Tryz.underlying138 0 25 129 rfl rfl rfl rfl (by decide) (yaf (by unfold mid;omega)) rfl ?_
 conv=>whnf
 refine z3m ?_
 conv=>whnf
 refine zcg ?_
 conv=>whnf
 refine zml 0 rfl fun w' b hm hb hB=>⟨b,rfl,hm.is (fun k=>?_),hb,hB⟩
 by_cases hk:k=1∨k=2∨k=12∨k=13∨(16≤k∧k≤25)
 ·have:k=1∨k=2∨k=12∨k=13∨k=16∨k=17∨k=18∨k=19∨k=20∨k=21∨k=22∨k=23∨k=24∨k=25:=by omega
  rcases this with rfl|rfl|rfl|rfl|rfl|rfl|rfl|rfl|rfl|rfl|rfl|rfl|rfl|rfl<;>decide
 ·unfold zxg mput
  simp only [show ¬k=1 by omega,show ¬k=2 by omega,show ¬k=12 by omega,show ¬k=13 by omega,show ¬k=16 by omega,show ¬k=17 by omega,show ¬k=18 by omega,show ¬k=19 by omega,show ¬k=20 by omega,show ¬k=21 by omega,show ¬k=22 by omega,show ¬k=23 by omega,show ¬k=24 by omega,show ¬k=25 by omega,if_false]
theorem ybs (w:World):(zeroValue 143).run Tryz.prog w= .ok .nilFunc w:=by simp [go_sem]
theorem ztp {w:World} {b n:Nat} {f:Int→Option Int} (h:IMap zne fnCd w b n f) {k x:Int} (hk:(Lit.int .i64 k).wf=true) (hx:f k=some x):
  (Instr.lookup 138 (.map (some b)) (.int .i64 k) false).run Tryz.prog w= .ok (fnMk x) w:=by
 obtain ⟨D,h,hf⟩:=h;obtain ⟨v,ps,hr,hv⟩:=h.lookup zsz Tryz.underlying138 (ybs w) (zd:= .lit (.bool false)) (zp:=[]) rfl (zso hk);obtain ⟨h1,h2⟩:=hf k hk;rw [h2,hx] at hv;rw [hr,znf.from_ v x ps hv]
section
variable {n b:Nat} {m:Int→Option Int} {w0:World} {G:Gs} {o:Oper} {f:Fr} {S:List Ow} {K:AV→Prop}
theorem z0c {mo x:Operand} (hop:o.op= .lookup 138 mo x false) (k y:Int) (hm:f.ev mo=one (.map (some b))) (hmap:IMap zne fnCd w0 b n m) (hG:b∉G) (hx:f.ev x=one (.int .i64 k)) (hkw:(Lit.int .i64 k).wf=true) (hy:m k=some y)
  (hK:K (one (fnMk y))):QRun Tryz.prog w0 G S f o K:=by
 refine ⟨_,hK,fun r a hf=>⟨fnMk y,zi3 _ _,fun w hR=>?_⟩⟩;have h1:=hf.ev mo;have h2:=hf.ev x;rw [hm] at h1;rw [hx] at h2;simp [execOp,hop,zi6 h1,zi6 h2,ztp (hmap.block (hR.old b hmap.lt hG)) hkw hy]
end
open Go.RowKit
abbrev alT:TypeId:=31
abbrev alL (a:List Int):List Value:=a.map (Value.int .i64)
def zvm (j:Nat):List Int:=List.replicate j (-1)++List.replicate (28-j) 0
def zvk:List Int:=List.replicate 28 (-1)
theorem zvn {j:Nat} (h:j≤28):(zvm j).length=28:=by unfold zvm;rw [List.length_append,List.length_replicate,List.length_replicate];omega
theorem zvo {j:Nat} (h:j<28):(zvm j).set j (-1)=zvm (j+1):=by
 unfold zvm;rw [List.set_append_right _ _ (by rw [List.length_replicate];omega),List.length_replicate,Nat.sub_self,show 28-j=(28-(j+1))+1 by omega,List.replicate_succ,List.set_cons_zero,List.replicate_succ',List.append_assoc]
 rfl
theorem zvr (w:World):Calls Tryz.prog 111 #[] w fun e w'=>e= .returned (.agg (alL zvk).toArray)∧Below w.heap.size w w':=by
 refine zfh [] Tryz.func111 Tryz.ntmps111 rfl zS ?_;refine z3i ?_;(conv=>whnf);refine z3i ?_;(conv=>whnf);refine z3c (α:=Unit) (fun _=>[(0,.p (.c (.ref 0 0))),(1,.p (.c (.ref 1 0)))]) (fun _=>[.cells alT ((alL (List.replicate 28 0)).map .v),.cells alT ((alL zvk).map .v)]) ?_ fun _=>?_
 ·refine z3i ?_
  (conv=>whnf);refine z21 ?_;refine z29 (α:={j:Nat//j≤28}) (fun x=>[(0,.p (.c (.ref 0 0))),(1,.p (.c (.ref 1 0))),(3,one (.int .i64 (x.1:Int)))]) (fun x=>[.cells alT ((alL (List.replicate 28 0)).map .v),.cells alT ((alL (zvm x.1)).map .v)]) (fun x=>28-x.1) ⟨0,by omega⟩ (zkb rfl Tn Tn) (fun x=>?_);obtain ⟨j,hj⟩:=x;dsimp only;refine z3i ?_;(conv=>whnf);refine z3i ?_;(conv=>whnf);refine ⟨fun hc=>?_,fun hc=>?_⟩
  ·have hlt:j<28:=by simp at hc;omega
   (conv=>whnf);refine z25 (z21 ?_);refine z3i ?_;(conv=>whnf);refine z3m ?_;(conv=>whnf)
   (refine ⟨⟨by omega,by omega⟩,?_⟩;(conv=>whnf))
   have hlen:(List.map CV.v (alL (zvm j))).length=28:=(by rw [List.length_map,List.length_map,zvn hj]);rw [show Nat.ble (0+((j:Nat):Int).toNat*tsz Tryz.prog 3+[CV.v (Value.int .i64 (-1))].length) (List.map CV.v (alL (zvm j))).length=true from Nat.ble_eq_true_of_le (by rw [hlen];show 0+j*1+1≤28;omega)];(conv=>whnf);rw [show Nat.ble (List.map CV.v (alL (zvm j))).length 8=false from zdy (by rw [hlen];decide)];(conv=>whnf);refine zcm ?_;refine z3m ?_;(conv=>whnf);refine ⟨((j+1:Nat):Int),by rw [show (j:Int)+1=((j+1:Nat):Int) by omega];exact wr64 zO,?_⟩;(conv=>whnf)
   have hset:z3z (List.map CV.v (alL (zvm j))) (0+((j:Nat):Int).toNat*tsz Tryz.prog 3) [CV.v (Value.int .i64 (-1))]=List.map CV.v (alL (zvm (j+1))):=by
    rw [z4h, ← zvo hlt];show List.map CV.v ((alL (zvm j)).set (0+j*1) _)=_;rw [Nat.zero_add,Nat.mul_one];unfold alL;simp only [List.map_set]
   exact zcb ⟨j+1,by omega⟩ (zkb rfl Tn (aI sM (aI ((aI rfl (Or.inl hset))) trivial))) (by show 28-(j+1)<28-j;omega)
  ·conv=>whnf
   have:j=28:=(by simp at hc;omega);subst this;refine zce (zb6 (zb8 () (zkb rfl Tn Tn)))
 refine z3i ?_
 conv=>whnf
 refine z3m ?_
 conv=>whnf
 refine zcg ?_
 conv=>whnf
 exact zmp rfl fun w2 hB=>⟨rfl,hB⟩
theorem zvs (w:World):Calls Tryz.prog 21 #[] w fun e w'=>e= .returned (.agg (alL zvk).toArray)∧Below w.heap.size w w':=by
 refine zfh [] Tryz.func21 Tryz.ntmps21 rfl zS ?_;refine z3i ?_;(conv=>whnf);refine z3i ?_;(conv=>whnf);refine z3c (α:=Unit) (fun _=>[(0,.p (.c (.ref 0 0))),(1,.p (.c (.ref 1 0)))]) (fun _=>[.cells alT ((alL (List.replicate 28 0)).map .v),.cells alT ((alL zvk).map .v)]) ?_ fun _=>?_
 ·refine z3i ?_
  (conv=>whnf);refine z21 ?_;refine z29 (α:={j:Nat//j≤28}) (fun x=>[(0,.p (.c (.ref 0 0))),(1,.p (.c (.ref 1 0))),(2,one (.int .i64 (x.1:Int)))]) (fun x=>[.cells alT ((alL (List.replicate 28 0)).map .v),.cells alT ((alL (zvm x.1)).map .v)]) (fun x=>28-x.1) ⟨0,by omega⟩ (zkb rfl Tn Tn) (fun x=>?_);obtain ⟨j,hj⟩:=x;dsimp only;refine z3i ?_;(conv=>whnf);refine ⟨fun hc=>?_,fun hc=>?_⟩
  ·have hlt:j<28:=by simp at hc;omega
   (conv=>whnf);refine z25 (z21 ?_);refine z3m ?_;(conv=>whnf)
   (refine ⟨⟨by omega,by omega⟩,?_⟩;(conv=>whnf))
   have hlen:(List.map CV.v (alL (zvm j))).length=28:=(by rw [List.length_map,List.length_map,zvn hj]);rw [show Nat.ble (0+((j:Nat):Int).toNat*tsz Tryz.prog 3+[CV.v (Value.int .i64 (-1))].length) (List.map CV.v (alL (zvm j))).length=true from Nat.ble_eq_true_of_le (by rw [hlen];show 0+j*1+1≤28;omega)];(conv=>whnf);rw [show Nat.ble (List.map CV.v (alL (zvm j))).length 8=false from zdy (by rw [hlen];decide)];(conv=>whnf);refine zcm ?_;refine z3m ?_;(conv=>whnf);refine ⟨((j+1:Nat):Int),by rw [show (j:Int)+1=((j+1:Nat):Int) by omega];exact wr64 zO,?_⟩;(conv=>whnf)
   have hset:z3z (List.map CV.v (alL (zvm j))) (0+((j:Nat):Int).toNat*tsz Tryz.prog 3) [CV.v (Value.int .i64 (-1))]=List.map CV.v (alL (zvm (j+1))):=by
    rw [z4h, ← zvo hlt];show List.map CV.v ((alL (zvm j)).set (0+j*1) _)=_;rw [Nat.zero_add,Nat.mul_one];unfold alL;simp only [List.map_set]
   exact zcb ⟨j+1,by omega⟩ (zkb rfl Tn (aI sM (aI ((aI rfl (Or.inl hset))) trivial))) (by show 28-(j+1)<28-j;omega)
  ·conv=>whnf
   have:j=28:=(by simp at hc;omega);subst this;refine zce (zb6 (zb8 () (zkb rfl Tn Tn)))
 refine z3i ?_
 conv=>whnf
 refine z3m ?_
 conv=>whnf
 refine zcg ?_
 conv=>whnf
 exact zmp rfl fun w2 hB=>⟨rfl,hB⟩
end Go.Proofs.YtocafomnnkmjfaaGreat
namespace Go.Proofs
open Go.Shelf Go.Lib
def Tryz.laysClone_ren:Go.Shelf.Ren:=⟨fun|15=>114|n=>n,fun|3=>3|4=>4|22=>22|n=>n,fun n=>n⟩
theorem Tryz.laysClone:Lays2.n15 Tryz.prog Tryz.laysClone_ren where
 mixed:=by kernel_rfl
 f15:=Tryz.func114.trans (congrArg some (by kernel_rfl))
 t3:=Tryz.underlying3
 a3:=Tryz.isAgg3
 z3:=Tryz.sizeOf3
 v3:=Tryz.zeroValue3
 t4:=Tryz.underlying4
 a4:=Tryz.isAgg4
 z4:=Tryz.sizeOf4
 v4:=Tryz.zeroValue4
 t22:=Tryz.underlying22
 a22:=Tryz.isAgg22
 z22:=Tryz.sizeOf22
 v22:=Tryz.zeroValue22
 i3:=by kernel_rfl
end Go.Proofs
namespace Go.Proofs.YtocafomnnkmjfaaGreat
open Go.RowKit
theorem zjp {w:World} {q:Nat} (h:w.heap[q]?=some (.cells #[] 3 (0,0))):w.ownsRow 0 3 1 (.slice (some ⟨q,0,none⟩) 0 0) 0 []:=
 ⟨rfl,.inr ⟨q,0,#[],rfl,Nat.zero_le _,h,Nat.le_refl _,by unfold maxLen;omega,rfl,rfl⟩⟩
theorem z6o (w:World) (q:Nat) (h:w.heap[q]?=some (.cells #[] 3 (0,0))):
  Calls Tryz.prog 112 #[.slice (some ⟨q,0,none⟩) 0 0] w fun e w'=>e= .returned (.tuple #[])∧w'.heap[q]?=some (.cells #[] 3 (0,0))∧w.grownBy w' (some q):=
 (z6p w _ [] (by decide) (zjp h)).mono fun e w' ⟨h1,h2,h3⟩=>⟨h1,by
  rcases h2.2 with ⟨e1,_⟩|⟨g,cap,cur,e1,_,hh,_,_,hsz,_⟩
  ·cases e1
  ·injection e1 with e1 _ e2
   injection e1 with e1;injection e1 with e1;subst e1;subst e2;have:cur= #[]:=Array.eq_empty_of_size_eq_zero zO;rw [this] at hh
   exact hh,h3⟩
theorem zgn (w:World) (q:Nat):Calls Tryz.prog 114 #[.slice (some ⟨q,0,none⟩) 0 0] w fun e w'=>∃ v',e= .returned v'∧w'.ownsRow w.heap.size 3 1 v' 0 []∧Below w.heap.size w w':=
 (Any.slices_Clone_int Tryz.laysClone q 0 0 0 [] w (Nat.le_refl _) (by decide) (fun j hj=>by cases hj)).mono fun e w' ⟨v',h1,h2,_,h4⟩=>⟨v',h1,h2,h4⟩
theorem zgx (w:World) (v:Value) (h:w.ownsRow 0 3 1 v 0 []):Calls Tryz.prog 113 #[v] w fun e w'=>∃ A c,e= .returned (.slice A 0 c)∧w.grownBy w' v.ownBlock:=
 (zgy w v [] (by decide) h).mono fun e w' ⟨v',h1,h2,h3,_⟩=>by
  obtain ⟨A,c,rfl⟩:=z13 h2;exact ⟨A,c,h1,h3⟩
structure AlOk (a:List Int):Prop where
 len:a.length=28
 lo:∀ v,0≤v→v<28→ -1≤getV a v∧getV a v<9
 pc:getV a 19= -1
 inj:∀ u v,0≤u→u<28→0≤v→v<28→0≤getV a u→getV a u=getV a v→u=v
def zsw (W:Nat) (v:Int):Prop:=0≤v∧v<28∧v≠19∧(v<20∨W.testBit v.toNat=true)
def cxE (G:Nat) (v:Int):Int:=256*(G:Int)+4*v
structure RelE (E:Em) (G n p W:Nat) (vs:List Int) (g M1:MemP) (R:Int→Int) (M:MemP):Prop where
 vars:VarsOk vs
 mem:M.ok n p
 gok:g.ok (256*G) G
 gp:G<p
 reg:∀ j,0≤j→j<16→word (R j)
 zero:R 0=0
 base:R 15=256*(G:Int)
 inR:∀ v,zsw W v→0≤getV E.a v→R (getV E.a v+1)=getV vs v
 inM:∀ v,zsw W v→getV E.a v<0→M.load (cxE G v) 0 4=getV vs v
 old:∀ v,0≤v→v<19→0≤getV E.a v→E.written.testBit v.toNat=false→M.load (cxE G v) 0 4=getV vs v
 guest:∀ y,0≤y→y<256*(G:Int)→M.get y=g.get y
 grr:∀ y r,0≤y→y<256*(G:Int)→(r=1∨r=2)→M.right y r=g.right y r
 crr:∀ y,256*(G:Int)≤y→y<256*(G:Int)+256→∀ r,(r=1∨r=2)→M.right y r=true
 keep:∀ y,256*(G:Int)+112≤y→M.get y=M1.get y
 fet:M.fet=M1.fet
section
variable {E:Em} {G n p W:Nat} {vs:List Int} {g M1:MemP} {R:Int→Int} {M:MemP}
theorem RelE.size (h:RelE E G n p W vs g M1 R M):256*G+256≤n∧n≤1048576:=by
 have h1:=h.mem.np;have h2:=h.mem.pmax;have h3:=h.gp;omega
theorem RelE.scratch (h:RelE E G n p W vs g M1 R M) (hA:AlOk E.a) {R':Int→Int} (hw:∀ j,0≤j→j<16→word (R' j)) (h0:R' 0=0) (h15:R' 15=R 15) (hs:∀ j,1≤j→j≤9→R' j=R j):RelE E G n p W vs g M1 R' M:=
 ⟨h.vars,h.mem,h.gok,h.gp,hw,h0,h15.trans h.base,fun v hv ha=>by
  have:=(hA.lo v hv.1 hv.2.1).2
  rw [hs _ zO zO];exact h.inR v hv ha,h.inM,h.old,h.guest,h.grr,h.crr,h.keep,h.fet⟩
theorem RelE.upd (h:RelE E G n p W vs g M1 R M) (hA:AlOk E.a) {d x:Int} (hd:10≤d∧d≤14) (hx:word x):RelE E G n p W vs g M1 (updR R d x) M:=
 h.scratch hA (fun j h0 h1=>z9a h.reg d hx j h0 h1) (z9b h.zero _ _) (z87 zO) (fun j h1 h2=>z87 zO)
theorem RelE.cxw (h:RelE E G n p W vs g M1 R M) {v:Int} (hv:0≤v∧v<64):(R 15+4*v)%4294967296=cxE G v:=by
 have:=h.size;rw [h.base];unfold cxE;omega
theorem RelE.cxbad (h:RelE E G n p W vs g M1 R M) {v:Int} (hv:0≤v∧v<64) {r:Int} (hr:r=1∨r=2):M.bad (cxE G v) r 0 4=none:=by
 have:=h.size;refine zc9.2 fun j _ h2=>?_;have e:(cxE G v+j)%4294967296=cxE G v+j:=(by unfold cxE;omega);rw [e];exact h.crr _ (by unfold cxE;omega) (by unfold cxE;omega) r hr
theorem RelE.read {F:Int→Option QI} {B:Int} {k:Nat} (h:RelE E G n p W vs g M1 R M) (hA:AlOk E.a) (hB:0≤B∧B≤4000000000) {v s:Int} (hv:zsw W v) (hs:s=10∨s=11) (hc:Cd F B k (rdE E v s)):
  ∃ R',Ex F B k R M (k+(rdE E v s).length) R' M (rdE E v s).length∧RelE E G n p W vs g M1 R' M∧R' (rrE E v s)=getV vs v∧∀ j,j≠s→R' j=R j:=by
 unfold rdE rrE at*;by_cases ha:0≤getV E.a v
 ·rw [if_pos ha] at hc⊢
  rw [if_pos ha];refine ⟨R,Ex.refl,h,?_,fun _ _=>rfl⟩;have:=(hA.lo v hv.1 hv.2.1).2;unfold regE;rw [if_pos ⟨ha,this⟩];exact h.inR v hv ha
 ·rw [if_neg ha] at hc⊢
  rw [if_neg ha]
  have hv64:0≤v∧v<64:=⟨hv.1,by have:=hv.2.1;omega⟩
  have h1:=zlc (R:=R) (M:=M) hB hc (by rw [h.cxw hv64];exact h.cxbad hv64 (.inl rfl));rw [h.cxw hv64,h.inM v hv zO] at h1;exact ⟨_,h1,h.upd hA zO (zop h.vars v),z86 zO,fun j hj=>z87 hj⟩
theorem RelE.cxst (h:RelE E G n p W vs g M1 R M) {v x:Int} (hv:0≤v∧v<64) (hx:word x):
  (MemP.store (cxE G v) 0 4 x M).ok n p∧(MemP.store (cxE G v) 0 4 x M).load (cxE G v) 0 4=x∧(∀ u,0≤u→u<64→u≠v→(MemP.store (cxE G v) 0 4 x M).load (cxE G u) 0 4=M.load (cxE G u) 0 4)∧
   (∀ y,0≤y→(y<cxE G v∨cxE G v+4≤y)→(MemP.store (cxE G v) 0 4 x M).get y=M.get y)∧(∀ y r,(MemP.store (cxE G v) 0 4 x M).right y r=M.right y r)∧(MemP.store (cxE G v) 0 4 x M).fet=M.fet:=by
 have hs:=h.size;have hc:0≤cxE G v∧cxE G v+4≤n:=(by unfold cxE;omega);have hg:=fun y hy=>z7o hc.1 zO 0 4 x h.mem hx.1 zO y hy;obtain ⟨k1,k2,k3⟩:=z7p (cxE G v) 0 4 x M;refine ⟨z7q _ 0 4 x h.mem hx.1,ztm h.mem zO hc.1 hc.2 hx,fun u h0 h1 hne=>?_,fun y hy hyv=>?_,fun y r=>?_,zl0 k1 k2 k3⟩
 ·refine ztj (by unfold cxE;omega) 0 4 (by unfold cxE;omega) fun y h2 h3=>?_
  rw [hg y (by unfold cxE at h2;omega),if_neg (by unfold cxE at*;omega)]
 ·rw [hg y hy,if_neg zO]
 ·unfold MemP.right
  rw [k2,k3]
def zu3 (W:Nat) (d:Int):Nat:=if 20≤d then W|||2^d.toNat else W
theorem zsx {W:Nat} {d v:Int} (_hd:0≤d) (h:zsw (zu3 W d) v):v=d∨zsw W v:=by
 obtain ⟨h0,h1,h2,h3⟩:=h;by_cases hv:v=d
 ·exact .inl hv
 ·refine .inr ⟨h0,h1,h2,?_⟩
  rcases h3 with h3|h3
  ·exact .inl h3
  ·unfold zu3 at h3
   split at h3
   ·rw [Nat.testBit_or,Nat.testBit_two_pow_of_ne zO,Bool.or_false] at h3
    exact .inr h3
   ·exact .inr h3
theorem RelE.setR (h:RelE E G n p W vs g M1 R M) (hA:AlOk E.a) {d x:Int} (hd:0≤d∧d<28) (h19:d≠19) (hx:word x) (ha:0≤getV E.a d) (hwr:E.written.testBit d.toNat=true):RelE E G n p (zu3 W d) (vs.set d.toNat x) g M1 (updR R (getV E.a d+1) x) M:=by
 have hr:=(hA.lo d hd.1 hd.2).2;refine ⟨z4g h.vars _ hx,h.mem,h.gok,h.gp,fun j h0 h1=>z9a h.reg _ hx j h0 h1,z9b h.zero _ _,(z87 zO).trans h.base,fun v hv hva=>?_,fun v hv hva=>?_,fun v h0 h1 h2 h3=>?_,h.guest,h.grr,h.crr,h.keep,h.fet⟩
 ·by_cases hvd:v=d
  ·subst hvd
   rw [z86 zO,zon h.vars hd]
  ·have hne:getV E.a v≠getV E.a d:=fun e=>hvd (hA.inj v d hv.1 hv.2.1 hd.1 hd.2 hva e)
   rw [z87 zO,zoo hd.1 hv.1 hvd];rcases zsx hd.1 hv with h4|h4
   ·exact absurd h4 hvd
   ·exact h.inR v h4 hva
 ·have hvd:v≠d:=fun e=>by subst e;omega
  rw [zoo hd.1 hv.1 hvd];rcases zsx hd.1 hv with h4|h4
  ·exact absurd h4 hvd
  ·exact h.inM v h4 hva
 ·have hvd:v≠d:=fun e=>by subst e;rw [hwr] at h3;cases h3
  rw [zoo hd.1 h0 hvd];exact h.old v h0 h1 h2 h3
theorem RelE.setM (h:RelE E G n p W vs g M1 R M) {d x:Int} (hd:0≤d∧d<28) (h19:d≠19) (hx:word x) (ha:getV E.a d<0):RelE E G n p (zu3 W d) (vs.set d.toNat x) g M1 R (MemP.store (cxE G d) 0 4 x M):=by
 obtain ⟨s1,s2,s3,s4,s5,s6⟩:=h.cxst (v:=d) ⟨hd.1,by omega⟩ hx;refine ⟨z4g h.vars _ hx,s1,h.gok,h.gp,h.reg,h.zero,h.base,fun v hv hva=>?_,fun v hv hva=>?_,fun v h0 h1 h2 h3=>?_,fun y h0 h1=>?_,fun y r h0 h1 hr=>?_,fun y h0 h1 r hr=>?_,fun y hy=>?_,s6.trans h.fet⟩
 ·have hvd:v≠d:=fun e=>by subst e;omega
  rw [zoo hd.1 hv.1 hvd];rcases zsx hd.1 hv with h4|h4
  ·exact absurd h4 hvd
  ·exact h.inR v h4 hva
 ·by_cases hvd:v=d
  ·subst hvd;rw [s2,zon h.vars hd]
  ·rw [s3 v hv.1 (by have:=hv.2.1;omega) hvd,zoo hd.1 hv.1 hvd]
   rcases zsx hd.1 hv with h4|h4
   ·exact absurd h4 hvd
   ·exact h.inM v h4 hva
 ·have hvd:v≠d:=fun e=>by subst e;omega
  rw [s3 v h0 zO hvd,zoo hd.1 h0 hvd];exact h.old v h0 h1 h2 h3
 ·rw [s4 y h0 (.inl (by unfold cxE;omega))];exact h.guest y h0 h1
 ·rw [s5];exact h.grr y r h0 h1 hr
 ·rw [s5];exact h.crr y h0 h1 r hr
 ·rw [s4 y zO (.inr (by unfold cxE;omega))];exact h.keep y hy
theorem RelE.save (h:RelE E G n p W vs g M1 R M) {v:Int} (hv:0≤v∧v<19) (ha:0≤getV E.a v):RelE E G n p W vs g M1 R (MemP.store (cxE G v) 0 4 (getV vs v) M):=by
 obtain ⟨s1,s2,s3,s4,s5,s6⟩:=h.cxst (v:=v) ⟨hv.1,by omega⟩ (zop h.vars v);refine ⟨h.vars,s1,h.gok,h.gp,h.reg,h.zero,h.base,h.inR,fun u hu hua=>?_,fun u h0 h1 h2 h3=>?_,fun y h0 h1=>?_,fun y r h0 h1 hr=>?_,fun y h0 h1 r hr=>?_,fun y hy=>?_,s6.trans h.fet⟩
 ·have hne:u≠v:=fun e=>by subst e;omega
  rw [s3 u hu.1 (by have:=hu.2.1;omega) hne];exact h.inM u hu hua
 ·by_cases hne:u=v
  ·subst hne;exact s2
  ·rw [s3 u h0 zO hne];exact h.old u h0 h1 h2 h3
 ·rw [s4 y h0 (.inl (by unfold cxE;omega))];exact h.guest y h0 h1
 ·rw [s5];exact h.grr y r h0 h1 hr
 ·rw [s5];exact h.crr y h0 h1 r hr
 ·rw [s4 y zO (.inr (by unfold cxE;omega))];exact h.keep y hy
theorem RelE.done {F:Int→Option QI} {B:Int} {k:Nat} {R0:Int→Int} (h:RelE E G n p W vs g M1 R0 M) (hA:AlOk E.a) (hB:0≤B∧B≤4000000000) {d x:Int} (hd:0≤d∧d<28) (h19:d≠19) (hx:word x) (hwr:E.written.testBit d.toNat=true) (hc:Cd F B k (dnE E d)):
  ∃ R' M',Ex F B k (updR R0 (tgE E d) x) M (k+(dnE E d).length) R' M' (dnE E d).length∧RelE E G n p (zu3 W d) (vs.set d.toNat x) g M1 R' M':=by
 unfold dnE tgE rrE at*;by_cases ha:getV E.a d<0
 ·rw [if_pos ha] at hc⊢
  rw [if_neg zO];have h2:=h.upd hA (d:=10) (x:=x) zO hx
  have hv64:0≤d∧d<64:=⟨hd.1,by omega⟩
  have h1:=zlh (R:=updR R0 10 x) (M:=M) hB hc (by rw [h2.cxw hv64];exact h2.cxbad hv64 (.inr rfl));rw [h2.cxw hv64,z86 (by decide)] at h1;exact ⟨_,_,h1,h2.setM hd h19 hx ha⟩
 ·rw [if_neg ha] at hc⊢
  rw [if_pos zO];refine ⟨_,_,Ex.refl,?_⟩;have:=(hA.lo d hd.1 hd.2).2;unfold regE;rw [if_pos ⟨by omega,this⟩];exact h.setR hA hd h19 hx zO hwr
theorem RelE.saves {F:Int→Option QI} {B:Int} {k:Nat} (hA:AlOk E.a) (hB:0≤B∧B≤4000000000):∀ (j:Nat),j≤19→∀ {M:MemP},RelE E G n p W vs g M1 R M→Cd F B k (svTo E j)→
  ∃ M',Ex F B k R M (k+(svTo E j).length) R M' (svTo E j).length∧RelE E G n p W vs g M1 R M'∧(∀ v,0≤v→v<(j:Int)→M'.load (cxE G v) 0 4=getV vs v)∧(∀ v,(j:Int)≤v→v<64→M'.load (cxE G v) 0 4=M.load (cxE G v) 0 4)
 |0,_,M,h,_=>⟨M,Ex.refl,h,fun v h0 h1=>by omega,fun _ _ _=>rfl⟩
 |j+1,hj,M,h,hc=>by
  obtain ⟨M',e1,r1,s1,t1⟩:=RelE.saves hA hB j zO h (Cd.left (m:=sv1 E j) hc);have hc2:Cd F B (k+(svTo E j).length) (sv1 E j):=Cd.right hc;have hjv:(0:Int)≤(j:Int)∧(j:Int)<64:=(by omega);show ∃ M',Ex F B k R M (k+(svTo E j++sv1 E j).length) R M' (svTo E j++sv1 E j).length∧_;rw [List.length_append, ← Nat.add_assoc];unfold sv1 at hc2⊢;by_cases hs:0≤getV E.a (j:Int)∧E.written.testBit j=true
  ·rw [if_pos hs] at hc2⊢
   have hr:=(hA.lo (j:Int) zO zO).2;have hreg:regE (getV E.a (j:Int))=getV E.a (j:Int)+1:=if_pos ⟨hs.1,hr⟩;have hval:R (regE (getV E.a (j:Int)))=getV vs (j:Int):=(by rw [hreg];exact r1.inR (j:Int) ⟨by omega,by omega,by omega,.inl zO⟩ hs.1);have h1:=zlh (R:=R) (M:=M') hB hc2 (by rw [r1.cxw hjv];exact r1.cxbad hjv (.inr rfl));rw [r1.cxw hjv,hval] at h1;obtain ⟨c1,c2,c3,c4,c5,c6⟩:=r1.cxst hjv (zop r1.vars (j:Int));refine ⟨_,e1.trans h1,r1.save ⟨by omega,by omega⟩ hs.1,fun v h0 hv=>?_,fun v h0 hv=>?_⟩
   ·by_cases hvj:v=(j:Int)
    ·subst hvj;exact c2
    ·rw [c3 v h0 zO hvj];exact s1 v h0 zO
   ·rw [c3 v zO hv zO];exact t1 v zO hv
  ·rw [if_neg hs]
   refine ⟨M',e1,r1,fun v h0 hv=>?_,fun v h0 hv=>t1 v zO hv⟩;by_cases hvj:v=(j:Int)
   ·subst hvj
    by_cases ha:0≤getV E.a (j:Int)
    ·have hw:E.written.testBit (j:Int).toNat=false:=by
      rw [Int.toNat_natCast]
      cases hb:E.written.testBit j with
      |false=>rfl
      |true=>exact absurd ⟨ha,hb⟩ hs
     exact r1.old (j:Int) zO zO ha hw
    ·exact r1.inM (j:Int) ⟨by omega,by omega,by omega,.inl zO⟩ zO
   ·exact s1 v h0 zO
end
theorem z0h {P:Program} {w0:World} {G:Gs} {S:List Ow} {f:Fr} {o:Oper} {K:AV→Prop} {t e:TypeId} {x:Operand} {inf:TypeInfo} (i off n:Nat) (hop:o.op= .slice t x none none none) (ht:P.underlying t=some (.array n e)) (hif:P.info? e=some inf) (hx:f.ev x= .p (.c (.ref i off))) (hk:K (.p (.c (.sl i off n n)))):QRun P w0 G S f o K:=by
 refine ⟨_,hk,fun r a hf=>?_⟩;have h1:=hf.ev x;rw [hx] at h1;obtain ⟨b,hb,hu⟩:=zi4 h1;refine ⟨.slice (some ⟨b,off,none⟩) n n,?_,fun w hR=>?_⟩
 ·simp only [AV.den,Pc.den,CV.den];exact ⟨b,hb,rfl⟩
 ·have hs:=z2j P e w hif
  simp [execOp,hop,hu,Instr.sliceAt,underlying,ht,Instr.sureAddr,Instr.sliceBounds,hs,za0]
theorem z1g (r:Int) (w:World) (hr: -1000≤r∧r≤1000):Calls Tryz.prog 42 #[.int .i64 r] w fun e w'=>e= .returned (.int .i64 (regE r))∧Below w.heap.size w w':=by
 refine zfh [.int .i64 r] Tryz.func42 Tryz.ntmps42 rfl zS ?_;refine z3i ?_;(conv=>whnf);refine z3m ?_;(conv=>whnf);by_cases h0:r<0
 ·rw [show decide (r<0)=true from decide_eq_true h0]
  refine kB ?_;refine zcg ?_;(conv=>whnf)
  exact zmp rfl fun w2 hB=>⟨by unfold regE;rw [if_neg zO],hB⟩
 ·rw [show decide (r<0)=false from decide_eq_false h0]
  refine kB ?_;by_cases h9:r≥9
  ·rw [show decide (r≥9)=true from decide_eq_true h9]
   refine kB ?_;refine zcg ?_;(conv=>whnf)
   exact zmp rfl fun w2 hB=>⟨by unfold regE;rw [if_neg zO],hB⟩
  ·rw [show decide (r≥9)=false from decide_eq_false h9]
   refine kB ?_;refine ⟨r+1,wr64 zO,?_⟩;(conv=>whnf);refine zcg ?_;(conv=>whnf)
   exact zmp rfl fun w2 hB=>⟨by unfold regE;rw [if_pos zO],hB⟩
abbrev zg3 (d n:Int):List QI:=[⟨41,d,0,0,n/1024⟩,⟨18,d,d,0,n%1024⟩]
theorem zgz (d n:Int):con2 d n=(zg3 d n).map fun i=>⟨i,none⟩:=rfl
theorem zg4 (d n:Int) (w:World) (hn:word n):Calls Tryz.prog 89 #[.int .i64 d,.int .u32 n] w fun e w'=>e= .returned (.agg ((zg3 d n).flatMap iqL).toArray)∧Below w.heap.size w w':=by
 refine zfh [.int .i64 d,.int .u32 n] Tryz.func89 Tryz.ntmps89 rfl zS ?_
 refine z3i ?_
 conv=>whnf
 refine z3m ?_
 conv=>whnf
 refine ⟨by decide,n/1024,by rw [Int.fdiv_eq_ediv_of_nonneg _ (by decide)];rfl,?_⟩
 conv=>whnf
 refine ⟨n%1024,by rw [z83 hn (by unfold word;omega)];exact zbe 10 hn.1,?_⟩
 conv=>whnf
 refine zcg ?_
 conv=>whnf
 exact zmp rfl fun w2 hB=>⟨rfl,hB⟩
section
variable {w:World} {g:Nat} {vC vS:Value} {X:EmX}
theorem zji (h:EmAt w g vC vS X) {v:Int} (hv:0≤v∧v<28):zac w Gs.nil g (0+0+v.toNat*1) [.int .i64 (getV X.a v)]:=by
 refine zd1 h.blk ?_;have hlt:v.toNat<X.a.length:=(by rw [h.al];omega);unfold EmX.cells getV;rw [show 0+0+v.toNat*1=v.toNat by omega,List.getElem?_append_left (by rw [List.length_map];exact hlt),List.getElem?_map,List.getElem?_eq_getElem hlt]
 rfl
theorem zjj (h:EmAt w g vC vS X) {k:Nat} {x:Value} (hx:[Value.int .i64 X.size,vC,vS,.int .u32 X.live,.int .i64 X.index,.int .u32 X.written][k]?=some x):zac w Gs.nil g (0+(28+k)) [x]:=by
 refine zd1 h.blk ?_;unfold EmX.cells;rw [show 0+(28+k)=(X.a.map (Value.int .i64)).length+k by rw [List.length_map,h.al];omega,List.getElem?_append_right zO,Nat.add_sub_cancel_left];exact hx
theorem z04 (E:Em) (h:EmAt w g vC vS X) (hE:E.a=X.a) (hA:∀ v,0≤v→v<28→ -1000≤getV X.a v∧getV X.a v≤1000) (v s:Int) (hv:0≤v∧v<28) (hlen:X.code.length≤100000000):
  Calls Tryz.prog 71 #[pV g,.int .i64 v,.int .i64 s] w fun e w'=>e= .returned (.int .i64 (rrE E v s))∧EmTo w w' g vC vS (X.app (rdE E v s)):=by
 refine zfh [pV g,.int .i64 v,.int .i64 s] Tryz.func71 Tryz.ntmps71 rfl zS ?_;refine z3i ?_;(conv=>whnf);refine z25 ?_;refine z3i ?_;(conv=>whnf);refine zz9 (size:=1) g 0 28 v rfl rfl rfl rfl rfl rfl hv.1 hv.2 ?_;(conv=>whnf);refine ⟨_,zji h hv,?_⟩;(conv=>whnf);unfold rrE rdE;rw [hE];refine z23 rfl (fun hc=>?_) (fun hc=>z3j (zcd ?_))
 ·have ha:0≤getV X.a v:=by simpa using hc
  rw [if_pos ha,if_pos ha,zbn];refine z3m ?_;(conv=>whnf);refine zz9 (size:=1) g 0 28 v rfl rfl rfl rfl rfl rfl hv.1 hv.2 ?_;(conv=>whnf);refine ⟨_,zji h hv,?_⟩;(conv=>whnf);refine ze2 rfl zK (fun r w' hR=>z1g (getV X.a v) w' (hA v hv.1 hv.2)) ?_;(conv=>whnf);refine zcl (zcg ?_);(conv=>whnf)
  exact zmp rfl fun w2 hB=>⟨rfl,EmTo.refl h hB⟩
 ·have ha:¬0≤getV X.a v:=by simpa using hc
  rw [if_neg ha,if_neg ha];refine z25 ?_;refine z26 5 rfl rfl rfl ?_;(conv=>whnf);refine ⟨4*v,wr64 zO,?_⟩;(conv=>whnf);refine ⟨4*v,by rw [wr32];omega,?_⟩;(conv=>whnf);refine zsd (.tuple #[]) (EmTo.refl h (Below.refl _ _)) (us:=[.int .i64 23,.int .i64 s,.int .i64 15,.int .u32 (4*v)]) rfl zK (fun w1 vC1 vS1 k1=>zq5 k1 23 s 15 (4*v) hlen) fun w1 hl=>?_;(conv=>whnf);refine zcd ?_;refine z3m ?_;(conv=>whnf);refine zcg ?_;(conv=>whnf)
  exact zmp rfl fun w2 hB=>⟨rfl,hl.later hB⟩
theorem z8m (E:Em) (h:EmAt w g vC vS X) (hE:E.a=X.a) (hA:∀ v,0≤v→v<28→ -1000≤getV X.a v∧getV X.a v≤1000) (v:Int) (hv:0≤v∧v<28):
  Calls Tryz.prog 73 #[pV g,.int .i64 v] w fun e w'=>e= .returned (.int .i64 (tgE E v))∧Below w.heap.size w w':=by
 refine zfh [pV g,.int .i64 v] Tryz.func73 Tryz.ntmps73 rfl zS ?_;refine z3i ?_;(conv=>whnf);refine z25 ?_;refine z3i ?_;(conv=>whnf);refine zz9 (size:=1) g 0 28 v rfl rfl rfl rfl rfl rfl hv.1 hv.2 ?_;(conv=>whnf);refine ⟨_,zji h hv,?_⟩;(conv=>whnf);unfold tgE rrE;rw [hE];refine z23 rfl (fun hc=>?_) (fun hc=>z3j (zcd ?_))
 ·have ha:0≤getV X.a v:=by simpa using hc
  rw [if_pos ha];refine z3m ?_;(conv=>whnf);refine zz9 (size:=1) g 0 28 v rfl rfl rfl rfl rfl rfl hv.1 hv.2 ?_;(conv=>whnf);refine ⟨_,zji h hv,?_⟩;(conv=>whnf);refine ze2 rfl zK (fun r w' hR=>z1g (getV X.a v) w' (hA v hv.1 hv.2)) ?_;(conv=>whnf);refine zcl (zcg ?_);(conv=>whnf)
  exact zmp rfl fun w2 hB=>⟨rfl,hB⟩
 ·have ha:¬0≤getV X.a v:=by simpa using hc
  rw [if_neg ha];refine z3m ?_;(conv=>whnf);refine zcg ?_;(conv=>whnf)
  exact zmp rfl fun w2 hB=>⟨rfl,hB⟩
theorem zja (E:Em) (h:EmAt w g vC vS X) (hE:E.a=X.a) (v:Int) (hv:0≤v∧v<28) (hlen:X.code.length≤100000000):
  Calls Tryz.prog 74 #[pV g,.int .i64 v] w fun e w'=>e= .returned (.tuple #[])∧EmTo w w' g vC vS (X.app (dnE E v)):=by
 refine zfh [pV g,.int .i64 v] Tryz.func74 Tryz.ntmps74 rfl zS ?_;refine z3i ?_;(conv=>whnf);refine zz9 (size:=1) g 0 28 v rfl rfl rfl rfl rfl rfl hv.1 hv.2 ?_;(conv=>whnf);refine ⟨_,zji h hv,?_⟩;(conv=>whnf);unfold dnE;rw [hE];refine z23 rfl (fun hc=>?_) (fun hc=>z3j ?_)
 ·have ha:getV X.a v<0:=by simpa using hc
  rw [if_pos ha];refine z26 4 rfl rfl rfl ?_;(conv=>whnf);refine ⟨4*v,wr64 zO,?_⟩;(conv=>whnf);refine ⟨4*v,by rw [wr32];omega,?_⟩;(conv=>whnf);refine zsd (.tuple #[]) (EmTo.refl h (Below.refl _ _)) (us:=[.int .i64 25,.int .i64 10,.int .i64 15,.int .u32 (4*v)]) rfl zK (fun w1 vC1 vS1 k1=>zq5 k1 25 10 15 (4*v) hlen) fun w1 hl=>?_;(conv=>whnf);refine zb5 ?_;(conv=>whnf)
  exact zmp rfl fun w2 hB=>⟨rfl,hl.later hB⟩
 ·have ha:¬getV X.a v<0:=by simpa using hc
  rw [if_neg ha,zbn];refine zb5 ?_;(conv=>whnf)
  exact zmp rfl fun w2 hB=>⟨rfl,EmTo.refl h hB⟩
theorem zg5 (h:EmAt w g vC vS X) (d n:Int) (hn:word n) (hlen:X.code.length≤100000000):
  Calls Tryz.prog 169 #[pV g,.int .i64 d,.int .u32 n] w fun e w'=>e= .returned (.tuple #[])∧EmTo w w' g vC vS (X.app (conE d n)):=by
 refine zfh [pV g,.int .i64 d,.int .u32 n] Tryz.func169 Tryz.ntmps169 rfl zS ?_;refine z25 ?_;refine z3i ?_;(conv=>whnf);refine ze2 rfl zK (fun r w' hR=>zm5 n 18 w' hn (.inl rfl)) ?_;(conv=>whnf);unfold conE;refine z23 rfl (fun hc=>?_) (fun hc=>z3j (zcd ?_))
 ·rw [if_pos (show zm1 n=true from hc)]
  refine z25 ?_;refine z26 3 rfl rfl rfl ?_;(conv=>whnf);refine zsd (.tuple #[]) (EmTo.refl h (Below.refl _ _)) (us:=[.int .i64 16,.int .i64 d,.int .i64 0,.int .u32 n]) rfl zK (fun w1 vC1 vS1 k1=>zq5 k1 16 d 0 n hlen) fun w1 hl=>?_;(conv=>whnf);refine zcd ?_;refine z3m ?_;(conv=>whnf);refine zcl (zcg ?_);(conv=>whnf)
  exact zmp rfl fun w2 hB=>⟨rfl,hl.later hB⟩
 ·rw [if_neg (show ¬zm1 n=true from by rw [show zm1 n=false from hc];decide)]
  refine z3i ?_;(conv=>whnf);refine ze2 rfl zK (fun r w' hR=>zg4 d n w' hn) ?_;(conv=>whnf);refine z26 2 rfl rfl rfl ?_;(conv=>whnf);refine zwq (z0h 0 0 2 rfl rfl rfl rfl ?_) rfl;(conv=>whnf);refine zse h (zg3 d n) 0 2 rfl rfl zO fun w1 hl=>?_;(conv=>whnf);refine zb5 ?_;(conv=>whnf)
  exact zmp rfl fun w2 hB=>⟨rfl,by rw [zgz,zbl];exact hl.later hB⟩
end
end Go.Proofs.YtocafomnnkmjfaaGreat
