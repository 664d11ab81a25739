import Derived.ProofKit
import Derived.OpenShut
import Derived.ShutString
import Derived.ChangeOld
import Derived.Below
import Derived.Lib.SmallJoins
import Derived.Deep.Strs
import Derived.Test.YtocafomnnkmjfaaGreatK38
set_option maxRecDepth 100000
set_option maxHeartbeats 4000000
namespace Go.Proofs.YtocafomnnkmjfaaGreat
open Go.ChangeShapes Go.WideShapes Go.ChangeAt Go.RowKit
theorem ownK:ownKnob Tryz.prog.godebug=none:=by kernel_rfl
theorem yce:laidOutB Tryz.prog=true:=by kernel_rfl
theorem yc2 {n:Int} (h:(Lit.int .u32 n).wf=true):word n:=by
 simp [Lit.wf,IntKind.min,IntKind.max,IntKind.signed,IntKind.bits] at h;unfold word;omega
open Go.RowKit
theorem ych (n m:Int) (hm:0<m):(n.tmod m+m).tmod m=n%m∧ -m<n.tmod m∧n.tmod m<m:=by
 have h1:=Int.tmod_lt_of_pos n hm;have h2: -m<n.tmod m:=(by have:=Int.lt_tmod_of_pos n hm;omega);refine ⟨?_,h2,h1⟩;rw [Int.tmod_eq_emod_of_nonneg zO,Int.add_emod_right];have:n=m*n.tdiv m+n.tmod m:=(Int.mul_tdiv_add_tmod n m).symm
 conv=>rhs;rw [this]
 rw [Int.mul_add_emod_self_left]
theorem ycg (n m:Int) (w:World) (hm:0<m∧m<4611686018427387904):Calls Tryz.prog 20 #[intV n,intV m] w fun e w'=>e= .returned (intV (n%m))∧Below w.heap.size w w':=by
 obtain ⟨h1,h2,h3⟩:=ych n m hm.1
 refine zfj [intV n,intV m] Tryz.func20 Tryz.ntmps20 rfl zS ?_
 conv=>whnf
 refine ⟨by omega,_,rfl,?_⟩
 conv=>whnf
 refine ⟨n.tmod m+m,wr64 zO,?_⟩
 conv=>whnf
 refine ⟨by omega,_,h1,?_⟩
 conv=>whnf
 exact zmj rfl fun w' hB=>⟨rfl,hB⟩
theorem yci {H:Type} {enc:TypeId×Value→H} {W:World} {x:Int} {d:DataW H} {p:List MemPlace} (h:DataW.Trod enc Tryz.prog W 0 (fun _=>true) true 41 (.int .u32 x) d p):word x:=by
 obtain ⟨fuel,hf⟩:=h;obtain ⟨z,e1,_,e3⟩:=DataW.trod_int Tryz.underlying41 hf;simp [Value.cells] at e1;obtain rfl:=e1;exact yc2 e3
theorem yb6 {w0:World} {G:Gs} {S:List Ow} {K:AV→List Ow→Prop} (is:List QI) (j n c:Nat) {t:TypeId} (hj:S[j]?=some (.cells t ((is.flatMap iqL).map .v))) (hn:is.length=n) (hv:∀ i∈is,z9o i=true∧i.ok) (hlen:n≤1000000000) (hK:K (AV.of (strV (z8w is))) S):CallS Tryz.prog w0 G 75 [.p (.c (.sl j 0 n c))] S K:=by
 subst hn;refine ⟨by kernel_rfl,fun r w us hR hd=>?_⟩;obtain ⟨u,l,rfl,d1,d2⟩:=hd;obtain rfl:l=[]:=d2;obtain ⟨q,hq,rfl⟩:=zi1 d1;obtain ⟨q',vs,e1,e2,e3⟩:=hR.own j _ hj;rw [hq] at e1;injection e1 with e1;subst e1;obtain rfl:=zis e3
 refine (z8z is hv _ c hlen w (SlAt.mk_ (zpt e2) fun i u hi=>by simp [World.cell?,e2,hi])).mono fun e w' ⟨he,hB⟩=>⟨_,_,_,r,he,AV.of_den r _,hR.below hB,Env.le.refl r,hK⟩
def sysI:QI:=⟨48,0,0,0,0⟩
def unL:List Int:=putL (yaz sysI)
theorem yb7 {d n:Int} (hd:r16 d) (hn:word n):∀ i∈zgz d n,z9o i=true∧i.ok:=fun i hi=>by
 have h:=zgw hd hn;rw [zgv] at h;exact h ⟨i,none⟩ (List.mem_map.2 ⟨i,hi,rfl⟩)
theorem yck (x:Int) (hx:word x) (w:World):Calls Tryz.prog 36 #[.int .u32 x] w fun e w'=>e= .returned (strV (z8w (zgz 11 x)))∧Below w.heap.size w w':=by
 refine zfg [.int .u32 x] Tryz.func36 Tryz.ntmps36 rfl zS ?_
 refine z3p ?_
 conv=>whnf
 refine z3p ?_
 conv=>whnf
 refine ze2 rfl zK (fun r w' hR=>zg0 11 x w' hx) ?_
 conv=>whnf
 refine z3p ?_
 conv=>whnf
 refine zwx (z0o 0 0 2 rfl rfl rfl rfl ?_) rfl
 conv=>whnf
 refine yb6 (zgz 11 x) 0 2 2 rfl rfl (yb7 rlit hx) (by decide) ?_
 conv=>whnf
 refine z3t ?_
 conv=>whnf
 refine zcg ?_
 conv=>whnf
 exact zmj rfl fun w2 hB=>⟨rfl,hB⟩
def cntI (k:Int):List It→Nat
 |[]=>0
 |x::l=>(match x.s with|some s=>if s.kind=k then 1 else 0|none=>0)+cntI k l
section
variable {E:Em} {c k:Int}
end
def ConAt (p:Int) (l:List It):Prop:=∀ (k:Nat) (it:It) (s:Sk),l[k]?=some it→it.s=some s→s.kind=6→∃ j:Nat,k=j+3∧l[j]?=some (iI 41 11 0 (p/1024))∧l[j+1]?=some (iI 18 11 11 (p%1024))
theorem ConAt.app {p:Int} {l m:List It} (h1:ConAt p l) (h2:ConAt p m):ConAt p (l++m):=fun k it s hk hs h6=>by
 rcases Nat.lt_or_ge k l.length with h|h
 ·rw [List.getElem?_append_left h] at hk
  obtain ⟨j,rfl,e1,e2⟩:=h1 k it s hk hs h6;exact ⟨j,rfl,by rw [List.getElem?_append_left zO];exact e1,by rw [List.getElem?_append_left zO];exact e2⟩
 ·rw [List.getElem?_append_right h] at hk
  obtain ⟨j,hj,e1,e2⟩:=h2 _ it s hk hs h6;refine ⟨j+l.length,by omega,?_,?_⟩
  ·rw [List.getElem?_append_right zO,Nat.add_sub_cancel];exact e1
  ·rw [List.getElem?_append_right zO,show j+l.length+1-l.length=j+1 by omega];exact e2
theorem ConAt.none {p:Int} {l:List It} (h:cntI 6 l=0):ConAt p l:=fun k it s hk hs h6=>by
 exfalso
 have:∀ (l:List It) (k:Nat),l[k]?=some it→cntI 6 l≠0:=by
  intro l
  induction l with
  |nil=>intro k hk;simp at hk
  |cons x l ih=>
   intro k hk h0;unfold cntI at h0
   cases k with
   |zero=>
    have:x=it:=(by simpa using hk);subst this;rw [hs] at h0;dsimp only at h0;rw [if_pos h6] at h0;omega
   |succ k=>exact ih k (by simpa using hk) zO
 exact this l k hk h
structure SiteGood (b:Blk) (a:List Int) (tx:List Int) (x:SiteP):Prop where
 kind:1≤x.kind∧x.kind≤6
 live:x.live=0∨x.live=(zs4 a 19:Nat)
 index:0≤x.index∧x.index<(b.at_.length:Int)
 outer:¬(x.kind=2∨x.kind=3)→x.live=0∧x.index=0
 target:x.kind≠4→x.kind≠6→x.target=0
 word:word x.target
 con0:x.kind≠6→x.const=0
 at_:∃ k:Nat,x.off=((4*k:Nat):Int)∧4*k+4≤tx.length∧(x.kind≠3→(tx.drop (4*k)).take 4=unL)∧(x.kind=3→∃ i:QI,z9o i=true∧i.ok∧23≤i.op∧i.op≤26∧(tx.drop (4*k)).take 4=putL (yaz i))
 con:x.kind=6→x.target=0∧∃ k:Nat,x.const=((4*k:Nat):Int)∧4*k+8≤tx.length∧(tx.drop (4*k)).take 8=z8w (zgz 11 0)
def yb3 (M:MemP) (base:Nat) (code:List Int):Prop:=∀ j:Nat,j<code.length→M.get ((base+j:Nat):Int)=(code[j]?).getD 0
theorem ycc {g:MemP} {G P base:Nat} {ws code:List Int} (hg:g.ok (256*G) G) (hGP:G<P) (hP:P≤4096) (hc:∀ x∈code,0≤x∧x<256) (hb2:base+code.length≤256*P):yb3 (zp7 g G P base ws code) base code:=by
 have hz:(MemP.zero P).ok (256*P) P:=zuo (p:=P) hP;have k1:=zp4 hg hz G (Nat.le_refl _);unfold zp7;generalize zp2 g G (MemP.zero P)=M1 at k1⊢;have k2:=zy4 k1 ((256*G:Nat):Int) (ya6 ws) (ya4 ws).length (Nat.le_refl _);generalize M1.pokeAt ((256*G:Nat):Int) (ya4 ws) (ya4 ws).length=M2 at k2⊢;have k3:=zzc k2 G (x:=3) (by decide);generalize M2.protect G 3=M3 at k3⊢;have k4:=zy4 k3 (base:Int) hc code.length (Nat.le_refl _);have g4:=fun y (hy:0≤y)=>zy2 k3 base code hc hb2 hy;generalize M3.pokeAt (base:Int) code code.length=M4 at k4 g4⊢;obtain ⟨d5,_,_⟩:=zqi (G+1) k4 (P-(G+1)) zO;generalize zqh (G+1) (P-(G+1)) M4=M5 at d5⊢;obtain ⟨d6,_⟩:=zp9 (G+1) 4 M5 (P-(G+1));generalize zp8 (G+1) 4 (P-(G+1)) M5=M6 at d6⊢;intro j hj
 have hget:∀ y,M6.get y=M4.get y:=fun y=>by unfold MemP.get;rw [d6,d5]
 rw [hget,g4 _ zO,if_pos zO,show (((base+j:Nat):Int)-(base:Int)).toNat=j by omega]
theorem ycj {g M:MemP} {G P base:Nat} {ws code:List Int} (h:HostIs g M G P base ws code) (hD:yb3 M base code) (hw:ws.length=64) (hGP:G<P) (off:Nat) (l:List Int) (hl:∀ x∈l,0≤x∧x<256) (ho:off+l.length≤code.length) (hb1:256*(G+1)≤base) (hb2:base+code.length≤256*P)
  (code':List Int) (hlen:code'.length=code.length) (hin:∀ j:Nat,j<l.length→code'[off+j]?=l[j]?) (hout:∀ j:Nat,j<off∨off+l.length≤j→code'[j]?=code[j]?):
  HostIs g (zqh (G+1) (P-(G+1)) (M.pokeAt ((base:Int)+(off:Int)) l l.length)) G P base ws code':=by
 have k4:=zy4 h.ok ((base+off:Nat):Int) hl l.length (Nat.le_refl _);have g4:=fun y (hy:0≤y)=>zy2 h.ok (base+off) l hl zO hy;obtain ⟨_,q4,_⟩:=zy3 M ((base+off:Nat):Int) l l.length;rw [show (base:Int)+(off:Int)=((base+off:Nat):Int) by omega];generalize M.pokeAt ((base+off:Nat):Int) l l.length=M4 at k4 g4 q4⊢;have k5:=zqj (G+1) k4 (P-(G+1));obtain ⟨d5,q5,i5⟩:=zqi (G+1) k4 (P-(G+1)) zO;generalize zqh (G+1) (P-(G+1)) M4=M5 at k5 d5 q5 i5⊢
 have hget:∀ y,M5.get y=M4.get y:=fun y=>by unfold MemP.get;rw [d5]
 refine ⟨k5,fun y y0 y1=>?_,fun k x hk hx=>?_,fun q hq=>?_,?_,fun q q0 q1=>?_,fun j hj=>?_⟩
 ·rw [hget,g4 y y0,if_neg zO];exact h.guest y y0 y1
 ·have hk64:k<64:=by
   rcases Nat.lt_or_ge k ws.length with h|h
   ·omega
   ·rw [List.getElem?_eq_none h] at hk;cases hk
  rw [← h.ctx k x hk hx];have hn:=h.ok.np;have hpm:=h.ok.pmax;refine ztb (by unfold cxE;omega) 0 4 (by unfold cxE;omega) fun y h3 h4=>?_;rw [hget,g4 y (by unfold cxE at h3;omega),if_neg (by unfold cxE at*;omega)]
 ·rw [q5,q4];exact h.grr q hq
 ·rw [q5,q4];exact h.crr
 ·rw [q5,q4];exact h.rest q q0 q1
 ·rw [i5 (base+j) zO zO]
  have h1:M4.data[base+j]?=some (M4.get ((base+j:Nat):Int)):=by
   unfold MemP.get;rw [Int.toNat_natCast,List.getElem?_eq_getElem (by rw [k4.ld];omega)]
   rfl
  have h2:code'[j]?=some ((code'[j]?).getD 0):=by rw [List.getElem?_eq_getElem hj];rfl
  rw [h1,h2,g4 _ zO]
  congr 1
  by_cases c:off≤j∧j<off+l.length
  ·rw [if_pos zO,show (((base+j:Nat):Int)-((base+off:Nat):Int)).toNat=j-off by omega, ← hin (j-off) zO,show off+(j-off)=j by omega]
  ·rw [if_neg zO,hD j zO,hout j zO]
theorem ycd {b:Blk} {a:List Int} {G P base:Nat} {vs:List Int} {gm:MemP} {steps limit junk pred:Int} (hpw:word pred) (hb:b.ok) (hv:z9n b=true) (hA:AlOk a) (hG:1≤G) (hg:gm.ok (256*G) G) (hvs:VarsOk vs) (hs:word steps) (hl:word limit)
  (hGP:G<P) (hP:P≤4096) (hb0:base%4=0) (hb1:256*(G+1)≤base) (hb2:base+4*(yan b a (256*(G:Int)) (256*(G:Int)) pred).length≤256*P) {M0:MemP} (his:HostIs gm M0 G P base (ctxL vs steps limit) (z8u (yan b a (256*(G:Int)) (256*(G:Int)) pred)))
  (hlim:¬limit<(steps+lenE b)%4294967296) (hleave:(zkq b vs gm).out.leaves=false):
  ∃ (k:Nat) (R':Int→Int) (M':MemP) (j:Nat) (sk:Sk),k<100000∧zri (z06 M0.fet) k (zqd junk 16) (base:Int) M0=some (R',(base:Int)+4*(j:Int),M')∧z06 M0.fet ((base:Int)+4*(j:Int))=some ⟨48,0,0,0,0⟩∧
   (yan b a (256*(G:Int)) (256*(G:Int)) pred)[j]?=some (zqv sk)∧M'.ok (256*P) P∧
   (sk.kind=4∨(sk.kind=6∧(zkq b vs gm).out.pc=pred)∨(sk.kind=5∧(zkq b vs gm).out.pc≠pred∧M'.load (cxE G 19) 0 4=(zkq b vs gm).out.pc)):=by
 have hwk:=yap (a:=a) (ctx:=256*(G:Int)) (size:=256*(G:Int)) (pred:=pred) hb hv (by unfold word;omega) zO hpw;have hwl:=yao (a:=a) (ctx:=256*(G:Int)) (size:=256*(G:Int)) (pred:=pred) hv;have hln:=(z9x hv).2;have hE:=zqp hg hG hGP hvs hs hl his;have hc:=zqr his hwk hb0 hb1 hb2 zO;clear his;generalize hLe:yan b a (256*(G:Int)) (256*(G:Int)) pred=l at*;have hp0:pcE (base:Int) 0=(base:Int):=(by unfold pcE;omega);have hrun:=yau (F:=z06 M0.fet) (B:=(base:Int)) (R:=zqd junk 16) hb hv hA (pred:=pred) hpw hG hE zO (zqf junk 16) (zqg junk 16) (by rw [hLe];exact hc);rw [hLe] at hrun
 have hat:∀ (j:Nat) (it:It),l[j]?=some it→z06 M0.fet (pcE (base:Int) j)=some it.i:=fun j it hj=>by
  have:=hc.2 j it hj;rw [Nat.zero_add] at this;exact this
 obtain ⟨vs',hov,hvk,hcode⟩:=hrun.2 hlim;rw [if_neg (by rw [hleave];decide)] at hcode;obtain ⟨j,it,R',M',hj,⟨k,hk,hit⟩,hrel,hwords,hcase⟩:=hcode;rw [hp0,Nat.zero_add] at hit;rcases hcase with rfl|⟨rfl,hpc⟩|⟨rfl,h1,h19⟩
 ·exact ⟨k,R',M',j,_,by omega,hit,hat j _ hj,hj,hrel.mem,.inl rfl⟩
 ·exact ⟨k,R',M',j,_,by omega,hit,hat j _ hj,hj,hrel.mem,.inr (.inl ⟨rfl,hpc⟩)⟩
 ·exact ⟨k,R',M',j,_,by omega,hit,hat j _ hj,hj,hrel.mem,.inr (.inr ⟨rfl,h1,h19⟩)⟩
theorem yb4 {a:List Int} (hl:a.length=28) {v x:Int} (hv:0≤v∧v<28) (u:Int) (hu:0≤u):getV (a.set v.toNat x) u=if u=v then x else getV a u:=by
 unfold getV;rw [List.getElem?_set];by_cases h:u=v
 ·subst h
  rw [if_pos rfl,if_pos zO,if_pos rfl];rfl
 ·rw [if_neg zO,if_neg h]
def varB:Blk:=⟨[0],[],[⟨20,0,0,0,0⟩,⟨25,0,3,0,0⟩]⟩
theorem ycy:z9n varB=true:=by decide
theorem ycs:varB.ok:=by
 refine ⟨?_,?_,?_,by decide,by decide,by decide⟩
 ·intro x hx;rw [List.mem_singleton.1 hx];exact yaw
 ·nofun
 ·intro o ho
  have hm:mid 0:=by unfold mid;omega
  rcases List.mem_cons.1 ho with rfl|ho
  ·exact ⟨by unfold mid;decide,hm,hm,hm,yaw⟩
  ·rw [List.mem_singleton.1 ho];exact ⟨by unfold mid;decide,hm,by unfold mid;decide,hm,yaw⟩
theorem ycq:lenE varB=1:=rfl
theorem yct (vs:List Int) (gm:MemP):(zkq varB vs gm).out.leaves=false∧(zkq varB vs gm).out.pc=getV vs 3:=by
 unfold zkq;rw [if_pos ycy];exact ⟨rfl,rfl⟩
def yc0 (c _s:Int):List It:=con2 15 c++[iI 23 10 15 112,iI 23 11 15 116,iI 16 10 10 1,iI 35 11 10 2,zqv ⟨1,0,0,0,0⟩,iI 25 10 15 112,iI 23 10 15 12,i3 1 10 10 0,iI 25 10 15 76]
theorem yca {E:Em} (h:E.a=zvn):∀ j:Nat,j≤19→zjv E j=[]
 |0,_=>rfl
 |j+1,hj=>by
  show zjv E j++ent1 E j=[];rw [yca h j zO];unfold ent1;rw [h,zvt zO,if_neg (by decide)]
  rfl
theorem ycn {E:Em} (h:E.a=zvn):∀ j:Nat,j≤19→svTo E j=[]
 |0,_=>rfl
 |j+1,hj=>by
  show svTo E j++sv1 E j=[];rw [ycn h j zO];unfold sv1;rw [h,zvt zO,if_neg fun h=>absurd h.1 (by decide)]
  rfl
theorem ycz (c s p:Int):yan varB zvn c s p=yc0 c s++(con2 11 p++[iI 33 10 11 2,zqv ⟨6,0,p,0,12⟩,zqv ⟨5,0,0,0,0⟩]):=by
 unfold yan
 obtain ⟨E,hE⟩:∃ E,E=emE varB zvn s p:=⟨_,rfl⟩
 have ha:E.a=zvn:=by rw [hE];rfl
 have hp:E.pred=p:=by rw [hE];rfl
 rw [← hE]
 show (con2 15 c++([iI 23 10 15 112,iI 23 11 15 116,iI 16 10 10 (lenE varB),iI 35 11 10 2,zqv ⟨1,0,0,0,0⟩,iI 25 10 15 112]++zjv E 19))++([]++((rdE E 3 10++([i3 1 10 (rrE E 3 10) 0]++(svTo E 19++([iI 25 10 15 76]++(con2 11 E.pred++[iI 33 10 11 2,zqv ⟨6,0,E.pred,0,12⟩,zqv ⟨5,0,0,0,0⟩])))))++[]))=_
 rw [yca ha 19 (Nat.le_refl _),ycn ha 19 (Nat.le_refl _),hp,show rdE E 3 10=[iI 23 10 15 12] by unfold rdE;rw [ha,zvt zO,if_neg (by decide)];rfl,show rrE E 3 10=10 by unfold rrE;rw [ha,zvt zO,if_neg (by decide)],ycq]
 rfl
theorem yco (l m:List It):z8u (l++m)=z8u l++z8u m:=by unfold z8u;rw [List.map_append];unfold ya4;rw [List.flatMap_append]
theorem ycx (c s p:Int):z8u (yan varB zvn c s p)=z8u (yc0 c s)++(z8w (zgz 11 p)++z8u [iI 33 10 11 2,zqv ⟨6,0,0,0,12⟩,zqv ⟨5,0,0,0,0⟩]):=by
 rw [ycz,yco,yco]
 rfl
theorem yc1 (c s:Int):(yc0 c s).length=11:=rfl
theorem yb8 (p:Int):(z8w (zgz 11 p)).length=8:=by
 rw [show z8w (zgz 11 p)=z8u (con2 11 p) from rfl,z8v];rfl
theorem ycr (c s p:Int):(yan varB zvn c s p).length=16:=by rw [ycz];rfl
theorem ycp (c s p:Int) {j:Nat} (hj:j<(z8w (zgz 11 p)).length):(z8u (yan varB zvn c s p))[44+j]?=(z8w (zgz 11 p))[j]?:=by
 rw [ycx]
 have h1:(z8u (yc0 c s)).length=44:=by rw [z8v,yc1]
 rw [List.getElem?_append_right zO,h1,show 44+j-44=j by omega,List.getElem?_append_left hj]
theorem ycu (c s p q:Int) {j:Nat} (hj:j<44∨44+8≤j):(z8u (yan varB zvn c s p))[j]?=(z8u (yan varB zvn c s q))[j]?:=by
 rw [ycx,ycx]
 have h1:(z8u (yc0 c s)).length=44:=by rw [z8v,yc1]
 rcases hj with h|h
 ·rw [List.getElem?_append_left zO,List.getElem?_append_left zO]
 ·have h2:=yb8 p
  have h3:=yb8 q;rw [List.getElem?_append_right zO,List.getElem?_append_right zO,List.getElem?_append_right zO,List.getElem?_append_right zO,h2,h3]
theorem ycv (c s p:Int):z5x 0 (yan varB zvn c s p)=[⟨24,1,0,0,0,0⟩,⟨56,6,0,p,0,44⟩,⟨60,5,0,0,0,0⟩]:=by
 rw [ycz]
 rfl
theorem ycw (c s p:Int) {j:Nat} {sk:Sk} (h:(yan varB zvn c s p)[j]?=some (zqv sk)):(j=6∧sk.kind=1)∨(j=14∧sk.kind=6)∨(j=15∧sk.kind=5):=by
 rw [ycz] at h
 match j,h with
 |0,h=>cases h
 |1,h=>cases h
 |2,h=>cases h
 |3,h=>cases h
 |4,h=>cases h
 |5,h=>cases h
 |6,h=>exact .inl ⟨rfl,by cases h;rfl⟩
 |7,h=>cases h
 |8,h=>cases h
 |9,h=>cases h
 |10,h=>cases h
 |11,h=>cases h
 |12,h=>cases h
 |13,h=>cases h
 |14,h=>exact .inr (.inl ⟨rfl,by cases h;rfl⟩)
 |15,h=>exact .inr (.inr ⟨rfl,by cases h;rfl⟩)
 |j+16,h=>cases h
section
variable {w:World}
theorem yb9 {b:Blk} {A1 A2 A3:Option Addr} {c1 c2 c3:Nat} (hb:b.ok) (hv:z9n b=true) (hBA:BlkAt w b A1 A2 A3) {a:List Int} (ha:a.length=28) (hva:za2 a=true) (hal:∀ v,0≤v→v<28→ -1000≤getV a v∧getV a v≤1000) {G:Nat} {gm:MemP} {g0:Nat} {gs0:List Nat} (hG:1≤G∧G≤16) (hU:ObjsAt w (g0::gs0) (memS 0 (256*G) G gm)):
  Calls Tryz.prog 17 #[blkV b A1 A2 A3 c1 c2 c3,.agg (alL a).toArray,pV g0] w fun e w'=>∃ A cp,e= .returned (.tuple #[codV (yan b a (256*(G:Int)) (256*(G:Int)) 0) A cp,.bool true])∧SlAt w' w'.heap.size A ((z5x 0 (yan b a (256*(G:Int)) (256*(G:Int)) 0)).flatMap z5r)∧Below w.heap.size w w':=by
 obtain ⟨l,hle⟩:∃ l,l=yan b a (256*(G:Int)) (256*(G:Int)) 0:=⟨_,rfl⟩
 have hw:=yao (b:=b) (a:=a) (ctx:=256*(G:Int)) (size:=256*(G:Int)) (pred:=0) hv;have h8:=yat b a (256*(G:Int)) (256*(G:Int)) 0;have hbo:=yar (ctx:=256*(G:Int)) (size:=256*(G:Int)) (a:=a) hb hv yaw;obtain ⟨hll,hlo⟩:=z9x hv;have htl:=z8v l;have hsc:=z5z l 0;have hbo':BuiltOk (z5x 0 (yan b a (256*(G:Int)) (256*(G:Int)) 0)) ((4*(yan b a (256*(G:Int)) (256*(G:Int)) 0).length:Nat):Int):=(by rw [show ((4*(yan b a (256*(G:Int)) (256*(G:Int)) 0).length:Nat):Int)=4*((yan b a (256*(G:Int)) (256*(G:Int)) 0).length:Int) by omega];exact hbo);refine zfg [blkV b A1 A2 A3 c1 c2 c3,.agg (alL a).toArray,pV g0] Tryz.func17 Tryz.ntmps17 rfl zS ?_;refine z3p ?_;(conv=>whnf);refine z3m fun r w1 hR=>?_;obtain ⟨p3,us,e1,e2,e3⟩:=hR.own 0 _ rfl;obtain rfl:=zis (us:=[.slice A1 b.at_.length c1,.slice A2 b.pages.length c2,.slice A3 b.ops.length c3]) e3;obtain ⟨p4,us,f1,f2,f3⟩:=hR.own 1 _ rfl;obtain rfl:=zis (us:=alL a) f3;obtain ⟨p6,us,g1,g2,g3⟩:=hR.own 2 _ rfl;obtain rfl:=zis (us:=[strV [],.slice none 0 0]) g3;have hfp6:=zoc hR g1;have hB1:=hR.toBelow;refine ⟨z6k [(2,pV g0),(3,pV p3),(4,pV p4),(6,pV p6)],fun a' hf=>z6t ⟨z6r hf rfl,z6p hf 3 rfl e1,z6p hf 4 rfl f1,z6p hf 6 rfl g1,trivial⟩,?_⟩;clear hR e3 f3 g3 e1 f1 g1;have hU1:=zvz (zt4 (256*G) G gm) hU hB1;have hBA1:=hBA.later hB1;refine z3p ?_;(conv=>whnf);refine ze3 rfl zK hU1 (fun w' hU=>zuf gm (256*G) G w' g0 gs0 hU) ?_;(conv=>whnf);refine ⟨256*(G:Int),wr64 zO,?_⟩;(conv=>whnf);refine z3d (z3f 5 rfl rfl rfl ?_);(conv=>whnf);refine ⟨_,zd0 e2,rfl,?_⟩;(conv=>whnf);refine ⟨alL a,zd0 f2,by rw [List.length_map,ha];rfl,?_⟩;(conv=>whnf);refine ⟨256*(G:Int),by rw [wr32];omega,?_⟩;(conv=>whnf);refine ⟨by kernel_rfl,fun r w2 us' hR hd=>?_⟩;obtain rfl:=zcs (xs:=[blkV b A1 A2 A3 c1 c2 c3,.agg (alL a).toArray,.int .u32 (256*(G:Int)),.int .i64 (256*(G:Int))]) (zct _ _ _ a) hd;have hB2:=hR.toBelow;have hBA2:=hBA1.later hB2;refine (zjj b A1 A2 A3 c1 c2 c3 a (256*(G:Int)) (256*(G:Int)) hb hv hBA2.pages hBA2.ops ha hva (by unfold word;omega) zO hal).mono fun e w3 ⟨⟨A,cp,he,hsl⟩,hB3⟩=>?_;rw [← hle] at he hsl;have hB13:=zdg hB2 hB3 hB2.size;refine ⟨_,AV.of (.tuple #[codV l A cp,.int .i64 0]),w3,Gs.nil,[(3,one (pV p3)),(6,one (pV p6))],[],Env.none,he,z1v w3,fun a hf=>znv ⟨z6q hf 3 rfl,z6q hf 6 rfl,trivial⟩,AV.of_den _ _,?_⟩;clear hR hd hBA2 hB2 hB3 he;(conv=>whnf);refine zcd ?_;refine z3m fun r w4 hR=>?_;obtain ⟨p9,us,y1,y2,y3⟩:=hR.own 0 _ rfl;obtain rfl:=zis (us:=[strV (z8u l),.slice A (z5x 0 l).length cp]) y3;have hfp9:=zoc hR y1;have hB4:=hR.toBelow;refine ⟨z6k [(3,pV p3),(6,pV p6),(9,pV p9),(10,.int .i64 0)],fun a' hf=>z6t ⟨z6r hf rfl,z6r hf rfl,z6p hf 9 rfl y1,z6r hf rfl,trivial⟩,?_⟩;clear hR y1 y3;have hB14:=zdg hB13 hB4 hB13.size;have e24:=(hB14.block p3 (zpt e2)).trans e2;have g24:=(hB14.block p6 (zpt g2)).trans g2;have hsl4:SlAt w4 w4.heap.size A ((z5x 0 l).flatMap z5r):=(hsl.below hB4 (Nat.le_refl _)).more hB4.size;have hp6:w.heap.size≤p6:=hfp6
 have h96:p9≠p6:=fun e=>by have:=hfp9;have:=zpt g2;have:=hB13.size;omega
 have hnA:∀ b' off',A=some ⟨b',off',none⟩→b'∉[p6]:=fun b' off' e hm=>by
  rw [List.mem_singleton] at hm;subst hm;obtain ⟨idx,hix,_⟩:=z5u l 0 6 (zqv ⟨1,0,0,0,0⟩) ⟨1,0,0,0,0⟩ (by rw [hle];rfl) rfl;obtain ⟨b2,o2,e2',h2,hc⟩:=hsl4 (idx*6+0) _ (zm6 _ idx _ hix 0 zO);rw [e] at e2';injection e2' with e2';injection e2' with e3 e4;subst e3;have hc:w4.cell? ⟨b',o2+(idx*6+0),none⟩=some (.int .i64 (4*((0+6:Nat):Int))):=hc;unfold World.cell? at hc;rw [g24] at hc
  match o2+(idx*6+0),hc with
  |0,hc=>exact absurd hc (by simp [strV])
  |1,hc=>exact absurd hc zS
  |n+2,hc=>exact absurd hc zS
 refine z3u 6 0 p6 rfl ⟨[p6],[]⟩ [.cells coT [.v (strV []),.v (.slice none 0 0)]] fun r w5 hR5=>?_;have hB5:=hR5.toBelow;have g25:=(hB5.block p6 (zpt g24)).trans g24;have e25:=(hB5.block p3 (zpt e24)).trans e24;have y25:=(hB5.block p9 (zpt y2)).trans y2;have hsl5:SlAt w5 w5.heap.size A ((z5x 0 l).flatMap z5r):=(hsl4.below hB5 (Nat.le_refl _)).more hB5.size;have hB15:=zdg hB14 hB5 hB14.size
 have n9:p9∉Gs.flat ⟨[p6],[]⟩:=fun hm=>by
  rcases zm5.1 hm with hm|hm
  ·exact h96 (List.mem_singleton.1 hm)
  ·cases hm
 have n3:p3∉Gs.flat ⟨[p6],[]⟩:=fun hm=>by
  rcases zm5.1 hm with hm|hm
  ·have:=List.mem_singleton.1 hm
   subst this;rw [e24] at g24;simp at g24
  ·cases hm
 refine ⟨_,z1w (zv1 g25),rfl,?_⟩;refine z3p ?_;refine z21 (.q 0 (.q 1 (.q 2 (.q 3 (.alt 4 (.alt 5 (.q 6 .done) .no) .no))))) mixed zK zK ?_;(conv=>whnf);refine ⟨_,zfo (zd0 y25) n9,rfl,?_⟩;(conv=>whnf);refine ⟨_,zfo (zd0 e25) n3,rfl,?_⟩;(conv=>whnf);refine ⟨_,zfo (zd0 y25) n9,rfl,?_⟩;(conv=>whnf);refine ⟨?_,trivial⟩;refine ze2 (x:= .bool true) (xs:=[blkV b A1 A2 A3 c1 c2 c3,codV l A cp,.int .i64 0]) rfl zK (fun r w' hR=>zeh (z8u l) (z5x 0 l) (z6h hR hsl5 hnA) (by rw [htl,hle];omega) hlo.2 (by rw [hle] at hsc⊢;omega) (by rw [htl,hle];exact hbo')) ?_;(conv=>whnf);refine ⟨?_,trivial⟩;(conv=>whnf);refine z3t ?_;(conv=>whnf);refine zcg ?_;(conv=>whnf);refine ⟨fun r2 w9 u hR hd=>?_⟩;rw [AV.val_den (x:= .tuple #[codV l A cp,.bool true]) rfl hd];have hgr:=hR.growns;have hz1:=hB1.size;have hz5:=hB15.size;refine ⟨A,cp,by rw [hle],by rw [← hle];exact z6h hR hsl5 hnA,hgr.os.trans (hB15.os.trans hB1.os),hgr.tape.trans (hB15.tape.trans hB1.tape),hgr.output.trans (hB15.output.trans hB1.output),Nat.le_trans hz1 (Nat.le_trans hz5 hgr.size),fun k hk=>(hgr.block k zO fun hm=>by rw [List.mem_singleton] at hm;omega).trans ((hB15.block k zO).trans (hB1.block k hk))⟩
end
abbrev ycb (n0 n1 n2 n3:Int):Value:= .agg #[intV n0,intV n1,intV n2,intV n3]
theorem yc3 (x:Int):0≤IntKind.u8.wrap x∧IntKind.u8.wrap x<256:=by
 show 0≤x%256∧x%256<256;omega
section
variable {w:World}
theorem ycf (n0 n1 n2 n3:Int):Calls Tryz.prog 16 #[ycb n0 n1 n2 n3] w fun e w'=>∃ (G g:Nat) (gs:List Nat) (M:MemP),e= .returned (pV g)∧(1≤G∧G≤4)∧M.ok (256*G) G∧ObjsAt w' (g::gs) (memS 0 (256*G) G M)∧(∀ b∈g::gs,w.heap.size≤b)∧Below w.heap.size w w':=by
 obtain ⟨G,hG⟩:∃ G:Nat,(G:Int)=1+n0%4:=⟨(1+n0%4).toNat,by omega⟩
 have hG4:1≤G∧G≤4:=(by omega);refine zfg [ycb n0 n1 n2 n3] Tryz.func16 Tryz.ntmps16 rfl zS ?_;refine z3p ?_;(conv=>whnf);refine z3m fun r w1 hR=>?_;obtain ⟨p1,us,e1,e2,e3⟩:=hR.own 0 _ rfl;obtain rfl:=zis (us:=[intV n0,intV n1,intV n2,intV n3]) e3;have hB1:=hR.toBelow;have hp1:=zoc hR e1;refine ⟨z6k [(1,pV p1)],fun a' hf=>z6t ⟨z6p hf 1 rfl e1,trivial⟩,?_⟩;clear hR e3 e1;refine z3p ?_;(conv=>whnf);refine z0h (size:=1) p1 0 4 0 rfl rfl rfl rfl rfl rfl zO zO ?_;(conv=>whnf);refine ⟨_,zd1 e2 rfl,?_⟩;(conv=>whnf);refine ze2 (x:=intV (n0%4)) rfl zK (fun r w' hR=>ycg n0 4 w' zO) ?_;(conv=>whnf);refine ⟨(G:Int),by rw [hG];exact wr64 zO,?_⟩;(conv=>whnf);refine z3d (z3e 1 rfl rfl rfl ?_);(conv=>whnf);refine ⟨by kernel_rfl,fun r w2 us' hR hd=>?_⟩;obtain rfl:=zcs (xs:=[intV (G:Int),.bool false]) rfl hd;have hB2:=hR.toBelow
 refine (zus G w2 zO).mono fun e w3 ⟨g,gs,he,hn⟩=>⟨_,he,?_⟩
 have hB3:=zdg (zdg hB1 hB2 hB1.size) hn.below (Nat.le_trans hB1.size hB2.size);have hz3:=Nat.le_trans hB1.size hB2.size;have hfr:=hn.fresh;have hU3:=hn.at_;have hM0:(MemP.zero G).ok (256*G) G:=zuo zO;have e23:w3.heap[p1]?=some (.cells ([intV n0,intV n1,intV n2,intV n3]:List Value).toArray 23 (0,0)):=((hn.below.block p1 (Nat.lt_of_lt_of_le (zpt e2) hB2.size)).trans (hB2.block p1 (zpt e2))).trans e2
 have hpn:p1∉g::gs:=fun hm=>by
  have:=hfr p1 hm;have:=zpt e2;have:=hB2.size;omega
 have hfw:∀ b∈g::gs,w.heap.size≤b:=fun b hb=>by have:=hfr b hb;omega
 clear hn hfr hB1 hB2 hR hd e2;(conv=>whnf);refine zcd ?_;refine z3d ?_;refine z3p ?_;(conv=>whnf);refine z3a ?_;refine z3i (fun j:{j:Nat//j≤G}=>[(1,one (pV p1)),(3,one (intV (G:Int))),(4,one (pV g)),(5,one (intV (j.1:Int)))]) (fun j w'=>∃ M:MemP,M.ok (256*G) G∧ObjsAt w' (g::gs) (memS 0 (256*G) G M)∧Held w3 ⟨[],g::gs⟩ w') (fun j=>G-j.1) ⟨0,by omega⟩ Tn (fun r w' hR=>⟨_,hM0,zvz (zt4 _ _ _) hU3 hR.toBelow,zpy hR.toBelow⟩) (fun j w' hJ=>?_);obtain ⟨j,hj⟩:=j;dsimp only at hJ⊢;obtain ⟨M,hM,hU4,hh4⟩:=hJ;have e24:=(zpu hh4 (zpt e23) hpn).trans e23;refine z3d ?_;refine z3p ?_;(conv=>whnf);refine z3b rfl (fun hc=>z3q (zcd ?_)) (fun hc=>?_)
 ·have hlt:j<G:=by have:=of_decide_eq_true hc;omega
  refine z3k (α:=Unit) (fun _=>[(1,one (pV p1)),(3,one (intV (G:Int))),(4,one (pV g)),(5,one (intV (j:Int)))]) (fun _ w2=>∃ M:MemP,M.ok (256*G) G∧ObjsAt w2 (g::gs) (memS 0 (256*G) G M)∧Held w3 ⟨[],g::gs⟩ w2) ?_ fun _ w2 hl=>?_
  ·refine z3a ?_
   refine z3p ?_;(conv=>whnf);refine z3k (α:={x:Int//0≤x∧x<4}) (fun x=>[(1,one (pV p1)),(3,one (intV (G:Int))),(4,one (pV g)),(5,one (intV (j:Int))),(6,one (intV x.1))]) (fun _ w2=>Below w'.heap.size w' w2) ?_ fun x w5 hB5=>?_
   ·refine z3p ?_
    (conv=>whnf);refine z0h (size:=1) p1 0 4 1 rfl rfl rfl rfl rfl rfl zO zO ?_;(conv=>whnf);refine ⟨_,zd1 e24 rfl,?_⟩;(conv=>whnf);refine ⟨((j+1:Nat):Int),by rw [show (j:Int)+1=((j+1:Nat):Int) by omega];exact wr64 zO,?_⟩;(conv=>whnf);refine ⟨by omega,_,rfl,?_⟩;(conv=>whnf);refine ze2 (x:=intV (_%4)) rfl zK (fun r w' hR=>ycg _ 4 w' zO) ?_;(conv=>whnf);refine z3b rfl (fun hc=>?_) (fun hc=>?_)
    ·refine z3t ?_
     (conv=>whnf);refine z0h (size:=1) p1 0 4 1 rfl rfl rfl rfl rfl rfl zO zO ?_;(conv=>whnf);refine ⟨_,zd1 e24 rfl,?_⟩;(conv=>whnf);refine ze2 (x:=intV (n1%4)) rfl zK (fun r w' hR=>ycg n1 4 w' zO) ?_;(conv=>whnf);exact zca ⟨n1%4,by omega⟩ Tn fun r w3 hR=>hR.toBelow
    ·exact z3q (zca ⟨3,by omega⟩ Tn fun r w3 hR=>hR.toBelow)
   ·obtain ⟨x,hx⟩:=x
    dsimp only;have hU5:=zvz (zt4 _ _ _) hU4 hB5;have hh5:=zp1 (gs1:=[]) hh4 (zpy hB5) nofun;refine z3d (z3e 3 rfl rfl rfl ?_);(conv=>whnf);refine ⟨by kernel_rfl,fun r w6 us' hR hd=>?_⟩;obtain rfl:=zcs (xs:=[pV g,intV (j:Int),intV x]) rfl hd;have hU6:=zvz (zt4 _ _ _) hU5 hR.toBelow;have hh6:=zp1 (gs1:=[]) hh5 (zpy hR.toBelow) nofun
    refine (zui M (256*G) G j x w6 g gs hU6 hM hlt zO zO).mono fun e w7 ⟨he,hU7,hg7⟩=>⟨_,he,?_⟩
    have hh7:=zp1 hh6 (zpz hg7) fun b hb=> .inl hb;have hM7:=zzc hM j (x:=x) zO;generalize M.protect j x=M7 at hM7 hU7;clear hR hd hU6 hh6 hg7 hU5 hh5;(conv=>whnf);refine zcd ?_;refine z3p ?_;(conv=>whnf);refine z3a ?_;refine z3i (fun q:{q:Nat//q≤37}=>[(1,one (pV p1)),(3,one (intV (G:Int))),(4,one (pV g)),(5,one (intV (j:Int))),(7,one (intV (7*(q.1:Int))))]) (fun _ w2=>∃ M:MemP,M.ok (256*G) G∧ObjsAt w2 (g::gs) (memS 0 (256*G) G M)∧Held w3 ⟨[],g::gs⟩ w2) (fun q=>37-q.1) ⟨0,by omega⟩ Tn (fun r w'' hR=>⟨M7,hM7,zvz (zt4 _ _ _) hU7 hR.toBelow,zp1 (gs1:=[]) hh7 (zpy hR.toBelow) nofun⟩) (fun q w8 hJ2=>?_);obtain ⟨q,hq⟩:=q;dsimp only at hJ2⊢;obtain ⟨M8,hM8,hU8,hh8⟩:=hJ2;have e28:=(zpu hh8 (zpt e23) hpn).trans e23;refine z3d ?_;refine z3p ?_;(conv=>whnf);refine z3b rfl (fun hc=>z3q (zcd ?_)) (fun hc=>?_)
    ·have hlt:q<37:=by have:=of_decide_eq_true hc;omega
     refine z3k (α:=Unit) (fun _=>[(1,one (pV p1)),(3,one (intV (G:Int))),(4,one (pV g)),(5,one (intV (j:Int))),(7,one (intV (7*(q:Int))))]) (fun _ w2=>∃ M:MemP,M.ok (256*G) G∧ObjsAt w2 (g::gs) (memS 0 (256*G) G M)∧Held w3 ⟨[],g::gs⟩ w2) ?_ fun _ w2 hl=>?_
     ·refine z3a ?_
      refine z3e 16 rfl rfl rfl ?_;(conv=>whnf);refine ⟨256*(j:Int),wr64 zO,?_⟩;(conv=>whnf);refine ⟨256*(j:Int)+7*(q:Int),wr64 zO,?_⟩;(conv=>whnf);refine ⟨256*(j:Int)+7*(q:Int),by rw [wr32];omega,?_⟩;(conv=>whnf);refine z0h (size:=1) p1 0 4 2 rfl rfl rfl rfl rfl rfl zO zO ?_;(conv=>whnf);refine ⟨_,zd1 e28 rfl,?_⟩;(conv=>whnf);refine ⟨7*(q:Int)+(j:Int),wr64 zO,?_⟩;(conv=>whnf);refine ⟨7*(q:Int)+(j:Int)+1,wr64 zO,?_⟩;(conv=>whnf);refine ⟨_,rfl,?_⟩;(conv=>whnf);generalize hy:IntKind.u8.wrap (IntKind.i64.wrap (n2*(7*(q:Int)+(j:Int)+1)))=y;have hyr:0≤y∧y<256:=(by rw [← hy];exact yc3 _);clear hy;refine ⟨y,rfl,?_⟩;(conv=>whnf);refine z0d 0 1 1 [y] rfl rfl rfl rfl rfl rfl rfl ?_;(conv=>whnf);refine ⟨by kernel_rfl,fun r w9 us' hR hd=>?_⟩;obtain rfl:=zcs (xs:=[pV g,.int .u32 (256*(j:Int)+7*(q:Int)),strV [y]]) rfl hd;have hU9:=zvz (zt4 _ _ _) hU8 hR.toBelow;have hh9:=zp1 (gs1:=[]) hh8 (zpy hR.toBelow) nofun
      have hbl:∀ x∈[y],0≤x∧x<256:=fun x hx=>by rw [List.mem_singleton.1 hx];exact hyr
      refine (zuh M8 (256*G) G (256*(j:Int)+7*(q:Int)) [y] w9 g gs hU9 hM8 (by unfold word;omega) hbl (show 1≤1000000 by decide) zO).mono fun e w10 ⟨he,hU10,hg10⟩=>⟨_,he,?_⟩
      have hh10:=zp1 hh9 (zpz hg10) fun b hb=> .inl hb;have hM10:=zy4 hM8 (256*(j:Int)+7*(q:Int)) hbl [y].length (Nat.le_refl _);generalize M8.pokeAt (256*(j:Int)+7*(q:Int)) [y] [y].length=M10 at hM10 hU10;clear hR hd hU9 hh9 hg10;(conv=>whnf);exact zb4 (zca () Tn fun r w3 hR=>⟨M10,hM10,zvz (zt4 _ _ _) hU10 hR.toBelow,zp1 (gs1:=[]) hh10 (zpy hR.toBelow) nofun⟩)
     ·obtain ⟨M9,hM9,hU9,hh9⟩:=hl
      refine z3t ?_;(conv=>whnf);refine ⟨7*((q+1:Nat):Int),by rw [show 7*(q:Int)+7=7*((q+1:Nat):Int) by omega];exact wr64 zO,?_⟩;(conv=>whnf);exact zcc ⟨q+1,by omega⟩ Tn (fun r w3 hR=>⟨M9,hM9,zvz (zt4 _ _ _) hU9 hR.toBelow,zp1 (gs1:=[]) hh9 (zpy hR.toBelow) nofun⟩) (by show 37-(q+1)<37-q;omega)
    ·refine z3t ?_
     (conv=>whnf);exact zb7 (zcf (zb6 (zb4 (zca () Tn fun r w3 hR=>⟨M8,hM8,zvz (zt4 _ _ _) hU8 hR.toBelow,zp1 (gs1:=[]) hh8 (zpy hR.toBelow) nofun⟩))))
  ·obtain ⟨M8,hM8,hU8,hh8⟩:=hl
   refine z3t ?_;(conv=>whnf);refine ⟨((j+1:Nat):Int),by rw [show (j:Int)+1=((j+1:Nat):Int) by omega];exact wr64 zO,?_⟩;(conv=>whnf);exact zcc ⟨j+1,by omega⟩ Tn (fun r w3 hR=>⟨M8,hM8,zvz (zt4 _ _ _) hU8 hR.toBelow,zp1 (gs1:=[]) hh8 (zpy hR.toBelow) nofun⟩) (by show G-(j+1)<G-j;omega)
 ·refine z3t ?_
  (conv=>whnf);refine zb7 (zcf (zb6 (zcd ?_)));refine z3p ?_;(conv=>whnf);refine z3t ?_;(conv=>whnf);refine zcg ?_;(conv=>whnf)
  refine zmj rfl fun w9 hB9=>⟨G,g,gs,M,rfl,hG4,hM,zvz (zt4 _ _ _) hU4 hB9,hfw,?_⟩
  exact zdj (zdi hB3 hh4 hfw) hB9
end
structure UsOk (u:List Int):Prop where
 len:u.length=28
 pc:getV u 19=0
theorem UsOk.set {u:List Int} (h:UsOk u) {v x:Int} (hv:0≤v∧v<28) (h19:v≠19):UsOk (u.set v.toNat x):=⟨by rw [List.length_set];exact h.len,by rw [yb4 h.len hv 19 zO,if_neg zO];exact h.pc⟩
section
variable {w:World}
end
section
variable {w:World}
theorem yb5 (xs:List Value) (x2:Value) (a:List Int):avals [.p (.agg (List.map CV.v xs)),.p (.agg (List.map CV.v (alL a))),.p (.c (.v x2))]=some [.agg xs.toArray,.agg (alL a).toArray,x2]:=by
 simp only [avals,AV.val,Pc.val,z9k,CV.val]
end
end Go.Proofs.YtocafomnnkmjfaaGreat
