import Derived.Test.YtocafomnnkmjfaaGreatK14
set_option maxRecDepth 100000
set_option maxHeartbeats 2000000
namespace Go.Proofs.YtocafomnnkmjfaaGreat
open Go.RowKit
def MemP.zero (p:Nat):MemP:=⟨List.replicate (256*p) 0,List.replicate (256*p) 0,List.replicate (256*p) 0,List.replicate (256*p) 0,List.replicate p 0,[],[],[],[],[]⟩
theorem zuw {p:Nat} (hp:p≤4096):(MemP.zero p).ok (256*p) p:=
 ⟨List.length_replicate,List.length_replicate,List.length_replicate,List.length_replicate,List.length_replicate,rfl,hp,fun x hx=>by rw [List.eq_of_mem_replicate hx];omega,fun x hx=>by rw [List.eq_of_mem_replicate hx];omega,fun x hx=>by rw [List.eq_of_mem_replicate hx];omega⟩
theorem ztt (z:Value) (n:Nat):(madeCells #[z] (n*1)).toList=List.replicate n z:=by
 refine List.ext_getElem? fun i=>?_;simp only [madeCells,Array.getElem?_toList,Array.getElem?_map,List.getElem?_replicate,Nat.mul_one]
 by_cases h:i<n<;>simp [h,Nat.mod_one]
theorem zub (n p:Nat) (M:MemP):sbnd 6 (memS 0 n p M)=true:=by
 simp only [sbnd,Ow.bnd,zd6,bndL,CV.bnd]
 rfl
theorem zu0 (p:Nat) (w:World) (hp:1≤p∧p≤4096):
  Calls Tryz.prog 58 #[.int .i64 (p:Int),.bool false] w fun e w'=>∃ g gs,e= .returned (.pointer (some ⟨g,0,none⟩))∧NewObjs w w' (g::gs) (memS 0 (256*p) p (MemP.zero p)):=by
 obtain ⟨Z,hZ⟩:∃ Z:List Value,Z=List.replicate (256*p) (zem 0):=⟨_,rfl⟩
 obtain ⟨Y,hY⟩:∃ Y:List Value,Y=List.replicate p (intV 0):=⟨_,rfl⟩
 obtain ⟨n,hn⟩:∃ n,n=256*p:=⟨_,rfl⟩
 have hmZ:(madeCells (Value.int .u8 0).cells (n*1)).toList=Z:=by rw [hZ,hn];exact ztt _ _
 have hmY:(madeCells (Value.int .i64 0).cells (p*1)).toList=Y:=by rw [hY];exact ztt _ _
 have h256:(256:Int)*(p:Int)=(n:Int):=by omega
 have hfb:Fr.bnd 4 [(1,one (.bool false)),(5,one (.int .i64 (p:Int))),(6,.p (.c (.ref 3 0)))]=true:=rfl
 have hsb:sbnd 4 [.cells 5 (Z.map .v),.cells 5 (Z.map .v),.cells 3 (Y.map .v),.cells 115 [.sl 0 0 n n,.v (.slice none 0 0),.sl 1 0 n n,.v (.slice none 0 0),.sl 2 0 p p,.v (.bool false)]]=true:=by
  simp only [sbnd,Ow.bnd,zd6,bndL,CV.bnd];rfl
 refine zfh [.int .i64 (p:Int),.bool false] Tryz.func58 Tryz.ntmps58 rfl zS ?_;refine z3g ?_;(conv=>whnf);refine z3g ?_;(conv=>whnf);refine zwx rfl rfl rfl rfl ?_;rw [if_neg zO];(conv=>whnf);refine zww rfl rfl rfl rfl ?_;rw [if_pos zO];(conv=>whnf);refine z3c (α:=Unit) (fun _=>[(1,one (.bool false)),(5,one (.int .i64 (p:Int))),(6,.p (.c (.ref 3 0)))]) (fun _=>[.cells 5 (Z.map .v),.cells 5 (Z.map .v),.cells 3 (Y.map .v),.cells 115 [.sl 0 0 n n,.v (.slice none 0 0),.sl 1 0 n n,.v (.slice none 0 0),.sl 2 0 p p,.v (.bool false)]]) ?_ fun _=>?_
 ·refine z3l ?_
  refine z2t (.q 0 (.q 1 (.q 3 (.q 4 (.q 6 (.q 8 (.alt 2 (.alt 5 (.alt 7 (.q 9 (.alt 10 (.q 11 .done) .no)) .no) (.alt 7 (.alt 5 (.q 9 (.alt 10 (.q 11 .done) .no)) .no) .no)) (.alt 5 (.alt 2 (.alt 7 (.q 9 (.alt 10 (.q 11 .done) .no)) .no) (.alt 7 (.alt 2 (.q 9 (.alt 10 (.q 11 .done) .no)) .no) .no)) (.alt 7 (.alt 2 (.alt 5 (.q 9 (.alt 10 (.q 11 .done) .no)) .no) (.alt 5 (.alt 2 (.q 9 (.alt 10 (.q 11 .done) .no)) .no) .no)) .no))))))))) mixed zK zK ?_;(conv=>whnf);refine ⟨(n:Int),by rw [h256];exact wr64 zO,?_⟩;(conv=>whnf);refine ⟨(n:Int),by rw [h256];exact wr64 zO,?_⟩;(conv=>whnf);refine ⟨?_,?_,?_,trivial⟩
  ·conv=>whnf
   refine zwu 1 n rfl rfl rfl rfl rfl rfl rfl zO (by show 1*n≤_;omega) (by show n≤9223372036854775807;omega) rfl (xs:=Z) hmZ ?_;(conv=>whnf);refine ⟨?_,?_,trivial⟩
   ·conv=>whnf
    refine zwu 1 n rfl rfl rfl rfl rfl rfl rfl zO (by show 1*n≤_;omega) (by show n≤9223372036854775807;omega) rfl (xs:=Z) hmZ ?_;(conv=>whnf);refine ⟨?_,trivial⟩;(conv=>whnf);refine zwu 1 p rfl rfl rfl rfl rfl rfl rfl zO (by show 8*p≤_;omega) (by show p≤9223372036854775807;omega) rfl (xs:=Y) hmY ?_;(conv=>whnf);refine ⟨?_,trivial⟩;(conv=>whnf);exact zb8 () (zj9 [0,1,2,3] Tn (aI ((Exists.intro _ (aI rfl (aI rfl (Or.inl (z1s _ _).symm))))) (aI ((Exists.intro _ (aI rfl (aI rfl (Or.inl (z1s _ _).symm))))) (aI ((Exists.intro _ (aI rfl (aI rfl (Or.inl (z1s _ _).symm))))) (aI ((Exists.intro _ (aI rfl sM))) trivial)))) hfb hsb rfl rfl rfl)
   ·conv=>whnf
    refine zwu 1 p rfl rfl rfl rfl rfl rfl rfl zO (by show 8*p≤_;omega) (by show p≤9223372036854775807;omega) rfl (xs:=Y) hmY ?_;(conv=>whnf);refine ⟨?_,trivial⟩;(conv=>whnf);refine zwu 1 n rfl rfl rfl rfl rfl rfl rfl zO (by show 1*n≤_;omega) (by show n≤9223372036854775807;omega) rfl (xs:=Z) hmZ ?_;(conv=>whnf);refine ⟨?_,trivial⟩;(conv=>whnf);exact zb8 () (zj9 [0,2,1,3] Tn (aI ((Exists.intro _ (aI rfl (aI rfl (Or.inl (z1s _ _).symm))))) (aI ((Exists.intro _ (aI rfl (aI rfl (Or.inl (z1s _ _).symm))))) (aI ((Exists.intro _ (aI rfl (aI rfl (Or.inl (z1s _ _).symm))))) (aI ((Exists.intro _ (aI rfl sM))) trivial)))) hfb hsb rfl rfl rfl)
  ·conv=>whnf
   refine zwu 1 n rfl rfl rfl rfl rfl rfl rfl zO (by show 1*n≤_;omega) (by show n≤9223372036854775807;omega) rfl (xs:=Z) hmZ ?_;(conv=>whnf);refine ⟨?_,?_,trivial⟩
   ·conv=>whnf
    refine zwu 1 n rfl rfl rfl rfl rfl rfl rfl zO (by show 1*n≤_;omega) (by show n≤9223372036854775807;omega) rfl (xs:=Z) hmZ ?_;(conv=>whnf);refine ⟨?_,trivial⟩;(conv=>whnf);refine zwu 1 p rfl rfl rfl rfl rfl rfl rfl zO (by show 8*p≤_;omega) (by show p≤9223372036854775807;omega) rfl (xs:=Y) hmY ?_;(conv=>whnf);refine ⟨?_,trivial⟩;(conv=>whnf);exact zb8 () (zj9 [1,0,2,3] Tn (aI ((Exists.intro _ (aI rfl (aI rfl (Or.inl (z1s _ _).symm))))) (aI ((Exists.intro _ (aI rfl (aI rfl (Or.inl (z1s _ _).symm))))) (aI ((Exists.intro _ (aI rfl (aI rfl (Or.inl (z1s _ _).symm))))) (aI ((Exists.intro _ (aI rfl sM))) trivial)))) hfb hsb rfl rfl rfl)
   ·conv=>whnf
    refine zwu 1 p rfl rfl rfl rfl rfl rfl rfl zO (by show 8*p≤_;omega) (by show p≤9223372036854775807;omega) rfl (xs:=Y) hmY ?_;(conv=>whnf);refine ⟨?_,trivial⟩;(conv=>whnf);refine zwu 1 n rfl rfl rfl rfl rfl rfl rfl zO (by show 1*n≤_;omega) (by show n≤9223372036854775807;omega) rfl (xs:=Z) hmZ ?_;(conv=>whnf);refine ⟨?_,trivial⟩;(conv=>whnf);exact zb8 () (zj9 [2,0,1,3] Tn (aI ((Exists.intro _ (aI rfl (aI rfl (Or.inl (z1s _ _).symm))))) (aI ((Exists.intro _ (aI rfl (aI rfl (Or.inl (z1s _ _).symm))))) (aI ((Exists.intro _ (aI rfl (aI rfl (Or.inl (z1s _ _).symm))))) (aI ((Exists.intro _ (aI rfl sM))) trivial)))) hfb hsb rfl rfl rfl)
  ·conv=>whnf
   refine zwu 1 p rfl rfl rfl rfl rfl rfl rfl zO (by show 8*p≤_;omega) (by show p≤9223372036854775807;omega) rfl (xs:=Y) hmY ?_;(conv=>whnf);refine ⟨?_,?_,trivial⟩
   ·conv=>whnf
    refine zwu 1 n rfl rfl rfl rfl rfl rfl rfl zO (by show 1*n≤_;omega) (by show n≤9223372036854775807;omega) rfl (xs:=Z) hmZ ?_;(conv=>whnf);refine ⟨?_,trivial⟩;(conv=>whnf);refine zwu 1 n rfl rfl rfl rfl rfl rfl rfl zO (by show 1*n≤_;omega) (by show n≤9223372036854775807;omega) rfl (xs:=Z) hmZ ?_;(conv=>whnf);refine ⟨?_,trivial⟩;(conv=>whnf);exact zb8 () (zj9 [1,2,0,3] Tn (aI ((Exists.intro _ (aI rfl (aI rfl (Or.inl (z1s _ _).symm))))) (aI ((Exists.intro _ (aI rfl (aI rfl (Or.inl (z1s _ _).symm))))) (aI ((Exists.intro _ (aI rfl (aI rfl (Or.inl (z1s _ _).symm))))) (aI ((Exists.intro _ (aI rfl sM))) trivial)))) hfb hsb rfl rfl rfl)
   ·conv=>whnf
    refine zwu 1 n rfl rfl rfl rfl rfl rfl rfl zO (by show 1*n≤_;omega) (by show n≤9223372036854775807;omega) rfl (xs:=Z) hmZ ?_;(conv=>whnf);refine ⟨?_,trivial⟩;(conv=>whnf);refine zwu 1 n rfl rfl rfl rfl rfl rfl rfl zO (by show 1*n≤_;omega) (by show n≤9223372036854775807;omega) rfl (xs:=Z) hmZ ?_;(conv=>whnf);refine ⟨?_,trivial⟩;(conv=>whnf);exact zb8 () (zj9 [2,1,0,3] Tn (aI ((Exists.intro _ (aI rfl (aI rfl (Or.inl (z1s _ _).symm))))) (aI ((Exists.intro _ (aI rfl (aI rfl (Or.inl (z1s _ _).symm))))) (aI ((Exists.intro _ (aI rfl (aI rfl (Or.inl (z1s _ _).symm))))) (aI ((Exists.intro _ (aI rfl sM))) trivial)))) hfb hsb rfl rfl rfl)
 refine z3l ?_
 conv=>whnf
 refine ⟨fun _=>?_,fun h=>absurd h (by decide)⟩
 conv=>whnf
 refine ⟨(n:Int),by rw [h256];exact wr64 zO,?_⟩
 conv=>whnf
 refine zwu 1 n rfl rfl rfl rfl rfl rfl rfl zO (by show 1*n≤_;omega) (by show n≤9223372036854775807;omega) rfl (xs:=Z) hmZ ?_
 conv=>whnf
 refine ⟨(n:Int),by rw [h256];exact wr64 zO,?_⟩
 conv=>whnf
 refine zwu 1 n rfl rfl rfl rfl rfl rfl rfl zO (by show 1*n≤_;omega) (by show n≤9223372036854775807;omega) rfl (xs:=Z) hmZ ?_
 conv=>whnf
 have hd:(MemP.zero p).dV=Z:=by rw [hZ];exact (List.append_nil _).trans List.map_replicate
 have hi:(MemP.zero p).iV=Z:=by rw [hZ];exact (List.append_nil _).trans List.map_replicate
 have hod:(MemP.zero p).odV=Z:=by rw [hZ];exact (List.append_nil _).trans List.map_replicate
 have hoi:(MemP.zero p).oiV=Z:=by rw [hZ];exact (List.append_nil _).trans List.map_replicate
 have hr:(MemP.zero p).rV=Y:=by rw [hY];exact (List.append_nil _).trans List.map_replicate
 rw [← hn]
 refine zb3 (f':=[(4,.p (.c (.ref 0 0)))]) (S':=memS 0 n p (MemP.zero p)) (zj9 [3,0,4,1,5,2] (aI rfl trivial) (aI ((Exists.intro _ (aI rfl sM))) (aI ((Exists.intro _ (aI rfl (aI rfl (Or.inl (by rw [hd];exact (z1s _ _).symm)))))) (aI ((Exists.intro _ (aI rfl (aI rfl (Or.inl (by rw [hi];exact (z1s _ _).symm)))))) (aI ((Exists.intro _ (aI rfl (aI rfl (Or.inl (by rw [hod];exact (z1s _ _).symm)))))) (aI ((Exists.intro _ (aI rfl (aI rfl (Or.inl (by rw [hoi];exact (z1s _ _).symm)))))) (aI ((Exists.intro _ (aI rfl (aI rfl (Or.inl (by rw [hr];exact (z1s _ _).symm)))))) trivial)))))) rfl (zub n p _) rfl rfl rfl) (zcg ?_)
 conv=>whnf
 exact zmm 0 (memS 0 n p (MemP.zero p)) (memS 0 n p (MemP.zero p)) zS (fun i hi=>by rw [Nat.zero_add]) (zud 0 n p _) (zuc n p _) fun w' g gs h=>⟨g,gs,rfl,h⟩
def Agree (m:Nat) (vs us:List Int):Prop:=∀ v:Nat,v<28→m.testBit v=true→getV vs (v:Int)=getV us (v:Int)
structure StepSame (o:BOp) (m:Nat) (vs us:List Int) (M:MemP):Prop where
 a:hasA o.code=true→getV us o.a=getV vs o.a
 stays:(zbr o us M).stays=(zbr o vs M).stays
 mem:(zbr o us M).mem=(zbr o vs M).mem
 agree:(zbr o vs M).stays=true→Agree m (zbr o vs M).vs (zbr o us M).vs
 guests:zv1 o=true→zpg us=zpg vs
theorem zt1:∀ (l:List BOp) {s s2:Ck},zga s l=some s2→s.marks≤s2.marks
 |[],s,s2,h=>by injection h with h;subst h;exact Nat.le_refl _
 |o::l,s,s2,h=>by
  obtain ⟨s1,h1,h2⟩:=zgi h;have:=zt1 l h2;obtain ⟨_,_,h3,h4⟩:=zgh h1;by_cases hc:o.code=20
  ·have:=(h3 hc).2;subst this;simp at*;omega
  ·have:s1.marks=s.marks:=by
    have:=h4 hc;rw [this.2]
   omega
def EvAt (n:Nat) (l:List BOp) (i:Int):Prop:=∃ s s2:Ck,zga s l=some s2∧s2.marks=n∧0≤i∧i<n
theorem zks {n:Nat} {o:BOp} {l:List BOp} {i:Int} (h:EvAt n (o::l) i):EvAt n l (ztx o i):=by
 obtain ⟨s,s2,h1,h2,h3,h4⟩:=h;obtain ⟨s1,k1,k2⟩:=zgi h1;obtain ⟨_,_,k3,_⟩:=zgh k1;have hm:=zt1 l k2;refine ⟨s1,s2,k2,h2,?_⟩;unfold ztx
 split
 ·rename_i hc
  obtain ⟨e1,e2⟩:=k3 hc;subst e2;have hm:s.marks+1≤s2.marks:=hm;omega
 ·exact ⟨h3,h4⟩
theorem zkr {b:Blk} (hv:z9g b=true):EvAt b.at_.length b.ops 0:=by
 obtain ⟨hh,s,h1,h2⟩:=z9r.1 hv;refine ⟨_,s,h1,h2,by omega,?_⟩;unfold zpu at hh;simp only [Bool.and_eq_true,decide_eq_true_eq] at hh;omega
theorem zjb {l:List BOp} {j:Nat} {o:BOp} (h:l[j]?=some o):l.drop j=o::l.drop (j+1):=by
 have hj:j<l.length:=by
  rcases Nat.lt_or_ge j l.length with h1|h1
  ·exact h1
  ·rw [List.getElem?_eq_none h1] at h;cases h
 rw [List.drop_eq_getElem_cons hj];rw [List.getElem?_eq_getElem hj] at h;injection h with h;rw [h]
theorem zky {ats:List Int} {o:BOp} {l:List BOp} {i:Int} {vs:List Int} {M:MemP} (h:o.code=24∨(o.code=23∧getV vs o.a≠0)):zkx ats (o::l) i vs M=⟨⟨false,0,ats.length,o.n,zpg vs⟩,M⟩:=if_pos h
theorem zk3 {ats:List Int} {o:BOp} {l:List BOp} {i:Int} {vs:List Int} {M:MemP} (h:o.code=25):zkx ats (o::l) i vs M=⟨⟨false,0,ats.length,getV vs o.a,zpg vs⟩,M⟩:=by
 show (if _ then _ else _)=_;rw [if_neg zO,if_pos h]
theorem zk0 {ats:List Int} {o:BOp} {l:List BOp} {i:Int} {vs:List Int} {M:MemP} (h1:¬(o.code=24∨(o.code=23∧getV vs o.a≠0))) (h2:o.code≠25) (h3:(zbr o vs M).stays=false):
  zkx ats (o::l) i vs M=⟨⟨true,ztx o i,ztx o i,(ats[(ztx o i).toNat]?).getD 0,zpg vs⟩,(zbr o vs M).mem⟩:=by
 show (if _ then _ else _)=_;rw [if_neg h1,if_neg h2,if_neg (by rw [h3];decide)]
theorem zpk {vs:List Int} (h:VarsOk vs):VarsOk (zpg vs):=by
 refine ⟨?_,fun x hx=>?_⟩
 ·unfold zpg;simp [h.len]
 ·unfold zpg at hx
  rcases List.mem_append.1 hx with h1|h1
  ·exact h.word x (List.mem_of_mem_take h1)
  ·rw [List.eq_of_mem_replicate h1];exact yap
theorem zbv {o:BOp} {vs:List Int} {M:MemP} {n p:Nat} (h:M.ok n p) (hv:VarsOk vs):(zbr o vs M).mem.ok n p:=by
 unfold zbr
 split
 ·exact h
 split
 ·exact h
 split
 ·split<;>exact h
 split
 ·exact z7m h _ _ (zop hv _).1
 split
 ·exact h
 split
 ·exact h
 split<;>exact h
def updR (R:Int→Int) (d x:Int):Int→Int:=if d=0 then R else fun j=>if j=d then x else R j
def z8k (op d a:Int):Bool:=
 if op=32 then decide (d=a) else if op=33 then decide (d≠a) else if op=34 then decide (d<a) else if op=35 then decide (¬d<a) else if op=36 then decide (z5e d<z5e a) else decide (¬z5e d<z5e a)
def z65 (i:QI) (at_:Int) (R:Int→Int) (M:MemP):Option ((Int→Int)×Int×MemP):=
 if i.op=10∧R i.b=0 then none
 else if zzu i.op≠0 then some (updR R i.d (yaq (zzu i.op) (R i.a) (if 16≤i.op then i.imm else R i.b)),zhz (at_+4),M)
 else if i.op=41 then some (updR R i.d (zhz (i.imm*1024)),zhz (at_+4),M)
 else if i.op=23 then (match M.bad ((R i.a+i.imm)%4294967296) 1 0 4 with|none=>some (updR R i.d (M.load ((R i.a+i.imm)%4294967296) 0 4),zhz (at_+4),M)|some _=>none)
 else if i.op=24 then (match M.bad ((R i.a+i.imm)%4294967296) 1 0 1 with|none=>some (updR R i.d (M.load ((R i.a+i.imm)%4294967296) 0 1),zhz (at_+4),M)|some _=>none)
 else if i.op=25 then (match M.bad ((R i.a+i.imm)%4294967296) 2 0 4 with|none=>some (R,zhz (at_+4),M.storeM ((R i.a+i.imm)%4294967296) 4 (R i.d))|some _=>none)
 else if i.op=26 then (match M.bad ((R i.a+i.imm)%4294967296) 2 0 1 with|none=>some (R,zhz (at_+4),M.storeM ((R i.a+i.imm)%4294967296) 1 (R i.d))|some _=>none)
 else if i.op=27 then some (updR R i.d (zhz (at_+4)),(R i.a+i.imm)%4294967296/4*4,M)
 else if i.op=40 then some (updR R i.d (zhz (at_+4)),zhz (at_+4*i.imm),M)
 else if 32≤i.op∧i.op≤37 then some (R,if z8k i.op (R i.d) (R i.a)=true then zhz (at_+4*i.imm) else zhz (at_+4),M)
 else none
structure RegOk (vs:List Int) (R:Int→Int):Prop where
 vars:VarsOk vs
 regs:∀ j,0≤j→j<16→getV vs j=R j
 zero:R 0=0
section
variable {ats:List Int} {l:List BOp} {k:Int} {vs:List Int} {M:MemP}
end
section
variable {ats:List Int} {k:Int} {vs:List Int} {R:Int→Int} {M:MemP} {i:QI}
end
structure RunR where
 leaves:Bool
 done:Nat
 pc:Int
 R:Int→Int
 M:MemP
def RunR.out (r:RunR) (vs:List Int):EvR:=⟨⟨r.leaves,if r.leaves=true then (r.done:Int) else 0,r.done,r.pc,zpg vs⟩,r.M⟩
abbrev z95 (vs:List Int):List CV:=List.map CV.v (u32L vs)
theorem z96 {vs:List Int} (h:VarsOk vs):(z95 vs).length=28:=by simp [h.len]
theorem ybr:(z95 (List.replicate 28 0)).length=28:=rfl
theorem zdl {l:List CV} {n:Nat} (h:l.length=n):Nat.beq l.length n=true:=by rw [h];exact Nat.beq_refl n
theorem zdz {l m:List CV} (h:l.length=m.length):Nat.ble (0+l.length) m.length=true:=Nat.ble_eq_true_of_le zO
theorem z90 {vs:List Int} (h:VarsOk vs) {i:Int} (hi:0≤i∧i<28):(z95 vs)[0+i.toNat*1]?=some (.v (.int .u32 (getV vs i))):=by
 have hlt:i.toNat<vs.length:=by rw [h.len];omega
 unfold getV
 rw [Nat.zero_add,Nat.mul_one,List.getElem?_map,List.getElem?_map,List.getElem?_eq_getElem hlt]
 rfl
theorem z91 {vs:List Int} (h:VarsOk vs) {i:Int} (hi:0≤i∧i<28) (c:CV):Nat.ble (0+i.toNat*1+[c].length) (z95 vs).length=true:=Nat.ble_eq_true_of_le (by rw [z96 h];show 0+_*1+1≤28;omega)
theorem z92 {vs:List Int} (h:VarsOk vs):Nat.ble (z95 vs).length 8=false:=by rw [z96 h];rfl
theorem z93 (vs:List Int) (i:Int) (x:Int):z3z (z95 vs) (0+i.toNat*1) [.v (.int .u32 x)]=z95 (vs.set i.toNat x):=by
 rw [z4h,Nat.zero_add,Nat.mul_one];show _=List.map CV.v (List.map (Value.int .u32) (vs.set i.toNat x));rw [List.map_set (f:=Value.int .u32)]
theorem z99 {vs:List Int} (h:VarsOk vs) (Z:List CV) (hZ:Z.length=28):z3z Z 0 (z95 vs)=z95 vs:=z32 (by rw [hZ,z96 h])
theorem z9f (us:List Value) (x:Value):(AV.tup [.agg (List.map CV.v us),.c (.v x)]).val=some (.tuple #[.agg us.toArray,x]):=by
 simp only [AV.val,zzp,Pc.val,z9d us,CV.val]
theorem ObjsAt.pre {w:World} {gs hs:List Nat} {U V:List Ow} (hl:U.length=gs.length) (hob:zaj U.length U) (h:ObjsAt w (gs++hs) (U++V)):ObjsAt w gs U:=by
 have at_:∀ {i b:Nat},gs[i]?=some b→(gs++hs)[i]?=some b:=fun {i b} hb=>by
  have:i<gs.length:=by
   rcases Nat.lt_or_ge i gs.length with h1|h1
   ·exact h1
   ·rw [List.getElem?_eq_none h1] at hb;cases hb
  rw [List.getElem?_append_left this];exact hb
 have back:∀ i b,i<U.length→(zkf (gs++hs)).blk i=some b→(zkf gs).blk i=some b:=fun i b hi hb=>by
  have hb:(gs++hs)[i]?=some b:=hb;rw [List.getElem?_append_left zO] at hb;exact hb
 refine ⟨hl,fun i j b hi hj=>h.nodup i j b (at_ hi) (at_ hj),fun g hg=>h.lt g (List.mem_append.2 (.inl hg)),fun i o ho=>?_⟩
 have hi:i<U.length:=by
  rcases Nat.lt_or_ge i U.length with h1|h1
  ·exact h1
  ·rw [List.getElem?_eq_none h1] at ho;cases ho
 have h1:=h.own i o (by rw [List.getElem?_append_left hi];exact ho);have h2:=hob o (List.mem_of_getElem? ho)
 cases o with
 |cells t l=>
  obtain ⟨b,us,e1,e2,e3⟩:=h1;refine ⟨b,us,back i b hi e1,e2,zit (k:=0) (n:=U.length) (fun j b hj hb=>back j b hj (by rwa [Nat.zero_add] at hb)) h2 ?_⟩
  have:∀ l:List CV,l.map (CV.sh 0)=l:=fun l=>by
   refine (List.map_congr_left fun c _=>?_).trans (List.map_id l)
   cases c<;>simp [CV.sh]
  rw [this];exact e3
 |row=>exact h2.elim
 |ext=>exact h2.elim
 |view=>exact h2.elim
 |gone=>exact h2.elim
theorem GrownBys.trans {w w1 w2:World} {gs gs':List Nat} (h:GrownBys w w1 gs) (k:GrownBys w1 w2 gs') (hn:∀ g∈gs',g∈gs∨w.heap.size≤g):GrownBys w w2 gs:=
 ⟨k.os.trans h.os,k.tape.trans h.tape,k.output.trans h.output,Nat.le_trans h.size k.size,fun b hb hg=>(k.block b (Nat.lt_of_lt_of_le hb h.size) (fun hm=>by
  rcases hn b hm with h1|h1
  ·exact hg h1
  ·omega)).trans (h.block b hb hg)⟩
section
variable {P:Program} {w0:World} {G:Gs} {N:Nd} {f:Fr} {S:List Ow} {Q:Exit→Act→World→Prop}
theorem zch {id:Nat} (h:AtQ w0 G N .ret f S Q):AtQ w0 G N .ret f S (Exit.inBlock id Q):=⟨fun a w hg=>h.out a w hg⟩
theorem zci {α:Type} {T:α→Fr} {U:α→List Ow} (h:AtQ w0 G N .ret f S Q):AtQ w0 G N .ret f S (MidQ w0 G N T U Q):=⟨fun a w hg=>h.out a w hg⟩
theorem zck {α:Type} {T:α→Fr} {U:α→List Ow} {m:α→Nat} {n:Nat} (h:AtQ w0 G N .ret f S Q):AtQ w0 G N .ret f S (zam w0 G N T U m n Q):=⟨fun a w hg=>h.out a w hg⟩
theorem zkp {t e:TypeId} (ht:P.underlying t=some (.pointer e)) (p:Addr) (d:Nat) (w:World):(Op.equalIn (d+1) t (.pointer (some p)) (.pointer none)).run P w= .ok false w:=by
 simp [Op.equalIn,run_underlying ht]
theorem zko {t e:TypeId} (ht:P.underlying t=some (.pointer e)) (p:Addr) (_:Unit) (w:World):(Op.equal t (.pointer (some p)) (.pointer none)).run P w= .ok false w:=zkp ht p 9999 w
theorem z0f {K:AV→Prop} {o:Oper} {t t' e:TypeId} {x y:Operand} {i off:Nat} (hop:o.op= .binOp .eql t x y t') (ht:P.underlying t=some (.pointer e)) (hx:f.ev x= .p (.c (.ref i off))) (hy:f.ev y=one (.pointer none)) (hk:K (one (.bool false))):QRun P w0 G S f o K:=by
 refine ⟨_,hk,fun r a hf=>?_⟩;have h1:=hf.ev x;have h2:=hf.ev y;rw [hx] at h1;rw [hy] at h2;obtain ⟨b,hb,hu⟩:=zi4 h1;refine ⟨_,zi3 _ _,fun w hR=>?_⟩;have he:(Op.equal t (.pointer (some ⟨b,off,none⟩)) (.pointer none)).run P w= .ok false w:=zko ht _ () w;simp [execOp,hop,hu,zi6 h2,eqGuard,binOp,he]
end
abbrev encV (x:Option Int):Value:= .tuple #[.int .u32 (x.getD 0),intV (if x.isSome then 0 else 12)]
def QI.zero:QI:=⟨0,0,0,0,0⟩
abbrev decV (x:Option QI):Value:= .tuple #[qiV (x.getD QI.zero),intV (if x.isSome then 0 else 12)]
theorem z9j {i:QI} (h:z9h i=true):(0≤i.op∧i.op<64)∧(0≤i.d∧i.d<16)∧(0≤i.a∧i.a<16)∧(0≤i.b∧i.b<16):=by
 obtain ⟨h1,h2,h3,h4,_⟩:=z9i h;have h5:=(zzx i.op).2.2.2.2.1 h1;have:=z1d h2;have:=z1d h3;have:=z1d h4;omega
theorem zjs (i:QI) (w:World) (h:0≤i.op∧i.op<64) (hi:word i.imm):Calls Tryz.prog 87 #[qiV i] w fun e w'=>e= .returned (encV (encQ i))∧Below w.heap.size w w':=by
 refine zfk [qiV i] Tryz.func87 Tryz.ntmps87 rfl zS ?_;(conv=>whnf);refine ze2 rfl zK (fun r w' _=>z9t i w' h hi) ?_;unfold encQ
 cases hv:z9h i with
 |false=>
  refine kB ?_
  exact zmp rfl fun w' hB=>⟨rfl,hB⟩
 |true=>
  obtain ⟨r0,rd,ra,rb⟩:=z9j hv;refine kB ?_;(conv=>whnf);refine ⟨i.op,by rw [wr32];omega,?_⟩;(conv=>whnf);refine ⟨i.op*67108864,by rw [wr32];omega,?_⟩;(conv=>whnf);refine ⟨i.d,by rw [wr32];omega,?_⟩;(conv=>whnf);refine ⟨i.d*4194304,by rw [wr32];omega,?_⟩;(conv=>whnf);refine ⟨i.op*67108864+i.d*4194304,by rw [wr32];omega,?_⟩;(conv=>whnf);refine ⟨i.a,by rw [wr32];omega,?_⟩;(conv=>whnf);refine ⟨i.a*262144,by rw [wr32];omega,?_⟩;(conv=>whnf);refine ⟨i.op*67108864+i.d*4194304+i.a*262144,by rw [wr32];omega,?_⟩;(conv=>whnf);refine ⟨i.b,by rw [wr32];omega,?_⟩;(conv=>whnf);refine ⟨i.b*16384,by rw [wr32];omega,?_⟩;(conv=>whnf);refine ⟨i.op*67108864+i.d*4194304+i.a*262144+i.b*16384,by rw [wr32];omega,?_⟩;(conv=>whnf);refine ze2 rfl zK (fun r w' _=>zv4 i.op w' h) ?_;have hw:yas i=i.op*67108864+i.d*4194304+i.a*262144+i.b*16384+i.imm%2^(zzw i.op).bits:=rfl;have hword:=(zif hv hi).2;rw [hw] at hword⊢;have hf:=zns i.op;generalize zzw i.op=f at hf hword⊢;(conv=>whnf);rcases hf.bits with hb|hb
  ·rw [hb]
   refine kA ?_;(conv=>whnf)
   refine zmp rfl fun w' hB=>⟨?_,hB⟩
   simp [encV]
  ·refine ⟨fun hc=>absurd hc zV,fun _=>?_⟩
   (conv=>whnf);refine ⟨_,zg7 hb,?_⟩;(conv=>whnf);refine ⟨by omega,_,shl1 hb,?_⟩;(conv=>whnf);refine ⟨by rcases hb with hb|hb<;>rw [hb]<;>decide,i.imm%2^f.bits,Int.tmod_eq_emod_of_nonneg hi.1,?_⟩;(conv=>whnf);refine ⟨i.op*67108864+i.d*4194304+i.a*262144+i.b*16384+i.imm%2^f.bits,?_,?_⟩
   ·rw [wr32];unfold word at hword;omega
   conv=>whnf
   refine zmp rfl fun w' hB=>⟨?_,hB⟩
   simp [encV]
theorem yaw:word 0:=by unfold word;omega
theorem q26 {w:Int} (h:word w):w.tdiv 67108864=w/67108864∧(0≤w/67108864∧w/67108864<64):=by
 obtain ⟨h0,h1⟩:=h;exact ⟨Int.tdiv_eq_ediv_of_nonneg h0,by omega⟩
def zl7 (f:QForm) (w:Int):QI:=
 ⟨w/67108864,if f.d=true then w/4194304%16 else 0,if f.a=true then w/262144%16 else 0,if f.b=true then w/16384%16 else 0,if f.signed=true then sgnW (w%2^f.bits) f.bits else w%2^f.bits⟩
theorem zl8 (w:Int):zl7 (zzw (w/67108864)) w=zl9 w:=rfl
theorem zig (x:Int) (w:World) (hx:word x):Calls Tryz.prog 33 #[.int .u32 x] w fun e w'=>e= .returned (decV (decQ x))∧Below w.heap.size w w':=by
 have h0:=hx.1;obtain ⟨q1,q2⟩:=q26 hx;refine zfk [.int .u32 x] Tryz.func33 Tryz.ntmps33 rfl zS ?_;(conv=>whnf);refine ⟨by decide,x/67108864,by rw [q1,wr32];omega,?_⟩;(conv=>whnf);refine ⟨x/67108864,wr64 zO,?_⟩;(conv=>whnf);refine ze2 rfl zK (fun r w' _=>zv4 (x/67108864) w' q2) ?_;have hf:=zns (x/67108864);unfold decQ;rw [← zl8];generalize zzw (x/67108864)=f at hf⊢;obtain ⟨is,fd,fa,fb,fs,bits,most⟩:=f;obtain ⟨hb,hm,hs⟩:=hf;dsimp only at hb hm hs
 have fld:∀ k:Int,0<k→x.tdiv k=x/k∧(x/k).tmod 16=x/k%16∧IntKind.i64.wrap (x/k%16)=x/k%16:=fun k hk=>by
  have h1:0≤x/k:=Int.ediv_nonneg h0 zO;exact ⟨Int.tdiv_eq_ediv_of_nonneg h0,Int.tmod_eq_emod_of_nonneg h1,wr64 zO⟩
 obtain ⟨d1,d2,d3⟩:=fld 4194304 zO;obtain ⟨a1,a2,a3⟩:=fld 262144 zO;obtain ⟨b1,b2,b3⟩:=fld 16384 zO
 obtain ⟨y,hy⟩:∃ y,zl7 ⟨is,fd,fa,fb,fs,bits,most⟩ x=y:=⟨_,rfl⟩
 rw [hy]
 have hyop:y.op=x/67108864:=by rw [← hy];rfl
 have e0:x%2^0=0:=by simp
 cases fd<;>cases fa<;>cases fb<;>((conv=>whnf);(repeat (first|(refine ⟨fun _=>?_,nT⟩;(conv=>whnf))|(refine ⟨nF,fun _=>?_⟩;(conv=>whnf))|(refine ⟨by decide,x/4194304,by rw [d1,wr32];omega,?_⟩;(conv=>whnf);refine ⟨by decide,x/4194304%16,d2,?_⟩;(conv=>whnf);refine ⟨_,d3,?_⟩;(conv=>whnf))|(refine ⟨by decide,x/262144,by rw [a1,wr32];omega,?_⟩;(conv=>whnf);refine ⟨by decide,x/262144%16,a2,?_⟩;(conv=>whnf);refine ⟨_,a3,?_⟩;(conv=>whnf))|(refine ⟨by decide,x/16384,by rw [b1,wr32];omega,?_⟩;(conv=>whnf);refine ⟨by decide,x/16384%16,b2,?_⟩;(conv=>whnf);refine ⟨_,b3,?_⟩;(conv=>whnf)))))
 all_goals
  rcases hb with rfl|hb
  ·obtain rfl:fs=false:=by
    cases fs with
    |false=>rfl
    |true=>exact absurd (hs rfl).1 zO
   refine kA ?_;simp only [zl7,e0,eq_self,if_true,Bool.false_eq_true,if_false] at hy;refine ze2 (xs:=[qiV y]) (by rw [← hy];rfl) zK (fun r w' _=>zjs y w' (by rw [hyop];exact q2) (by rw [← hy];exact yaw)) ?_;(conv=>whnf);generalize encQ y=ey
   cases ey with
   |none=>
    refine kB ?_;(conv=>whnf)
    exact zmp rfl fun w' hB=>⟨by simp [decV,QI.zero],hB⟩
   |some z=>
    refine kB ?_;(conv=>whnf);refine ⟨fun hc=>?_,fun hc=>?_⟩
    ·conv=>whnf
     refine zmp rfl fun w' hB=>⟨?_,hB⟩
     have:¬z=x:=(by simpa using hc);simp [decV,QI.zero,this]
    ·conv=>whnf
     refine zmp rfl fun w' hB=>⟨?_,hB⟩
     have:z=x:=(by simpa using hc);rw [if_pos (by rw [this]), ← hy];rfl
  ·have hlow:0≤x%2^bits∧x%2^bits<4194304:=by rcases hb with hb|hb<;>rw [hb]<;>omega
   refine ⟨fun _=>?_,fun hc=>absurd hc zV⟩;(conv=>whnf);refine ⟨_,zg7 hb,?_⟩;(conv=>whnf);refine ⟨by omega,_,shl1 hb,?_⟩;(conv=>whnf);refine ⟨by show (2:Int)^bits≠0;rcases hb with hb|hb<;>rw [hb]<;>decide,x%2^bits,Int.tmod_eq_emod_of_nonneg h0,?_⟩
   have hwl:word (x%2^bits):=⟨hlow.1,by omega⟩
   conv=>whnf
   cases fs with
   |false=>
    refine kA ?_;simp only [zl7,eq_self,if_true,Bool.false_eq_true,if_false] at hy;refine ze2 (xs:=[qiV y]) (by rw [← hy];rfl) zK (fun r w' _=>zjs y w' (by rw [hyop];exact q2) (by rw [← hy];exact hwl)) ?_;(conv=>whnf);generalize encQ y=ey
    cases ey with
    |none=>
     refine kB ?_;(conv=>whnf)
     exact zmp rfl fun w' hB=>⟨by simp [decV,QI.zero],hB⟩
    |some z=>
     refine kB ?_;(conv=>whnf);refine ⟨fun hc=>?_,fun hc=>?_⟩
     ·conv=>whnf
      refine zmp rfl fun w' hB=>⟨?_,hB⟩
      have:¬z=x:=(by simpa using hc);simp [decV,QI.zero,this]
     ·conv=>whnf
      refine zmp rfl fun w' hB=>⟨?_,hB⟩
      have:z=x:=(by simpa using hc);rw [if_pos (by rw [this]), ← hy];rfl
   |true=>
    refine kA ?_;simp only [zl7,eq_self,if_true,Bool.false_eq_true,if_false] at hy;refine ze2 rfl zK (fun r w' _=>z5c (x%2^bits) bits w' hwl (.inr hb)) ?_;(conv=>whnf);refine ze2 (xs:=[qiV y]) (by rw [← hy];rfl) zK (fun r w' _=>zjs y w' (by rw [hyop];exact q2) (by rw [← hy];exact z4p _ (.inr hb))) ?_;(conv=>whnf);generalize encQ y=ey
    cases ey with
    |none=>
     refine kB ?_;(conv=>whnf)
     exact zmp rfl fun w' hB=>⟨by simp [decV,QI.zero],hB⟩
    |some z=>
     refine kB ?_;(conv=>whnf);refine ⟨fun hc=>?_,fun hc=>?_⟩
     ·conv=>whnf
      refine zmp rfl fun w' hB=>⟨?_,hB⟩
      have:¬z=x:=(by simpa using hc);simp [decV,QI.zero,this]
     ·conv=>whnf
      refine zmp rfl fun w' hB=>⟨?_,hB⟩
      have:z=x:=(by simpa using hc);rw [if_pos (by rw [this]), ← hy];rfl
def z5g (op:Int):Bool:=decide (op<48)
theorem zrj {op:Int} (h:(zzw op).is=true):(1≤op∧op≤12)∨(16≤op∧op≤27)∨(32≤op∧op≤37)∨op=40∨op=41∨(48≤op∧op≤54):=by
 unfold zzw at h
 repeat' split at h
 all_goals first|omega|cases h
theorem zzv {op:Int}:zzu op≠0↔(1≤op∧op≤12)∨(16≤op∧op≤22):=by
 unfold zzu
 repeat' split
 all_goals omega
def zrq (F:Int→Option QI):Nat→(Int→Int)→Int→MemP→Option ((Int→Int)×Int×MemP)
 |0,R,a,M=>some (R,a,M)
 |m+1,R,a,M=>(match z65 (qAt F a) a R M with
  |none=>none
  |some (R',nx,M')=>zrq F m R' nx M')
theorem zrr (F:Int→Option QI) (m:Nat) (R:Int→Int) (a:Int) (M:MemP):zrq F (m+1) R a M=(match z65 (qAt F a) a R M with
  |none=>none
  |some (R',nx,M')=>zrq F m R' nx M'):=rfl
end Go.Proofs.YtocafomnnkmjfaaGreat
