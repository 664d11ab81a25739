import Derived.Test.YtocafomnnkmjfaaGreatK17
set_option maxRecDepth 100000
set_option maxHeartbeats 16000000
namespace Go.Proofs.YtocafomnnkmjfaaGreat
open Go.RowKit
inductive CS where
 |c0 (a b c d e:Bool)
 |c1 (b c d e:Bool)
 |c2 (c d e:Bool)
 |c3 (d e:Bool)
 |c4 (e:Bool)
 |c5
 |x1
 |x2
 |x3
def csL (a0 p0 a1 p1 a2 p2 a3 p3 a4 p4 t u v:Bool):Array Bool:= #[a0,true,true,true,true,p0,a1,true,true,true,true,p1,a2,true,true,true,true,p2,a3,true,true,true,true,p3,a4,true,true,true,true,p4,true,true,true,true,t,u,v]
def CS.listed:CS→Array Bool
 | .c0 a b c d e=>csL a false b false c false d false e false false false false
 | .c1 b c d e=>csL true true b false c false d false e false false false false
 | .c2 c d e=>csL true true true true c false d false e false false false false
 | .c3 d e=>csL true true true true true true d false e false false false false
 | .c4 e=>csL true true true true true true true true e false false false false
 | .c5=>csL true true true true true true true true true true false false false
 | .x1=>csL true true true true true true true true true true true false false
 | .x2=>csL true true true true true true true true true true true true false
 | .x3=>csL true true true true true true true true true true true true true
def bqN (i:Nat) (y:CS):Bool→List (Nat×CS)
 |false=>[(i,y)]
 |true=>[]
def apN (i:Nat) (y:CS):Bool→List (Nat×CS)
 |true=>[(i,y)]
 |false=>[]
def CS.nx:CS→Nx CS
 | .c0 a b c d e=> .alts (bqN 0 (.c0 true b c d e) a++(apN 5 (.c1 b c d e) a++(bqN 6 (.c0 a true c d e) b++(bqN 12 (.c0 a b true d e) c++(bqN 18 (.c0 a b c true e) d++(bqN 24 (.c0 a b c d true) e))))))
 | .c1 b c d e=> .alts (bqN 6 (.c1 true c d e) b++(apN 11 (.c2 c d e) b++(bqN 12 (.c1 b true d e) c++(bqN 18 (.c1 b c true e) d++(bqN 24 (.c1 b c d true) e)))))
 | .c2 c d e=> .alts (bqN 12 (.c2 true d e) c++(apN 17 (.c3 d e) c++(bqN 18 (.c2 c true e) d++(bqN 24 (.c2 c d true) e))))
 | .c3 d e=> .alts (bqN 18 (.c3 true e) d++(apN 23 (.c4 e) d++(bqN 24 (.c3 d true) e)))
 | .c4 e=> .alts (bqN 24 (.c4 true) e++(apN 29 .c5 e))
 | .c5=> .alts [(34,.x1)]
 | .x1=> .alts [(35,.x2)]
 | .x2=> .alts [(36,.x3)]
 | .x3=> .done
def blN:Bool→Nat
 |true=>0
 |false=>1
def CS.left:CS→Nat
 | .c0 a b c d e=>8+blN a+blN b+blN c+blN d+blN e
 | .c1 b c d e=>7+blN b+blN c+blN d+blN e
 | .c2 c d e=>6+blN c+blN d+blN e
 | .c3 d e=>5+blN d+blN e
 | .c4 e=>4+blN e
 | .c5=>3
 | .x1=>2
 | .x2=>1
 | .x3=>0
def slB (i:Nat):Bool→Bool→AV
 |true,false=> .p (.c (.row i))
 |_,_=> .p (.c .any)
def slA (i:Nat):Bool→AV
 |true=> .p (.c (.row i))
 |false=> .p (.c .any)
def enB (t:TypeId) (n:Nat) (xs:List Value):Bool→Bool→Ow
 |_,true=> .row t 1 n xs
 |true,false=> .row t 1 0 []
 |false,false=> .gone
abbrev cpT (pre:Fr) (a p0 b p1 c p2 d p3 e p4:Bool):Fr:=(3,slB 0 a p0)::(9,slB 1 b p1)::(15,slB 2 c p2)::(21,slB 3 d p3)::(27,slB 4 e p4)::(8,slA 0 p0)::(14,slA 1 p1)::(20,slA 2 p2)::(26,slA 3 p3)::(32,slA 4 p4)::pre
abbrev cpU (n p:Nat) (D I OD OI R:List Value) (a p0 b p1 c p2 d p3 e p4:Bool):List Ow:=[enB 5 n D a p0,enB 5 n I b p1,enB 5 n OD c p2,enB 5 n OI d p3,enB 3 p R e p4]
abbrev cpM:List CV:=[.row 0,.row 1,.row 2,.row 3,.row 4,.v (.bool false)]
def CS.T (pre:Fr):CS→Fr
 | .c0 a b c d e=>cpT pre a false b false c false d false e false
 | .c1 b c d e=>cpT pre true true b false c false d false e false
 | .c2 c d e=>cpT pre true true true true c false d false e false
 | .c3 d e=>cpT pre true true true true true true d false e false
 | .c4 e=>cpT pre true true true true true true true true e false
 | .c5=>cpT pre true true true true true true true true true true
 | .x1=>(37,.p (.agg cpM))::cpT pre true true true true true true true true true true
 | .x2=>(38,.p (.c (.ref 5 0)))::cpT pre true true true true true true true true true true
 | .x3=>(2,.p (.c (.ref 5 0)))::cpT pre true true true true true true true true true true
def CS.U (n p:Nat) (D I OD OI R:List Value):CS→List Ow
 | .c0 a b c d e=>cpU n p D I OD OI R a false b false c false d false e false
 | .c1 b c d e=>cpU n p D I OD OI R true true b false c false d false e false
 | .c2 c d e=>cpU n p D I OD OI R true true true true c false d false e false
 | .c3 d e=>cpU n p D I OD OI R true true true true true true d false e false
 | .c4 e=>cpU n p D I OD OI R true true true true true true true true e false
 | .c5=>cpU n p D I OD OI R true true true true true true true true true true
 | .x1=>cpU n p D I OD OI R true true true true true true true true true true
 | .x2=>cpU n p D I OD OI R true true true true true true true true true true++[.cells 115 cpM]
 | .x3=>cpU n p D I OD OI R true true true true true true true true true true++[.cells 115 cpM]
theorem zj6 {w0:World} {N:Nd} {f:Fr} {o0 o1 o2 o3 o4:Ow} {d:Nat} {e:TypeId} (size:Nat) (hf:f.bnd 5=true) (hA:z14 [o0,o1,o2,o3,o4]=true):
  Ent w0 Gs.nil N ((d,.p (.c (.sl 5 0 0 0)))::f) [o0,o1,o2,o3,o4,.cells e []] ((d,.p (.c (.row 5)))::f) [o0,o1,o2,o3,o4,.row e size 0 []]:=zj5 (A:=[o0,o1,o2,o3,o4]) d e size hf hA
structure MemH (w:World) (g n p:Nat) (M:MemP) (g1 g2 g3 g4 g5:Nat):Prop where
 h1:zac w Gs.nil g 0 [.slice (some ⟨g1,0,none⟩) n (n+M.td.length)]
 h2:zac w Gs.nil g 1 [.slice (some ⟨g2,0,none⟩) n (n+M.ti.length)]
 h3:zac w Gs.nil g 2 [.slice (some ⟨g3,0,none⟩) n (n+M.tod.length)]
 h4:zac w Gs.nil g 3 [.slice (some ⟨g4,0,none⟩) n (n+M.toi.length)]
 h5:zac w Gs.nil g 4 [.slice (some ⟨g5,0,none⟩) p (p+M.tr.length)]
 h6:zac w Gs.nil g 5 [.bool false]
 s1:zao w Gs.nil (some ⟨g1,0,none⟩) (M.data.map zem)
 s2:zao w Gs.nil (some ⟨g2,0,none⟩) (M.image.map zem)
 s3:zao w Gs.nil (some ⟨g3,0,none⟩) (M.oldData.map zem)
 s4:zao w Gs.nil (some ⟨g4,0,none⟩) (M.oldImage.map zem)
 s5:zao w Gs.nil (some ⟨g5,0,none⟩) (M.rights.map intV)
theorem zt4 {w:World} {g n p:Nat} {gs:List Nat} {M:MemP} (h:ObjsAt w (g::gs) (memS 0 n p M)):∃ g1 g2 g3 g4 g5,MemH w g n p M g1 g2 g3 g4 g5:=by
 obtain ⟨g0,g1,g2,g3,g4,g5,hg⟩:=z5w h;injection hg with hg0 hgs;subst hgs;subst hg0
 have vals:∀ (k gk:Nat) (t:TypeId) (xs:List Int) (f:Int→Value) (T:List Value),(memS 0 n p M)[k]?=some (.cells t ((xs.map f++T).map CV.v))→[g,g1,g2,g3,g4,g5][k]?=some gk→zao w Gs.nil (some ⟨gk,0,none⟩) (xs.map f):=fun k gk t xs f T hk hgk=>by
  obtain ⟨b,us',e1,e2,e3⟩:=h.own k _ hk;have e1:[g,g1,g2,g3,g4,g5][k]?=some b:=e1;rw [hgk] at e1;injection e1 with e1;subst e1;obtain rfl:=ziw e3;intro j u hj
  have hi:j<(xs.map f).length:=by
   rcases Nat.lt_or_ge j (xs.map f).length with h1|h1
   ·exact h1
   ·rw [List.getElem?_eq_none h1] at hj;cases hj
  refine ⟨gk,0,rfl,h.lt gk (List.mem_of_getElem? hgk),by simp,?_⟩;simp only [World.cell?,e2,Nat.zero_add];show (xs.map f++T).toArray[j]?=some u;rw [List.getElem?_toArray,List.getElem?_append_left hi];exact hj
 obtain ⟨b,us,e1,e2,e3⟩:=h.own 0 _ rfl;have e1:g=b:=(by have:some g=some b:=e1;injection this);subst e1;simp only [denL,CV.den] at e3;obtain ⟨u0,l0,rfl,⟨b0,hb0,rfl⟩,u1,l1,rfl,⟨b1,hb1,rfl⟩,u2,l2,rfl,⟨b2,hb2,rfl⟩,u3,l3,rfl,⟨b3,hb3,rfl⟩,u4,l4,rfl,⟨b4,hb4,rfl⟩,u5,l5,rfl,rfl,rfl⟩:=e3;have q0:g1=b0:=(by have:some g1=some b0:=hb0;injection this);have q1:g2=b1:=(by have:some g2=some b1:=hb1;injection this);have q2:g3=b2:=(by have:some g3=some b2:=hb2;injection this);have q3:g4=b3:=(by have:some g4=some b3:=hb3;injection this);have q4:g5=b4:=(by have:some g5=some b4:=hb4;injection this);subst q0;subst q1;subst q2;subst q3;subst q4;have hlt:g<w.heap.size:=h.lt g zS;have cl:∀ (k:Nat) (u:Value),[Value.slice (some ⟨g1,0,none⟩) n (n+M.td.length),.slice (some ⟨g2,0,none⟩) n (n+M.ti.length),.slice (some ⟨g3,0,none⟩) n (n+M.tod.length),.slice (some ⟨g4,0,none⟩) n (n+M.toi.length),.slice (some ⟨g5,0,none⟩) p (p+M.tr.length),.bool false][k]?=some u→zac w Gs.nil g k [u]:=fun k u hk=>zfu hlt zS (by simpa [World.cell?,e2] using hk);exact ⟨g1,g2,g3,g4,g5,cl 0 _ rfl,cl 1 _ rfl,cl 2 _ rfl,cl 3 _ rfl,cl 4 _ rfl,cl 5 _ rfl,vals 1 g1 _ M.data zem M.td rfl rfl,vals 2 g2 _ M.image zem M.ti rfl rfl,vals 3 g3 _ M.oldData zem M.tod rfl rfl,vals 4 g4 _ M.oldImage zem M.toi rfl rfl,vals 5 g5 _ M.rights intV M.tr rfl rfl⟩
theorem zhh (M:MemP) (n p:Nat) (w:World) (g:Nat) (gs:List Nat) (hU:ObjsAt w (g::gs) (memS 0 n p M)) (hM:M.ok n p) (hp:1≤p):
  Calls Tryz.prog 32 #[.pointer (some ⟨g,0,none⟩)] w fun e w'=>∃ g' gs' M',e= .returned (.pointer (some ⟨g',0,none⟩))∧(∃ t1 t2 t3 t4 t5,M'={M with td:=t1,ti:=t2,tod:=t3,toi:=t4,tr:=t5})∧NewObjs w w' (g'::gs') (memS 0 n p M'):=by
 obtain ⟨g1,g2,g3,g4,g5,H⟩:=zt4 hU;have hnp:=hM.np;have hpm:=hM.pmax
 have oneB:∀ l:List Int,∀ u∈l.map zem,u.oneCell'=true:=fun l u hu=>by obtain ⟨x,_,rfl⟩:=List.mem_map.1 hu;rfl
 have oneI:∀ l:List Int,∀ u∈l.map intV,u.oneCell'=true:=fun l u hu=>by obtain ⟨x,_,rfl⟩:=List.mem_map.1 hu;rfl
 have L1:(M.data.map zem).length=n*1:=by rw [List.length_map,hM.ld,Nat.mul_one]
 have L2:(M.image.map zem).length=n*1:=by rw [List.length_map,hM.li,Nat.mul_one]
 have L3:(M.oldData.map zem).length=n*1:=by rw [List.length_map,hM.lod,Nat.mul_one]
 have L4:(M.oldImage.map zem).length=n*1:=by rw [List.length_map,hM.loi,Nat.mul_one]
 have L5:(M.rights.map intV).length=p*1:=by rw [List.length_map,hM.lr,Nat.mul_one]
 have K1:=oneB M.data
 have K2:=oneB M.image
 have K3:=oneB M.oldData
 have K4:=oneB M.oldImage
 have K5:=oneI M.rights
 obtain ⟨h1,h2,h3,h4,h5,h6,s1,s2,s3,s4,s5⟩:=H
 obtain ⟨z1,hz1⟩:∃ z,z=n+M.td.length:=⟨_,rfl⟩
 obtain ⟨z2,hz2⟩:∃ z,z=n+M.ti.length:=⟨_,rfl⟩
 obtain ⟨z3,hz3⟩:∃ z,z=n+M.tod.length:=⟨_,rfl⟩
 obtain ⟨z4,hz4⟩:∃ z,z=n+M.toi.length:=⟨_,rfl⟩
 obtain ⟨z5,hz5⟩:∃ z,z=p+M.tr.length:=⟨_,rfl⟩
 rw [← hz1] at h1;rw [← hz2] at h2;rw [← hz3] at h3;rw [← hz4] at h4;rw [← hz5] at h5
 obtain ⟨D,hD⟩:∃ D,D=M.data.map zem:=⟨_,rfl⟩
 obtain ⟨I,hI⟩:∃ D,D=M.image.map zem:=⟨_,rfl⟩
 obtain ⟨OD,hOD⟩:∃ D,D=M.oldData.map zem:=⟨_,rfl⟩
 obtain ⟨OI,hOI⟩:∃ D,D=M.oldImage.map zem:=⟨_,rfl⟩
 obtain ⟨R,hR⟩:∃ D,D=M.rights.map intV:=⟨_,rfl⟩
 rw [← hD] at s1 L1 K1;rw [← hI] at s2 L2 K2;rw [← hOD] at s3 L3 K3;rw [← hOI] at s4 L4 K4;rw [← hR] at s5 L5 K5;refine zfh [.pointer (some ⟨g,0,none⟩)] Tryz.func32 Tryz.ntmps32 rfl zS ?_;refine z3i ?_;(conv=>whnf);refine z3c (α:=Unit) (fun _=>[(2,.p (.c (.ref 5 0)))]) (fun _=>CS.U n p D I OD OI R .x3) ?_ fun _=>?_
 ·refine z3m ?_
  refine z2u [1,2,3,4,7,8,9,10,13,14,15,16,19,20,21,22,25,26,27,28,30,31,32,33] CS.listed CS.nx CS.left (CS.T [(7,one (.slice (some ⟨g1,0,none⟩) n z1)),(13,one (.slice (some ⟨g2,0,none⟩) n z2)),(19,one (.slice (some ⟨g3,0,none⟩) n z3)),(25,one (.slice (some ⟨g4,0,none⟩) n z4)),(31,one (.slice (some ⟨g5,0,none⟩) p z5)),(36,one (.bool false))]) (CS.U n p D I OD OI R) (.c0 false false false false false) mixed zK zK (fun x=>?_) ?_ fun x=>?_
  ·cases x with
   |c0 a b c d e=>cases a<;>cases b<;>cases c<;>cases d<;>cases e<;>kernel_rfl
   |c1 b c d e=>cases b<;>cases c<;>cases d<;>cases e<;>kernel_rfl
   |c2 c d e=>cases c<;>cases d<;>cases e<;>kernel_rfl
   |c3 d e=>cases d<;>cases e<;>kernel_rfl
   |c4 e=>cases e<;>kernel_rfl
   |_=>kernel_rfl
  ·conv=>whnf
   refine ⟨_,h1,?_⟩;(conv=>whnf);refine ⟨_,h2,?_⟩;(conv=>whnf);refine ⟨_,h3,?_⟩;(conv=>whnf);refine ⟨_,h4,?_⟩;(conv=>whnf);refine ⟨_,h5,?_⟩;(conv=>whnf);refine ⟨_,h6,?_⟩;(conv=>whnf);exact zkc (zj3 5) (zkb rfl (aI Ttb6 (aI Ttb6 (aI Ttb6 (aI Ttb6 (aI Ttb6 (aI Ttb6 (aI Ttb6 (aI Ttb6 (aI Ttb6 (aI Ttb6 (aI Ttb6 (aI Ttb6 (aI Ttb6 (aI Ttb6 (aI Ttb6 (aI Ttb6 trivial)))))))))))))))) (aI (trivial) (aI (trivial) (aI (trivial) (aI (trivial) (aI (trivial) trivial))))))
  ·cases x with
   |c0 a b c d e=>cases a<;>cases b<;>cases c<;>cases d<;>cases e<;>(
    repeat' (first|exact zvj|refine zvi ?_ ?_)
    all_goals (
     conv=>whnf
     first
      |(refine zkc (zj6 1 rfl rfl) ?_;first|exact zj9 [5,1,2,3,4] (aI Ttb6 (aI Ttb6 (aI Ttb6 (aI Ttb6 (aI Ttb6 (aI Ttb6 (aI Ttb6 (aI Ttb6 (aI Ttb6 (aI Ttb6 (aI Ttb6 (aI Ttb6 (aI Ttb6 (aI Ttb6 (aI Ttb6 (aI Ttb6 trivial)))))))))))))))) (aI Ttb3 (aI Ttb3 (aI Ttb3 (aI Ttb3 (aI Ttb3 trivial))))) rfl rfl rfl rfl rfl|exact zj9 [0,5,2,3,4] (aI Ttb6 (aI Ttb6 (aI Ttb6 (aI Ttb6 (aI Ttb6 (aI Ttb6 (aI Ttb6 (aI Ttb6 (aI Ttb6 (aI Ttb6 (aI Ttb6 (aI Ttb6 (aI Ttb6 (aI Ttb6 (aI Ttb6 (aI Ttb6 trivial)))))))))))))))) (aI Ttb3 (aI Ttb3 (aI Ttb3 (aI Ttb3 (aI Ttb3 trivial))))) rfl rfl rfl rfl rfl|exact zj9 [0,1,5,3,4] (aI Ttb6 (aI Ttb6 (aI Ttb6 (aI Ttb6 (aI Ttb6 (aI Ttb6 (aI Ttb6 (aI Ttb6 (aI Ttb6 (aI Ttb6 (aI Ttb6 (aI Ttb6 (aI Ttb6 (aI Ttb6 (aI Ttb6 (aI Ttb6 trivial)))))))))))))))) (aI Ttb3 (aI Ttb3 (aI Ttb3 (aI Ttb3 (aI Ttb3 trivial))))) rfl rfl rfl rfl rfl|exact zj9 [0,1,2,5,4] (aI Ttb6 (aI Ttb6 (aI Ttb6 (aI Ttb6 (aI Ttb6 (aI Ttb6 (aI Ttb6 (aI Ttb6 (aI Ttb6 (aI Ttb6 (aI Ttb6 (aI Ttb6 (aI Ttb6 (aI Ttb6 (aI Ttb6 (aI Ttb6 trivial)))))))))))))))) (aI Ttb3 (aI Ttb3 (aI Ttb3 (aI Ttb3 (aI Ttb3 trivial))))) rfl rfl rfl rfl rfl|exact zj9 [0,1,2,3,5] (aI Ttb6 (aI Ttb6 (aI Ttb6 (aI Ttb6 (aI Ttb6 (aI Ttb6 (aI Ttb6 (aI Ttb6 (aI Ttb6 (aI Ttb6 (aI Ttb6 (aI Ttb6 (aI Ttb6 (aI Ttb6 (aI Ttb6 (aI Ttb6 trivial)))))))))))))))) (aI Ttb3 (aI Ttb3 (aI Ttb3 (aI Ttb3 (aI Ttb3 trivial))))) rfl rfl rfl rfl rfl)
      |(refine zbi rfl ?_ rfl
        conv=>whnf
        first|refine ⟨_,s1,L1,K1,by omega,?_⟩|refine ⟨_,s2,L2,K2,by omega,?_⟩|refine ⟨_,s3,L3,K3,by omega,?_⟩|refine ⟨_,s4,L4,K4,by omega,?_⟩|refine ⟨_,s5,L5,K5,by omega,?_⟩
        conv=>whnf
        exact zkb rfl (aI Ttb6 (aI Ttb6 (aI Ttb6 (aI Ttb6 (aI Ttb6 (aI Ttb6 (aI Ttb6 (aI Ttb6 (aI Ttb6 (aI Ttb6 (aI Ttb6 (aI Ttb6 (aI Ttb6 (aI Ttb6 (aI Ttb6 (aI Ttb6 trivial)))))))))))))))) (aI Ttb4 (aI Ttb4 (aI Ttb4 (aI Ttb4 (aI Ttb4 trivial))))))))
   |c1 b c d e=>cases b<;>cases c<;>cases d<;>cases e<;>(
    repeat' (first|exact zvj|refine zvi ?_ ?_)
    all_goals (
     conv=>whnf
     first
      |(refine zkc (zj6 1 rfl rfl) ?_;first|exact zj9 [5,1,2,3,4] (aI Ttb6 (aI Ttb6 (aI Ttb6 (aI Ttb6 (aI Ttb6 (aI Ttb6 (aI Ttb6 (aI Ttb6 (aI Ttb6 (aI Ttb6 (aI Ttb6 (aI Ttb6 (aI Ttb6 (aI Ttb6 (aI Ttb6 (aI Ttb6 trivial)))))))))))))))) (aI Ttb3 (aI Ttb3 (aI Ttb3 (aI Ttb3 (aI Ttb3 trivial))))) rfl rfl rfl rfl rfl|exact zj9 [0,5,2,3,4] (aI Ttb6 (aI Ttb6 (aI Ttb6 (aI Ttb6 (aI Ttb6 (aI Ttb6 (aI Ttb6 (aI Ttb6 (aI Ttb6 (aI Ttb6 (aI Ttb6 (aI Ttb6 (aI Ttb6 (aI Ttb6 (aI Ttb6 (aI Ttb6 trivial)))))))))))))))) (aI Ttb3 (aI Ttb3 (aI Ttb3 (aI Ttb3 (aI Ttb3 trivial))))) rfl rfl rfl rfl rfl|exact zj9 [0,1,5,3,4] (aI Ttb6 (aI Ttb6 (aI Ttb6 (aI Ttb6 (aI Ttb6 (aI Ttb6 (aI Ttb6 (aI Ttb6 (aI Ttb6 (aI Ttb6 (aI Ttb6 (aI Ttb6 (aI Ttb6 (aI Ttb6 (aI Ttb6 (aI Ttb6 trivial)))))))))))))))) (aI Ttb3 (aI Ttb3 (aI Ttb3 (aI Ttb3 (aI Ttb3 trivial))))) rfl rfl rfl rfl rfl|exact zj9 [0,1,2,5,4] (aI Ttb6 (aI Ttb6 (aI Ttb6 (aI Ttb6 (aI Ttb6 (aI Ttb6 (aI Ttb6 (aI Ttb6 (aI Ttb6 (aI Ttb6 (aI Ttb6 (aI Ttb6 (aI Ttb6 (aI Ttb6 (aI Ttb6 (aI Ttb6 trivial)))))))))))))))) (aI Ttb3 (aI Ttb3 (aI Ttb3 (aI Ttb3 (aI Ttb3 trivial))))) rfl rfl rfl rfl rfl|exact zj9 [0,1,2,3,5] (aI Ttb6 (aI Ttb6 (aI Ttb6 (aI Ttb6 (aI Ttb6 (aI Ttb6 (aI Ttb6 (aI Ttb6 (aI Ttb6 (aI Ttb6 (aI Ttb6 (aI Ttb6 (aI Ttb6 (aI Ttb6 (aI Ttb6 (aI Ttb6 trivial)))))))))))))))) (aI Ttb3 (aI Ttb3 (aI Ttb3 (aI Ttb3 (aI Ttb3 trivial))))) rfl rfl rfl rfl rfl)
      |(refine zbi rfl ?_ rfl
        conv=>whnf
        first|refine ⟨_,s1,L1,K1,by omega,?_⟩|refine ⟨_,s2,L2,K2,by omega,?_⟩|refine ⟨_,s3,L3,K3,by omega,?_⟩|refine ⟨_,s4,L4,K4,by omega,?_⟩|refine ⟨_,s5,L5,K5,by omega,?_⟩
        conv=>whnf
        exact zkb rfl (aI Ttb6 (aI Ttb6 (aI Ttb6 (aI Ttb6 (aI Ttb6 (aI Ttb6 (aI Ttb6 (aI Ttb6 (aI Ttb6 (aI Ttb6 (aI Ttb6 (aI Ttb6 (aI Ttb6 (aI Ttb6 (aI Ttb6 (aI Ttb6 trivial)))))))))))))))) (aI Ttb4 (aI Ttb4 (aI Ttb4 (aI Ttb4 (aI Ttb4 trivial))))))))
   |c2 c d e=>cases c<;>cases d<;>cases e<;>(
    repeat' (first|exact zvj|refine zvi ?_ ?_)
    all_goals (
     conv=>whnf
     first
      |(refine zkc (zj6 1 rfl rfl) ?_;first|exact zj9 [5,1,2,3,4] (aI Ttb6 (aI Ttb6 (aI Ttb6 (aI Ttb6 (aI Ttb6 (aI Ttb6 (aI Ttb6 (aI Ttb6 (aI Ttb6 (aI Ttb6 (aI Ttb6 (aI Ttb6 (aI Ttb6 (aI Ttb6 (aI Ttb6 (aI Ttb6 trivial)))))))))))))))) (aI Ttb3 (aI Ttb3 (aI Ttb3 (aI Ttb3 (aI Ttb3 trivial))))) rfl rfl rfl rfl rfl|exact zj9 [0,5,2,3,4] (aI Ttb6 (aI Ttb6 (aI Ttb6 (aI Ttb6 (aI Ttb6 (aI Ttb6 (aI Ttb6 (aI Ttb6 (aI Ttb6 (aI Ttb6 (aI Ttb6 (aI Ttb6 (aI Ttb6 (aI Ttb6 (aI Ttb6 (aI Ttb6 trivial)))))))))))))))) (aI Ttb3 (aI Ttb3 (aI Ttb3 (aI Ttb3 (aI Ttb3 trivial))))) rfl rfl rfl rfl rfl|exact zj9 [0,1,5,3,4] (aI Ttb6 (aI Ttb6 (aI Ttb6 (aI Ttb6 (aI Ttb6 (aI Ttb6 (aI Ttb6 (aI Ttb6 (aI Ttb6 (aI Ttb6 (aI Ttb6 (aI Ttb6 (aI Ttb6 (aI Ttb6 (aI Ttb6 (aI Ttb6 trivial)))))))))))))))) (aI Ttb3 (aI Ttb3 (aI Ttb3 (aI Ttb3 (aI Ttb3 trivial))))) rfl rfl rfl rfl rfl|exact zj9 [0,1,2,5,4] (aI Ttb6 (aI Ttb6 (aI Ttb6 (aI Ttb6 (aI Ttb6 (aI Ttb6 (aI Ttb6 (aI Ttb6 (aI Ttb6 (aI Ttb6 (aI Ttb6 (aI Ttb6 (aI Ttb6 (aI Ttb6 (aI Ttb6 (aI Ttb6 trivial)))))))))))))))) (aI Ttb3 (aI Ttb3 (aI Ttb3 (aI Ttb3 (aI Ttb3 trivial))))) rfl rfl rfl rfl rfl|exact zj9 [0,1,2,3,5] (aI Ttb6 (aI Ttb6 (aI Ttb6 (aI Ttb6 (aI Ttb6 (aI Ttb6 (aI Ttb6 (aI Ttb6 (aI Ttb6 (aI Ttb6 (aI Ttb6 (aI Ttb6 (aI Ttb6 (aI Ttb6 (aI Ttb6 (aI Ttb6 trivial)))))))))))))))) (aI Ttb3 (aI Ttb3 (aI Ttb3 (aI Ttb3 (aI Ttb3 trivial))))) rfl rfl rfl rfl rfl)
      |(refine zbi rfl ?_ rfl
        conv=>whnf
        first|refine ⟨_,s1,L1,K1,by omega,?_⟩|refine ⟨_,s2,L2,K2,by omega,?_⟩|refine ⟨_,s3,L3,K3,by omega,?_⟩|refine ⟨_,s4,L4,K4,by omega,?_⟩|refine ⟨_,s5,L5,K5,by omega,?_⟩
        conv=>whnf
        exact zkb rfl (aI Ttb6 (aI Ttb6 (aI Ttb6 (aI Ttb6 (aI Ttb6 (aI Ttb6 (aI Ttb6 (aI Ttb6 (aI Ttb6 (aI Ttb6 (aI Ttb6 (aI Ttb6 (aI Ttb6 (aI Ttb6 (aI Ttb6 (aI Ttb6 trivial)))))))))))))))) (aI Ttb4 (aI Ttb4 (aI Ttb4 (aI Ttb4 (aI Ttb4 trivial))))))))
   |c3 d e=>cases d<;>cases e<;>(
    repeat' (first|exact zvj|refine zvi ?_ ?_)
    all_goals (
     conv=>whnf
     first
      |(refine zkc (zj6 1 rfl rfl) ?_;first|exact zj9 [5,1,2,3,4] (aI Ttb6 (aI Ttb6 (aI Ttb6 (aI Ttb6 (aI Ttb6 (aI Ttb6 (aI Ttb6 (aI Ttb6 (aI Ttb6 (aI Ttb6 (aI Ttb6 (aI Ttb6 (aI Ttb6 (aI Ttb6 (aI Ttb6 (aI Ttb6 trivial)))))))))))))))) (aI Ttb3 (aI Ttb3 (aI Ttb3 (aI Ttb3 (aI Ttb3 trivial))))) rfl rfl rfl rfl rfl|exact zj9 [0,5,2,3,4] (aI Ttb6 (aI Ttb6 (aI Ttb6 (aI Ttb6 (aI Ttb6 (aI Ttb6 (aI Ttb6 (aI Ttb6 (aI Ttb6 (aI Ttb6 (aI Ttb6 (aI Ttb6 (aI Ttb6 (aI Ttb6 (aI Ttb6 (aI Ttb6 trivial)))))))))))))))) (aI Ttb3 (aI Ttb3 (aI Ttb3 (aI Ttb3 (aI Ttb3 trivial))))) rfl rfl rfl rfl rfl|exact zj9 [0,1,5,3,4] (aI Ttb6 (aI Ttb6 (aI Ttb6 (aI Ttb6 (aI Ttb6 (aI Ttb6 (aI Ttb6 (aI Ttb6 (aI Ttb6 (aI Ttb6 (aI Ttb6 (aI Ttb6 (aI Ttb6 (aI Ttb6 (aI Ttb6 (aI Ttb6 trivial)))))))))))))))) (aI Ttb3 (aI Ttb3 (aI Ttb3 (aI Ttb3 (aI Ttb3 trivial))))) rfl rfl rfl rfl rfl|exact zj9 [0,1,2,5,4] (aI Ttb6 (aI Ttb6 (aI Ttb6 (aI Ttb6 (aI Ttb6 (aI Ttb6 (aI Ttb6 (aI Ttb6 (aI Ttb6 (aI Ttb6 (aI Ttb6 (aI Ttb6 (aI Ttb6 (aI Ttb6 (aI Ttb6 (aI Ttb6 trivial)))))))))))))))) (aI Ttb3 (aI Ttb3 (aI Ttb3 (aI Ttb3 (aI Ttb3 trivial))))) rfl rfl rfl rfl rfl|exact zj9 [0,1,2,3,5] (aI Ttb6 (aI Ttb6 (aI Ttb6 (aI Ttb6 (aI Ttb6 (aI Ttb6 (aI Ttb6 (aI Ttb6 (aI Ttb6 (aI Ttb6 (aI Ttb6 (aI Ttb6 (aI Ttb6 (aI Ttb6 (aI Ttb6 (aI Ttb6 trivial)))))))))))))))) (aI Ttb3 (aI Ttb3 (aI Ttb3 (aI Ttb3 (aI Ttb3 trivial))))) rfl rfl rfl rfl rfl)
      |(refine zbi rfl ?_ rfl
        conv=>whnf
        first|refine ⟨_,s1,L1,K1,by omega,?_⟩|refine ⟨_,s2,L2,K2,by omega,?_⟩|refine ⟨_,s3,L3,K3,by omega,?_⟩|refine ⟨_,s4,L4,K4,by omega,?_⟩|refine ⟨_,s5,L5,K5,by omega,?_⟩
        conv=>whnf
        exact zkb rfl (aI Ttb6 (aI Ttb6 (aI Ttb6 (aI Ttb6 (aI Ttb6 (aI Ttb6 (aI Ttb6 (aI Ttb6 (aI Ttb6 (aI Ttb6 (aI Ttb6 (aI Ttb6 (aI Ttb6 (aI Ttb6 (aI Ttb6 (aI Ttb6 trivial)))))))))))))))) (aI Ttb4 (aI Ttb4 (aI Ttb4 (aI Ttb4 (aI Ttb4 trivial))))))))
   |c4 e=>cases e<;>(
    repeat' (first|exact zvj|refine zvi ?_ ?_)
    all_goals (
     conv=>whnf
     first
      |(refine zkc (zj6 1 rfl rfl) ?_;first|exact zj9 [5,1,2,3,4] (aI Ttb6 (aI Ttb6 (aI Ttb6 (aI Ttb6 (aI Ttb6 (aI Ttb6 (aI Ttb6 (aI Ttb6 (aI Ttb6 (aI Ttb6 (aI Ttb6 (aI Ttb6 (aI Ttb6 (aI Ttb6 (aI Ttb6 (aI Ttb6 trivial)))))))))))))))) (aI Ttb3 (aI Ttb3 (aI Ttb3 (aI Ttb3 (aI Ttb3 trivial))))) rfl rfl rfl rfl rfl|exact zj9 [0,5,2,3,4] (aI Ttb6 (aI Ttb6 (aI Ttb6 (aI Ttb6 (aI Ttb6 (aI Ttb6 (aI Ttb6 (aI Ttb6 (aI Ttb6 (aI Ttb6 (aI Ttb6 (aI Ttb6 (aI Ttb6 (aI Ttb6 (aI Ttb6 (aI Ttb6 trivial)))))))))))))))) (aI Ttb3 (aI Ttb3 (aI Ttb3 (aI Ttb3 (aI Ttb3 trivial))))) rfl rfl rfl rfl rfl|exact zj9 [0,1,5,3,4] (aI Ttb6 (aI Ttb6 (aI Ttb6 (aI Ttb6 (aI Ttb6 (aI Ttb6 (aI Ttb6 (aI Ttb6 (aI Ttb6 (aI Ttb6 (aI Ttb6 (aI Ttb6 (aI Ttb6 (aI Ttb6 (aI Ttb6 (aI Ttb6 trivial)))))))))))))))) (aI Ttb3 (aI Ttb3 (aI Ttb3 (aI Ttb3 (aI Ttb3 trivial))))) rfl rfl rfl rfl rfl|exact zj9 [0,1,2,5,4] (aI Ttb6 (aI Ttb6 (aI Ttb6 (aI Ttb6 (aI Ttb6 (aI Ttb6 (aI Ttb6 (aI Ttb6 (aI Ttb6 (aI Ttb6 (aI Ttb6 (aI Ttb6 (aI Ttb6 (aI Ttb6 (aI Ttb6 (aI Ttb6 trivial)))))))))))))))) (aI Ttb3 (aI Ttb3 (aI Ttb3 (aI Ttb3 (aI Ttb3 trivial))))) rfl rfl rfl rfl rfl|exact zj9 [0,1,2,3,5] (aI Ttb6 (aI Ttb6 (aI Ttb6 (aI Ttb6 (aI Ttb6 (aI Ttb6 (aI Ttb6 (aI Ttb6 (aI Ttb6 (aI Ttb6 (aI Ttb6 (aI Ttb6 (aI Ttb6 (aI Ttb6 (aI Ttb6 (aI Ttb6 trivial)))))))))))))))) (aI Ttb3 (aI Ttb3 (aI Ttb3 (aI Ttb3 (aI Ttb3 trivial))))) rfl rfl rfl rfl rfl)
      |(refine zbi rfl ?_ rfl
        conv=>whnf
        first|refine ⟨_,s1,L1,K1,by omega,?_⟩|refine ⟨_,s2,L2,K2,by omega,?_⟩|refine ⟨_,s3,L3,K3,by omega,?_⟩|refine ⟨_,s4,L4,K4,by omega,?_⟩|refine ⟨_,s5,L5,K5,by omega,?_⟩
        conv=>whnf
        exact zkb rfl (aI Ttb6 (aI Ttb6 (aI Ttb6 (aI Ttb6 (aI Ttb6 (aI Ttb6 (aI Ttb6 (aI Ttb6 (aI Ttb6 (aI Ttb6 (aI Ttb6 (aI Ttb6 (aI Ttb6 (aI Ttb6 (aI Ttb6 (aI Ttb6 trivial)))))))))))))))) (aI Ttb4 (aI Ttb4 (aI Ttb4 (aI Ttb4 (aI Ttb4 trivial))))))))
   |c5=>
    refine zvi ?_ zvj;(conv=>whnf);exact zkb rfl (aI Ttb6 (aI Ttb6 (aI Ttb6 (aI Ttb6 (aI Ttb6 (aI Ttb6 (aI Ttb6 (aI Ttb6 (aI Ttb6 (aI Ttb6 (aI Ttb6 (aI Ttb6 (aI Ttb6 (aI Ttb6 (aI Ttb6 (aI Ttb6 (aI Ttb6 trivial))))))))))))))))) (aI Ttb4 (aI Ttb4 (aI Ttb4 (aI Ttb4 (aI Ttb4 trivial)))))
   |x1=>
    refine zvi ?_ zvj;(conv=>whnf);exact zkb rfl (aI Ttb6 (aI Ttb6 (aI Ttb6 (aI Ttb6 (aI Ttb6 (aI Ttb6 (aI Ttb6 (aI Ttb6 (aI Ttb6 (aI Ttb6 (aI Ttb6 (aI Ttb6 (aI Ttb6 (aI Ttb6 (aI Ttb6 (aI Ttb6 (aI Ttb6 trivial))))))))))))))))) ((aI Ttb5 (aI Ttb5 (aI Ttb5 (aI Ttb5 (aI Ttb5 (aI Ttb5 trivial)))))))
   |x2=>
    refine zvi ?_ zvj;(conv=>whnf);exact zkb rfl (aI Ttb6 (aI Ttb6 (aI Ttb6 (aI Ttb6 (aI Ttb6 (aI Ttb6 (aI Ttb6 (aI Ttb6 (aI Ttb6 (aI Ttb6 (aI Ttb6 (aI Ttb6 (aI Ttb6 (aI Ttb6 (aI Ttb6 (aI Ttb6 (aI Ttb6 trivial))))))))))))))))) ((aI Ttb5 (aI Ttb5 (aI Ttb5 (aI Ttb5 (aI Ttb5 (aI Ttb5 trivial)))))))
   |x3=>exact zb8 () (zkb rfl (aI rfl trivial) ((aI Ttb5 (aI Ttb5 (aI Ttb5 (aI Ttb5 (aI Ttb5 (aI Ttb5 trivial))))))))
 refine z3m ?_
 conv=>whnf
 refine zcg ?_
 conv=>whnf
 refine ⟨fun r w' u hRel hden=>?_⟩
 have rowAt:∀ (i:Nat) (t:TypeId) (m:Nat) (xs:List Value),0<m→(CS.U n p D I OD OI R .x3)[i]?=some (.row t 1 m xs)→∃ (b:Nat) (T:List Value),r.blk i=some b∧r.val i=some (.slice (some ⟨b,0,none⟩) m (m+T.length))∧w'.heap[b]?=some (.cells (xs++T).toArray t (0,0)):=fun i t m xs hm hi=>by
  obtain ⟨v,f1,f2,f3⟩:=hRel.own i _ hi;obtain ⟨hl,h⟩:=f3;rcases h with ⟨_,h0⟩|⟨b,cap,cur,rfl,_,hh,hnc,_,hsz,htk⟩
  ·omega
  ·refine ⟨b,cur.toList.drop (m*1),f2.symm,?_,?_⟩
   ·rw [f1]
    have:m+(cur.toList.drop (m*1)).length=cap:=(by rw [List.length_drop,Array.length_toList];omega);rw [this]
   ·rw [← htk,List.take_append_drop,Array.toArray_toList];exact hh
 obtain ⟨b0,T0,k0,v0,q0⟩:=rowAt 0 5 n D zO rfl;obtain ⟨b1,T1,k1,v1,q1⟩:=rowAt 1 5 n I zO rfl;obtain ⟨b2,T2,k2,v2,q2⟩:=rowAt 2 5 n OD zO rfl;obtain ⟨b3,T3,k3,v3,q3⟩:=rowAt 3 5 n OI zO rfl;obtain ⟨b4,T4,k4,v4,q4⟩:=rowAt 4 3 p R zO rfl;obtain ⟨b5,us,k5,e2,e3⟩:=hRel.own 5 (.cells 115 cpM) rfl;simp only [denL,CV.den] at e3;obtain ⟨u0,l0,rfl,d0,u1,l1,rfl,d1,u2,l2,rfl,d2,u3,l3,rfl,d3,u4,l4,rfl,d4,u5,l5,rfl,rfl,rfl⟩:=e3;rw [v0] at d0;injection d0 with d0;subst d0;rw [v1] at d1;injection d1 with d1;subst d1;rw [v2] at d2;injection d2 with d2;subst d2;rw [v3] at d3;injection d3 with d3;subst d3;rw [v4] at d4;injection d4 with d4;subst d4;obtain ⟨b,hb,rfl⟩:=zi4 hden;rw [k5] at hb;injection hb with hb;subst hb
 have hg:∀ i b,[b5,b0,b1,b2,b3,b4][i]?=some b→r.blk ([5,0,1,2,3,4].getD i 9)=some b∧i<6:=fun i b hi=>by
  match i,hi with
  |0,hi=>exact ⟨k5.trans hi,by omega⟩
  |1,hi=>exact ⟨k0.trans hi,by omega⟩
  |2,hi=>exact ⟨k1.trans hi,by omega⟩
  |3,hi=>exact ⟨k2.trans hi,by omega⟩
  |4,hi=>exact ⟨k3.trans hi,by omega⟩
  |5,hi=>exact ⟨k4.trans hi,by omega⟩
 have hmem:∀ x∈[b5,b0,b1,b2,b3,b4],∃ k,r.blk k=some x:=fun x hx=>by
  obtain ⟨i,hi⟩:=List.getElem?_of_mem hx;exact ⟨_,(hg i x hi).1⟩
 refine ⟨b5,[b0,b1,b2,b3,b4],{M with td:=T0,ti:=T1,tod:=T2,toi:=T3,tr:=T4},rfl,⟨T0,T1,T2,T3,T4,rfl⟩,⟨rfl,fun i j b hi hj=>?_,fun x hx=>?_,fun i o ho=>?_⟩,fun x hx=>?_,hRel.toBelow⟩
 ·obtain ⟨h1,h2⟩:=hg i b hi
  obtain ⟨h3,h4⟩:=hg j b hj;have:=hRel.inj _ _ b h1 h3
  revert this
  rcases (by omega:i=0∨i=1∨i=2∨i=3∨i=4∨i=5) with rfl|rfl|rfl|rfl|rfl|rfl<;>rcases (by omega:j=0∨j=1∨j=2∨j=3∨j=4∨j=5) with rfl|rfl|rfl|rfl|rfl|rfl<;>simp
 ·obtain ⟨k,hk⟩:=hmem x hx
  exact (hRel.new k x hk).1
 ·match i,ho with
  |0,ho=>
   injection ho with ho;subst ho;exact ⟨b5,_,rfl,e2,_,_,rfl,⟨b0,rfl,rfl⟩,_,_,rfl,⟨b1,rfl,rfl⟩,_,_,rfl,⟨b2,rfl,rfl⟩,_,_,rfl,⟨b3,rfl,rfl⟩,_,_,rfl,⟨b4,rfl,rfl⟩,_,_,rfl,rfl,rfl⟩
  |1,ho=>
   injection ho with ho;subst ho;exact ⟨b0,M.data.map zem++T0,rfl,by rw [← hD];exact q0,ziv _⟩
  |2,ho=>
   injection ho with ho;subst ho;exact ⟨b1,M.image.map zem++T1,rfl,by rw [← hI];exact q1,ziv _⟩
  |3,ho=>
   injection ho with ho;subst ho;exact ⟨b2,M.oldData.map zem++T2,rfl,by rw [← hOD];exact q2,ziv _⟩
  |4,ho=>
   injection ho with ho;subst ho;exact ⟨b3,M.oldImage.map zem++T3,rfl,by rw [← hOI];exact q3,ziv _⟩
  |5,ho=>
   injection ho with ho;subst ho;exact ⟨b4,M.rights.map intV++T4,rfl,by rw [← hR];exact q4,ziv _⟩
 ·obtain ⟨k,hk⟩:=hmem x hx
  have h1:=hRel.new k x hk;rcases Nat.lt_or_ge x w.heap.size with h2|h2
  ·exact absurd (h1.2 h2) (Gs.mem_nil x)
  ·exact h2
end Go.Proofs.YtocafomnnkmjfaaGreat
