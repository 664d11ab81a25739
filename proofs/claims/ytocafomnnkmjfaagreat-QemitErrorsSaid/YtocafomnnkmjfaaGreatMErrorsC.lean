import Derived.ProofKit
import Derived.OpenShut
import Derived.ShutString
import Derived.ChangeOld
import Derived.Below
import Derived.Lib.SmallJoins
import Derived.Deep.Strs
import Derived.Test.YtocafomnnkmjfaaGreatK37
import Derived.Test.YtocafomnnkmjfaaGreatMErrorsB
set_option maxRecDepth 100000
set_option maxHeartbeats 4000000
namespace Go.Proofs.YtocafomnnkmjfaaGreat
open Go.RowKit
theorem yb3 (x:Int):0≤bits .and .i64 x 65535∧bits .and .i64 x 65535≤65535:=by
 have h:(BitVec.ofInt 64 x &&& BitVec.ofInt 64 65535).toNat≤65535:=by
  rw [BitVec.toNat_and];exact Nat.le_trans Nat.and_le_right (by decide)
 have e:bits .and .i64 x 65535=IntKind.i64.wrap ((BitVec.ofInt 64 x &&& BitVec.ofInt 64 65535).toNat:Int):=rfl;rw [e,wr64 zO];omega
theorem ydm:∀ {l:List BOp} {i:Nat} {o:BOp} (j:Nat) (u:Value) (o':BOp),l[i]?=some o→j<5→opC o'=(opC o).set j u→(l.flatMap opC).set (i*5+j) u=(l.set i o').flatMap opC
 |[],i,o,j,u,o',h,_,_=>by simp at h
 |x::l,0,o,j,u,o',h,hj,he=>by
  simp at h;subst h;rw [Nat.zero_mul,Nat.zero_add,List.flatMap_cons,List.set_append_left _ _ (by rw [zwr];exact hj), ← he];simp
 |x::l,i+1,o,j,u,o',h,hj,he=>by
  rw [List.flatMap_cons,show (i+1)*5+j=(opC x).length+(i*5+j) by rw [zwr];omega,yd5,ydm j u o' (by simpa using h) hj he];simp
theorem ydl {l:List BOp} {i k:Nat} {o:BOp} (j:Nat) (u:Value) (o':BOp) (hk:k=i*5+j) (h:l[i]?=some o) (hj:j<5) (he:opC o'=(opC o).set j u):z33 (l.flatMap opC) k [u]=(l.set i o').flatMap opC:=by
 subst hk;exact ydm j u o' h hj he
theorem yd0 {l:List BOp} {i k j:Nat} {o:BOp} {u:Value} (h:l[i]?=some o) (hu:(opC o)[j]?=some u) (hj:j<5) (hk:k=i*5+j):(List.map CV.v (List.flatMap opC l))[k]?=some (.v u):=by
 subst hk;rw [List.getElem?_map,zm0 l i j o h hj,hu];rfl
theorem ydn:∀ (l:List BOp) (k:Nat),(l.flatMap opC).take (k*5)=(l.take k).flatMap opC
 |[],k=>by simp
 |x::l,0=>by simp
 |x::l,k+1=>by
  rw [List.flatMap_cons,show (k+1)*5=(opC x).length+k*5 by rw [zwr];omega,List.take_length_add_append,ydn l k];simp
theorem ydg:∀ (l:List BOp) (k:Nat),(l.flatMap opC).drop (k*5)=(l.drop k).flatMap opC
 |[],k=>by simp
 |x::l,0=>by simp
 |x::l,k+1=>by
  rw [List.flatMap_cons,show (k+1)*5=(opC x).length+k*5 by rw [zwr];omega,List.drop_length_add_append,ydg l k];simp
theorem ydx {w0:World} {G:Gs} {S S2:List Ow} {r:Env} {w:World} (h:Rel w0 G S r w) (hl:S2.length=S.length) (ho:∀ (i:Nat) (o:Ow),S2[i]?=some o→o.holds r w i):Rel w0 G S2 r w:=
 ⟨h.os,h.tape,h.output,h.size,h.old,ho,h.inj,h.new,fun i hi=>h.outB i zO,fun i hi=>h.outV i zO,h.first⟩
theorem ydf {w0:World} {G:Gs} {S:List Ow} {r:Env} {w:World} (h:Rel w0 G S r w) {n:Nat} {l:List BOp} (h5:S[5]?=some (.row 61 5 n (l.flatMap opC))) (h6:S[6]?=some (.cells 28 [.row 3,.row 4,.row 5])) (hn:0<n):
  ∃ (ob C:Nat) (cur:List Value),n≤C∧C≤maxLen∧cur.length=C*5∧cur.take (n*5)=l.flatMap opC∧Rel w0 G ((S.set 5 (yc6 ob (.cells cur.toArray 61 (0,0)))).set 6 (.cells 28 [.row 3,.row 4,.v (.slice (some ⟨ob,0,none⟩) n C)])) r w:=by
 obtain ⟨v,f1,f2,f3⟩:=h.own 5 _ h5;obtain ⟨b,us,g1,g2,g3⟩:=h.own 6 _ h6;simp only [denL,CV.den] at g3;obtain ⟨u1,l1,rfl,e1,u2,l2,rfl,e2,u3,l3,rfl,e3,rfl⟩:=g3;rw [e3] at f1;injection f1 with f1;subst f1;rcases f3.2 with ⟨_,h0⟩|⟨ob,C,⟨cur⟩,k1,_,k3,k4,k5,k6,k7⟩
 ·omega
 ·refine ⟨ob,C,cur,k4,k5,by simpa using k6,k7,ydx h zS fun i o ho=>?_⟩
  rw [List.getElem?_set] at ho
  split at ho
  ·rename_i hi;subst hi
   split at ho
   ·injection ho with ho;subst ho
    exact ⟨b,[u1,u2,u3],g1,g2,by simp only [denL,CV.den];exact ⟨_,_,rfl,e1,_,_,rfl,e2,_,_,rfl,k1,rfl⟩⟩
   ·cases ho
  ·rw [List.getElem?_set] at ho
   split at ho
   ·rename_i hi;subst hi
    split at ho
    ·injection ho with ho;subst ho
     exact ⟨ob,by rw [← f2,k1];rfl,⟨rfl,k3⟩,fun w' hw=>⟨rfl,hw.trans k3⟩⟩
    ·cases ho
   ·exact h.own i o ho
theorem yef {b:Blk} (h:TurnOk b) {l:List BOp} (hl:∀ o∈l,o.ok) (hn:l.length≤1000):TurnOk ⟨b.at_,b.pages,l⟩:=⟨⟨h.ok.at_,h.ok.pages,hl,h.ok.lat,h.ok.lpages,Nat.le_trans hn zO⟩,h.l1,h.l2,hn⟩
theorem yeg {b:Blk} (h:TurnOk b) (i:Nat) {o:BOp} (ho:o.ok):TurnOk ⟨b.at_,b.pages,b.ops.set i o⟩:=yef h (fun p hp=>by
 rcases List.mem_or_eq_of_mem_set hp with hp|rfl
 ·exact h.ok.ops p hp
 ·exact ho) (by rw [List.length_set];exact h.l3)
abbrev blkZ:Ow:= .cells 28 [.v (.slice none 0 0),.v (.slice none 0 0),.v (.slice none 0 0)]
abbrev blkC:Ow:= .cells 28 [.row 3,.row 4,.row 5]
theorem yeh (b:Blk) (A1 A2 A3:Option Addr) (c1 c2 c3:Nat) (q0 q1 q2:Int) (w:World) (hb:b.ok) (hl1:b.at_.length≤900) (hl2:b.pages.length≤900) (hl3:b.ops.length≤900) (h1:SlAt w w.heap.size A1 (b.at_.map (.int .u32))) (h2:SlAt w w.heap.size A2 (b.pages.map (.int .i64))) (h3:OpsAt w w.heap.size A3 b.ops):
  Calls Tryz.prog 24 #[.agg #[.slice A1 b.at_.length c1,.slice A2 b.pages.length c2,.slice A3 b.ops.length c3],.agg #[.int .i64 q0,.int .i64 q1,.int .i64 q2]] w fun e w'=>∃ b' v1 v2 v3,TurnOk b'∧e= .returned (.agg #[v1,v2,v3])∧Rows3 w.heap.size w' v1 v2 v3 b'∧Below w.heap.size w w':=by
 have hT:TurnOk b:=⟨hb,by omega,by omega,by omega⟩
 refine zfe [.agg #[.slice A1 b.at_.length c1,.slice A2 b.pages.length c2,.slice A3 b.ops.length c3],.agg #[.int .i64 q0,.int .i64 q1,.int .i64 q2]] Tryz.func24 Tryz.ntmps24 rfl zS ?_;refine z3k ?_;(conv=>whnf);refine z3k ?_;(conv=>whnf);refine yb6 (fun b'=>b'=b) zK (fun r w' us hR hd=>?_) fun b' hb'=>?_
 ·obtain rfl:=zcs (xs:=[.agg #[.slice A1 b.at_.length c1,.slice A2 b.pages.length c2,.slice A3 b.ops.length c3]]) rfl hd
  refine (ydq b A1 A2 A3 c1 c2 c3 w' hb (z6d h1 hR.toBelow) (z6d h2 hR.toBelow) (z6d h3 hR.toBelow)).mono fun e w'' ⟨v1,v2,v3,he,hr,hB⟩=>⟨b,v1,v2,v3,rfl,he,hr,hB⟩
 subst hb'
 conv=>whnf
 refine z3k ?_
 conv=>whnf
 refine ⟨fun _=>?_,fun hne=>?_⟩
 ·conv=>whnf
  refine zcg ?_
  conv=>whnf
  exact ycs 3 4 5 b' zO zO zO (.inl ⟨rfl,rfl⟩) (.inl ⟨rfl,rfl⟩) (.inl ⟨rfl,rfl⟩) fun w' v1 v2 v3 h3 hB=>⟨b',v1,v2,v3,hT,rfl,h3,hB⟩
 have hpos:0<b'.ops.length:=by
  rcases Nat.eq_zero_or_pos b'.ops.length with h|h
  ·rw [h] at hne;simp at hne
  ·exact h
 conv=>whnf
 refine z3k ?_
 conv=>whnf
 refine ⟨⟨by omega,by omega⟩,?_⟩
 conv=>whnf
 obtain ⟨n,hn⟩:∃ n,bits .and .i64 q2 65535=n:=⟨_,rfl⟩
 have hn0:=(yb3 q2).1;have hn1:=(yb3 q2).2;rw [hn] at hn0 hn1;refine ⟨n,hn,?_⟩;(conv=>whnf);refine z3k ?_;(conv=>whnf);refine ⟨⟨by omega,by omega⟩,?_⟩;(conv=>whnf)
 obtain ⟨n1,hn1'⟩:∃ n1,bits .and .i64 q1 65535=n1:=⟨_,rfl⟩
 have hn10:=(yb3 q1).1;rw [hn1'] at hn10;refine ⟨n1,hn1',?_⟩;(conv=>whnf)
 obtain ⟨i,hi,hil⟩:∃ i:Nat,n1.tmod (b'.ops.length:Int)=(i:Int)∧i<b'.ops.length:=by
  have e1:=Int.tmod_nonneg (b'.ops.length:Int) hn10;have e2:=Int.tmod_lt_of_pos n1 (b:=(b'.ops.length:Int)) zO;exact ⟨(n1.tmod (b'.ops.length:Int)).toNat,by omega,by omega⟩
 refine ⟨by omega,(i:Int),hi,?_⟩
 conv=>whnf
 obtain ⟨o,ho⟩:∃ o,b'.ops[i]?=some o:=⟨_,List.getElem?_eq_getElem hil⟩
 have hoo:o.ok:=hb.ops o (List.mem_of_getElem? ho);refine z3g (α:={y:Blk//TurnOk y}) (fun y=>[(4,.p (.c (.ref 2 0))),(5,.p (.c (.ref 6 0)))]) (fun y=>[.gone,.gone,blkZ]++yb5 y.1++[blkC]) ?_ fun y=>?_
 ·refine z3k ?_
  (conv=>whnf);refine ⟨⟨by omega,by omega⟩,?_⟩;(conv=>whnf);refine ⟨by omega,_,rfl,?_⟩;(conv=>whnf);refine ⟨_,rfl,?_⟩;(conv=>whnf);refine ⟨by omega,_,rfl,?_⟩;(conv=>whnf)
  have m28:0≤n.tmod 28∧n.tmod 28<28:=⟨Int.tmod_nonneg _ hn0,Int.tmod_lt_of_pos _ zO⟩
  have m30:0≤n.tmod 30∧n.tmod 30<30:=⟨Int.tmod_nonneg _ hn0,Int.tmod_lt_of_pos _ zO⟩
  refine z26 ?_;refine z3k ?_;(conv=>whnf);refine z27 rfl (fun _=>?_) (fun _=>?_)
  ·refine z3p ?_
   (conv=>whnf);refine ⟨by omega,_,rfl,?_⟩;(conv=>whnf);refine ⟨⟨by omega,by omega⟩,?_⟩;(conv=>whnf);refine ⟨?_,?_⟩
   ·show (i:Int).toNat*5+0+1≤(b'.ops.flatMap opC).length
    rw [ydh,Int.toNat_natCast];omega
   (conv=>whnf);refine zb4 ?_;exact zb8 ⟨⟨b'.at_,b'.pages,b'.ops.set i (⟨n.tmod 28,o.d,o.a,o.b,o.n⟩:BOp)⟩,yeg hT i ⟨zun zU,hoo.d,hoo.a,hoo.b,hoo.n⟩⟩ (zjw Tn (aI (Ttb7) (aI (Ttb7) (aI sM (aI ((aI rfl (aI rfl (aI rfl rfl)))) (aI ((aI rfl (aI rfl (aI rfl rfl)))) (aI ((aI rfl (aI rfl (aI ((List.length_set).symm) (by exact ydl (l:=b'.ops) (i:=i) (o:=o) 0 (.int .i64 (n.tmod 28)) (⟨n.tmod 28,o.d,o.a,o.b,o.n⟩:BOp) (by rw [Int.toNat_natCast];rfl) ho zO rfl))))) (aI sM trivial))))))) rfl rfl)
  refine z3k ?_;(conv=>whnf);refine z27 rfl (fun _=>?_) (fun _=>?_)
  ·refine z3p ?_
   (conv=>whnf);refine ⟨by omega,_,rfl,?_⟩;(conv=>whnf);refine ⟨_,wr64 zO,?_⟩;(conv=>whnf);refine ⟨⟨by omega,by omega⟩,?_⟩;(conv=>whnf);refine ⟨?_,?_⟩
   ·show (i:Int).toNat*5+1+1≤(b'.ops.flatMap opC).length
    rw [ydh,Int.toNat_natCast];omega
   (conv=>whnf);refine zb4 ?_;exact zb8 ⟨⟨b'.at_,b'.pages,b'.ops.set i (⟨o.code,n.tmod 30-1,o.a,o.b,o.n⟩:BOp)⟩,yeg hT i ⟨hoo.code,zun zU,hoo.a,hoo.b,hoo.n⟩⟩ (zjw Tn (aI (Ttb7) (aI (Ttb7) (aI sM (aI ((aI rfl (aI rfl (aI rfl rfl)))) (aI ((aI rfl (aI rfl (aI rfl rfl)))) (aI ((aI rfl (aI rfl (aI ((List.length_set).symm) (by exact ydl (l:=b'.ops) (i:=i) (o:=o) 1 (.int .i64 (n.tmod 30-1)) (⟨o.code,n.tmod 30-1,o.a,o.b,o.n⟩:BOp) (by rw [Int.toNat_natCast];rfl) ho zO rfl))))) (aI sM trivial))))))) rfl rfl)
  refine z3k ?_;(conv=>whnf);refine z27 rfl (fun _=>?_) (fun _=>?_)
  ·refine z3p ?_
   (conv=>whnf);refine ⟨by omega,_,rfl,?_⟩;(conv=>whnf);refine ⟨_,wr64 zO,?_⟩;(conv=>whnf);refine ⟨⟨by omega,by omega⟩,?_⟩;(conv=>whnf);refine ⟨?_,?_⟩
   ·show (i:Int).toNat*5+2+1≤(b'.ops.flatMap opC).length
    rw [ydh,Int.toNat_natCast];omega
   (conv=>whnf);refine zb4 ?_;exact zb8 ⟨⟨b'.at_,b'.pages,b'.ops.set i (⟨o.code,o.d,n.tmod 30-1,o.b,o.n⟩:BOp)⟩,yeg hT i ⟨hoo.code,hoo.d,zun zU,hoo.b,hoo.n⟩⟩ (zjw Tn (aI (Ttb7) (aI (Ttb7) (aI sM (aI ((aI rfl (aI rfl (aI rfl rfl)))) (aI ((aI rfl (aI rfl (aI rfl rfl)))) (aI ((aI rfl (aI rfl (aI ((List.length_set).symm) (by exact ydl (l:=b'.ops) (i:=i) (o:=o) 2 (.int .i64 (n.tmod 30-1)) (⟨o.code,o.d,n.tmod 30-1,o.b,o.n⟩:BOp) (by rw [Int.toNat_natCast];rfl) ho zO rfl))))) (aI sM trivial))))))) rfl rfl)
  refine z3k ?_;(conv=>whnf);refine z27 rfl (fun _=>?_) (fun _=>?_)
  ·refine z3p ?_
   (conv=>whnf);refine ⟨by omega,_,rfl,?_⟩;(conv=>whnf);refine ⟨_,wr64 zO,?_⟩;(conv=>whnf);refine ⟨⟨by omega,by omega⟩,?_⟩;(conv=>whnf);refine ⟨?_,?_⟩
   ·show (i:Int).toNat*5+3+1≤(b'.ops.flatMap opC).length
    rw [ydh,Int.toNat_natCast];omega
   (conv=>whnf);refine zb4 ?_;exact zb8 ⟨⟨b'.at_,b'.pages,b'.ops.set i (⟨o.code,o.d,o.a,n.tmod 30-1,o.n⟩:BOp)⟩,yeg hT i ⟨hoo.code,hoo.d,hoo.a,zun zU,hoo.n⟩⟩ (zjw Tn (aI (Ttb7) (aI (Ttb7) (aI sM (aI ((aI rfl (aI rfl (aI rfl rfl)))) (aI ((aI rfl (aI rfl (aI rfl rfl)))) (aI ((aI rfl (aI rfl (aI ((List.length_set).symm) (by exact ydl (l:=b'.ops) (i:=i) (o:=o) 3 (.int .i64 (n.tmod 30-1)) (⟨o.code,o.d,o.a,n.tmod 30-1,o.n⟩:BOp) (by rw [Int.toNat_natCast];rfl) ho zO rfl))))) (aI sM trivial))))))) rfl rfl)
  refine z3k ?_;(conv=>whnf);refine z27 rfl (fun _=>?_) (fun _=>?_)
  ·refine z3p ?_
   refine z23 16 mixed zK ?_;(conv=>whnf);refine ⟨⟨by omega,by omega⟩,?_⟩;(conv=>whnf);rw [yd0 (j:=4) ho rfl zO];rotate_left
   ·rw [Int.toNat_natCast];rfl
   (conv=>whnf);refine ⟨by omega,_,rfl,?_⟩;(conv=>whnf);refine ⟨_,wr32 _,?_⟩;(conv=>whnf);refine ⟨_,wr32 _,?_⟩;(conv=>whnf);refine ⟨_,wr32 _,?_⟩;(conv=>whnf);refine ⟨⟨by omega,by omega⟩,?_⟩;(conv=>whnf);refine ⟨?_,?_⟩
   ·show (i:Int).toNat*5+4+1≤(b'.ops.flatMap opC).length
    rw [ydh,Int.toNat_natCast];omega
   (conv=>whnf);refine zb4 ?_;exact zb8 ⟨⟨b'.at_,b'.pages,b'.ops.set i (⟨o.code,o.d,o.a,o.b,(((o.n+n.tmod 3%4294967296)%4294967296-1)%4294967296)⟩:BOp)⟩,yeg hT i ⟨hoo.code,hoo.d,hoo.a,hoo.b,yay _⟩⟩ (zjw Tn (aI (Ttb7) (aI (Ttb7) (aI sM (aI ((aI rfl (aI rfl (aI rfl rfl)))) (aI ((aI rfl (aI rfl (aI rfl rfl)))) (aI ((aI rfl (aI rfl (aI ((List.length_set).symm) (by exact ydl (l:=b'.ops) (i:=i) (o:=o) 4 (.int .u32 (((o.n+n.tmod 3%4294967296)%4294967296-1)%4294967296)) (⟨o.code,o.d,o.a,o.b,(((o.n+n.tmod 3%4294967296)%4294967296-1)%4294967296)⟩:BOp) (by rw [Int.toNat_natCast];rfl) ho zO rfl))))) (aI sM trivial))))))) rfl rfl)
  refine z3k ?_;(conv=>whnf);refine z27 rfl (fun _=>?_) (fun _=>?_)
  ·refine yd2 fun r w' hR=>?_
   obtain ⟨ob,C,cur,k1,k2,k3,k4,hR2⟩:=ydf hR (l:=b'.ops) rfl rfl hpos;refine ⟨_,_,hR2,fun a ha=>ha,?_⟩;clear hR hR2
   have hxs:∀ (j:Nat) (u:Value),(b'.ops.flatMap opC)[j]?=some u→cur[j]?=some u:=fun j u hj=>by
    rw [← k4,List.getElem?_take] at hj
    split at hj
    ·exact hj
    ·cases hj
   refine z3k ?_;(conv=>whnf);refine ⟨((i+1:Nat):Int),by rw [wr64 zO];omega,?_⟩;(conv=>whnf);refine ydc (i+1) b'.ops.length 5 rfl rfl rfl rfl rfl (.inr ⟨_,.i64,rfl,rfl⟩) (.inl ⟨rfl,rfl⟩) zO k1 rfl ?_;(conv=>whnf);refine z3p ?_;(conv=>whnf);refine ydb (q:= .i64) i rfl rfl rfl rfl rfl zO rfl ?_;(conv=>whnf);refine yc9 5 ob i C 5 cur ((b'.ops.drop (i+1)).flatMap opC) rfl rfl rfl rfl rfl rfl zO (by decide) rfl rfl rfl (Nat.zero_le _) k3 zO k2 (by rw [ydh,List.length_drop]) (fun j u hj=>?_) (ydi _) zO rfl ?_
   ·rw [← ydg,List.getElem?_drop] at hj
    have hlt:(i+1)*5+j<b'.ops.length*5:=by
     rcases Nat.lt_or_ge ((i+1)*5+j) (b'.ops.length*5) with h|h
     ·exact h
     ·rw [List.getElem?_eq_none (by rw [ydh];omega)] at hj;cases hj
    rw [if_neg zO];exact ⟨(i+1)*5,by rw [Option.map_some,za0,Nat.zero_add],hxs _ _ hj⟩
   (conv=>whnf);refine zb4 ?_;have e0:cur.take (i*5)=(b'.ops.take i).flatMap opC:=(by rw [← ydn, ← k4,List.take_take,Nat.min_eq_left zO])
   exact zb8 ⟨⟨b'.at_,b'.pages,b'.ops.take i++b'.ops.drop (i+1)⟩,yef hT (fun p hp=>by
    rcases List.mem_append.1 hp with hp|hp
    ·exact hb.ops p (List.mem_of_mem_take hp)
    ·exact hb.ops p (List.mem_of_mem_drop hp)) zV⟩ (zjw Tn (aI (Ttb7) (aI (Ttb7) (aI sM (aI ((aI rfl (aI rfl (aI rfl rfl)))) (aI ((aI rfl (aI rfl (aI rfl rfl)))) (aI ((aI rfl (aI rfl (aI zV (by rw [e0];simp))))) (aI sM trivial))))))) rfl rfl)
  refine z3k ?_;(conv=>whnf);refine z27 rfl (fun _=>?_) (fun _=>?_)
  ·refine z3k ?_
   (conv=>whnf);refine ⟨⟨by omega,by omega⟩,?_⟩;(conv=>whnf);rw [yci ho];rotate_left
   ·rw [Int.toNat_natCast];rfl
   ·rfl
   (conv=>whnf);refine yd2 fun r w' hR=>?_;obtain ⟨ob,C,cur,k1,k2,k3,k4,hR2⟩:=ydf hR (l:=b'.ops) rfl rfl hpos;refine ⟨_,_,hR2,fun a ha=>ha,?_⟩;clear hR hR2
   have hxs:∀ (j:Nat) (u:Value),(b'.ops.flatMap opC)[j]?=some u→cur[j]?=some u:=fun j u hj=>by
    rw [← k4,List.getElem?_take] at hj
    split at hj
    ·exact hj
    ·cases hj
   refine z3k ?_;(conv=>whnf);refine z25 (yco 10 61 5 rfl) ?_;refine z3k ?_;(conv=>whnf);refine ydb (q:= .i64) i rfl rfl rfl rfl rfl zO rfl ?_;(conv=>whnf);refine yc8 5 8 ob 5 cur ((b'.ops.take i).flatMap opC) rfl rfl rfl rfl rfl rfl zO (by decide) rfl rfl rfl rfl (Nat.zero_le _) (by rw [ydh,List.length_take,Nat.min_eq_left zO]) (fun j u hj=>?_) (ydi _) zO rfl ?_
   ·rw [← ydn,List.getElem?_take] at hj
    split at hj
    ·exact ⟨0,rfl,by rw [Nat.zero_add];exact hxs _ _ hj⟩
    ·cases hj
   (conv=>whnf);refine z3k ?_;(conv=>whnf);refine zbi rfl ?_ rfl;(conv=>whnf);refine ⟨by omega,?_⟩;(conv=>whnf);refine z3p ?_;(conv=>whnf);refine ydc i b'.ops.length 5 rfl rfl rfl rfl rfl (.inr ⟨_,.i64,rfl,rfl⟩) (.inl ⟨rfl,rfl⟩) zO k1 rfl ?_;(conv=>whnf);refine yc8 5 8 ob 5 cur ((b'.ops.drop i).flatMap opC) rfl rfl rfl rfl rfl rfl zO (by decide) rfl rfl rfl rfl (Nat.zero_le _) (by rw [ydh,List.length_drop]) (fun j u hj=>?_) (ydi _) zO rfl ?_
   ·rw [← ydg,List.getElem?_drop] at hj
    rw [if_neg zO];exact ⟨i*5,by rw [Option.map_some,za0,Nat.zero_add],hxs _ _ hj⟩
   (conv=>whnf);refine zb4 ?_
   exact zb8 ⟨⟨b'.at_,b'.pages,b'.ops.take i++o::b'.ops.drop i⟩,yef hT (fun p hp=>by
    rcases List.mem_append.1 hp with hp|hp
    ·exact hb.ops p (List.mem_of_mem_take hp)
    ·rcases List.mem_cons.1 hp with rfl|hp
     ·exact hoo
     ·exact hb.ops p (List.mem_of_mem_drop hp)) zV⟩
    (zj3 [0,1,2,3,4,8,6] Tn (aI ((Exists.intro _ (aI rfl Ttb7))) (aI ((Exists.intro _ (aI rfl Ttb7))) (aI ((Exists.intro _ (aI rfl sM))) (aI ((Exists.intro _ (aI rfl (aI rfl (aI rfl (aI rfl rfl)))))) (aI ((Exists.intro _ (aI rfl (aI rfl (aI rfl (aI rfl rfl)))))) (aI ((Exists.intro _ (aI rfl (aI rfl (aI rfl (aI zV (by simp [opC]))))))) (aI ((Exists.intro _ (aI rfl sM))) trivial))))))) rfl rfl rfl rfl rfl)
  refine z3k ?_;(conv=>whnf);refine z27 rfl (fun _=>?_) (fun _=>?_)
  ·refine z3k ?_
   conv=>whnf
   obtain ⟨k,hk,hkl⟩:∃ k:Nat,n.tmod (b'.ops.length:Int)=(k:Int)∧k<b'.ops.length:=by
    have e1:=Int.tmod_nonneg (b'.ops.length:Int) hn0;have e2:=Int.tmod_lt_of_pos n (b:=(b'.ops.length:Int)) zO;exact ⟨(n.tmod (b'.ops.length:Int)).toNat,by omega,by omega⟩
   obtain ⟨o2,ho2⟩:∃ o,b'.ops[k]?=some o:=⟨_,List.getElem?_eq_getElem hkl⟩
   refine ⟨by omega,(k:Int),hk,?_⟩;(conv=>whnf);refine z3k ?_;(conv=>whnf);refine ⟨⟨by omega,by omega⟩,?_⟩;(conv=>whnf);rw [yci ho];rotate_left
   ·rw [Int.toNat_natCast];rfl
   ·rfl
   (conv=>whnf);refine z3p ?_;(conv=>whnf);refine z23 9 mixed zK ?_;(conv=>whnf);refine ⟨⟨by omega,by omega⟩,?_⟩;(conv=>whnf);rw [yci ho2];rotate_left
   ·rw [Int.toNat_natCast];rfl
   ·rfl
   (conv=>whnf);refine ⟨⟨by omega,by omega⟩,?_⟩;(conv=>whnf);refine ⟨?_,?_⟩
   ·show (i:Int).toNat*5+5≤(b'.ops.flatMap opC).length
    rw [ydh,Int.toNat_natCast];omega
   (conv=>whnf);refine ⟨⟨by omega,by omega⟩,?_⟩;(conv=>whnf);refine ⟨?_,?_⟩
   ·show (k:Int).toNat*5+5≤(z33 (b'.ops.flatMap opC) ((i:Int).toNat*5) (opC o2)).length
    rw [z35,ydh,Int.toNat_natCast];omega
   (conv=>whnf);refine zb4 ?_;have e1:z33 (List.flatMap opC b'.ops) ((i:Int).toNat*5) (opC o2)=(b'.ops.set i o2).flatMap opC:=ydk (l:=b'.ops) o2 (congrArg (· *5) (Int.toNat_natCast i)) hil
   have e2:z33 (z33 (List.flatMap opC b'.ops) ((i:Int).toNat*5) (opC o2)) ((k:Int).toNat*5) (opC o)=((b'.ops.set i o2).set k o).flatMap opC:=by
    rw [e1];exact ydk (l:=b'.ops.set i o2) o (congrArg (· *5) (Int.toNat_natCast k)) (by rw [List.length_set];exact hkl)
   exact zb8 ⟨⟨b'.at_,b'.pages,(b'.ops.set i o2).set k o⟩,yeg (yeg hT i (hb.ops o2 (List.mem_of_getElem? ho2))) k hoo⟩ (zjw Tn (aI (Ttb7) (aI (Ttb7) (aI sM (aI ((aI rfl (aI rfl (aI rfl rfl)))) (aI ((aI rfl (aI rfl (aI rfl rfl)))) (aI ((aI rfl (aI rfl (aI zS (e2))))) (aI sM trivial))))))) rfl rfl)
  refine z3k ?_;(conv=>whnf);refine z27 rfl (fun _=>?_) (fun _=>?_)
  ·refine z3p ?_
   (conv=>whnf);refine ⟨_,wr32 _,?_⟩;(conv=>whnf);refine zbi rfl ?_ rfl;(conv=>whnf);refine ⟨by omega,?_⟩;(conv=>whnf);refine zb4 ?_
   exact zb8 ⟨⟨b'.at_++[n%4294967296],b'.pages,b'.ops⟩,⟨⟨fun x hx=>by
    rcases List.mem_append.1 hx with hx|hx
    ·exact hb.at_ x hx
    ·simp at hx;subst hx;exact yay _,hb.pages,hb.ops,by simp;omega,hb.lpages,hb.lops⟩,by simp;omega,by show b'.pages.length≤_;omega,by show b'.ops.length≤_;omega⟩⟩ (zjw Tn (aI (Ttb7) (aI (Ttb7) (aI sM (aI ((aI rfl (aI rfl (aI zS zS)))) (aI ((aI rfl (aI rfl (aI rfl rfl)))) (aI ((aI rfl (aI rfl (aI rfl rfl)))) (aI sM trivial))))))) rfl rfl)
  refine z3k ?_;(conv=>whnf);refine z27 rfl (fun _=>?_) (fun _=>?_)
  ·refine z3p ?_
   conv=>whnf
   have m5:0≤n.tmod 5000∧n.tmod 5000<5000:=⟨Int.tmod_nonneg _ hn0,Int.tmod_lt_of_pos _ zO⟩
   refine ⟨by omega,_,rfl,?_⟩;(conv=>whnf);refine ⟨_,wr64 zO,?_⟩;(conv=>whnf);refine zbi rfl ?_ rfl;(conv=>whnf);refine ⟨by omega,?_⟩;(conv=>whnf);refine zb4 ?_
   exact zb8 ⟨⟨b'.at_,b'.pages++[n.tmod 5000-400],b'.ops⟩,⟨⟨hb.at_,fun x hx=>by
    rcases List.mem_append.1 hx with hx|hx
    ·exact hb.pages x hx
    ·simp at hx;subst hx;unfold mid;omega,hb.ops,hb.lat,by simp;omega,hb.lops⟩,by show b'.at_.length≤_;omega,by simp;omega,by show b'.ops.length≤_;omega⟩⟩ (zjw Tn (aI (Ttb7) (aI (Ttb7) (aI sM (aI ((aI rfl (aI rfl (aI rfl rfl)))) (aI ((aI rfl (aI rfl (aI zS zS)))) (aI ((aI rfl (aI rfl (aI rfl rfl)))) (aI sM trivial))))))) rfl rfl)
  ·refine z3p ?_
   refine z23 8 mixed zK ?_;(conv=>whnf);refine ⟨_,wr64 zO,?_⟩;(conv=>whnf)
   obtain ⟨k,hk,hkl⟩:∃ k:Nat,n.tmod ((b'.at_.length:Int)+1)=(k:Int)∧k≤b'.at_.length:=by
    have e1:=Int.tmod_nonneg ((b'.at_.length:Int)+1) hn0;have e2:=Int.tmod_lt_of_pos n (b:=((b'.at_.length:Int)+1)) zO;exact ⟨(n.tmod ((b'.at_.length:Int)+1)).toNat,by omega,by omega⟩
   refine ⟨by omega,(k:Int),hk,?_⟩;(conv=>whnf);refine yda (size:=1) 3 k rfl rfl rfl rfl rfl rfl (q:= .i64) rfl hkl (Nat.zero_le _) rfl ?_;(conv=>whnf);refine zb4 ?_;exact zb8 ⟨⟨b'.at_.take k,b'.pages,b'.ops⟩,⟨⟨fun x hx=>hb.at_ x (List.mem_of_mem_take hx),hb.pages,hb.ops,by rw [List.length_take];omega,hb.lpages,hb.lops⟩,by show (b'.at_.take k).length≤_;rw [List.length_take];omega,by show b'.pages.length≤_;omega,by show b'.ops.length≤_;omega⟩⟩ (zjw Tn (aI (Ttb7) (aI (Ttb7) (aI sM (aI ((aI rfl (aI rfl (aI zV zS)))) (aI ((aI rfl (aI rfl (aI rfl rfl)))) (aI ((aI rfl (aI rfl (aI rfl rfl)))) (aI sM trivial))))))) rfl rfl)
 obtain ⟨y,hy⟩:=y;dsimp only;refine z3p ?_;(conv=>whnf);refine zcg ?_;(conv=>whnf)
 exact ycs 3 4 5 y zO zO zO (.inl ⟨rfl,rfl⟩) (.inl ⟨rfl,rfl⟩) (.inl ⟨rfl,rfl⟩) fun w' v1 v2 v3 h3 hB=>⟨y,v1,v2,v3,hy,rfl,h3,hB⟩
theorem ycb {w0:World} {S:List Ow} {K:AV→List Ow→Prop} (i j k:Nat) (b:Blk) (q0 q1 q2:Int) (hi:S[i]?=some (.row 41 1 b.at_.length (b.at_.map (.int .u32)))) (hj:S[j]?=some (.row 3 1 b.pages.length (b.pages.map (.int .i64)))) (hk:S[k]?=some (.row 61 5 b.ops.length (b.ops.flatMap opC))) (hb:MadeOk b)
  (hK:∀ b',TurnOk b'→K (.p (.agg [.row S.length,.row (S.length+1),.row (S.length+2)])) (S++yb5 b')):CallS Tryz.prog w0 Gs.nil 24 [.p (.agg [.row i,.row j,.row k]),.p (.agg [.v (.int .i64 q0),.v (.int .i64 q1),.v (.int .i64 q2)])] S K:=by
 refine yb6 TurnOk zK (fun r w us hR hd=>?_) hK;obtain ⟨u1,l1,rfl,d1,u2,l2,rfl,d2,d3⟩:=hd;obtain rfl:l2=[]:=d3;obtain rfl:=AV.val_den (x:= .agg #[.int .i64 q0,.int .i64 q1,.int .i64 q2]) rfl d2;obtain ⟨vs,rfl,hl⟩:=zit d1;simp only [denL,CV.den] at hl;obtain ⟨u1,l1,rfl,e1,u2,l2,rfl,e2,u3,l3,rfl,e3,rfl⟩:=hl;obtain ⟨A1,c1,rfl,s1,_⟩:=hR.rowAt hi e1;obtain ⟨A2,c2,rfl,s2,_⟩:=hR.rowAt hj e2;obtain ⟨A3,c3,rfl,s3,_⟩:=hR.rowAt hk e3;have hv:=hb.valid
 have hlat:b.at_.length≤900:=by
  unfold z9k zpm at hv;simp only [Bool.and_eq_true,decide_eq_true_eq] at hv;omega
 have hlen:=hb.len;have hlp:b.pages.length≤900:=Nat.le_trans hb.lp zO;exact yeh b A1 A2 A3 c1 c2 c3 q0 q1 q2 w hb.ok hlat hlp zO s1 s2 s3
theorem ydo {w0:World} {G:Gs} {S:List Ow} {r:Env} {w:World} (hR:Rel w0 G S r w) (k i1 i2 i3:Nat) (b:Blk) {t:TypeId} (hk:S[k]?=some (.cells t [.row i1,.row i2,.row i3])) (h1:S[i1]?=some (.row 41 1 b.at_.length (b.at_.map (.int .u32)))) (h2:S[i2]?=some (.row 3 1 b.pages.length (b.pages.map (.int .i64)))) (h3:S[i3]?=some (.row 61 5 b.ops.length (b.ops.flatMap opC))):
  ∃ g A1 c1 A2 c2 A3 c3,r.blk k=some g∧zac w Gs.nil g 0 [.slice A1 b.at_.length c1,.slice A2 b.pages.length c2,.slice A3 b.ops.length c3]∧SlAt w w.heap.size A1 (b.at_.map (.int .u32))∧SlAt w w.heap.size A2 (b.pages.map (.int .i64))∧OpsAt w w.heap.size A3 b.ops∧b.ops.length≤c3∧c3≤maxLen:=by
 obtain ⟨g,us,e1,e2,e3⟩:=ydp hR k hk;simp only [denL,CV.den] at e2;obtain ⟨u1,l1,rfl,d1,u2,l2,rfl,d2,u3,l3,rfl,d3,rfl⟩:=e2;obtain ⟨A1,c1,rfl,s1,_⟩:=hR.rowAt h1 d1;obtain ⟨A2,c2,rfl,s2,_⟩:=hR.rowAt h2 d2;obtain ⟨A3,c3,rfl,s3,m1,m2⟩:=hR.rowAt h3 d3;exact ⟨g,A1,c1,A2,c2,A3,c3,e1,e3,s1,s2,s3,m1,m2⟩
section
variable {w0:World} {S:List Ow} {K:AV→List Ow→Prop} {b:Blk} {A1 A2 A3:Option Addr} {n1 n2 n3 c1 c2 c3:Nat}
end
open Go.ChangeShapes Go.WideShapes Go.ChangeAt Go.RowKit
theorem ownK:ownKnob Tryz.prog.godebug=none:=by kernel_rfl
theorem yc1:laidOutB Tryz.prog=true:=by kernel_rfl
theorem ycf {w:World} {b o:Nat} {u:Value} (h:w.cell? ⟨b,o,none⟩=some u):b<w.heap.size:=by
 rcases Nat.lt_or_ge b w.heap.size with h1|h1
 ·exact h1
 ·simp [World.cell?,Array.getElem?_eq_none h1] at h
theorem yc5 (n m:Int) (hm:0<m):(n.tmod m+m).tmod m=n%m∧ -m<n.tmod m∧n.tmod m<m:=by
 have h1:=Int.tmod_lt_of_pos n hm;have h2: -m<n.tmod m:=(by have:=Int.lt_tmod_of_pos n hm;omega);refine ⟨?_,h2,h1⟩;rw [Int.tmod_eq_emod_of_nonneg zO,Int.add_emod_right];have:n=m*n.tdiv m+n.tmod m:=(Int.mul_tdiv_add_tmod n m).symm
 conv=>rhs;rw [this]
 rw [Int.mul_add_emod_self_left]
theorem yc4 (n m:Int) (w:World) (hm:0<m∧m<4611686018427387904):Calls Tryz.prog 20 #[intV n,intV m] w fun e w'=>e= .returned (intV (n%m))∧Below w.heap.size w w':=by
 obtain ⟨h1,h2,h3⟩:=yc5 n m hm.1
 refine zfh [intV n,intV m] Tryz.func20 Tryz.ntmps20 rfl zS ?_
 conv=>whnf
 refine ⟨by omega,_,rfl,?_⟩
 conv=>whnf
 refine ⟨n.tmod m+m,wr64 zO,?_⟩
 conv=>whnf
 refine ⟨by omega,_,h1,?_⟩
 conv=>whnf
 exact zmh rfl fun w' hB=>⟨rfl,hB⟩
theorem yde {H:Type} {enc:TypeId×Value→H} {W:World} {a:Option Addr} {len cap:Nat} {d:DataW H} {p:List MemPlace} (h:DataW.Trod enc Tryz.prog W 0 (fun _=>true) true 22 (.slice a len cap) d p):
  ∃ xs:List Int,SlAt W W.heap.size a (xs.map (.int .i64))∧xs.length=len∧len≤cap:=by
 obtain ⟨fuel,hf⟩:=h;rcases open_ints Tryz.underlying22 Tryz.underlying3 zK hf with ⟨hcs,_⟩|⟨x,l,c,zs,hcs,_,hl,hm,hz,_,hcell,hwz⟩
 ·simp [Value.cells] at hcs
  obtain ⟨rfl,rfl,rfl⟩:=hcs;exact ⟨[],SlAt.nil,rfl,Nat.le_refl _⟩
 ·simp [Value.cells] at hcs
  obtain ⟨rfl,rfl,rfl⟩:=hcs;have hz:zs.length=cap:=(by simpa using hz);refine ⟨zs.take len,fun j u hj=>?_,by rw [List.length_take];omega,hl⟩;rw [List.getElem?_map,List.getElem?_take] at hj
  split at hj
  ·rename_i hjl
   have hjz:j<zs.length:=(by omega);have hc:=hcell j hjz;obtain ⟨b,off,spot⟩:=x
   have hsp:spot=none:=by
    have h0:=hcell 0 zO
    simpa [Addr.add] using World.cell?_spot h0
   subst hsp;rw [za0] at hc;rw [List.getElem?_eq_getElem hjz] at hj;have hg:zs.getD j 0=zs[j]:=(by rw [List.getD_eq_getElem?_getD,List.getElem?_eq_getElem hjz];rfl);rw [hg] at hc;injection hj with hj;subst hj;exact ⟨b,off,rfl,ycf hc,hc⟩
  ·cases hj
theorem ydd {H:Type} {enc:TypeId×Value→H} {W:World} {r:Reach} {b0:Nat} {v:Value} {d:DataW H} {p:List MemPlace} (hv:Value.okWide Tryz.prog W r b0 52 v) (h:DataW.Trod enc Tryz.prog W 0 (fun _=>true) true 52 v d p):
  ∃ x y z:Int,v= .agg #[.int .i64 x,.int .i64 y,.int .i64 z]:=by
 simp only [Value.okWide,Tryz.underlying52] at hv;obtain ⟨cs,rfl,hsz,_⟩:=hv;have hc3:Tryz.prog.cellsOf 52=3:=(by kernel_rfl);have hc1:Tryz.prog.cellsOf 3=1:=(by kernel_rfl);rw [hc3] at hsz;obtain ⟨c0,c1,c2,rfl⟩:=Go.Joins.array3 hsz;obtain ⟨fuel,hf⟩:=h;obtain ⟨xs,m,_,_,_,hlen,hel⟩:=DataW.trod_array Tryz.underlying52 hf
 have get:∀ i,i<3→∃ y,DataW.trod enc Tryz.prog W 0 (fun _=>true) true m 3 (([c0,c1,c2].drop (i*1)).take 1)=some y:=fun i hi=>by
  have:=hel i hi;rw [hc1] at this;exact ⟨xs[i],by rw [List.getElem?_eq_getElem zO] at this;exact this⟩
 obtain ⟨y0,h0⟩:=get 0 zO;obtain ⟨y1,h1⟩:=get 1 zO;obtain ⟨y2,h2⟩:=get 2 zO;obtain ⟨n0,e0,_⟩:=DataW.trod_int Tryz.underlying3 h0;obtain ⟨n1,e1,_⟩:=DataW.trod_int Tryz.underlying3 h1;obtain ⟨n2,e2,_⟩:=DataW.trod_int Tryz.underlying3 h2;simp at e0 e1 e2;subst e0;subst e1;subst e2;exact ⟨n0,n1,n2,rfl⟩
theorem yeb (a:List Int):∀ (j:Nat) {m:Nat},z8h a j=some m→(∀ v,0≤v→v<(j:Int)→(-1≤getV a v∧getV a v<9)∧(v=19→getV a v= -1)∧(0≤getV a v→m.testBit (getV a v).toNat=true))∧∀ u v,0≤u→u<(j:Int)→0≤v→v<(j:Int)→0≤getV a u→getV a u=getV a v→u=v
 |0,m,_=>⟨fun v h0 h1=>absurd h1 zO,fun u v h0 h1=>absurd h1 zO⟩
 |j+1,m,h=>by
  have h:(z8h a j).bind _=some m:=h
  cases hj:z8h a j with
  |none=>rw [hj] at h;cases h
  |some m0=>
   rw [hj] at h;have h:(if getV a (j:Int)< -1∨9≤getV a (j:Int)∨((j:Int)=19∧getV a (j:Int)≠ -1) then none else if 0≤getV a (j:Int) then (if m0.testBit (getV a (j:Int)).toNat=true then none else some (m0|||2^(getV a (j:Int)).toNat)) else some m0)=some m:=h;obtain ⟨ih1,ih2⟩:=yeb a j hj;by_cases c1:getV a (j:Int)< -1∨9≤getV a (j:Int)∨((j:Int)=19∧getV a (j:Int)≠ -1)
   ·rw [if_pos c1] at h;cases h
   rw [if_neg c1] at h;by_cases c2:0≤getV a (j:Int)
   ·rw [if_pos c2] at h
    by_cases c3:m0.testBit (getV a (j:Int)).toNat=true
    ·rw [if_pos c3] at h;cases h
    rw [if_neg c3] at h;injection h with h;subst h;refine ⟨fun v h0 h1=>?_,fun u v u0 u1 v0 v1 hu he=>?_⟩
    ·by_cases hv:v=(j:Int)
     ·subst hv
      exact ⟨by omega,fun hh=>by omega,fun _=>by rw [Nat.testBit_or,Nat.testBit_two_pow_self,Bool.or_true]⟩
     ·obtain ⟨k1,k2,k3⟩:=ih1 v h0 zO
      exact ⟨k1,k2,fun hh=>by rw [Nat.testBit_or,k3 hh,Bool.true_or]⟩
    ·by_cases hu2:u=(j:Int)
     ·by_cases hv2:v=(j:Int)
      ·omega
      ·subst hu2
       have:=(ih1 v v0 zO).2.2 zO;rw [← he] at this;exact absurd this c3
     ·by_cases hv2:v=(j:Int)
      ·subst hv2
       have:=(ih1 u u0 zO).2.2 hu;rw [he] at this;exact absurd this c3
      ·exact ih2 u v u0 zO v0 zO hu he
   ·rw [if_neg c2] at h
    injection h with h;subst h;refine ⟨fun v h0 h1=>?_,fun u v u0 u1 v0 v1 hu he=>?_⟩
    ·by_cases hv:v=(j:Int)
     ·subst hv
      exact ⟨by omega,fun hh=>by omega,fun hh=>absurd hh c2⟩
     ·exact ih1 v h0 zO
    ·by_cases hu2:u=(j:Int)
     ·subst hu2;exact absurd hu c2
     ·by_cases hv2:v=(j:Int)
      ·subst hv2;rw [he] at hu;exact absurd hu c2
      ·exact ih2 u v u0 zO v0 zO hu he
theorem al_ok {a:List Int} (hl:a.length=28) (h:za2 a=true):AlOk a:=by
 unfold za2 at h;obtain ⟨m,hm⟩:=Option.isSome_iff_exists.1 h;obtain ⟨h1,h2⟩:=yeb a 28 hm;exact ⟨hl,fun v v0 v1=>(h1 v v0 v1).1,(h1 19 zO zO).2.1 rfl,fun u v u0 u1 v0 v1=>h2 u v u0 u1 v0 v1⟩
theorem yb2 {a:List Int} (hl:a.length=28) {v x:Int} (hv:0≤v∧v<28) (u:Int) (hu:0≤u):getV (a.set v.toNat x) u=if u=v then x else getV a u:=by
 unfold getV;rw [List.getElem?_set];by_cases h:u=v
 ·subst h
  rw [if_pos rfl,if_pos zO,if_pos rfl];rfl
 ·rw [if_neg zO,if_neg h]
theorem yc0 {a:List Int} {v x:Int}:z33 (List.map CV.v (alL a)) (0+v.toNat*tsz Tryz.prog 3) [CV.v (Value.int .i64 x)]=List.map CV.v (alL (a.set v.toNat x)):=by
 rw [z4l];show List.map CV.v ((alL a).set (0+v.toNat*1) _)=_;rw [Nat.zero_add,Nat.mul_one];unfold alL;simp only [List.map_set]
section
variable {w:World}
end
structure UsOk (u:List Int):Prop where
 len:u.length=28
 pc:getV u 19=0
theorem UsOk.set {u:List Int} (h:UsOk u) {v x:Int} (hv:0≤v∧v<28) (h19:v≠19):UsOk (u.set v.toNat x):=⟨by rw [List.length_set];exact h.len,by rw [yb2 h.len hv 19 zO,if_neg zO];exact h.pc⟩
section
variable {w:World}
end
abbrev errV (e:Int):Value:= .tuple #[.agg #[strV [],.slice none 0 0],.int .i64 e]
section
variable {w:World}
theorem ycm (b:Blk) (A1 A2 A3:Option Addr) (c1 c2 c3:Nat) (a:List Int) (ctx size:Int) (hb:b.ok) (hv:z9k b=false) (hBA:BlkAt w b A1 A2 A3):
  Calls Tryz.prog 25 #[blkV b A1 A2 A3 c1 c2 c3,.agg (alL a).toArray,.int .u32 ctx,.int .i64 size] w fun e w'=>e= .returned (errV 31)∧Below w.heap.size w w':=by
 refine zfe [blkV b A1 A2 A3 c1 c2 c3,.agg (alL a).toArray,.int .u32 ctx,.int .i64 size] Tryz.func25 Tryz.ntmps25 rfl zS ?_;refine z3m ?_;(conv=>whnf);refine z3a ?_;refine z3m ?_;(conv=>whnf);refine ze0 rfl zK (fun r w' hR=>(z9t A1 A2 A3 c1 c2 c3 b w' hb (z6d hBA.pages hR.toBelow) (z6d hBA.ops hR.toBelow))) ?_;rw [hv];(conv=>whnf);refine z27 (t:=true) rfl (fun _=>?_) nT;refine z3m ?_;(conv=>whnf);refine z3q ?_;(conv=>whnf);refine zcl (zcg ?_);(conv=>whnf)
 exact zmh rfl fun w9 hB9=>⟨rfl,hB9⟩
theorem ycl (b:Blk) (A1 A2 A3:Option Addr) (c1 c2 c3:Nat) (a:List Int) (ctx size:Int) (hb:b.ok) (hv:z9k b=true) (hBA:BlkAt w b A1 A2 A3) (ha:a.length=28) (hbad:za2 a=false∨size<0∨size>1048576):
  Calls Tryz.prog 25 #[blkV b A1 A2 A3 c1 c2 c3,.agg (alL a).toArray,.int .u32 ctx,.int .i64 size] w fun e w'=>e= .returned (errV 1)∧Below w.heap.size w w':=by
 refine zfe [blkV b A1 A2 A3 c1 c2 c3,.agg (alL a).toArray,.int .u32 ctx,.int .i64 size] Tryz.func25 Tryz.ntmps25 rfl zS ?_;refine z3m ?_;(conv=>whnf);refine z3a ?_;refine z3m ?_;(conv=>whnf);refine ze0 rfl zK (fun r w' hR=>(z9t A1 A2 A3 c1 c2 c3 b w' hb (z6d hBA.pages hR.toBelow) (z6d hBA.ops hR.toBelow))) ?_;rw [hv];(conv=>whnf);refine z27 rfl nF (fun _=>z3n (zcd ?_));have hcl:(List.map CV.v (alL a)).length=28:=(by rw [List.length_map,List.length_map];exact ha);have hend:∀ {f:Fr} {S:List Ow},True:=fun {_ _}=>trivial;clear hend;refine z3a ?_;refine z3m ?_;(conv=>whnf);erw [zhv hcl];(conv=>whnf);refine ze0 (zcr (alL a) (.int .i64 9) rfl) zK (fun r w' hR=>z90 a ha w') ?_
 cases hva:za2 a with
 |false=>
  refine kB ?_;refine z27 (t:=true) rfl (fun _=>?_) nT;refine z3m ?_;(conv=>whnf);refine z3q ?_;(conv=>whnf);refine zcl (zcg ?_);(conv=>whnf)
  exact zmh rfl fun w9 hB9=>⟨rfl,hB9⟩
 |true=>
  refine kB ?_;by_cases h0:size<0
  ·rw [show decide (size<0)=true from decide_eq_true h0]
   refine kB ?_;refine z27 (t:=true) rfl (fun _=>?_) nT;refine z3m ?_;(conv=>whnf);refine z3q ?_;(conv=>whnf);refine zcl (zcg ?_);(conv=>whnf)
   exact zmh rfl fun w9 hB9=>⟨rfl,hB9⟩
  ·have h1:size>1048576:=by rcases hbad with h|h|h;rw [hva] at h;cases h;omega;exact h
   rw [show decide (size<0)=false from decide_eq_false h0];refine kB ?_;rw [show decide (size>1048576)=true from decide_eq_true h1];refine z27 (t:=true) rfl (fun _=>?_) nT;refine z3m ?_;(conv=>whnf);refine z3q ?_;(conv=>whnf);refine zcl (zcg ?_);(conv=>whnf)
   exact zmh rfl fun w9 hB9=>⟨rfl,hB9⟩
end
def ybz (a:List Int) (k:Nat):Prop:=∀ v:Int,0≤v→v<(k:Int)→(-1≤getV a v∧getV a v<9)∧∀ u:Int,0≤u→u<v→0≤getV a u→getV a u≠getV a v
theorem yb1 {a:List Int} (h:¬AlOk a) (hl:a.length=28):za2 a=false:=by
 cases hv:za2 a with
 |false=>rfl
 |true=>exact absurd (al_ok hl hv) h
theorem ycv {a:List Int} (hl:a.length=28) (hg:ybz a 28) (h19:getV a 19= -1):AlOk a:=by
 refine ⟨hl,fun v h0 h1=>(hg v h0 h1).1,h19,fun u v u0 u1 v0 v1 hu he=>?_⟩;rcases (by omega:u<v∨u=v∨v<u) with h|h|h
 ·exact absurd he ((hg v v0 v1).2 u u0 h hu)
 ·exact h
 ·exact absurd he.symm ((hg u u0 u1).2 v v0 h zO)
section
variable {w:World}
theorem yei (a:List Int) (ha:a.length=28):Calls Tryz.prog 27 #[.agg (alL a).toArray,intV 9] w fun e w'=>e= .returned (.bool (za2 a))∧Below w.heap.size w w':=by
 refine zfe [.agg (alL a).toArray,intV 9] Tryz.func27 Tryz.ntmps27 rfl zS ?_;refine z3m ?_;(conv=>whnf);refine z3j fun r w1 hR=>?_;obtain ⟨p2,us,e1,e2,e3⟩:=hR.own 0 _ rfl;obtain rfl:=ziq (us:=alL a) e3;have hB1:=hR.toBelow;refine ⟨z6h [(1,intV 9),(2,pV p2)],fun a' hf=>z6q ⟨z6o hf rfl,z6m hf 2 rfl e1,trivial⟩,?_⟩;clear hR e3 e1;refine z3a ?_;refine z3m ?_;(conv=>whnf);refine z26 ?_;refine z3f (fun j:{j:Nat//j≤28}=>[(1,one (intV 9)),(2,one (pV p2)),(5,one (intV (j.1:Int)))]) (fun j w'=>ybz a j.1∧Below w1.heap.size w1 w') (fun j=>28-j.1) ⟨0,by omega⟩ Tn (fun r w' hR=>⟨fun v h0 h1=>absurd h1 (by show ¬v<((0:Nat):Int);omega),hR.toBelow⟩) (fun j w' hJ0=>?_);obtain ⟨j,hj⟩:=j;dsimp only at hJ0⊢;obtain ⟨hg,hJ⟩:=hJ0;have e2':=(hJ.block p2 (zpr e2)).trans e2;refine z3a ?_;refine z3m ?_;(conv=>whnf);refine z27 rfl (fun hc=>z3n (zcd ?_)) (fun hc=>?_)
 ·have hlt:j<28:=by have:=of_decide_eq_true hc;omega
  have hcell:=za3 e2' ha (v:=(j:Int)) zO;refine z3h (α:=Unit) (fun _=>[(1,one (intV 9)),(2,one (pV p2)),(5,one (intV (j:Int)))]) (fun _ w2=>ybz a (j+1)∧Below w1.heap.size w1 w2) ?_ fun _ w2 hl=>?_
  ·refine z26 ?_
   have hnext:(-1≤getV a (j:Int)∧getV a (j:Int)<9)→(∀ u:Int,0≤u→u<(j:Int)→0≤getV a u→getV a u≠getV a (j:Int))→ybz a (j+1):=fun k1 k2 v h0 hv=>by
    by_cases hvj:v=(j:Int)
    ·subst hvj;exact ⟨k1,k2⟩
    ·exact hg v h0 zO
   refine z3h (α:=Unit) (fun _=>[(1,one (intV 9)),(2,one (pV p2)),(5,one (intV (j:Int)))]) (fun _ w2=>(-1≤getV a (j:Int)∧getV a (j:Int)<9)∧Below w1.heap.size w1 w2) ?_ fun _ w2 hl=>?_
   ·refine z3m ?_
    (conv=>whnf);refine z0e (size:=1) p2 0 28 (j:Int) rfl rfl rfl rfl rfl rfl zO zO ?_;(conv=>whnf);refine ⟨_,hcell,?_⟩;(conv=>whnf);by_cases h1:getV a (j:Int)< -1
    ·rw [show decide (getV a (j:Int)< -1)=true from decide_eq_true h1]
     refine kB ?_;refine z27 (t:=true) rfl (fun _=>?_) nT;refine z3q ?_;(conv=>whnf);refine zco (zcg ?_) fun a w hq=>hq;(conv=>whnf)
     exact zmh rfl fun w9 hB9=>⟨by rw [yb1 (fun h=>by have:=(h.lo (j:Int) zO zO).1;omega) ha],zdj (zdj hB1 hJ) hB9⟩
    rw [show decide (getV a (j:Int)< -1)=false from decide_eq_false h1];refine kB ?_;refine z0e (size:=1) p2 0 28 (j:Int) rfl rfl rfl rfl rfl rfl zO zO ?_;refine kB ?_;refine ⟨_,hcell,?_⟩;refine kB ?_;by_cases h2:getV a (j:Int)≥0;rotate_left
    ·rw [show decide (getV a (j:Int)≥0)=false from decide_eq_false h2]
     refine kB ?_;refine z27 (t:=false) rfl (fun hc=>Bool.noConfusion (show false=true from hc)) (fun _=>?_);exact z3n (zca () Tn fun r w3 hR=>⟨by omega,zdg hJ hR.toBelow hJ.size⟩)
    rw [show decide (getV a (j:Int)≥0)=true from decide_eq_true h2];refine kB ?_;refine z0e (size:=1) p2 0 28 (j:Int) rfl rfl rfl rfl rfl rfl zO zO ?_;refine kB ?_;refine ⟨_,hcell,?_⟩;refine kB ?_;by_cases h3:getV a (j:Int)≥9
    ·rw [show decide (getV a (j:Int)≥9)=true from decide_eq_true h3]
     refine kB ?_;refine z27 (t:=true) rfl (fun _=>?_) nT;refine z3q ?_;(conv=>whnf);refine zco (zcg ?_) fun a w hq=>hq;(conv=>whnf)
     exact zmh rfl fun w9 hB9=>⟨by rw [yb1 (fun h=>by have:=(h.lo (j:Int) zO zO).2;omega) ha],zdj (zdj hB1 hJ) hB9⟩
    rw [show decide (getV a (j:Int)≥9)=false from decide_eq_false h3];refine kB ?_;refine z27 (t:=false) rfl (fun hc=>Bool.noConfusion (show false=true from hc)) (fun _=>?_);exact z3n (zca () Tn fun r w3 hR=>⟨by omega,zdg hJ hR.toBelow hJ.size⟩)
   ·obtain ⟨hr9,hB2⟩:=hl
    refine z3m ?_;(conv=>whnf);refine z26 ?_;refine z3f (fun i:{i:Nat//i≤j}=>[(1,one (intV 9)),(2,one (pV p2)),(5,one (intV (j:Int))),(6,one (intV (i.1:Int)))]) (fun i w''=>(∀ u:Int,0≤u→u<(i.1:Int)→0≤getV a u→getV a u≠getV a (j:Int))∧Below w1.heap.size w1 w'') (fun i=>j-i.1) ⟨0,by omega⟩ Tn (fun r w'' hR=>⟨fun u h0 h1=>absurd h1 (by show ¬u<((0:Nat):Int);omega),zdg hB2 hR.toBelow hB2.size⟩) (fun i w3 hJ2=>?_);obtain ⟨i,hi⟩:=i;dsimp only at hJ2⊢;obtain ⟨hu,hB3⟩:=hJ2;have e23:=(hB3.block p2 (zpr e2)).trans e2;refine z3a ?_;refine z3m ?_;(conv=>whnf);refine z27 rfl (fun hc=>z3n (zcd ?_)) (fun hc=>?_)
    ·have hij:i<j:=by have:=of_decide_eq_true hc;omega
     have hci:=za3 e23 ha (v:=(i:Int)) zO;have hcj:=za3 e23 ha (v:=(j:Int)) zO;refine z3h (α:=Unit) (fun _=>[(1,one (intV 9)),(2,one (pV p2)),(5,one (intV (j:Int))),(6,one (intV (i:Int)))]) (fun _ w2=>(∀ u:Int,0≤u→u<((i+1:Nat):Int)→0≤getV a u→getV a u≠getV a (j:Int))∧Below w1.heap.size w1 w2) ?_ fun _ w2 hl=>?_
     ·refine z26 ?_
      refine z3m ?_;refine z21 mixed zK ?_;(conv=>whnf);refine z0e (size:=1) p2 0 28 (i:Int) rfl rfl rfl rfl rfl rfl zO zO ?_;(conv=>whnf);refine ⟨_,hci,?_⟩;(conv=>whnf);by_cases g1:getV a (i:Int)≥0;rotate_left
      ·rw [show decide (getV a (i:Int)≥0)=false from decide_eq_false g1]
       refine kB ?_;refine z27 (t:=false) rfl (fun hc=>Bool.noConfusion (show false=true from hc)) (fun _=>?_)
       exact z3n (zb4 (zca () Tn fun r w3 hR=>⟨fun u h0 h1 h2=>by
        by_cases hui:u=(i:Int)
        ·subst hui;exact absurd h2 zO
        ·exact hu u h0 zO h2,zdg hB3 hR.toBelow hB3.size⟩))
      rw [show decide (getV a (i:Int)≥0)=true from decide_eq_true g1];refine kB ?_;refine z0e (size:=1) p2 0 28 (i:Int) rfl rfl rfl rfl rfl rfl zO zO ?_;refine kB ?_;refine ⟨_,hci,?_⟩;refine kB ?_;refine z0e (size:=1) p2 0 28 (j:Int) rfl rfl rfl rfl rfl rfl zO zO ?_;refine kB ?_;refine ⟨_,hcj,?_⟩;refine kB ?_;by_cases g2:getV a (i:Int)=getV a (j:Int)
      ·rw [show (getV a (i:Int)==getV a (j:Int))=true from beq_iff_eq.2 g2]
       (conv=>whnf);refine z27 (t:=true) rfl (fun _=>?_) nT;refine z3q ?_;(conv=>whnf);refine zco (zcg ?_) fun a w hq=>hq;(conv=>whnf)
       exact zmh rfl fun w9 hB9=>⟨by rw [yb1 (fun h=>by have:=h.inj (i:Int) (j:Int) zO zO zO zO g1 g2;omega) ha],zdj (zdj hB1 hB3) hB9⟩
      rw [show (getV a (i:Int)==getV a (j:Int))=false from beq_eq_false_iff_ne.2 g2];(conv=>whnf);refine z27 (t:=false) rfl (fun hc=>Bool.noConfusion (show false=true from hc)) (fun _=>?_)
      exact z3n (zb4 (zca () Tn fun r w3 hR=>⟨fun u h0 h1 h2=>by
       by_cases hui:u=(i:Int)
       ·subst hui;exact g2
       ·exact hu u h0 zO h2,zdg hB3 hR.toBelow hB3.size⟩))
     ·obtain ⟨hu2,hB4⟩:=hl
      refine z3q ?_;(conv=>whnf);refine ⟨((i+1:Nat):Int),by rw [show (i:Int)+1=((i+1:Nat):Int) by omega];exact wr64 zO,?_⟩;(conv=>whnf);exact zcc ⟨i+1,by omega⟩ Tn (fun r w3 hR=>⟨hu2,zdg hB4 hR.toBelow hB4.size⟩) (by show j-(i+1)<j-i;omega)
    ·have hij:i=j:=by have:=of_decide_eq_false hc;omega
     subst hij;refine z3q ?_;(conv=>whnf);exact zb7 (zcf (zb6 (zb4 (zca () Tn fun r w3 hR=>⟨hnext hr9 hu,zdg hB3 hR.toBelow hB3.size⟩))))
  ·obtain ⟨hg2,hB2⟩:=hl
   refine z3q ?_;(conv=>whnf);refine ⟨((j+1:Nat):Int),by rw [show (j:Int)+1=((j+1:Nat):Int) by omega];exact wr64 zO,?_⟩;(conv=>whnf);exact zcc ⟨j+1,by omega⟩ Tn (fun r w3 hR=>⟨hg2,zdg hB2 hR.toBelow hB2.size⟩) (by show 28-(j+1)<28-j;omega)
 ·have hje:j=28:=by have:=of_decide_eq_false hc;omega
  subst hje;refine z3q ?_;(conv=>whnf);refine zb7 (zcf (zb6 (zcd ?_)));refine z3m ?_;(conv=>whnf);refine z0e (size:=1) p2 0 28 19 rfl rfl rfl rfl rfl rfl zO zO ?_;(conv=>whnf);refine ⟨_,za3 e2' ha (v:=19) zO,?_⟩;(conv=>whnf);refine z3q ?_;(conv=>whnf);refine zcg ?_;(conv=>whnf)
  refine zmh rfl fun w9 hB9=>⟨?_,zdj (zdj hB1 hJ) hB9⟩
  by_cases h19:getV a 19= -1
  ·rw [za4 (ycv ha hg h19),show (getV a 19== -1)=true from beq_iff_eq.2 h19]
  ·rw [yb1 (fun h=>h19 h.pc) ha,show (getV a 19== -1)=false from beq_eq_false_iff_ne.2 h19]
end
theorem ydu {P:Program} {w0:World} {G:Gs} {S:List Ow} {f:Fr} {o:Oper} {K:AV→Prop} {t t':TypeId} {x y:Operand} (l:List Int) (hop:o.op= .binOp .neq t x y t') (hx:f.ev x=one (strV l)) (hy:f.ev y=one (strV l)) (hk:K (one (.bool false))):QRun P w0 G S f o K:=by
 refine ⟨_,hk,fun r act hf=>⟨_,zix _ _,fun w hR=>?_⟩⟩;have h1:=hf.ev x;have h2:=hf.ev y;rw [hx] at h1;rw [hy] at h2;simp [execOp,hop,zi0 h1,zi0 h2,strV,binOp,Op.stringOp,eqGuard]
section
variable {w:World}
end
end Go.Proofs.YtocafomnnkmjfaaGreat
