import Derived.Test.YtocafomnnkmjfaaGreatK13
set_option maxRecDepth 100000
set_option maxHeartbeats 4000000
namespace Go.Proofs.YtocafomnnkmjfaaGreat
open Go.RowKit
abbrev ckT:TypeId:=200
def zai (g:Nat) (s:Ck) (o:BOp) (last exit:Bool) (w:World):Ending→World→Prop:=fun e w'=>∃ x:Ck×Bool,zf3 s o last exit=(bif x.2 then some x.1 else none)∧e= .returned (.bool x.2)∧ObjsAt w' [g] [.cells ckT ((zf9 x.1).map .v)]∧GrownBys w w' [g]
theorem zge (s:Ck):∀ c∈(zf9 s).map CV.v,CV.ob 1 c=true:=by intro c hc;obtain ⟨v,-,rfl⟩:=List.mem_map.1 hc;rfl
theorem zmi {w:World} {g:Nat} {S:List Ow} {s s1:Ck} {o:BOp} {last exit:Bool} {r:Option Ck} (h:zf3 s o last exit=r) (hl:S[0]?=some (.cells ckT ((zf9 s1).map .v))) (hr:r=none∨r=some s1):Fin w ⟨[g],[]⟩ S (one (.bool r.isSome)) (zai g s o last exit w):=
 zmn (U:=[.cells ckT ((zf9 s1).map .v)]) rfl rfl (fun i o h=>by
  match i,h with
  |0,h=>injection (show some _=some o from h) with h;rw [← h];exact hl
  |i+1,h=>simp at h) (fun o ho=>by rw [List.mem_singleton.1 ho];exact zge s1) fun w' h1 h2=>⟨(s1,r.isSome),by rw [h];rcases hr with rfl|rfl<;>rfl,rfl,h1,h2⟩
theorem zmj {w:World} {g:Nat} {S:List Ow} {s:Ck} {o:BOp} {last exit:Bool} {m W:Nat} {b c:Bool} (h:zf3 s o last exit=some ⟨m,W,c⟩) (hl:S[0]?=some (.cells ckT [.v (.int .i64 (m:Int)),.v (.int .u32 (W:Int)),.v (.bool b)])) (hb:b=c):Fin w ⟨[g],[]⟩ S (one (.bool true)) (zai g s o last exit w):=by
 subst hb;exact zmi (s1:=⟨m,W,b⟩) h hl (.inr rfl)
theorem z0e {P:Program} {w0:World} {G:Gs} {S:List Ow} {f:Fr} {o:Oper} {K:AV→Prop} {t t':TypeId} {x y:Operand} (a b:Bool) (hop:o.op= .binOp .neq t x y t') (ht:P.underlying t=some .bool) (hx:f.ev x=one (.bool a)) (hy:f.ev y=one (.bool b)) (hk:K (one (.bool (!(a==b))))):QRun P w0 G S f o K:=by
 refine ⟨_,hk,fun r act hf=>⟨_,zi3 _ _,fun w hR=>?_⟩⟩;have h1:=hf.ev x;have h2:=hf.ev y;rw [hx] at h1;rw [hy] at h2;simp [execOp,hop,zi6 h1,zi6 h2,eqGuard,run_neq_bool w t a b ht]
theorem zb7 {w0:World} {G:Gs} {N:Nd} {f:Fr} {S:List Ow} {Q:Exit→Act→World→Prop} {Q':Act→World→Prop} {id:Nat} (h:AtQ w0 G N (.exit id) f S Q):AtQ w0 G N (.exit id) f S (Exit.then Q' Q):=⟨fun a w hg=>h.out a w hg⟩
section
variable {w:World}
theorem zu4 (g:Nat) (s:Ck) (o:BOp) (last exit:Bool) (hU:ObjsAt w [g] [.cells ckT ((zf9 s).map .v)]) (hm:s.marks≤1000000) (hw:s.written<268435456):
  Calls Tryz.prog 110 #[.pointer (some ⟨g,0,none⟩),opV o,.bool last,.bool exit] w (zai g s o last exit w):=by
 refine zff [.p (.c (.ref 0 0)),.p (.agg ((opC o).map .v)),one (.bool last),one (.bool exit)] [.pointer (some ⟨g,0,none⟩),opV o,.bool last,.bool exit] Tryz.func110 Tryz.ntmps110 rfl zS hU ⟨_,_,rfl,zi1 rfl,_,_,rfl,⟨_,rfl,ziv _⟩,_,_,rfl,rfl,_,_,rfl,rfl,rfl⟩ ?_
 refine z3i ?_
 conv=>whnf
 refine z3i ?_
 conv=>whnf
 refine ze2 rfl zK (fun r w' _=>z4v o.code w') ?_
 conv=>whnf
 obtain ⟨f0,hf0⟩:∃ f0:Fr,f0=[(0,.p (.c (.ref 0 0))),(2,one (.bool last)),(3,one (.bool exit)),(5,.p (.c (.ref 1 0))),(9,.p (.c (.ref 2 0)))]:=⟨_,rfl⟩
 obtain ⟨S0,hS0⟩:∃ S0:List Ow,S0=[.cells ckT ((zf9 s).map .v),.cells 61 ((opC o).map .v),.cells 247 [.v (.bool (hasD o.code)),.v (.bool (hasA o.code)),.v (.bool (hasB o.code)),.v (.bool (hasN o.code)),.v (.bool (leaves o.code)),.v (.bool (stores o.code))]]:=⟨_,rfl⟩
 refine z3c (α:={_x:Unit//znt o=true}) (fun _=>f0) (fun _=>S0) ?_ fun x=>?_
 ·refine z3i ?_
  conv=>whnf
  cases hI:isOp o.code
  rotate_left;refine kB ?_;refine zfb rfl zK (fun r w' _=>zl5 _ _ w') ?_
  cases hD:zl3 (hasD o.code) o.d
  rotate_left;refine kB ?_;refine zfb rfl zK (fun r w' _=>zl5 _ _ w') ?_
  cases hA:zl3 (hasA o.code) o.a
  rotate_left;refine kB ?_;refine zfb rfl zK (fun r w' _=>zl5 _ _ w') ?_
  cases hB:zl3 (hasB o.code) o.b
  rotate_left;refine kB ?_
  cases hN:hasN o.code
  ·conv=>whnf
   refine kA ?_;refine z23 rfl (fun hn=>?_) (fun hn=>z3j (zb8 ⟨(),?_⟩ ?_))
   ·have hn:(o.n !=0)=true:=hn
    have hn:(o.n==0)=false:=by simpa using hn
    (refine z3m ?_;(conv=>whnf);refine zco (zcg ?_) fun a w hq=>hq;(conv=>whnf);exact zmi (by unfold zf3 znt;simp only [*];rfl) rfl (.inl rfl))
   ·have hn:(o.n !=0)=false:=hn
    have hn:(o.n==0)=true:=(by simpa using hn);unfold znt;simp only [*];rfl
   ·(subst hf0 hS0;exact zj2 Tn (aI sM (aI sM (aI ((aI rfl (Or.inl (by rw [hN])))) trivial))) rfl rfl)
  ·conv=>whnf
   refine kA ?_;refine z23 (t:=false) rfl nF (fun _=>z3j (zb8 ⟨(),by unfold znt;simp only [*];rfl⟩ ?_))
   (subst hf0 hS0;exact zj2 Tn (aI sM (aI sM (aI ((aI rfl (Or.inl (by rw [hN])))) trivial))) rfl rfl)
  all_goals
   refine kB ?_
   (refine z23 (t:=true) rfl (fun _=>?_) nT)
   (refine z3m ?_;(conv=>whnf);refine zco (zcg ?_) fun a w hq=>hq;(conv=>whnf);exact zmi (by unfold zf3 znt;simp only [*];rfl) rfl (.inl rfl))
 obtain ⟨-,hf⟩:=x;obtain ⟨hI,hd,ha,hb,-⟩:=zny hf;refine z3c (α:={_x:Unit//zyp s o last exit=true}) (fun _=>f0) (fun _=>S0) ?_ fun x=>?_
 ·refine z3i ?_
  subst hf0 hS0;(conv=>whnf);refine zfb rfl zK (fun r w' _=>zjv _ w') ?_;(conv=>whnf);refine z0e (zju o.code) last rfl Tryz.underlying4 rfl rfl ?_
  cases hE:zju o.code==last
  ·conv=>whnf
   refine kA ?_;refine z23 (t:=true) rfl (fun _=>?_) nT
   (refine z3m ?_;(conv=>whnf);refine zco (zcg ?_) fun a w hq=>hq;(conv=>whnf);exact zmi (by unfold zf3 zyp;simp only [*];rfl) rfl (.inl rfl))
  refine kB ?_;refine ⟨fun h3=>?_,fun h3=>?_⟩;(conv=>whnf)
  cases exit
  ·conv=>whnf
   refine kA ?_;refine z23 (t:=true) rfl (fun _=>?_) nT
   (refine z3m ?_;(conv=>whnf);refine zco (zcg ?_) fun a w hq=>hq;(conv=>whnf);exact zmi (by unfold zf3 zyp;simp only [*];rfl) rfl (.inl rfl))
  all_goals
   refine kB ?_;refine ⟨fun h4=>?_,fun h4=>?_⟩
   ·conv=>whnf
    refine kA ?_;refine z23 rfl (fun hC=>?_) (fun hC=>z3j (zb8 ⟨(),?_⟩ ?_))
    ·have hC:s.changed=true:=hC
     (refine z3m ?_;(conv=>whnf);refine zco (zcg ?_) fun a w hq=>hq;(conv=>whnf);exact zmi (by unfold zf3 zyp;simp only [*];rfl) rfl (.inl rfl))
    ·have hC:s.changed=false:=hC
     unfold zyp;simp only [*];rfl
    ·exact zj2 Tn Tn rfl rfl
   ·conv=>whnf
    refine kA ?_;refine z23 (t:=false) rfl nF (fun _=>z3j (zb8 ⟨(),by unfold zyp;simp only [*];rfl⟩ ?_));exact zj2 Tn Tn rfl rfl
 obtain ⟨-,hp⟩:=x;refine z3c (α:={s1:Ck//s1.written<268435456∧zf3 s o last exit=if (reads o).all (z0u s1) then some ⟨s1.marks,if 20≤writes o then s1.written|||2^(writes o).toNat else s1.written,s1.changed||(stores o.code||decide (0≤writes o∧writes o<20))⟩ else none}) (fun _=>f0) (fun s1=> .cells ckT ((zf9 s1.1).map .v)::S0.tail) ?_ fun s1=>?_
 ·refine z3i ?_
  subst hf0 hS0;(conv=>whnf);refine z23 rfl (fun hc=>?_) (fun hc=>z3j (zb8 ⟨s,hw,?_⟩ ?_))
  ·refine z25 ?_
   refine z3i ?_;(conv=>whnf);refine z2v mixed zK ?_;(conv=>whnf);refine ⟨(s.marks:Int),(wr32 _).trans zO,?_⟩;(conv=>whnf);have hc:(o.code==20)=true:=hc;have h20:o.code=20:=(by simpa using hc);refine z23 rfl (fun hm=>?_) (fun hm=>z3j (zcd ?_))
   ·have hm:(o.n==(s.marks:Int))=false:=by simpa using (show (o.n !=(s.marks:Int))=true from hm)
    (refine z3m ?_;(conv=>whnf);refine zco (zcg ?_) fun a w hq=>hq;(conv=>whnf);exact zmi (by unfold zf3;rw [if_pos (by rw [hf,hp];rfl),hc,hm];rfl) rfl (.inl rfl))
   ·have hm:(o.n==(s.marks:Int))=true:=by simpa using (show (o.n !=(s.marks:Int))=false from hm)
    refine z3m ?_;(conv=>whnf);refine ⟨((s.marks+1:Nat):Int),(wr64 zO).trans zO,?_⟩;(conv=>whnf);refine zb8 ⟨⟨s.marks+1,0,false⟩,(by show 0<268435456;omega),?_⟩ ?_
    ·unfold zf3 reads writes
     rw [if_pos (by rw [hf,hp];rfl),hc,hm,h20]
     rfl
    ·exact zj2 Tn Tn rfl rfl
  ·unfold zf3
   rw [if_pos (by rw [hf,hp];rfl),if_neg (by rw [show (o.code==20)=false from hc];decide)]
  ·exact zj2 Tn Tn rfl rfl
 obtain ⟨s1,hw1,hnx⟩:=s1;subst hf0 hS0;refine z3c (α:={_x:Unit//(reads o).all (z0u s1)=true}) (fun _=>[(0,.p (.c (.ref 0 0))),(5,.p (.c (.ref 1 0))),(9,.p (.c (.ref 2 0)))]) (fun _=>[.cells ckT ((zf9 s1).map .v),.cells 61 ((opC o).map .v),.cells 247 [.v (.bool (hasD o.code)),.v (.bool (hasA o.code)),.v (.bool (hasB o.code)),.v (.bool (hasN o.code)),.v (.bool (leaves o.code)),.v (.bool (stores o.code))],.row 3 1 (reads o).length ((reads o).map (.int .i64))]) ?_ fun x=>?_
 ·refine z3i ?_
  (conv=>whnf);refine zfa rfl zK (fun r w' hR=>z07 o w') ?_;(conv=>whnf);refine z21 ?_;have hrl:(reads o).length≤2:=(by unfold reads;split<;>split<;>simp);refine z29 (fun x:{k:Nat//k≤(reads o).length∧∀ x∈(reads o).take k,z0u s1 x=true}=>[(0,.p (.c (.ref 0 0))),(5,.p (.c (.ref 1 0))),(9,.p (.c (.ref 2 0))),(100,.p (.c (.row 3))),(101,one (.int .i64 ((reads o).length:Int))),(102,one (.int .i64 (x.1:Int)))]) (fun _=>[.cells ckT ((zf9 s1).map .v),.cells 61 ((opC o).map .v),.cells 247 [.v (.bool (hasD o.code)),.v (.bool (hasA o.code)),.v (.bool (hasB o.code)),.v (.bool (hasN o.code)),.v (.bool (leaves o.code)),.v (.bool (stores o.code))],.row 3 1 (reads o).length ((reads o).map (.int .i64))]) (fun x=>(reads o).length-x.1) ⟨0,Nat.zero_le _,by simp⟩ (zkb rfl Tn (aI sM (aI sM (aI sM (aI ((aI rfl (aI rfl (aI rfl rfl)))) trivial))))) fun x=>?_;obtain ⟨k,hk,hq⟩:=x;dsimp only;refine z3i ?_;(conv=>whnf);refine z25 ?_;refine z23 rfl (fun hc=>z3j (zcd ?_)) (fun hc=>?_)
  ·have hlt:k<(reads o).length:=by have:=of_decide_eq_true hc;omega
   obtain ⟨v,hv⟩:∃ v,(reads o)[k]?=some v:=⟨_,List.getElem?_eq_getElem hlt⟩
   have hv28:=z1b hf v (List.mem_of_getElem? hv);have hvr:(((reads o).map (Value.int .i64)).map CV.v)[((k:Int)).toNat*tsz Tryz.prog 3]?=some (.v (.int .i64 v)):=(by rw [show tsz Tryz.prog 3=1 from rfl,Int.toNat_natCast,Nat.mul_one,List.getElem?_map,List.getElem?_map,hv];rfl);refine z3c (α:={_x:Unit//z0u s1 v=true}) (fun _=>[(0,.p (.c (.ref 0 0))),(5,.p (.c (.ref 1 0))),(9,.p (.c (.ref 2 0))),(100,.p (.c (.row 3))),(101,one (.int .i64 ((reads o).length:Int))),(102,one (.int .i64 (k:Int)))]) (fun _=>[.cells ckT ((zf9 s1).map .v),.cells 61 ((opC o).map .v),.cells 247 [.v (.bool (hasD o.code)),.v (.bool (hasA o.code)),.v (.bool (hasB o.code)),.v (.bool (hasN o.code)),.v (.bool (leaves o.code)),.v (.bool (stores o.code))],.row 3 1 (reads o).length ((reads o).map (.int .i64))]) ?_ fun x=>?_
   ·refine z21 ?_
    refine z3i ?_;(conv=>whnf);refine ⟨⟨by omega,by omega⟩,?_⟩;(conv=>whnf);rw [hvr];(conv=>whnf);refine z3i ?_;(conv=>whnf);by_cases h20:v≥20
    ·rw [show decide (v≥20)=true from decide_eq_true h20]
     refine kB ?_;have hbt:=zdt s1.written v.toNat zO;refine ⟨by omega,(s1.written:Int)/2^v.toNat,by rw [Int.fdiv_eq_ediv_of_nonneg _ (Int.pow_nonneg (by decide)),show min v.toNat IntKind.u32.bits=v.toNat from Nat.min_eq_left (by show v.toNat≤32;omega)],?_⟩;refine kB ?_;refine ⟨_,rfl,?_⟩;refine kB ?_;refine z23 rfl (fun hc=>?_) (fun hc=>z3j (zb4 (zb8 ⟨(),?_⟩ ?_)))
     ·have hc:=hbt.symm.trans hc
      (refine z3m ?_;(conv=>whnf);refine zco (zco (zcg ?_) fun a w hq=>hq) fun a w hq=>hq;(conv=>whnf);exact zmi (by rw [hnx,if_neg];exact fun ha=>absurd (List.all_eq_true.1 ha v (List.mem_of_getElem? hv)) (by unfold z0u;rw [show s1.written.testBit v.toNat=false by simpa using hc,decide_eq_false zO];decide)) rfl (.inl rfl))
     ·have hc:=hbt.symm.trans hc
      unfold z0u;rw [show s1.written.testBit v.toNat=true by simpa using hc,Bool.or_true]
     ·exact zj2 Tn (aI sM (aI sM (aI sM (aI ((aI rfl (aI rfl (aI rfl rfl)))) trivial)))) rfl rfl
    ·rw [show decide (v≥20)=false from decide_eq_false h20]
     refine kB ?_;refine z23 (t:=false) rfl nF (fun _=>z3j (zb4 (zb8 ⟨(),?_⟩ ?_)))
     ·unfold z0u;rw [decide_eq_true zO];rfl
     ·exact zj2 Tn (aI sM (aI sM (aI sM (aI ((aI rfl (aI rfl (aI rfl rfl)))) trivial)))) rfl rfl
   ·obtain ⟨-,hr⟩:=x
    refine z3m ?_;(conv=>whnf);refine ⟨((k+1:Nat):Int),(wr64 zO).trans zO,?_⟩;(conv=>whnf);refine zcb ⟨k+1,hlt,fun y hy=>?_⟩ (zkb rfl Tn (aI sM (aI sM (aI sM (aI ((aI rfl (aI rfl (aI rfl rfl)))) trivial))))) zU;rw [List.take_add_one,hv,List.mem_append] at hy;rcases hy with hy|hy
    ·exact hq y hy
    ·obtain rfl:y=v:=by simpa using hy
     exact hr
  ·have hge:k=(reads o).length:=by have:=of_decide_eq_false hc;omega
   refine z3m ?_;(conv=>whnf);refine zb7 (zce (zb6 (zb8 ⟨(),?_⟩ (zkb rfl Tn (aI sM (aI sM (aI sM (aI ((aI rfl (aI rfl (aI rfl rfl)))) trivial))))))));rw [List.all_eq_true];intro y hy;exact hq y (by rw [hge,List.take_length];exact hy)
 obtain ⟨-,hall⟩:=x;rw [if_pos hall] at hnx;have hwv:=ybl hf;refine z3i ?_;(conv=>whnf);refine ze2 rfl zK (fun r w' _=>ybi o w') ?_;(conv=>whnf);refine z3c (α:=Unit) (fun _=>[(0,.p (.c (.ref 0 0))),(9,.p (.c (.ref 2 0))),(13,one (.int .i64 (writes o)))]) (fun _=> .cells ckT ((zf9 ⟨s1.marks,if 20≤writes o then s1.written|||2^(writes o).toNat else s1.written,s1.changed⟩).map .v)::[.cells 61 ((opC o).map .v),.cells 247 [.v (.bool (hasD o.code)),.v (.bool (hasA o.code)),.v (.bool (hasB o.code)),.v (.bool (hasN o.code)),.v (.bool (leaves o.code)),.v (.bool (stores o.code))]]) ?_ fun _=>?_
 ·refine z3i ?_
  conv=>whnf
  refine z23 rfl (fun hc=>?_) (fun hc=>z3j (zb8 () ?_))
  ·have h20:20≤writes o:=of_decide_eq_true hc
   have hor:=zds s1.written (writes o).toNat zO zO;rw [if_pos h20];refine z3m ?_;refine z2x 9 mixed zK ?_;(conv=>whnf);refine ⟨by omega,2^(writes o).toNat%4294967296,by rw [wr32,Int.one_mul,show min (writes o).toNat IntKind.u32.bits=(writes o).toNat from Nat.min_eq_left (by show (writes o).toNat≤32;omega)],?_⟩;(conv=>whnf);refine ⟨_,hor,?_⟩;(conv=>whnf);exact zb8 () (zj2 Tn Tn rfl rfl)
  ·rw [if_neg (of_decide_eq_false hc)]
   exact zj2 Tn Tn rfl rfl
 refine z3i ?_
 conv=>whnf
 refine ⟨fun hC=>?_,fun hC=>?_⟩
 ·have hC:s1.changed=false:=hC
  cases hS:stores o.code
  ·conv=>whnf
   refine kA ?_;refine ⟨fun h0=>?_,fun h0=>?_⟩
   ·conv=>whnf
    refine kA ?_
    (refine z3m ?_;(conv=>whnf);refine zcg ?_;(conv=>whnf);refine zmj hnx rfl ?_)
    rw [hC,hS];show decide (writes o<20)=decide (0≤writes o∧writes o<20);have:=of_decide_eq_true h0;rw [decide_eq_decide];omega
   ·conv=>whnf
    refine kA ?_
    (refine z3m ?_;(conv=>whnf);refine zcg ?_;(conv=>whnf);refine zmj hnx rfl ?_)
    rw [hC,hS];show false=decide (0≤writes o∧writes o<20);have:=of_decide_eq_false h0;rw [eq_comm,decide_eq_false_iff_not];omega
  ·conv=>whnf
   refine kA ?_
   (refine z3m ?_;(conv=>whnf);refine zcg ?_;(conv=>whnf);refine zmj hnx rfl ?_)
   rw [hC,hS];rfl
 ·have hC:s1.changed=true:=hC
  refine kB ?_
  (refine z3m ?_;(conv=>whnf);refine zcg ?_;(conv=>whnf);refine zmj hnx rfl ?_)
  rw [hC];rfl
end
def MemP.protect (M:MemP) (q:Nat) (x:Int):MemP:={M with rights:=M.rights.set q x}
theorem zy4 {M:MemP} {n p:Nat} (hM:M.ok n p) (q:Nat) {x:Int} (hx:0≤x∧x<8):(M.protect q x).ok n p:=
 ⟨hM.ld,hM.li,by show (M.rights.set q x).length=p;rw [List.length_set];exact hM.lr,hM.lod,hM.loi,hM.np,hM.pmax,hM.db,hM.ib,fun z hz=>by
  rcases List.mem_or_eq_of_mem_set hz with h|h
  ·exact hM.rb z h
  ·rw [h];exact hx⟩
theorem zdw {x:Int} (h:0≤x∧x<8):bits .and .i64 x 7=x:=by
 have:x=0∨x=1∨x=2∨x=3∨x=4∨x=5∨x=6∨x=7:=by omega
 rcases this with rfl|rfl|rfl|rfl|rfl|rfl|rfl|rfl<;>decide
theorem zuq (M:MemP) (n p:Nat) (q:Nat) (x:Int) (w:World) (g:Nat) (gs:List Nat) (hU:ObjsAt w (g::gs) (memS 0 n p M)) (hM:M.ok n p) (hq:q<p) (_hp:p≤4096) (hx:0≤x∧x<8):
  Calls Tryz.prog 54 #[.pointer (some ⟨g,0,none⟩),.int .i64 (q:Int),.int .i64 x] w fun e w'=>e= .returned (.tuple #[])∧ObjsAt w' (g::gs) (memS 0 n p (M.protect q x))∧GrownBys w w' (g::gs):=by
 obtain ⟨g0,g1,g2,g3,g4,g5,hg⟩:=z5w hU;injection hg with hg0 hgs;subst hgs;subst hg0;refine zfe [.p (.c (.ref 0 0)),one (.int .i64 (q:Int)),one (.int .i64 x)] [.pointer (some ⟨g,0,none⟩),.int .i64 (q:Int),.int .i64 x] Tryz.func54 Tryz.ntmps54 rfl zS hU ⟨_,_,rfl,zi1 rfl,zc6 [.int .i64 (q:Int),.int .i64 x]⟩ ?_;(conv=>whnf);refine ⟨decide ((q:Int)<(p:Int)),fun _=>?_,?_⟩
 ·conv=>whnf
  exact ⟨rfl,rfl,rfl,rfl,zo2 _ _ _ _ _ _ _ _ _⟩
 conv=>whnf
 refine ⟨fun _=>?_,fun hc=>absurd hc (by simp [cmb];omega)⟩
 conv=>whnf
 have h7:bits .and .i64 x 7=x:=zdw hx
 refine ⟨x,h7,?_⟩
 conv=>whnf
 refine ⟨⟨by omega,by omega⟩,?_⟩
 conv=>whnf
 have hlen:p≤(List.map CV.v M.rV).length:=z8b hM.lr
 rw [show Nat.ble (0+(q:Int).toNat*tsz Tryz.prog 3+[CV.v (Value.int IntKind.i64 x)].length) (List.map CV.v M.rV).length=true from Nat.ble_eq_true_of_le (by refine Nat.le_trans ?_ hlen;show 0+_*1+1≤p;omega)]
 conv=>whnf
 have hset:z3z (List.map CV.v M.rV) (0+(q:Int).toNat*tsz Tryz.prog 3) [CV.v (Value.int IntKind.i64 x)]=List.map CV.v (M.protect q x).rV:=by
  rw [z4h];show List.map CV.v (M.rV.set (0+(q:Int).toNat*1) _)=_;rw [Nat.zero_add,Nat.mul_one,Int.toNat_natCast];exact congrArg (List.map CV.v) (z8c (by rw [hM.lr];exact hq))
 cases hble:Nat.ble (List.map CV.v M.rV).length 8 with
 |true=>
  refine znp.2 ?_;(conv=>whnf);rw [hset]
  exact zmn rfl rfl (fun i o h=>h) (zuc n p (M.protect q x)) fun w' h1 h2=>⟨rfl,h1,h2⟩
 |false=>
  conv=>whnf
  rw [hset]
  exact zmn rfl rfl (fun i o h=>h) (zuc n p (M.protect q x)) fun w' h1 h2=>⟨rfl,h1,h2⟩
section
variable {P:Program} {w0:World} {G:Gs} {S:List Ow} {f:Fr} {o:Oper} {N:Nd} {K:Fr→List Ow→Prop}
theorem zww {x y:Operand} {a b:Int} {tys:Array TypeId} (hop:o.op= .call ⟨.builtin .max,#[x,y],tys⟩) (hx:f.ev x=one (.int .i64 a)) (hy:f.ev y=one (.int .i64 b)) (hdst:zjc N.n o.dst=true) (hk:K (f.put o.dst (one (.int .i64 (if a<b then b else a)))) S):OpS P w0 G N o f S K:=by
 refine zwr _ hdst (fun r act w hR hf=>⟨_,zi3 _ _,?_⟩) hk;have h1:=hf.ev x;have h2:=hf.ev y;rw [hx] at h1;rw [hy] at h2;simp [execOp,hop,resolve,invoke,builtin,zi6 h1,zi6 h2,Builtin.max_,Builtin.max2]
end
theorem zh1 {l:List CV} {n:Nat} (h:l.length=n):cut l 0 n=some l:=by
 unfold cut;rw [show Nat.ble (0+n) l.length=true from Nat.ble_eq_true_of_le zO];simp [← h]
abbrev u32L (vs:List Int):List Value:=vs.map (Value.int .u32)
abbrev z97 (vs:List Int):Value:= .agg (u32L vs).toArray
theorem zwl (S:List Ow):∀ vs:List Int,zwf S (List.map CV.v (u32L vs))=true
 |[]=>rfl
 |v::vs=>by
  show (match oneS S (.v (.int .u32 v)) with|true=>zwf S (List.map CV.v (u32L vs))|false=>false)=true;exact zwl S vs
theorem z30:∀ {l m p:List CV},l.length=m.length→z3z (p++l) p.length m=p++m
 |[],[],p,_=>by simp [z3z]
 |a::l,b::m,p,h=>by
  have ih:=z30 (l:=l) (m:=m) (p:=p++[b]) (by simpa using h);show z3z ((p++a::l).set p.length b) (p.length+1) m=_;rw [List.set_append_right _ _ (Nat.le_refl _),Nat.sub_self,List.set_cons_zero];have e:(p++[b]).length=p.length+1:=(by simp);rw [e] at ih
  simpa using ih
 |[],_::_,_,h=>by simp at h
 |_::_,[],_,h=>by simp at h
theorem z32 {l m:List CV} (h:l.length=m.length):z3z l 0 m=m:=z30 (p:=[]) h
theorem z9d:∀ us:List Value,valL (List.map CV.v us)=some us
 |[]=>rfl
 |u::us=>by simp only [List.map_cons,valL,CV.val,z9d us]
theorem z9e (us:List Value):(AV.p (.agg (List.map CV.v us))).val=some (.agg us.toArray):=by
 simp only [AV.val,Pc.val,z9d us]
def zpg (vs:List Int):List Int:=vs.take 19++List.replicate (vs.length-19) 0
def zph (vs:List Int) (j:Nat):List Int:=vs.take 19++List.replicate (j-19) 0++vs.drop j
theorem zpl {vs:List Int} {j:Nat} (h:19≤j) (hj:j<vs.length):(zph vs j).set j 0=zph vs (j+1):=by
 unfold zph;have h1:(vs.take 19++List.replicate (j-19) (0:Int)).length=j:=(by simp;omega);rw [List.set_append_right _ _ zO,h1,Nat.sub_self,show vs.drop j=vs[j]::vs.drop (j+1) from List.drop_eq_getElem_cons hj,List.set_cons_zero,show j+1-19=(j-19)+1 by omega,List.replicate_succ'];simp
theorem zpi {vs:List Int} {j:Nat} (h:19≤j) (hj:j≤vs.length):(zph vs j).length=vs.length:=by
 unfold zph;simp;omega
theorem z5y (c:Int) (w:World):Calls Tryz.prog 141 #[.int .i64 c] w fun e w'=>e= .returned (.int .i64 (z5x c))∧Below w.heap.size w w':=by
 refine zfj [.int .i64 c] Tryz.func141 Tryz.ntmps141 rfl zS ?_
 conv=>whnf
 refine ⟨c==19,fun _=>?_,?_⟩
 ·conv=>whnf
  exact ⟨rfl,rfl,rfl,rfl,rfl⟩
 conv=>whnf
 refine ⟨fun hc=>?_,fun hc=>?_⟩
 ·conv=>whnf
  exact zmp rfl fun w' hB=>⟨by unfold z5x;rw [if_pos (show (c==17||c==19)=true from hc)],hB⟩
 ·conv=>whnf
  exact zmp rfl fun w' hB=>⟨by unfold z5x;rw [if_neg (by rw [show (c==17||c==19)=false from hc];decide)],hB⟩
theorem zpm (vs:List Int) (w:World) (hl:vs.length=28):Calls Tryz.prog 83 #[z97 vs] w fun e w'=>e= .returned (z97 (zpg vs))∧Below w.heap.size w w':=by
 refine zfj [z97 vs] Tryz.func83 Tryz.ntmps83 rfl zS ?_
 conv=>whnf
 have e0:zph vs 19=vs:=by unfold zph;simp
 refine ⟨{j:Nat//19≤j∧j≤28},fun x=>[(1,.p (.c (.ref 0 0))),(2,.p (.c (.ref 1 0))),(3,one (.int .i64 (x.1:Int)))],fun x=>[.cells 42 (List.map CV.v (u32L (zph vs x.1))),.cells 42 (List.map CV.v (u32L (List.replicate 28 0)))],fun x=>28-x.1,
  ⟨⟨19,by omega,by omega⟩,zkb rfl Tn (aI ((aI rfl (Or.inl (by rw [e0])))) (aI sM trivial))⟩,fun x=>?_⟩
 obtain ⟨j,hj1,hj2⟩:=x
 have hlen:(List.map CV.v (u32L (zph vs j))).length=28:=by rw [List.length_map,List.length_map,zpi hj1 zO,hl]
 dsimp only
 conv=>whnf
 refine ⟨fun hc=>?_,fun hc=>?_⟩
 ·have hlt:j<28:=by simp at hc;omega
  (conv=>whnf);refine ⟨⟨by omega,by omega⟩,?_⟩;(conv=>whnf);rw [show Nat.ble (0+(j:Int).toNat*tsz Tryz.prog 41+[CV.v (Value.int IntKind.u32 0)].length) (List.map CV.v (u32L (zph vs j))).length=true from Nat.ble_eq_true_of_le (by rw [hlen];show 0+_*1+1≤28;omega)];(conv=>whnf);rw [show Nat.ble (List.map CV.v (u32L (zph vs j))).length 8=false from by rw [hlen];rfl];(conv=>whnf);refine ⟨_,wr64 zO,?_⟩;(conv=>whnf)
  have hset:z3z (List.map CV.v (u32L (zph vs j))) (0+(j:Int).toNat*tsz Tryz.prog 41) [CV.v (Value.int IntKind.u32 0)]=List.map CV.v (u32L (zph vs (j+1))):=by
   rw [z4h, ← zpl hj1 zO];show List.map CV.v ((u32L (zph vs j)).set (0+(j:Int).toNat*1) _)=_;rw [Nat.zero_add,Nat.mul_one,Int.toNat_natCast];simp only [List.map_set]
  exact ⟨⟨j+1,by omega,by omega⟩,zkb rfl Tn (aI ((aI rfl (Or.inl hset))) (aI sM trivial)),by show 28-(j+1)<28-j;omega⟩
 ·have hje:j=28:=by simp at hc;omega
  subst hje;(conv=>whnf);refine ⟨_,_,zj7,?_⟩;(conv=>whnf);rw [show cut (List.map CV.v (u32L (zph vs 28))) 0 (Tryz.prog.types[42].size)=some (List.map CV.v (u32L (zph vs 28))) from zh1 hlen];(conv=>whnf);have hl2:(List.map CV.v (u32L (List.replicate 28 0))).length=28:=rfl;rw [show Nat.beq (List.map CV.v (u32L (zph vs 28))).length (Tryz.prog.types[42].size)=true from by rw [hlen];rfl,zwl];(conv=>whnf);rw [show Nat.ble (0+(List.map CV.v (u32L (zph vs 28))).length) (List.map CV.v (u32L (List.replicate 28 0))).length=true from Nat.ble_eq_true_of_le (by rw [hlen,hl2];omega)];(conv=>whnf);rw [z32 (show (List.map CV.v (u32L (List.replicate 28 0))).length=(List.map CV.v (u32L (zph vs 28))).length by rw [hlen,hl2])];(conv=>whnf);rw [show cut (List.map CV.v (u32L (zph vs 28))) 0 (Tryz.prog.types[42].size)=some (List.map CV.v (u32L (zph vs 28))) from zh1 hlen];(conv=>whnf)
  refine zmp (z9e _) fun w' hB=>⟨?_,hB⟩
  have:zph vs 28=zpg vs:=by unfold zph zpg;rw [List.drop_eq_nil_of_le zO,hl];simp
  rw [this]
structure VrSt (n:Nat) (ops:List BOp) where
 k:Nat
 s:Ck
 hk:k≤n
 hm:s.marks≤k
 hw:s.written<268435456
 eq:zga ⟨0,0,false⟩ ops=zga s (ops.drop k)
theorem zgf (s:Ck):zaj 1 [.cells ckT ((zf9 s).map .v)]:=fun o ho=>by rw [List.mem_singleton.1 ho];exact zge s
theorem zfp {w:World} {G:Gs} {b off:Nat} {x:Value} {xs:List Value} (h:zac w G b off (x::xs)):zac w G b off [x]:=⟨h.1,h.2.1,fun j u hj=>by
 match j,hj with
 |0,hj=>exact h.2.2 0 u hj
 |j+1,hj=>cases hj⟩
section
variable {w:World}
theorem z9p (A1 A2 A3:Option Addr) (c1 c2 c3:Nat) (b:Blk) (w:World) (hb:b.ok) (h2:SlAt w w.heap.size A2 (b.pages.map (.int .i64))) (h3:OpsAt w w.heap.size A3 b.ops):
  Calls Tryz.prog 66 #[.agg #[.slice A1 b.at_.length c1,.slice A2 b.pages.length c2,.slice A3 b.ops.length c3]] w fun e w'=>e= .returned (.bool (z9g b))∧Below w.heap.size w w':=by
 refine zfh [.agg #[.slice A1 b.at_.length c1,.slice A2 b.pages.length c2,.slice A3 b.ops.length c3]] Tryz.func66 Tryz.ntmps66 rfl zS ?_;refine z3i ?_;(conv=>whnf);refine z25 ?_;refine z3i ?_;(conv=>whnf);refine ze2 rfl zK (fun r w' hR=>zpv A1 A2 A3 c1 c2 c3 b w' hb (z59 h2 hR.toBelow) (z59 h3 hR.toBelow)) ?_
 cases hhd:zpu b
 ·conv=>whnf
  refine z23 (t:=true) rfl (fun _=>?_) nT;refine z3m ?_;(conv=>whnf);refine zco (zcg ?_) fun a w hq=>hq;(conv=>whnf)
  exact zmp rfl fun w' hB=>⟨by unfold z9g;rw [hhd];rfl,hB⟩
 (conv=>whnf);refine z23 (t:=false) rfl nF (fun _=>z3j (zcd ?_));have hhd':=hhd;unfold zpu at hhd';simp only [Bool.and_eq_true,decide_eq_true_eq] at hhd';have hpos:=hhd'.1.2.1;have hmax:=hhd'.1.2.2;clear hhd';obtain ⟨bb,off,rfl⟩:=zw6 h3 hpos;refine z3i ?_;(conv=>whnf);refine z3c (α:={s:Ck//zga ⟨0,0,false⟩ b.ops=some s}) (fun _=>[(1,.p (.c (.ref 0 0))),(3,.p (.c (.ref 1 0)))]) (fun s=>[.cells 28 [.v (.slice A1 b.at_.length c1),.v (.slice A2 b.pages.length c2),.v (.slice (some ⟨bb,off,none⟩) b.ops.length c3)],.cells ckT ((zf9 s.1).map .v)]) ?_ fun s=>?_
 ·refine z3i ?_
  (conv=>whnf);refine z21 ?_;refine z29 (fun x:VrSt b.ops.length b.ops=>[(1,.p (.c (.ref 0 0))),(3,.p (.c (.ref 1 0))),(13,one (.slice (some ⟨bb,off,none⟩) b.ops.length c3)),(14,one (.int .i64 (b.ops.length:Int))),(15,one (.int .i64 (x.k:Int)))]) (fun x=>[.cells 28 [.v (.slice A1 b.at_.length c1),.v (.slice A2 b.pages.length c2),.v (.slice (some ⟨bb,off,none⟩) b.ops.length c3)],.cells ckT ((zf9 x.s).map .v)]) (fun x=>b.ops.length-x.k) ⟨0,⟨0,0,false⟩,Nat.zero_le _,Nat.le_refl _,by show 0<268435456;omega,rfl⟩ (zkb rfl Tn Tn) fun x=>?_;obtain ⟨k,s,hk,hm,hw,heq⟩:=x;dsimp only;refine z3i ?_;(conv=>whnf);refine z25 ?_;refine z23 rfl (fun hc=>z3j (zcd ?_)) (fun hc=>?_)
  ·have hlt:k<b.ops.length:=by have:=of_decide_eq_true hc;omega
   obtain ⟨o,hx⟩:∃ o,b.ops[k]?=some o:=⟨_,List.getElem?_eq_getElem hlt⟩
   have hat:=zgb (s:=s) hx;refine z3c (α:={s':Ck//zf3 s o (b.ops.drop (k+1)).isEmpty (zll (b.ops.drop (k+1)))=some s'}) (fun _=>[(1,.p (.c (.ref 0 0))),(3,.p (.c (.ref 1 0))),(13,one (.slice (some ⟨bb,off,none⟩) b.ops.length c3)),(14,one (.int .i64 (b.ops.length:Int))),(15,one (.int .i64 (k:Int)))]) (fun s'=>[.cells 28 [.v (.slice A1 b.at_.length c1),.v (.slice A2 b.pages.length c2),.v (.slice (some ⟨bb,off,none⟩) b.ops.length c3)],.cells ckT ((zf9 s'.1).map .v)]) ?_ fun s'=>?_
   ·refine z21 ?_
    refine z3i ?_;(conv=>whnf);refine ⟨⟨by omega,by omega⟩,?_⟩;(conv=>whnf);refine ⟨opC o,zfv h3 zS hx,rfl,?_⟩;(conv=>whnf);refine z3i ?_;(conv=>whnf);refine ⟨(b.ops.length:Int)-1,wr64 zO,?_⟩;(conv=>whnf);refine z3i ?_;refine z2x 15 mixed zK ?_;(conv=>whnf);by_cases hl:(k:Int)=(b.ops.length:Int)-1;rotate_left;rw [show ((k:Int)==(b.ops.length:Int)-1)=false by simpa using hl]
    obtain ⟨o2,hx2⟩:∃ o2,b.ops[k+1]?=some o2:=⟨_,List.getElem?_eq_getElem zO⟩
    obtain ⟨e1,e2⟩:=zlm hx2;rw [e1,e2] at hat⊢;refine kB ?_;refine ⟨((k+1:Nat):Int),(wr64 zO).trans zO,?_⟩;refine kB ?_;refine ⟨⟨by omega,by omega⟩,?_⟩;refine kB ?_;refine ⟨_,zfp (zfv h3 zS hx2),?_⟩;refine kB ?_;refine ze8 (pre:=[]) (suf:=[.p (.agg ((opC o).map .v)),one (.bool false),one (.bool (o2.code==24))]) (xs:=[]) (ys:=[opV o,.bool false,.bool (o2.code==24)]) (α:=Ck×Bool) 1 [.cells ckT ((zf9 s).map .v)] [.cells ckT ((zf9 s).map .v)] (fun x=>[.cells ckT ((zf9 x.1).map .v)]) (fun x=>[.cells ckT ((zf9 x.1).map .v)]) (fun x=> .bool x.2) (fun x=>zf3 s o false (o2.code==24)=bif x.2 then some x.1 else none) zS ⟨⟨rfl,rfl⟩,trivial⟩ (zgf s) (fun i hi=>by match i,hi with|0,_=>rfl|i+1,h=>exact absurd h zS) rfl rfl zK (fun _ _=>⟨⟨rfl,rfl⟩,trivial⟩) (fun x _=>zgf x.1) (fun _ _=>rfl) (fun w' g gs ho hU=>?_) ?_;rotate_left 2;have hnil:b.ops.drop (k+1)=[]:=List.drop_eq_nil_of_le zO;rw [show (b.ops.drop (k+1)).isEmpty=true by rw [hnil];rfl,show zll (b.ops.drop (k+1))=false by rw [hnil];rfl] at hat⊢;rw [show ((k:Int)==(b.ops.length:Int)-1)=true by simpa using hl];refine kB ?_;refine ze8 (pre:=[]) (suf:=[.p (.agg ((opC o).map .v)),one (.bool true),one (.bool false)]) (xs:=[]) (ys:=[opV o,.bool true,.bool false]) (α:=Ck×Bool) 1 [.cells ckT ((zf9 s).map .v)] [.cells ckT ((zf9 s).map .v)] (fun x=>[.cells ckT ((zf9 x.1).map .v)]) (fun x=>[.cells ckT ((zf9 x.1).map .v)]) (fun x=> .bool x.2) (fun x=>zf3 s o true false=bif x.2 then some x.1 else none) zS ⟨⟨rfl,rfl⟩,trivial⟩ (zgf s) (fun i hi=>by match i,hi with|0,_=>rfl|i+1,h=>exact absurd h zS) rfl rfl zK (fun _ _=>⟨⟨rfl,rfl⟩,trivial⟩) (fun x _=>zgf x.1) (fun _ _=>rfl) (fun w' g gs ho hU=>?_) ?_
    all_goals first
    |(cases gs with
      |nil=>first|exact zu4 g s o true false hU zO hw|exact zu4 g s o false (o2.code==24) hU zO hw
      |cons=>exact absurd hU.len zS)
    |(rintro ⟨s',t⟩ hpost
      conv=>whnf
      cases t
      ·refine z23 (t:=true) rfl (fun _=>?_) nT
       refine z3m ?_;(conv=>whnf);refine zco (zco (zcg ?_) fun a w hq=>hq) fun a w hq=>hq;(conv=>whnf)
       exact zmp rfl fun w' hB=>⟨by unfold z9g;rw [hhd,heq,hat,hpost];rfl,hB⟩
      ·exact z23 (t:=false) rfl nF (fun _=>z3j (zb4 (zb8 ⟨s',hpost⟩ (zj2 Tn Tn rfl rfl)))))
   ·obtain ⟨s',hs'⟩:=s'
    dsimp only;have hbd:=zf4 hs' hw;refine z3m ?_;(conv=>whnf);refine ⟨((k+1:Nat):Int),(wr64 zO).trans zO,?_⟩;(conv=>whnf);exact zcb ⟨k+1,s',hlt,by omega,hbd.2,by rw [heq,hat,hs']⟩ (zkb rfl Tn Tn) zU
  ·have hge:k=b.ops.length:=by have:=of_decide_eq_false hc;omega
   refine z3m ?_;(conv=>whnf);exact zb7 (zce (zb6 (zb8 ⟨s,by rw [heq,hge,List.drop_length];rfl⟩ (zkb rfl Tn Tn))))
 obtain ⟨s,hs⟩:=s;dsimp only;refine z3i ?_;refine z2v mixed zK ?_;(conv=>whnf);refine z3m ?_;(conv=>whnf);refine zcg ?_;(conv=>whnf)
 refine zmp rfl fun w' hB=>⟨?_,hB⟩
 unfold z9g;rw [hhd,hs];exact congrArg (fun x=>Ending.returned (.bool x)) (by rw [Bool.eq_iff_iff];simp;omega)
end
def getV (vs:List Int) (i:Int):Int:=(vs[i.toNat]?).getD 0
def szN (c:Int):Nat:=if c=17∨c=19 then 1 else 4
structure Ap where
 vs:List Int
 stays:Bool
 mem:MemP
def zbr (o:BOp) (vs:List Int) (M:MemP):Ap:=
 if o.code=1 then ⟨vs.set o.d.toNat o.n,true,M⟩
 else if o.code=2 then ⟨vs.set o.d.toNat (getV vs o.a),true,M⟩
 else if o.code=16∨o.code=17 then (match M.bad ((getV vs o.a+o.n)%4294967296) 1 0 (szN o.code) with
  |none=>⟨vs.set o.d.toNat (M.load ((getV vs o.a+o.n)%4294967296) 0 (szN o.code)),true,M⟩
  |some _=>⟨vs,false,M⟩)
 else if o.code=18∨o.code=19 then ⟨vs,(M.bad ((getV vs o.a+o.n)%4294967296) 2 0 (szN o.code)).isNone,M.storeM ((getV vs o.a+o.n)%4294967296) (szN o.code) (getV vs o.b)⟩
 else if o.code=21 then ⟨vs,getV vs o.a !=0,M⟩
 else if o.code=22 then ⟨vs,false,M⟩
 else if zrf o.code=true then ⟨vs.set o.d.toNat (yaq o.code (getV vs o.a) (getV vs o.b)),true,M⟩
 else ⟨vs,true,M⟩
structure Outc where
 leaves:Bool
 index:Int
 done:Int
 pc:Int
 vars:List Int
def Outc.zero:Outc:=⟨false,0,0,0,List.replicate 28 0⟩
structure EvR where
 out:Outc
 mem:MemP
def ztx (o:BOp) (i:Int):Int:=if o.code=20 then o.n else i
def zkx (ats:List Int):List BOp→Int→List Int→MemP→EvR
 |[],_,_,M=>⟨Outc.zero,M⟩
 |o::l,i,vs,M=>
  if o.code=24∨(o.code=23∧getV vs o.a≠0) then ⟨⟨false,0,ats.length,o.n,zpg vs⟩,M⟩
  else if o.code=25 then ⟨⟨false,0,ats.length,getV vs o.a,zpg vs⟩,M⟩
  else if (zbr o vs M).stays=true then zkx ats l (ztx o i) (zbr o vs M).vs (zbr o vs M).mem
  else ⟨⟨true,ztx o i,ztx o i,(ats[(ztx o i).toNat]?).getD 0,zpg vs⟩,(zbr o vs M).mem⟩
def zku (b:Blk) (vs:List Int) (M:MemP):EvR:=if z9g b=true then zkx b.at_ b.ops 0 vs M else ⟨Outc.zero,M⟩
structure VarsOk (vs:List Int):Prop where
 len:vs.length=28
 word:∀ x∈vs,word x
theorem zop {vs:List Int} (h:VarsOk vs) (i:Int):word (getV vs i):=by
 unfold getV
 cases hi:vs[i.toNat]? with
 |none=>exact yap
 |some x=>exact h.word x (List.mem_of_getElem? hi)
theorem zoo {vs:List Int} {d v x:Int} (hd:0≤d) (hv:0≤v) (hne:v≠d):getV (vs.set d.toNat x) v=getV vs v:=by
 unfold getV;rw [List.getElem?_set_ne zO]
theorem zon {vs:List Int} (h:VarsOk vs) {d x:Int} (hd:0≤d∧d<28):getV (vs.set d.toNat x) d=x:=by
 unfold getV;rw [List.getElem?_set_self (by rw [h.len];omega)];rfl
theorem z4g {vs:List Int} (h:VarsOk vs) (i:Nat) {x:Int} (hx:Go.Proofs.YtocafomnnkmjfaaGreat.word x):VarsOk (vs.set i x):=⟨by rw [List.length_set];exact h.len,fun y hy=>by
 rcases List.mem_or_eq_of_mem_set hy with h1|h1
 ·exact h.word y h1
 ·rw [h1];exact hx⟩
theorem zby {o:BOp} {vs:List Int} {M:MemP} (h:VarsOk vs) (hn:word o.n):VarsOk (zbr o vs M).vs:=by
 unfold zbr
 split
 ·exact z4g h _ hn
 split
 ·exact z4g h _ (zop h _)
 split
 ·split
  ·exact z4g h _ (zto M _ _ _)
  ·exact h
 split
 ·exact h
 split
 ·exact h
 split
 ·exact h
 split
 ·exact z4g h _ (yar (zop h _) (zop h _))
 ·exact h
theorem znw {o:BOp} (hf:znt o=true) (hD:hasD o.code=true):0≤o.d∧o.d<28∧writes o=o.d:=by
 have h2:=(zn0.1 hf).2.1;rw [hD] at h2;simp [zl3] at h2;refine ⟨by omega,by omega,?_⟩;unfold writes;rw [hD];rfl
theorem znu {o:BOp} (hf:znt o=true):0≤o.a∧o.a<28:=by
 have h:=(zn0.1 hf).2.2.1
 cases hA:hasA o.code<;>rw [hA] at h<;>simp [zl3] at h<;>omega
theorem znv {o:BOp} (hf:znt o=true):0≤o.b∧o.b<28:=by
 have h:=(zn0.1 hf).2.2.2.1
 cases hB:hasB o.code<;>rw [hB] at h<;>simp [zl3] at h<;>omega
theorem znx {o:BOp} (hf:znt o=true):0≤o.d∧o.d<28:=by
 have h:=(zn0.1 hf).2.1
 cases hD:hasD o.code<;>rw [hD] at h<;>simp [zl3] at h<;>omega
theorem zbt {o:BOp} (h:o.code=1) (vs:List Int) (M:MemP):zbr o vs M=⟨vs.set o.d.toNat o.n,true,M⟩:=by unfold zbr;rw [if_pos h]
theorem zbw {o:BOp} (h:o.code=2) (vs:List Int) (M:MemP):zbr o vs M=⟨vs.set o.d.toNat (getV vs o.a),true,M⟩:=by unfold zbr;rw [if_neg zO,if_pos h]
theorem zbs {o:BOp} (h:zrf o.code=true) (vs:List Int) (M:MemP):zbr o vs M=⟨vs.set o.d.toNat (yaq o.code (getV vs o.a) (getV vs o.b)),true,M⟩:=by
 have h':3≤o.code∧o.code≤15:=by unfold zrf at h;simpa using h
 unfold zbr;rw [if_neg zO,if_neg zO,if_neg zO,if_neg zO,if_neg zO,if_neg zO,if_pos h]
theorem zbx {o:BOp} (h:o.code=20∨o.code=23) (vs:List Int) (M:MemP):zbr o vs M=⟨vs,true,M⟩:=by
 have hb:¬zrf o.code=true:=by unfold zrf;rw [decide_eq_true_eq];omega
 unfold zbr;rw [if_neg zO,if_neg zO,if_neg zO,if_neg zO,if_neg zO,if_neg zO,if_neg hb]
theorem zbu {o:BOp} (h:o.code=21) (vs:List Int) (M:MemP):zbr o vs M=⟨vs,getV vs o.a !=0,M⟩:=by
 unfold zbr;rw [if_neg zO,if_neg zO,if_neg zO,if_neg zO,if_pos h]
theorem zkz {ats:List Int} {o:BOp} {l:List BOp} {i:Int} {vs:List Int} {M:MemP} (h1:¬(o.code=24∨(o.code=23∧getV vs o.a≠0))) (h2:o.code≠25) (h3:(zbr o vs M).stays=true):zkx ats (o::l) i vs M=zkx ats l (ztx o i) (zbr o vs M).vs (zbr o vs M).mem:=by
 show (if _ then _ else _)=_;rw [if_neg h1,if_neg h2,if_pos h3]
end Go.Proofs.YtocafomnnkmjfaaGreat
