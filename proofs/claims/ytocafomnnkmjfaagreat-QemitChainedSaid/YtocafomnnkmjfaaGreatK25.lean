import Derived.Shelf.Strings.Builder1
import Derived.Test.YtocafomnnkmjfaaGreatK24
set_option maxRecDepth 100000
set_option maxHeartbeats 2000000
namespace Go.Proofs.YtocafomnnkmjfaaGreat
open Go.RowKit
theorem zkm {P:Program} {t:TypeId} {ps rs:Array TypeId} {v:Bool} (ht:P.underlying t=some (.func ps rs v)) (d:Nat) (w:World):(Op.equalIn (d+1) t .nilFunc .nilFunc).run P w= .ok true w:=by
 simp [Op.equalIn,run_underlying ht]
theorem zkn {P:Program} {t:TypeId} {ps rs:Array TypeId} {v:Bool} (ht:P.underlying t=some (.func ps rs v)) (fn:Fn) (first cap:Array Value) (d:Nat) (w:World):(Op.equalIn (d+1) t (.func fn first cap) .nilFunc).run P w= .ok false w:=by
 simp [Op.equalIn,run_underlying ht]
theorem zz8 {P:Program} {w0:World} {G:Gs} {S:List Ow} {f:Fr} {o:Oper} {K:AV→Prop} {t t':TypeId} {x y:Operand} {ps rs:Array TypeId} {v:Bool} (z:Value) (hz:z= .nilFunc∨∃ fn first cap,z= .func fn first cap) (hop:o.op= .binOp .neq t x y t') (ht:P.underlying t=some (.func ps rs v)) (hx:f.ev x=one z) (hy:f.ev y=one .nilFunc) (hk:K (one (.bool (match z with| .nilFunc=>false|_=>true)))):QRun P w0 G S f o K:=by
 refine ⟨_,hk,fun r a hf=>?_⟩;have h1:=hf.ev x;have h2:=hf.ev y;rw [hx] at h1;rw [hy] at h2;refine ⟨_,zi3 _ _,fun w hR=>?_⟩;rcases hz with rfl|⟨fn,first,cap,rfl⟩
 ·have he:(Op.equal t .nilFunc .nilFunc).run P w= .ok true w:=zkm ht 9999 w
  simp [execOp,hop,zi6 h1,zi6 h2,eqGuard,binOp,he]
 ·have he:(Op.equal t (.func fn first cap) .nilFunc).run P w= .ok false w:=zkn ht fn first cap 9999 w
  simp [execOp,hop,zi6 h1,zi6 h2,eqGuard,binOp,he]
theorem zgm {r:Env} (fid pb:Nat):AV.den r (.p (.c (.clo (.func fid) [.v (pV pb)]))) (.func (.func fid) #[] #[pV pb]):=by
 simp only [AV.den,Pc.den,CV.den];exact ⟨[pV pb],rfl,_,_,rfl,rfl,rfl⟩
theorem zz2 {P:Program} {w0:World} {G:Gs} {S:List Ow} {f:Fr} {o:Oper} {K:AV→Prop} {t t':TypeId} {x y:Operand} {ps rs:Array TypeId} {v:Bool} {fn:Fn} {cap:List CV} (hop:o.op= .binOp .neq t x y t') (ht:P.underlying t=some (.func ps rs v)) (hx:f.ev x= .p (.c (.clo fn cap))) (hy:f.ev y=one .nilFunc) (hk:K (one (.bool true))):QRun P w0 G S f o K:=by
 refine ⟨_,hk,fun r a hf=>?_⟩;have h1:=hf.ev x;have h2:=hf.ev y;rw [hx] at h1;rw [hy] at h2;obtain ⟨us,hu,_⟩:=zi0 h1;refine ⟨_,zi3 _ _,fun w hR=>?_⟩;have he:(Op.equal t (.func fn #[] us.toArray) .nilFunc).run P w= .ok false w:=zkn ht fn #[] us.toArray 9999 w;simp [execOp,hop,hu,zi6 h2,eqGuard,binOp,he]
section
variable {w:World} {g:Nat} {vC vS:Value} {X:EmX}
def z5h (X:EmX) (kind:Int):SiteP:=⟨4*(X.code.length:Int),kind,if kind=2∨kind=3 then X.index else 0,0,if kind=2∨kind=3 then X.live else 0,0⟩
abbrev siU (X:EmX) (s:SiteP):List Ow:=emU X++([.cells siT ((z5k s).map .v)]:List Ow)
theorem z5p (h:EmAt w g vC vS X) (kind:Int) (hk:1≤kind∧kind≤6) (hlen:X.code.length≤100000000) (hlens:X.sites.length≤100000000):
  Calls Tryz.prog 168 #[pV g,.int .i64 kind,.nilFunc] w fun e w'=>e= .returned (.tuple #[])∧EmTo w w' g vC vS {X with sites:=X.sites++[z5h X kind]}:=by
 have hal:=h.al;have hrel:=z1m h;obtain ⟨A,size,code,sites,live,index,written⟩:=X;dsimp only at hal hrel hlen hlens⊢;obtain ⟨x0,x1,x2,x3,x4,x5,x6,x7,x8,x9,x10,x11,x12,x13,x14,x15,x16,x17,x18,x19,x20,x21,x22,x23,x24,x25,x26,x27,rfl⟩:=zs9 hal;refine zfi [.p (.c (.ref 0 0)),one (.int .i64 kind),one .nilFunc] [.pointer (some ⟨g,0,none⟩),.int .i64 kind,.nilFunc] Tryz.func168 Tryz.ntmps168 rfl zS hrel ⟨_,_,rfl,zi1 rfl,zc6 [.int .i64 kind,.nilFunc]⟩ ?_;refine z3i ?_;(conv=>whnf);refine ⟨4*(code.length:Int),(by dsimp only;exact wr64 zO),?_⟩;(conv=>whnf);refine z3c (α:=Unit) (fun _=>[(0,.p (.c (.ref 0 0))),(2,one .nilFunc),(6,.p (.c (.ref 3 0)))]) (fun _=>siU ⟨[x0,x1,x2,x3,x4,x5,x6,x7,x8,x9,x10,x11,x12,x13,x14,x15,x16,x17,x18,x19,x20,x21,x22,x23,x24,x25,x26,x27],size,code,sites,live,index,written⟩ (z5h ⟨[x0,x1,x2,x3,x4,x5,x6,x7,x8,x9,x10,x11,x12,x13,x14,x15,x16,x17,x18,x19,x20,x21,x22,x23,x24,x25,x26,x27],size,code,sites,live,index,written⟩ kind)) ?_ fun _=>?_
 ·rcases (by omega:kind=1∨kind=2∨kind=3∨kind=4∨kind=5∨kind=6) with rfl|rfl|rfl|rfl|rfl|rfl
  all_goals (refine z3i ?_;(conv=>whnf);refine kA ?_)
  all_goals first
   |(refine z23 rfl nF (fun _=>z3j ?_);exact zb8 () (zkb rfl Tn (aI sM (aI ((aI rfl (aI rfl (aI rfl rfl)))) (aI ((aI rfl (aI rfl (aI rfl rfl)))) (aI sM trivial))))))
   |(refine z23 rfl (fun _=>?_) nT
     refine z3m ?_;refine z2t (.q 0 (.q 1 (.q 2 (.q 4 (.q 5 (.q 6 (.alt 3 (.alt 7 (.q 8 (.alt 9 (.q 10 (.alt 11 .done .no)) .no)) .no) (.alt 7 (.alt 3 (.q 8 (.alt 9 (.q 10 (.alt 11 .done .no)) .no)) .no) .no)))))))) mixed zK zK ?_;(conv=>whnf)
     repeat' (first
       |exact zb8 () (zkb rfl Tn (aI sM (aI ((aI rfl (aI rfl (aI rfl rfl)))) (aI ((aI rfl (aI rfl (aI rfl rfl)))) (aI sM trivial)))))
       |(refine ⟨?_,?_,trivial⟩<;>(conv=>whnf))
       |(refine ⟨?_,trivial⟩;(conv=>whnf))
       |fail))
 refine z25 ?_;refine z3i ?_;(conv=>whnf);refine zz8 .nilFunc (.inl rfl) rfl rfl rfl rfl ?_;(conv=>whnf);refine z23 rfl nF (fun _=>z3j (zcd ?_));refine z3m ?_;refine z2t (.q 0 (.q 1 (.q 2 (.q 3 (.alt 4 (.alt 5 (.alt 6 (.alt 7 (.q 8 (.q 9 (.alt 10 .done .no))) .no) .no) .no) (.alt 5 (.alt 4 (.alt 6 (.alt 7 (.q 8 (.q 9 (.alt 10 .done .no))) .no) .no) (.alt 6 (.alt 4 (.alt 7 (.q 8 (.q 9 (.alt 10 .done .no))) .no) .no) .no)) .no)))))) mixed zK zK ?_;(conv=>whnf)
 repeat' (first
  |(refine ⟨?_,?_,trivial⟩<;>(conv=>whnf))
  |(refine ⟨?_,trivial⟩;(conv=>whnf))
  |(refine zbi rfl ?_ rfl;(conv=>whnf))
  |fail)
 all_goals first
  |(show sites.length+1≤1000000000;omega)
  |(refine zb5 ?_
    conv=>whnf
    refine zmk (X':=⟨[x0,x1,x2,x3,x4,x5,x6,x7,x8,x9,x10,x11,x12,x13,x14,x15,x16,x17,x18,x19,x20,x21,x22,x23,x24,x25,x26,x27],size,code,sites++[z5h ⟨[x0,x1,x2,x3,x4,x5,x6,x7,x8,x9,x10,x11,x12,x13,x14,x15,x16,x17,x18,x19,x20,x21,x22,x23,x24,x25,x26,x27],size,code,sites,live,index,written⟩ kind],live,index,written⟩) 1 2 rfl rfl rfl rfl ?_ (by decide) fun w' h'=>⟨rfl,h'⟩
    show some (Ow.row _ _ (sites.length+1) (sites.flatMap z5k++_))=some (Ow.row _ _ (sites++[z5h _ kind]).length ((sites++[z5h _ kind]).flatMap z5k));rw [List.flatMap_append,List.length_append]
    rfl)
theorem z5o (h:EmAt w g vC vS X) (kind:Int) (hk:kind=4∨kind=6) (fid pb:Nat) (us:List Value) (post:SiteP→SiteP) (hok:fnOk Tryz.prog fid=true) (hold:zao w (emGs g vC vS) (some ⟨pb,0,none⟩) us) (hcl:∀ w1 b s,zao w1 ⟨[b],[]⟩ (some ⟨pb,0,none⟩) us→w1.heap[b]?=some (.cells (z5k s).toArray siT (0,0))→Calls Tryz.prog fid #[pV b,pV pb] w1 fun e w'=>e= .returned (.tuple #[])∧w'.heap[b]?=some (.cells (z5k (post s)).toArray siT (0,0))∧w1.grownBy w' (some b)) (hlen:X.code.length≤100000000) (hlens:X.sites.length≤100000000):
  Calls Tryz.prog 168 #[pV g,.int .i64 kind,.func (.func fid) #[] #[pV pb]] w fun e w'=>e= .returned (.tuple #[])∧EmTo w w' g vC vS {X with sites:=X.sites++[post (z5h X kind)]}:=by
 have hal:=h.al;have hrel:=z1m h;obtain ⟨A,size,code,sites,live,index,written⟩:=X;dsimp only at hal hrel hlen hlens⊢;obtain ⟨x0,x1,x2,x3,x4,x5,x6,x7,x8,x9,x10,x11,x12,x13,x14,x15,x16,x17,x18,x19,x20,x21,x22,x23,x24,x25,x26,x27,rfl⟩:=zs9 hal;refine zfi [.p (.c (.ref 0 0)),one (.int .i64 kind),.p (.c (.clo (.func fid) [.v (pV pb)]))] [.pointer (some ⟨g,0,none⟩),.int .i64 kind,.func (.func fid) #[] #[pV pb]] Tryz.func168 Tryz.ntmps168 rfl zS hrel ⟨_,_,rfl,zi1 rfl,_,_,rfl,AV.of_den _ (.int .i64 kind),_,_,rfl,zgm fid pb,rfl⟩ ?_;refine z3i ?_;(conv=>whnf);refine ⟨4*(code.length:Int),(by dsimp only;exact wr64 zO),?_⟩;(conv=>whnf);refine z3c (α:=Unit) (fun _=>[(0,.p (.c (.ref 0 0))),(2,.p (.c (.clo (.func fid) [.v (pV pb)]))),(6,.p (.c (.ref 3 0)))]) (fun _=>siU ⟨[x0,x1,x2,x3,x4,x5,x6,x7,x8,x9,x10,x11,x12,x13,x14,x15,x16,x17,x18,x19,x20,x21,x22,x23,x24,x25,x26,x27],size,code,sites,live,index,written⟩ (z5h ⟨[x0,x1,x2,x3,x4,x5,x6,x7,x8,x9,x10,x11,x12,x13,x14,x15,x16,x17,x18,x19,x20,x21,x22,x23,x24,x25,x26,x27],size,code,sites,live,index,written⟩ kind)) ?_ fun _=>?_
 ·rcases hk with rfl|rfl
  all_goals (refine z3i ?_;(conv=>whnf);refine kA ?_)
  all_goals first
   |(refine z23 rfl nF (fun _=>z3j ?_);exact zb8 () (zkb rfl Tn (aI sM (aI ((aI rfl (aI rfl (aI rfl rfl)))) (aI ((aI rfl (aI rfl (aI rfl rfl)))) (aI sM trivial))))))
 refine z25 ?_;refine z3i ?_;(conv=>whnf);refine zz2 rfl rfl rfl rfl ?_;(conv=>whnf);refine z23 rfl (fun _=>?_) nT;refine z3m ?_;(conv=>whnf);refine ze9 (fun x us'=>x= .tuple #[]∧us'=z5k (post (z5h ⟨[x0,x1,x2,x3,x4,x5,x6,x7,x8,x9,x10,x11,x12,x13,x14,x15,x16,x17,x18,x19,x20,x21,x22,x23,x24,x25,x26,x27],size,code,sites,live,index,written⟩ kind))) 3 rfl (xs:=[pV pb]) rfl hok (fun w1 b hk hb=>(hcl w1 b _ (hk _ _ hold) hb).mono fun e w' ⟨h1,h2,h3⟩=>⟨_,_,⟨rfl,rfl⟩,h1,h2,h3⟩) fun x us' ⟨hx,hu⟩=>?_;subst hx;subst hu;(conv=>whnf);refine zcd ?_;generalize post (z5h ⟨[x0,x1,x2,x3,x4,x5,x6,x7,x8,x9,x10,x11,x12,x13,x14,x15,x16,x17,x18,x19,x20,x21,x22,x23,x24,x25,x26,x27],size,code,sites,live,index,written⟩ kind)=s';refine z2z (f':=[(0,.p (.c (.ref 0 0))),(6,.p (.c (.ref 3 0)))]) (S':=siU ⟨[x0,x1,x2,x3,x4,x5,x6,x7,x8,x9,x10,x11,x12,x13,x14,x15,x16,x17,x18,x19,x20,x21,x22,x23,x24,x25,x26,x27],size,code,sites,live,index,written⟩ s') (zkb rfl Tn (aI sM (aI ((aI rfl (aI rfl (aI rfl rfl)))) (aI ((aI rfl (aI rfl (aI rfl rfl)))) (aI sM trivial))))) ?_;refine z3m ?_;refine z2t (.q 0 (.q 1 (.q 2 (.q 3 (.alt 4 (.alt 5 (.alt 6 (.alt 7 (.q 8 (.q 9 (.alt 10 .done .no))) .no) .no) .no) (.alt 5 (.alt 4 (.alt 6 (.alt 7 (.q 8 (.q 9 (.alt 10 .done .no))) .no) .no) (.alt 6 (.alt 4 (.alt 7 (.q 8 (.q 9 (.alt 10 .done .no))) .no) .no) .no)) .no)))))) mixed zK zK ?_;(conv=>whnf)
 repeat' (first
  |(refine ⟨?_,?_,trivial⟩<;>(conv=>whnf))
  |(refine ⟨?_,trivial⟩;(conv=>whnf))
  |(refine zbi rfl ?_ rfl;(conv=>whnf))
  |fail)
 all_goals first
  |(show sites.length+1≤1000000000;omega)
  |(refine zb5 ?_
    conv=>whnf
    refine zmk (X':=⟨[x0,x1,x2,x3,x4,x5,x6,x7,x8,x9,x10,x11,x12,x13,x14,x15,x16,x17,x18,x19,x20,x21,x22,x23,x24,x25,x26,x27],size,code,sites++[s'],live,index,written⟩) 1 2 rfl rfl rfl rfl ?_ (by decide) fun w' h'=>⟨rfl,h'⟩
    show some (Ow.row _ _ (sites.length+1) (sites.flatMap z5k++_))=some (Ow.row _ _ (sites++[s']).length ((sites++[s']).flatMap z5k));rw [List.flatMap_append,List.length_append]
    rfl)
end
theorem zrp (d:Nat) (us vs:List Int) (w:World):∀ is:List Nat,(∀ i∈is,i<us.length∧i<vs.length)→(Op.eqItems (d+1) 3 (Tryz.prog.cellsOf 3) (alL us).toArray (alL vs).toArray is).run Tryz.prog w= .ok (is.all fun i=>us[i]?.getD 0==vs[i]?.getD 0) w
 |[],_=>by simp [Op.eqItems]
 |i::is,h=>by
  obtain ⟨h1,h2⟩:=h i zS
  have g1:(alL us).toArray[i]?=some (.int .i64 ((us[i]?).getD 0)):=by
   simp [List.getElem?_map,List.getElem?_eq_getElem h1]
  have g2:(alL vs).toArray[i]?=some (.int .i64 ((vs[i]?).getD 0)):=by
   simp [List.getElem?_map,List.getElem?_eq_getElem h2]
  have hc:Tryz.prog.cellsOf 3=1:=(by kernel_rfl);have hp1:(part 3 (alL us).toArray i).run Tryz.prog w= .ok (.int .i64 ((us[i]?).getD 0)) w:=run_part_plain w zK g1;have hp2:(part 3 (alL vs).toArray i).run Tryz.prog w= .ok (.int .i64 ((vs[i]?).getD 0)) w:=run_part_plain w zK g2;have he:(Op.equalIn (d+1) 3 (.int .i64 ((us[i]?).getD 0)) (.int .i64 ((vs[i]?).getD 0))).run Tryz.prog w= .ok (us[i]?.getD 0==vs[i]?.getD 0) w:=run_equalIn_int w d _ _ _ _ _ Tryz.underlying3;have ih:=zrp d us vs w is fun j hj=>h j (by simp [hj]);rw [hc] at ih⊢;rw [List.all_cons]
  cases hq:(us[i]?.getD 0==vs[i]?.getD 0) with
  |true=>rw [hq] at he;simp [Op.eqItems,hp1,hp2,he,ih]
  |false=>rw [hq] at he;simp [Op.eqItems,hp1,hp2,he]
theorem z2o {us vs:List Int} (n:Nat) (ha:us.length=n) (hb:vs.length=n):((List.range n).all fun i=>us[i]?.getD 0==vs[i]?.getD 0)=decide (us=vs):=by
 by_cases h:us=vs
 ·subst h
  rw [decide_eq_true rfl,List.all_eq_true];intro i _;exact beq_self_eq_true _
 ·rw [decide_eq_false h]
  cases hq:((List.range n).all fun i=>us[i]?.getD 0==vs[i]?.getD 0) with
  |false=>rfl
  |true=>
   refine absurd ?_ h;rw [List.all_eq_true] at hq;refine List.ext_getElem zO fun i h1 h2=>?_;have:=hq i (List.mem_range.2 zO)
   simpa [List.getElem?_eq_getElem h1,List.getElem?_eq_getElem h2] using this
theorem zkl (x y:Operand) (us vs:Array Value) (w:World):(eqGuard .eql alT x y (.agg us) (.agg vs)).run Tryz.prog w= .ok () w:=run_eqGuard_agg (P:=Tryz.prog) (w:=w) .eql alT x y us vs zK
theorem zbc (us vs:List Int) (hu:us.length=28) (hv:vs.length=28) (w:World):(binOp .eql alT (.agg (alL us).toArray) (.agg (alL vs).toArray)).run Tryz.prog w= .ok (.bool (decide (us=vs))) w:=by
 obtain ⟨inf,hinf⟩:=Option.isSome_iff_exists.1 (show (Tryz.prog.info? 3).isSome=true by kernel_rfl);rw [run_eql_struct,run_equalIn_array (P:=Tryz.prog) (w:=w) 9999 _ _ Tryz.underlying31 hinf,zrp 9998 us vs w _ fun i hi=>by have:=List.mem_range.1 hi;omega,z2o 28 hu hv]
 rfl
theorem zz6 {w0:World} {G:Gs} {S:List Ow} {f:Fr} {o:Oper} {K:AV→Prop} {x y:Operand} {t':TypeId} (us vs:List Int) (hu:us.length=28) (hv:vs.length=28) (hop:o.op= .binOp .eql alT x y t') (hx:(f.ev x).val=some (.agg (alL us).toArray)) (hy:(f.ev y).val=some (.agg (alL vs).toArray)) (hk:K (one (.bool (decide (us=vs))))):QRun Tryz.prog w0 G S f o K:=by
 refine ⟨_,hk,fun r a hf=>?_⟩;have e1:=AV.val_den hx (hf.ev x);have e2:=AV.val_den hy (hf.ev y);refine ⟨_,zi3 _ _,fun w hR=>?_⟩;have hg:=zkl x y (alL us).toArray (alL vs).toArray w;have hb:=zbc us vs hu hv w;simp only [execOp,hop,e1,e2,Sem.run_bind,hg,Result.andThen_ok,hb,Sem.run_pure]
theorem z16 {E:Em} (v:Int) {t:Int} (ht:11≤t):rrE E v 10≠t:=by unfold rrE regE;split;split<;>omega;omega
theorem tg_ne {E:Em} (v:Int) (hA:AlOk E.a) (hv:0≤v∧v<28):tgE E v≠0:=by
 have:=(hA.lo v hv.1 hv.2).2;unfold tgE rrE regE
 split
 ·rw [if_pos zO];omega
 ·omega
section
variable {E:Em} {G n p W:Nat} {vs:List Int} {g M1:MemP} {R:Int→Int} {M:MemP} {F:Int→Option QI} {B:Int} {k:Nat}
theorem RelE.weak {W':Nat} (h:RelE E G n p W vs g M1 R M) (hW:∀ v,zsw W' v→zsw W v):RelE E G n p W' vs g M1 R M:=
 ⟨h.vars,h.mem,h.gok,h.gp,h.reg,h.zero,h.base,fun v hv=>h.inR v (hW v hv),fun v hv=>h.inM v (hW v hv),h.old,h.guest,h.grr,h.crr,h.keep,h.fet⟩
theorem RelE.read2 (h:RelE E G n p W vs g M1 R M) (hA:AlOk E.a) (hB:0≤B∧B≤4000000000) {u v:Int} (hu:zsw W u) (hv:zsw W v) {l:List It} (hc:Cd F B k (rdE E u 10++(rdE E v 11++l))):
  ∃ R',Ex F B k R M (k+(rdE E u 10).length+(rdE E v 11).length) R' M ((rdE E u 10).length+(rdE E v 11).length)∧RelE E G n p W vs g M1 R' M∧R' (rrE E u 10)=getV vs u∧R' (rrE E v 11)=getV vs v:=by
 obtain ⟨R1,e1,r1,v1,_⟩:=h.read hA hB hu (.inl rfl) hc.left;obtain ⟨R2,e2,r2,v2,s2⟩:=r1.read hA hB hv (.inr rfl) hc.right.left;exact ⟨R2,e1.trans e2,r2,(s2 _ (z16 u zO)).trans v1,v2⟩
theorem RelE.fin {k1:Nat} {R1:Int→Int} (h:RelE E G n p W vs g M1 R1 M) (hA:AlOk E.a) (hB:0≤B∧B≤4000000000) {d x:Int} (hd:0≤d∧d<28) (h19:d≠19) (hx:word x) (hwr:E.written.testBit d.toNat=true) {N:Nat} (he:Ex F B k R M k1 (updR R1 (tgE E d) x) M N) (hc:Cd F B k1 (dnE E d)):
  ∃ R' M',Ex F B k R M (k1+(dnE E d).length) R' M' (N+(dnE E d).length)∧RelE E G n p (zu3 W d) (vs.set d.toNat x) g M1 R' M':=by
 obtain ⟨R',M',e1,r1⟩:=h.done hA hB hd h19 hx hwr hc;exact ⟨R',M',he.trans e1,r1⟩
theorem ybm {a b:Int} (ha:word a) (hb:word b):xorI a b<1↔a=b:=by
 unfold word at ha hb
 obtain ⟨x,rfl⟩:∃ x:Nat,a=x:=⟨a.toNat,by omega⟩
 obtain ⟨y,rfl⟩:∃ y:Nat,b=y:=⟨b.toNat,by omega⟩
 unfold xorI;rw [Int.toNat_natCast,Int.toNat_natCast]
 constructor
 ·intro h
  have h0:x ^^^ y=0:=by omega
  have:x=y:=Nat.eq_of_testBit_eq fun i=>by
   have h1:=congrArg (fun z=>z.testBit i) h0;simp only [Nat.testBit_xor,Nat.zero_testBit] at h1
   revert h1
   cases x.testBit i<;>cases y.testBit i<;>simp
  rw [this]
 ·intro h
  have:x=y:=(by omega);subst this;rw [Nat.xor_self];decide
structure OpE (E:Em) (W:Nat) (o:BOp):Prop where
 ok:o.ok
 formed:znt o=true
 reads:∀ v∈reads o,zsw W v
 wr:0≤writes o→E.written.testBit (writes o).toNat=true
theorem OpE.a {o:BOp} (h:OpE E W o) (ha:hasA o.code=true):zsw W o.a:=h.reads _ (zur.2 (.inl ⟨ha,rfl⟩))
theorem OpE.b {o:BOp} (h:OpE E W o) (ha:hasA o.code=true) (hb:hasB o.code=true):zsw W o.b:=by
 by_cases hab:o.b=o.a
 ·rw [hab];exact h.a ha
 ·exact h.reads _ (zur.2 (.inr ⟨hb,rfl,hab⟩))
theorem OpE.d {o:BOp} (h:OpE E W o) (hd:hasD o.code=true):(0≤o.d∧o.d<28)∧o.d≠19∧E.written.testBit o.d.toNat=true∧writes o=o.d:=by
 obtain ⟨h0,h1,h2⟩:=znw h.formed hd;have hw:=h.wr (by rw [h2];exact h0);rw [h2] at hw;refine ⟨⟨h0,h1⟩,fun e=>?_,hw,h2⟩;have:=(zn0.1 h.formed).2.1;rw [hd,e] at this;exact absurd this (by decide)
theorem zpp {c:Int} (h:1≤c∧c≤17):hasD c=true:=by unfold hasD;rw [decide_eq_true_eq];exact h
theorem zpn {c:Int} (h:2≤c∧c≤19):hasA c=true:=by unfold hasA;rw [decide_eq_true_eq];omega
theorem zpo {c:Int} (h:3≤c∧c≤15):hasB c=true:=by unfold hasB;rw [decide_eq_true_eq];omega
theorem zob (h:RelE E G n p W vs g M1 R M) (hA:AlOk E.a) (hB:0≤B∧B≤4000000000) {o:BOp} (ho:OpE E W o) (hp:1≤o.code∧o.code≤15) (i:Int) (hc:Cd F B k (zn2 E i o)):
  ∃ R' M',Ex F B k R M (k+(zn2 E i o).length) R' M' (zn2 E i o).length∧RelE E G n p (zu3 W o.d) (zbr o vs g).vs g M1 R' M'∧(zbr o vs g).stays=true∧(zbr o vs g).mem=g:=by
 obtain ⟨hd,h19,hwr,_⟩:=ho.d (zpp zO);have htg:=tg_ne o.d hA hd;unfold zn2 at hc⊢;by_cases c1:o.code=1
 ·rw [if_pos c1] at hc⊢
  rw [zbt c1];obtain ⟨R',M',e,r⟩:=h.fin hA hB hd h19 ho.ok.n hwr (zk9 hB hc.left htg ho.ok.n h.zero) hc.right;exact ⟨R',M',by rw [List.length_append, ← Nat.add_assoc];exact e,r,rfl,rfl⟩
 rw [if_neg c1] at hc⊢;have ha:=ho.a (zpn zO);have hwa:=zop h.vars o.a;by_cases c2:o.code=2
 ·rw [if_pos c2] at hc⊢
  rw [zbw c2];obtain ⟨R1,e1,r1,v1,_⟩:=h.read hA hB ha (.inl rfl) hc.left;have e2:=zli (R:=R1) (M:=M) hB hc.right.left zO (fun h=>by omega)
  have hx:yaq (zzu 1) (R1 (rrE E o.a 10)) (R1 0)=getV vs o.a:=by
   rw [v1,r1.zero];show (getV vs o.a+0)%4294967296=_;unfold word at hwa;omega
  rw [hx] at e2;obtain ⟨R',M',e,r⟩:=r1.fin hA hB hd h19 hwa hwr (e1.trans e2) hc.right.right;refine ⟨R',M',?_,r,rfl,rfl⟩;simp only [List.length_append,List.length_cons,List.length_nil, ← Nat.add_assoc] at e⊢;exact e
 rw [if_neg c2] at hc⊢;have hb:=ho.b (zpn zO) (zpo zO);have hwb:=zop h.vars o.b;have hbin:zrf o.code=true:=(by unfold zrf;rw [decide_eq_true_eq];omega);have hwx:word (yaq o.code (getV vs o.a) (getV vs o.b)):=yar hwa hwb;rw [zbs hbin];by_cases c12:o.code=12
 ·rw [if_pos c12] at hc⊢
  obtain ⟨R2,e2,r2,va,vb⟩:=h.read2 hA hB ha hb hc;have hc2:=hc.right.right;have e3:=zli (R:=R2) (M:=M) hB hc2.left zO (fun h=>by omega);have hx3:yaq (zzu 1) (R2 0) (R2 0)=0:=(by rw [r2.zero];rfl);rw [hx3] at e3;have r3:=r2.upd hA (d:=12) (x:=0) zO yap
  have rb3:updR R2 12 0 (rrE E o.b 11)=getV vs o.b:=by
   rw [z87 (by unfold rrE regE;split;split<;>omega;omega),vb]
  have ra3:updR R2 12 0 (rrE E o.a 10)=getV vs o.a:=(by rw [z87 (z16 _ zO),va]);have e4:=zk8 (R:=updR R2 12 0) (M:=M) hB (e:=2) hc2.left.tail (.inl rfl) (by have:=hc2.left.tail.1;simp at this;omega);rw [rb3,r3.zero] at e4
  have key:∃ R5,Ex F B (k+(rdE E o.a 10).length+(rdE E o.b 11).length) R2 M (k+(rdE E o.a 10).length+(rdE E o.b 11).length+3) R5 M 3∧RelE E G n p W vs g M1 R5 M∧R5 12=yaq o.code (getV vs o.a) (getV vs o.b):=by
   by_cases hz:getV vs o.b=0
   ·rw [hz,if_pos (by rfl)] at e4
    refine ⟨_,(e3.trans e4).mono zO,r3,?_⟩;rw [z86 zO,c12,hz];rfl
   ·rw [if_neg (by show ¬brE 32 (getV vs o.b) 0=true;unfold brE;simp [hz])] at e4
    have e5:=zli (R:=updR R2 12 0) (M:=M) hB hc2.left.tail.tail zO (fun _=>by rw [rb3];exact hz);rw [ra3,rb3] at e5;refine ⟨_,(e3.trans e4).trans e5,r3.upd hA zO ?_,?_⟩
    ·exact yar hwa hwb
    ·rw [z86 zO,c12];rfl
  obtain ⟨R5,e5,r5,v5⟩:=key;have e6:=zli (R:=R5) (M:=M) hB hc2.left.tail.tail.tail zO (fun h=>by omega)
  have hx:yaq (zzu 1) (R5 12) (R5 0)=yaq o.code (getV vs o.a) (getV vs o.b):=by
   rw [v5,r5.zero];show (yaq o.code (getV vs o.a) (getV vs o.b)+0)%4294967296=_;unfold word at hwx;omega
  rw [hx] at e6;obtain ⟨R',M',e,r⟩:=r5.fin hA hB hd h19 hwx hwr ((e2.trans e5).trans e6) hc2.right;refine ⟨R',M',?_,r,rfl,rfl⟩;simp only [List.length_append,List.length_cons,List.length_nil, ← Nat.add_assoc] at e⊢;exact e
 rw [if_neg c12] at hc⊢;by_cases c13:o.code=13
 ·rw [if_pos c13] at hc⊢
  obtain ⟨R2,e2,r2,va,vb⟩:=h.read2 hA hB ha hb hc;have hc2:=hc.right.right;have e3:=zli (R:=R2) (M:=M) hB hc2.left zO (fun h=>by omega);rw [va,vb] at e3;have hxw:word (xorI (getV vs o.a) (getV vs o.b)):=yar (c:=7) hwa hwb;have r3:=r2.upd hA (d:=12) (x:=xorI (getV vs o.a) (getV vs o.b)) zO hxw;have e4:=zk7 (R:=updR R2 12 (xorI (getV vs o.a) (getV vs o.b))) (M:=M) hB hc2.left.tail;rw [r3.zero] at e4;have r4:=r3.upd hA (d:=13) (x:=1) zO word1;have e5:=zli (R:=updR (updR R2 12 (xorI (getV vs o.a) (getV vs o.b))) 13 1) (M:=M) hB hc2.left.tail.tail zO (fun h=>by omega)
  have hx:yaq (zzu 11) (updR (updR R2 12 (xorI (getV vs o.a) (getV vs o.b))) 13 1 12) (updR (updR R2 12 (xorI (getV vs o.a) (getV vs o.b))) 13 1 13)=yaq o.code (getV vs o.a) (getV vs o.b):=by
   rw [z87 zO,z86 zO,z86 zO,c13];show bitI (decide (xorI (getV vs o.a) (getV vs o.b)<1))=bitI (decide (getV vs o.a=getV vs o.b));rw [decide_eq_decide.2 (ybm hwa hwb)]
  rw [hx] at e5;obtain ⟨R',M',e,r⟩:=r4.fin hA hB hd h19 hwx hwr (((e2.trans e3).trans e4).trans e5) hc2.right;refine ⟨R',M',?_,r,rfl,rfl⟩;simp only [List.length_append,List.length_cons,List.length_nil, ← Nat.add_assoc] at e⊢;exact e
 rw [if_neg c13,if_pos zO] at hc⊢;obtain ⟨R2,e2,r2,va,vb⟩:=h.read2 hA hB ha hb hc;have hc2:=hc.right.right
 have hq:1≤qopE o.code∧qopE o.code≤12∧qopE o.code≠10∧zzu (qopE o.code)=o.code:=by
  rcases (by omega:o.code=3∨o.code=4∨o.code=5∨o.code=6∨o.code=7∨o.code=8∨o.code=9∨o.code=10∨o.code=11∨o.code=14∨o.code=15) with e|e|e|e|e|e|e|e|e|e|e<;>rw [e]<;>decide
 have e3:=zli (R:=R2) (M:=M) hB hc2.left ⟨hq.1,hq.2.1⟩ (fun h=>absurd h hq.2.2.1);rw [va,vb,hq.2.2.2] at e3;obtain ⟨R',M',e,r⟩:=r2.fin hA hB hd h19 hwx hwr (e2.trans e3) hc2.right;refine ⟨R',M',?_,r,rfl,rfl⟩;simp only [List.length_append,List.length_cons,List.length_nil, ← Nat.add_assoc] at e⊢;exact e
end
theorem z1i (w:World):Calls Tryz.prog 59 #[] w fun e w'=>e= .returned (intV 9)∧Below w.heap.size w w':=by
 refine zfh [] Tryz.func59 Tryz.ntmps59 rfl zS ?_
 refine z3m ?_
 conv=>whnf
 refine zcg ?_
 conv=>whnf
 exact zmp rfl fun w2 hB=>⟨rfl,hB⟩
theorem z56 {w:World} {G:Gs} {pb:Nat} {us:List Value} (h:zao w G (some ⟨pb,0,none⟩) us) {k:Nat} {x:Value} (hx:us[k]?=some x):zac w G pb k [x]:=by
 obtain ⟨b,off,e,h1,h2,h3⟩:=h k x hx;injection e with e;injection e with e1 e2;subst e1;subst e2;rw [Nat.zero_add] at h3;exact zfu h1 h2 h3
theorem zlj (o:BOp) (w:World) (b pb:Nat) (s:SiteP) (ho:zao w ⟨[b],[]⟩ (some ⟨pb,0,none⟩) (opC o)) (hb:w.heap[b]?=some (.cells (z5k s).toArray siT (0,0))):
  Calls Tryz.prog 172 #[pV b,pV pb] w fun e w'=>e= .returned (.tuple #[])∧w'.heap[b]?=some (.cells (z5k {s with target:=o.n}).toArray siT (0,0))∧w.grownBy w' (some b):=by
 refine zfg [pV pb] Tryz.func172 Tryz.ntmps172 rfl zS hb ?_
 refine z3m ?_
 conv=>whnf
 refine ⟨.int .u32 o.n,z56 ho (k:=0+4) rfl,?_⟩
 conv=>whnf
 refine zb5 ?_
 conv=>whnf
 exact zmo (us:=z5k {s with target:=o.n}) rfl rfl fun w' h1 h2=>⟨rfl,h1,h2⟩
theorem zln (n:Int) (w:World) (b pb:Nat) (s:SiteP) (ho:zao w ⟨[b],[]⟩ (some ⟨pb,0,none⟩) [.int .i64 n]) (hb:w.heap[b]?=some (.cells (z5k s).toArray siT (0,0))):
  Calls Tryz.prog 173 #[pV b,pV pb] w fun e w'=>e= .returned (.tuple #[])∧w'.heap[b]?=some (.cells (z5k {s with const:=n}).toArray siT (0,0))∧w.grownBy w' (some b):=by
 refine zfg [pV pb] Tryz.func173 Tryz.ntmps173 rfl zS hb ?_
 refine z3m ?_
 conv=>whnf
 refine ⟨.int .i64 n,z56 ho (k:=0) rfl,?_⟩
 conv=>whnf
 refine zb5 ?_
 conv=>whnf
 exact zmo (us:=z5k {s with const:=n}) rfl rfl fun w' h1 h2=>⟨rfl,h1,h2⟩
section
variable {w:World} {g:Nat} {vC vS:Value} {X:EmX}
structure EmOk (E:Em) (k:Int) (X:EmX):Prop where
 a:E.a=X.a
 size:E.size=X.size
 live:E.live=X.live
 written:(E.written:Int)=X.written
 index:X.index=k
 al:∀ v,0≤v→v<28→ -1000≤getV X.a v∧getV X.a v≤1000
theorem EmOk.app {E:Em} {k:Int} (h:EmOk E k X) (l:List It):EmOk E k (X.app l):=⟨h.a,h.size,h.live,h.written,h.index,h.al⟩
theorem zbq (X:EmX) (s:Sk):X.app [zq1 s]={{X with sites:=X.sites++[z5l X.code.length s]} with code:=X.code++[⟨48,0,0,0,0⟩]}:=by
 unfold EmX.app zq1 z5q z5q;simp
theorem zbp (X:EmX) (i:QI) (s:Sk):X.app [⟨i,some s⟩]={{X with sites:=X.sites++[z5l X.code.length s]} with code:=X.code++[i]}:=by
 unfold EmX.app z5q z5q;simp
theorem z5i {E:Em} {k:Int} (h:EmOk E k X) {kind:Int} (hk:kind=2∨kind=3):z5h X kind=z5l X.code.length (skIn E kind k):=by
 unfold z5h z5l skIn;rw [if_pos hk,if_pos hk,h.index,h.live]
 rfl
theorem z5j {kind:Int} (hk:¬(kind=2∨kind=3)):z5h X kind=z5l X.code.length ⟨kind,0,0,0,0⟩:=by
 unfold z5h z5l;rw [if_neg hk,if_neg hk]
 rfl
theorem z7f (h:EmAt w g vC vS X) (kind:Int) (hk:1≤kind∧kind≤6) (hlen:X.code.length≤100000000) (hlens:X.sites.length≤100000000) (s:Sk) (hs:z5h X kind=z5l X.code.length s):
  Calls Tryz.prog 117 #[pV g,.int .i64 kind,.nilFunc] w fun e w'=>e= .returned (.tuple #[])∧EmTo w w' g vC vS (X.app [zq1 s]):=by
 refine zfh [pV g,.int .i64 kind,.nilFunc] Tryz.func117 Tryz.ntmps117 rfl zS ?_;refine z25 ?_;refine z26 3 rfl rfl rfl ?_;(conv=>whnf);refine zsd (.tuple #[]) (EmTo.refl h (Below.refl _ _)) (us:=[.int .i64 kind,.nilFunc]) rfl zK (fun w1 vC1 vS1 k1=>z5p k1 kind hk hlen hlens) fun w1 hl=>?_;(conv=>whnf);refine zcd ?_;obtain ⟨vC1,vS1,k1,k2⟩:=hl.now;refine z26 3 rfl rfl rfl ?_;(conv=>whnf);refine zse k1 [⟨48,0,0,0,0⟩] 0 1 rfl rfl (by show X.code.length+1≤_;omega) fun w2 hl2=>?_;(conv=>whnf);refine zb5 ?_;(conv=>whnf)
 exact zmp rfl fun w3 hB=>⟨rfl,by rw [zbq, ← hs];exact (k2 _ _ hl2).later hB⟩
theorem z7d (h:EmAt w g vC vS X) (kind:Int) (hk:kind=4∨kind=6) (fid pb:Nat) (us:List Value) (post:SiteP→SiteP) (hok:fnOk Tryz.prog fid=true) (hold:zao w (emGs g vC vS) (some ⟨pb,0,none⟩) us) (hcl:∀ w1 b s,zao w1 ⟨[b],[]⟩ (some ⟨pb,0,none⟩) us→w1.heap[b]?=some (.cells (z5k s).toArray siT (0,0))→Calls Tryz.prog fid #[pV b,pV pb] w1 fun e w'=>e= .returned (.tuple #[])∧w'.heap[b]?=some (.cells (z5k (post s)).toArray siT (0,0))∧w1.grownBy w' (some b)) (hlen:X.code.length≤100000000) (hlens:X.sites.length≤100000000) (s:Sk) (hs:post (z5h X kind)=z5l X.code.length s):
  Calls Tryz.prog 117 #[pV g,.int .i64 kind,.func (.func fid) #[] #[pV pb]] w fun e w'=>e= .returned (.tuple #[])∧EmTo w w' g vC vS (X.app [zq1 s]):=by
 refine zfh [pV g,.int .i64 kind,.func (.func fid) #[] #[pV pb]] Tryz.func117 Tryz.ntmps117 rfl zS ?_;refine z25 ?_;refine z26 3 rfl rfl rfl ?_;(conv=>whnf);refine ⟨by kernel_rfl,fun r w1 us' hR hd=>?_⟩;obtain rfl:=zcs (xs:=[pV g,.int .i64 kind,.func (.func fid) #[] #[pV pb]]) rfl hd;have hB:=hR.toBelow
 refine (z5o (h.later hB) kind hk fid pb us post hok (fun j u hj=>by
  obtain ⟨b,off,e1,e2,e3,e4⟩:=hold j u hj
  exact ⟨b,off,e1,Nat.lt_of_lt_of_le e2 hB.size,e3,(World.cell?_of_block (w:=w) (a:=⟨b,off+j,none⟩) (hB.block b e2)).trans e4⟩) hcl hlen hlens).mono fun e w2 ⟨he,hl0⟩=>⟨_,he,?_⟩
 have hl:=hl0.early hB;(conv=>whnf);refine zcd ?_;obtain ⟨vC1,vS1,k1,k2⟩:=hl.now;refine z26 3 rfl rfl rfl ?_;(conv=>whnf);refine zse k1 [⟨48,0,0,0,0⟩] 0 1 rfl rfl (by show X.code.length+1≤_;omega) fun w2 hl2=>?_;(conv=>whnf);refine zb5 ?_;(conv=>whnf)
 exact zmp rfl fun w3 hB=>⟨rfl,by rw [zbq, ← hs];exact (k2 _ _ hl2).later hB⟩
end
def z8d (a:List Int):Nat→Option Nat
 |0=>some 0
 |j+1=>(z8d a j).bind fun m=>if getV a (j:Int)< -1∨9≤getV a (j:Int)∨((j:Int)=19∧getV a (j:Int)≠ -1) then none else if 0≤getV a (j:Int) then (if m.testBit (getV a (j:Int)).toNat=true then none else some (m|||2^(getV a (j:Int)).toNat)) else some m
def za2 (a:List Int):Bool:=(z8d a 28).isSome
theorem z8e (a:List Int) (j:Nat) (hj:j≤28) (h:z8d a j=none):za2 a=false:=by
 have key:∀ d,z8d a (j+d)=none:=fun d=>by
  induction d with
  |zero=>exact h
  |succ d ih=>show (z8d a (j+d)).bind _=none;rw [ih];rfl
 unfold za2;rw [show 28=j+(28-j) by omega,key]
 rfl
abbrev takL (m:Nat):List Value:=(List.range 28).map fun k=> .bool (m.testBit k)
theorem z8f (m k:Nat) (hk:k<28):(List.map CV.v (takL m))[k]?=some (.v (.bool (m.testBit k))):=by
 simp [takL,hk]
theorem z8h (m k:Nat) (hk:k<28):(takL m).set k (.bool true)=takL (m|||2^k):=by
 refine List.ext_getElem? fun i=>?_;rw [List.getElem?_set];unfold takL;by_cases hik:k=i
 ·subst hik
  simp [hk,Nat.testBit_or]
 ·rw [if_neg hik]
  by_cases hi:i<28
  ·simp [hi,Nat.testBit_or,Nat.testBit_two_pow,hik]
  ·simp [hi]
theorem tak0:takL 0=List.replicate 28 (.bool false):=by
 unfold takL;simp only [Nat.zero_testBit,List.map_const',List.length_range]
theorem z9w (a:List Int) (ha:a.length=28) (w:World):Calls Tryz.prog 67 #[.agg (alL a).toArray,.int .i64 9] w fun e w'=>e= .returned (.bool (za2 a))∧Below w.heap.size w w':=by
 have hgv:∀ k:Nat,k<28→a[k]?=some (getV a (k:Int)):=fun k hk=>by
  unfold getV;rw [Int.toNat_natCast,List.getElem?_eq_getElem zO];rfl
 obtain ⟨x0,x1,x2,x3,x4,x5,x6,x7,x8,x9,x10,x11,x12,x13,x14,x15,x16,x17,x18,x19,x20,x21,x22,x23,x24,x25,x26,x27,hal⟩:=zs9 ha;have hL:alL a=alL [x0,x1,x2,x3,x4,x5,x6,x7,x8,x9,x10,x11,x12,x13,x14,x15,x16,x17,x18,x19,x20,x21,x22,x23,x24,x25,x26,x27]:=(by rw [hal]);rw [hL];refine zfh [.agg (alL [x0,x1,x2,x3,x4,x5,x6,x7,x8,x9,x10,x11,x12,x13,x14,x15,x16,x17,x18,x19,x20,x21,x22,x23,x24,x25,x26,x27]).toArray,.int .i64 9] Tryz.func67 Tryz.ntmps67 rfl zS ?_;refine z3i ?_;(conv=>whnf);refine z25 ?_;refine z3i ?_;refine z2v mixed zK ?_;(conv=>whnf);refine zz3 rfl zK (fun r w' hR=>zvr w') ?_;(conv=>whnf);refine zz6 [x0,x1,x2,x3,x4,x5,x6,x7,x8,x9,x10,x11,x12,x13,x14,x15,x16,x17,x18,x19,x20,x21,x22,x23,x24,x25,x26,x27] zvk rfl rfl rfl rfl rfl ?_;(conv=>whnf);refine z23 rfl (fun hc=>?_) (fun hc=>z3j (zcd ?_))
 ·have hc:a=zvk:=hal.trans (of_decide_eq_true hc)
  refine z3i ?_;(conv=>whnf);refine z3m ?_;(conv=>whnf);refine zcl (zcg ?_);(conv=>whnf)
  exact zmp rfl fun w2 hB=>⟨by rw [hc];rfl,hB⟩
 refine z3i ?_
 conv=>whnf
 refine z3i ?_
 conv=>whnf
 refine z3c (α:={m:Nat//z8d a 28=some m}) (fun _=>[(4,one (.bool false)),(6,.p (.c (.sl 2 0 0 0)))]) (fun y=>[.cells alT ((alL a).map .v),.cells 202 ((takL y.1).map .v),.cells 3 []]) ?_ fun y=>?_
 ·refine z3i ?_
  (conv=>whnf);refine z21 ?_;refine z29 (α:={x:Nat×Nat//x.1≤28∧z8d a x.1=some x.2}) (fun x=>[(1,one (.int .i64 9)),(4,one (.bool false)),(5,.p (.c (.ref 1 0))),(6,.p (.c (.sl 2 0 0 0))),(13,.p (.agg ((alL a).map .v))),(14,one (.int .i64 (x.1.1:Int)))]) (fun x=>[.cells alT ((alL a).map .v),.cells 202 ((takL x.1.2).map .v),.cells 3 []]) (fun x=>28-x.1.1) ⟨(0,0),by omega,rfl⟩ (zkb rfl (aI rfl (aI rfl (aI rfl (aI rfl (aI ((by rw [hal];rfl)) (aI rfl trivial)))))) (aI ((aI rfl (Or.inl (by rw [hal])))) (aI ((aI rfl (Or.inl (by show _=List.map CV.v (takL 0);rw [tak0];rfl)))) (aI sM trivial)))) (fun x=>?_);obtain ⟨⟨j,m⟩,hj,hm⟩:=x;dsimp only at hj hm⊢;refine z3i ?_;(conv=>whnf);refine z3i ?_;(conv=>whnf);refine ⟨fun hc=>?_,fun hc=>?_⟩
  ·have hlt:j<28:=by simp at hc;omega
   (conv=>whnf);refine z3c (α:={m:Nat//z8d a (j+1)=some m}) (fun _=>[(1,one (.int .i64 9)),(4,one (.bool false)),(5,.p (.c (.ref 1 0))),(6,.p (.c (.sl 2 0 0 0))),(13,.p (.agg ((alL a).map .v))),(14,one (.int .i64 (j:Int)))]) (fun y=>[.cells alT ((alL a).map .v),.cells 202 ((takL y.1).map .v),.cells 3 []]) ?_ fun y=>?_
   ·refine z21 ?_
    refine z3i ?_;(conv=>whnf)
    (refine ⟨⟨by omega,by omega⟩,?_⟩;(conv=>whnf))
    rw [show (List.map CV.v (alL a))[((j:Nat):Int).toNat*tsz Tryz.prog 3]?=some (.v (.int .i64 (getV a (j:Int)))) by show (List.map CV.v (alL a))[j*1]?=_;rw [Nat.mul_one,List.getElem?_map,List.getElem?_map,hgv j hlt];rfl];(conv=>whnf);generalize hr:getV a (j:Int)=r;refine z21 ?_;refine z3c (α:=Unit) (fun _=>[(8,one (.int .i64 r)),(18,one (.bool (decide (r< -1∨9≤r∨((j:Int)=19∧r≠ -1))))),(1,one (.int .i64 9)),(4,one (.bool false)),(5,.p (.c (.ref 1 0))),(6,.p (.c (.sl 2 0 0 0))),(13,.p (.agg ((alL a).map .v))),(14,one (.int .i64 (j:Int)))]) (fun _=>[.cells alT ((alL a).map .v),.cells 202 ((takL m).map .v),.cells 3 []]) ?_ fun _=>?_
    ·refine z3m ?_
     (conv=>whnf);refine ⟨fun h1=>?_,fun h1=>?_⟩
     ·have h1:¬r< -1:=of_decide_eq_false h1
      refine kB ?_;refine zww rfl rfl rfl rfl ?_;refine kB ?_;refine ⟨fun h2=>?_,fun h2=>?_⟩
      ·have h2:¬9≤r:=of_decide_eq_false h2
       refine kB ?_;refine ⟨fun h3=>?_,fun h3=>?_⟩
       ·have h3:(j:Int)=19:=by simpa using h3
        refine kB ?_;rw [show decide (r< -1∨9≤r∨((j:Int)=19∧r≠ -1))=(r != -1) from Bool.eq_iff_iff.2 (by simp only [decide_eq_true_eq,bne_iff_ne];omega)];exact zb8 () (zkb rfl Tn Tn)
       ·have h3:¬(j:Int)=19:=by simpa using h3
        refine kB ?_;rw [show decide (r< -1∨9≤r∨((j:Int)=19∧r≠ -1))=false from decide_eq_false zO];exact zb8 () (zkb rfl Tn Tn)
      ·have h2:9≤r:=of_decide_eq_true h2
       refine kB ?_;rw [show decide (r< -1∨9≤r∨((j:Int)=19∧r≠ -1))=true from decide_eq_true (.inr (.inl h2))];exact zb8 () (zkb rfl Tn Tn)
     ·have h1:r< -1:=of_decide_eq_true h1
      refine kB ?_;rw [show decide (r< -1∨9≤r∨((j:Int)=19∧r≠ -1))=true from decide_eq_true (.inl h1)];exact zb8 () (zkb rfl Tn Tn)
    ·refine z23 rfl (fun hb=>?_) (fun hb=>?_)
     ·have hb:(r< -1∨9≤r∨((j:Int)=19∧r≠ -1)):=of_decide_eq_true hb
      refine z3i ?_;(conv=>whnf);refine z3m ?_;(conv=>whnf);have hnone:za2 a=false:=z8e a (j+1) zO (by show (z8d a j).bind _=none;rw [hm];show (if _ then _ else _)=_;rw [if_pos (by rw [hr];exact hb)]);refine zco (zcg ?_) fun a w hq=>hq;(conv=>whnf)
      exact zmp rfl fun w2 hB=>⟨by rw [hnone],hB⟩
     ·have hb:¬(r< -1∨9≤r∨((j:Int)=19∧r≠ -1)):=of_decide_eq_false hb
      refine z3i ?_;(conv=>whnf);refine z23 rfl (fun h=>absurd (of_decide_eq_true h) zO) (fun _=>?_);refine z3i ?_;(conv=>whnf);refine z23 rfl (fun h0=>?_) (fun h0=>?_)
      ·have h0:0≤r:=of_decide_eq_true h0
       refine z25 ?_;refine z3i ?_;(conv=>whnf)
       (refine ⟨⟨by omega,by omega⟩,?_⟩;(conv=>whnf))
       have hr28:r.toNat<28:=(by omega);rw [show (List.map CV.v (takL m))[0+r.toNat*tsz Tryz.prog 4]?=some (.v (.bool (m.testBit r.toNat))) by show (List.map CV.v (takL m))[0+r.toNat*1]?=_;rw [Nat.zero_add,Nat.mul_one];exact z8f m _ hr28];(conv=>whnf);refine z23 rfl (fun ht=>?_) (fun ht=>z3j (zcd ?_))
       ·have hnone:za2 a=false:=z8e a (j+1) zO (by show (z8d a j).bind _=none;rw [hm];show (if _ then _ else _)=_;rw [if_neg (by rw [hr];exact hb),if_pos (by rw [hr];exact h0),if_pos (by rw [hr];exact ht)])
        refine z3i ?_;(conv=>whnf);refine z3m ?_;(conv=>whnf);refine zco (zcg ?_) fun a w hq=>hq;(conv=>whnf)
        exact zmp rfl fun w2 hB=>⟨by rw [hnone],hB⟩
       ·have hnext:z8d a (j+1)=some (m|||2^r.toNat):=by
         show (z8d a j).bind _=_;rw [hm];show (if _ then _ else _)=_;rw [if_neg (by rw [hr];exact hb),if_pos (by rw [hr];exact h0),if_neg (by rw [hr,show m.testBit r.toNat=false from ht];decide),hr]
        refine z3m ?_;(conv=>whnf)
        (refine ⟨⟨by omega,by omega⟩,?_⟩;(conv=>whnf))
        have hlen:(List.map CV.v (takL m)).length=28:=(by rw [List.length_map,List.length_map,List.length_range]);rw [show Nat.ble (0+r.toNat*tsz Tryz.prog 4+[CV.v (Value.bool true)].length) (List.map CV.v (takL m)).length=true from Nat.ble_eq_true_of_le (by rw [hlen];show 0+r.toNat*1+1≤28;omega)];(conv=>whnf)
        have hset:z3z (List.map CV.v (takL m)) (0+r.toNat*tsz Tryz.prog 4) [CV.v (Value.bool true)]=List.map CV.v (takL (m|||2^r.toNat)):=by
         rw [z4h, ← z8h m _ hr28];show List.map CV.v ((takL m).set (0+r.toNat*1) _)=_;rw [Nat.zero_add,Nat.mul_one]
        exact zb4 (zb4 (zb8 ⟨m|||2^r.toNat,hnext⟩ (zkb rfl Tn (aI sM (aI ((aI rfl (Or.inl hset))) (aI sM trivial))))))
      ·have h0:¬0≤r:=of_decide_eq_false h0
       have hnext:z8d a (j+1)=some m:=by
        show (z8d a j).bind _=_;rw [hm];show (if _ then _ else _)=_;rw [if_neg (by rw [hr];exact hb),if_neg (by rw [hr];exact h0)]
       exact z3j (zb4 (zb4 (zb8 ⟨m,hnext⟩ (zkb rfl Tn Tn))))
   ·refine z3m ?_
    (conv=>whnf);refine ⟨((j+1:Nat):Int),by rw [show (j:Int)+1=((j+1:Nat):Int) by omega];exact wr64 zO,?_⟩;(conv=>whnf);exact zcb ⟨(j+1,y.1),by omega,y.2⟩ (zkb rfl Tn Tn) (by show 28-(j+1)<28-j;omega)
  ·conv=>whnf
   have:j=28:=(by simp at hc;omega);subst this;refine zce (zb6 (zb8 ⟨m,hm⟩ (zkb rfl Tn Tn)))
 refine z3f fun r w1 hR=>?_;obtain ⟨q,us,e1,e2,e3⟩:=hR.own 2 _ rfl;obtain rfl:=ziw (us:=[]) e3;have hB1:=hR.toBelow;refine ⟨z6d [(6,.slice (some ⟨q,0,none⟩) 0 0)],fun a' hf=>z6m ⟨?_,trivial⟩,?_⟩
 ·have h6:=hf 6
  obtain ⟨b,hb,hu⟩:=zi5 (show AV.den r (.p (.c (.sl 2 0 0 0))) _ from h6);rw [e1] at hb;injection hb with hb;rw [hu,hb]
 have hqn:w.heap.size≤q:=zoi hR e1;have hz1:=hB1.size;have hav:za2 a=true:=(by unfold za2;rw [y.2];rfl);clear hR e3 e1;refine z25 (z3h [q] (fun w2=>w2.heap[q]?=some (.cells #[] 3 (0,0))) (fun w2 hB=>(hB.block q (zpz e2)).trans e2) ?_);(conv=>whnf);refine .one zK (.tuple #[]) (fun w2=>w2.heap[q]?=some (.cells #[] 3 (0,0))) (fun w2 us hh hj hd=>?_) ?_
 ·obtain rfl:=zcs (xs:=[.slice (some ⟨q,0,none⟩) 0 0]) rfl hd
  refine (z6o w2 q hj).mono fun e w3 ⟨h1,h2,h3⟩=>⟨h1,?_,h2⟩
  exact zp7 hh (gs1:=[q]) ⟨h3.os,h3.tape,h3.output,h3.size,fun k hk hn=>h3.block k hk fun he=>hn (.inr (by injection he with he;rw [he];exact List.mem_singleton.2 rfl))⟩ fun b hb=> .inl hb
 (conv=>whnf);intro w2 hh hj;refine zcd ?_;refine z25 (z3h [] (fun _=>True) (fun _ _=>trivial) ?_);(conv=>whnf);refine .prop zK (fun v=>∃ A c,v= .slice A 0 c) (fun v w3=>w3.ownsRow w2.heap.size 3 1 v 0 []) (fun w3 us hh2 hj2 hd=>?_) ?_
 ·obtain rfl:=zcs (xs:=[.slice (some ⟨q,0,none⟩) 0 0]) rfl hd
  refine (zgn w3 q).mono fun e w4 ⟨v',k1,k2,k3⟩=>⟨v',k1,z13 k2,?_,?_⟩
  ·exact zp7 hh2 (gs1:=[]) (zp2 k3) nofun
  ·exact ⟨k2.1,k2.2.imp id fun ⟨g,cap,cur,f1,f2,f3⟩=>⟨g,cap,cur,f1,Nat.le_trans hh2.size f2,f3⟩⟩
 rintro v ⟨A,c,rfl⟩
 conv=>whnf
 refine .prop zK (fun v=>∃ A c,v= .slice A 0 c) (fun _ _=>True) (fun w3 us hh2 hj2 hd=>?_) ?_
 ·obtain rfl:=zcs (xs:=[.slice A 0 c]) rfl hd
  refine (zgx w3 (.slice A 0 c) ⟨hj2.1,hj2.2.imp id fun ⟨g,cap,cur,f1,f2,f3⟩=>⟨g,cap,cur,f1,Nat.zero_le _,f3⟩⟩).mono fun e w4 ⟨A',c',k1,k2⟩=>⟨_,k1,⟨A',c',rfl⟩,?_,trivial⟩
  refine ⟨k2.os.trans hh2.os,k2.tape.trans hh2.tape,k2.output.trans hh2.output,Nat.le_trans hh2.size k2.size,fun b hb hn=>?_⟩;refine (k2.block b (Nat.lt_of_lt_of_le hb hh2.size) fun he=>?_).trans (hh2.old b hb hn);have:=(zxy hj2 b he.symm).1;omega
 rintro v ⟨A',c',rfl⟩;(conv=>whnf);intro w3 hh3 _;refine zcd ?_;refine z3m ?_;(conv=>whnf);refine zcg ?_;(conv=>whnf);have hz2:=hh.size;have hz3:=hh3.size
 refine zmp rfl fun w4 hB=>⟨by rw [hav];rfl,⟨hB.os.trans (hh3.os.trans (hh.os.trans hB1.os)),hB.tape.trans (hh3.tape.trans (hh.tape.trans hB1.tape)),hB.output.trans (hh3.output.trans (hh.output.trans hB1.output)),Nat.le_trans hz1 (Nat.le_trans hz2 (Nat.le_trans hz3 hB.size)),fun k hk=>?_⟩⟩
 exact (hB.block k zO).trans ((zp0 hh3 zO zS).trans ((zp0 hh zO zV).trans (hB1.block k hk)))
end Go.Proofs.YtocafomnnkmjfaaGreat
