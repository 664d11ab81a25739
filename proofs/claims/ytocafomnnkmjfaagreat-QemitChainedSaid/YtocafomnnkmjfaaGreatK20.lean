import Derived.Lib.SlicesCompact
import Derived.Shelf.Sort.Plain
import Derived.Shelf.Slices.CompactI
import Derived.Shelf.Slices.In.SortNone
import Derived.Sort.OwnSortedInts
import Derived.Lib.OwnBridge
import Derived.Test.YtocafomnnkmjfaaGreatK18
set_option maxRecDepth 100000
set_option maxHeartbeats 8000000
namespace Go.Proofs.YtocafomnnkmjfaaGreat
open Go.RowKit
def z0q (P:Program) (w0:World) (G:Gs) (N:Nd) (ops:Array Oper) (S:List Ow):List Oper→Fr→(Fr→Prop)→Prop
 |[],f,K=>K f
 |o::rest,f,K=>(match zjc N.n o.dst with
  |false=>False
  |true=>(match o.guard with
   |none=>z0j P w0 G S f o fun v=>f.putK o.dst v fun f'=>z0q P w0 G N ops S rest f' K
   |some (j,pol)=>(match z6e ops j with
    |none=>False
    |some d=>(match f.get d with
     | .p (.c (.v (.bool x)))=>(x=pol→z0j P w0 G S ((d,one (.bool pol))::f) o fun v=>Fr.putK ((d,one (.bool pol))::f) o.dst v fun f'=>z0q P w0 G N ops S rest f' K)∧
       (x=(!pol)→Fr.putK ((d,one (.bool (!pol)))::f) o.dst (one undef) fun f'=>z0q P w0 G N ops S rest f' K)
     | .p (.c (.v (.tuple _)))=>f.putK o.dst (one undef) fun f'=>z0q P w0 G N ops S rest f' K
     |_=>False))))
section
variable {P:Program} {w0:World} {G:Gs} {N:Nd} {ops:Array Oper} {S:List Ow} {r:Env} {w1:World}
theorem z0r (hR:Rel w0 G S r w1) {Q:Act→Prop}:∀ (l:List Oper) (f:Fr) (K:Fr→Prop),z0q P w0 G N ops S l f K→(∀ f' a',K f'→FDen r f' a'→a'.tmps.size=N.n→a'.defers=N.ds→Q a')→
  ∀ a,FDen r f a→a.tmps.size=N.n→a.defers=N.ds→wpQuiet P ops (fun w'=>Below w1.heap.size w1 w') Q l a
 |[],f,K,h,hK,a,hf,hN,hd=>hK f a h hf hN hd
 |o::l,f,K,h,hK,a,hf,hN,hd=>by
  unfold z0q at h
  have run:∀ {f:Fr},FDen r f a→zjc N.n o.dst=true→Region.wanted o (yielded ops a.tmps)=true→(z0j P w0 G S f o fun v=>f.putK o.dst v fun f'=>z0q P w0 G N ops S l f' K)→wpQuiet P ops (fun w'=>Below w1.heap.size w1 w') Q (o::l) a:=by
   intro f hf hdst hw h;obtain ⟨v,u,hKv,hv,hrun⟩:=z0k hR h hf;unfold wpQuiet;rw [if_pos hw];exact ⟨u,hrun,z0r hR l _ K (zy5.1 hKv) hK _ (hf.put hv (by rw [hN];exact hdst)) ((zzh a _ _).trans hN) ((zze a _ _).trans hd)⟩
  split at h
  ·exact h.elim
  ·rename_i hdst
   split at h
   ·rename_i hg
    exact run hf hdst (yad hg _) h
   ·rename_i j pol hg
    split at h
    ·exact h.elim
    ·rename_i d hs
     split at h
     ·rename_i x hfx
      have hk:∀ y,x=y→FDen r ((d,one (.bool y))::f) a:=fun y hy k=>by
       simp only [Fr.get]
       split
       ·rename_i hdk;have:=Nat.eq_of_beq_eq_true hdk;subst this;rw [← hy, ← show f.get d=one (.bool x) from hfx];exact hf d
       ·exact hf k
      have hyl:=ybn hf hs hfx;by_cases hx:x=pol
      ·exact run (hk _ hx) hdst (by rw [yae hg,hyl,hx];simp) (h.1 hx)
      ·have hx':x= !pol:=by cases x<;>cases pol<;>simp_all
       unfold wpQuiet;rw [if_neg (by rw [yae hg,hyl];simpa using hx)];exact z0r hR l _ K (zy5.1 (h.2 hx')) hK _ ((hk _ hx').put (zi3 _ undef) (by rw [hN];exact hdst)) ((zzh a _ _).trans hN) ((zze a _ _).trans hd)
     ·rename_i vs hfx
      have hgu:zo6 ops f o=some false:=(by unfold zo6;rw [hg];dsimp only;rw [hs];dsimp only;rw [hfx]);have hw:=zo7 hf hgu;unfold wpQuiet;rw [if_neg (by rw [hw];simp)];exact z0r hR l _ K (zy5.1 h) hK _ (hf.put (zi3 _ undef) (by rw [hN];exact hdst)) ((zzh a _ _).trans hN) ((zze a _ _).trans hd)
     ·exact h.elim
theorem z2w {id:Nat} {l:List Oper} {f:Fr} {K:Exit→Fr→List Ow→Prop} (hm:P.follows .mixedOrders=true) (hB:Region.lexB .any l.toArray=true)
  (h:z0q P w0 G N l.toArray S l f fun f'=>K .normal f' S):Sat none P w0 G N (.region id l.toArray true) f S K:=by
 refine ⟨fun n' a w ⟨r,hR,hf,hN,hd⟩=>wpIn_wide.2 ?_⟩;refine wp_region_quiet (C:=fun w'=>Below w.drew.heap.size w.drew w') hm hB (Below.refl _ _) ?_;exact z0r (Q:=fun a'=>∀ w',Below w.drew.heap.size w.drew w'→zal w0 G N K .normal a' w') hR.drew _ f _ h (fun f' a' hk hf' hN' hd' w' hw'=>⟨f',S,hk,r,hR.drew.below hw',hf',hN',hd'⟩) a hf hN hd
end
theorem z44:z40.length=448:=by kernel_rfl
theorem z41 {op:Int} (h:0≤op∧op<64):cut (z40.map CV.v) (0+op.toNat*7) 7=some ((shL (zzw op)).map CV.v):=by
 rcases zw1 h with rfl|rfl|rfl|rfl|rfl|rfl|rfl|rfl|rfl|rfl|rfl|rfl|rfl|rfl|rfl|rfl|rfl|rfl|rfl|rfl|rfl|rfl|rfl|rfl|rfl|rfl|rfl|rfl|rfl|rfl|rfl|rfl|rfl|rfl|rfl|rfl|rfl|rfl|rfl|rfl|rfl|rfl|rfl|rfl|rfl|rfl|rfl|rfl|rfl|rfl|rfl|rfl|rfl|rfl|rfl|rfl|rfl|rfl|rfl|rfl|rfl|rfl|rfl|rfl
 all_goals kernel_rfl
theorem zv5 (op:Int) (w:World) (h:0≤op∧op<64):Calls Tryz.prog 144 #[intV op] w fun e w'=>e= .returned (shV (zzw op))∧Below w.heap.size w w':=by
 obtain ⟨u,hu⟩:∃ u,u=z40:=⟨_,rfl⟩
 have hl:(List.map CV.v u).length=448:=by rw [hu,List.length_map,z44]
 have hfl:u.all zm7=true:=hu▸z42
 have hat:=z41 h
 rw [← hu] at hat
 refine zfh [intV op] Tryz.func144 Tryz.ntmps144 rfl zS ?_;refine z3i ?_;(conv=>whnf);refine z3i ?_;(conv=>whnf);refine ze2 (xs:=[]) (x:= .agg u.toArray) rfl zK (fun r w' _=>by rw [hu];exact z45 w') ?_;(conv=>whnf);rw [show Nat.beq (List.map CV.v u.toArray.toList).length (Tryz.prog.types[256].size)=true from by rw [show (List.map CV.v u.toArray.toList).length=448 from hl];rfl,show ∀ S,zwf S (List.map CV.v u.toArray.toList)=true from fun S=>zwh S u hfl];(conv=>whnf);rw [show (List.map CV.v u.toArray.toList).length=448 from hl];(conv=>whnf);rw [z32 (show _=(List.map CV.v u.toArray.toList).length from by rw [show (List.map CV.v u.toArray.toList).length=448 from hl];kernel_rfl)];refine z2z (f':=[(0,one (intV op)),(2,.p (.c (.ref 0 0))),(3,.p (.c (.ref 1 0)))]) (S':=[.cells 228 ([Value.bool false,.bool false,.bool false,.bool false,intV 0,intV 0,.int .u32 0].map .v),.cells 256 (u.map .v)]) (zkb rfl Tn Tn) ?_;refine z3i ?_;(conv=>whnf);refine ⟨fun hc=>?_,fun hc=>absurd hc zV⟩;refine kB ?_;refine ⟨fun hc=>absurd hc zV,fun _=>?_⟩;(conv=>whnf);refine z3i ?_;(conv=>whnf)
 (refine ⟨⟨by omega,by omega⟩,?_⟩;(conv=>whnf))
 rw [show cut (List.map CV.v u) (0+op.toNat*tsz Tryz.prog 228) (Tryz.prog.types[228].size)=some ((shL (zzw op)).map CV.v) from hat]
 conv=>whnf
 refine z3m ?_
 conv=>whnf
 refine zcg ?_
 conv=>whnf
 exact zmp rfl fun w' hB=>⟨rfl,hB⟩
open Go.RowKit
structure LSt (w w':World) (g:Nat) (vA vP vO:Value) (l':List BOp) (pb:Nat) (us:List Value) (t:TypeId):Prop where
 lift:LiftTo w w' g vA vP vO l'
 box:w'.heap[pb]?=some (.cells us.toArray t (0,0))
 lt:pb<w.heap.size
 ne:pb≠g
 no:vO.ownBlock≠some pb
section
variable {w:World} {g:Nat} {vA vP vO:Value} {l:List BOp} {pb:Nat} {us:List Value} {t:TypeId}
theorem LSt.later {w1 w2:World} {l1:List BOp} (h:LSt w w1 g vA vP vO l1 pb us t) (hB:Below w1.heap.size w1 w2):LSt w w2 g vA vP vO l1 pb us t:=
 ⟨h.lift.later hB,(hB.block pb (zpz h.box)).trans h.box,h.lt,h.ne,h.no⟩
theorem LSt.step {w1:World} {l1:List BOp} (h:LSt w w1 g vA vP vO l1 pb us t):∃ vO1,LiftAt w1 g vA vP vO1 l1∧∀ w2 l2,LiftTo w1 w2 g vA vP vO1 l2→LSt w w2 g vA vP vO l2 pb us t:=by
 obtain ⟨vO1,k1,k2⟩:=h.lift.out
 have hfar:vO1.ownBlock≠some pb:=fun e=>by
  rcases k2 pb e with h1|h1
  ·exact h.no h1
  ·have:=h.lt;omega
 exact ⟨vO1,k1,fun w2 l2 k=>⟨h.lift.then k2 k,(k.block pb (zpz h.box) h.ne hfar).trans h.box,h.lt,h.ne,h.no⟩⟩
theorem zoi {w1:World} {S:List Ow} {r:Env} (hR:Rel w Gs.nil S r w1) {i b:Nat} (hb:r.blk i=some b):w.heap.size≤b:=by
 rcases Nat.lt_or_ge b w.heap.size with h1|h1
 ·rcases (hR.new i b hb).2 h1 with h2|h2<;>cases h2
 ·exact h1
abbrev qiT:TypeId:=81
end
end Go.Proofs.YtocafomnnkmjfaaGreat
namespace Go.Proofs
open Go.Shelf Go.Lib
def Tryz.laysSort_ren:Go.Shelf.Ren:=⟨fun|189=>112|125=>167|257=>166|128=>205|129=>206|294=>196|295=>197|296=>198|297=>199|298=>200|299=>201|216=>202|300=>203|301=>204|328=>211|329=>212|330=>213|331=>214|332=>215|215=>216|343=>217|n=>n,fun|28=>22|3=>3|46=>78|0=>0|51=>41|53=>271|4=>4|183=>264|182=>263|131=>140|5=>5|9=>9|218=>275|222=>279|228=>281|229=>282|n=>n,fun n=>n⟩
theorem Tryz.laysSort:Lays.n189 Tryz.prog Tryz.laysSort_ren where
 mixed:=by kernel_rfl
 f125:=Tryz.func167.trans (congrArg some (by kernel_rfl))
 f128:=Tryz.func205.trans (congrArg some (by kernel_rfl))
 f129:=Tryz.func206.trans (congrArg some (by kernel_rfl))
 f189:=Tryz.func112.trans (congrArg some (by kernel_rfl))
 f215:=Tryz.func216.trans (congrArg some (by kernel_rfl))
 f216:=Tryz.func202.trans (congrArg some (by kernel_rfl))
 f257:=Tryz.func166.trans (congrArg some (by kernel_rfl))
 f294:=Tryz.func196.trans (congrArg some (by kernel_rfl))
 f295:=Tryz.func197.trans (congrArg some (by kernel_rfl))
 f296:=Tryz.func198.trans (congrArg some (by kernel_rfl))
 f297:=Tryz.func199.trans (congrArg some (by kernel_rfl))
 f298:=Tryz.func200.trans (congrArg some (by kernel_rfl))
 f299:=Tryz.func201.trans (congrArg some (by kernel_rfl))
 f300:=Tryz.func203.trans (congrArg some (by kernel_rfl))
 f301:=Tryz.func204.trans (congrArg some (by kernel_rfl))
 f328:=Tryz.func211.trans (congrArg some (by kernel_rfl))
 f329:=Tryz.func212.trans (congrArg some (by kernel_rfl))
 f330:=Tryz.func213.trans (congrArg some (by kernel_rfl))
 f331:=Tryz.func214.trans (congrArg some (by kernel_rfl))
 f332:=Tryz.func215.trans (congrArg some (by kernel_rfl))
 f343:=Tryz.func217.trans (congrArg some (by kernel_rfl))
 t0:=Tryz.underlying0
 a0:=Tryz.isAgg0
 z0:=Tryz.sizeOf0
 v0:=Tryz.zeroValue0
 t3:=Tryz.underlying3
 a3:=Tryz.isAgg3
 z3:=Tryz.sizeOf3
 v3:=Tryz.zeroValue3
 t4:=Tryz.underlying4
 a4:=Tryz.isAgg4
 z4:=Tryz.sizeOf4
 v4:=Tryz.zeroValue4
 t5:=Tryz.underlying5
 a5:=Tryz.isAgg5
 z5:=Tryz.sizeOf5
 v5:=Tryz.zeroValue5
 t9:=Tryz.underlying9
 a9:=Tryz.isAgg9
 z9:=Tryz.sizeOf9
 v9:=Tryz.zeroValue9
 t28:=Tryz.underlying22
 a28:=Tryz.isAgg22
 z28:=Tryz.sizeOf22
 v28:=Tryz.zeroValue22
 t46:=Tryz.underlying78
 a46:=Tryz.isAgg78
 z46:=Tryz.sizeOf78
 v46:=Tryz.zeroValue78
 t51:=Tryz.underlying41
 a51:=Tryz.isAgg41
 z51:=Tryz.sizeOf41
 v51:=Tryz.zeroValue41
 t53:=Tryz.underlying271
 a53:=Tryz.isAgg271
 z53:=Tryz.sizeOf271
 v53:=Tryz.zeroValue271
 t131:=Tryz.underlying140
 a131:=Tryz.isAgg140
 z131:=Tryz.sizeOf140
 v131:=Tryz.zeroValue140
 t182:=Tryz.underlying263
 a182:=Tryz.isAgg263
 z182:=Tryz.sizeOf263
 v182:=Tryz.zeroValue263
 t183:=Tryz.underlying264
 a183:=Tryz.isAgg264
 z183:=Tryz.sizeOf264
 v183:=Tryz.zeroValue264
 t218:=Tryz.underlying275
 a218:=Tryz.isAgg275
 z218:=Tryz.sizeOf275
 v218:=Tryz.zeroValue275
 t222:=Tryz.underlying279
 a222:=Tryz.isAgg279
 z222:=Tryz.sizeOf279
 v222:=Tryz.zeroValue279
 t228:=Tryz.underlying281
 a228:=Tryz.isAgg281
 z228:=Tryz.sizeOf281
 v228:=Tryz.zeroValue281
 t229:=Tryz.underlying282
 a229:=Tryz.isAgg282
 z229:=Tryz.sizeOf282
 v229:=Tryz.zeroValue282
def Tryz.laysCompact_ren:Go.Shelf.Ren:=⟨fun|20=>113|n=>n,fun|22=>22|3=>3|4=>4|0=>0|n=>n,fun n=>n⟩
theorem Tryz.laysCompact:Lays2.n20 Tryz.prog Tryz.laysCompact_ren where
 mixed:=by kernel_rfl
 f20:=Tryz.func113.trans (congrArg some (by kernel_rfl))
 t0:=Tryz.underlying0
 a0:=Tryz.isAgg0
 z0:=Tryz.sizeOf0
 v0:=Tryz.zeroValue0
 t3:=Tryz.underlying3
 a3:=Tryz.isAgg3
 z3:=Tryz.sizeOf3
 v3:=Tryz.zeroValue3
 t4:=Tryz.underlying4
 a4:=Tryz.isAgg4
 z4:=Tryz.sizeOf4
 v4:=Tryz.zeroValue4
 t22:=Tryz.underlying22
 a22:=Tryz.isAgg22
 z22:=Tryz.sizeOf22
 v22:=Tryz.zeroValue22
 i3:=by kernel_rfl
end Go.Proofs
namespace Go.Proofs.YtocafomnnkmjfaaGreat
open Go.RowKit
theorem z6p (w:World) (v:Value) (zs:List Int) (hn:zs.length≤1000000) (h:w.ownsRow 0 3 1 v zs.length (zs.map intV)):
  Calls Tryz.prog 112 #[v] w fun e w'=>e= .returned (.tuple #[])∧w'.ownsRow 0 3 1 v zs.length ((zs.mergeSort fun x y=>decide (x≤y)).map intV)∧w.grownBy w' v.ownBlock:=by
 rcases h.2 with ⟨rfl,h0⟩|⟨g,cap,cur,rfl,hg,hh,hnc,hcap,hsz,htake⟩
 ·have:zs=[]:=List.eq_nil_of_length_eq_zero h0
  subst this
  refine (Any.slices_Sort_int_none Tryz.laysSort none 0 w).mono fun e w' ⟨h3,h4⟩=>⟨h3,⟨by simp,.inl ⟨rfl,rfl⟩⟩,?_⟩
  rw [h4];exact World.grownBy.refl _ _
 ·obtain ⟨g',cap',e1,_,hlt,_,_,_,hH⟩:=Lib.holds_of_ownsRow (enc:=Value.int .i64) h zS
  injection e1 with e1 _ e2;injection e1 with e1;injection e1 with e1;subst e1;subst e2
  refine (Any.slices_Sort_int Tryz.laysSort g 0 cap zs w hH hlt zO).mono fun e w' ⟨h3,n,os,h4⟩=>⟨h3,?_,?_⟩
  ·rw [h4];exact Go.ownsRow_sortedI zS hg hh hnc hcap hsz
  ·rw [h4];exact Go.grownBy_sortedI _
theorem zgy (w:World) (v:Value) (zs:List Int) (hn:zs.length≤1000000) (h:w.ownsRow 0 3 1 v zs.length (zs.map intV)):
  Calls Tryz.prog 113 #[v] w fun e w'=>∃ v',e= .returned v'∧w'.ownsRow 0 3 1 v' (Lib.compact zs).length ((Lib.compact zs).map intV)∧w.grownBy w' v.ownBlock∧v'.ownBlock=v.ownBlock:=by
 rcases h.2 with ⟨rfl,h0⟩|⟨g,cap,cur,rfl,hg,hh,hnc,hcap,hsz,htake⟩
 ·have:zs=[]:=List.eq_nil_of_length_eq_zero h0
  subst this
  refine (Any.slices_Compact_int_empty Tryz.laysCompact none 0 w).mono fun e w' ⟨h3,h4⟩=>⟨_,h3,⟨rfl,.inl ⟨rfl,rfl⟩⟩,?_,rfl⟩
  rw [h4];exact World.grownBy.refl _ _
 ·obtain ⟨g',cap',e1,_,hlt,_,_,_,hH⟩:=Lib.holds_of_ownsRow (enc:=Value.int .i64) h zS
  injection e1 with e1 _ e2;injection e1 with e1;injection e1 with e1;subst e1;subst e2;have hle:=Lib.compact_length_le zs
  refine (Any.slices_Compact_int Tryz.laysCompact g 0 cap zs w hH zO hnc).mono fun e w' ⟨h3,q,h4⟩=>⟨_,h3,?_,?_,rfl⟩
  ·rw [h4]
   have:=Lib.ownsRow_putRow (q:=q) (k:=(Lib.compact zs).length) (ys:=Lib.compact zs++List.replicate (zs.length-(Lib.compact zs).length) 0) h zV hle;rw [List.take_left] at this;exact this
  ·rw [h4]
   refine ⟨rfl,rfl,rfl,by simp [Sort.putRow,Sort.mapBlock,Sort.ahead],fun k hk hne=>?_⟩;have hne:g≠k:=fun e=>hne (by rw [e];rfl);simp [Sort.putRow,Sort.mapBlock,Array.getElem?_modify,hne,Sort.ahead]
def MemTo (w w':World) (B m sb:Nat) (l:List Slt) (img:Nat→List Int):Prop:=∃ l',MemAt2 w' B m sb l' img∧keepS l l'∧Below B w w'∧FrameT w w'
theorem MemTo.later {w w1 w2:World} {B m sb:Nat} {l:List Slt} {img:Nat→List Int} (h:MemTo w w1 B m sb l img) (hB:Below w1.heap.size w1 w2):MemTo w w2 B m sb l img:=by
 obtain ⟨l',h1,h2,h3,h4⟩:=h;have hsz:B≤w1.heap.size:=Nat.le_of_lt (Nat.lt_of_le_of_lt h1.Bm (zpz h1.hm));exact ⟨l',h1.later hB,h2,h3.trans (hB.mono hsz),h4.trans (FrameT.of hB)⟩
theorem MemTo.start {w w':World} {B m sb:Nat} {l:List Slt} {img:Nat→List Int} (h:MemAt2 w B m sb l img) (hB:Below w.heap.size w w'):MemTo w w' B m sb l img:=MemTo.later ⟨l,h,keepS.refl l,Below.refl _ _,fun _ _ _ _ _ _=>rfl⟩ hB
theorem MemTo.trans {w w1 w2:World} {B m sb:Nat} {l l':List Slt} {img:Nat→List Int} (h2:keepS l l') (h3:Below B w w1) (h4:FrameT w w1) (k:MemTo w1 w2 B m sb l' img):MemTo w w2 B m sb l img:=by
 obtain ⟨l2,k1,k2,k3,k4⟩:=k;exact ⟨l2,k1,h2.trans k2,h3.trans k3,h4.trans k4⟩
section
variable {B m sb:Nat} {img:Nat→List Int}
structure Boxes (w:World) (pm pa m:Nat) (a:Int):Prop where
 bm:w.heap[pm]?=some (.cells #[ptrV m] 110 (0,0))
 ba:w.heap[pa]?=some (.cells #[.int .u32 a] 41 (0,0))
theorem Boxes.keep {w w':World} {pm pa m:Nat} {a:Int} (h:Boxes w pm pa m a) (hf:FrameT w w'):Boxes w' pm pa m a:=
 ⟨(hf _ _ _ h.bm (by decide) (by decide)).trans h.bm,(hf _ _ _ h.ba (by decide) (by decide)).trans h.ba⟩
end
section
variable {B m sb:Nat} {img:Nat→List Int}
def setR (l:List Slt) (q:Nat) (x:Int):List Slt:=l.modify q fun s=>{s with r:=x}
end
def z0v (F:Int→Option Int) (a:Int):Nat→Option Int
 |0=>some 0
 |j+1=>match z0v F a j,F (a+j) with
  |some k,some b=>some (k+b*256^j)
  |_,_=>none
def z0z (F:Int→Option Int) (a:Int):Option QI:=if a%4=0 then (z0v F a 4).bind decQ else none
theorem z0x {F:Int→Option Int} (hF:∀ a b,F a=some b→0≤b∧b<256) {a:Int}:∀ {j:Nat} {k:Int},z0v F a j=some k→0≤k∧k<256^j
 |0,k,h=>by simp [z0v] at h;subst h;decide
 |j+1,k,h=>by
  unfold z0v at h
  split at h
  ·rename_i k0 b h1 h2
   injection h with h;have h3:=z0x hF h1;have h4:=hF _ _ h2;have hp:(0:Int)<256^j:=Int.pow_pos (by decide);rw [Int.pow_succ];have h5:b*256^j≤255*256^j:=Int.mul_le_mul_of_nonneg_right zO zO;have h6:0≤b*256^j:=Int.mul_nonneg h4.1 zO;omega
  ·cases h
theorem z0y {F:Int→Option Int} {a:Int} {i:Nat} (h:F (a+i)=none):∀ {j:Nat},i<j→z0v F a j=none
 |j+1,hj=>by
  unfold z0v;rcases Nat.lt_or_ge i j with h1|h1
  ·rw [z0y h h1]
  ·have:i=j:=by omega
   subst this;rw [h]
   split
   ·rename_i h1 h2;cases h2
   ·rfl
structure RdS (F:Int→Option Int) (a:Int) where
 j:Nat
 k:Int
 hj:j≤4
 hk:z0v F a j=some k
abbrev cpuT:TypeId:=100
abbrev cpuU (k:Nat) (us:List Value) (n p:Nat) (M:MemP):List Ow:= .cells cpuT (us.map .v++[.ref (k+1) 0])::memS (k+1) n p M
theorem zhj (k:Nat) (us:List Value) (n p:Nat) (M:MemP):ShAll k (cpuU 0 us n p M) (cpuU k us n p M):=by
 refine ⟨⟨rfl,?_⟩,⟨rfl,?_⟩,⟨rfl,(z4u k _).symm⟩,⟨rfl,(z4u k _).symm⟩,⟨rfl,(z4u k _).symm⟩,⟨rfl,(z4u k _).symm⟩,⟨rfl,(z4u k _).symm⟩,trivial⟩
 ·rw [List.map_append,z4u];rfl
 ·simp [CV.sh,Nat.add_assoc]
theorem zhi (us:List Value) (n p:Nat) (M:MemP):zaj 7 (cpuU 0 us n p M):=by
 intro o ho;simp only [memS,List.mem_cons,List.not_mem_nil,or_false] at ho;rcases ho with rfl|rfl|rfl|rfl|rfl|rfl|rfl
 ·intro c hc
  rcases List.mem_append.1 hc with hc|hc
  ·exact zvt 7 _ c hc
  ·simp at hc;subst hc;rfl
 ·intro c hc
  simp only [List.mem_cons,List.not_mem_nil,or_false] at hc
  rcases hc with rfl|rfl|rfl|rfl|rfl|rfl<;>rfl
 ·exact zvt 7 _
 ·exact zvt 7 _
 ·exact zvt 7 _
 ·exact zvt 7 _
 ·exact zvt 7 _
abbrev u32V (x:Int):Value:= .int .u32 x
def stZ:List Value:=[u32V 0,u32V 0,u32V 0,u32V 0,u32V 0,u32V 0,u32V 0,u32V 0,u32V 0,u32V 0,u32V 0,u32V 0,u32V 0,u32V 0,u32V 0,u32V 0,u32V 0,u32V 0,u32V 0,u32V 0,u32V 0,u32V 0,intV 0,intV 0]
theorem zhn (p:Nat) (w:World) (hp:1≤p∧p≤4096):
  Calls Tryz.prog 79 #[intV (p:Int)] w fun e w'=>∃ g gs,e= .returned (ptrV g)∧NewObjs w w' (g::gs) (cpuU 0 stZ (256*p) p (MemP.zero p)):=by
 obtain ⟨n,hn⟩:∃ n,n=256*p:=⟨_,rfl⟩
 obtain ⟨M,hM⟩:∃ M,M=MemP.zero p:=⟨_,rfl⟩
 rw [← hn, ← hM];refine zfh [intV (p:Int)] Tryz.func79 Tryz.ntmps79 rfl zS ?_;refine z3i ?_;(conv=>whnf);refine z3i ?_;(conv=>whnf);refine ze7 (memS 0 n p M) (memS 0 n p M) rfl zK (zud 0 n p M) (zuc n p M) (fun r w hR=>by rw [hn,hM];exact zu0 p w hp) ?_;(conv=>whnf);refine z2z (f':=[(2,.p (.c (.ref 0 0)))]) (S':=cpuU 0 stZ n p M) (zj9 [6,0,1,2,3,4,5] (aI rfl trivial) (aI ((Exists.intro _ (aI rfl sM))) (aI ((Exists.intro _ (aI rfl sM))) (aI ((Exists.intro _ (aI rfl (aI rfl (Or.inl (z1s _ _).symm))))) (aI ((Exists.intro _ (aI rfl (aI rfl (Or.inl (z1s _ _).symm))))) (aI ((Exists.intro _ (aI rfl (aI rfl (Or.inl (z1s _ _).symm))))) (aI ((Exists.intro _ (aI rfl (aI rfl (Or.inl (z1s _ _).symm))))) (aI ((Exists.intro _ (aI rfl (aI rfl (Or.inl (z1s _ _).symm))))) trivial))))))) rfl (by show sbnd 7 (cpuU 0 stZ n p M)=true;simp only [sbnd,Ow.bnd,zd6,bndL,CV.bnd];rfl) rfl rfl rfl) ?_;refine z3m ?_;(conv=>whnf);refine zcg ?_;(conv=>whnf)
 exact zmm 0 (cpuU 0 stZ n p M) (cpuU 0 stZ n p M) zS (fun i _=>by rw [Nat.zero_add]) (zhj 0 stZ n p M) (zhi stZ n p M) fun w' g gs h=>⟨g,gs,rfl,h⟩
theorem zm2 (n:Int) (u:Bool) (w:World):Calls Tryz.prog 145 #[intV n,.bool u] w fun e w'=>e= .returned (.bool (regB n u))∧Below w.heap.size w w':=by
 refine zfk [intV n,.bool u] Tryz.func145 Tryz.ntmps145 rfl zS ?_
 conv=>whnf
 refine ⟨fun h1=>?_,fun h1=>?_⟩
 ·conv=>whnf
  refine kA ?_
  cases u with
  |false=>
   refine kB ?_
   refine zmp rfl fun w' hB=>⟨?_,hB⟩
   have hn:n≠0:=(by simpa using h1);simp [regB,hn]
  |true=>
   refine kB ?_;generalize hz:decide (n>0)=z;have hn:n≠0:=(by simpa using h1)
   cases z with
   |false=>
    refine kB ?_
    refine zmp rfl fun w' hB=>⟨?_,hB⟩
    have:¬0<n:=(by simpa using hz);simp [regB,hn,this]
   |true=>
    refine kB ?_
    refine zmp rfl fun w' hB=>⟨?_,hB⟩
    have:0<n:=(by simpa using hz);simp [regB,hn,this]
 ·conv=>whnf
  refine kA ?_
  refine zmp rfl fun w' hB=>⟨?_,hB⟩
  have hn:n=0:=by simpa using h1
  simp [regB,hn]
theorem z5a {n:Int} {b:Nat} (hn:word n) (hb:b=18∨b=22):(n.fdiv (2^(min (b:Int).toNat IntKind.u32.bits))==0)=decide (n<2^b):=by
 have h0:=hn.1;rcases hb with rfl|rfl
 ·rw [show (2:Int)^(min ((18:Nat):Int).toNat IntKind.u32.bits)=262144 from rfl,show (2:Int)^18=262144 from rfl,Int.fdiv_eq_ediv_of_nonneg _ zO]
  by_cases h:n<262144
  ·rw [decide_eq_true h];simp;omega
  ·rw [decide_eq_false h];simp;omega
 ·rw [show (2:Int)^(min ((22:Nat):Int).toNat IntKind.u32.bits)=4194304 from rfl,show (2:Int)^22=4194304 from rfl,Int.fdiv_eq_ediv_of_nonneg _ zO]
  by_cases h:n<4194304
  ·rw [decide_eq_true h];simp;omega
  ·rw [decide_eq_false h];simp;omega
theorem zq4 (f:QForm) (n:Int) (w:World) (hf:FOk f) (hn:word n):Calls Tryz.prog 146 #[shV f,.int .u32 n] w fun e w'=>e= .returned (.bool (immB f n))∧Below w.heap.size w w':=by
 obtain ⟨is,fd,fa,fb,fs,bits,most⟩:=f;obtain ⟨hb,hm,hs⟩:=hf;dsimp only at hb hm hs
 have hk:zsu ⟨is,fd,fa,fb,fs,bits,most⟩=if bits=0 then 0 else if fs=true then 1 else 2:=rfl
 refine zfk [.agg #[.bool is,.bool fd,.bool fa,.bool fb,intV (zsu ⟨is,fd,fa,fb,fs,bits,most⟩),intV bits,.int .u32 most],.int .u32 n] Tryz.func146 Tryz.ntmps146 rfl zS ?_;rw [hk];rcases hb with rfl|hb
 ·rw [if_pos rfl]
  refine kB ?_
  conv=>whnf
  exact zmp rfl fun w' hB=>⟨rfl,hB⟩
 have hb0:¬bits=0:=by omega
 rw [if_neg hb0]
 cases fs with
 |true=>
  rw [if_pos rfl];refine kB ?_;(conv=>whnf);refine ze2 rfl zK (fun r w' _=>zm5 n bits w' hn hb) ?_;(conv=>whnf)
  refine zmp rfl fun w' hB=>⟨?_,hB⟩
  simp [immB,hb0]
 |false=>
  rw [if_neg (by decide)];refine kB ?_;(conv=>whnf);refine ⟨fun hc=>?_,fun hc=>?_⟩
  ·conv=>whnf
   refine zmp rfl fun w' hB=>⟨?_,hB⟩
   have:0<most:=(by simpa using hc);simp [immB,hb0,this]
  ·conv=>whnf
   refine ⟨by omega,_,rfl,?_⟩;(conv=>whnf)
   refine zmp rfl fun w' hB=>⟨?_,hB⟩
   have:¬0<most:=(by simpa using hc);rw [z5a hn hb];simp [immB,hb0,this]
theorem z9v (i:QI) (w:World) (h:0≤i.op∧i.op<64) (hi:word i.imm):Calls Tryz.prog 93 #[qiV i] w fun e w'=>e= .returned (.bool (z9h i))∧Below w.heap.size w w':=by
 refine zfk [qiV i] Tryz.func93 Tryz.ntmps93 rfl zS ?_;(conv=>whnf);refine ze2 rfl zK (fun r w' _=>zv5 i.op w' h) ?_;have hf:=zns i.op;unfold z9h;generalize zzw i.op=f at hf;have hf2:=hf;obtain ⟨is,fd,fa,fb,fs,bits,most⟩:=f;dsimp only
 cases is with
 |false=>
  refine kB ?_
  exact zmp rfl fun w' hB=>⟨rfl,hB⟩
 |true=>
  refine kB ?_;refine ze2 rfl zK (fun r w' _=>zm2 i.d fd w') ?_;generalize regB i.d fd=x1
  cases x1 with
  |false=>
   refine kB ?_
   exact zmp rfl fun w' hB=>⟨rfl,hB⟩
  |true=>
   refine kB ?_;refine ze2 rfl zK (fun r w' _=>zm2 i.a fa w') ?_;generalize regB i.a fa=x2
   cases x2 with
   |false=>
    refine kB ?_
    exact zmp rfl fun w' hB=>⟨rfl,hB⟩
   |true=>
    refine kB ?_;refine ze2 rfl zK (fun r w' _=>zm2 i.b fb w') ?_;generalize regB i.b fb=x3
    cases x3 with
    |false=>
     refine kB ?_
     exact zmp rfl fun w' hB=>⟨rfl,hB⟩
    |true=>
     refine kB ?_;refine ze2 rfl zK (fun r w' _=>zq4 _ i.imm w' hf2 hi) ?_;refine kB ?_
     exact zmp rfl fun w' hB=>⟨by simp,hB⟩
theorem zjt (i:QI) (w:World) (h:0≤i.op∧i.op<64) (hi:word i.imm):Calls Tryz.prog 130 #[qiV i] w fun e w'=>e= .returned (encV (encQ i))∧Below w.heap.size w w':=by
 refine zfk [qiV i] Tryz.func130 Tryz.ntmps130 rfl zS ?_;(conv=>whnf);refine ze2 rfl zK (fun r w' _=>z9v i w' h hi) ?_;unfold encQ
 cases hv:z9h i with
 |false=>
  refine kB ?_
  exact zmp rfl fun w' hB=>⟨rfl,hB⟩
 |true=>
  obtain ⟨r0,rd,ra,rb⟩:=z9j hv;have hor:=zjq hv hi;have o1:orI (i.op*67108864) (i.d*4194304)=i.op*67108864+i.d*4194304:=zw9 26 zO zO zO;have o2:orI (i.op*67108864+i.d*4194304) (i.a*262144)=i.op*67108864+i.d*4194304+i.a*262144:=zw9 22 zO zO zO;have o3:orI (i.op*67108864+i.d*4194304+i.a*262144) (i.b*16384)=i.op*67108864+i.d*4194304+i.a*262144+i.b*16384:=zw9 18 zO zO zO;rw [o1,o2,o3] at hor;refine kB ?_;(conv=>whnf);refine ⟨i.op,by rw [wr32];omega,?_⟩;(conv=>whnf);refine ⟨by omega,i.op*67108864,by rw [wr32];show i.op*67108864%_=_;omega,?_⟩;(conv=>whnf);refine ⟨i.d,by rw [wr32];omega,?_⟩;(conv=>whnf);refine ⟨by omega,i.d*4194304,by rw [wr32];show i.d*4194304%_=_;omega,?_⟩;(conv=>whnf);refine ⟨_,(z84 (by unfold word;omega) (by unfold word;omega)).trans o1,?_⟩;(conv=>whnf);refine ⟨i.a,by rw [wr32];omega,?_⟩;(conv=>whnf);refine ⟨by omega,i.a*262144,by rw [wr32];show i.a*262144%_=_;omega,?_⟩;(conv=>whnf);refine ⟨_,(z84 (by unfold word;omega) (by unfold word;omega)).trans o2,?_⟩;(conv=>whnf);refine ⟨i.b,by rw [wr32];omega,?_⟩;(conv=>whnf);refine ⟨by omega,i.b*16384,by rw [wr32];show i.b*16384%_=_;omega,?_⟩;(conv=>whnf);refine ⟨_,(z84 (by unfold word;omega) (by unfold word;omega)).trans o3,?_⟩;(conv=>whnf);refine z2v mixed zK ?_;(conv=>whnf);refine zz3 rfl zK (fun r w' _=>zv5 i.op w' h) ?_;have hf:=zns i.op;generalize zzw i.op=f at hf hor⊢;(conv=>whnf)
  have hsh:∃ m,0≤(f.bits:Int)∧IntKind.u32.wrap (1*2^(min (f.bits:Int).toNat IntKind.u32.bits))=m∧m=2^f.bits:=by
   rcases hf.bits with hb|hb|hb<;>rw [hb]<;>exact ⟨_,by omega,rfl,rfl⟩
  obtain ⟨m,s1,s2,s3⟩:=hsh;refine ⟨s1,m,s2,?_⟩;have hm1:1≤m∧m≤4194304:=(by rw [s3];rcases hf.bits with hb|hb|hb<;>rw [hb]<;>omega);(conv=>whnf);refine ⟨m-1,by rw [wr32];omega,?_⟩;(conv=>whnf)
  have hand:word (andI i.imm (2^f.bits-1)):=by
   rw [zbe f.bits hi.1]
   rcases hf.bits with hb|hb|hb<;>rw [hb]<;>unfold word<;>omega
  refine ⟨andI i.imm (2^f.bits-1),by rw [← s3];exact z83 hi (by unfold word;omega),?_⟩;(conv=>whnf);refine ⟨yas i,(z84 (by unfold word;omega) hand).trans hor,?_⟩;(conv=>whnf)
  exact zmp rfl fun w' hB=>⟨rfl,hB⟩
section
variable {R:Value→Option (DataW Unit×List MemPlace)} {mk:Int→Value} {cd:Int→DataW Unit} {good:Int→Prop} {n:Nat} {m:Int→Option Int}
variable {w0:World} {G:Gs} {N:Nd} {o:Oper} {f:Fr} {S:List Ow} {K:Fr→List Ow→Prop}
theorem zws {t e:TypeId} {mo x v:Operand} (hop:o.op= .insert t mo x v) (ht:Tryz.prog.underlying t=some (.map 3 e)) (E:Elems R mk cd good) (i:Nat) (k y:Int)
  (hm:f.ev mo= .p (.c (.mp i))) (hi:S[i]?=some (ztv R cd n m)) (hx:f.ev x=one (.int .i64 k)) (hv:f.ev v=one (mk y)) (hn:n<1000000) (hkw:(Lit.int .i64 k).wf=true) (hy:good y) (hdst:zjc N.n o.dst=true)
  (hk:K (f.put o.dst (.p (.c .any))) (S.set i (ztv R cd (n+1) (mput m k y)))):OpS Tryz.prog w0 G N o f S K:=by
 refine ⟨fun r a w hR hf hN hd next Q hK=>?_⟩;have h1:=hf.ev mo;have h2:=hf.ev x;have h3:=hf.ev v;rw [hm] at h1;rw [hx] at h2;rw [hv] at h3;obtain ⟨b,hb,hu⟩:=zi2 h1;obtain ⟨b',hb',hmap,_⟩:=hR.own i _ hi;rw [hb] at hb';injection hb' with hb';subst hb';obtain ⟨w',hrun,hmap',hg⟩:=hmap.put E ht hn hkw hy (t:=t)
 have hex:(execOp a.eval o).run Tryz.prog w= .ok .skip w':=by
  simp [execOp,hop,hu,zi6 h2,zi6 h3,hrun]
 exact ya7 hex (hK _ _ _ _ hk (zox hR hf hN hd hdst (by simp [AV.den,Pc.den,CV.den]) (hR.setBlock hb hg (zq3 hb hmap') (hR.lt_of_blk hb)) (Env.le.refl r)))
theorem zml {R':Ending→World→Prop} (i:Nat) (hi:S[i]?=some (ztv R cd n m)) (h:∀ w b,IMap R cd w b n m→w0.heap.size≤b→Below w0.heap.size w0 w→R' (.returned (.map (some b))) w):Fin w0 Gs.nil S (.p (.c (.mp i))) R':=by
 refine ⟨fun r w u hR hd=>?_⟩;obtain ⟨b,hb,rfl⟩:=zi2 hd;obtain ⟨b',hb',hmap,_⟩:=hR.own i _ hi;rw [hb] at hb';injection hb' with hb';subst hb';exact h w b hmap (zoi hR hb) hR.toBelow
theorem ze6 {fid:FuncId} {args:List AV} {xs:List Value} {K:AV→List Ow→Prop} (hx:avals args=some xs) (hok:fnOk Tryz.prog fid=true)
  (h:∀ r w,Rel w0 G S r w→Calls Tryz.prog fid xs.toArray w fun e w'=>∃ b,e= .returned (.map (some b))∧IMap R cd w' b n m∧w.heap.size≤b∧Below w.heap.size w w')
  (hK:K (.p (.c (.mp S.length))) (S++[ztv R cd n m])):CallS Tryz.prog w0 G fid args S K:=by
 refine ⟨hok,fun r w us hR hd=>?_⟩;obtain rfl:=zcs hx hd;refine (h r w hR).mono fun e w' ⟨b,he,hmap,hb,hB⟩=>?_;refine ⟨_,_,_,r.set S.length (some b) none,he,?_,hR.snoc hB (fun x hx=>by injection hx with hx;subst hx;exact ⟨hb,hmap.lt⟩) (zq3 (by simp [Env.set]) hmap),hR.le_new _ _,hK⟩;simp only [AV.den,Pc.den,CV.den];exact ⟨b,by simp [Env.set],rfl⟩
end
theorem zdj {a b c:World} (h:Below a.heap.size a b) (k:Below b.heap.size b c):Below a.heap.size a c:=⟨k.os.trans h.os,k.tape.trans h.tape,k.output.trans h.output,Nat.le_trans h.size k.size,fun i hi=>(k.block i (Nat.lt_of_lt_of_le hi h.size)).trans (h.block i hi)⟩
def zaz (l:List Int) (a:Int):Nat→List Int
 |0=>l
 |j+1=>zax (zaz l a j) (a+j)
theorem z01 {F:Int→Option Int} (hF:∀ a b,F a=some b→0≤b∧b<256) {a:Int} {i:QI} (h:z0z F a=some i):i.ok:=by
 unfold z0z at h
 split at h
 ·cases hn:z0v F a 4 with
  |none=>rw [hn] at h;cases h
  |some x=>rw [hn] at h;exact zid (by have:=z0x hF hn;unfold word;omega) h
 ·cases h
structure LfS (F:Int→Option QI) (pc:Int) (n:Nat) where
 more:Bool
 k:Nat
 ps:List Int
 pre:List BOp
 hk:k≤n
 hps:∀ x,x∈ps↔x∈zs8 pc k
 hpl:ps.length≤4*k
 hol:pre.length≤8*k
 hgo:more=true→k<n∧pre++zs7 F pc n (n-k) k=zs7 F pc n n 0∧zs6 F pc n (n-k) k=zs6 F pc n n 0
 hend:more=false→pre=zs7 F pc n n 0∧k=zs6 F pc n n 0
structure PgS (l:List Int) (a:Int) (m:Nat) where
 j:Nat
 q:List Int
 hj:j≤4
 hq:∀ x,x∈q↔x∈zaz l a j
 hl:q.length≤m+j
def MemP.img (M:MemP) (k:Nat):List Int:=(M.image.drop (256*k)).take 256
def imgTo (M:MemP) (j k:Nat):List Int:=if k<j then M.img k else zpage
theorem z11 {M:MemP} {n p:Nat} (hM:M.ok n p) (k:Nat):0≤M.rightsAt k∧M.rightsAt k<8:=by
 unfold MemP.rightsAt
 cases h:M.rights[k]? with
 |none=>simp
 |some x=>exact hM.rb x (List.mem_of_getElem? h)
structure MadeTo (w w':World) (m sb p:Nat) (M:MemP) (j q:Nat) (l:List Slt):Prop where
 mem:MemAt2 w' w.heap.size m sb l (imgTo M j)
 len:l.length=p
 slots:∀ (k:Nat) (s:Slt),l[k]?=some s→(k<q→s.r=M.rightsAt k)∧(j≤k→s.oc=false)∧0≤s.r∧s.r<8
 below:Below w.heap.size w w'
theorem MadeTo.later {w w' w2:World} {m sb p:Nat} {M:MemP} {j q:Nat} {l:List Slt} (h:MadeTo w w' m sb p M j q l) (hB:Below w'.heap.size w' w2):MadeTo w w2 m sb p M j q l:=
 ⟨h.mem.later hB,h.len,h.slots,h.below.trans (hB.mono h.below.size)⟩
section
variable {w:World} {g n p:Nat} {gs:List Nat} {M:MemP}
end
theorem zhm (us:List Value) (n p:Nat) (M:MemP) (T:List Ow):∀ i,i<6→(cpuU 0 us n p M++T)[1+i]?=(memS 1 n p M)[i]?:=fun i hi=>by
 rcases (by omega:i=0∨i=1∨i=2∨i=3∨i=4∨i=5) with rfl|rfl|rfl|rfl|rfl|rfl<;>rfl
structure St where
 pc:Int
 R:Int→Int
 f:Int
 c0:Int
 c1:Int
 c2:Int
 c3:Int
 steps:Int
 due:Int
abbrev stL (s:St) (T:List Value):List Value:=u32V s.pc::u32V (s.R 0)::u32V (s.R 1)::u32V (s.R 2)::u32V (s.R 3)::u32V (s.R 4)::u32V (s.R 5)::u32V (s.R 6)::u32V (s.R 7)::u32V (s.R 8)::u32V (s.R 9)::u32V (s.R 10)::u32V (s.R 11)::u32V (s.R 12)::u32V (s.R 13)::u32V (s.R 14)::u32V (s.R 15)::u32V s.f::u32V s.c0::u32V s.c1::u32V s.c2::u32V s.c3::intV s.steps::intV s.due::T
abbrev stV (s:St):Value:= .agg (stL s []).toArray
abbrev zxp (s:St) (k inf:Int):Value:= .agg (stL s [intV k,u32V inf]).toArray
abbrev stT:TypeId:=98
structure St.ok (s:St):Prop where
 pc:word s.pc
 reg:∀ j,0≤j→j<16→word (s.R j)
 zero:s.R 0=0
 fl:s.f=0
 steps:0≤s.steps∧s.steps<1099511627776
theorem z6y {s:St} {R R':Int→Int} (h:∀ j,0≤j→j<16→R j=R' j) (T:List Value):stL {s with R:=R} T=stL {s with R:=R'} T:=by
 unfold stL;dsimp only;rw [h 0 zO zO,h 1 zO zO,h 2 zO zO,h 3 zO zO,h 4 zO zO,h 5 zO zO,h 6 zO zO,h 7 zO zO,h 8 zO zO,h 9 zO zO,h 10 zO zO,h 11 zO zO,h 12 zO zO,h 13 zO zO,h 14 zO zO,h 15 zO zO]
theorem zw0 (op:Int) (w:World) (h:0≤op∧op<64):Calls Tryz.prog 148 #[intV op] w fun e w'=>e= .returned (intV (zzu op))∧Below w.heap.size w w':=by
 rcases (by omega:op=1∨op=2∨op=3∨op=4∨op=5∨op=6∨op=7∨op=8∨op=9∨op=10∨op=11∨op=12∨op=16∨op=17∨op=18∨op=19∨op=20∨op=21∨op=22∨¬((1≤op∧op≤12)∨(16≤op∧op≤22))) with rfl|rfl|rfl|rfl|rfl|rfl|rfl|rfl|rfl|rfl|rfl|rfl|rfl|rfl|rfl|rfl|rfl|rfl|rfl|hno
 case inr.inr.inr.inr.inr.inr.inr.inr.inr.inr.inr.inr.inr.inr.inr.inr.inr.inr.inr=>
  have hq:zzu op=0:=Decidable.byContradiction fun hc=>hno (zzv.1 hc);rw [hq];refine zfh [intV op] Tryz.func148 Tryz.ntmps148 rfl zS ?_;refine z3i ?_;(conv=>whnf);refine z25 ?_;refine z3i ?_;(conv=>whnf);refine z21 ?_
  repeat' (first
   |(refine z23 rfl (fun h=>absurd h zV) (fun h=>?_))
   |(refine z3i ?_;(conv=>whnf);repeat (refine ⟨(fun h=>absurd h zV),fun _=>?_⟩;(conv=>whnf))))
  refine z3j (zb4 (zcd ?_));refine z3m ?_;(conv=>whnf);refine zcg ?_;(conv=>whnf)
  exact zmp rfl fun w' hB=>⟨rfl,hB⟩
 all_goals
  refine zfh [intV _] Tryz.func148 Tryz.ntmps148 rfl zS ?_;refine z3i ?_;(conv=>whnf);refine z25 ?_;refine z3i ?_;(conv=>whnf);refine z21 ?_
  repeat' (first
   |(refine z23 rfl (fun h=>absurd h (by decide)) (fun _=>?_))
   |(refine z23 rfl (fun _=>?_) (fun h=>absurd h (by decide)))
   |(refine z3i ?_;(conv=>whnf);refine kA ?_))
  refine z3m ?_;(conv=>whnf);refine zco (zcg ?_) fun a w hq=>hq;(conv=>whnf)
  exact zmp rfl fun w' hB=>⟨rfl,hB⟩
theorem zdq (b:Bool):(bitI b==1)=b:=by cases b<;>rfl
theorem zdp (b:Bool):(bitI b==0)= !b:=by cases b<;>rfl
theorem z8l (op d a:Int) (w:World) (h:32≤op∧op≤37) (hd:word d) (ha:word a):Calls Tryz.prog 150 #[intV op,u32V d,u32V a] w fun e w'=>e= .returned (.bool (z8k op d a))∧Below w.heap.size w w':=by
 have hop:=zwz 15 d a;rcases (by omega:op=32∨op=33∨op=34∨op=35∨op=36∨op=37) with rfl|rfl|rfl|rfl|rfl|rfl
 all_goals
  refine zfh [intV _,u32V d,u32V a] Tryz.func150 Tryz.ntmps150 rfl zS ?_;refine z3m ?_;(conv=>whnf)
  repeat' (first
   |(refine ⟨fun _=>?_,nT⟩;(conv=>whnf))|(refine ⟨fun _=>?_,nF⟩;(conv=>whnf))|(refine ⟨nF,fun _=>?_⟩;(conv=>whnf))|(refine ⟨nT,fun _=>?_⟩;(conv=>whnf))
   |(refine zfb (x:= .int .u32 (yaq 15 d a)) rfl zK (fun r w' hR=>hop w' hd ha) ?_;conv=>whnf))
 ·refine zcg ?_
  conv=>whnf
  exact zmp rfl fun w' hB=>⟨rfl,hB⟩
 ·refine zcg ?_
  conv=>whnf
  exact zmp rfl fun w' hB=>⟨by rw [show z8k 33 d a=(d !=a) by unfold z8k;rw [if_neg (by decide),if_pos rfl];by_cases h:d=a<;>simp [h]],hB⟩
 ·refine zcg ?_
  conv=>whnf
  exact zmp rfl fun w' hB=>⟨rfl,hB⟩
 ·refine zcg ?_
  conv=>whnf
  exact zmp rfl fun w' hB=>⟨by rw [show z8k 35 d a=decide (d≥a) by unfold z8k;rw [if_neg (by decide),if_neg (by decide),if_neg (by decide),if_pos rfl];by_cases h:d<a<;>simp [h]<;>omega],hB⟩
 ·refine zcg ?_
  conv=>whnf
  exact zmp rfl fun w' hB=>⟨by rw [show z8k 36 d a=(yaq 15 d a==1) from (zdq _).symm],hB⟩
 ·refine zcg ?_
  conv=>whnf
  exact zmp rfl fun w' hB=>⟨by rw [show z8k 37 d a=(yaq 15 d a==0) from ((zdp _).trans (by show (!decide (z5e d<z5e a))=decide (¬z5e d<z5e a);by_cases h:z5e d<z5e a<;>simp [h])).symm];rfl,hB⟩
theorem z4k {w:World} {gs:List Nat} {n p:Nat} {us:List Value} {M:MemP} (h:ObjsAt w gs (cpuU 0 us n p M)):∃ g0 g1 g2 g3 g4 g5 g6,gs=[g0,g1,g2,g3,g4,g5,g6]:=by
 have:=h.len
 match gs,this with
 |[g0,g1,g2,g3,g4,g5,g6],_=>exact ⟨g0,g1,g2,g3,g4,g5,g6,rfl⟩
def MemP.fet (M:MemP) (a:Int):Option Int:=if M.right a 4=true then some (M.code a) else none
theorem zly {M:MemP} {n p:Nat} (hM:M.ok n p) (a b:Int) (h:M.fet a=some b):0≤b∧b<256:=by
 unfold MemP.fet at h
 split at h
 ·injection h with h
  subst h;unfold MemP.code
  cases hc:M.image[a.toNat]? with
  |none=>simp
  |some x=>exact hM.ib x (List.mem_of_getElem? hc)
 ·cases h
theorem MemAt2.keep {w w':World} {B m sb:Nat} {l:List Slt} {img:Nat→List Int} (h:MemAt2 w B m sb l img) (hk:∀ k,B≤k→k<w.heap.size→w'.heap[k]?=w.heap[k]?):MemAt2 w' B m sb l img:=
 ⟨(hk _ h.Bm (zpz h.hm)).trans h.hm,(hk _ h.Bs (zpz h.hs)).trans h.hs,h.Bm,h.Bs,fun s hs=>by obtain ⟨⟨us,hu⟩,hb⟩:=h.dp s hs;exact ⟨⟨us,hu.later (hk _ hb (zpz hu.at_))⟩,hb⟩,
  fun k s hs=>by obtain ⟨hu,hb⟩:=h.cp k s hs;exact ⟨hu.later (hk _ hb (zpz hu.at_)),hb⟩,h.sep⟩
theorem Rows3.base {B B':Nat} {w:World} {v1 v2 v3:Value} {b:Blk} (h:Rows3 B w v1 v2 v3 b) (hB:B'≤B):Rows3 B' w v1 v2 v3 b:=
 ⟨zxv h.at_ hB,zxv h.pages hB,zxv h.ops hB,h.d12,h.d13,h.d23⟩
section
variable {w:World} {g n p:Nat} {gs:List Nat} {M:MemP}
end
def ProgAt (w:World) (A:Option Addr) (n:Nat):Prop:=∀ j,j<n→∃ b off n0 n1 n2 n3 n4,A=some ⟨b,off,none⟩∧zac w Gs.nil b (off+j*5) [intV n0,intV n1,intV n2,intV n3,intV n4]
theorem ProgAt.later {w w':World} {A:Option Addr} {n:Nat} (h:ProgAt w A n) (hB:Below w.heap.size w w'):ProgAt w' A n:=fun j hj=>by
 obtain ⟨b,off,n0,n1,n2,n3,n4,e,h1,h2,h3⟩:=h j hj;exact ⟨b,off,n0,n1,n2,n3,n4,e,Nat.lt_of_lt_of_le h1 hB.size,by simp,fun i u hi=>by have:=h3 i u hi;simp only [World.cell?] at this⊢;rw [hB.block b h1];exact this⟩
theorem zwg {S:List Ow}:∀ {l m:List CV},zwf S l=true→zwf S m=true→zwf S (l++m)=true
 |[],_,_,h=>h
 |c::l,m,h1,h2=>by
  show (match oneS S c with|true=>zwf S (l++m)|false=>false)=true;have h1:(match oneS S c with|true=>zwf S l|false=>false)=true:=h1
  cases hc:oneS S c with
  |true=>rw [hc] at h1;exact zwg h1 h2
  |false=>rw [hc] at h1;cases h1
structure StC (L:List Value):Prop where
 len:L.length=24
 one:∀ S,zwf S (L.map .v)=true
theorem z6w (s:St):StC (stL s []):=⟨rfl,fun _=>rfl⟩
theorem StC.clen {L:List Value} (h:StC L):(L.map CV.v).length=24:=by rw [List.length_map];exact h.len
theorem zxs {L:List Value} (h:StC L) (x y:CV) (Z:List CV) (hZ:Z.length=26):z3z (z3z Z 0 (L.map .v)) 24 [x,y]=L.map .v++[x,y]:=by
 obtain ⟨Z1,z1,z2,rfl,h1⟩:∃ (Z1:List CV) (z1 z2:CV),Z=Z1++[z1,z2]∧Z1.length=24:=by
  refine ⟨Z.take 24,Z[24],Z[25],?_,by rw [List.length_take];omega⟩
  have:Z.drop 24=[Z[24],Z[25]]:=by
   rw [List.drop_eq_getElem_cons zO,List.drop_eq_getElem_cons zO,List.drop_eq_nil_of_le zO]
  rw [← this,List.take_append_drop]
 rw [z33 (L.map .v) Z1 0 (by rw [h.clen];omega) 24 zO [z1,z2],z32 (by rw [h1,h.clen])];show ((L.map CV.v++[z1,z2]).set 24 x).set 25 y=_;rw [List.set_append_right _ _ (by rw [h.clen];omega),h.clen,List.set_append_right _ _ (by rw [h.clen];omega),h.clen]
 rfl
theorem zmg {P:Program} {S:List Ow} {f:Fr} {place:Nat→Option (Nat×Nat)} {x y:Operand} {L:List Value} {c1 c2:CV} {Z:List CV} (hL:StC L) (hp0:place 0=some (0,24)) (hp1:place 1=some (24,2)) (hx:(f.ev x).okCells S=some (L.map .v)) (hy:(f.ev y).okCells S=some [c1,c2]) (hZ:Z.length=26):zmc P S f place [(0,x),(1,y)] Z=some (L.map .v++[c1,c2]):=by
 have h1:Nat.beq (L.map CV.v).length 24=true:=zdl hL.clen;have h2:Nat.ble (0+24) Z.length=true:=Nat.ble_eq_true_of_le zO;have h3:Nat.ble (24+2) (z3z Z 0 (L.map .v)).length=true:=Nat.ble_eq_true_of_le (by rw [z31];omega);simp only [zmc,hp0,hp1,hx,hy,h1,h2,h3,show Nat.beq [c1,c2].length 2=true from rfl];rw [zxs hL c1 c2 Z hZ]
theorem zmh {P:Program} {S:List Ow} {f:Fr} {place:Nat→Option (Nat×Nat)} {x:Operand} {L:List Value} {c1 c2:CV} {Z:List CV} (hL:StC L) (hp0:place 0=some (0,24)) (hx:(f.ev x).okCells S=some (L.map .v)) (hZ:Z.length=24):zmc P S f place [(0,x)] (Z++[c1,c2])=some (L.map .v++[c1,c2]):=by
 have h1:Nat.beq (L.map CV.v).length 24=true:=zdl hL.clen;have h2:Nat.ble (0+24) (Z++[c1,c2]).length=true:=Nat.ble_eq_true_of_le zV;simp only [zmc,hp0,hx,h1,h2];rw [z33 (L.map .v) Z 0 (by rw [hL.clen];omega) 24 zO [c1,c2],z32 (by rw [hZ,hL.clen])]
abbrev zxl (L:List Value) (c1 c2:CV):List CV:=L.map .v++[c1,c2]
theorem zxm {L:List Value} (h:StC L) (c1 c2:CV):(zxl L c1 c2).length=26:=by
 rw [List.length_append,h.clen];rfl
theorem zxn {L:List Value} (h:StC L) (S:List Ow) {c1 c2:CV} (h1:zwf S [c1,c2]=true):zwf S (zxl L c1 c2)=true:=zwg (h.one S) h1
theorem zxo (L:List Value) (x y:Value):(AV.p (.agg (zxl L (.v x) (.v y)))).val=some (.agg (L++[x,y]).toArray):=by
 rw [show zxl L (.v x) (.v y)=(L++[x,y]).map .v by rw [List.map_append];rfl];exact z9e _
theorem z81 (L:List Value) (hL:StC L) (k inf:Int) (w:World):Calls Tryz.prog 149 #[.agg L.toArray,intV k,u32V inf] w fun e w'=>e= .returned (.agg (L++[intV k,u32V inf]).toArray)∧Below w.heap.size w w':=by
 refine zfh [.agg L.toArray,intV k,u32V inf] Tryz.func149 Tryz.ntmps149 rfl zS ?_
 refine z3i ?_
 conv=>whnf
 obtain ⟨Z,hZ⟩:∃ Z:List CV,Z=List.map CV.v (stL ⟨0,fun _=>0,0,0,0,0,0,0,0⟩ [intV 0,u32V 0]):=⟨_,rfl⟩
 have hZl:Z.length=26:=(by rw [hZ];rfl);refine z2z (f':=[(1,one (intV k)),(2,one (u32V inf)),(3,.p (.c (.ref 0 0))),(6,.p (.c (.ref 1 0)))]) (S':=[.cells stT (L.map .v),.cells 169 Z]) (zkb rfl Tn (aI sM (aI ((aI rfl (Or.inl (by rw [hZ];rfl)))) trivial))) ?_;clear hZ;refine z3m ?_;(conv=>whnf);erw [zh1 hL.clen];(conv=>whnf);refine zmf (zxl L (.v (intV k)) (.v (u32V inf))) (zmg hL rfl rfl rfl rfl rfl) ?_;generalize hO:zxl L (.v (intV k)) (.v (u32V inf))=O;have hOl:O.length=26:=(by rw [← hO];exact zxm hL _ _)
 have hO1:∀ S,zwf S O=true:=fun S=>by rw [← hO];exact zxn hL S rfl
 conv=>whnf
 erw [zdl hOl]
 conv=>whnf
 erw [hO1]
 conv=>whnf
 erw [zdz (by rw [hOl,hZl])]
 conv=>whnf
 erw [show Nat.ble Z.length 8=false by rw [hZl];rfl]
 conv=>whnf
 erw [z32 (by rw [hOl,hZl])]
 refine zcg ?_
 conv=>whnf
 erw [zh1 hOl]
 conv=>whnf
 rw [← hO]
 exact zmp (zxo L _ _) fun w' hB=>⟨rfl,hB⟩
theorem z60 (s:St) (T:List Value) {j:Int} (h0:0≤j) (h1:j<16):((stL s T).map CV.v)[0+1+j.toNat*1]?=some (.v (u32V (s.R j))):=by
 rcases (by omega:j=0∨j=1∨j=2∨j=3∨j=4∨j=5∨j=6∨j=7∨j=8∨j=9∨j=10∨j=11∨j=12∨j=13∨j=14∨j=15) with rfl|rfl|rfl|rfl|rfl|rfl|rfl|rfl|rfl|rfl|rfl|rfl|rfl|rfl|rfl|rfl<;>rfl
abbrev regU (R:Int→Int) (d x:Int):Int→Int:=fun j=>if j=d then x else R j
theorem z61 (s:St) (T:List Value) {j:Int} (x:Int) (h0:0≤j) (h1:j<16):z3z ((stL s T).map CV.v) (0+1+j.toNat*1) [.v (u32V x)]=(stL {s with R:=regU s.R j x} T).map .v:=by
 rcases (by omega:j=0∨j=1∨j=2∨j=3∨j=4∨j=5∨j=6∨j=7∨j=8∨j=9∨j=10∨j=11∨j=12∨j=13∨j=14∨j=15) with rfl|rfl|rfl|rfl|rfl|rfl|rfl|rfl|rfl|rfl|rfl|rfl|rfl|rfl|rfl|rfl<;>rfl
theorem zs4 (l:List CV) {n m:Nat} (hl:l.length=n) (h:m≤n):Nat.ble m l.length=true:=Nat.ble_eq_true_of_le zO
theorem zs3 (l:List CV) {n:Nat} (hl:l.length=n) (h:8<n):Nat.ble l.length 8=false:=by rw [hl];exact zdy h
end Go.Proofs.YtocafomnnkmjfaaGreat
