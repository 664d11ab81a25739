import Derived.Test.YtocafomnnkmjfaaGreatK32
set_option maxRecDepth 100000
set_option maxHeartbeats 4000000
namespace Go.Proofs.YtocafomnnkmjfaaGreat
open Go.RowKit
theorem zjx {E:Em}:∀ j,j≤19→AllIt (zjv E j)
 |0,_=>AllIt.nil
 |j+1,h=>by
  refine AllIt.app (zjx j zO) ?_;unfold ent1
  split
  ·exact AllIt.one (zrh (.inr (.inl ⟨by omega,by omega⟩)) (z1m _) rlit (yac (v:=(j:Int)) zO).1 (yac (v:=(j:Int)) zO).2 none)
  ·exact AllIt.nil
theorem zju (E:Em) {ctx n:Int} (hc:word ctx) (hn:0≤n∧n≤64):AllIt (entE E ctx n):=by
 have w1:∀ x:Int,0≤x∧x<131072→word x∧zmv x=true:=fun x hx=>⟨by unfold word;omega,zmy hx⟩
 refine AllIt.app (zgw rlit hc) (AllIt.app ?_ (zjx 19 (Nat.le_refl _)));refine AllIt.cons (zrh (.inr (.inl zO)) rlit rlit (w1 112 zO).1 (w1 112 zO).2 none) ?_;refine AllIt.cons (zrh (.inr (.inl zO)) rlit rlit (w1 116 zO).1 (w1 116 zO).2 none) ?_;refine AllIt.cons (zrh (.inl rfl) rlit rlit (w1 n zO).1 (w1 n zO).2 none) ?_;refine AllIt.cons (zrh (.inr (.inr zO)) rlit rlit (w1 2 zO).1 (w1 2 zO).2 none) ?_;refine AllIt.cons (z7m _) ?_;exact AllIt.one (zrh (.inr (.inl zO)) rlit rlit (w1 112 zO).1 (w1 112 zO).2 none)
theorem zgn {E:Em} (hs:0≤E.size∧E.size≤1048576) (hp:word E.pred):∀ (l:List BOp) (k:Int),(∀ o∈l,o.ok∧znn o=true)→AllIt (zgk E k l)
 |[],_,_=>AllIt.nil
 |o::l,_,h=>AllIt.app (zny _ (h o (List.mem_cons_self ..)).1 (h o (List.mem_cons_self ..)).2 hs hp) (zgn hs hp l _ fun p hp=>h p (List.mem_cons_of_mem _ hp))
theorem z9y {b:Blk} (hv:z9o b=true):(1≤b.at_.length∧b.at_.length≤64)∧1≤b.ops.length∧b.ops.length≤2000:=by
 have h:=(z9z.1 hv).1;unfold zpo at h;simp only [Bool.and_eq_true,decide_eq_true_eq] at h;exact ⟨h.1.1.2,h.1.2⟩
theorem yaq {b:Blk} {a:List Int} {ctx size pred:Int} (hb:b.ok) (hv:z9o b=true) (hc:word ctx) (hs:0≤size∧size≤1048576) (hp:word pred):AllIt (yao b a ctx size pred):=
 AllIt.app (zju _ hc (zsv hb hv)) (zgn hs hp _ _ fun o ho=>⟨hb.ops o ho,z9w hv o ho⟩)
theorem yap {b:Blk} {a:List Int} {ctx size pred:Int} (hv:z9o b=true):(yao b a ctx size pred).length≤29+25*b.ops.length:=by
 obtain ⟨_,s,hs,_⟩:=z9z.1 hv;have h1:=zgm (E:=emE b a size pred) b.ops _ _ 0 hs;have h2:=zjt (E:=emE b a size pred) ctx (lenE b);unfold yao;rw [List.length_append];omega
theorem zgl (E:Em):∀ (l:List BOp) (k:Int),(zgk E k l).length≤27*l.length
 |[],_=>Nat.le_refl _
 |o::l,k=>by
  have h1:=(znx (E:=E) (ztr o k) o).1;have h2:=zgl E l (ztr o k);show (znw E (ztr o k) o++zgk E (ztr o k) l).length≤_;rw [List.length_append,List.length_cons];omega
def emX1 (b:Blk) (a:List Int) (ctx size:Int):EmX:={(emX0 a size).app (entE (emE b a size 0) ctx (lenE b)) with live:=(zs6 a 19:Nat),written:=(ybm b.ops:Nat)}
theorem zjd (b:Blk) (a:List Int) (ctx size:Int) (hal:∀ v,0≤v→v<28→ -1000≤getV a v∧getV a v≤1000):EmOk (emE b a size 0) 0 (emX1 b a ctx size):=⟨rfl,rfl,rfl,rfl,rfl,hal⟩
theorem zjc (b:Blk) (a:List Int) (ctx size:Int):(emX1 b a ctx size).code.length≤27∧(emX1 b a ctx size).sites.length≤27:=by
 have h:=zjt (E:=emE b a size 0) ctx (lenE b)
 constructor
 ·show ([]++(entE _ ctx (lenE b)).map (fun it:It=>it.i)).length≤27
  rw [List.nil_append,List.length_map];exact h
 ·show ([]++z5y 0 _).length≤27
  rw [List.nil_append];exact Nat.le_trans (z54 _ _) h
theorem zxc {E:Em} {X:EmX} (hok:EmOk E X.index X) (hc:X.code.length≤27∧X.sites.length≤27) {l:List BOp} (hl:l.length≤2000):EmP E (X.opsTo E l).index 0 (X.opsTo E l):=by
 have h:=zgl E l X.index;refine ⟨⟨hok.a,hok.size,hok.live,hok.written,rfl,hok.al⟩,?_,?_⟩
 ·show (X.code++(zgk E X.index l).map (·.i)).length≤_
  rw [List.length_append,List.length_map];omega
 ·show (X.sites++z5y X.code.length (zgk E X.index l)).length≤_
  have:=z54 X.code.length (zgk E X.index l);rw [List.length_append];omega
theorem yat (b:Blk) (a:List Int) (ctx size:Int):((emX1 b a ctx size).opsTo (emE b a size 0) b.ops).code=(yao b a ctx size 0).map (·.i)∧((emX1 b a ctx size).opsTo (emE b a size 0) b.ops).sites=z5y 0 (yao b a ctx size 0):=by
 constructor
 ·show ([]++(entE _ ctx (lenE b)).map (fun it:It=>it.i))++(zgk (emE b a size 0) 0 b.ops).map (fun it:It=>it.i)=(yao b a ctx size 0).map (fun it:It=>it.i)
  unfold yao;rw [List.nil_append,List.map_append]
 ·show ([]++z5y 0 (entE _ ctx (lenE b)))++z5y ([]++(entE _ ctx (lenE b)).map (fun it:It=>it.i)).length (zgk (emE b a size 0) 0 b.ops)=z5y 0 (yao b a ctx size 0)
  unfold yao;rw [z5z,List.nil_append,List.nil_append,List.length_map,Nat.zero_add]
theorem z8z (l:List It):z8x (l.map (·.i))=z8v l:=by
 unfold z8v;show ya5 ((l.map (fun it:It=>it.i)).map ya0)=_;rw [List.map_map];rfl
theorem zxo {k:Int} {fid:Nat} (h:zxn k=some (fid:Int)):fnOk Tryz.prog fid=true:=by
 by_cases hk:k=1∨k=2∨k=12∨k=13∨(16≤k∧k≤25)
 ·have h3:((zxn k).getD 0).toNat=fid:=by rw [h];exact Int.toNat_natCast _
  have:k=1∨k=2∨k=12∨k=13∨k=16∨k=17∨k=18∨k=19∨k=20∨k=21∨k=22∨k=23∨k=24∨k=25:=(by omega);subst h3;clear h hk
  rcases this with rfl|rfl|rfl|rfl|rfl|rfl|rfl|rfl|rfl|rfl|rfl|rfl|rfl|rfl<;>(show fnOk Tryz.prog _=true;kernel_rfl)
 ·unfold zxn at h
  simp only [show ¬k=1 by omega,show ¬k=2 by omega,show ¬k=12 by omega,show ¬k=13 by omega,show ¬k=16 by omega,show ¬k=17 by omega,show ¬k=18 by omega,show ¬k=19 by omega,show ¬k=20 by omega,show ¬k=21 by omega,show ¬k=22 by omega,show ¬k=23 by omega,show ¬k=24 by omega,show ¬k=25 by omega,if_false] at h
  cases h
theorem zxp {k:Int} (h:isOp k=true) (hp:zyy k=none):∃ fid:Nat,zxn k=some (fid:Int):=by
 unfold isOp at h;have h:=of_decide_eq_true h
 have hn:¬((3≤k∧k≤11)∨k=14∨k=15):=fun hh=>by
  unfold zyy at hp;rw [if_pos hh] at hp;cases hp
 have:k=1∨k=2∨k=12∨k=13∨k=16∨k=17∨k=18∨k=19∨k=20∨k=21∨k=22∨k=23∨k=24∨k=25:=by omega
 rcases this with rfl|rfl|rfl|rfl|rfl|rfl|rfl|rfl|rfl|rfl|rfl|rfl|rfl|rfl<;>exact ⟨_,rfl⟩
theorem zn3 (E:Em) (X:EmX) (o:BOp) (h:(zyy o.code).isSome=true):X.op E o=X.app (rdE E o.a 10++(rdE E o.b 11++([i3 ((zyy o.code).getD 0) (tgE E o.d) (rrE E o.a 10) (rrE E o.b 11)]++dnE E o.d))):=by
 have hc:(3≤o.code∧o.code≤11)∨o.code=14∨o.code=15:=by
  rcases Classical.em ((3≤o.code∧o.code≤11)∨o.code=14∨o.code=15) with h1|h1
  ·exact h1
  ·unfold zyy at h
   rw [if_neg h1] at h;cases h
 rw [zw6 X E o zO];unfold znw zyy;rw [if_neg zO,if_neg zO,if_neg zO,if_neg zO,if_pos zO,if_pos hc]
 rfl
theorem zb7 {w0:World} {G:Gs} {N:Nd} {f:Fr} {S:List Ow} {Q:Exit→Act→World→Prop} {Q':Act→World→Prop} {id:Nat} (h:AtQ w0 G N (.exit id) f S Q):AtQ w0 G N (.exit id) f S (Exit.then Q' Q):=⟨fun a w hg=>h.out a w hg⟩
abbrev coT:TypeId:=37
theorem ztq {w w':World} {S:List Ow} {r:Env} {R:Value→Option (DataW Unit×List MemPlace)} {cd:Int→DataW Unit} {n:Nat} {m:Int→Option Int} (hR:Rel w Gs.nil S r w') (i:Nat) (hi:S[i]?=some (ztp R cd n m)):∃ b,r.blk i=some b∧IMap R cd w' b n m∧w.heap.size≤b:=by
 obtain ⟨b,hb,hmap,_⟩:=hR.own i _ hi;exact ⟨b,hb,hmap,zoc hR hb⟩
theorem z6o {r:Env} {f:Fr} {a:Act} (hf:FDen r f a) (d:Nat) {i b:Nat} (h:f.get d= .p (.c (.mp i))) (hb:r.blk i=some b):a.tmps.getD d undef= .map (some b):=by
 have h1:=hf d;rw [h] at h1;obtain ⟨b',hb',hu⟩:=ziy h1;rw [hb] at hb';injection hb' with hb';subst hb';exact hu
def zaf (l:List It) (e:Ending) (w':World):Prop:=∃ A c,e= .returned (.tuple #[.agg #[strV (z8v l),.slice A (z5y 0 l).length c],.int .i64 0])∧SlAt w' w'.heap.size A ((z5y 0 l).flatMap z5s)
theorem zcr (L:List Value) (x:Value) (_hx:AV.of x=one x):avals [.p (.agg (L.map .v)),one x]=some [.agg L.toArray,x]:=by
 simp only [avals,AV.val,Pc.val,z9l L,CV.val]
theorem zma {P:Program} {S:List Ow} {f:Fr} {place:Nat→Option (Nat×Nat)} {x y:Operand} {L:List Value} {c c1 c2 c3 c4 c5:CV} {Z:List CV} (hL:(L.map CV.v).length=28) (hp0:place 0=some (0,28)) (hp1:place 1=some (28,1)) (hx:(f.ev x).okCells S=some (L.map .v)) (hy:(f.ev y).okCells S=some [c]) (hZ:∃ Z1 z,Z=Z1++[z,c1,c2,c3,c4,c5]∧Z1.length=28):zl8 P S f place [(0,x),(1,y)] Z=some (L.map .v++[c,c1,c2,c3,c4,c5]):=by
 obtain ⟨Z1,z,rfl,hl⟩:=hZ
 have h0:z38 (Z1++[z,c1,c2,c3,c4,c5]) 0 (L.map .v)=L.map .v++[z,c1,c2,c3,c4,c5]:=by
  rw [z4c (L.map .v) Z1 0 zO 28 zO [z,c1,c2,c3,c4,c5],z4b zO]
 have h1:Nat.beq (L.map CV.v).length 28=true:=zdl hL;have h2:Nat.ble (0+28) (Z1++[z,c1,c2,c3,c4,c5]).length=true:=Nat.ble_eq_true_of_le zV;have h3:Nat.ble (28+1) (L.map CV.v++[z,c1,c2,c3,c4,c5]).length=true:=Nat.ble_eq_true_of_le (by rw [List.length_append];simp only [List.length_cons,List.length_nil];omega);simp only [zl8,hp0,hp1,hx,hy,h1,h2,h0,h3,show Nat.beq [c].length 1=true from rfl];show some (List.set (L.map CV.v++[z,c1,c2,c3,c4,c5]) 28 c)=_;rw [List.set_append_right _ _ zO,hL]
 rfl
theorem zv2 {w:World} {b:Nat} {us:List Value} {t:TypeId} (h:w.heap[b]?=some (.cells us.toArray t (0,0))):ObjsAt w [b] [.cells t (us.map .v)]:=by
 refine ⟨rfl,fun i j x hi hj=>?_,fun g hg=>?_,fun i o ho=>?_⟩
 ·match i,j with
  |0,0=>rfl
  |0,j+1=>simp at hj
  |i+1,_=>simp at hi
 ·obtain rfl:=List.mem_singleton.1 hg
  exact zpt h
 ·match i with
  |0=>
   have ho:some _=some o:=ho;injection ho with ho;subst ho;exact ⟨b,us,rfl,h,zir us⟩
  |i+1=>simp at ho
theorem zjb {w w':World} {g B:Nat} {vC vS:Value} {X':EmX} (h:EmTo w w' g vC vS X') (hG:∀ b∈emG g vC vS,B≤b) (hB:B≤w.heap.size):Below B w w':=
 ⟨h.held.os,h.held.tape,h.held.output,h.held.size,fun k hk=>h.blk zO fun hm=>by have:=hG _ hm;omega⟩
theorem zfo {w:World} {G:Gs} {b off:Nat} {xs:List Value} (h:zac w Gs.nil b off xs) (hb:b∉G):zac w G b off xs:=⟨h.1,hb,h.2.2⟩
theorem z6i {w0 w:World} {gs:List Nat} {S:List Ow} {r:Env} (hR:Rel w0 ⟨gs,[]⟩ S r w) {A:Option Addr} {xs:List Value} (h:SlAt w0 w0.heap.size A xs) (hn:∀ b off,A=some ⟨b,off,none⟩→b∉gs):SlAt w w.heap.size A xs:=fun j u hj=>by
 obtain ⟨b,off,eA,hb,hc⟩:=h j u hj
 exact ⟨b,off,eA,Nat.lt_of_lt_of_le hb hR.size,(World.cell?_of_block (hR.old b hb fun hm=>by
  rcases hm with hm|hm
  ·exact hn b off eA hm
  ·cases hm)).trans hc⟩
section
variable {w:World}
theorem zjj (b:Blk) (A1 A2 A3:Option Addr) (c1 c2 c3:Nat) (a:List Int) (ctx size:Int) (hb:b.ok) (hv:z9o b=true) (h2:SlAt w w.heap.size A2 (b.pages.map (.int .i64))) (h3:OpsAt w w.heap.size A3 b.ops) (ha:a.length=28) (hva:za2 a=true) (hctx:word ctx) (hs:0≤size∧size≤1048576) (hal:∀ v,0≤v→v<28→ -1000≤getV a v∧getV a v≤1000):
  Calls Tryz.prog 25 #[.agg #[.slice A1 b.at_.length c1,.slice A2 b.pages.length c2,.slice A3 b.ops.length c3],.agg (alL a).toArray,.int .u32 ctx,.int .i64 size] w fun e w'=>zaf (yao b a ctx size 0) e w'∧Below w.heap.size w w':=by
 obtain ⟨⟨hl1,hl2⟩,hl3,hl4⟩:=z9y hv
 have hne:b.ops≠[]:=fun e=>by rw [e] at hl3;exact absurd hl3 (by decide)
 have hfm:=z9w hv;refine zfg [.agg #[.slice A1 b.at_.length c1,.slice A2 b.pages.length c2,.slice A3 b.ops.length c3],.agg (alL a).toArray,.int .u32 ctx,.int .i64 size] Tryz.func25 Tryz.ntmps25 rfl zS ?_;refine z3q ?_;(conv=>whnf);refine z3e ?_;refine z3q ?_;(conv=>whnf);refine ze2 rfl zK (fun r w' hR=>(z9x A1 A2 A3 c1 c2 c3 b w' hb ((h2.below hR.toBelow (Nat.le_refl _)).more hR.toBelow.size) ((SlAt.below h3 hR.toBelow (Nat.le_refl _)).more hR.toBelow.size))) ?_;rw [hv];(conv=>whnf);refine z3c rfl nF (fun _=>z3r (zcd ?_));have hcl:(List.map CV.v (alL a)).length=28:=(by rw [List.length_map,List.length_map];exact ha);refine z3e ?_;refine z3q ?_;(conv=>whnf);erw [zhx hcl];(conv=>whnf);refine ze2 (zcr (alL a) (.int .i64 9) rfl) zK (fun r w' hR=>by have:=z94 a ha w';rw [hva] at this;exact this) ?_;refine kB ?_;rw [show decide (size<0)=false from decide_eq_false zO];refine kA ?_;rw [show decide (size>1048576)=false from decide_eq_false zO];refine z3c rfl nF (fun _=>z3r (zcd ?_));refine z3q ?_;(conv=>whnf);erw [zhx hcl];(conv=>whnf);refine zmb ((alL a).map .v++[.v (.int .i64 size),.v (.slice none 0 0),.v (.slice none 0 0),.v (.int .u32 0),.v (.int .i64 0),.v (.int .u32 0)]) (zma hcl rfl rfl rfl rfl ⟨List.replicate 28 (.v (.int .i64 0)),_,rfl,rfl⟩) ?_;(conv=>whnf);refine z3n fun r w1 hR=>?_;obtain ⟨g,us,e1,e2,e3⟩:=hR.own 3 _ rfl;obtain rfl:=zis (us:=alL a++[.int .i64 size,.slice none 0 0,.slice none 0 0,.int .u32 0,.int .i64 0,.int .u32 0]) (by rw [List.map_append];exact e3);obtain ⟨pb,us0,f1,f2,f3⟩:=hR.own 0 _ rfl;obtain rfl:=zis (us:=[.slice A1 b.at_.length c1,.slice A2 b.pages.length c2,.slice A3 b.ops.length c3]) f3;obtain ⟨p8,us8,g1,g2,g3⟩:=hR.own 2 _ rfl;obtain rfl:=zis (us:=[.string ⟨#[]⟩,.slice none 0 0]) g3;have hB1:=hR.toBelow;have hgw:=zoc hR e1
 have hpg:pb≠g:=fun e=>by subst e;exact absurd (hR.inj 0 3 _ f1 e1) (by decide)
 have h8g:p8≠g:=fun e=>by subst e;exact absurd (hR.inj 2 3 _ g1 e1) (by decide)
 have h8w:=zoc hR g1;refine ⟨z6l [(2,.int .u32 ctx),(4,pV pb),(8,pV p8),(10,pV g)],fun a' hf=>z6u ⟨z6s hf rfl,z6q hf 4 rfl f1,z6q hf 8 rfl g1,z6q hf 10 rfl e1,trivial⟩,?_⟩
 have h1:EmAt w1 g (.slice none 0 0) (.slice none 0 0) (emX0 a size):=⟨e2,ha,⟨rfl,.inl ⟨rfl,rfl⟩⟩,⟨rfl,.inl ⟨rfl,rfl⟩⟩,nofun,nofun,nofun⟩
 have hG1:∀ x∈emG g (.slice none 0 0) (.slice none 0 0),x=g:=fun x hx=>by
  rcases zub.1 hx with h|h|h
  ·exact h
  ·cases h
  ·cases h
 have hz1:=hB1.size;clear hR e3 f3 g3;refine z3e (z3f 3 rfl rfl rfl ?_);(conv=>whnf);refine ⟨_,zd0 f2,rfl,?_⟩;(conv=>whnf);refine ⟨by kernel_rfl,fun r w2 us' hR hd=>?_⟩;obtain rfl:=zcs (xs:=[pV g,.agg #[.slice A1 b.at_.length c1,.slice A2 b.pages.length c2,.slice A3 b.ops.length c3],.int .u32 ctx]) rfl hd;have hB2:=hR.toBelow;have hbw:Below w.heap.size w w2:=zdg hB1 hB2 hz1
 refine (zj9 (emE b a size 0) a size w.heap.size (fun x hx=>by rw [hG1 x hx];exact hgw) hbw.size (h1.later hB2) hal rfl b A1 A2 A3 c1 c2 c3 ctx hctx (SlAt.below h3 hbw (Nat.le_refl _)) hne hb.lops hb.lat (zsv hb hv).1 (fun o ho=>?_)).mono fun e w3 ⟨he,hl0⟩=>⟨_,he,?_⟩
 ·exact ybs (hfm o ho)
 have hl:EmTo w1 w3 g (.slice none 0 0) (.slice none 0 0) (emX1 b a ctx size):=hl0.early hB2;clear hl0 hR hd hbw hB2;(conv=>whnf);refine zcd ?_;obtain ⟨vC,vS,h2',hG2⟩:=hl.out;have hbw3:Below w.heap.size w w3:=zdg hB1 (zjb hl (fun x hx=>by rw [hG1 x hx];exact hgw) hz1) (Nat.le_refl _);have e8:w3.heap[p8]?=some (.cells ([.string ⟨#[]⟩,.slice none 0 0]:List Value).toArray coT (0,0)):=hl.blkO g2 fun hm=>h8g (hG1 _ hm);have eb:w3.heap[pb]?=some (.cells ([.slice A1 b.at_.length c1,.slice A2 b.pages.length c2,.slice A3 b.ops.length c3]:List Value).toArray 28 (0,0)):=hl.blkO f2 fun hm=>hpg (hG1 _ hm)
 have h8n:p8∉emG g vC vS:=fun hm=>by
  rcases hG2 _ hm with h|h
  ·exact h8g (hG1 _ h)
  ·have:=zpt g2;omega
 have hGw:∀ x∈emG g vC vS,w.heap.size≤x:=fun x hx=>by
  rcases hG2 _ hx with h|h
  ·rw [hG1 _ h];exact hgw
  ·omega
 clear hl e2 f2 g2 h1;have hz3:=hbw3.size;refine z3q ?_;(conv=>whnf);refine ze6 (R:=i64R) (cd:=i64D) (n:=11) (m:=zyy) rfl zK (fun r w' hR=>zy1 w') ?_;(conv=>whnf);refine ze6 (R:=zm8) (cd:=fnCd) (n:=14) (m:=zxn) rfl zK (fun r w' hR=>zxq w') ?_;(conv=>whnf);refine z3n fun r w4 hR=>?_;obtain ⟨b1,q1,m1,z1⟩:=ztq hR 0 rfl;obtain ⟨b2,q2,m2,z2⟩:=ztq hR 1 rfl;refine ⟨z6l [(4,pV pb),(8,pV p8),(10,pV g),(11,.map (some b1)),(12,.map (some b2))],fun a' hf=>z6u ⟨z6s hf rfl,z6s hf rfl,z6s hf rfl,z6o hf 11 rfl q1,z6o hf 12 rfl q2,trivial⟩,?_⟩;have hB4:=hR.toBelow;have h4:=h2'.later hB4
 have n1:b1∉emG g vC vS:=fun hm=>by have:=h2'.lts _ hm;omega
 have n2:b2∉emG g vC vS:=fun hm=>by have:=h2'.lts _ hm;omega
 replace e8:=(hB4.block p8 (zpt e8)).trans e8
 replace eb:=(hB4.block pb (zpt eb)).trans eb
 replace hbw3:=zdg hbw3 hB4 hz3
 replace hz3:=hbw3.size
 clear hR q1 q2 h2' z1 z2 hB4;have hp1:=zjd b a ctx size hal;have hlen1:=zjc b a ctx size;have hops:OpsAt w4 w.heap.size A3 b.ops:=SlAt.below h3 hbw3 (Nat.le_refl _)
 have hwx:word (emX1 b a ctx size).written:=by
  have:=ybo b.ops fun o ho=>ybs (hfm o ho);show word ((ybm b.ops:Nat):Int);unfold word;omega
 have hE:EmTo w4 w4 g vC vS ((emX1 b a ctx size).opsTo (emE b a size 0) (b.ops.take 0)):=by
  rw [List.take_zero,zxb];exact EmTo.refl h4 (Below.refl _ _)
 generalize hX:emX1 b a ctx size=X1 at*;generalize hEE:emE b a size 0=E at*;have hEz:0≤E.size∧E.size≤1048576:=(by rw [← hEE];exact hs);have hEp:E.pred=0:=(by rw [← hEE];rfl);refine z3e ?_;refine z3q ?_;(conv=>whnf);refine ⟨_,zd1 (off:=0+2) eb rfl,?_⟩;(conv=>whnf);refine z3b ?_;refine z3j (fun j:{j:Nat//j≤b.ops.length}=>[(8,one (pV p8)),(10,one (pV g)),(11,one (.map (some b1))),(12,one (.map (some b2))),(46,one (.slice A3 b.ops.length c3)),(47,one (.int .i64 (b.ops.length:Int))),(48,one (.int .i64 (j.1:Int)))]) (fun j w'=>EmTo w4 w' g vC vS (X1.opsTo E (b.ops.take j.1))) (fun j=>b.ops.length-j.1) ⟨0,by omega⟩ Tn (fun r w' hR=>hE.later hR.toBelow) (fun j w' hJ=>?_);obtain ⟨j,hj⟩:=j;dsimp only at hJ⊢;refine z3q ?_;(conv=>whnf);refine z3q ?_;(conv=>whnf);refine ⟨fun hc=>?_,fun hc=>?_⟩
 ·have hlt:j<b.ops.length:=by simpa using hc
  obtain ⟨o,ho⟩:∃ o,b.ops[j]?=some o:=⟨_,List.getElem?_eq_getElem hlt⟩
  have hom:=List.mem_of_getElem? ho;have hok:=hb.ops o hom;have hoF:=zww hok (hfm o hom);have ho2:=zji hJ hGw hz3 hops;have hp:=zxc (E:=E) (X:=X1) (by rw [hp1.index];exact hp1) hlen1 (l:=b.ops.take j) (by rw [List.length_take];omega);have hwJ:word (X1.opsTo E (b.ops.take j)).written:=hwx
  have hnx:X1.opsTo E (b.ops.take (j+1))=(X1.opsTo E (b.ops.take j)).op E o:=by
   rw [zxd,List.take_add_one,ho];rfl
  generalize X1.opsTo E (b.ops.take j)=XJ at hJ hp hwJ hnx;(conv=>whnf);refine z3l (α:=Unit) (fun _=>[(8,one (pV p8)),(10,one (pV g)),(11,one (.map (some b1))),(12,one (.map (some b2))),(46,one (.slice A3 b.ops.length c3)),(47,one (.int .i64 (b.ops.length:Int))),(48,one (.int .i64 (j:Int)))]) (fun _ w2=>EmTo w4 w2 g vC vS (XJ.op E o)) ?_ fun _ w2 hl=>?_
  ·refine z3b ?_
   obtain ⟨bb,off,hA3,hcl⟩:∃ bb off,A3=some ⟨bb,off,none⟩∧zac w' Gs.nil bb (off+(j:Int).toNat*5) (opC o):=by
    obtain ⟨bb,off,rfl,_⟩:=OpsAt.open_ ho2 hl3;exact ⟨bb,off,rfl,zft ho2 (fun hm=>by rcases hm with hm|hm<;>cases hm) ho⟩
   rw [hA3];obtain ⟨vC5,vS5,h5',hn5,k5⟩:=hJ.now2;refine z3q ?_;(conv=>whnf)
   (refine ⟨⟨by omega,by omega⟩,?_⟩;(conv=>whnf))
   refine ⟨opC o,hcl,rfl,?_⟩;(conv=>whnf);refine z3n fun r w5 hR=>?_;obtain ⟨po,us,e1,e2,e3⟩:=hR.own 0 _ rfl;obtain rfl:=zis (us:=opC o) e3;have hB5:=hR.toBelow;have hpo:=zob h5' (zoc hR e1);refine ⟨z6l [(8,pV p8),(10,pV g),(11,.map (some b1)),(12,.map (some b2)),(14,pV po),(46,.slice (some ⟨bb,off,none⟩) b.ops.length c3),(47,.int .i64 (b.ops.length:Int)),(48,.int .i64 (j:Int))],fun a' hf=>z6u ⟨z6s hf rfl,z6s hf rfl,z6s hf rfl,z6s hf rfl,z6q hf 14 rfl e1,z6s hf rfl,z6s hf rfl,z6s hf rfl,trivial⟩,?_⟩;have h5:=h5'.later hB5;have hl5:=hJ.later hB5;clear hR e3 h5';refine z3e ?_;refine z3q ?_;(conv=>whnf);refine ⟨_,zd1 (off:=0+0) e2 rfl,?_⟩;(conv=>whnf);refine z0m rfl o.code rfl (m1.block (hl5.blk m1.lt n1)) (fun hm=>by rcases hm with hm|hm<;>cases hm) rfl (yan hok.code) ?_;(conv=>whnf);refine z3q ?_;(conv=>whnf);refine z3c rfl (fun hc=>?_) (fun hc=>?_)
   ·have hfp:=zn3 E XJ o hc
    refine z3e ?_;refine z3s (emG g vC5 vS5) (.q 0 (.q 1 (.q 2 (.q 4 (.q 5 (.q 6 (.alt 3 (.alt 7 (.q 8 (.q 9 .done)) .no) .no))))))) (fun w=>EmTo w5 w g vC5 vS5 XJ) (fun w hB=>EmTo.refl h5 hB) mixed zK zK ?_;(conv=>whnf);refine ⟨_,zpx e2 hpo (k:=0+2) (x:= .int .i64 o.a) rfl,?_⟩;(conv=>whnf);refine ⟨_,zpx e2 hpo (k:=0+3) (x:= .int .i64 o.b) rfl,?_⟩;(conv=>whnf);refine ⟨?_,trivial⟩;refine zry hp (by decide) o.a 10 hoF.a fun hp=>?_;(conv=>whnf);refine ⟨?_,trivial⟩;refine zry hp (by decide) o.b 11 hoF.b fun hp=>?_;(conv=>whnf);intro w6 _ hl;refine zcd ?_;refine z3e ?_;obtain ⟨vC6,vS6,h6,hn6,k6⟩:=hl.now2;have hb6:=hl.blkO e2 hpo;have hn6':=hn6 po (zpt e2) hpo;refine z3p (emG g vC6 vS6) (fun w=>EmTo w6 w g vC6 vS6 _) (fun w hB=>EmTo.refl h6 hB) ?_;(conv=>whnf);refine ⟨_,zpx hb6 hn6' (k:=0+1) (x:= .int .i64 o.d) rfl,?_⟩;(conv=>whnf);refine zrz hp o.d hoF.d ?_;(conv=>whnf);refine zr0 hp (by decide) ((zyy o.code).getD 0) (tgE E o.d) (rrE E o.a 10) (rrE E o.b 11) fun hp=>?_;(conv=>whnf);intro w7 _ hl7
    replace hl:=k6 _ _ hl7
    clear hl7 h6 k6 hb6 hn6 hn6';refine zcd ?_;refine z3e (z3f 3 rfl rfl rfl ?_);(conv=>whnf);refine ⟨_,zd1 (off:=0+1) (hl.blkO e2 hpo) rfl,?_⟩;(conv=>whnf);refine zr6 hl hp (by decide) o.d hoF.d fun hp w8 hl=>?_;(conv=>whnf);refine zcd ?_;refine z3u ?_;(conv=>whnf);refine zb7 (zb6 (zca () Tn fun r w9 hR=>?_));rw [hfp];simp only [zbj,List.append_assoc,List.cons_append,List.nil_append] at hl⊢;exact (k5 _ _ (hl.early hB5)).later hR.toBelow
   ·have hpn:zyy o.code=none:=by
     cases h:zyy o.code with
     |none=>rfl
     |some x=>rw [h] at hc;cases hc
    obtain ⟨fid,hf⟩:=zxp (zns (hfm o hom)).1 hpn;refine z3r (zcd ?_);refine z3f 6 rfl rfl rfl ?_;(conv=>whnf);refine ⟨_,zd1 (off:=0+0) e2 rfl,?_⟩;(conv=>whnf);refine z0l rfl o.code (fid:Int) rfl (m2.block (hl5.blk m2.lt n2)) (fun hm=>by rcases hm with hm|hm<;>cases hm) rfl (yan hok.code) hf ?_;(conv=>whnf);refine ⟨_,zd0 e2,rfl,?_⟩;(conv=>whnf);refine zr7 (.tuple #[]) hl5 (us:=[opV o]) rfl (zxo hf) (fun w vC1 vS1 k1=>z14 k1 hp hEp hEz hwJ o hoF fid hf) fun w8 hl=>?_;(conv=>whnf);refine zb4 (zca () Tn fun r w9 hR=>?_);exact hl.later hR.toBelow
  ·refine z3u ?_
   (conv=>whnf);refine ⟨((j+1:Nat):Int),by rw [show (j:Int)+1=((j+1:Nat):Int) by omega];exact wr64 zO,?_⟩;(conv=>whnf);exact zcc ⟨j+1,by omega⟩ Tn (fun r w3 hR=>by dsimp only;rw [hnx];exact hl.later hR.toBelow) (by show b.ops.length-(j+1)<b.ops.length-j;omega)
 ·have hj:j=b.ops.length:=by simp at hc;omega
  subst hj;rw [List.take_length] at hJ;(conv=>whnf);refine zcf (zb6 (zcd ?_));obtain ⟨vC5,vS5,h5,hn5,_⟩:=hJ.now2;have hw:=yat b a ctx size;rw [hX,hEE] at hw;have e85:=hJ.blkO e8 h8n;have h85:=hn5 p8 (zpt e8) h8n;have hbw5:Below w.heap.size w w':=zdg hbw3 (zjb hJ hGw hz3) (Nat.le_refl _);generalize X1.opsTo E b.ops=XF at h5 hw;obtain ⟨AC,cC,rfl⟩:=z2b h5.code;obtain ⟨AS,cS,rfl⟩:=z2b h5.sites;have hwok:=yaq (pred:=0) (a:=a) hb hv hctx hs yax;have hwl:=yap (a:=a) (ctx:=ctx) (size:=size) (pred:=0) hv
  have hvI:∀ i∈XF.code,z9p i=true∧i.ok:=fun i hi=>by
   rw [hw.1] at hi;obtain ⟨it,h1,rfl⟩:=List.mem_map.1 hi;exact hwok it h1
  have hlI:XF.code.length≤1000000000:=by rw [hw.1,List.length_map];omega
  have hnC:∀ x off,AC=some ⟨x,off,none⟩→x∉[p8]:=fun x off hx hm=>by
   subst hx;rw [List.mem_singleton] at hm;subst hm;exact h85 (zub.2 (.inr (.inl rfl)))
  have hnS:∀ x off,AS=some ⟨x,off,none⟩→x∉[p8]:=fun x off hx hm=>by
   subst hx;rw [List.mem_singleton] at hm;subst hm;exact h85 (zub.2 (.inr (.inr rfl)))
  have hg8:g∉(⟨[p8],[]⟩:Gs):=fun hm=>by
   rcases hm with hm|hm
   ·rw [List.mem_singleton] at hm
    exact h85 (zub.2 (.inl hm.symm))
   ·cases hm
  refine z3e ?_;refine z3v 8 0 p8 rfl ⟨[p8],[]⟩ [.cells coT [.v (.string ⟨#[]⟩),.v (.slice none 0 0)]] fun r2 w6 hR2=>?_;have hB6:=hR2.toBelow;have h6:=h5.later hB6;have e86:=(hB6.block p8 (zpt e85)).trans e85;refine ⟨_,z1x (zv2 e86),rfl,?_⟩;have hsC:=SlAt.of_own h6.code;have hsS:=SlAt.of_own h6.sites;have hbw6:=zdg hbw5 hB6 hbw5.size;clear hR2 hB6 e85 h5 hJ;refine z3u ?_;refine z23 (.q 0 (.q 1 (.q 2 (.q 3 (.q 5 (.q 6 (.q 7 (.q 8 (.alt 4 (.q 9 (.alt 10 (.q 11 .done) .no)) .no))))))))) mixed zK zK ?_;(conv=>whnf);refine ⟨_,zfo (zjf h6 (k:=1) (x:= .slice AC XF.code.length cC) rfl) (fun hm=>hg8 (zm5.1 hm)),?_⟩;(conv=>whnf);refine ⟨_,zfo (zjf h6 (k:=2) (x:= .slice AS XF.sites.length cS) rfl) (fun hm=>hg8 (zm5.1 hm)),?_⟩;(conv=>whnf);refine ⟨?_,trivial⟩;refine ze2 rfl zK (fun r w' hR=>z80 XF.code hvI AC cC hlI w' (z6i hR hsC hnC)) ?_;(conv=>whnf);refine ⟨?_,trivial⟩;(conv=>whnf);refine zcd ?_;refine z3u ?_;(conv=>whnf);refine zcg ?_;(conv=>whnf);refine ⟨fun r w9 u hR hd=>?_⟩;rw [AV.val_den (x:= .tuple #[.agg #[strV (z8x XF.code),.slice AS XF.sites.length cS],.int .i64 0]) rfl hd];have hsl:=z6i hR hsS hnS;rw [hw.1,z8z,hw.2];rw [hw.2] at hsl;refine ⟨⟨AS,cS,rfl,hsl⟩,zdg hbw6 (B1:=w.heap.size) ?_ (Nat.le_refl _)⟩;have hgr:=hR.growns
  exact ⟨hgr.os,hgr.tape,hgr.output,hgr.size,fun k hk=>hgr.block k (Nat.lt_of_lt_of_le hk hbw6.size) fun hm=>by
   rw [List.mem_singleton] at hm;omega⟩
end
def getN (l:List Int):Nat→Int
 |0=>0
 |j+1=>getN l j+(l[j]?.getD 0)*2^(8*j)
theorem zog {l:List Int} (hl:∀ x∈l,0≤x∧x<256):∀ j,0≤getN l j∧getN l j<2^(8*j)
 |0=>⟨Int.le_refl 0,(by decide:(0:Int)<1)⟩
 |j+1=>by
  obtain ⟨h1,h2⟩:=zog hl j
  have hb:0≤l[j]?.getD 0∧l[j]?.getD 0<256:=by
   cases h:l[j]? with
   |none=>exact ⟨Int.le_refl 0,by decide⟩
   |some x=>exact hl x (List.mem_of_getElem? h)
  show 0≤getN l j+l[j]?.getD 0*2^(8*j)∧getN l j+l[j]?.getD 0*2^(8*j)<2^(8*j+8);have hp:(0:Int)<2^(8*j):=Int.pow_pos (by decide);rw [Int.pow_add];generalize l[j]?.getD 0=b at hb⊢;generalize (2:Int)^(8*j)=z at h2 hp⊢;have e1:0≤b*z:=Int.mul_nonneg hb.1 (Int.le_of_lt hp);have e2:b*z≤255*z:=Int.mul_le_mul_of_nonneg_right zO (Int.le_of_lt hp);rw [show z*2^8=256*z by rw [Int.mul_comm];rfl];omega
theorem z5h {b:Int} {j:Nat} (hj:j<4) (h:0≤b*2^(8*j)∧b*2^(8*j)<4294967296):IntKind.u32.wrap (b*2^(min ((8:Int)*j).toNat IntKind.u32.bits))=b*2^(8*j):=by
 rw [show min ((8:Int)*j).toNat IntKind.u32.bits=8*j by show min ((8:Int)*j).toNat 32=8*j;omega,wr32];exact Int.emod_eq_of_lt h.1 h.2
theorem zop (l:List Int) (hl:∀ x∈l,0≤x∧x<256) (h4:l.length=4) (w:World):Calls Tryz.prog 34 #[strV l] w fun e w'=>e= .returned (.int .u32 (getN l 4))∧Below w.heap.size w w':=by
 refine zfg [strV l] Tryz.func34 Tryz.ntmps34 rfl zS ?_;refine z3q ?_;(conv=>whnf);refine z3q ?_;(conv=>whnf);refine z3e ?_;refine z3q ?_;(conv=>whnf);refine z3b ?_;refine z3j (fun j:{j:Nat//j≤4}=>[(0,one (strV l)),(3,one (.int .u32 (getN l j.1))),(4,one (.int .i64 (j.1:Int)))]) (fun _ w'=>Below w.heap.size w w') (fun j=>4-j.1) ⟨0,by omega⟩ Tn (fun r w' hR=>hR.toBelow) (fun j w' hJ=>?_);obtain ⟨j,hj⟩:=j;dsimp only at hJ⊢;refine z3e ?_;refine z3q ?_;(conv=>whnf);refine z0k l rfl rfl rfl ?_;(conv=>whnf);rw [h4];refine ⟨fun hc=>?_,fun hc=>?_⟩
 ·have hlt:j<4:=by simp at hc;omega
  refine kB ?_;rw [show decide ((j:Int)<4)=true from decide_eq_true zO];refine kA ?_;refine z3c rfl (fun _=>z3r (zcd ?_)) nT
  obtain ⟨b,hb⟩:∃ b,l[j]?=some b:=⟨_,List.getElem?_eq_getElem zO⟩
  have hbr:=hl b (List.mem_of_getElem? hb);have hg:=zog hl j;have hg1:=zog hl (j+1);have hs:getN l (j+1)=getN l j+b*2^(8*j):=(by show getN l j+(l[j]?.getD 0)*2^(8*j)=_;rw [hb];rfl);refine z3l (α:=Unit) (fun _=>[(0,one (strV l)),(3,one (.int .u32 (getN l (j+1)))),(4,one (.int .i64 (j:Int)))]) (fun _ w2=>Below w.heap.size w w2) ?_ fun _ w2 hB=>?_
  ·refine z3b ?_
   refine z3u ?_;(conv=>whnf);refine z0j l .i64 j b rfl rfl rfl rfl hb hbr ?_;(conv=>whnf);refine ⟨b,by rw [wr32];omega,?_⟩;(conv=>whnf);refine ⟨(8:Int)*j,wr64 zO,?_⟩;(conv=>whnf);have hp:(2:Int)^(8*(j+1))≤2^32:=(by rcases (by omega:j=0∨j=1∨j=2∨j=3) with rfl|rfl|rfl|rfl<;>decide);have hlt2:getN l (j+1)<4294967296:=Int.lt_of_lt_of_le hg1.2 hp;have hbz:0≤b*2^(8*j):=Int.mul_nonneg hbr.1 (Int.le_of_lt (Int.pow_pos (by decide)));refine ⟨by omega,b*2^(8*j),z5h hlt ⟨hbz,by omega⟩,?_⟩;(conv=>whnf);refine ⟨getN l (j+1),by rw [hs,wr32];exact Int.emod_eq_of_lt zO zO,?_⟩;(conv=>whnf);exact zb4 (zca () Tn fun r w3 hR=>zdg hJ hR.toBelow hJ.size)
  ·refine z3u ?_
   (conv=>whnf);refine ⟨((j+1:Nat):Int),by rw [show (j:Int)+1=((j+1:Nat):Int) by omega];exact wr64 zO,?_⟩;(conv=>whnf);exact zcc ⟨j+1,by omega⟩ Tn (fun r w3 hR=>zdg hB hR.toBelow hB.size) (by show 4-(j+1)<4-j;omega)
 ·have hj4:j=4:=by simp at hc;omega
  subst hj4;refine kB ?_;refine z3c (t:=false) rfl nF (fun _=>?_);refine z3u ?_;(conv=>whnf);refine zb7 (zcf (zb6 (zcd ?_)));refine z3q ?_;(conv=>whnf);refine z3u ?_;(conv=>whnf);refine zcg ?_;(conv=>whnf)
  exact zmj rfl fun w2 hB=>⟨rfl,zdg hJ hB hJ.size⟩
theorem zom {M:MemP} {n p:Nat} (hM:M.ok n p) {a:Int} (ha:0≤a) (h:¬a<(n:Int)):M.get a=0:=by
 unfold MemP.get;rw [List.getElem?_eq_none (by rw [hM.ld];omega)];rfl
theorem zui (M:MemP) (n p:Nat) (a:Int) (w:World) (g:Nat) (gs:List Nat) (hU:ObjsAt w (g::gs) (memS 0 n p M)) (hM:M.ok n p) (ha:word a):
  Calls Tryz.prog 91 #[.pointer (some ⟨g,0,none⟩),.int .u32 a] w fun e w'=>e= .returned (.int .u8 (M.get a))∧ObjsAt w' (g::gs) (memS 0 n p M)∧GrownBys w w' (g::gs):=by
 obtain ⟨g0,g1,g2,g3,g4,g5,hg⟩:=z56 hU;injection hg with hg0 hgs;subst hgs;subst hg0;have hw:0≤a∧a<4294967296:=ha;refine zfd [.p (.c (.ref 0 0)),one (.int .u32 a)] [.pointer (some ⟨g,0,none⟩),.int .u32 a] Tryz.func91 Tryz.ntmps91 rfl zS hU ⟨_,_,rfl,zix rfl,zc6 [.int .u32 a]⟩ ?_;(conv=>whnf);refine ze4 (pre:=[]) (suf:=[one (.int .u32 a)]) 0 n p M (.bool (decide (a<(n:Int)))) (fun i hi=>by rw [Nat.zero_add]) rfl rfl zK (fun w' g gs hk hU=>zue M n p a w' g gs hU hM ha) ?_;(conv=>whnf);refine ⟨fun hc=>?_,fun hc=>?_⟩
 ·have hc:¬a<(n:Int):=by simpa using hc
  conv=>whnf
  rw [zom hM hw.1 hc]
  exact zmh rfl rfl (fun i o h=>h) (zt6 n p M) fun w' h1 h2=>⟨rfl,h1,h2⟩
 ·have hc:a<(n:Int):=by simpa using hc
  obtain ⟨y,hy⟩:∃ y,M.data[a.toNat]?=some y:=⟨_,List.getElem?_eq_getElem (by rw [hM.ld];omega)⟩
  have hget:(List.map CV.v M.dV)[a.toNat]?=some (.v (zem (M.get a))):=by
   unfold MemP.get;rw [hy];exact z8i hy
  (conv=>whnf);refine ⟨⟨by omega,by omega⟩,?_⟩;(conv=>whnf);rw [show (List.map CV.v M.dV)[0+a.toNat*tsz Tryz.prog 5]?=some (.v (zem (M.get a))) by show (List.map CV.v M.dV)[0+a.toNat*1]?=_;rw [Nat.zero_add,Nat.mul_one];exact hget];(conv=>whnf)
  exact zmh rfl rfl (fun i o h=>h) (zt6 n p M) fun w' h1 h2=>⟨rfl,h1,h2⟩
abbrev hoT:TypeId:=72
structure HoAt (w:World) (h c m:Nat) (ms:List Nat) (us:List Value) (n p:Nat) (M:MemP) (base ctx size:Int):Prop where
 host:w.heap[h]?=some (.cells ([pV c,.int .u32 base,.int .u32 ctx,.int .i64 size]:List Value).toArray hoT (0,0))
 cpu:w.heap[c]?=some (.cells (us++[pV m]).toArray cpuT (0,0))
 ul:us.length=24
 mem:ObjsAt w (m::ms) (memS 0 n p M)
 hc:h≠c
 hm:h∉m::ms
 cm:c∉m::ms
theorem HoAt.later {w w':World} {h c m:Nat} {ms:List Nat} {us:List Value} {n p:Nat} {M:MemP} {base ctx size:Int} (ho:HoAt w h c m ms us n p M base ctx size) (hB:Below w.heap.size w w'):HoAt w' h c m ms us n p M base ctx size:=
 ⟨(hB.block h (zpt ho.host)).trans ho.host,(hB.block c (zpt ho.cpu)).trans ho.cpu,ho.ul,zv0 (zt6 n p M) ho.mem hB,ho.hc,ho.hm,ho.cm⟩
theorem HoAt.ptr {w:World} {h c m:Nat} {ms:List Nat} {us:List Value} {n p:Nat} {M:MemP} {base ctx size:Int} (ho:HoAt w h c m ms us n p M base ctx size):zac w Gs.nil c (0+24) [pV m]:=
 zd1 ho.cpu (by rw [List.getElem?_append_right (by rw [ho.ul];exact Nat.le_refl _),ho.ul];rfl)
section
variable {w:World} {h c m:Nat} {ms:List Nat} {us:List Value} {n p:Nat} {M:MemP} {base ctx size:Int}
theorem zof {M:MemP} {n p:Nat} (hM:M.ok n p) {a:Int} (ha:0≤a) (h:a+4≤4294967296):getN [M.get a,M.get (a+1),M.get (a+2),M.get (a+3)] 4=M.load a 0 4:=by
 rw [zte hM ha h];show 0+M.get a*2^(8*0)+M.get (a+1)*2^(8*1)+M.get (a+2)*2^(8*2)+M.get (a+3)*2^(8*3)=_;omega
theorem ya3 (ho:HoAt w h c m ms us n p M base ctx size) (hM:M.ok n p) (k:Int) (hk:0≤k∧k<64) (hctx:0≤ctx∧ctx≤4000000):
  Calls Tryz.prog 38 #[pV h,intV k] w fun e w'=>e= .returned (.int .u32 (M.load (ctx+4*k) 0 4))∧Below w.heap.size w w':=by
 have hg:=fun x=>zoo hM x;refine zfg [pV h,intV k] Tryz.func38 Tryz.ntmps38 rfl zS ?_;refine z3q ?_;(conv=>whnf);refine z3q ?_;(conv=>whnf);refine ⟨_,zd1 (off:=0+2) ho.host rfl,?_⟩;(conv=>whnf);refine ⟨4*k,wr64 zO,?_⟩;(conv=>whnf);refine ⟨4*k,by rw [wr32];omega,?_⟩;(conv=>whnf);refine ⟨ctx+4*k,by rw [wr32];omega,?_⟩;(conv=>whnf);refine z3q ?_;refine z23 (.q 0 (.q 1 (.q 2 (.q 3 (.q 4 (.q 5 (.q 6 (.q 7 (.q 9 (.q 10 (.q 11 (.q 12 (.q 13 (.q 14 (.q 15 (.q 16 (.q 17 (.q 19 (.q 20 (.q 21 (.q 22 (.q 23 (.q 24 (.q 25 (.q 26 (.q 27 (.q 29 (.q 30 (.q 31 (.q 32 (.q 33 (.q 34 (.q 35 (.q 36 (.q 37 (.alt 8 (.alt 18 (.alt 28 (.alt 38 (.alt 39 (.alt 40 (.alt 41 (.q 42 .done) .no) .no) .no) .no) .no) .no) .no)))))))))))))))))))))))))))))))))))) mixed zK zK ?_;(conv=>whnf);refine ⟨_,zd1 (off:=0+0) ho.host rfl,?_⟩;(conv=>whnf);refine ⟨_,ho.ptr,?_⟩;(conv=>whnf);refine ⟨_,zd1 (off:=0+0) ho.host rfl,?_⟩;(conv=>whnf);refine ⟨_,ho.ptr,?_⟩;(conv=>whnf);refine ⟨ctx+4*k+1,by rw [wr32];omega,?_⟩;(conv=>whnf);refine ⟨_,zd1 (off:=0+0) ho.host rfl,?_⟩;(conv=>whnf);refine ⟨_,ho.ptr,?_⟩;(conv=>whnf);refine ⟨ctx+4*k+2,by rw [wr32];omega,?_⟩;(conv=>whnf);refine ⟨_,zd1 (off:=0+0) ho.host rfl,?_⟩;(conv=>whnf);refine ⟨_,ho.ptr,?_⟩;(conv=>whnf);refine ⟨ctx+4*k+3,by rw [wr32];omega,?_⟩;(conv=>whnf);refine ⟨?_,trivial⟩;refine ze3 rfl zK ho.mem (fun w' hU=>zui M n p (ctx+4*k) w' m ms hU hM (by unfold word;omega)) ?_;(conv=>whnf);refine ⟨?_,trivial⟩;refine ze3 rfl zK ho.mem (fun w' hU=>zui M n p (ctx+4*k+1) w' m ms hU hM (by unfold word;omega)) ?_;(conv=>whnf);refine ⟨?_,trivial⟩;refine ze3 rfl zK ho.mem (fun w' hU=>zui M n p (ctx+4*k+2) w' m ms hU hM (by unfold word;omega)) ?_;(conv=>whnf);refine ⟨?_,trivial⟩;refine ze3 rfl zK ho.mem (fun w' hU=>zui M n p (ctx+4*k+3) w' m ms hU hM (by unfold word;omega)) ?_;(conv=>whnf);refine ⟨?_,trivial⟩;(conv=>whnf);refine ⟨?_,trivial⟩;refine z0e 0 4 4 [M.get (ctx+4*k),M.get (ctx+4*k+1),M.get (ctx+4*k+2),M.get (ctx+4*k+3)] rfl rfl rfl rfl rfl rfl rfl ?_;(conv=>whnf);refine ⟨?_,trivial⟩
 refine ze2 rfl zK (fun r w' hR=>zop [M.get (ctx+4*k),M.get (ctx+4*k+1),M.get (ctx+4*k+2),M.get (ctx+4*k+3)] (fun x hx=>by
  simp only [List.mem_cons,List.not_mem_nil,or_false] at hx
  rcases hx with rfl|rfl|rfl|rfl<;>exact hg _) rfl w') ?_
 rw [zof hM zO zO]
 conv=>whnf
 refine z3u ?_
 conv=>whnf
 refine zcg ?_
 conv=>whnf
 exact zmj rfl fun w2 hB=>⟨rfl,hB⟩
end
structure SkOk (E:Em) (N:Int) (it:It) (s:Sk):Prop where
 kind:1≤s.kind∧s.kind≤6
 live:s.live=0∨s.live=E.live
 index:0≤s.index∧s.index<N
 outer:¬(s.kind=2∨s.kind=3)→s.live=0∧s.index=0
 target:word s.target
 tgt0:s.kind≠4→s.kind≠6→s.target=0
 back:s.back=if s.kind=6 then 12 else 0
 ins3:s.kind=3→23≤it.i.op∧it.i.op≤26
 ins:s.kind≠3→it.i=⟨48,0,0,0,0⟩
def SitesOk (E:Em) (N:Int) (l:List It):Prop:=∀ it∈l,∀ s,it.s=some s→SkOk E N it s
section
variable {E:Em} {N:Int}
theorem SitesOk.nil:SitesOk E N []:=nofun
theorem SitesOk.app {l m:List It} (h1:SitesOk E N l) (h2:SitesOk E N m):SitesOk E N (l++m):=fun it h=>(List.mem_append.1 h).elim (h1 it) (h2 it)
theorem SitesOk.cons {it:It} {l:List It} (h1:∀ s,it.s=some s→SkOk E N it s) (h2:SitesOk E N l):SitesOk E N (it::l):=fun x h=>by
 rcases List.mem_cons.1 h with rfl|h
 ·exact h1
 ·exact h2 x h
theorem SitesOk.no {l:List It} (h:∀ it∈l,it.s=none):SitesOk E N l:=fun it hm s hs=>by rw [h it hm] at hs;cases hs
theorem zvh (op d a n:Int):SitesOk E N [iI op d a n]:= .no fun it h=>by rw [List.mem_singleton.1 h];rfl
theorem zvk (x y:It) (hx:x.s=none) (hy:y.s=none):SitesOk E N [x,y]:= .no fun it h=>by
 rcases List.mem_cons.1 h with rfl|h
 ·exact hx
 ·rw [List.mem_singleton.1 h];exact hy
theorem zvd (d n:Int):SitesOk E N (con2 d n):=zvk _ _ rfl rfl
theorem zvc (d n:Int):SitesOk E N (conE d n):=by unfold conE;split;exact zvh _ _ _ _;exact zvd _ _
theorem zvi (E':Em) (v s:Int):SitesOk E N (rdE E' v s):=by unfold rdE;split;exact .nil;exact zvh _ _ _ _
theorem zve (E':Em) (v:Int):SitesOk E N (dnE E' v):=by unfold dnE;split;exact zvh _ _ _ _;exact .nil
theorem zvj (E':Em):∀ j,SitesOk E N (svTo E' j)
 |0=> .nil
 |j+1=> .app (zvj E' j) (by unfold sv1;split;exact zvh _ _ _ _;exact .nil)
theorem zvf (E':Em):∀ j,SitesOk E N (zjv E' j)
 |0=> .nil
 |j+1=> .app (zvf E' j) (by unfold ent1;split;exact zvh _ _ _ _;exact .nil)
theorem no_ad (E':Em) (o:BOp):SitesOk E N (adE E' o):=by unfold adE;split;exact zvh _ _ _ _;exact .app (zvd _ _) (.no fun it h=>by rw [List.mem_singleton.1 h];rfl)
theorem z6a {kind k:Int} (hN:0≤k∧k<N) (hk:kind=2) (i:QI) (hi:i=⟨48,0,0,0,0⟩):∀ s,some (skIn E kind k)=some s→SkOk E N ⟨i,some (skIn E kind k)⟩ s:=fun s h=>by
 injection h with h;subst h;subst hk;subst hi;exact ⟨⟨(by decide:(1:Int)≤2),(by decide:(2:Int)≤6)⟩,.inr rfl,hN,fun h=>absurd (Or.inl rfl) h,yax,fun _ _=>rfl,rfl,fun h=>absurd h (by decide:¬(2:Int)=3),fun _=>rfl⟩
theorem z59 {k:Int} (hN:0≤k∧k<N) (i:QI) (hi:23≤i.op∧i.op≤26):∀ s,some (skIn E 3 k)=some s→SkOk E N ⟨i,some (skIn E 3 k)⟩ s:=fun s h=>by
 injection h with h;subst h;exact ⟨⟨(by decide:(1:Int)≤3),(by decide:(3:Int)≤6)⟩,.inr rfl,hN,fun h=>absurd (Or.inr rfl) h,yax,fun _ _=>rfl,rfl,fun _=>hi,fun h=>absurd rfl h⟩
theorem z6b {s0:Sk} (hN:0<N) (h1:s0.kind=1∨s0.kind=4∨s0.kind=5∨s0.kind=6) (h2:s0.live=0) (h3:s0.index=0) (h4:word s0.target) (h5:s0.kind≠4→s0.kind≠6→s0.target=0) (h6:s0.back=if s0.kind=6 then 12 else 0):∀ s,(zqv s0).s=some s→SkOk E N (zqv s0) s:=fun s h=>by
 injection h with h;subst h;exact ⟨by omega,.inl h2,by omega,fun _=>⟨h2,h3⟩,h4,h5,h6,fun h=>by omega,fun _=>rfl⟩
theorem zlb (hN:0<N) {n:Int} (hn:word n):SitesOk E N (exE E n):= .app (zvj E 19) (.cons (z6b hN (.inr (.inl rfl)) rfl rfl hn (fun h=>absurd rfl h) rfl) .nil)
theorem zat {k:Int} (hN:0≤k∧k<N) {o:BOp} (_hc:16≤o.code∧o.code≤19):SitesOk E N (accE E k o):=by
 have hl:ldE o.code=24∨ldE o.code=23:=by unfold ldE;split;exact .inl rfl;exact .inr rfl
 have h2:SitesOk E N [zqv (skIn E 2 k)]:= .cons (z6a hN rfl _ rfl) .nil
 unfold accE
 split
 ·exact h2
 ·refine .app (zvi E _ _) (.app (no_ad E o) (.app (zvc _ _) (.app (.app (zvh 35 13 12 2) h2) ?_)))
  split
  ·exact .app (zvi E _ _) (.cons (z59 hN _ (by show 23≤ldE o.code+2∧ldE o.code+2≤26;omega)) .nil)
  ·exact .app (.cons (z59 hN _ (by show 23≤ldE o.code∧ldE o.code≤26;omega)) .nil) (zve E _)
theorem zvg {l:List It} (h:(l.all fun it=>it.s.isNone)=true):SitesOk E N l:= .no fun it hm=>by
 have:=List.all_eq_true.1 h it hm;exact Option.isNone_iff_eq_none.1 this
theorem zn6 (hp:word E.pred) {k:Int} (hN:0≤k∧k<N) {o:BOp} (ho:word o.n):SitesOk E N (znw E k o):=by
 have hN0:0<N:=(by omega);have h2:SitesOk E N [zqv (skIn E 2 k)]:= .cons (z6a hN rfl _ rfl) .nil;unfold znw;by_cases c1:o.code=1
 ·rw [if_pos c1];exact .app (zvc _ _) (zve E _)
 rw [if_neg c1];by_cases c2:o.code=2
 ·rw [if_pos c2];exact .app (zvi E _ _) (.app (zvg rfl) (zve E _))
 rw [if_neg c2];by_cases c3:o.code=12
 ·rw [if_pos c3];exact .app (zvi E _ _) (.app (zvi E _ _) (.app (zvg rfl) (zve E _)))
 rw [if_neg c3];by_cases c4:o.code=13
 ·rw [if_pos c4];exact .app (zvi E _ _) (.app (zvi E _ _) (.app (zvg rfl) (zve E _)))
 rw [if_neg c4];by_cases c5:3≤o.code∧o.code≤15
 ·rw [if_pos c5];exact .app (zvi E _ _) (.app (zvi E _ _) (.app (zvg rfl) (zve E _)))
 rw [if_neg c5];by_cases c6:16≤o.code∧o.code≤19
 ·rw [if_pos c6];exact zat hN c6
 rw [if_neg c6];by_cases c7:o.code=21
 ·rw [if_pos c7];exact .app (zvi E _ _) (.app (zvh _ _ _ _) h2)
 rw [if_neg c7];by_cases c8:o.code=22
 ·rw [if_pos c8];exact h2
 rw [if_neg c8];by_cases c9:o.code=23
 ·rw [if_pos c9];exact .app (zvi E _ _) (.app (zvh _ _ _ _) (zlb hN0 ho))
 rw [if_neg c9];by_cases c10:o.code=24
 ·rw [if_pos c10];exact zlb hN0 ho
 rw [if_neg c10];by_cases c11:o.code=25
 ·rw [if_pos c11]
  exact .app (zvi E _ _) (.app (zvg rfl) (.app (zvj E 19) (.app (zvh _ _ _ _) (.app (zvd _ _) (.app (zvh 33 10 11 2) (.cons (z6b hN0 (.inr (.inr (.inr rfl))) rfl rfl hp (fun _ h=>absurd rfl h) rfl) (.cons (z6b hN0 (.inr (.inr (.inl rfl))) rfl rfl yax (fun _ _=>rfl) rfl) .nil)))))))
 rw [if_neg c11];exact .nil
theorem zf5 {s s1:Ck} {o:BOp} {x y:Bool} (h:zf1 s o x y=some s1):(o.code=20→o.n=(s.marks:Int)∧s1.marks=s.marks+1)∧(o.code≠20→s1.marks=s.marks):=by
 unfold zf1 at h;by_cases hc:(znn o&&zyw s o x y)=true
 ·rw [if_pos hc] at h
  by_cases c20:o.code=20
  ·rw [if_pos (by simpa using c20)] at h
   by_cases hm:(o.n==(s.marks:Int))=true
   ·rw [if_pos hm] at h
    injection h with h;subst h;exact ⟨fun _=>⟨by simpa using hm,rfl⟩,fun h=>absurd c20 h⟩
   ·rw [if_neg hm] at h;cases h
  ·rw [if_neg (by simpa using c20)] at h
   split at h
   ·injection h with h
    subst h;exact ⟨fun h=>absurd h c20,fun _=>rfl⟩
   ·cases h
 ·rw [if_neg hc] at h;cases h
theorem zgb:∀ (l:List BOp) (s s':Ck),zf8 s l=some s'→s.marks≤s'.marks
 |[],s,s',h=>by injection h with h;subst h;exact Nat.le_refl _
 |o::l,s,s',h=>by
  unfold zf8 at h
  split at h
  ·rename_i s1 hnx
   have:=zgb l s1 s' h;obtain ⟨h1,h2⟩:=zf5 hnx;by_cases c:o.code=20
   ·have:=(h1 c).2;omega
   ·have:=h2 c;omega
  ·cases h
theorem zgq (hp:word E.pred):∀ (l:List BOp) (s s':Ck) (k:Int),zf8 s l=some s'→(s'.marks:Int)=N→(0≤k∧k<N)→(∀ o∈l,word o.n)→SitesOk E N (zgk E k l)
 |[],_,_,_,_,_,_,_=> .nil
 |o::l,s,s',k,h,hN,hk,ho=>by
  unfold zf8 at h
  split at h
  ·rename_i s1 hnx
   have hm:=zgb l s1 s' h;obtain ⟨h1,h2⟩:=zf5 hnx
   have hk':0≤ztr o k∧ztr o k<N:=by
    unfold ztr;by_cases c:o.code=20
    ·rw [if_pos c];have:=h1 c;omega
    ·rw [if_neg c];exact hk
   exact .app (zn6 hp hk' (ho o (List.mem_cons_self ..))) (zgq hp l s1 s' _ h hN hk' fun p hp=>ho p (List.mem_cons_of_mem _ hp))
  ·cases h
end
theorem yaw {b:Blk} {a:List Int} {ctx size pred:Int} (hb:b.ok) (hv:z9o b=true) (hp:word pred):SitesOk (emE b a size pred) (b.at_.length:Int) (yao b a ctx size pred):=by
 obtain ⟨hh,s,hs,hm⟩:=z9z.1 hv;obtain ⟨hl,_⟩:=z9y hv;have hN:(0:Int)<(b.at_.length:Int):=(by omega);refine .app ?_ (zgq hp b.ops _ s 0 hs (by rw [hm]) zO fun o ho=>(hb.ops o ho).n);unfold entE;refine .app (zvd _ _) (.app ?_ (zvf _ 19));exact .app (l:=[iI 23 10 15 112,iI 23 11 15 116,iI 16 10 10 (lenE b),iI 35 11 10 2]) (zvg rfl) (.cons (z6b hN (.inl rfl) rfl rfl yax (fun _ _=>rfl) rfl) (zvh _ _ _ _))
theorem zj0 (E:Em) (ctx n:Int):8≤(entE E ctx n).length:=by
 unfold entE con2;simp only [List.length_append,List.length_cons,List.length_nil];omega
theorem yau (b:Blk) (a:List Int) (ctx size pred:Int):8≤(yao b a ctx size pred).length:=by
 have:=zj0 (emE b a size pred) ctx (lenE b);unfold yao;rw [List.length_append];omega
theorem yar {b:Blk} {a:List Int} {ctx size pred:Int} {k:Nat} {it:It} {s:Sk} (hk:(yao b a ctx size pred)[k]?=some it) (hs:it.s=some s) (h0:s.back≠0):8≤k:=by
 rcases Nat.lt_or_ge k 8 with h|h
 ·exfalso
  have h8:=zj0 (emE b a size pred) ctx (lenE b);unfold yao at hk;rw [List.getElem?_append_left zO] at hk;unfold entE con2 at hk
  rcases (by omega:k=0∨k=1∨k=2∨k=3∨k=4∨k=5∨k=6∨k=7) with rfl|rfl|rfl|rfl|rfl|rfl|rfl|rfl<;>(injection hk with hk;subst hk;first|(simp [iI] at hs;done)|(injection hs with hs;subst hs;exact h0 rfl))
 ·exact h
theorem z55:∀ (l:List It) (n idx:Nat) (s:SiteP),(z5y n l)[idx]?=some s→∃ k it sk,l[k]?=some it∧it.s=some sk∧s=z5t (n+k) sk
 |[],n,idx,s,h=>by simp [z5y] at h
 |x::l,n,idx,s,h=>by
  unfold z5y at h
  cases hx:x.s with
  |none=>
   rw [hx] at h;obtain ⟨k,it,sk,h1,h2,h3⟩:=z55 l (n+1) idx s h;exact ⟨k+1,it,sk,by simpa using h1,h2,by rw [h3,show n+1+k=n+(k+1) by omega]⟩
  |some s0=>
   rw [hx] at h
   match idx with
   |0=>
    have h:z5t n s0=s:=(by simpa using h);exact ⟨0,x,s0,rfl,hx,h.symm⟩
   |idx+1=>
    obtain ⟨k,it,sk,h1,h2,h3⟩:=z55 l (n+1) idx s (by simpa using h);exact ⟨k+1,it,sk,by simpa using h1,h2,by rw [h3,show n+1+k=n+(k+1) by omega]⟩
theorem z52:∀ (l:List It) (n i j:Nat) (s t:SiteP),i<j→(z5y n l)[i]?=some s→(z5y n l)[j]?=some t→s.off<t.off
 |[],n,i,j,s,t,_,h,_=>by simp [z5y] at h
 |x::l,n,i,j,s,t,hij,h,h2=>by
  unfold z5y at h h2
  cases hx:x.s with
  |none=>
   rw [hx] at h h2;exact z52 l (n+1) i j s t hij h h2
  |some s0=>
   rw [hx] at h h2
   match j,hij with
   |j+1,hij=>
    match i with
    |0=>
     have h:z5t n s0=s:=(by simpa using h);obtain ⟨k,it,sk,_,_,h3⟩:=z55 l (n+1) j t (by simpa using h2);rw [h3, ← h];show 4*(n:Int)<4*((n+1+k:Nat):Int);omega
    |i+1=>exact z52 l (n+1) i j s t zO (by simpa using h) (by simpa using h2)
structure BuiltOk (l:List SiteP) (n:Int):Prop where
 at_:∀ (i:Nat) (s:SiteP),l[i]?=some s→0≤s.off∧s.off%4=0∧s.off+4≤n∧0≤s.const∧s.const+8≤n
 inc:∀ (i:Nat) (s t:SiteP),l[i]?=some s→l[i+1]?=some t→s.off<t.off
theorem yas {b:Blk} {a:List Int} {ctx size pred:Int} (hb:b.ok) (hv:z9o b=true) (hp:word pred):BuiltOk (z5y 0 (yao b a ctx size pred)) (4*((yao b a ctx size pred).length:Int)):=by
 refine ⟨fun i s hs=>?_,fun i s t hs ht=>z52 _ 0 i (i+1) s t zO hs ht⟩;obtain ⟨k,it,sk,h1,h2,rfl⟩:=z55 _ 0 i s hs
 have hkl:k<(yao b a ctx size pred).length:=by
  rcases Nat.lt_or_ge k (yao b a ctx size pred).length with h|h
  ·exact h
  ·rw [List.getElem?_eq_none h] at h1;cases h1
 have h8:=yau b a ctx size pred;have hsk:=yaw (ctx:=ctx) hb hv hp it (List.mem_of_getElem? h1) sk h2;have hbk:=hsk.back;rw [Nat.zero_add];unfold z5t;dsimp only;by_cases h0:sk.back=0
 ·rw [if_pos h0];omega
 ·have h12:sk.back=12:=by
   rw [hbk] at h0⊢
   split at h0
   ·rename_i h6;rw [if_pos h6]
   ·exact absurd rfl h0
  have:=yar h1 h2 h0;rw [if_neg h0,h12];omega
theorem z50:∀ (l:List It) (n:Nat),(z5y n l).length≤l.length
 |[],_=>Nat.le_refl _
 |x::l,n=>by
  have:=z50 l (n+1);unfold z5y
  split
  ·rw [List.length_cons];omega
  ·rw [List.length_cons,List.length_cons];omega
theorem zbz (o:BOp) (vs:List Int) (M:MemP) (t:Tl):zbr o vs (M.tl t)=⟨(zbr o vs M).vs,(zbr o vs M).stays,(zbr o vs M).mem.tl t⟩:=by
 unfold zbr;by_cases c1:o.code=1
 ·rw [if_pos c1,if_pos c1]
 rw [if_neg c1,if_neg c1];by_cases c2:o.code=2
 ·rw [if_pos c2,if_pos c2]
 rw [if_neg c2,if_neg c2];by_cases c3:o.code=16∨o.code=17
 ·rw [if_pos c3,if_pos c3,zdd,zth]
  cases M.bad ((getV vs o.a+o.n)%4294967296) 1 0 (szN o.code)<;>rfl
 rw [if_neg c3,if_neg c3];by_cases c4:o.code=18∨o.code=19
 ·rw [if_pos c4,if_pos c4,zdd,z7v]
 rw [if_neg c4,if_neg c4];by_cases c5:o.code=21
 ·rw [if_pos c5,if_pos c5]
 rw [if_neg c5,if_neg c5];by_cases c6:o.code=22
 ·rw [if_pos c6,if_pos c6]
 rw [if_neg c6,if_neg c6];by_cases c7:zq9 o.code=true
 ·rw [if_pos c7,if_pos c7]
 ·rw [if_neg c7,if_neg c7]
theorem zky (ats:List Int) (t:Tl):∀ (l:List BOp) (i:Int) (vs:List Int) (M:MemP),zkt ats l i vs (M.tl t)=⟨(zkt ats l i vs M).out,(zkt ats l i vs M).mem.tl t⟩
 |[],_,_,_=>rfl
 |o::l,i,vs,M=>by
  unfold zkt;rw [zbz];dsimp only
  split
  ·rfl
  ·split
   ·rfl
   ·split
    ·exact zky ats t l _ _ _
    ·rfl
theorem zks (b:Blk) (vs:List Int) (M:MemP) (t:Tl):zkq b vs (M.tl t)=⟨(zkq b vs M).out,(zkq b vs M).mem.tl t⟩:=by
 unfold zkq
 split
 ·exact zky _ t _ _ _ _
 ·rfl
end Go.Proofs.YtocafomnnkmjfaaGreat
