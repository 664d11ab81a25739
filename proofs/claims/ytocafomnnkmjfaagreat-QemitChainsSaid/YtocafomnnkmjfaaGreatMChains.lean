import Derived.ProofKit
import Derived.OpenShut
import Derived.ShutString
import Derived.ChangeOld
import Derived.Below
import Derived.Lib.SmallJoins
import Derived.Deep.Strs
import Derived.Test.YtocafomnnkmjfaaGreatK38
set_option maxRecDepth 100000
set_option maxHeartbeats 4000000
namespace Go.Proofs.YtocafomnnkmjfaaGreat
open Go.RowKit
theorem yej {a:Int} (ha:word a):wrap32 a=z5e a:=by
 unfold word at ha;unfold wrap32 z5e
 split<;>omega
theorem op10 (a b:Int) (w:World) (ha:word a) (hb:word b):
  Calls Tryz.prog 183 #[.int .u32 a,.int .u32 b] w fun e w'=>e= .returned (.int .u32 (yao 10 a b))∧w=w':=by
 have HA:=Lib.hid ha;have HB:=Lib.hid hb;obtain ⟨g1,g2⟩:=ha;obtain ⟨g3,g4⟩:=hb
 go_enter Tryz.func183,Tryz.ntmps183
 go_wp2
 go_ret
 exact ⟨z1y (by simp [yao,yej HA.out]),rfl⟩
theorem fnNil (v:Value) (ps:List MemPlace) (h:zm2 v=some (.lit (.bool false),ps)):v= .nilFunc:=by
 unfold zm2 at h
 split at h
 ·split at h
  ·simp at h
  ·cases h
 ·rfl
 ·cases h
theorem yd8 (w:World):(zeroValue 223).run Tryz.prog w= .ok .nilFunc w:=by kernel_rfl
def opsF:Int→Option Int:=mput (mput (mput (mput (mput (mput (mput (mput (mput (mput (mput (mput (mput (fun _=>none) 3 176) 4 177) 5 178) 6 179) 7 180) 8 181) 9 182) 10 183) 11 184) 12 185) 13 186) 14 188) 15 189
theorem yeb (w:World):
  Calls Tryz.prog 143 #[] w fun e w'=>∃ b,e= .returned (.map (some b))∧IMap zm2 fnCd w' b 13 opsF∧Below w.heap.size w w':=by
 have hmm:= @run_makeMap Tryz.prog;have hT:=Tryz.underlying225;have m2:=IMap.made (R:=zm2) (cd:=fnCd) w;obtain ⟨w3,r3,m3,g3⟩:=m2.put zm3 hT zO (k:=3) (x:=176) (by decide) (by decide);obtain ⟨w4,r4,m4,g4⟩:=m3.put zm3 hT zO (k:=4) (x:=177) (by decide) (by decide);obtain ⟨w5,r5,m5,g5⟩:=m4.put zm3 hT zO (k:=5) (x:=178) (by decide) (by decide);obtain ⟨w6,r6,m6,g6⟩:=m5.put zm3 hT zO (k:=6) (x:=179) (by decide) (by decide);obtain ⟨w7,r7,m7,g7⟩:=m6.put zm3 hT zO (k:=7) (x:=180) (by decide) (by decide);obtain ⟨w8,r8,m8,g8⟩:=m7.put zm3 hT zO (k:=8) (x:=181) (by decide) (by decide);obtain ⟨w9,r9,m9,g9⟩:=m8.put zm3 hT zO (k:=9) (x:=182) (by decide) (by decide);obtain ⟨w10,r10,m10,g10⟩:=m9.put zm3 hT zO (k:=10) (x:=183) (by decide) (by decide);obtain ⟨w11,r11,m11,g11⟩:=m10.put zm3 hT zO (k:=11) (x:=184) (by decide) (by decide);obtain ⟨w12,r12,m12,g12⟩:=m11.put zm3 hT zO (k:=12) (x:=185) (by decide) (by decide);obtain ⟨w13,r13,m13,g13⟩:=m12.put zm3 hT zO (k:=13) (x:=186) (by decide) (by decide);obtain ⟨w14,r14,m14,g14⟩:=m13.put zm3 hT zO (k:=14) (x:=188) (by decide) (by decide);obtain ⟨w15,r15,m15,g15⟩:=m14.put zm3 hT zO (k:=15) (x:=189) (by decide) (by decide);have hT':=Lib.hid hT;clear hT
 have hB:Below w.heap.size w w15:=by
  have h:=(Below.refl w.heap.size w).alloc (Nat.le_refl _) (.map #[] 0);have h:=h.grown g3 (by simp) (fun k e=>by cases e;exact Nat.le_refl _);have h:=h.grown g4 h.size (fun k e=>by cases e;exact Nat.le_refl _);have h:=h.grown g5 h.size (fun k e=>by cases e;exact Nat.le_refl _);have h:=h.grown g6 h.size (fun k e=>by cases e;exact Nat.le_refl _);have h:=h.grown g7 h.size (fun k e=>by cases e;exact Nat.le_refl _);have h:=h.grown g8 h.size (fun k e=>by cases e;exact Nat.le_refl _);have h:=h.grown g9 h.size (fun k e=>by cases e;exact Nat.le_refl _);have h:=h.grown g10 h.size (fun k e=>by cases e;exact Nat.le_refl _);have h:=h.grown g11 h.size (fun k e=>by cases e;exact Nat.le_refl _);have h:=h.grown g12 h.size (fun k e=>by cases e;exact Nat.le_refl _);have h:=h.grown g13 h.size (fun k e=>by cases e;exact Nat.le_refl _);have h:=h.grown g14 h.size (fun k e=>by cases e;exact Nat.le_refl _);have h:=h.grown g15 h.size (fun k e=>by cases e;exact Nat.le_refl _);exact h
 have HM:=Lib.hid m15;have HBB:=Lib.hid hB;clear hB m2 m3 g3 m4 g4 m5 g5 m6 g6 m7 g7 m8 g8 m9 g9 m10 g10 m11 g11 m12 g12 m13 g13 m14 g14 m15 g15;simp only [fnMk,show (176:Int).toNat=176 from rfl] at r3;simp only [fnMk,show (177:Int).toNat=177 from rfl] at r4;simp only [fnMk,show (178:Int).toNat=178 from rfl] at r5;simp only [fnMk,show (179:Int).toNat=179 from rfl] at r6;simp only [fnMk,show (180:Int).toNat=180 from rfl] at r7;simp only [fnMk,show (181:Int).toNat=181 from rfl] at r8;simp only [fnMk,show (182:Int).toNat=182 from rfl] at r9;simp only [fnMk,show (183:Int).toNat=183 from rfl] at r10;simp only [fnMk,show (184:Int).toNat=184 from rfl] at r11;simp only [fnMk,show (185:Int).toNat=185 from rfl] at r12;simp only [fnMk,show (186:Int).toNat=186 from rfl] at r13;simp only [fnMk,show (188:Int).toNat=188 from rfl] at r14;simp only [fnMk,show (189:Int).toNat=189 from rfl] at r15
 go_enter Tryz.func143,Tryz.ntmps143
 go_wp2
 go_ret
 exact ⟨_,rfl,HM.out,HBB.out⟩
theorem yea (a b:Int) (w:World) (ha:word a) (hb:word b):
  Calls Tryz.prog 92 #[.int .i64 10,.int .u32 a,.int .u32 b] w fun e w'=>e= .returned (.int .u32 (yao 10 a b))∧Below w.heap.size w w':=by
 have HA:=Lib.hid ha;have HB:=Lib.hid hb;clear ha hb;have hf:Hid (opsF 10=some 183):=(by unfold Hid opsF;simp [mput])
 go_enter Tryz.func92,Tryz.ntmps92
 go_wp2_with (first|(go_at_call 143;refine (yeb _).mono ?_;rintro e w1 ⟨m1,rfl,him,hb1⟩;have hl:=him.look zm3 (_x0:=0) (k:=10) Tryz.underlying225 (yd8 _) rfl fnNil (by decide);rw [hf.out] at hl;simp only [Option.map_some,Option.getD_some,Option.isSome_some,fnMk,show (183:Int).toNat=183 from rfl] at hl;clear him)|(go_at_call 183;refine (op10 a b _ HA.out HB.out).mono ?_;rintro e w' ⟨rfl,rfl⟩))
 go_ret
 exact ⟨rfl,hb1⟩
open Go.ChangeShapes Go.WideShapes Go.ChangeAt Go.RowKit
theorem ownK:ownKnob Tryz.prog.godebug=none:=by kernel_rfl
theorem ycm:laidOutB Tryz.prog=true:=by kernel_rfl
theorem ydx {n:Int} (h:(Lit.int .u32 n).wf=true):word n:=by
 simp [Lit.wf,IntKind.min,IntKind.max,IntKind.signed,IntKind.bits] at h;unfold word;omega
theorem yds {H:Type} {enc:TypeId×Value→H} {W:World} {x:Int} {d:DataW H} {p:List MemPlace} (h:DataW.Trod enc Tryz.prog W 0 (fun _=>true) true 41 (.int .u32 x) d p):word x:=by
 obtain ⟨fuel,hf⟩:=h;obtain ⟨z,e1,_,e3⟩:=DataW.trod_int Tryz.underlying41 hf;simp [Value.cells] at e1;obtain rfl:=e1;exact ydx e3
theorem ydy {w0:World} {G:Gs} {S:List Ow} {K:AV→List Ow→Prop} (is:List QI) (j n c:Nat) {t:TypeId} (hj:S[j]?=some (.cells t ((is.flatMap iqL).map .v))) (hn:is.length=n) (hv:∀ i∈is,z9f i=true∧i.ok) (hlen:n≤1000000000) (hK:K (AV.of (strV (z8n is))) S):CallS Tryz.prog w0 G 75 [.p (.c (.sl j 0 n c))] S K:=by
 subst hn;refine ⟨by kernel_rfl,fun r w us hR hd=>?_⟩;obtain ⟨u,l,rfl,d1,d2⟩:=hd;obtain rfl:l=[]:=d2;obtain ⟨q,hq,rfl⟩:=zix d1;obtain ⟨q',vs,e1,e2,e3⟩:=hR.own j _ hj;rw [hq] at e1;injection e1 with e1;subst e1;obtain rfl:=zio e3
 refine (z8q is hv _ c hlen w (SlAt.mk_ (zpn e2) fun i u hi=>by simp [World.cell?,e2,hi])).mono fun e w' ⟨he,hB⟩=>⟨_,_,_,r,he,AV.of_den r _,hR.below hB,Env.le.refl r,hK⟩
def sysI:QI:=⟨48,0,0,0,0⟩
theorem yee:z9f sysI=true∧sysI.ok:=⟨rfl,⟨(show (0:Int)≤48∧(48:Int)<64 by omega),r00,r00,r00,yan⟩⟩
def unL:List Int:=putL (yaq sysI)
theorem yeg (i:QI):z8n [i]=putL (yaq i):=by
 show yav [yaq i]=_;unfold yav;simp
theorem yeh (w:World):Calls Tryz.prog 45 #[] w fun e w'=>e= .returned (strV unL)∧Below w.heap.size w w':=by
 refine zfc [] Tryz.func45 Tryz.ntmps45 rfl (by simp) ?_;refine z3i ?_;(conv=>whnf);refine z3i ?_;(conv=>whnf);refine ydy [sysI] 0 1 1 rfl rfl (fun i hi=>by rw [List.mem_singleton.1 hi];exact yee) (by decide) ?_;rw [yeg];(conv=>whnf);refine z3m ?_;(conv=>whnf);refine zce ?_;(conv=>whnf)
 exact zmf rfl fun w2 hB=>⟨rfl,hB⟩
def ydz (a b:Int):QI:=⟨40,0,0,0,yao 10 ((b-a)%4294967296) 2⟩
def yd2 (a b:Int):Option (List Int):=if (b-a)%4294967296%4=0∧z9f (ydz a b)=true then some (putL (yaq (ydz a b))) else none
abbrev yd3 (x:Option (List Int)):Value:= .tuple #[strV (x.getD []),intV (if x.isSome then 0 else 13)]
theorem yd1 (a b:Int):word (ydz a b).imm:=by
 show word (yao 10 _ 2);unfold yao;simp only [show ¬(10:Int)=3 by decide,show ¬(10:Int)=4 by decide,show ¬(10:Int)=5 by decide,show ¬(10:Int)=6 by decide,show ¬(10:Int)=7 by decide,show ¬(10:Int)=8 by decide,show ¬(10:Int)=9 by decide,if_false,if_true];exact yas _
theorem yd0 (a b:Int):(ydz a b).ok:=⟨(show (0:Int)≤40∧(40:Int)<64 by omega),r00,r00,r00,yd1 a b⟩
theorem yd5 (a b:Int) (w:World):Calls Tryz.prog 39 #[.int .u32 a,.int .u32 b] w fun e w'=>e= .returned (yd3 (yd2 a b))∧Below w.heap.size w w':=by
 refine zfc [.int .u32 a,.int .u32 b] Tryz.func39 Tryz.ntmps39 rfl (by simp) ?_;refine z3i ?_;(conv=>whnf);refine z3i ?_;(conv=>whnf);refine ⟨(b-a)%4294967296,wr32 _,?_⟩;(conv=>whnf);refine zey rfl zK (fun r w' hR=>yea ((b-a)%4294967296) 2 w' (yas _) (by unfold word;omega)) ?_;(conv=>whnf);refine z25 ?_;refine z3i ?_;(conv=>whnf);refine ⟨(b-a)%4294967296,wr32 _,?_⟩;(conv=>whnf);refine ⟨by decide,(b-a)%4294967296%4,Int.tmod_eq_emod_of_nonneg (yas _).1,?_⟩;(conv=>whnf);refine ⟨fun h1=>?_,fun h1=>?_⟩
 ·have h1:(b-a)%4294967296%4=0:=by simpa using h1
  refine kB ?_;refine zey rfl zK (fun r w' hR=>z9t (ydz a b) w' (yd0 a b).op (yd1 a b)) ?_;refine kB ?_
  cases hv:z9f (ydz a b) with
  |false=>
   have hno:yd2 a b=none:=(by unfold yd2;rw [if_neg (by rw [hv];exact fun h=>Bool.noConfusion h.2)]);refine z23 (t:=true) rfl (fun _=>?_) nT;refine z3i ?_;(conv=>whnf);refine z3m ?_;(conv=>whnf);refine zcj (zce ?_);(conv=>whnf)
   exact zmf rfl fun w2 hB=>⟨by rw [hno];rfl,hB⟩
  |true=>
   have hyes:yd2 a b=some (putL (yaq (ydz a b))):=(by unfold yd2;rw [if_pos ⟨h1,hv⟩]);refine z23 (t:=false) rfl nF (fun _=>z3j (zcb ?_));refine z3i ?_;(conv=>whnf);refine ydy [ydz a b] 1 1 1 rfl rfl (fun i hi=>by rw [List.mem_singleton.1 hi];exact ⟨hv,yd0 a b⟩) (by decide) ?_;rw [yeg];(conv=>whnf);refine z3m ?_;(conv=>whnf);refine zce ?_;(conv=>whnf)
   exact zmf rfl fun w2 hB=>⟨by rw [hyes];rfl,hB⟩
 ·have h1:¬(b-a)%4294967296%4=0:=by simpa using h1
  refine kB ?_;have hno:yd2 a b=none:=(by unfold yd2;rw [if_neg (fun h=>h1 h.1)]);refine z23 (t:=true) rfl (fun _=>?_) nT;refine z3i ?_;(conv=>whnf);refine z3m ?_;(conv=>whnf);refine zcj (zce ?_);(conv=>whnf)
  exact zmf rfl fun w2 hB=>⟨by rw [hno];rfl,hB⟩
theorem yei (w:World):Calls Tryz.prog 35 #[] w fun e w'=>e= .returned (strV unL)∧Below w.heap.size w w':=by
 refine zfc [] Tryz.func35 Tryz.ntmps35 rfl (by simp) ?_;refine z3i ?_;(conv=>whnf);refine z3i ?_;(conv=>whnf);refine zey rfl zK (fun r w' hR=>zjk sysI w' yee.2.op yee.2.imm) ?_;rw [show encQ sysI=some (yaq sysI) from if_pos yee.1];(conv=>whnf);refine z3i ?_;(conv=>whnf);refine zey rfl zK (fun r w' hR=>zzj (yaq sysI) w' (zh7 yee.1 yee.2.imm).2) ?_;(conv=>whnf);refine z3m ?_;(conv=>whnf);refine zce ?_;(conv=>whnf)
 exact zmf rfl fun w2 hB=>⟨rfl,hB⟩
theorem yd6 (a b:Int) (w:World):Calls Tryz.prog 44 #[.int .u32 a,.int .u32 b] w fun e w'=>e= .returned (yd3 (yd2 a b))∧Below w.heap.size w w':=by
 refine zfc [.int .u32 a,.int .u32 b] Tryz.func44 Tryz.ntmps44 rfl (by simp) ?_;refine z3i ?_;(conv=>whnf);refine z3i ?_;(conv=>whnf);refine ⟨(b-a)%4294967296,wr32 _,?_⟩;(conv=>whnf);refine z3i ?_;(conv=>whnf);refine zey rfl zK (fun r w' hR=>(zwz 10 ((b-a)%4294967296) 2 w' (yas _) (by unfold word;omega)).mono fun e w2 ⟨k1,k2⟩=>⟨k1,k2▸Below.refl _ _⟩) ?_;(conv=>whnf);refine z3i ?_;(conv=>whnf);refine zey rfl zK (fun r w' hR=>zjk (ydz a b) w' (yd0 a b).op (yd1 a b)) ?_;(conv=>whnf);refine z25 ?_;refine z3i ?_;(conv=>whnf);refine ⟨by decide,(b-a)%4294967296%4,Int.tmod_eq_emod_of_nonneg (yas _).1,?_⟩;(conv=>whnf);refine ⟨fun h1=>?_,fun h1=>?_⟩
 ·have h1:(b-a)%4294967296%4=0:=by simpa using h1
  cases hv:z9f (ydz a b) with
  |false=>
   have hno:yd2 a b=none:=(by unfold yd2;rw [if_neg (by rw [hv];exact fun h=>Bool.noConfusion h.2)]);rw [show encQ (ydz a b)=none from if_neg (by rw [hv];exact Bool.noConfusion)];refine kB ?_;refine z23 (t:=true) rfl (fun _=>?_) nT;refine z3i ?_;(conv=>whnf);refine z3m ?_;(conv=>whnf);refine zcj (zce ?_);(conv=>whnf)
   exact zmf rfl fun w2 hB=>⟨by rw [hno];rfl,hB⟩
  |true=>
   have hyes:yd2 a b=some (putL (yaq (ydz a b))):=(by unfold yd2;rw [if_pos ⟨h1,hv⟩]);rw [show encQ (ydz a b)=some (yaq (ydz a b)) from if_pos hv];refine kB ?_;refine z23 (t:=false) rfl nF (fun _=>z3j (zcb ?_));refine z3i ?_;(conv=>whnf);refine zey rfl zK (fun r w' hR=>zzj (yaq (ydz a b)) w' (zh7 hv (yd1 a b)).2) ?_;(conv=>whnf);refine z3m ?_;(conv=>whnf);refine zce ?_;(conv=>whnf)
   exact zmf rfl fun w2 hB=>⟨by rw [hyes];rfl,hB⟩
 ·have h1:¬(b-a)%4294967296%4=0:=by simpa using h1
  refine kB ?_;have hno:yd2 a b=none:=(by unfold yd2;rw [if_neg (fun h=>h1 h.1)]);refine z23 (t:=true) rfl (fun _=>?_) nT;refine z3i ?_;(conv=>whnf);refine z3m ?_;(conv=>whnf);refine zcj (zce ?_);(conv=>whnf)
  exact zmf rfl fun w2 hB=>⟨by rw [hno];rfl,hB⟩
theorem yd9 {x:Int} (hx:word x):getN (putL x) 4=x:=by
 show 0+zee x 0*2^(8*0)+zee x 1*2^(8*1)+zee x 2*2^(8*2)+zee x 3*2^(8*3)=x;have e0:zee x 0=x/1%256:=rfl;have e1:zee x 1=x/256%256:=rfl;have e2:zee x 2=x/65536%256:=rfl;have e3:zee x 3=x/16777216%256:=rfl;have p0:(2:Int)^(8*0)=1:=rfl;have p1:(2:Int)^(8*1)=256:=rfl;have p2:(2:Int)^(8*2)=65536:=rfl;have p3:(2:Int)^(8*3)=16777216:=rfl;rw [e0,e1,e2,e3,p0,p1,p2,p3];unfold word at hx;omega
theorem yd4 {a b:Int} (_ha:word a) (hb:word b) (h4:(b-a)%4294967296%4=0):(a+(4*(ydz a b).imm)%4294967296)%4294967296=b:=by
 show (a+(4*yao 10 ((b-a)%4294967296) 2)%4294967296)%4294967296=b
 obtain ⟨d,hd⟩:∃ d,d=(b-a)%4294967296:=⟨_,rfl⟩
 rw [← hd] at h4⊢;have e:yao 10 d 2=z5e d/4%4294967296:=rfl;rw [e];unfold z5e;unfold word at _ha hb
 split<;>omega
theorem yec {P:Program} {w0:World} {G:Gs} {S:List Ow} {f:Fr} {o:Oper} {K:AV→Prop} {t t':TypeId} {x y:Operand} (l:List Int) (hop:o.op= .binOp .neq t x y t') (hx:f.ev x=one (strV l)) (hy:f.ev y=one (strV l)) (hk:K (one (.bool false))):QRun P w0 G S f o K:=by
 refine ⟨_,hk,fun r act hf=>⟨_,ziv _ _,fun w hR=>?_⟩⟩;have h1:=hf.ev x;have h2:=hf.ev y;rw [hx] at h1;rw [hy] at h2;simp [execOp,hop,ziy h1,ziy h2,strV,binOp,Op.stringOp,eqGuard]
section
variable {w:World}
theorem yef (i:QI) (a:Int) (hv:z9f i=true) (hok:i.ok) (h40:i.op=40):Calls Tryz.prog 46 #[qiV i,.int .u32 a] w fun e w'=>e= .returned (.tuple #[.int .u32 ((a+(4*i.imm)%4294967296)%4294967296),.bool true])∧Below w.heap.size w w':=by
 obtain ⟨op,d,x,y,imm⟩:=i;dsimp only at h40;subst h40;refine zfc [qiV ⟨40,d,x,y,imm⟩,.int .u32 a] Tryz.func46 Tryz.ntmps46 rfl (by simp) ?_;refine z3i ?_;(conv=>whnf);refine z3i ?_;(conv=>whnf);refine zey rfl zK (fun r w' hR=>z9r ⟨40,d,x,y,imm⟩ w' (show (0:Int)≤40∧(40:Int)<64 by decide) hok.imm) ?_;rw [hv];(conv=>whnf);refine z25 ?_;refine z3i ?_;refine kB ?_;refine z23 (t:=false) rfl (fun hc=>Bool.noConfusion (show false=true from hc)) (fun _=>z3j (zcb ?_));refine z3i ?_;(conv=>whnf);refine ⟨_,wr32 _,?_⟩;(conv=>whnf);refine ⟨_,wr32 _,?_⟩;(conv=>whnf);refine z3m ?_;(conv=>whnf);refine zce ?_;(conv=>whnf)
 exact zmf rfl fun w9 hB9=>⟨rfl,hB9⟩
theorem yd7 (a far:Int) (ha:word a):Calls Tryz.prog 11 #[.int .u32 a,intV far] w fun e w'=>e= .returned (.bool true)∧Below w.heap.size w w':=by
 refine zfc [.int .u32 a,intV far] Tryz.func11 Tryz.ntmps11 rfl (by simp) ?_;refine z3i ?_;(conv=>whnf);refine z3i ?_;(conv=>whnf);refine zey (x:= .bool true) (xs:=[]) rfl zK (fun r w' hR=>z2s) ?_;(conv=>whnf);refine z3i ?_;(conv=>whnf);refine ⟨_,wr32 _,?_⟩;(conv=>whnf);refine ⟨_,wr32 _,?_⟩;generalize hb:(a+far%4294967296)%4294967296=b;have hbw:word b:=(by rw [← hb];exact yas _);clear hb;(conv=>whnf);refine z3i ?_;(conv=>whnf);refine zey rfl zK (fun r w' hR=>yd5 a b w') ?_;(conv=>whnf);refine z3i ?_;(conv=>whnf);refine zey rfl zK (fun r w' hR=>yd6 a b w') ?_;(conv=>whnf)
 obtain ⟨x,hx⟩:∃ x,x=yd2 a b:=⟨_,rfl⟩
 rw [← hx];refine z25 ?_;refine z3i ?_;(conv=>whnf);refine yec (x.getD []) rfl rfl rfl ?_;refine kB ?_;rw [bne_self_eq_false];refine kB ?_;refine zey rfl zK (fun r w' hR=>yeh w') ?_;refine kB ?_;refine zey rfl zK (fun r w' hR=>yei w') ?_;refine kB ?_;refine yec unL rfl rfl rfl ?_;refine kB ?_;refine z23 (t:=false) rfl (fun hc=>Bool.noConfusion (show false=true from hc)) (fun _=>z3j (zcb ?_));by_cases hq:(b-a)%4294967296%4=0∧z9f (ydz a b)=true
 ·have hxs:x=some (putL (yaq (ydz a b))):=by rw [hx];unfold yd2;rw [if_pos hq]
  rw [hxs];obtain ⟨hd,hww⟩:=zh7 hq.2 (yd1 a b);have hcb:∀ y∈putL (yaq (ydz a b)),0≤y∧y<256:=zzb _ 4;have hg:=yd9 hww;have hok:=yd0 a b;have hat:=yd4 ha hbw hq.1;generalize hi:ydz a b=i at*;have h40:i.op=40:=(by rw [← hi];rfl);have hd0:i.d=0:=(by rw [← hi];rfl);refine z25 ?_;refine z3i ?_;(conv=>whnf);refine z23 (t:=false) rfl (fun hc=>Bool.noConfusion (show false=true from hc)) (fun _=>z3j (zcb ?_));refine z3i ?_;(conv=>whnf);refine zey rfl zK (fun r w' hR=>zoj (putL (yaq i)) hcb (zzc _ _) w') ?_;rw [hg];(conv=>whnf);refine zey rfl zK (fun r w' hR=>zh8 (yaq i) w' hww) ?_;rw [hd];(conv=>whnf);refine z3i ?_;(conv=>whnf);refine zey rfl zK (fun r w' hR=>yef i a hq.2 hok h40) ?_;rw [hat];(conv=>whnf);refine z3i ?_;refine kB ?_;rw [beq_self_eq_true];refine kB ?_;rw [show (((some i).getD QI.zero).d==0)=true from beq_iff_eq.2 hd0];refine z3m ?_;(conv=>whnf);refine zce ?_;(conv=>whnf)
  exact zmf rfl fun w9 hB9=>⟨rfl,hB9⟩
 ·have hxs:x=none:=by rw [hx];unfold yd2;rw [if_neg hq]
  rw [hxs];refine z25 ?_;refine z3i ?_;(conv=>whnf);refine z23 (t:=true) rfl (fun _=>?_) (fun hc=>Bool.noConfusion (show true=false from hc));refine z3i ?_;(conv=>whnf);refine z3m ?_;(conv=>whnf);refine zcj (zce ?_);(conv=>whnf)
  exact zmf rfl fun w9 hB9=>⟨rfl,hB9⟩
end
theorem yed (os:Os) (started:os.Started) (H:Type) (enc:TypeId×Value→H):
  ReturnsInHanded {} Tryz.checked os 11 .any (Rows.qemitChainsSpec.pre6 enc Tryz.prog Tryz.f11 Rows.qemitChainsRow.domain false) (Rows.qemitChainsSpec.post enc Tryz.prog Tryz.f11 false true false false):=by
 refine returnsInHanded_of_change (C:=Tryz.checked) ownK started zK Tryz.func11
  (ChangeSpec.witness6 (enc:=enc) (C:=Tryz.checked) false ⟨#[],#[.int .u32 0,.int .i64 0],[]⟩ 8 zK zK zK zK) ?_
 intro W base args ds gs before hval0 hW hcnd _;have hval:∀ (j:Nat) t v,Tryz.f11.params[j]?=some t→args[j]?=some v→Value.okWide Tryz.prog W .any base t v:=hval0;have hW':=hW;obtain ⟨p,q,hA0,hV,rfl,hfz,hnd⟩:=hW;have hA:DataW.TrodAll enc Tryz.prog W 0 (fun _=>true) true Tryz.f11.params.toList args.toList ds p:=hA0;rw [Tryz.params11] at hA hval;obtain ⟨v0,vs0,d0,ds0,p0,q0,hargs,rfl,rfl,h0,r0⟩:=trodAll_cons hA;obtain ⟨v1,vs1,d1,ds1,p1,q1,rfl,rfl,rfl,h1,r1⟩:=trodAll_cons r0;obtain ⟨rfl,rfl,rfl⟩:=trodAll_nil r1;obtain rfl:args= #[v0,v1]:=(by cases args;simp_all);obtain ⟨rfl,rfl⟩:=trodVars_none hV;clear hA0;obtain ⟨x0,rfl⟩:=okWide_int Tryz.underlying41 (hval 0 41 v0 rfl rfl);have hx0:=yds h0;obtain ⟨x1,rfl⟩:=okWide_int Tryz.underlying3 (hval 1 3 v1 rfl rfl);have k0:=h0;have k1:=h1;have lt0:∀ x∈p0,x.block<W.heap.size:=(by obtain ⟨m,hm⟩:=k0;exact DataW.trod_lt m _ _ _ hm);have lt1:∀ x∈p1,x.block<W.heap.size:=(by obtain ⟨m,hm⟩:=k1;exact DataW.trod_lt m _ _ _ hm);clear hval0;refine (yd7 x0 x1 hx0 (w:=W)).mono fun e W' ⟨he,bel⟩=>?_;subst he;exact ⟨_,rfl,_,_,_,[],_,[],hW',trodAll_mk1 (shut_bool Tryz.underlying4 _),(trodAll_cons_mk (Below.trod ycm zK (of_decide_eq_true zK) k0 bel lt0) (trodAll_cons_mk (Below.trod ycm zK (of_decide_eq_true zK) k1 bel lt1) trodAll_mk0)),rfl,bel.frame _,fun h=>by cases h⟩
theorem qemitChains_holds:Rows.QemitChainsSaid:=
 OpenClaim.holds_of_wide 11 Tryz.f11 rfl rfl rfl rfl rfl rfl rfl ⟨rfl,rfl,rfl,rfl,rfl⟩ rfl rfl rfl rfl rfl (by kernel_rfl) Tryz.func11 (by kernel_rfl)
  (of_decide_eq_true (by kernel_rfl)) (by unfold Func.isWrapper;first|(rw [if_pos (by decide+kernel)];kernel_rfl)|(rw [if_neg (by decide+kernel)];exact ⟨rfl,rfl⟩))
  (fun os started H enc _=>yed os started H enc)
end Go.Proofs.YtocafomnnkmjfaaGreat
#print axioms Go.Proofs.YtocafomnnkmjfaaGreat.qemitChains_holds
