import Derived.Test.YtocafomnnkmjfaaGreatK11
set_option maxRecDepth 100000
set_option maxHeartbeats 1000000
namespace Go.Proofs.YtocafomnnkmjfaaGreat
open Go.RowKit
theorem BodyOk.bin {l:List BOp} {W:Nat} {ch:Bool} (h:BodyOk l W ch) {c d a b:Int} (hc:3≤c∧c≤15) (hd:0≤d∧d<28∧d≠19) (ha:srcI W a) (hb:srcI W b):BodyOk (l++[⟨c,d,a,b,0⟩]) (if 20≤d then W|||2^d.toNat else W) (ch||decide (d<20)):=by
 have ha':=ha
 have hb':=hb
 obtain ⟨a1,a2,a3,a4⟩:=ha
 obtain ⟨b1,b2,b3,b4⟩:=hb
 have hD:hasD c=true:=by unfold hasD;rw [decide_eq_true_eq];omega
 have hA:hasA c=true:=by unfold hasA;rw [decide_eq_true_eq];omega
 have hB:hasB c=true:=by unfold hasB;rw [decide_eq_true_eq];omega
 have hI:isOp c=true:=by unfold isOp;rw [decide_eq_true_eq];omega
 have hL:leaves c=false:=by unfold leaves;rw [decide_eq_false_iff_not];omega
 have hS:stores c=false:=by unfold stores;rw [decide_eq_false_iff_not];omega
 have hw:writes ⟨c,d,a,b,0⟩=d:=by unfold writes;rw [if_pos hD]
 refine (h.snoc (o:=⟨c,d,a,b,0⟩) ⟨zux zU,zux zU,zux zU,zux zU,yap⟩ (by unfold zd7;rw [decide_eq_true_eq];dsimp only;omega) ?_ (fun h=>by rw [hL] at h;cases h) (fun v hv=>?_)).is ?_ ?_
 ·unfold znt
  dsimp only;rw [hI,hD,hA,hB,z6u ha',z6u hb'];have:zl3 true d=true:=(by unfold zl3;rw [if_pos rfl,decide_eq_true_eq];omega);rw [this];simp
 ·rcases z1a hv with rfl|rfl
  ·exact ha'
  ·exact hb'
 ·unfold zu5;rw [hw]
 ·unfold zu2
  rw [hw];dsimp only;rw [hS,Bool.false_or];congr 1;rw [decide_eq_decide];omega
theorem ycv {s:Ck} {o:BOp} (h:o.code≠23) (x:Bool):zf3 s o false x=zf3 s o false false:=by
 unfold zf3 zyp
 have:(o.code==23)=false:=by rw [beq_eq_false_iff_ne];exact h
 rw [this];rfl
theorem ycw:∀ {l:List BOp} {s s':Ck} {rest:List BOp},ckL s l=some s'→(∀ o∈l,o.code≠23)→rest≠[]→zga s (l++rest)=zga s' rest
 |[],s,s',rest,h,_,_=>by injection h with h;subst h;rfl
 |o::l,s,s',rest,h,hc,hr=>by
  simp only [ckL] at h
  split at h
  ·rename_i s1 h1
   have ih:=ycw h (fun p hp=>hc p (by simp [hp])) hr;show (match zf3 s o (l++rest).isEmpty _ with|some s'=>zga s' (l++rest)|none=>none)=_;have he:(l++rest).isEmpty=false:=(by cases l<;>cases rest<;>simp_all);rw [he,ycv (hc o zS),h1];exact ih
  ·cases h
theorem yeu {n:Int} (hn:word n) (ch:Bool):TailOk [⟨24,0,0,0,n⟩] ch:=by
 refine ⟨fun i W=>?_,fun o ho=>?_,by simp⟩
 ·cases ch<;>rfl
 ·simp at ho;subst ho
  exact ⟨zux zU,mid0,mid0,mid0,hn⟩
theorem ydo {a:Int} (h:0≤a∧a<19):zl3 true a=true:=by unfold zl3;rw [if_pos rfl,decide_eq_true_eq];omega
theorem yex {a:Int} (ha:0≤a∧a<19) (ch:Bool):TailOk [⟨25,0,a,0,0⟩] ch:=by
 refine ⟨fun i W=>?_,fun o ho=>?_,by simp⟩
 ·have h1:znt ⟨25,0,a,0,0⟩=true:=by
   show (isOp 25&&zl3 false 0&&zl3 true a&&zl3 false 0&&(false||true))=true;rw [ydo ha];rfl
  have h2:zyp ⟨i,W,ch⟩ ⟨25,0,a,0,0⟩ true false=true:=by cases ch<;>rfl
  have h3:(reads ⟨25,0,a,0,0⟩).all (z0u ⟨i,W,ch⟩)=true:=by
   show ([a].all (z0u ⟨i,W,ch⟩))=true;have:a<20:=(by omega);simp [z0u,this]
  show (match zf3 ⟨i,W,ch⟩ ⟨25,0,a,0,0⟩ true false with|some s'=>zga s' []|none=>none)=_;unfold zf3;rw [h1,h2,h3];show some (Ck.mk i W (ch||(false||false)))=_;simp
 ·simp at ho;subst ho
  exact ⟨zux zU,mid0,zux zU,mid0,yap⟩
theorem yev {a n m:Int} (ha:0≤a∧a<19) (hn:word n) (hm:word m) (ch:Bool):TailOk [⟨23,0,a,0,n⟩,⟨24,0,0,0,m⟩] ch:=by
 refine ⟨fun i W=>?_,fun o ho=>?_,by simp⟩
 ·have h1:znt ⟨23,0,a,0,n⟩=true:=by
   show (isOp 23&&zl3 false 0&&zl3 true a&&zl3 false 0&&(true||_))=true;rw [ydo ha];rfl
  have h2:zyp ⟨i,W,ch⟩ ⟨23,0,a,0,n⟩ false true=true:=by cases ch<;>rfl
  have h3:(reads ⟨23,0,a,0,n⟩).all (z0u ⟨i,W,ch⟩)=true:=by
   show ([a].all (z0u ⟨i,W,ch⟩))=true;have:a<20:=(by omega);simp [z0u,this]
  show (match zf3 ⟨i,W,ch⟩ ⟨23,0,a,0,n⟩ false true with|some s'=>zga s' [⟨24,0,0,0,m⟩]|none=>none)=_
  have h4:zf3 ⟨i,W,ch⟩ ⟨23,0,a,0,n⟩ false true=some ⟨i,W,ch⟩:=by
   unfold zf3;rw [h1,h2,h3];show some (Ck.mk i W (ch||(false||false)))=_;simp
  rw [h4];exact (yeu hm ch).run i W
 ·simp at ho
  rcases ho with rfl|rfl
  ·exact ⟨zux zU,mid0,zux zU,mid0,hn⟩
  ·exact ⟨zux zU,mid0,mid0,mid0,hm⟩
theorem yew:TailOk [⟨22,0,0,0,0⟩] false:=by
 refine ⟨fun i W=>rfl,fun o ho=>?_,by simp⟩;simp at ho;subst ho;exact ⟨zux zU,mid0,mid0,mid0,yap⟩
theorem yd0 {ats:List Int} {p:Int} {ops t:List BOp} {i W:Nat} {ch:Bool} (h:PreOk ops i W ch) (ht:TailOk t ch) (hi:1≤i) (hats:∀ x∈ats,word x) (hatl:ats.length=i) (hi2:i≤64) (hp:0≤p∧p<4096) (hlen:ops.length+t.length≤200):MadeOk ⟨ats,[p],ops++t⟩:=by
 refine ⟨⟨hats,fun x hx=>?_,fun o ho=>?_,?_,?_,?_⟩,?_,by simp;omega,by show 1≤10;omega⟩
 ·simp at hx;subst hx;unfold mid;omega
 ·rcases List.mem_append.1 ho with ho|ho
  ·exact (h.all o ho).1
  ·exact ht.all o ho
 ·show ats.length≤_;omega
 ·show 1≤_;omega
 ·show (ops++t).length≤_;simp;omega
 ·obtain ⟨o,l,h1,h2⟩:∃ o l,ops=o::l∧o.code=20:=by
   rcases h.head with ⟨h0,_⟩|h0
   ·omega
   ·exact h0
  have hrun:zga ⟨0,0,false⟩ (ops++t)=some ⟨i,W,ch⟩:=(by rw [ycw h.run (fun o ho=>(h.all o ho).2) ht.ne];exact ht.run i W);unfold z9g;dsimp only;rw [hrun];have hpos:1≤(ops++t).length:=(by rw [h1];simp)
  have hh:zpu ⟨ats,[p],ops++t⟩=true:=by
   unfold zpu;dsimp only
   have e1:zx6 none [p]=true:=by
    show (decide (0≤p∧p<4096)&&true&&true)=true;simp;omega
   have e2:decide (1≤ats.length∧ats.length≤64)=true:=(by rw [decide_eq_true_eq];omega);have e3:decide (1≤(ops++t).length∧(ops++t).length≤2000)=true:=(by rw [decide_eq_true_eq];simp at hpos⊢;omega);rw [e1,e2,e3,h1];simp [h2]
  rw [hh];simp [hatl]
section
variable {P:Program} {w0:World} {G:Gs} {N:Nd} {f f':Fr} {S S':List Ow}
theorem ydf (d:Nat) (e:TypeId) (size:Nat) (h:f.get d=one (.slice none 0 0)):Ent w0 G N f S ((d,.p (.c (.row S.length)))::f) (S++[.row e size 0 []]):=⟨fun a w ⟨r,hR,hf,hN,hd⟩=>by
 have hle:=hR.le_new none (some (.slice none 0 0));have hdd:=hf d;rw [h] at hdd;have hv:=zi6 hdd;refine ⟨r.set S.length none (some (.slice none 0 0)),hR.snoc (Below.refl _ _) nofun ⟨.slice none 0 0,by simp [Env.set],by simp [Env.set,Value.ownBlock],by simp,.inl ⟨rfl,rfl⟩⟩,fun k=>?_,hN,hd⟩;simp only [Fr.get]
 split
 ·rename_i hk
  have:=Nat.eq_of_beq_eq_true hk;subst this;simp only [AV.den,Pc.den,CV.den];rw [hv];simp [Env.set]
 ·exact (hf.mono hle) k⟩
end
section
variable {P:Program} {w0:World} {G:Gs} {fid:FuncId} {args:List AV} {S:List Ow} {K:AV→List Ow→Prop} {xs:List Value} {x:Value}
end
section
variable {P:Program} {ops:Array Oper} {md:Region.Mode} {C:World→Prop}
end
section
variable {P:Program} {w0:World} {G:Gs} {N:Nd} {ops:Array Oper} {S:List Ow} {r:Env} {w1:World}
end
section
variable {P:Program} {w0:World} {G:Gs} {fid:FuncId} {args:List AV} {S:List Ow} {K:AV→Prop} {xs:List Value} {x:Value}
end
theorem ydc {r:Env} {i:Nat} {u:Value} (h:AV.den r (.p (.c (.row i))) u):r.val i=some u:=by simpa only [AV.den,Pc.den,CV.den] using h
theorem yfh {a:Int} (ha:word a):wrap32 a=z5e a:=by
 unfold word at ha;unfold wrap32 z5e
 split<;>omega
theorem op10 (a b:Int) (w:World) (ha:word a) (hb:word b):
  Calls Tryz.prog 183 #[.int .u32 a,.int .u32 b] w fun e w'=>e= .returned (.int .u32 (yaq 10 a b))∧w=w':=by
 have HA:=Lib.hid ha;have HB:=Lib.hid hb;obtain ⟨g1,g2⟩:=ha;obtain ⟨g3,g4⟩:=hb
 go_enter Tryz.func183,Tryz.ntmps183
 go_wp2
 go_ret
 exact ⟨z1y (by simp [yaq,yfh HA.out]),rfl⟩
theorem fnNil (v:Value) (ps:List MemPlace) (h:zne v=some (.lit (.bool false),ps)):v= .nilFunc:=by
 unfold zne at h
 split at h
 ·split at h
  ·simp at h
  ·cases h
 ·rfl
 ·cases h
theorem ydk (w:World):(zeroValue 223).run Tryz.prog w= .ok .nilFunc w:=by kernel_rfl
def opsF:Int→Option Int:=mput (mput (mput (mput (mput (mput (mput (mput (mput (mput (mput (mput (mput (fun _=>none) 3 176) 4 177) 5 178) 6 179) 7 180) 8 181) 9 182) 10 183) 11 184) 12 185) 13 186) 14 188) 15 189
theorem yeb (w:World):
  Calls Tryz.prog 143 #[] w fun e w'=>∃ b,e= .returned (.map (some b))∧IMap zne fnCd w' b 13 opsF∧Below w.heap.size w w':=by
 have hmm:= @run_makeMap Tryz.prog;have hT:=Tryz.underlying225;have m2:=IMap.made (R:=zne) (cd:=fnCd) w;obtain ⟨w3,r3,m3,g3⟩:=m2.put znf hT zO (k:=3) (x:=176) (by decide) (by decide);obtain ⟨w4,r4,m4,g4⟩:=m3.put znf hT zO (k:=4) (x:=177) (by decide) (by decide);obtain ⟨w5,r5,m5,g5⟩:=m4.put znf hT zO (k:=5) (x:=178) (by decide) (by decide);obtain ⟨w6,r6,m6,g6⟩:=m5.put znf hT zO (k:=6) (x:=179) (by decide) (by decide);obtain ⟨w7,r7,m7,g7⟩:=m6.put znf hT zO (k:=7) (x:=180) (by decide) (by decide);obtain ⟨w8,r8,m8,g8⟩:=m7.put znf hT zO (k:=8) (x:=181) (by decide) (by decide);obtain ⟨w9,r9,m9,g9⟩:=m8.put znf hT zO (k:=9) (x:=182) (by decide) (by decide);obtain ⟨w10,r10,m10,g10⟩:=m9.put znf hT zO (k:=10) (x:=183) (by decide) (by decide);obtain ⟨w11,r11,m11,g11⟩:=m10.put znf hT zO (k:=11) (x:=184) (by decide) (by decide);obtain ⟨w12,r12,m12,g12⟩:=m11.put znf hT zO (k:=12) (x:=185) (by decide) (by decide);obtain ⟨w13,r13,m13,g13⟩:=m12.put znf hT zO (k:=13) (x:=186) (by decide) (by decide);obtain ⟨w14,r14,m14,g14⟩:=m13.put znf hT zO (k:=14) (x:=188) (by decide) (by decide);obtain ⟨w15,r15,m15,g15⟩:=m14.put znf hT zO (k:=15) (x:=189) (by decide) (by decide);have hT':=Lib.hid hT;clear hT
 have hB:Below w.heap.size w w15:=by
  have h:=(Below.refl w.heap.size w).alloc (Nat.le_refl _) (.map #[] 0);have h:=h.grown g3 zS (fun k e=>by cases e;exact Nat.le_refl _);have h:=h.grown g4 h.size (fun k e=>by cases e;exact Nat.le_refl _);have h:=h.grown g5 h.size (fun k e=>by cases e;exact Nat.le_refl _);have h:=h.grown g6 h.size (fun k e=>by cases e;exact Nat.le_refl _);have h:=h.grown g7 h.size (fun k e=>by cases e;exact Nat.le_refl _);have h:=h.grown g8 h.size (fun k e=>by cases e;exact Nat.le_refl _);have h:=h.grown g9 h.size (fun k e=>by cases e;exact Nat.le_refl _);have h:=h.grown g10 h.size (fun k e=>by cases e;exact Nat.le_refl _);have h:=h.grown g11 h.size (fun k e=>by cases e;exact Nat.le_refl _);have h:=h.grown g12 h.size (fun k e=>by cases e;exact Nat.le_refl _);have h:=h.grown g13 h.size (fun k e=>by cases e;exact Nat.le_refl _);have h:=h.grown g14 h.size (fun k e=>by cases e;exact Nat.le_refl _);have h:=h.grown g15 h.size (fun k e=>by cases e;exact Nat.le_refl _);exact h
 have HM:=Lib.hid m15;have HBB:=Lib.hid hB;clear hB m2 m3 g3 m4 g4 m5 g5 m6 g6 m7 g7 m8 g8 m9 g9 m10 g10 m11 g11 m12 g12 m13 g13 m14 g14 m15 g15;simp only [fnMk,show (176:Int).toNat=176 from rfl] at r3;simp only [fnMk,show (177:Int).toNat=177 from rfl] at r4;simp only [fnMk,show (178:Int).toNat=178 from rfl] at r5;simp only [fnMk,show (179:Int).toNat=179 from rfl] at r6;simp only [fnMk,show (180:Int).toNat=180 from rfl] at r7;simp only [fnMk,show (181:Int).toNat=181 from rfl] at r8;simp only [fnMk,show (182:Int).toNat=182 from rfl] at r9;simp only [fnMk,show (183:Int).toNat=183 from rfl] at r10;simp only [fnMk,show (184:Int).toNat=184 from rfl] at r11;simp only [fnMk,show (185:Int).toNat=185 from rfl] at r12;simp only [fnMk,show (186:Int).toNat=186 from rfl] at r13;simp only [fnMk,show (188:Int).toNat=188 from rfl] at r14;simp only [fnMk,show (189:Int).toNat=189 from rfl] at r15
 go_enter Tryz.func143,Tryz.ntmps143
 go_wp2
 go_ret
 exact ⟨_,rfl,HM.out,HBB.out⟩
theorem yd7 (a b:Int) (w:World) (ha:word a) (hb:word b):
  Calls Tryz.prog 92 #[.int .i64 10,.int .u32 a,.int .u32 b] w fun e w'=>e= .returned (.int .u32 (yaq 10 a b))∧Below w.heap.size w w':=by
 have HA:=Lib.hid ha;have HB:=Lib.hid hb;clear ha hb;have hf:Hid (opsF 10=some 183):=(by unfold Hid opsF;simp [mput])
 go_enter Tryz.func92,Tryz.ntmps92
 go_wp2_with (first|(go_at_call 143;refine (yeb _).mono ?_;rintro e w1 ⟨m1,rfl,him,hb1⟩;have hl:=him.look znf (_x0:=0) (k:=10) Tryz.underlying225 (ydk _) rfl fnNil (by decide);rw [hf.out] at hl;simp only [Option.map_some,Option.getD_some,Option.isSome_some,fnMk,show (183:Int).toNat=183 from rfl] at hl;clear him)|(go_at_call 183;refine (op10 a b _ HA.out HB.out).mono ?_;rintro e w' ⟨rfl,rfl⟩))
 go_ret
 exact ⟨rfl,hb1⟩
open Go.RowKit
theorem yej {w0:World} {G:Gs} {S:List Ow} {r:Env} {w:World} (h:Rel w0 G S r w) {i:Nat} {o:Ow} (ho:o.holds r w i):Rel w0 G (S.set i o) r w:=by
 refine ⟨h.os,h.tape,h.output,h.size,h.old,fun j o' hj=>?_,h.inj,h.new,fun j hj=>h.outB j (by simpa using hj),fun j hj=>h.outV j (by simpa using hj),h.first⟩;rw [List.getElem?_set] at hj
 split at hj
 ·rename_i hij;subst hij
  split at hj
  ·injection hj with hj;subst hj;exact ho
  ·cases hj
 ·exact h.own j o' hj
section
variable {r:Env} {σ:Nat→Nat} {n:Nat}
end
end Go.Proofs.YtocafomnnkmjfaaGreat
namespace Go.Proofs
open Go.Shelf Go.Lib
end Go.Proofs
namespace Go.Proofs.YtocafomnnkmjfaaGreat
open Go.RowKit
theorem yd6 {x:BOp}:∀ v∈opC x,v.oneCell'=true:=by
 intro v hv;simp only [opC,List.mem_cons,List.not_mem_nil,or_false] at hv
 rcases hv with rfl|rfl|rfl|rfl|rfl<;>rfl
def yee:Fr→Fr
 |[]=>[]
 |(d,x)::f=>match x.fx (fun _=>false) with|true=>(d,x)::yee f|false=>(d,.p (.c .any))::yee f
theorem yef {r:Env} {f:Fr} {a:Act} (hf:FDen r f a):FDen Env.none (yee f) a:=by
 have key:∀ f:Fr,∀ k u,(f.get k).den r u→((yee f).get k).den Env.none u:=by
  intro f
  induction f with
  |nil=>intro k u _;simp [yee,Fr.get,AV.den,Pc.den,CV.den]
  |cons p f ih=>
   obtain ⟨d,x⟩:=p;intro k u h;unfold yee
   cases hx:x.fx (fun _=>false)<;>cases hk:Nat.beq d k<;>simp only [Fr.get,hk] at h⊢
   ·exact ih k u h
   ·simp [AV.den,Pc.den,CV.den]
   ·exact ih k u h
   ·exact AV.den_fx (ok:=fun _=>false) (fun i b hi=>by cases hi) hx h
 exact fun k=>key f k _ (hf k)
section
variable (P:Program) (W:World) (N:Nd) (ops:Array Oper)
end
section
variable {P:Program} {W:World} {N:Nd} {ops:Array Oper}
end
theorem ych {P:Program} {fid:FuncId} {fn:Func} {c:Code} {N:Nat} {w:World} {g:Nat} {t:TypeId} {us:List Value} (xs:List Value) (hf:P.funcs[fid]?=some fn) (hN:fn.ntmps=N) (hb:fn.body=some c) (hle:xs.length+1≤N) (hg:w.heap[g]?=some (.cells us.toArray t (0,0))) {R:Ending→World→Prop}
  (h:vc none P w ⟨[g],[]⟩ ⟨N,[]⟩ c (zb1 (.p (.c (.ref 0 0))::xs.map fun x=>AV.of x) 0) [.cells t (us.map .v)] (RetK P w ⟨[g],[]⟩ fn.results.toList R)):Calls P fid (.pointer (some ⟨g,0,none⟩)::xs).toArray w R:=
 zfl hf hN hb (z1q w hg) (avs:= .p (.c (.ref 0 0))::xs.map fun x=>AV.of x) (args:= .pointer (some ⟨g,0,none⟩)::xs) ⟨_,_,rfl,zi1 (by simp [zkg]),zc6 xs⟩ (by simpa using hle) h
section
variable (P:Program) (W:World) (N:Nd)
def ydi (f:Fr) (T:List Ow) (o:Oper) (K:AV→Prop):Prop:=
 match o.op with
 | .move x=>znm (f.ev x) K
 | .assign x=>znm (f.ev x) K
 | .fieldAddr s x k=>(match f.ev x with
  | .p (.c (.ref i off))=>(match znd P s k with|some n=>K (.p (.c (.ref i (off+n))))|none=>False)
  |_=>(match opTy P o.op with|true=>qop P W Gs.nil [] (yee f) o K|false=>False))
 | .build t parts=>zee P T f t parts K
 |_=>(match opTy P o.op with|true=>qop P W Gs.nil [] (yee f) o K|false=>False)
def trK (ops:Array Oper) (l:List Oper):Tr→Fr→List Ow→(Fr→List Ow→Prop)→Prop
 | .done,f,T,K=>K f T
 | .no,_,_,_=>True
 | .q i t,f,T,K=>(match l[i]? with
  |none=>False
  |some o=>(match zjc N.n o.dst with
   |false=>False
   |true=>(match zo5 ops f o with
    |some true=>ydi P W f T o fun v=>f.putK o.dst v fun f'=>trK ops l t f' T K
    |some false=>f.putK o.dst (.p (.c .any)) fun f'=>trK ops l t f' T K
    |none=>False)))
 | .alt i t more,f,T,K=>(match l[i]? with
  |none=>False
  |some o=>(match zo5 ops f o with
   |some true=>opK P W Gs.nil N o f T fun f' T'=>trK ops l t f' T' K
   |_=>False))∧trK ops l more f T K
end
section
variable {P:Program} {W:World} {N:Nd} {ops:Array Oper} {l:List Oper}
theorem ydj {f:Fr} {T:List Ow} {o:Oper} {K:AV→Prop} (h:ydi P W f T o K) {r:Env} {w:World} (hR:Rel W Gs.nil T r w) {a:Act} (hf:FDen r f a):
  ∃ v u,K v∧v.den r u∧∀ w',Below W.heap.size W w'→(execOp a.eval o).run P w'= .ok (.value u) w':=by
 have plain:(match opTy P o.op with|true=>qop P W Gs.nil [] (yee f) o K|false=>False)→∃ v u,K v∧v.den r u∧∀ w',Below W.heap.size W w'→(execOp a.eval o).run P w'= .ok (.value u) w':=fun h=>by
  split at h
  ·rename_i hty
   obtain ⟨v,u,hK,hden,hrun⟩:=z0n h hty (z1o W) (yef hf);exact ⟨v,u,hK,AV.den_mono ⟨(fun i b h=>by cases h),(fun i b h=>by cases h)⟩ _ _ hden,hrun⟩
  ·exact h.elim
 unfold ydi at h
 split at h
 ·rename_i x hop
  exact ⟨_,_,znn.1 h,hf.ev x,fun w' _=>by simp [execOp,hop]⟩
 ·rename_i x hop
  exact ⟨_,_,znn.1 h,hf.ev x,fun w' _=>by simp [execOp,hop]⟩
 ·rename_i s x k hop
  split at h
  ·rename_i i off he
   split at h
   ·rename_i n hn
    have hx:=hf.ev x;rw [he] at hx;obtain ⟨b,hb,hu⟩:=zi4 hx;exact ⟨_,_,h,zi1 hb,fun w' _=>by simp [execOp,hop,hu,z2a hn]⟩
   ·exact h.elim
  ·exact plain h
 ·rename_i t parts hop
  obtain ⟨v,u,hK,hd,hrun⟩:=zef hR hf h;exact ⟨v,u,hK,hd,fun w' _=>by simp [execOp,hop,hrun w']⟩
 ·exact plain h
theorem ye5 (hl:∀ i:Nat,l[i]?=ops[i]?) (hns:Region.noSelect ops=true) {K:Fr→List Ow→Prop} {Q:Exit→Act→World→Prop} (hQ0:∀ c a w,¬Q (.panic c) a w) (hQ:∀ f T a w,K f T→Good W Gs.nil N f T a w→Q .normal a w):
  ∀ (t:Tr) (inner:Bool) (listed:Array Bool) (f:Fr) (T:List Ow) (n:Nat),t.ok ops inner listed=true→t.depth≤n→trK P W N ops l t f T K→∀ a w,Good W Gs.nil N f T a w→
   (inner=false→wpAnyH P .any ops Q (fun w'=>Below W.heap.size W w') n listed a w)∧
   (∀ m,n=m+1→∀ i∈t.alts,wpOp P ops Q i (fun a' w'=>Below W.heap.size W w'∧wpAnyH P .any ops Q (fun w'=>Below W.heap.size W w') m (listed.setIfInBounds i true) a' w') a w)
 | .done,inner,listed,f,T,n,hB,_,h,a,w,hg=>by
  refine ⟨fun _=>wpAnyH_done (by simp [Tr.ok] at hB;exact hB.2) (hQ f T a w h hg) _,fun m _ i hi=>by cases hi⟩
 | .no,inner,listed,f,T,n,hB,_,h,a,w,hg=>by
  refine ⟨fun he=>?_,fun m _ i hi=>by cases hi⟩;simp [Tr.ok] at hB;rw [hB] at he;cases he
 | .q i t,inner,listed,f,T,n,hB,hn,h,a,w,hg=>by
  refine ⟨fun _=>?_,fun m _ i hi=>by cases hi⟩;simp only [Tr.ok,Bool.and_eq_true] at hB;obtain ⟨⟨⟨_,hB1⟩,hB2⟩,hB3⟩:=hB;simp only [Tr.depth] at hn
  obtain ⟨n,rfl⟩:∃ k,n=k+1:=⟨n-1,by omega⟩
  unfold trK at h
  split at h
  ·exact h.elim
  ·rename_i o ho
   rw [hl] at ho
   split at h
   ·exact h.elim
   ·rename_i hdst
    obtain ⟨r,hR,hf,hN,hd⟩:=hg
    split at h
    ·rename_i hgd
     have hw:=zo9 hf hgd;obtain ⟨v,u,hK,hden,hrun⟩:=ydj h hR hf;have hK:=zy5.1 hK;refine wpAnyH_take (v:=u) ho hns hB1 hB2 (fun c a w h=>absurd h (hQ0 c _ w)) (.inl ⟨hw,hrun⟩) hR.toBelow ?_;exact (ye5 hl hns hQ0 hQ t false _ _ T n hB3 zO hK _ w ⟨r,hR,hf.put hden (by rw [hN];exact hdst),(zzh a _ _).trans hN,(zze a _ _).trans hd⟩).1 rfl
    ·rename_i hgd
     have hw:=zo9 hf hgd;have hK:=zy5.1 h;refine wpAnyH_take (v:=undef) ho hns hB1 hB2 (fun c a w h=>absurd h (hQ0 c _ w)) (.inr ⟨hw,rfl⟩) hR.toBelow ?_;exact (ye5 hl hns hQ0 hQ t false _ _ T n hB3 zO hK _ w ⟨r,hR,hf.putAny _ (by rw [hN];exact hdst),(zzh a _ _).trans hN,(zze a _ _).trans hd⟩).1 rfl
    ·exact h.elim
 | .alt i t more,inner,listed,f,T,n,hB,hn,h,a,w,hg=>by
  simp only [Tr.ok,Bool.and_eq_true] at hB;obtain ⟨⟨hB1,hB2⟩,hB3⟩:=hB;simp only [Tr.depth] at hn;unfold trK at h;obtain ⟨h1,h2⟩:=h
  have all:∀ m,n=m+1→∀ j∈(Tr.alt i t more).alts,wpOp P ops Q j (fun a' w'=>Below W.heap.size W w'∧wpAnyH P .any ops Q (fun w'=>Below W.heap.size W w') m (listed.setIfInBounds j true) a' w') a w:=by
   intro m hm j hj;simp only [Tr.alts,List.mem_cons] at hj;rcases hj with rfl|hj
   ·split at h1
    ·exact h1.elim
    ·rename_i o ho
     rw [hl] at ho;obtain ⟨r,hR,hf,hN,hd⟩:=hg
     split at h1
     ·rename_i hgd
      have hw:=zo9 hf hgd;unfold wpOp;simp only [ho,hw,if_true];refine .inl (z3t ((zwp h1).out r a w hR hf hN hd (fun a' w'=>Below W.heap.size W w'∧wpAnyH P .any ops Q (fun w'=>Below W.heap.size W w') m (listed.setIfInBounds j true) a' w') Q fun f' T' a' w' hk hg'=>?_) fun _ _ h=>h);refine ⟨?_,(ye5 hl hns hQ0 hQ t false _ f' T' m hB2 zO hk a' w' hg').1 rfl⟩;obtain ⟨r',hR',_⟩:=hg';exact hR'.toBelow
     ·exact h1.elim
   ·exact (ye5 hl hns hQ0 hQ more true listed f T n hB3 zO h2 a w hg).2 m hm j hj
  refine ⟨fun he=>?_,all⟩
  obtain ⟨m,rfl⟩:∃ k,n=k+1:=⟨n-1,by omega⟩
  have hr:Region.ready .any ops listed=(Tr.alt i t more).alts:=by
   rw [he] at hB1
   simpa [Tr.alts] using hB1
  exact wpAnyH_all hr (by simp [Tr.alts]) (all m rfl)
theorem yem {id:Nat} {l:List Oper} {f:Fr} {S:List Ow} {K:Exit→Fr→List Ow→Prop} (t:Tr) (hm:P.follows .mixedOrders=true) (hns:Region.noSelect l.toArray=true) (hB:(t.ok l.toArray false (Array.replicate l.toArray.size false)&&Nat.ble t.depth l.length)=true)
  (h:trK P W N l.toArray l t f S (K .normal)):Sat none P W Gs.nil N (.region id l.toArray true) f S K:=by
 refine ⟨fun n a w ⟨r,hR,hf,hN,hd⟩=>wpIn_wide.2 ?_⟩;simp only [Bool.and_eq_true] at hB;refine Code.wp_mono (Q:=fun e a w=>match e with| .normal=>zal W Gs.nil N K .normal a w|_=>False) (fun e a w h=>by cases e<;>first|exact h|exact h.elim) (wp_region_held (S:=fun w'=>Below W.heap.size W w') hm ?_);have:=(ye5 (P:=P) (W:=W) (N:=N) (Q:=fun e a w=>match e with| .normal=>zal W Gs.nil N K .normal a w|_=>False) (fun i=>by simp) hns (fun c a w h=>h) (fun f T a w hk hg=>⟨f,T,hk,hg⟩) t false _ f S l.length hB.1 (Nat.le_of_ble_eq_true hB.2) h a w.drew ⟨r,hR.drew,hf,hN,hd⟩).1 rfl
 simpa using this
end
section
variable {w0:World} {G:Gs} {S:List Ow} {r:Env} {w:World}
theorem Rel.snocG (h:Rel w0 G S r w) {i g:Nat} (hi:r.blk i=some g) {w':World} (hg:w.grownBy w' (some g)) {o1 o:Ow} {b:Option Nat} {v:Option Value} (hnb:∀ x,b=some x→w.heap.size≤x∧x<w'.heap.size) (ho1:o1.holds (r.set S.length b v) w' i) (ho:o.holds (r.set S.length b v) w' S.length):
  Rel w0 G (S.set i o1++[o]) (r.set S.length b v) w':=by
 have hle:=h.le_new b v;have hil:=h.lt_of_blk hi;have hlen:(S.set i o1).length=S.length:=(by simp);refine ⟨hg.os.trans h.os,hg.tape.trans h.tape,hg.output.trans h.output,Nat.le_trans h.size hg.size,fun k hk hkG=>?_,fun j o' hj=>?_,fun a c x hx hy=>?_,fun a x hx=>?_,fun a ha=>?_,fun a ha=>?_,fun a x hx=>hle.blk _ _ (h.first a x hx)⟩
 ·rw [hg.block k (Nat.lt_of_lt_of_le hk h.size) (fun e=>by injection e with e;subst e;exact hkG ((h.new i k hi).2 hk))]
  exact h.old k hk hkG
 ·rcases zot hj with ⟨h1,h2⟩|⟨h1,h2⟩
  ·by_cases hij:i=j
   ·subst hij
    rw [List.getElem?_set_self hil] at h2;injection h2 with h2;subst h2;exact ho1
   ·rw [List.getElem?_set_ne hij] at h2
    refine Ow.holds_block (Ow.holds_mono hle (h.own j o' h2) (by simp only [Env.set];rw [if_neg zO]) (fun k x hk=>?_)) (fun x hx=>?_) hg.size (fun x hx hno=>hg.block x hx (fun e=>by injection e with e;subst e;exact hno i (hle.blk _ _ hi)))
    ·simp only [Env.set] at hk
     split at hk
     ·exact .inr (hnb x hk).1
     ·exact .inl hk
    ·simp only [Env.set] at hx
     rw [if_neg zO] at hx;exact hg.block x (h.new j x hx).1 (fun e=>by injection e with e;subst e;exact hij (h.inj i j _ hi hx))
  ·rw [hlen] at h1
   subst h1;subst h2;exact ho
 ·simp only [Env.set] at hx hy
  split at hx<;>split at hy
  ·omega
  ·have h1:=(hnb x hx).1
   have h2:=(h.new _ _ hy).1;omega
  ·have h1:=(hnb x hy).1
   have h2:=(h.new _ _ hx).1;omega
  ·exact h.inj _ _ _ hx hy
 ·simp only [Env.set] at hx
  split at hx
  ·refine ⟨(hnb x hx).2,fun hlt=>?_⟩
   have:=(hnb x hx).1;have:=h.size;omega
  ·exact ⟨Nat.lt_of_lt_of_le (h.new a x hx).1 hg.size,(h.new a x hx).2⟩
 ·simp only [List.length_append,hlen,List.length_cons,List.length_nil] at ha
  simp only [Env.set];rw [if_neg zO];exact h.outB a zO
 ·simp only [List.length_append,hlen,List.length_cons,List.length_nil] at ha
  simp only [Env.set];rw [if_neg zO];exact h.outV a zO
end
theorem ycc {P:Program} {w0:World} {G:Gs} {fid:FuncId} {S:List Ow} {K:AV→List Ow→Prop} {t:TypeId} {us:List Value} {args:List AV} {xs:List Value} (ety:TypeId) (size:Nat) (post:Nat→List Value→List Value→Prop) (i:Nat) (hi:S[i]?=some (.cells t (us.map .v))) (hx:avals args=some xs) (hok:fnOk P fid=true)
  (h:∀ w g,zak w0 G w g→w.heap[g]?=some (.cells us.toArray t (0,0))→Calls P fid (.pointer (some ⟨g,0,none⟩)::xs).toArray w fun e w'=>∃ v n ys us',post n ys us'∧e= .returned v∧w'.ownsRow w.heap.size ety size v n ys∧w'.heap[g]?=some (.cells us'.toArray t (0,0))∧w.grownBy w' (some g))
  (hK:∀ n ys us',post n ys us'→K (.p (.c (.row S.length))) (S.set i (.cells t (us'.map .v))++[.row ety size n ys])):CallS P w0 G fid (.p (.c (.ref i 0))::args) S K:=by
 refine ⟨hok,fun r w vs hR hd=>?_⟩;obtain ⟨u1,l1,rfl,d1,d2⟩:=hd;obtain rfl:=zcs hx d2;obtain ⟨g,hb,rfl⟩:=zi4 d1;obtain ⟨b',us1,e1,e2,e3⟩:=hR.own i _ hi;rw [hb] at e1;injection e1 with e1;subst e1;obtain rfl:=ziw e3;refine (h w g (hR.oldKeep hb) e2).mono fun e w' ⟨v,n,ys,us',hp,he,hown,hg,hgr⟩=>?_;exact ⟨.p (.c (.row S.length)),v,_,r.set S.length v.ownBlock (some v),he,by simp [AV.den,Pc.den,CV.den,Env.set],hR.snocG (o1:= .cells t (us'.map .v)) (o:= .row ety size n ys) hb hgr (zxy hown) ⟨g,us',(hR.le_new _ _).blk _ _ hb,hg,ziv us'⟩ ⟨v,by simp [Env.set],by simp [Env.set],zxv hown (Nat.zero_le _)⟩,hR.le_new _ _,hK n ys us' hp⟩
theorem ydg {w0:World} {g j:Nat} {S:List Ow} {t e:TypeId} {us:List Value} {size n:Nat} {xs:List Value} {R:Ending→World→Prop} (h0:S[0]?=some (.cells t (us.map .v))) (hj:S[j]?=some (.row e size n xs)) (hj0:0<j)
  (h:∀ w v,w.heap[g]?=some (.cells us.toArray t (0,0))→w0.grownBy w (some g)→w.ownsRow w0.heap.size e size v n xs→R (.returned v) w):Fin w0 ⟨[g],[]⟩ S (.p (.c (.row j))) R:=by
 refine ⟨fun r w u hR hd=>?_⟩;have hu:=ydc hd;obtain ⟨b,us',e1,e2,e3⟩:=hR.own 0 _ h0;have hfirst:=hR.first 0 g rfl;rw [hfirst] at e1;injection e1 with e1;subst e1;obtain rfl:=ziw e3;obtain ⟨v,f1,f2,f3⟩:=hR.own j _ hj;rw [hu] at f1;injection f1 with f1;subst f1;refine h w u e2 hR.grown ⟨f3.1,?_⟩;rcases f3.2 with h1|⟨b',cap,cur,h1,_,h2⟩
 ·exact .inl h1
 ·refine .inr ⟨b',cap,cur,h1,?_,h2⟩
  have hb:r.blk j=some b':=by rw [← f2,h1];rfl
  rcases Nat.lt_or_ge b' w0.heap.size with h3|h3
  ·have h4:=(hR.new j b' hb).2 h3
   rcases h4 with h4|h4
   ·simp at h4;subst h4
    have:=hR.inj 0 j _ hfirst hb;omega
   ·cases h4
  ·exact h3
section
variable {P:Program} {w0:World} {G:Gs} {N:Nat} {c d:Code} {f:Fr} {S:List Ow} {Q:Exit→Act→World→Prop} {fn:Func} {R:Ending→World→Prop}
end
def ydm (P:Program) (W:World) (G:Gs) (N:Nd) (ops:Array Oper):List Oper→Fr→List Ow→(Fr→List Ow→Prop)→Prop
 |[],f,S,K=>K f S
 |o::l,f,S,K=>(match zo5 ops f o with
  |some true=>opK P W G N o f S fun f' S'=>ydm P W G N ops l f' S' K
  |some false=>(match zjc N.n o.dst with
   |true=>f.putK o.dst (.p (.c .any)) fun f'=>ydm P W G N ops l f' S K
   |false=>False)
  |none=>False)
section
variable {P:Program} {w0:World} {G:Gs} {N:Nd} {c d:Code} {f:Fr} {S:List Ow} {Q:Exit→Act→World→Prop}
theorem ydn {ops:Array Oper} {Q:Act→World→Prop}:∀ (l:List Oper) (f:Fr) (S:List Ow) (K:Fr→List Ow→Prop),ydm P w0 G N ops l f S K→(∀ f' S' a' w',K f' S'→Good w0 G N f' S' a' w'→Q a' w')→
  ∀ a w,Good w0 G N f S a w→seL P ops Q l a w
 |[],f,S,K,h,hK,a,w,hg=>hK _ _ _ _ h hg
 |o::l,f,S,K,h,hK,a,w,hg=>by
  obtain ⟨r,hR,hf,hN,hd⟩:=hg;unfold ydm at h
  split at h
  ·rename_i hgd
   have hw:=zo9 hf hgd;unfold seL;rw [if_pos hw];exact (zwp h).out r a w hR hf hN hd _ (fun _ _ _=>True) fun f' S' a' w' hk hg'=>ydn l f' S' K hk hK a' w' hg'
  ·rename_i hgd
   have hw:=zo9 hf hgd
   split at h
   ·rename_i hdst
    have hk:=zy5.1 h;unfold seL;rw [if_neg (by rw [hw];decide)];exact ydn l _ S K hk hK _ w ⟨r,hR,hf.putAny _ (by rw [hN];exact hdst),(zzh a _ _).trans hN,(zze a _ _).trans hd⟩
   ·exact h.elim
  ·exact h.elim
theorem yen {id:Nat} {ops:Array Oper} (h:ydm P w0 G N ops ops.toList f S fun f' S'=>AtQ w0 G N .normal f' S' Q):SatQ P w0 G N (.region id ops false) f S Q:=
 ⟨fun a w hg=>wpIn_region_list (z3s none 10 (ydn _ f S _ h (fun _f' _S' a' w' hk hg'=>hk.out a' w' hg') a w hg))⟩
theorem yde (i j:Nat) (e:TypeId) (size:Nat) {t:TypeId} {l:List CV} {f':Fr} (hi:S[i]?=some (.cells t l)) (hj:l[j]?=some (.v (.slice none 0 0))) (hf:FLe f f'):Ent w0 G N f S f' (S.set i (.cells t (l.set j (.row S.length)))++[.row e size 0 []]):=⟨fun a w ⟨r,hR,hd,hN,hdf⟩=>by
 obtain ⟨b,us,h1,h2,h3⟩:=hR.own i _ hi;have hle:=hR.le_new none (some (.slice none 0 0));have hil:=hR.lt_of_blk h1;have hR2:=hR.snoc (o:= .row e size 0 []) (Below.refl _ _) (b:=none) (v:=some (.slice none 0 0)) nofun ⟨.slice none 0 0,by simp [Env.set],by simp [Env.set,Value.ownBlock],by simp,.inl ⟨rfl,rfl⟩⟩;refine ⟨r.set S.length none (some (.slice none 0 0)),?_,hf.den (hd.mono hle),hN,hdf⟩;obtain ⟨u,hu,hdu⟩:=zij h3 hj;simp only [CV.den] at hdu;subst hdu
 have hus:us=us.set j (.slice none 0 0):=by
  refine List.ext_getElem? fun k=>?_;rw [List.getElem?_set]
  split
  ·rename_i hk;subst hk
   split
   ·exact hu
   ·rename_i hlt;rw [List.getElem?_eq_none zO] at hu;cases hu
  ·rfl
 have:=yej hR2 (i:=i) (o:= .cells t (l.set j (.row S.length))) ⟨b,us,hle.blk _ _ h1,h2,by rw [hus];exact zir j (zip hle _ _ h3) (by simp [CV.den,Env.set])⟩
 rwa [List.set_append_left _ _ hil] at this⟩
end
def ybx (S:List Ow) (x:CV) (i:Nat) (e:TypeId) (size n:Nat) (xs:List Value):Prop:=
 (x= .row i∧S[i]?=some (.row e size n xs))∨(x= .sl i 0 n n∧S[i]?=some (.cells e (xs.map .v))∧xs.length=n*size∧n≤maxLen)
theorem yek {w0 w:World} {S:List Ow} {r:Env} (hR:Rel w0 Gs.nil S r w) {x:CV} {i:Nat} {e:TypeId} {size n:Nat} {xs:List Value} (h:ybx S x i e size n xs) {u:Value} (hd:x.den r u):w.ownsRow w0.heap.size e size u n xs∧u.ownBlock=r.blk i:=by
 have hnew:∀ g,r.blk i=some g→w0.heap.size≤g:=fun g hg=>by
  rcases Nat.lt_or_ge g w0.heap.size with h3|h3
  ·have:=(hR.new i g hg).2 h3;simp at this
  ·exact h3
 rcases h with ⟨rfl,hi⟩|⟨rfl,hi,hl,hn⟩
 ·simp only [CV.den] at hd
  obtain ⟨v,f1,f2,f3⟩:=hR.own i _ hi;rw [hd] at f1;injection f1 with f1;subst f1;refine ⟨⟨f3.1,?_⟩,f2⟩;rcases f3.2 with h1|⟨b',cap,cur,h1,_,h2⟩
  ·exact .inl h1
  ·exact .inr ⟨b',cap,cur,h1,hnew b' (by rw [← f2,h1];rfl),h2⟩
 ·simp only [CV.den] at hd
  obtain ⟨b,hb,rfl⟩:=hd;obtain ⟨b',us,e1,e2,e3⟩:=hR.own i _ hi;rw [hb] at e1;injection e1 with e1;subst e1;obtain rfl:=ziw e3;exact ⟨⟨hl,.inr ⟨b,n,us.toArray,rfl,hnew b hb,e2,Nat.le_refl _,hn,by simpa using hl,by simp [← hl]⟩⟩,hb.symm⟩
theorem ydh {w0:World} {S:List Ow} {x1 x2 x3:CV} {R:Ending→World→Prop} (i1 i2 i3:Nat) (b:Blk) (h12:i1≠i2) (h13:i1≠i3) (h23:i2≠i3) (h1:ybx S x1 i1 41 1 b.at_.length (b.at_.map (.int .u32))) (h2:ybx S x2 i2 3 1 b.pages.length (b.pages.map (.int .i64))) (h3:ybx S x3 i3 61 5 b.ops.length (b.ops.flatMap opC))
  (h:∀ w v1 v2 v3,Rows3 w0.heap.size w v1 v2 v3 b→Below w0.heap.size w0 w→R (.returned (.agg #[v1,v2,v3])) w):Fin w0 Gs.nil S (.p (.agg [x1,x2,x3])) R:=by
 refine ⟨fun r w u hR hd=>?_⟩;obtain ⟨us,rfl,hl⟩:=ziz hd;simp only [denL] at hl;obtain ⟨u1,l1,rfl,d1,u2,l2,rfl,d2,u3,l3,rfl,d3,rfl⟩:=hl;obtain ⟨o1,b1⟩:=yek hR h1 d1;obtain ⟨o2,b2⟩:=yek hR h2 d2;obtain ⟨o3,b3⟩:=yek hR h3 d3;refine h w u1 u2 u3 ⟨o1,o2,o3,fun x hx hy=>?_,fun x hx hy=>?_,fun x hx hy=>?_⟩ hR.toBelow
 ·rw [b1] at hx;rw [b2] at hy;exact h12 (hR.inj _ _ _ hx hy)
 ·rw [b1] at hx;rw [b3] at hy;exact h13 (hR.inj _ _ _ hx hy)
 ·rw [b2] at hx;rw [b3] at hy;exact h23 (hR.inj _ _ _ hx hy)
theorem yey {x n:Int} (h0:0<n):0≤(x.tmod n+n).tmod n∧(x.tmod n+n).tmod n<n:=by
 have h1: -n<x.tmod n:=by
  have:=Int.lt_tmod_of_pos x h0;omega
 have h3:0≤x.tmod n+n:=by omega
 exact ⟨Int.tmod_nonneg _ h3,Int.tmod_lt_of_pos _ h0⟩
abbrev mkC (A:Option Addr) (m c:Nat) (k:Int):List Value:=[.slice A m c,.int .i64 k]
theorem yez (A:Option Addr) (m c:Nat) (xs:List Int) (k n:Int) (g:Nat) (w:World) (hs:zao w ⟨[g],[]⟩ A (xs.map (.int .i64))) (hl:xs.length=m) (_hm:0≤m) (hk:0≤k∧k<1000000) (hn:0<n∧n≤65536)
  (hg:w.heap[g]?=some (.cells (mkC A m c k).toArray 125 (0,0))):
  Calls Tryz.prog 60 #[.pointer (some ⟨g,0,none⟩),.int .i64 n] w fun e w'=>∃ x us',((∃ z,x= .int .i64 z∧0≤z∧z<n)∧us'=mkC A m c (k+1))∧e= .returned x∧w'.heap[g]?=some (.cells us'.toArray 125 (0,0))∧w.grownBy w' (some g):=by
 have key:∀ (x:Int) (w':World),w'.heap[g]?=some (.cells (mkC A m c (k+1)).toArray 125 (0,0))→w.grownBy w' (some g)→∃ y us',((∃ z,y= .int .i64 z∧0≤z∧z<n)∧us'=mkC A m c (k+1))∧Ending.returned (.int .i64 ((x.tmod n+n).tmod n))= .returned y∧w'.heap[g]?=some (.cells us'.toArray 125 (0,0))∧w.grownBy w' (some g):=
  fun x w' h1 h2=>⟨_,_,⟨⟨_,rfl,yey hn.1⟩,rfl⟩,rfl,h1,h2⟩
 have hmod:∀ x:Int,-9223372036854775808≤x.tmod n+n∧x.tmod n+n<9223372036854775808:=fun x=>by
  have h1: -n<x.tmod n:=(by have:=Int.lt_tmod_of_pos x hn.1;omega);have h2:=Int.tmod_lt_of_pos x hn.1;omega
 refine ych [.int .i64 n] Tryz.func60 Tryz.ntmps60 rfl zS hg ?_
 conv=>whnf
 refine z2v mixed zK ?_
 conv=>whnf
 refine ⟨fun ht=>?_,fun ht=>?_⟩
 ·have hlt:k<(m:Int):=by simpa using ht
  obtain ⟨x,hx⟩:∃ x,xs[k.toNat]?=some x:=⟨_,List.getElem?_eq_getElem zO⟩
  obtain ⟨b,off,rfl,hb,hG,hc⟩:=hs k.toNat (.int .i64 x) (by rw [List.getElem?_map,hx];rfl)
  (conv=>whnf);refine z2v mixed zK ?_;(conv=>whnf);refine ⟨⟨by omega,by omega⟩,?_⟩;(conv=>whnf);refine ⟨.int .i64 x,zfu hb hG (by rw [show off+k.toNat*tsz Tryz.prog 3=off+k.toNat from congrArg (off+ ·) (Nat.mul_one _)];exact hc),?_⟩;(conv=>whnf);refine ⟨k+1,wr64 zO,?_⟩;(conv=>whnf);refine ⟨by omega,_,rfl,?_⟩;(conv=>whnf);refine ⟨_,wr64 (hmod x),?_⟩;(conv=>whnf);refine ⟨by omega,_,rfl,?_⟩;(conv=>whnf);exact zmo (us:=mkC (some ⟨b,off,none⟩) m c (k+1)) rfl rfl (key x)
 ·conv=>whnf
  refine ⟨k+1,wr64 zO,?_⟩;(conv=>whnf);refine ⟨by omega,_,rfl,?_⟩;(conv=>whnf);refine ⟨_,wr64 (hmod 0),?_⟩;(conv=>whnf);refine ⟨by omega,_,rfl,?_⟩;(conv=>whnf);exact zmo (us:=mkC A m c (k+1)) rfl rfl (key 0)
theorem yce {w0:World} {G:Gs} {S:List Ow} {K:AV→List Ow→Prop} (i:Nat) {A:Option Addr} {m c:Nat} {xs:List Int} {k n:Int} (hi:S[i]?=some (.cells 125 ((mkC A m c k).map .v))) (hs:zao w0 G A (xs.map (.int .i64))) (hl:xs.length=m) (hm:0≤m) (hk:0≤k∧k<1000000) (hn:0<n∧n≤65536)
  (hK:∀ z,0≤z→z<n→K (one (.int .i64 z)) (S.set i (.cells 125 ((mkC A m c (k+1)).map .v)))):CallS Tryz.prog w0 G 60 [.p (.c (.ref i 0)),one (.int .i64 n)] S K:=by
 refine ze9 (fun x us'=>(∃ z,x= .int .i64 z∧0≤z∧z<n)∧us'=mkC A m c (k+1)) i hi (xs:=[.int .i64 n]) rfl zK (fun w g ho hg=>yez A m c xs k n g w (ho A _ hs) hl hm hk hn hg) ?_;rintro x us' ⟨⟨z,rfl,h0,h1⟩,rfl⟩;exact hK z h0 h1
theorem yfc (A:Option Addr) (m c:Nat) (xs:List Int) (k:Int) (g:Nat) (w:World) (hs:zao w ⟨[g],[]⟩ A (xs.map (.int .i64))) (hl:xs.length=m) (hm:0≤m) (hk:0≤k∧k<999990)
  (hg:w.heap[g]?=some (.cells (mkC A m c k).toArray 125 (0,0))):
  Calls Tryz.prog 105 #[.pointer (some ⟨g,0,none⟩)] w fun e w'=>∃ x us',((∃ z,x= .int .u32 z∧word z)∧us'=mkC A m c (k+2))∧e= .returned x∧w'.heap[g]?=some (.cells us'.toArray 125 (0,0))∧w.grownBy w' (some g):=by
 have key:∀ (x:Int) (w':World),word x→w'.heap[g]?=some (.cells (mkC A m c (k+1+1)).toArray 125 (0,0))→w.grownBy w' (some g)→∃ y us',((∃ z,y= .int .u32 z∧word z)∧us'=mkC A m c (k+2))∧Ending.returned (.int .u32 x)= .returned y∧w'.heap[g]?=some (.cells us'.toArray 125 (0,0))∧w.grownBy w' (some g):=
  fun x w' h0 h1 h2=>⟨_,_,⟨⟨_,rfl,h0⟩,rfl⟩,rfl,by rw [show k+2=k+1+1 by omega];exact h1,h2⟩
 refine ych [] Tryz.func105 Tryz.ntmps105 rfl zS hg ?_
 conv=>whnf
 refine yce 0 rfl hs hl hm zO zO fun z z0 z1=>?_
 conv=>whnf
 refine ⟨z,by rw [wr32];omega,?_⟩
 conv=>whnf
 refine yce 0 rfl hs hl hm zO zO fun y y0 y1=>?_
 conv=>whnf
 refine ⟨fun _=>?_,fun _=>?_⟩
 ·conv=>whnf
  refine ⟨by omega,_,rfl,?_⟩;(conv=>whnf);exact zmo (us:=mkC A m c (k+1+1)) rfl rfl fun w' h1 h2=>key _ w' (by rw [Int.tmod_eq_emod_of_nonneg z0];unfold word;omega) h1 h2
 conv=>whnf
 refine ⟨fun _=>?_,fun _=>?_⟩
 ·conv=>whnf
  refine ⟨by omega,_,rfl,?_⟩;(conv=>whnf);refine ⟨_,wr32 _,?_⟩;(conv=>whnf);exact zmo (us:=mkC A m c (k+1+1)) rfl rfl fun w' h1 h2=>key _ w' (yau _) h1 h2
 conv=>whnf
 refine ⟨fun _=>?_,fun _=>?_⟩
 ·conv=>whnf
  refine ⟨_,wr32 _,?_⟩;(conv=>whnf);exact zmo (us:=mkC A m c (k+1+1)) rfl rfl fun w' h1 h2=>key _ w' (yau _) h1 h2
 conv=>whnf
 refine ⟨by omega,_,rfl,?_⟩
 conv=>whnf
 exact zmo (us:=mkC A m c (k+1+1)) rfl rfl fun w' h1 h2=>key _ w' (by rw [Int.tmod_eq_emod_of_nonneg z0];unfold word;omega) h1 h2
theorem ycg {w0:World} {G:Gs} {S:List Ow} {K:AV→List Ow→Prop} (i:Nat) {A:Option Addr} {m c:Nat} {xs:List Int} {k:Int} (hi:S[i]?=some (.cells 125 ((mkC A m c k).map .v))) (hs:zao w0 G A (xs.map (.int .i64))) (hl:xs.length=m) (hm:0≤m) (hk:0≤k∧k<999990)
  (hK:∀ z,word z→K (one (.int .u32 z)) (S.set i (.cells 125 ((mkC A m c (k+2)).map .v)))):CallS Tryz.prog w0 G 105 [.p (.c (.ref i 0))] S K:=by
 refine ze9 (fun x us'=>(∃ z,x= .int .u32 z∧word z)∧us'=mkC A m c (k+2)) i hi (xs:=[]) rfl zK (fun w g ho hg=>yfc A m c xs k g w (ho A _ hs) hl hm hk hg) ?_;rintro x us' ⟨⟨z,rfl,h0⟩,rfl⟩;exact hK z h0
abbrev wrC (W:Nat):List Value:=[.bool (W.testBit 20),.bool (W.testBit 21),.bool (W.testBit 22),.bool (W.testBit 23),.bool (W.testBit 24),.bool (W.testBit 25),.bool (W.testBit 26),.bool (W.testBit 27)]
theorem yff (W:Nat) {t:Nat} (h:t<8):(wrC W)[t]?=some (.bool (W.testBit (20+t))):=by
 rcases t with _|_|_|_|_|_|_|_|t<;>first|rfl|omega
theorem yep (A:Option Addr) (m c:Nat) (xs:List Int) (k:Int) (W:Nat) (g:Nat) (w:World) (hs:zao w ⟨[g],[]⟩ A (xs.map (.int .i64))) (hl:xs.length=m) (hm:0≤m) (hk:0≤k∧k<999990)
  (hg:w.heap[g]?=some (.cells (mkC A m c k).toArray 125 (0,0))):
  Calls Tryz.prog 104 #[.pointer (some ⟨g,0,none⟩),.agg (wrC W).toArray] w fun e w'=>∃ x us',((∃ z,x= .int .i64 z∧srcI W z)∧us'=mkC A m c (k+1))∧e= .returned x∧w'.heap[g]?=some (.cells us'.toArray 125 (0,0))∧w.grownBy w' (some g):=by
 refine ych [.agg (wrC W).toArray] Tryz.func104 Tryz.ntmps104 rfl zS hg ?_
 conv=>whnf
 refine yce 0 rfl hs hl hm zO zO fun z z0 z1=>?_
 conv=>whnf
 refine ⟨fun hz=>?_,fun hz=>?_⟩
 ·have hz:z<19:=by simpa using hz
  conv=>whnf
  exact zmo (us:=mkC A m c (k+1)) rfl rfl fun w' h1 h2=>⟨_,_,⟨⟨_,rfl,⟨by omega,by omega,by omega,.inl zO⟩⟩,rfl⟩,rfl,h1,h2⟩
 have hz:¬z<19:=by simpa using hz
 conv=>whnf
 refine ⟨z-19,wr64 zO,?_⟩
 conv=>whnf
 refine ⟨⟨by omega,by omega⟩,?_⟩
 conv=>whnf
 rw [show (List.map CV.v (wrC W).toArray.toList)[0+(z-19).toNat*tsz Tryz.prog 4]?=some (.v (.bool (W.testBit (20+(z-19).toNat)))) by
  rw [show 0+(z-19).toNat*tsz Tryz.prog 4=(z-19).toNat from (Nat.zero_add _).trans (Nat.mul_one _),List.getElem?_map];show ((wrC W)[(z-19).toNat]?).map CV.v=_
  rw [yff W zO];rfl]
 conv=>whnf
 refine ⟨fun ht=>?_,fun ht=>?_⟩
 ·conv=>whnf
  refine ⟨z+1,wr64 zO,?_⟩
  conv=>whnf
  exact zmo (us:=mkC A m c (k+1)) rfl rfl fun w' h1 h2=>⟨_,_,⟨⟨_,rfl,⟨by omega,by omega,by omega,.inr (by rw [show (z+1).toNat=20+(z-19).toNat by omega];exact ht)⟩⟩,rfl⟩,rfl,h1,h2⟩
 ·conv=>whnf
  refine ⟨z-19,wr64 zO,?_⟩
  conv=>whnf
  exact zmo (us:=mkC A m c (k+1)) rfl rfl fun w' h1 h2=>⟨_,_,⟨⟨_,rfl,⟨by omega,by omega,by omega,.inl zO⟩⟩,rfl⟩,rfl,h1,h2⟩
theorem ycd {w0:World} {G:Gs} {S:List Ow} {K:AV→List Ow→Prop} (i:Nat) {A:Option Addr} {m c:Nat} {xs:List Int} {k:Int} (W:Nat) {l:List CV} (hl8:l=(wrC W).map .v) (hi:S[i]?=some (.cells 125 ((mkC A m c k).map .v))) (hs:zao w0 G A (xs.map (.int .i64))) (hl:xs.length=m) (hm:0≤m) (hk:0≤k∧k<999990)
  (hK:∀ z,srcI W z→K (one (.int .i64 z)) (S.set i (.cells 125 ((mkC A m c (k+1)).map .v)))):CallS Tryz.prog w0 G 104 [.p (.c (.ref i 0)),.p (.agg l)] S K:=by
 subst hl8;refine ze9 (fun x us'=>(∃ z,x= .int .i64 z∧srcI W z)∧us'=mkC A m c (k+1)) i hi (xs:=[.agg (wrC W).toArray]) rfl zK (fun w g ho hg=>yep A m c xs k W g w (ho A _ hs) hl hm hk hg) ?_;rintro x us' ⟨⟨z,rfl,h0⟩,rfl⟩;exact hK z h0
theorem yfg (W i:Nat) {t:Nat} (h:t<8):z3z (zsp i (List.map CV.v (wrC W))) t [CV.v (Value.bool true)]=(wrC (W|||2^(20+t))).map .v:=by
 have e:∀ j,(W|||2^(20+t)).testBit j=(W.testBit j||decide (20+t=j)):=fun j=>by rw [Nat.testBit_or,Nat.testBit_two_pow]
 simp only [wrC,e]
 rcases t with _|_|_|_|_|_|_|_|t<;>first|(exfalso;omega)|(simp [z3z,zsp,CV.kill,CV.names])
theorem yds (A:Option Addr) (m c:Nat) (xs:List Int) (k:Int) (g:Nat) (w:World) (hs:zao w ⟨[g],[]⟩ A (xs.map (.int .i64))) (hl:xs.length=m) (hm:0≤m) (hk:0≤k∧k<900000)
  (hg:w.heap[g]?=some (.cells (mkC A m c k).toArray 125 (0,0))):
  Calls Tryz.prog 61 #[.pointer (some ⟨g,0,none⟩)] w fun e w'=>∃ v n ys us',(∃ (l:List BOp) (W:Nat) (ch:Bool) (k':Int),BodyOk l W ch∧n=l.length∧ys=l.flatMap opC∧l.length≤10∧us'=mkC A m c k'∧0≤k'∧k'≤k+200)∧e= .returned v∧w'.ownsRow w.heap.size 61 5 v n ys∧w'.heap[g]?=some (.cells us'.toArray 125 (0,0))∧w.grownBy w' (some g):=by
 refine zfg [] Tryz.func61 Tryz.ntmps61 rfl zS hg ?_
 refine z3g ?_
 conv=>whnf
 refine z3g ?_
 conv=>whnf
 refine z3g ?_
 conv=>whnf
 refine z3g ?_
 conv=>whnf
 refine yce 0 rfl hs hl hm zO zO fun n0 n00 n01=>?_
 conv=>whnf
 refine ⟨Ins1 (k+1),fun x=>[(0,.p (.c (.ref 0 0))),(3,.p (.c (.row 2))),(4,.p (.c (.ref 1 0))),(5,one (.int .i64 x.n))],
  fun x=>[.cells 125 ((mkC A m c x.k).map .v),.cells 191 ((wrC x.W).map .v),.row 61 5 x.l.length (x.l.flatMap opC)],
  fun x=>x.n.toNat,⟨⟨n0,[],0,k+1,by omega,BodyOk.nil,by simp;omega,by omega⟩,zkc (ydf 3 61 5 rfl) (zkb rfl Tn (aI sM (aI ((aI rfl (Or.inl zS))) (aI ((aI rfl (aI rfl (aI rfl rfl)))) trivial))))⟩,fun x=>?_⟩
 ·obtain ⟨n,l,W,k1,hn,hb,hll,hk1⟩:=x
  dsimp only;(conv=>whnf);refine ⟨fun hc=>?_,fun hc=>?_⟩
  ·have hpos:0<n:=by simpa using hc
   (conv=>whnf);refine yce 0 rfl hs hl hm zO zO fun t t0 t1=>?_;(conv=>whnf);refine ycd 0 W rfl rfl hs hl hm zO fun a ha=>?_;(conv=>whnf);refine yce 0 rfl hs hl hm zO zO fun s s0 s1=>?_;(conv=>whnf);refine ⟨fun _=>?_,fun _=>?_⟩
   ·conv=>whnf
    refine ⟨_,wr64 zO,?_⟩;(conv=>whnf);refine ycg 0 rfl hs hl hm zO fun z hz=>?_;(conv=>whnf);refine zbi rfl ?_ rfl;(conv=>whnf);refine ⟨by omega,?_⟩;(conv=>whnf);refine ⟨fun _=>?_,fun hf=>absurd hf zV⟩;(conv=>whnf);refine ⟨⟨by omega,by omega⟩,?_⟩;(conv=>whnf);rw [show 0+t.toNat*tsz Tryz.prog 4=t.toNat from (Nat.zero_add _).trans (Nat.mul_one _),show Nat.ble (t.toNat+[CV.v (Value.bool true)].length) (zsp 2 (List.map CV.v (wrC W))).length=true from Nat.ble_eq_true_of_le (by show t.toNat+1≤8;omega),yfg W 2 zO];(conv=>whnf);refine ⟨_,wr64 zO,?_⟩;(conv=>whnf);exact ⟨⟨n-1,l++[⟨1,20+t,0,0,z⟩],W|||2^(20+t).toNat,k1+1+1+1+2,by omega,(hb.const (d:=20+t) ⟨by omega,by omega,by omega⟩ hz).is (if_pos zO) zV,by simp;omega,by omega⟩,zj2 Tn (aI sM (aI ((aI rfl (Or.inl (congrArg (fun z=>List.map CV.v (wrC (Nat.lor W (2^z)))) (show 20+t.toNat=(20+t).toNat by omega))))) (aI ((aI rfl (aI rfl (aI zS (by simp [opC]))))) trivial))) rfl rfl,by show (n-1).toNat<n.toNat;omega⟩
   (conv=>whnf);refine ⟨fun _=>?_,fun _=>?_⟩
   ·conv=>whnf
    refine yce 0 rfl hs hl hm zO zO fun q q0 q1=>?_;(conv=>whnf);refine ⟨_,wr64 zO,?_⟩;(conv=>whnf);refine ⟨_,wr64 zO,?_⟩;(conv=>whnf);refine ycg 0 rfl hs hl hm zO fun z hz=>?_;(conv=>whnf);refine zbi rfl ?_ rfl;(conv=>whnf);refine ⟨by omega,?_⟩;(conv=>whnf);refine ⟨fun _=>?_,fun hf=>absurd hf zV⟩;(conv=>whnf);refine ⟨⟨by omega,by omega⟩,?_⟩;(conv=>whnf);rw [show 0+t.toNat*tsz Tryz.prog 4=t.toNat from (Nat.zero_add _).trans (Nat.mul_one _),show Nat.ble (t.toNat+[CV.v (Value.bool true)].length) (zsp 2 (List.map CV.v (wrC W))).length=true from Nat.ble_eq_true_of_le (by show t.toNat+1≤8;omega),yfg W 2 zO];(conv=>whnf);refine ⟨_,wr64 zO,?_⟩;(conv=>whnf);exact ⟨⟨n-1,l++[⟨16+q,20+t,a,0,z⟩],W|||2^(20+t).toNat,k1+1+1+1+1+2,by omega,hb.load (d:=20+t) ⟨by omega,by omega⟩ ⟨by omega,by omega⟩ ha hz rfl,by simp;omega,by omega⟩,zj2 Tn (aI sM (aI ((aI rfl (Or.inl (congrArg (fun z=>List.map CV.v (wrC (Nat.lor W (2^z)))) (show 20+t.toNat=(20+t).toNat by omega))))) (aI ((aI rfl (aI rfl (aI zS (by simp [opC]))))) trivial))) rfl rfl,by show (n-1).toNat<n.toNat;omega⟩
   (conv=>whnf);refine ⟨fun _=>?_,fun _=>?_⟩
   ·conv=>whnf
    refine zbi rfl ?_ rfl;(conv=>whnf);refine ⟨by omega,?_⟩;(conv=>whnf);refine ⟨fun hf=>absurd hf (by decide),fun _=>?_⟩;(conv=>whnf);refine ⟨_,wr64 zO,?_⟩;(conv=>whnf);exact ⟨⟨n-1,l++[⟨21,0,a,0,0⟩],W,k1+1+1+1,by omega,hb.guard ha rfl,by simp;omega,by omega⟩,zj2 Tn (aI sM (aI sM (aI ((aI rfl (aI rfl (aI zS (by simp [opC]))))) trivial))) rfl rfl,by show (n-1).toNat<n.toNat;omega⟩
   (conv=>whnf);refine ycd 0 W rfl rfl hs hl hm zO fun b hb'=>?_;(conv=>whnf);refine yce 0 rfl hs hl hm zO zO fun q q0 q1=>?_;(conv=>whnf);refine ⟨_,wr64 zO,?_⟩;(conv=>whnf);refine ⟨_,wr64 zO,?_⟩;(conv=>whnf);refine zbi rfl ?_ rfl;(conv=>whnf)
   ·refine ⟨by omega,?_⟩
    (conv=>whnf);refine ⟨fun _=>?_,fun hf=>absurd hf zV⟩;(conv=>whnf);refine ⟨⟨by omega,by omega⟩,?_⟩;(conv=>whnf);rw [show 0+t.toNat*tsz Tryz.prog 4=t.toNat from (Nat.zero_add _).trans (Nat.mul_one _),show Nat.ble (t.toNat+[CV.v (Value.bool true)].length) (zsp 2 (List.map CV.v (wrC W))).length=true from Nat.ble_eq_true_of_le (by show t.toNat+1≤8;omega),yfg W 2 zO];(conv=>whnf);refine ⟨_,wr64 zO,?_⟩;(conv=>whnf);exact ⟨⟨n-1,l++[⟨3+q,20+t,a,b,0⟩],W|||2^(20+t).toNat,k1+1+1+1+1+1,by omega,(hb.bin (c:=3+q) (d:=20+t) ⟨by omega,by omega⟩ ⟨by omega,by omega,by omega⟩ ha hb').is (if_pos zO) zV,by simp;omega,by omega⟩,zj2 Tn (aI sM (aI ((aI rfl (Or.inl (congrArg (fun z=>List.map CV.v (wrC (Nat.lor W (2^z)))) (show 20+t.toNat=(20+t).toNat by omega))))) (aI ((aI rfl (aI rfl (aI zS (by simp [opC]))))) trivial))) rfl rfl,by show (n-1).toNat<n.toNat;omega⟩
  ·conv=>whnf
   refine ⟨_,_,zj7,?_⟩;(conv=>whnf)
   refine z24 (α:=Ins2 k) (fun y=>[(0,.p (.c (.ref 0 0))),(3,.p (.c (.row 2))),(4,.p (.c (.ref 1 0)))])
    (fun y=>[.cells 125 ((mkC A m c y.k).map .v),.cells 191 ((wrC y.W).map .v),.row 61 5 y.l.length (y.l.flatMap opC)]) ?_ fun y=>?_
   ·conv=>whnf
    refine yce 0 rfl hs hl hm zO zO fun s s0 s1=>?_;(conv=>whnf);refine ⟨fun _=>?_,fun _=>?_⟩
    ·conv=>whnf
     refine ycd 0 W rfl rfl hs hl hm zO fun a ha=>?_;(conv=>whnf);refine ycd 0 W rfl rfl hs hl hm zO fun b hb'=>?_;(conv=>whnf);refine yce 0 rfl hs hl hm zO zO fun q q0 q1=>?_;(conv=>whnf);refine ⟨_,wr64 zO,?_⟩;(conv=>whnf);refine ycg 0 rfl hs hl hm zO fun z hz=>?_;(conv=>whnf);refine zbi rfl ?_ rfl;(conv=>whnf);refine ⟨by omega,?_⟩;(conv=>whnf);exact ⟨⟨l++[⟨18+q,0,a,b,z⟩],W,true,k1+1+1+1+1+2,hb.store (c:=18+q) ⟨by omega,by omega⟩ ha hb' hz rfl,by simp;omega,by omega⟩,zj2 Tn (aI sM (aI sM (aI ((aI rfl (aI rfl (aI zS (by simp [opC]))))) trivial))) rfl rfl⟩
    ·conv=>whnf
     exact ⟨⟨l,W,false,k1+1,hb,by omega,by omega⟩,zj2 Tn (aI sM (aI sM (aI ((aI rfl (aI rfl (aI rfl rfl)))) trivial))) rfl rfl⟩
   obtain ⟨l2,W2,ch2,k2,hb2,hl2,hk2⟩:=y;dsimp only;refine z3g ?_;(conv=>whnf);refine yce 0 rfl hs hl hm zO zO fun n2 n20 n21=>?_;(conv=>whnf)
   refine ⟨Ins3 (k2+1) W2,fun x=>[(0,.p (.c (.ref 0 0))),(3,.p (.c (.row 2))),(4,.p (.c (.ref 1 0))),(11,one (.int .i64 x.n))],
    fun x=>[.cells 125 ((mkC A m c x.k).map .v),.cells 191 ((wrC W2).map .v),.row 61 5 x.l.length (x.l.flatMap opC)],
    fun x=>x.n.toNat,⟨⟨n2,l2,ch2,k2+1,by omega,hb2,by omega,by omega⟩,zkb rfl Tn (aI sM (aI sM (aI ((aI rfl (aI rfl (aI rfl rfl)))) trivial)))⟩,fun x=>?_⟩
   obtain ⟨n,l,ch,k1,hn,hb,hll,hk1⟩:=x;dsimp only;(conv=>whnf);refine ⟨fun hc=>?_,fun hc=>?_⟩
   ·have hpos:0<n:=by simpa using hc
    (conv=>whnf);refine yce 0 rfl hs hl hm zO zO fun t t0 t1=>?_;(conv=>whnf);refine ycd 0 W2 rfl rfl hs hl hm zO fun a ha=>?_;(conv=>whnf);refine yce 0 rfl hs hl hm zO zO fun s s0 s1=>?_;(conv=>whnf);refine ⟨fun _=>?_,fun _=>?_⟩
    ·conv=>whnf
     refine ycg 0 rfl hs hl hm zO fun z hz=>?_;(conv=>whnf);refine zbi rfl ?_ rfl;(conv=>whnf)
     (refine ⟨by omega,?_⟩;(conv=>whnf);refine ⟨_,wr64 zO,?_⟩;(conv=>whnf);exact ⟨⟨n-1,l++[⟨1,t,0,0,z⟩],ch||decide (t<20),k1+1+1+1+2,by omega,(hb.const (d:=t) ⟨by omega,by omega,by omega⟩ hz).is (if_neg zO) rfl,by simp;omega,by omega⟩,zj2 Tn (aI sM (aI sM (aI ((aI rfl (aI rfl (aI zS (by simp [opC]))))) trivial))) rfl rfl,by show (n-1).toNat<n.toNat;omega⟩)
    (conv=>whnf);refine ⟨fun _=>?_,fun _=>?_⟩
    ·conv=>whnf
     refine zbi rfl ?_ rfl;(conv=>whnf)
     (refine ⟨by omega,?_⟩;(conv=>whnf);refine ⟨_,wr64 zO,?_⟩;(conv=>whnf);exact ⟨⟨n-1,l++[⟨2,t,a,0,0⟩],ch||decide (t<20),k1+1+1+1,by omega,(hb.move (d:=t) ⟨by omega,by omega,by omega⟩ ha).is (if_neg zO) rfl,by simp;omega,by omega⟩,zj2 Tn (aI sM (aI sM (aI ((aI rfl (aI rfl (aI zS (by simp [opC]))))) trivial))) rfl rfl,by show (n-1).toNat<n.toNat;omega⟩)
    (conv=>whnf);refine ycd 0 W2 rfl rfl hs hl hm zO fun b hb'=>?_;(conv=>whnf);refine yce 0 rfl hs hl hm zO zO fun q q0 q1=>?_;(conv=>whnf);refine ⟨_,wr64 zO,?_⟩;(conv=>whnf);refine zbi rfl ?_ rfl;(conv=>whnf)
    (refine ⟨by omega,?_⟩;(conv=>whnf);refine ⟨_,wr64 zO,?_⟩;(conv=>whnf);exact ⟨⟨n-1,l++[⟨3+q,t,a,b,0⟩],ch||decide (t<20),k1+1+1+1+1+1,by omega,(hb.bin (c:=3+q) (d:=t) ⟨by omega,by omega⟩ ⟨by omega,by omega,by omega⟩ ha hb').is (if_neg zO) rfl,by simp;omega,by omega⟩,zj2 Tn (aI sM (aI sM (aI ((aI rfl (aI rfl (aI zS (by simp [opC]))))) trivial))) rfl rfl,by show (n-1).toNat<n.toNat;omega⟩)
   ·conv=>whnf
    refine ⟨_,_,zj7,?_⟩;(conv=>whnf);refine z3l ?_;(conv=>whnf);refine zcg ?_;(conv=>whnf)
    exact ydg (us:=mkC A m c k1) rfl rfl zO fun w' v e1 e2 e3=>⟨v,_,_,_,⟨l,W2,ch,k1,hb,rfl,rfl,by omega,rfl,by omega,by omega⟩,rfl,e3,e1,e2⟩
end Go.Proofs.YtocafomnnkmjfaaGreat
