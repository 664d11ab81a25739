import Derived.Test.YtocafomnnkmjfaaGreatK1
set_option maxRecDepth 100000
set_option maxHeartbeats 1000000
namespace Go.Proofs.YtocafomnnkmjfaaGreat
open Go.RowKit
def zf7 (s:Ck):List Value:=[.int .i64 (s.marks:Int),.int .u32 (s.written:Int),.bool s.changed]
def zad (g:Nat) (w:World) (r:Option Ck) (e:Ending) (w':World):Prop:=
 e= .returned (.bool r.isSome)∧w.grownBy w' (some g)∧∀ s,r=some s→Has w' g (zf7 s)
theorem zy8 {g:Nat} {w w':World} {r:Option Ck} {b:Bool} (hr:r=none) (hb:b=false) (h:w.grownBy w' (some g)):zad g w r (.returned (.bool b)) w':=by
 subst hr;subst hb;exact ⟨rfl,h,fun s hs=>by cases hs⟩
theorem zy9 {g:Nat} {w w':World} {r:Option Ck} {b:Bool} {s:Ck} (hr:r=some s) (hb:b=true) (h:w.grownBy w' (some g)) (hc:Has w' g (zf7 s)):zad g w r (.returned (.bool b)) w':=by
 subst hr;subst hb;exact ⟨rfl,h,fun s' hs=>by cases hs;exact hc⟩
section
variable (g:Nat) (s:Ck) (o:BOp) (last exit:Bool) (w:World)
theorem zva (hg:Has w g (zf7 s)) (h:znn o=false):
  Calls Tryz.prog 110 #[.pointer (some ⟨g,0,none⟩),opV o,.bool last,.bool exit] w (zad g w (zf1 s o last exit)):=by
 have hr:Hid (zf1 s o last exit=none):=(by unfold Hid zf1;simp [h]);have hglt:=hg.lt;clear hg;unfold znn at h;unfold opV;by_cases hI:isOp o.code=true
 ·by_cases hd:zlz (hasD o.code) o.d=true
  ·by_cases ha:zlz (hasA o.code) o.a=true
   ·by_cases hb:zlz (hasB o.code) o.b=true
    ·have hN:hasN o.code=false∧(o.n==0)=false:=by simpa [hI,hd,ha,hb] using h
     obtain ⟨hN,h0⟩:=hN;have h1:(o.n !=0)=true:=(by simpa using h0);clear h
     go_enter Tryz.func110,Tryz.ntmps110
     go_wp2_with (first|(go_at_call 162;refine (z43 _ _).mono ?_;rintro e w1 ⟨rfl,hb1⟩;obtain ⟨hc1,hf1⟩:=bcell hb1;have hz1:=hb1.size;try simp only [World.size_alloc] at hz1;have hy1_0:w.heap.size<w1.heap.size:=zO;have hc1_0:=fun o=>hc1 (w.heap.size) o Ttb3;have hf1_0:=fun o=>hf1 (w.heap.size) o Ttb3)|(go_at_call 163;refine (zl1 _ _ _).mono ?_;rintro e w' ⟨rfl,rfl⟩))
     go_ret
     exact zy8 hr.out rfl Ttb1
    ·have hb':zlz (hasB o.code) o.b=false:=by simpa using hb
     clear h hb
     go_enter Tryz.func110,Tryz.ntmps110
     go_wp2_with (first|(go_at_call 162;refine (z43 _ _).mono ?_;rintro e w1 ⟨rfl,hb1⟩;obtain ⟨hc1,hf1⟩:=bcell hb1;have hz1:=hb1.size;try simp only [World.size_alloc] at hz1;have hy1_0:w.heap.size<w1.heap.size:=zO;have hc1_0:=fun o=>hc1 (w.heap.size) o Ttb3;have hf1_0:=fun o=>hf1 (w.heap.size) o Ttb3)|(go_at_call 163;refine (zl1 _ _ _).mono ?_;rintro e w' ⟨rfl,rfl⟩))
     go_ret
     exact zy8 hr.out rfl Ttb1
   ·have ha':zlz (hasA o.code) o.a=false:=by simpa using ha
    clear h ha
    go_enter Tryz.func110,Tryz.ntmps110
    go_wp2_with (first|(go_at_call 162;refine (z43 _ _).mono ?_;rintro e w1 ⟨rfl,hb1⟩;obtain ⟨hc1,hf1⟩:=bcell hb1;have hz1:=hb1.size;try simp only [World.size_alloc] at hz1;have hy1_0:w.heap.size<w1.heap.size:=zO;have hc1_0:=fun o=>hc1 (w.heap.size) o Ttb3;have hf1_0:=fun o=>hf1 (w.heap.size) o Ttb3)|(go_at_call 163;refine (zl1 _ _ _).mono ?_;rintro e w' ⟨rfl,rfl⟩))
    go_ret
    exact zy8 hr.out rfl Ttb1
  ·have hd':zlz (hasD o.code) o.d=false:=by simpa using hd
   clear h hd
   go_enter Tryz.func110,Tryz.ntmps110
   go_wp2_with (first|(go_at_call 162;refine (z43 _ _).mono ?_;rintro e w1 ⟨rfl,hb1⟩;obtain ⟨hc1,hf1⟩:=bcell hb1;have hz1:=hb1.size;try simp only [World.size_alloc] at hz1;have hy1_0:w.heap.size<w1.heap.size:=zO;have hc1_0:=fun o=>hc1 (w.heap.size) o Ttb3;have hf1_0:=fun o=>hf1 (w.heap.size) o Ttb3)|(go_at_call 163;refine (zl1 _ _ _).mono ?_;rintro e w' ⟨rfl,rfl⟩))
   go_ret
   exact zy8 hr.out rfl Ttb1
 ·have hI':isOp o.code=false:=by simpa using hI
  clear h hI
  go_enter Tryz.func110,Tryz.ntmps110
  go_wp2_with (first|(go_at_call 162;refine (z43 _ _).mono ?_;rintro e w1 ⟨rfl,hb1⟩;obtain ⟨hc1,hf1⟩:=bcell hb1;have hz1:=hb1.size;try simp only [World.size_alloc] at hz1;have hy1_0:w.heap.size<w1.heap.size:=zO;have hc1_0:=fun o=>hc1 (w.heap.size) o Ttb3;have hf1_0:=fun o=>hf1 (w.heap.size) o Ttb3)|(go_at_call 163;refine (zl1 _ _ _).mono ?_;rintro e w' ⟨rfl,rfl⟩))
  go_ret
  exact zy8 hr.out rfl Ttb1
end
theorem zv6 (a:Nat) (ha:a<4294967296):(BitVec.ofInt 32 (a:Int)).toNat=a:=by
 rw [BitVec.ofInt_natCast,BitVec.toNat_ofNat];exact Nat.mod_eq_of_lt zO
theorem z9b {a b:Int} (ha:word a) (hb:word b):bits .and .u32 a b=andI a b:=by
 unfold word at ha hb;obtain ⟨n,rfl⟩:=Int.eq_ofNat_of_zero_le ha.1;obtain ⟨m,rfl⟩:=Int.eq_ofNat_of_zero_le hb.1;have hx:n &&& m<2^32:=Nat.and_lt_two_pow _ zO;show IntKind.u32.wrap ((BitVec.ofInt 32 (n:Int) &&& BitVec.ofInt 32 (m:Int)).toNat:Int)=_;rw [BitVec.toNat_and,zv6 n zO,zv6 m zO,IntKind.wrap_u32];simp only [andI,Int.toNat_natCast];omega
theorem z9c {a b:Int} (ha:word a) (hb:word b):bits .or .u32 a b=orI a b:=by
 unfold word at ha hb;obtain ⟨n,rfl⟩:=Int.eq_ofNat_of_zero_le ha.1;obtain ⟨m,rfl⟩:=Int.eq_ofNat_of_zero_le hb.1;have hx:n|||m<2^32:=Nat.or_lt_two_pow zO zO;show IntKind.u32.wrap ((BitVec.ofInt 32 (n:Int)|||BitVec.ofInt 32 (m:Int)).toNat:Int)=_;rw [BitVec.toNat_or,zv6 n zO,zv6 m zO,IntKind.wrap_u32];simp only [orI,Int.toNat_natCast];omega
theorem z9d {a b:Int} (ha:word a) (hb:word b):bits .xor .u32 a b=xorI a b:=by
 unfold word at ha hb;obtain ⟨n,rfl⟩:=Int.eq_ofNat_of_zero_le ha.1;obtain ⟨m,rfl⟩:=Int.eq_ofNat_of_zero_le hb.1;have hx:n ^^^ m<2^32:=Nat.xor_lt_two_pow zO zO;show IntKind.u32.wrap ((BitVec.ofInt 32 (n:Int) ^^^ BitVec.ofInt 32 (m:Int)).toNat:Int)=_;rw [BitVec.toNat_xor,zv6 n zO,zv6 m zO,IntKind.wrap_u32];simp only [xorI,Int.toNat_natCast];omega
theorem zdr (x:Bool) (w:World):
  Calls Tryz.prog 152 #[.bool x] w fun e w'=>e= .returned (.int .u32 (bitI x))∧w=w':=by
 cases x
 all_goals
  go_enter Tryz.func152,Tryz.ntmps152
  go_wp2
  go_ret
  exact ⟨rfl,rfl⟩
theorem z5n (a:Int) (w:World) (ha:word a):
  Calls Tryz.prog 151 #[.int .u32 a] w fun e w'=>e= .returned (.int .i64 (z5m a))∧w=w':=by
 obtain ⟨h0,h1⟩:=ha;by_cases hs:2147483648≤a
 all_goals
  go_enter Tryz.func151,Tryz.ntmps151
  go_wp2
  go_ret
  exact ⟨z16 (by unfold z5m;split<;>omega),rfl⟩
def zm8:Value→Option (DataW Unit×List MemPlace)
 | .func (.func f) a b=>if a.size=0∧b.size=0 then some (.lit (.int .i64 (f:Int)),[]) else none
 | .nilFunc=>some (.lit (.bool false),[])
 |_=>none
def fnMk (x:Int):Value:= .func (.func x.toNat) #[] #[]
def fnCd (x:Int):DataW Unit:= .lit (.int .i64 x)
theorem zm9:Elems zm8 fnMk fnCd (fun x=>0≤x) where
 to x hx:=by simp [zm8,fnMk,fnCd];omega
 from_ v x ps h:=by
  unfold zm8 at h
  split at h
  ·rename_i f a b
   split at h
   ·rename_i hs
    obtain ⟨ha,hb⟩:=hs;have ea:=Array.eq_empty_of_size_eq_zero ha;have eb:=Array.eq_empty_of_size_eq_zero hb;subst ea;subst eb;simp only [Option.some.injEq,Prod.mk.injEq,fnCd] at h;have h1:=h.1;injection h1 with h1;injection h1 with _ h1;subst h1;simp [fnMk]
   ·cases h
  ·simp [fnCd] at h
  ·cases h
def midF (s:Int→Option Int):Prop:=∀ k x,s k=some x→mid x
def zg7 (s:Int→Option Int) (o:BOp):Int→Option Int:=if o.code==20 then fun v=>(fdel s 8 v).filter fun w=> !decide (20≤w) else s
def zxm (s:Int→Option Int) (has:Bool) (v:Int):Int:=if has&&(s v).isSome then (s v).getD 0 else v
def zg8 (s:Int→Option Int) (o:BOp):BOp:=⟨o.code,o.d,zxm s (memI o.a (reads o)&&o.code !=20) o.a,zxm s (twoB o.code) o.b,o.n⟩
def zhb (p:BOp):Bool:=p.code==2&&p.d==p.a
def zg6 (s:Int→Option Int) (d:Int):Int→Option Int:=fun v=>(mdel s d v).filter fun w=> !(w==d)
def zhc (s:Int→Option Int) (p:BOp):Int→Option Int:=if writes p<0 then s else if p.code==2 then mput (zg6 s (writes p)) (writes p) p.a else zg6 s (writes p)
def zha:(Int→Option Int)→List BOp→List BOp
 |_,[]=>[]
 |s,o::l=>if zhb (zg8 (zg7 s o) o) then zha (zg7 s o) l else zg8 (zg7 s o) o::zha (zhc (zg7 s o) (zg8 (zg7 s o) o)) l
def zg4 (b:Blk):List BOp:=if z9o b then zha zvp b.ops else b.ops
theorem ltH {g:Nat} {w:World} (h:g<w.heap.size):g<w.heap.size+1:=by omega
theorem ybj {P:Program} {id:Nat} {Q:Exit→Act→World→Prop} {a:Act} {w:World} {l:List Oper} (n:Nat) (hm:P.follows .mixedOrders=true) (hB:Region.lexTailB .any l.toArray n=true)
  (h:wpStill P l.toArray w.drew (fun a'=>wpList P l.toArray Q (l.drop n) a' w.drew) (l.take n) a):(Code.region id l.toArray true).wp P Q a w:=
 wp_region_still_tail n hm hB h
theorem ybi {P:Program} {id:Nat} {Q:Exit→Act→World→Prop} {a:Act} {w:World} {l:List Oper} (hm:P.follows .mixedOrders=true) (hB:Region.lexB .any l.toArray=true)
  (h:wpQuiet P l.toArray (fun w'=>Below w.heap.size w w') (fun a'=>∀ w',Below w.heap.size w w'→Q .normal a' w') l a):(Code.region id l.toArray true).wp P Q a w:=
 wp_region_quiet (C:=fun w'=>Below w.heap.size w w') hm hB ((Below.refl _ w).drew) (by simpa using h)
theorem ybe {P:Program} {ops:Array Oper} {w:World} {Q:Act→Prop} {o:Oper} {rest:List Oper} {a:Act} (hw:Region.wanted o (yielded ops a.tmps)=false) (h:wpStill P ops w Q rest (a.put o.dst undef)):wpStill P ops w Q (o::rest) a:=by
 unfold wpStill;rw [hw];exact h
structure Gs where
 fix:List Nat
 ext:List Nat
instance:Membership Nat Gs:=⟨fun G b=>b∈G.fix∨b∈G.ext⟩
def Gs.nil:Gs:=⟨[],[]⟩
@[simp] theorem Gs.mem_nil (b:Nat):¬b∈Gs.nil:=by rintro (h|h)<;>cases h
inductive CV where
 |v (x:Value)
 |ref (i off:Nat)
 |vref (i off:Nat)
 |row (i:Nat)
 |sl (i off n c:Nat)
 |mp (i:Nat)
 |clo (f:Fn) (cap:List CV)
 |any
inductive Pc where
 |c (x:CV)
 |agg (l:List CV)
inductive AV where
 |p (x:Pc)
 |tup (l:List Pc)
structure Env where
 blk:Nat→Option Nat
 val:Nat→Option Value
structure Env.le (a b:Env):Prop where
 blk:∀ i x,a.blk i=some x→b.blk i=some x
 val:∀ i x,a.val i=some x→b.val i=some x
theorem Env.le.refl (a:Env):a.le a:=⟨fun _ _ h=>h,fun _ _ h=>h⟩
theorem Env.le.trans {a b c:Env} (h:a.le b) (k:b.le c):a.le c:=⟨fun i x hx=>k.blk i x (h.blk i x hx),fun i x hx=>k.val i x (h.val i x hx)⟩
mutual
def CV.den (r:Env):CV→Value→Prop
 | .v x,u=>u=x
 | .ref i off,u=>∃ b,r.blk i=some b∧u= .pointer (some ⟨b,off,none⟩)
 | .vref i off,u=>∃ b o n c,r.val i=some (.slice (some ⟨b,o,none⟩) n c)∧u= .pointer (some ⟨b,o+off,none⟩)
 | .row i,u=>r.val i=some u
 | .sl i off n c,u=>∃ b,r.blk i=some b∧u= .slice (some ⟨b,off,none⟩) n c
 | .mp i,u=>∃ b,r.blk i=some b∧u= .map (some b)
 | .clo f cap,u=>∃ us:List Value,u= .func f #[] us.toArray∧denL r cap us
 | .any,_=>True
def denL (r:Env):List CV→List Value→Prop
 |[],us=>us=[]
 |c::cs,us=>∃ u l,us=u::l∧c.den r u∧denL r cs l
end
def Pc.den (r:Env):Pc→Value→Prop
 | .c x,u=>x.den r u
 | .agg l,u=>∃ us:List Value,u= .agg us.toArray∧denL r l us
def zyk (r:Env):List Pc→List Value→Prop
 |[],us=>us=[]
 |c::cs,us=>∃ u l,us=u::l∧c.den r u∧zyk r cs l
def AV.den (r:Env):AV→Value→Prop
 | .p x,u=>x.den r u
 | .tup l,u=>∃ us:List Value,u= .tuple us.toArray∧zyk r l us
mutual
theorem CV.den_mono {r r':Env} (h:r.le r'):∀ (c:CV) (u:Value),c.den r u→c.den r' u
 | .v x,u,hd=>by simpa only [CV.den] using hd
 | .ref i off,u,hd=>by simp only [CV.den] at hd⊢;obtain ⟨b,hb,hu⟩:=hd;exact ⟨b,h.blk _ _ hb,hu⟩
 | .vref i off,u,hd=>by simp only [CV.den] at hd⊢;obtain ⟨b,o,n,c,hb,hu⟩:=hd;exact ⟨b,o,n,c,h.val _ _ hb,hu⟩
 | .row i,u,hd=>by simp only [CV.den] at hd⊢;exact h.val _ _ hd
 | .sl i off n c,u,hd=>by simp only [CV.den] at hd⊢;obtain ⟨b,hb,hu⟩:=hd;exact ⟨b,h.blk _ _ hb,hu⟩
 | .mp i,u,hd=>by simp only [CV.den] at hd⊢;obtain ⟨b,hb,hu⟩:=hd;exact ⟨b,h.blk _ _ hb,hu⟩
 | .clo f cap,u,hd=>by simp only [CV.den] at hd⊢;obtain ⟨us,hu,hl⟩:=hd;exact ⟨us,hu,zil h cap us hl⟩
 | .any,u,hd=>by simp only [CV.den]
theorem zil {r r':Env} (h:r.le r'):∀ (l:List CV) (us:List Value),denL r l us→denL r' l us
 |[],us,hd=>by simpa only [denL] using hd
 |c::cs,us,hd=>by simp only [denL] at hd⊢;obtain ⟨u,l,hu,hc,hl⟩:=hd;exact ⟨u,l,hu,CV.den_mono h c u hc,zil h cs l hl⟩
end
theorem Pc.den_mono {r r':Env} (h:r.le r'):∀ (c:Pc) (u:Value),c.den r u→c.den r' u
 | .c x,u,hd=>CV.den_mono h x u hd
 | .agg l,u,hd=>by obtain ⟨us,hu,hl⟩:=hd;exact ⟨us,hu,zil h l us hl⟩
theorem zyn {r r':Env} (h:r.le r'):∀ (l:List Pc) (us:List Value),zyk r l us→zyk r' l us
 |[],us,hd=>hd
 |c::cs,us,hd=>by obtain ⟨u,l,hu,hc,hl⟩:=hd;exact ⟨u,l,hu,Pc.den_mono h c u hc,zyn h cs l hl⟩
theorem AV.den_mono {r r':Env} (h:r.le r'):∀ (c:AV) (u:Value),c.den r u→c.den r' u
 | .p x,u,hd=>Pc.den_mono h x u hd
 | .tup l,u,hd=>by obtain ⟨us,hu,hl⟩:=hd;exact ⟨us,hu,zyn h l us hl⟩
theorem zif {r:Env}:∀ {l:List CV} {us:List Value} {k:Nat} {c:CV},denL r l us→l[k]?=some c→∃ u,us[k]?=some u∧c.den r u
 |[],us,k,c,hd,h=>by simp at h
 |a::l,us,0,c,hd,h=>by
  simp only [denL] at hd;obtain ⟨u,l',hu,hc,hl⟩:=hd;subst hu;simp at h;subst h;exact ⟨u,by simp,hc⟩
 |a::l,us,k+1,c,hd,h=>by
  simp only [denL] at hd;obtain ⟨u,l',hu,hc,hl⟩:=hd;subst hu
  simpa using zif hl (by simpa using h)
theorem zik {r:Env}:∀ {l:List CV} {us:List Value},denL r l us→us.length=l.length
 |[],us,hd=>by simp only [denL] at hd;subst hd;rfl
 |a::l,us,hd=>by simp only [denL] at hd;obtain ⟨u,l',hu,hc,hl⟩:=hd;subst hu;simp [zik hl]
theorem zii {r:Env}:∀ {l:List CV} {us:List Value} (k:Nat),denL r l us→denL r (l.drop k) (us.drop k)
 |l,us,0,hd=>by simpa using hd
 |[],us,k+1,hd=>by simp only [denL] at hd;subst hd;simp [denL]
 |a::l,us,k+1,hd=>by simp only [denL] at hd;obtain ⟨u,l',hu,hc,hl⟩:=hd;subst hu;simpa using zii k hl
theorem ziq {r:Env}:∀ {l:List CV} {us:List Value} (k:Nat),denL r l us→denL r (l.take k) (us.take k)
 |l,us,0,hd=>by simp [denL]
 |[],us,k+1,hd=>by simp only [denL] at hd;subst hd;simp [denL]
 |a::l,us,k+1,hd=>by
  simp only [denL] at hd;obtain ⟨u,l',hu,hc,hl⟩:=hd;subst hu;simp only [List.take_succ_cons,denL];exact ⟨u,_,rfl,hc,ziq k hl⟩
theorem zin {r:Env}:∀ {l:List CV} {us:List Value} (k:Nat) {c:CV} {u:Value},denL r l us→c.den r u→denL r (l.set k c) (us.set k u)
 |[],us,k,c,u,hd,h=>by simp only [denL] at hd;subst hd;simp [denL]
 |a::l,us,0,c,u,hd,h=>by
  simp only [denL] at hd;obtain ⟨u',l',hu,hc,hl⟩:=hd;subst hu;simp only [List.set_cons_zero,denL];exact ⟨u,_,rfl,h,hl⟩
 |a::l,us,k+1,c,u,hd,h=>by
  simp only [denL] at hd;obtain ⟨u',l',hu,hc,hl⟩:=hd;subst hu;simp only [List.set_cons_succ,denL];exact ⟨u',_,rfl,hc,zin k hl h⟩
theorem zir {r:Env}:∀ us:List Value,denL r (us.map .v) us
 |[]=>by simp [denL]
 |u::us=>by simp only [List.map_cons,denL];exact ⟨u,us,rfl,by simp [CV.den],zir us⟩
theorem zis {r:Env}:∀ {us vs:List Value},denL r (us.map .v) vs→vs=us
 |[],vs,h=>by simpa [denL] using h
 |u::us,vs,h=>by
  simp only [List.map_cons,denL] at h;obtain ⟨u',l,hu,hc,hl⟩:=h;simp only [CV.den] at hc;subst hc;subst hu;rw [zis hl]
def pcOf:Value→Pc
 | .agg cs=> .agg (cs.toList.map .v)
 |x=> .c (.v x)
def AV.of:Value→AV
 | .tuple vs=> .tup (vs.toList.map pcOf)
 | .agg cs=> .p (.agg (cs.toList.map .v))
 |x=> .p (.c (.v x))
theorem zyh (r:Env) (x:Value):(pcOf x).den r x:=by
 unfold pcOf
 split
 ·rename_i cs;exact ⟨cs.toList,by simp,zir _⟩
 ·simp [Pc.den,CV.den]
theorem zyo (r:Env):∀ l:List Value,zyk r (l.map pcOf) l
 |[]=>rfl
 |x::l=>⟨x,l,rfl,zyh r x,zyo r l⟩
theorem AV.of_den (r:Env) (x:Value):(AV.of x).den r x:=by
 unfold AV.of
 split
 ·rename_i vs;exact ⟨vs.toList,by simp,zyo r _⟩
 ·rename_i cs;exact ⟨cs.toList,by simp,zir _⟩
 ·simp [AV.den,Pc.den,CV.den]
abbrev Fr:=List (Nat×AV)
def Fr.get:Fr→Nat→AV
 |[],_=> .p (.c .any)
 |(d,x)::r,k=>match Nat.beq d k with|true=>x|false=>Fr.get r k
def Fr.put (f:Fr) (dst:Option Tmp) (x:AV):Fr:=match dst with|some d=>(d,x)::f|none=>f
def Fr.ev (f:Fr):Operand→AV
 | .tmp t=>f.get t
 | .const x=>AV.of x
 | .global g=> .p (.c (.v (.pointer (some ⟨g,0,none⟩))))
 | .func fn=> .p (.c (.clo (.func fn) []))
def FDen (r:Env) (f:Fr) (a:Act):Prop:=∀ k,(f.get k).den r (a.tmps.getD k undef)
theorem FDen.mono {r r':Env} {f:Fr} {a:Act} (h:FDen r f a) (hr:r.le r'):FDen r' f a:=fun k=>AV.den_mono hr _ _ (h k)
theorem FDen.ev {r:Env} {f:Fr} {a:Act} (h:FDen r f a) (x:Operand):(f.ev x).den r (a.eval x):=by
 cases x with
 |tmp t=>exact h t
 |const x=>exact AV.of_den r x
 |global g=>simp [Fr.ev,AV.den,Pc.den,CV.den,Act.eval]
 |func fn=>simp [Fr.ev,AV.den,Pc.den,CV.den,Act.eval,denL]
def zi8 (N:Nat):Option Tmp→Bool
 |none=>true
 |some d=>Nat.blt d N
theorem FDen.put {r:Env} {f:Fr} {a:Act} (h:FDen r f a) {dst:Option Tmp} {x:AV} {u:Value} (hx:x.den r u) (hN:zi8 a.tmps.size dst=true):FDen r (f.put dst x) (a.put dst u):=by
 cases dst with
 |none=>exact h
 |some d=>
  have hd:d<a.tmps.size:=(by simpa [zi8,Nat.blt_eq] using hN);intro k;simp only [Fr.put,Fr.get,Act.put];by_cases hk:d=k
  ·subst hk
   simp only [Nat.beq_refl];rw [Array.getD_eq_getD_getElem?,Array.getElem?_setIfInBounds];simp [hd,hx]
  ·have:Nat.beq d k=false:=by
    cases h2:Nat.beq d k
    ·rfl
    ·exact absurd (Nat.eq_of_beq_eq_true h2) hk
   simp only [this];rw [Array.getD_eq_getD_getElem?,Array.getElem?_setIfInBounds,if_neg hk, ← Array.getD_eq_getD_getElem?];exact h k
theorem zzq (a:Act) (dst:Option Tmp) (u:Value):(a.put dst u).tmps.size=a.tmps.size:=by cases dst<;>simp [Act.put]
theorem zzn (a:Act) (dst:Option Tmp) (u:Value):(a.put dst u).defers=a.defers:=by cases dst<;>rfl
theorem FDen.putAny {r:Env} {f:Fr} {a:Act} (h:FDen r f a) {dst:Option Tmp} (u:Value) (hN:zi8 a.tmps.size dst=true):FDen r (f.put dst (.p (.c .any))) (a.put dst u):=h.put (by simp [AV.den,Pc.den,CV.den]) hN
inductive Ow where
 |cells (t:TypeId) (l:List CV)
 |row (e:TypeId) (size n:Nat) (xs:List Value)
 |ext (φ:Nat→World→Prop)
 |view (φ:Option Addr→Prop) (n:Nat) (xs:List Value)
 |gone
def Ow.holds (r:Env) (w:World) (i:Nat):Ow→Prop
 | .cells t l=>∃ b us,r.blk i=some b∧w.heap[b]?=some (.cells us.toArray t (0,0))∧denL r l us
 | .row e size n xs=>∃ v,r.val i=some v∧v.ownBlock=r.blk i∧w.ownsRow 0 e size v n xs
 | .ext φ=>∃ b,r.blk i=some b∧φ b w∧∀ w':World,w'.heap[b]?=w.heap[b]?→φ b w'
 | .view φ n xs=>∃ A c,r.val i=some (.slice A n c)∧n≤c∧(c≤maxLen∧φ A)∧r.blk i=none∧∀ j u,xs[j]?=some u→∃ b off,A=some ⟨b,off,none⟩∧b<w.heap.size∧(∀ k,r.blk k≠some b)∧w.cell? ⟨b,off+j,none⟩=some u
 | .gone=>True
structure Rel (w0:World) (G:Gs) (S:List Ow) (r:Env) (w:World):Prop where
 os:w.os=w0.os
 tape:w.tape=w0.tape
 output:w.output=w0.output
 size:w0.heap.size≤w.heap.size
 old:∀ k,k<w0.heap.size→k∉G→w.heap[k]?=w0.heap[k]?
 own:∀ (i:Nat) (o:Ow),S[i]?=some o→o.holds r w i
 inj:∀ i j b,r.blk i=some b→r.blk j=some b→i=j
 new:∀ i b,r.blk i=some b→b<w.heap.size∧(b<w0.heap.size→b∈G)
 outB:∀ i,S.length≤i→r.blk i=none
 outV:∀ i,S.length≤i→r.val i=none
 first:∀ (i g:Nat),G.fix[i]?=some g→r.blk i=some g
theorem Ow.holds_block {r:Env} {w w':World} {i:Nat} {o:Ow} (h:o.holds r w i) (hb:∀ b,r.blk i=some b→w'.heap[b]?=w.heap[b]?) (hs:w.heap.size≤w'.heap.size) (hv:∀ b,b<w.heap.size→(∀ k,r.blk k≠some b)→w'.heap[b]?=w.heap[b]?):o.holds r w' i:=by
 cases o with
 |cells t l=>obtain ⟨b,us,h1,h2,h3⟩:=h;exact ⟨b,us,h1,(hb b h1).trans h2,h3⟩
 |row e size n xs=>
  obtain ⟨v,h1,h2,h3,h4⟩:=h;refine ⟨v,h1,h2,h3,?_⟩;rcases h4 with h4|⟨g,cap,cur,hv,hg,hh,hr⟩
  ·exact .inl h4
  ·have:r.blk i=some g:=by rw [← h2,hv];rfl
   exact .inr ⟨g,cap,cur,hv,hg,(hb g this).trans hh,hr⟩
 |ext φ=>obtain ⟨b,h1,h2,h3⟩:=h;exact ⟨b,h1,h3 w' (hb b h1),fun w'' hw=>h3 w'' (hw.trans (hb b h1))⟩
 |view φ n xs=>
  obtain ⟨A,c,h1,h2,h3,h4,h5⟩:=h;refine ⟨A,c,h1,h2,h3,h4,fun j u hj=>?_⟩;obtain ⟨b,off,h6,h7,h8,h9⟩:=h5 j u hj;exact ⟨b,off,h6,Nat.lt_of_lt_of_le h7 hs,h8,(World.cell?_of_block (w:=w) (a:=⟨b,off+j,none⟩) (hv b h7 h8)).trans h9⟩
 |gone=>trivial
theorem Ow.holds_mono {r r':Env} (hr:r.le r') {w:World} {i:Nat} {o:Ow} (h:o.holds r w i) (hb:r'.blk i=r.blk i) (hn:∀ k b,r'.blk k=some b→r.blk k=some b∨w.heap.size≤b):o.holds r' w i:=by
 cases o with
 |cells t l=>obtain ⟨b,us,h1,h2,h3⟩:=h;exact ⟨b,us,hr.blk _ _ h1,h2,zil hr _ _ h3⟩
 |row e size n xs=>obtain ⟨v,h1,h2,h3⟩:=h;exact ⟨v,hr.val _ _ h1,h2.trans hb.symm,h3⟩
 |ext φ=>obtain ⟨b,h1,h2⟩:=h;exact ⟨b,hr.blk _ _ h1,h2⟩
 |view φ n xs=>
  obtain ⟨A,c,h1,h2,h3,h4,h5⟩:=h;refine ⟨A,c,hr.val _ _ h1,h2,h3,hb.trans h4,fun j u hj=>?_⟩;obtain ⟨b,off,h6,h7,h8,h9⟩:=h5 j u hj;refine ⟨b,off,h6,h7,fun k hk=>?_,h9⟩;rcases hn k b hk with h|h
  ·exact h8 k h
  ·omega
 |gone=>trivial
section
variable {w0:World} {G:Gs} {S:List Ow} {r:Env} {w:World}
theorem Rel.below (h:Rel w0 G S r w) {w':World} (hb:Below w.heap.size w w'):Rel w0 G S r w':=
 ⟨hb.os.trans h.os,hb.tape.trans h.tape,hb.output.trans h.output,Nat.le_trans h.size hb.size,
  fun k hk hg=>(hb.block k (Nat.lt_of_lt_of_le hk h.size)).trans (h.old k hk hg),
  fun i o ho=>Ow.holds_block (h.own i o ho) (fun b hb'=>hb.block b (h.new i b hb').1) hb.size (fun b hb' _=>hb.block b hb'),
  h.inj,fun i b hb'=>⟨Nat.lt_of_lt_of_le (h.new i b hb').1 hb.size,(h.new i b hb').2⟩,h.outB,h.outV,h.first⟩
theorem Rel.drew (h:Rel w0 G S r w):Rel w0 G S r w.drew:=h.below ((Below.refl _ _).drew)
theorem Rel.cell (h:Rel w0 G S r w) {i off:Nat} {t:TypeId} {l:List CV} {c:CV} (hi:S[i]?=some (.cells t l)) (hc:l[off]?=some c):
  ∃ b u,r.blk i=some b∧w.cell? ⟨b,off,none⟩=some u∧c.den r u:=by
 obtain ⟨b,us,h1,h2,h3⟩:=h.own i _ hi;obtain ⟨u,hu,hd⟩:=zif h3 hc;exact ⟨b,u,h1,by simp [World.cell?,h2,hu],hd⟩
end
def zac (w0:World) (G:Gs) (b off:Nat) (xs:List Value):Prop:=b<w0.heap.size∧b∉G∧∀ j u,xs[j]?=some u→w0.cell? ⟨b,off+j,none⟩=some u
theorem Rel.oldCell {w0:World} {G:Gs} {S:List Ow} {r:Env} {w:World} (h:Rel w0 G S r w) {b:Nat} (hb:b<w0.heap.size) (hg:b∉G) (off:Nat):w.cell? ⟨b,off,none⟩=w0.cell? ⟨b,off,none⟩:=
 World.cell?_of_block (w:=w0) (a:=⟨b,off,none⟩) (h.old b hb hg)
structure Nd where
 n:Nat
 ds:List Deferred
def Good (w0:World) (G:Gs) (N:Nd) (f:Fr) (S:List Ow) (a:Act) (w:World):Prop:=
 ∃ r,Rel w0 G S r w∧FDen r f a∧a.tmps.size=N.n∧a.defers=N.ds
theorem zns {o:BOp} (h:znn o=true):isOp o.code=true∧zlz (hasD o.code) o.d=true∧zlz (hasA o.code) o.a=true∧zlz (hasB o.code) o.b=true∧(hasN o.code=true∨(hasN o.code=false∧(o.n !=0)=false)):=by
 unfold znn at h;simp only [Bool.and_eq_true,Bool.or_eq_true] at h;obtain ⟨⟨⟨⟨h1,h2⟩,h3⟩,h4⟩,h5⟩:=h;refine ⟨h1,h2,h3,h4,?_⟩
 cases hN:hasN o.code
 ·right;refine ⟨rfl,?_⟩;rw [hN] at h5;simp at h5;simp [h5]
 ·exact .inl rfl
section
variable (g:Nat) (s:Ck) (o:BOp) (last exit:Bool) (w:World)
theorem zvb (hg:Has w g (zf7 s)) (hf:znn o=true) (h:zyw s o last exit=false):
  Calls Tryz.prog 110 #[.pointer (some ⟨g,0,none⟩),opV o,.bool last,.bool exit] w (zad g w (zf1 s o last exit)):=by
 have hr:Hid (zf1 s o last exit=none):=(by unfold Hid zf1;simp [h]);have hglt:=hg.lt;have hgl1:g<w.heap.size+1:=(by omega);have q2:w.cell? ⟨g,2,none⟩=some (.bool s.changed):=(hg 2 _ rfl).1;clear hg;obtain ⟨hI,hd,ha,hb,hN⟩:=zns hf;clear hf;unfold zyw at h;unfold opV;by_cases hE:zjq o.code=last
 ·have hE':(zjq o.code==last)=true:=by simp [hE]
  rw [hE'] at h;have HE:=Lib.hid hE;clear hE hE';by_cases h23:(o.code==23&& !exit)=true
  ·have h23':(o.code==23)=true∧exit=false:=by simpa using h23
   obtain ⟨h1,rfl⟩:=h23';clear h h23;have hE:=HE.out
   cases last
   all_goals rcases hN with hN|⟨hN,h0⟩
   all_goals
    go_enter Tryz.func110,Tryz.ntmps110
    go_wp2_with (first|(go_at_call 162;refine (z43 _ _).mono ?_;rintro e w1 ⟨rfl,hb1⟩;obtain ⟨hc1,hf1⟩:=bcell hb1;have hz1:=hb1.size;try simp only [World.size_alloc] at hz1;have hy1_0:w.heap.size<w1.heap.size:=zO;have hc1_0:=fun o=>hc1 (w.heap.size) o Ttb3;have hf1_0:=fun o=>hf1 (w.heap.size) o Ttb3;have hy1_1:g<w1.heap.size:=zO;have hc1_1:=fun o=>hc1 (g) o Ttb3;have hf1_1:=fun o=>hf1 (g) o Ttb3)|(go_at_call 163;refine (zl1 _ _ _).mono ?_;rintro e w' ⟨rfl,rfl⟩)|(go_at_call 164;refine (zjr _ _).mono ?_;rintro e w' ⟨rfl,rfl⟩))
    go_ret
    exact zy8 hr.out rfl Ttb1
  ·have h23':(o.code==23&& !exit)=false:=by simpa using h23
   rw [h23'] at h;have hLC:leaves o.code=true∧s.changed=true:=(by simpa using h);obtain ⟨hL,hC⟩:=hLC;rw [hC] at q2;clear h h23 hC
   have h3:(o.code==23)=false∨((o.code==23)=true∧exit=true):=by
    cases hx:(o.code==23)<;>cases exit<;>simp_all
   clear h23';have hE:=HE.out
   cases last
   all_goals rcases h3 with h3|⟨h3,rfl⟩
   all_goals rcases hN with hN|⟨hN,h0⟩
   all_goals
    go_enter Tryz.func110,Tryz.ntmps110
    go_wp2_with (first|(go_at_call 162;refine (z43 _ _).mono ?_;rintro e w1 ⟨rfl,hb1⟩;obtain ⟨hc1,hf1⟩:=bcell hb1;have hz1:=hb1.size;try simp only [World.size_alloc] at hz1;have hy1_0:w.heap.size<w1.heap.size:=zO;have hc1_0:=fun o=>hc1 (w.heap.size) o Ttb3;have hf1_0:=fun o=>hf1 (w.heap.size) o Ttb3;have hy1_1:g<w1.heap.size:=zO;have hc1_1:=fun o=>hc1 (g) o Ttb3;have hf1_1:=fun o=>hf1 (g) o Ttb3)|(go_at_call 163;refine (zl1 _ _ _).mono ?_;rintro e w' ⟨rfl,rfl⟩)|(go_at_call 164;refine (zjr _ _).mono ?_;rintro e w' ⟨rfl,rfl⟩))
    go_ret
    exact zy8 hr.out rfl Ttb1
 ·clear h
  cases last
  ·have hE':zjq o.code=true:=by simpa using hE
   clear hE;rcases hN with hN|⟨hN,h0⟩
   all_goals
    go_enter Tryz.func110,Tryz.ntmps110
    go_wp2_with (first|(go_at_call 162;refine (z43 _ _).mono ?_;rintro e w1 ⟨rfl,hb1⟩;obtain ⟨hc1,hf1⟩:=bcell hb1;have hz1:=hb1.size;try simp only [World.size_alloc] at hz1;have hy1_0:w.heap.size<w1.heap.size:=zO;have hc1_0:=fun o=>hc1 (w.heap.size) o Ttb3;have hf1_0:=fun o=>hf1 (w.heap.size) o Ttb3;have hy1_1:g<w1.heap.size:=zO;have hc1_1:=fun o=>hc1 (g) o Ttb3;have hf1_1:=fun o=>hf1 (g) o Ttb3)|(go_at_call 163;refine (zl1 _ _ _).mono ?_;rintro e w' ⟨rfl,rfl⟩)|(go_at_call 164;refine (zjr _ _).mono ?_;rintro e w' ⟨rfl,rfl⟩))
    go_ret
    exact zy8 hr.out rfl Ttb1
  ·have hE':zjq o.code=false:=by simpa using hE
   clear hE;rcases hN with hN|⟨hN,h0⟩
   all_goals
    go_enter Tryz.func110,Tryz.ntmps110
    go_wp2_with (first|(go_at_call 162;refine (z43 _ _).mono ?_;rintro e w1 ⟨rfl,hb1⟩;obtain ⟨hc1,hf1⟩:=bcell hb1;have hz1:=hb1.size;try simp only [World.size_alloc] at hz1;have hy1_0:w.heap.size<w1.heap.size:=zO;have hc1_0:=fun o=>hc1 (w.heap.size) o Ttb3;have hf1_0:=fun o=>hf1 (w.heap.size) o Ttb3;have hy1_1:g<w1.heap.size:=zO;have hc1_1:=fun o=>hc1 (g) o Ttb3;have hf1_1:=fun o=>hf1 (g) o Ttb3)|(go_at_call 163;refine (zl1 _ _ _).mono ?_;rintro e w' ⟨rfl,rfl⟩)|(go_at_call 164;refine (zjr _ _).mono ?_;rintro e w' ⟨rfl,rfl⟩))
    go_ret
    exact zy8 hr.out rfl Ttb1
end
section
variable (g:Nat) (s:Ck) (exit:Bool) (n:Int) (w:World)
theorem ztm {g:Nat} {w:World} (h:g<w.heap.size):g<w.heap.size+1:=by omega
theorem zu1 (hg:Has w g (zf7 s)) (hm:s.marks≤1000000):
  Calls Tryz.prog 110 #[.pointer (some ⟨g,0,none⟩),opV ⟨20,0,0,0,n⟩,.bool false,.bool exit] w (zad g w (zf1 s ⟨20,0,0,0,n⟩ false exit)):=by
 have hglt:=hg.lt;have hgl1:=ztm hglt;have q0:w.cell? ⟨g,0,none⟩=some (.int .i64 (s.marks:Int)):=(hg 0 _ rfl).1;have q1:w.cell? ⟨g,1,none⟩=some (.int .u32 (s.written:Int)):=(hg 1 _ rfl).1;have q2:w.cell? ⟨g,2,none⟩=some (.bool s.changed):=(hg 2 _ rfl).1;have f0:=(hg 0 _ rfl).2;have f1:=(hg 1 _ rfl).2;have f2:=(hg 2 _ rfl).2;clear hg;have i1:isOp 20=true:=rfl;have i2:hasD 20=false:=rfl;have i3:hasA 20=false:=rfl;have i4:hasB 20=false:=rfl;have i5:hasN 20=true:=rfl;have i6:leaves 20=false:=rfl;have i7:zjq 20=false:=rfl;have i8:zlz false 0=true:=rfl;have i9:stores 20=false:=rfl;unfold opV;by_cases hn:n=(s.marks:Int)
 ·have e0:(n !=(s.marks:Int))=false:=by simp [hn]
  have HN:=Lib.hid hn;clear hn
  go_enter Tryz.func110,Tryz.ntmps110
  go_wp2_with (first|(go_at_call 162;refine (z43 _ _).mono ?_;rintro e w1 ⟨rfl,hb1⟩;obtain ⟨hc1,hf1⟩:=bcell hb1;have hz1:=hb1.size;try simp only [World.size_alloc] at hz1;have hy1_0:w.heap.size<w1.heap.size:=zO;have hc1_0:=fun o=>hc1 (w.heap.size) o Ttb3;have hf1_0:=fun o=>hf1 (w.heap.size) o Ttb3;have hy1_1:g<w1.heap.size:=zO;have hc1_1:=fun o=>hc1 (g) o Ttb3;have hf1_1:=fun o=>hf1 (g) o Ttb3)|(go_at_call 163;refine (zl1 _ _ _).mono ?_;rintro e w' ⟨rfl,rfl⟩)|(go_at_call 164;refine (zjr _ _).mono ?_;rintro e w' ⟨rfl,rfl⟩))
  go_quiet (fail)
  go_wp2_with (first|(go_at_call 165;refine (z1f ⟨20,0,0,0,n⟩ _).mono ?_;rintro e w2 ⟨r,rfl,hown,hb2⟩;rw [show reads ⟨20,0,0,0,n⟩=[] from rfl] at hown;simp only [List.length_nil,List.map_nil] at hown;obtain ⟨A,c,rfl,hs,-,-,-⟩:=zx6 hown;clear hown;obtain ⟨hc2,hf2⟩:=bcell hb2;have hz2:=hb2.size;try simp only [World.size_alloc,World.size_setCell,World.heap_drewN] at hz2;have hy2_0:w.heap.size<w2.heap.size:=zO;have hc2_0:=fun o=>hc2 (w.heap.size) o Ttb3;have hf2_0:=fun o=>hf2 (w.heap.size) o Ttb3;have hy2_1:w1.heap.size<w2.heap.size:=zO;have hc2_1:=fun o=>hc2 (w1.heap.size) o Ttb3;have hf2_1:=fun o=>hf2 (w1.heap.size) o Ttb3;have hy2_2:g<w2.heap.size:=zO;have hc2_2:=fun o=>hc2 (g) o Ttb3;have hf2_2:=fun o=>hf2 (g) o Ttb3)|(go_at_call 118;refine (ybr ⟨20,0,0,0,n⟩ _).mono ?_;rintro e w3 ⟨rfl,hb3⟩;obtain ⟨hc3,hf3⟩:=bcell hb3;have hz3:=hb3.size;try simp only [World.size_alloc,World.size_setCell,World.heap_drewN,World.size_drew] at hz3;have hy3_0:w.heap.size<w3.heap.size:=zO;have hc3_0:=fun o=>hc3 (w.heap.size) o Ttb3;have hf3_0:=fun o=>hf3 (w.heap.size) o Ttb3;have hy3_1:w1.heap.size<w3.heap.size:=zO;have hc3_1:=fun o=>hc3 (w1.heap.size) o Ttb3;have hf3_1:=fun o=>hf3 (w1.heap.size) o Ttb3;have hy3_2:g<w3.heap.size:=zO;have hc3_2:=fun o=>hc3 (g) o Ttb3;have hf3_2:=fun o=>hf3 (g) o Ttb3))
  have hw:=fun W=>ybr ⟨20,0,0,0,n⟩ W;simp only [show writes ⟨20,0,0,0,n⟩= -1 from rfl] at hw;have HW:=Lib.hid hw;clear hw;refine wp_loop_once ?_
  go_wp2_with (go_at_call 118;refine (HW.out _).mono ?_;rintro e w3 ⟨rfl,hb3⟩;obtain ⟨hc3,hf3⟩:=bcell hb3;have hz3:=hb3.size;try simp only [World.size_alloc,World.size_setCell,World.heap_drewN,World.size_drew] at hz3;have hy3_0:w.heap.size<w3.heap.size:=zO;have hc3_0:=fun o=>hc3 (w.heap.size) o Ttb3;have hf3_0:=fun o=>hf3 (w.heap.size) o Ttb3;have hy3_1:w1.heap.size<w3.heap.size:=zO;have hc3_1:=fun o=>hc3 (w1.heap.size) o Ttb3;have hf3_1:=fun o=>hf3 (w1.heap.size) o Ttb3;have hy3_2:g<w3.heap.size:=zO;have hc3_2:=fun o=>hc3 (g) o Ttb3;have hf3_2:=fun o=>hf3 (g) o Ttb3)
  have hn:=HN.out
  go_ret
  exact zy9 (s:=⟨s.marks+1,0,false⟩) (by unfold zf1;rw [if_pos (by simp [znn,zyw,i1,i2,i3,i4,i5,i6,i7,i8])];simp [hn]) rfl Ttb1 (has3 (by go_simp) (by go_simp) (World.cell?_setCell_same' _ _ _ (by go_simp)) (by go_simp) (by go_simp) (by go_simp))
 ·have e0:(n !=(s.marks:Int))=true:=by simp [hn]
  clear hn
  go_enter Tryz.func110,Tryz.ntmps110
  go_wp2_with (first|(go_at_call 162;refine (z43 _ _).mono ?_;rintro e w1 ⟨rfl,hb1⟩;obtain ⟨hc1,hf1⟩:=bcell hb1;have hz1:=hb1.size;try simp only [World.size_alloc] at hz1;have hy1_0:w.heap.size<w1.heap.size:=zO;have hc1_0:=fun o=>hc1 (w.heap.size) o Ttb3;have hf1_0:=fun o=>hf1 (w.heap.size) o Ttb3;have hy1_1:g<w1.heap.size:=zO;have hc1_1:=fun o=>hc1 (g) o Ttb3;have hf1_1:=fun o=>hf1 (g) o Ttb3)|(go_at_call 163;refine (zl1 _ _ _).mono ?_;rintro e w' ⟨rfl,rfl⟩)|(go_at_call 164;refine (zjr _ _).mono ?_;rintro e w' ⟨rfl,rfl⟩))
  go_quiet (fail)
  go_wp2
  go_ret
  refine zy8 ?_ rfl Ttb1;unfold zf1;rw [if_pos (by simp [znn,zyw,i1,i2,i3,i4,i5,i6,i7,i8])];simp at e0;simp [e0]
end
theorem SlAt.fresh (w:World) (cs:Array Value) (t:TypeId) {xs:List Value} (h:cs.toList=xs):SlAt (w.alloc (.cells cs t)) (w.alloc (.cells cs t)).heap.size (some ⟨w.heap.size,0,none⟩) xs:=by
 subst h;refine SlAt.mk_ zS fun j u hu=>?_;rw [Nat.zero_add,cell_of_row _ _ j cs t _ (heap_alloc_new w _)]
 simpa using hu
theorem rop3 (a b:Int) (w:World) (ha:word a) (hb:word b):
  Calls Tryz.prog 95 #[.int .i64 3,.int .u32 a,.int .u32 b] w fun e w'=>e= .returned (.int .u32 (yay 3 a b))∧w=w':=by
 have HA:=Lib.hid ha;have HB:=Lib.hid hb;obtain ⟨g1,g2⟩:=ha;obtain ⟨g3,g4⟩:=hb
 go_enter Tryz.func95,Tryz.ntmps95
 go_wp2_with (first|(go_at_call 151;refine (z5n _ _ (by first|exact HA.out|exact HB.out)).mono ?_;rintro e w' ⟨rfl,rfl⟩)|(go_at_call 152;refine (zdr _ _).mono ?_;rintro e w' ⟨rfl,rfl⟩))
 go_ret
 exact ⟨z16 (by simp [yay]),rfl⟩
theorem rop4 (a b:Int) (w:World) (ha:word a) (hb:word b):
  Calls Tryz.prog 95 #[.int .i64 4,.int .u32 a,.int .u32 b] w fun e w'=>e= .returned (.int .u32 (yay 4 a b))∧w=w':=by
 have HA:=Lib.hid ha;have HB:=Lib.hid hb;obtain ⟨g1,g2⟩:=ha;obtain ⟨g3,g4⟩:=hb
 go_enter Tryz.func95,Tryz.ntmps95
 go_wp2_with (first|(go_at_call 151;refine (z5n _ _ (by first|exact HA.out|exact HB.out)).mono ?_;rintro e w' ⟨rfl,rfl⟩)|(go_at_call 152;refine (zdr _ _).mono ?_;rintro e w' ⟨rfl,rfl⟩))
 go_ret
 exact ⟨z16 (by simp [yay]),rfl⟩
theorem rop5 (a b:Int) (w:World) (ha:word a) (hb:word b):
  Calls Tryz.prog 95 #[.int .i64 5,.int .u32 a,.int .u32 b] w fun e w'=>e= .returned (.int .u32 (yay 5 a b))∧w=w':=by
 have HA:=Lib.hid ha;have HB:=Lib.hid hb;obtain ⟨g1,g2⟩:=ha;obtain ⟨g3,g4⟩:=hb
 go_enter Tryz.func95,Tryz.ntmps95
 go_wp2_with (first|(go_at_call 151;refine (z5n _ _ (by first|exact HA.out|exact HB.out)).mono ?_;rintro e w' ⟨rfl,rfl⟩)|(go_at_call 152;refine (zdr _ _).mono ?_;rintro e w' ⟨rfl,rfl⟩))
 go_ret
 exact ⟨z16 (by simp [yay];exact z9b HA.out HB.out),rfl⟩
theorem rop6 (a b:Int) (w:World) (ha:word a) (hb:word b):
  Calls Tryz.prog 95 #[.int .i64 6,.int .u32 a,.int .u32 b] w fun e w'=>e= .returned (.int .u32 (yay 6 a b))∧w=w':=by
 have HA:=Lib.hid ha;have HB:=Lib.hid hb;obtain ⟨g1,g2⟩:=ha;obtain ⟨g3,g4⟩:=hb
 go_enter Tryz.func95,Tryz.ntmps95
 go_wp2_with (first|(go_at_call 151;refine (z5n _ _ (by first|exact HA.out|exact HB.out)).mono ?_;rintro e w' ⟨rfl,rfl⟩)|(go_at_call 152;refine (zdr _ _).mono ?_;rintro e w' ⟨rfl,rfl⟩))
 go_ret
 exact ⟨z16 (by simp [yay];exact z9c HA.out HB.out),rfl⟩
theorem rop7 (a b:Int) (w:World) (ha:word a) (hb:word b):
  Calls Tryz.prog 95 #[.int .i64 7,.int .u32 a,.int .u32 b] w fun e w'=>e= .returned (.int .u32 (yay 7 a b))∧w=w':=by
 have HA:=Lib.hid ha;have HB:=Lib.hid hb;obtain ⟨g1,g2⟩:=ha;obtain ⟨g3,g4⟩:=hb
 go_enter Tryz.func95,Tryz.ntmps95
 go_wp2_with (first|(go_at_call 151;refine (z5n _ _ (by first|exact HA.out|exact HB.out)).mono ?_;rintro e w' ⟨rfl,rfl⟩)|(go_at_call 152;refine (zdr _ _).mono ?_;rintro e w' ⟨rfl,rfl⟩))
 go_ret
 exact ⟨z16 (by simp [yay];exact z9d HA.out HB.out),rfl⟩
theorem rop8 (a b:Int) (w:World) (ha:word a) (hb:word b):
  Calls Tryz.prog 95 #[.int .i64 8,.int .u32 a,.int .u32 b] w fun e w'=>e= .returned (.int .u32 (yay 8 a b))∧w=w':=by
 have HA:=Lib.hid ha;have HB:=Lib.hid hb;obtain ⟨g1,g2⟩:=ha;obtain ⟨g3,g4⟩:=hb
 go_enter Tryz.func95,Tryz.ntmps95
 go_wp2_with (first|(go_at_call 151;refine (z5n _ _ (by first|exact HA.out|exact HB.out)).mono ?_;rintro e w' ⟨rfl,rfl⟩)|(go_at_call 152;refine (zdr _ _).mono ?_;rintro e w' ⟨rfl,rfl⟩))
 go_ret
 exact ⟨z16 (by simp [yay]),rfl⟩
theorem rop9 (a b:Int) (w:World) (ha:word a) (hb:word b):
  Calls Tryz.prog 95 #[.int .i64 9,.int .u32 a,.int .u32 b] w fun e w'=>e= .returned (.int .u32 (yay 9 a b))∧w=w':=by
 have HA:=Lib.hid ha;have HB:=Lib.hid hb;obtain ⟨g1,g2⟩:=ha;obtain ⟨g3,g4⟩:=hb
 go_enter Tryz.func95,Tryz.ntmps95
 go_wp2_with (first|(go_at_call 151;refine (z5n _ _ (by first|exact HA.out|exact HB.out)).mono ?_;rintro e w' ⟨rfl,rfl⟩)|(go_at_call 152;refine (zdr _ _).mono ?_;rintro e w' ⟨rfl,rfl⟩))
 go_ret
 exact ⟨z16 (by simp [yay]),rfl⟩
theorem rop10 (a b:Int) (w:World) (ha:word a) (hb:word b):
  Calls Tryz.prog 95 #[.int .i64 10,.int .u32 a,.int .u32 b] w fun e w'=>e= .returned (.int .u32 (yay 10 a b))∧w=w':=by
 have HA:=Lib.hid ha;have HB:=Lib.hid hb;obtain ⟨g1,g2⟩:=ha;obtain ⟨g3,g4⟩:=hb
 go_enter Tryz.func95,Tryz.ntmps95
 go_wp2_with (first|(go_at_call 151;refine (z5n _ _ (by first|exact HA.out|exact HB.out)).mono ?_;rintro e w' ⟨rfl,rfl⟩)|(go_at_call 152;refine (zdr _ _).mono ?_;rintro e w' ⟨rfl,rfl⟩))
 go_ret
 exact ⟨z16 (by simp [yay]),rfl⟩
theorem rop11 (a b:Int) (w:World) (ha:word a) (hb:word b):
  Calls Tryz.prog 95 #[.int .i64 11,.int .u32 a,.int .u32 b] w fun e w'=>e= .returned (.int .u32 (yay 11 a b))∧w=w':=by
 have HA:=Lib.hid ha;have HB:=Lib.hid hb;obtain ⟨g1,g2⟩:=ha;obtain ⟨g3,g4⟩:=hb
 go_enter Tryz.func95,Tryz.ntmps95
 go_wp2_with (first|(go_at_call 151;refine (z5n _ _ (by first|exact HA.out|exact HB.out)).mono ?_;rintro e w' ⟨rfl,rfl⟩)|(go_at_call 152;refine (zdr _ _).mono ?_;rintro e w' ⟨rfl,rfl⟩))
 go_ret
 exact ⟨z16 (by simp [yay]),rfl⟩
theorem rop12 (a b:Int) (w:World) (ha:word a) (hb:word b):
  Calls Tryz.prog 95 #[.int .i64 12,.int .u32 a,.int .u32 b] w fun e w'=>e= .returned (.int .u32 (yay 12 a b))∧w=w':=by
 have HA:=Lib.hid ha;have HB:=Lib.hid hb;obtain ⟨g1,g2⟩:=ha;obtain ⟨g3,g4⟩:=hb;by_cases h0:b=0
 ·subst h0
  go_enter Tryz.func95,Tryz.ntmps95
  go_wp2
  go_ret
  exact ⟨rfl,rfl⟩
 ·have h1:1≤b:=by omega
  have e1:(b==0)=false:=by simp [h0]
  clear h0
  go_enter Tryz.func95,Tryz.ntmps95
  go_wp2
  go_ret
  refine ⟨z16 ?_,rfl⟩;rw [show yay 12 a b=a/b from by simp [yay];omega]
theorem rop13 (a b:Int) (w:World) (ha:word a) (hb:word b):
  Calls Tryz.prog 95 #[.int .i64 13,.int .u32 a,.int .u32 b] w fun e w'=>e= .returned (.int .u32 (yay 13 a b))∧w=w':=by
 have HA:=Lib.hid ha;have HB:=Lib.hid hb;obtain ⟨g1,g2⟩:=ha;obtain ⟨g3,g4⟩:=hb
 go_enter Tryz.func95,Tryz.ntmps95
 go_wp2_with (first|(go_at_call 151;refine (z5n _ _ (by first|exact HA.out|exact HB.out)).mono ?_;rintro e w' ⟨rfl,rfl⟩)|(go_at_call 152;refine (zdr _ _).mono ?_;rintro e w' ⟨rfl,rfl⟩))
 go_ret
 exact ⟨z16 (by simp [yay];rfl),rfl⟩
theorem rop14 (a b:Int) (w:World) (ha:word a) (hb:word b):
  Calls Tryz.prog 95 #[.int .i64 14,.int .u32 a,.int .u32 b] w fun e w'=>e= .returned (.int .u32 (yay 14 a b))∧w=w':=by
 have HA:=Lib.hid ha;have HB:=Lib.hid hb;obtain ⟨g1,g2⟩:=ha;obtain ⟨g3,g4⟩:=hb
 go_enter Tryz.func95,Tryz.ntmps95
 go_wp2_with (first|(go_at_call 151;refine (z5n _ _ (by first|exact HA.out|exact HB.out)).mono ?_;rintro e w' ⟨rfl,rfl⟩)|(go_at_call 152;refine (zdr _ _).mono ?_;rintro e w' ⟨rfl,rfl⟩))
 go_ret
 exact ⟨z16 (by simp [yay]),rfl⟩
theorem rop15 (a b:Int) (w:World) (ha:word a) (hb:word b):
  Calls Tryz.prog 95 #[.int .i64 15,.int .u32 a,.int .u32 b] w fun e w'=>e= .returned (.int .u32 (yay 15 a b))∧w=w':=by
 have HA:=Lib.hid ha;have HB:=Lib.hid hb;obtain ⟨g1,g2⟩:=ha;obtain ⟨g3,g4⟩:=hb;have e1:=fun W h=>z5n a W h;have e2:=fun W h=>z5n b W h;have E1:=Lib.hid e1;have E2:=Lib.hid e2;clear e1 e2
 go_enter Tryz.func95,Tryz.ntmps95
 go_wp2_with fail
 refine (E1.out _ HA.out).mono ?_;rintro e w' ⟨rfl,rfl⟩
 go_wp2_with fail
 refine (E2.out _ HB.out).mono ?_;rintro e w' ⟨rfl,rfl⟩
 go_wp2_with (first|(go_at_call 151;refine (z5n _ _ (by first|exact HA.out|exact HB.out)).mono ?_;rintro e w' ⟨rfl,rfl⟩)|(go_at_call 152;refine (zdr _ _).mono ?_;rintro e w' ⟨rfl,rfl⟩))
 go_ret
 exact ⟨z16 (by simp [yay]),rfl⟩
theorem z2a (c a b:Int) (w:World) (h:zq9 c=false):
  Calls Tryz.prog 95 #[.int .i64 c,.int .u32 a,.int .u32 b] w fun e w'=>e= .returned (.int .u32 0)∧w=w':=by
 have h':c<3∨15<c:=by simp [zq9] at h;omega
 clear h
 rcases h' with h|h
 all_goals
  go_enter Tryz.func95,Tryz.ntmps95
  go_wp2
  go_ret
  exact ⟨rfl,rfl⟩
theorem zw7 (c a b:Int) (w:World) (ha:word a) (hb:word b):
  Calls Tryz.prog 95 #[.int .i64 c,.int .u32 a,.int .u32 b] w fun e w'=>e= .returned (.int .u32 (yay c a b))∧w=w':=by
 by_cases h:zq9 c=true
 ·have h':3≤c∧c≤15:=by simpa [zq9] using h
  rcases (by omega:c=3∨c=4∨c=5∨c=6∨c=7∨c=8∨c=9∨c=10∨c=11∨c=12∨c=13∨c=14∨c=15) with rfl|rfl|rfl|rfl|rfl|rfl|rfl|rfl|rfl|rfl|rfl|rfl|rfl
  ·exact rop3 a b w ha hb
  ·exact rop4 a b w ha hb
  ·exact rop5 a b w ha hb
  ·exact rop6 a b w ha hb
  ·exact rop7 a b w ha hb
  ·exact rop8 a b w ha hb
  ·exact rop9 a b w ha hb
  ·exact rop10 a b w ha hb
  ·exact rop11 a b w ha hb
  ·exact rop12 a b w ha hb
  ·exact rop13 a b w ha hb
  ·exact rop14 a b w ha hb
  ·exact rop15 a b w ha hb
 ·have h':zq9 c=false:=by simpa using h
  have h0:yay c a b=0:=by
   simp [zq9] at h';unfold yay
   repeat (rw [if_neg zO])
  rw [h0];exact z2a c a b w h'
end Go.Proofs.YtocafomnnkmjfaaGreat
