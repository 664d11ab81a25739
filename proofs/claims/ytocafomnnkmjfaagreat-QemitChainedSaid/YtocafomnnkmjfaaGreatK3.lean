import Derived.Laws.StructEq
import Derived.Test.YtocafomnnkmjfaaGreatK1
set_option maxRecDepth 100000
set_option maxHeartbeats 400000
namespace Go.Proofs.YtocafomnnkmjfaaGreat
open Go.RowKit
theorem ltH {g:Nat} {w:World} (h:g<w.heap.size):g<w.heap.size+1:=by omega
theorem ya9 {P:Program} {id:Nat} {Q:Exit→Act→World→Prop} {a:Act} {w:World} {l:List Oper} (hm:P.follows .mixedOrders=true) (hB:Region.lexB .any l.toArray=true)
  (h:wpQuiet P l.toArray (fun w'=>Below w.heap.size w w') (fun a'=>∀ w',Below w.heap.size w w'→Q .normal a' w') l a):(Code.region id l.toArray true).wp P Q a w:=
 wp_region_quiet (C:=fun w'=>Below w.heap.size w w') hm hB ((Below.refl _ w).drew) (by simpa using h)
structure Gs where
 fix:List Nat
 ext:List Nat
instance:Membership Nat Gs:=⟨fun G b=>b∈G.fix∨b∈G.ext⟩
def Gs.nil:Gs:=⟨[],[]⟩
@[simp] theorem Gs.mem_nil (b:Nat):¬b∈Gs.nil:=by rintro (h|h)<;>cases h
inductive CV where
 |v (x:Value)
 |ref (i off:Nat)
 |vref (i off:Nat)
 |row (i:Nat)
 |sl (i off n c:Nat)
 |mp (i:Nat)
 |clo (f:Fn) (cap:List CV)
 |any
inductive Pc where
 |c (x:CV)
 |agg (l:List CV)
inductive AV where
 |p (x:Pc)
 |tup (l:List Pc)
structure Env where
 blk:Nat→Option Nat
 val:Nat→Option Value
structure Env.le (a b:Env):Prop where
 blk:∀ i x,a.blk i=some x→b.blk i=some x
 val:∀ i x,a.val i=some x→b.val i=some x
theorem Env.le.refl (a:Env):a.le a:=⟨fun _ _ h=>h,fun _ _ h=>h⟩
theorem Env.le.trans {a b c:Env} (h:a.le b) (k:b.le c):a.le c:=⟨fun i x hx=>k.blk i x (h.blk i x hx),fun i x hx=>k.val i x (h.val i x hx)⟩
mutual
def CV.den (r:Env):CV→Value→Prop
 | .v x,u=>u=x
 | .ref i off,u=>∃ b,r.blk i=some b∧u= .pointer (some ⟨b,off,none⟩)
 | .vref i off,u=>∃ b o n c,r.val i=some (.slice (some ⟨b,o,none⟩) n c)∧u= .pointer (some ⟨b,o+off,none⟩)
 | .row i,u=>r.val i=some u
 | .sl i off n c,u=>∃ b,r.blk i=some b∧u= .slice (some ⟨b,off,none⟩) n c
 | .mp i,u=>∃ b,r.blk i=some b∧u= .map (some b)
 | .clo f cap,u=>∃ us:List Value,u= .func f #[] us.toArray∧denL r cap us
 | .any,_=>True
def denL (r:Env):List CV→List Value→Prop
 |[],us=>us=[]
 |c::cs,us=>∃ u l,us=u::l∧c.den r u∧denL r cs l
end
def Pc.den (r:Env):Pc→Value→Prop
 | .c x,u=>x.den r u
 | .agg l,u=>∃ us:List Value,u= .agg us.toArray∧denL r l us
def zyd (r:Env):List Pc→List Value→Prop
 |[],us=>us=[]
 |c::cs,us=>∃ u l,us=u::l∧c.den r u∧zyd r cs l
def AV.den (r:Env):AV→Value→Prop
 | .p x,u=>x.den r u
 | .tup l,u=>∃ us:List Value,u= .tuple us.toArray∧zyd r l us
mutual
theorem CV.den_mono {r r':Env} (h:r.le r'):∀ (c:CV) (u:Value),c.den r u→c.den r' u
 | .v x,u,hd=>by simpa only [CV.den] using hd
 | .ref i off,u,hd=>by simp only [CV.den] at hd⊢;obtain ⟨b,hb,hu⟩:=hd;exact ⟨b,h.blk _ _ hb,hu⟩
 | .vref i off,u,hd=>by simp only [CV.den] at hd⊢;obtain ⟨b,o,n,c,hb,hu⟩:=hd;exact ⟨b,o,n,c,h.val _ _ hb,hu⟩
 | .row i,u,hd=>by simp only [CV.den] at hd⊢;exact h.val _ _ hd
 | .sl i off n c,u,hd=>by simp only [CV.den] at hd⊢;obtain ⟨b,hb,hu⟩:=hd;exact ⟨b,h.blk _ _ hb,hu⟩
 | .mp i,u,hd=>by simp only [CV.den] at hd⊢;obtain ⟨b,hb,hu⟩:=hd;exact ⟨b,h.blk _ _ hb,hu⟩
 | .clo f cap,u,hd=>by simp only [CV.den] at hd⊢;obtain ⟨us,hu,hl⟩:=hd;exact ⟨us,hu,zip h cap us hl⟩
 | .any,u,hd=>by simp only [CV.den]
theorem zip {r r':Env} (h:r.le r'):∀ (l:List CV) (us:List Value),denL r l us→denL r' l us
 |[],us,hd=>by simpa only [denL] using hd
 |c::cs,us,hd=>by simp only [denL] at hd⊢;obtain ⟨u,l,hu,hc,hl⟩:=hd;exact ⟨u,l,hu,CV.den_mono h c u hc,zip h cs l hl⟩
end
theorem Pc.den_mono {r r':Env} (h:r.le r'):∀ (c:Pc) (u:Value),c.den r u→c.den r' u
 | .c x,u,hd=>CV.den_mono h x u hd
 | .agg l,u,hd=>by obtain ⟨us,hu,hl⟩:=hd;exact ⟨us,hu,zip h l us hl⟩
theorem zyg {r r':Env} (h:r.le r'):∀ (l:List Pc) (us:List Value),zyd r l us→zyd r' l us
 |[],us,hd=>hd
 |c::cs,us,hd=>by obtain ⟨u,l,hu,hc,hl⟩:=hd;exact ⟨u,l,hu,Pc.den_mono h c u hc,zyg h cs l hl⟩
theorem AV.den_mono {r r':Env} (h:r.le r'):∀ (c:AV) (u:Value),c.den r u→c.den r' u
 | .p x,u,hd=>Pc.den_mono h x u hd
 | .tup l,u,hd=>by obtain ⟨us,hu,hl⟩:=hd;exact ⟨us,hu,zyg h l us hl⟩
theorem zij {r:Env}:∀ {l:List CV} {us:List Value} {k:Nat} {c:CV},denL r l us→l[k]?=some c→∃ u,us[k]?=some u∧c.den r u
 |[],us,k,c,hd,h=>by simp at h
 |a::l,us,0,c,hd,h=>by
  simp only [denL] at hd;obtain ⟨u,l',hu,hc,hl⟩:=hd;subst hu;simp at h;subst h;exact ⟨u,by simp,hc⟩
 |a::l,us,k+1,c,hd,h=>by
  simp only [denL] at hd;obtain ⟨u,l',hu,hc,hl⟩:=hd;subst hu
  simpa using zij hl (by simpa using h)
theorem zio {r:Env}:∀ {l:List CV} {us:List Value},denL r l us→us.length=l.length
 |[],us,hd=>by simp only [denL] at hd;subst hd;rfl
 |a::l,us,hd=>by simp only [denL] at hd;obtain ⟨u,l',hu,hc,hl⟩:=hd;subst hu;simp [zio hl]
theorem zim {r:Env}:∀ {l:List CV} {us:List Value} (k:Nat),denL r l us→denL r (l.drop k) (us.drop k)
 |l,us,0,hd=>by simpa using hd
 |[],us,k+1,hd=>by simp only [denL] at hd;subst hd;simp [denL]
 |a::l,us,k+1,hd=>by simp only [denL] at hd;obtain ⟨u,l',hu,hc,hl⟩:=hd;subst hu;simpa using zim k hl
theorem ziu {r:Env}:∀ {l:List CV} {us:List Value} (k:Nat),denL r l us→denL r (l.take k) (us.take k)
 |l,us,0,hd=>by simp [denL]
 |[],us,k+1,hd=>by simp only [denL] at hd;subst hd;simp [denL]
 |a::l,us,k+1,hd=>by
  simp only [denL] at hd;obtain ⟨u,l',hu,hc,hl⟩:=hd;subst hu;simp only [List.take_succ_cons,denL];exact ⟨u,_,rfl,hc,ziu k hl⟩
theorem zir {r:Env}:∀ {l:List CV} {us:List Value} (k:Nat) {c:CV} {u:Value},denL r l us→c.den r u→denL r (l.set k c) (us.set k u)
 |[],us,k,c,u,hd,h=>by simp only [denL] at hd;subst hd;simp [denL]
 |a::l,us,0,c,u,hd,h=>by
  simp only [denL] at hd;obtain ⟨u',l',hu,hc,hl⟩:=hd;subst hu;simp only [List.set_cons_zero,denL];exact ⟨u,_,rfl,h,hl⟩
 |a::l,us,k+1,c,u,hd,h=>by
  simp only [denL] at hd;obtain ⟨u',l',hu,hc,hl⟩:=hd;subst hu;simp only [List.set_cons_succ,denL];exact ⟨u',_,rfl,hc,zir k hl h⟩
theorem ziv {r:Env}:∀ us:List Value,denL r (us.map .v) us
 |[]=>by simp [denL]
 |u::us=>by simp only [List.map_cons,denL];exact ⟨u,us,rfl,by simp [CV.den],ziv us⟩
theorem ziw {r:Env}:∀ {us vs:List Value},denL r (us.map .v) vs→vs=us
 |[],vs,h=>by simpa [denL] using h
 |u::us,vs,h=>by
  simp only [List.map_cons,denL] at h;obtain ⟨u',l,hu,hc,hl⟩:=h;simp only [CV.den] at hc;subst hc;subst hu;rw [ziw hl]
def pcOf:Value→Pc
 | .agg cs=> .agg (cs.toList.map .v)
 |x=> .c (.v x)
def AV.of:Value→AV
 | .tuple vs=> .tup (vs.toList.map pcOf)
 | .agg cs=> .p (.agg (cs.toList.map .v))
 |x=> .p (.c (.v x))
theorem zya (r:Env) (x:Value):(pcOf x).den r x:=by
 unfold pcOf
 split
 ·rename_i cs;exact ⟨cs.toList,by simp,ziv _⟩
 ·simp [Pc.den,CV.den]
theorem zyh (r:Env):∀ l:List Value,zyd r (l.map pcOf) l
 |[]=>rfl
 |x::l=>⟨x,l,rfl,zya r x,zyh r l⟩
theorem AV.of_den (r:Env) (x:Value):(AV.of x).den r x:=by
 unfold AV.of
 split
 ·rename_i vs;exact ⟨vs.toList,by simp,zyh r _⟩
 ·rename_i cs;exact ⟨cs.toList,by simp,ziv _⟩
 ·simp [AV.den,Pc.den,CV.den]
abbrev Fr:=List (Nat×AV)
def Fr.get:Fr→Nat→AV
 |[],_=> .p (.c .any)
 |(d,x)::r,k=>match Nat.beq d k with|true=>x|false=>Fr.get r k
def Fr.put (f:Fr) (dst:Option Tmp) (x:AV):Fr:=match dst with|some d=>(d,x)::f|none=>f
def Fr.ev (f:Fr):Operand→AV
 | .tmp t=>f.get t
 | .const x=>AV.of x
 | .global g=> .p (.c (.v (.pointer (some ⟨g,0,none⟩))))
 | .func fn=> .p (.c (.clo (.func fn) []))
def FDen (r:Env) (f:Fr) (a:Act):Prop:=∀ k,(f.get k).den r (a.tmps.getD k undef)
theorem FDen.mono {r r':Env} {f:Fr} {a:Act} (h:FDen r f a) (hr:r.le r'):FDen r' f a:=fun k=>AV.den_mono hr _ _ (h k)
theorem FDen.ev {r:Env} {f:Fr} {a:Act} (h:FDen r f a) (x:Operand):(f.ev x).den r (a.eval x):=by
 cases x with
 |tmp t=>exact h t
 |const x=>exact AV.of_den r x
 |global g=>simp [Fr.ev,AV.den,Pc.den,CV.den,Act.eval]
 |func fn=>simp [Fr.ev,AV.den,Pc.den,CV.den,Act.eval,denL]
def zjc (N:Nat):Option Tmp→Bool
 |none=>true
 |some d=>Nat.blt d N
theorem FDen.put {r:Env} {f:Fr} {a:Act} (h:FDen r f a) {dst:Option Tmp} {x:AV} {u:Value} (hx:x.den r u) (hN:zjc a.tmps.size dst=true):FDen r (f.put dst x) (a.put dst u):=by
 cases dst with
 |none=>exact h
 |some d=>
  have hd:d<a.tmps.size:=(by simpa [zjc,Nat.blt_eq] using hN);intro k;simp only [Fr.put,Fr.get,Act.put];by_cases hk:d=k
  ·subst hk
   simp only [Nat.beq_refl];rw [Array.getD_eq_getD_getElem?,Array.getElem?_setIfInBounds];simp [hd,hx]
  ·have:Nat.beq d k=false:=by
    cases h2:Nat.beq d k
    ·rfl
    ·exact absurd (Nat.eq_of_beq_eq_true h2) hk
   simp only [this];rw [Array.getD_eq_getD_getElem?,Array.getElem?_setIfInBounds,if_neg hk, ← Array.getD_eq_getD_getElem?];exact h k
theorem zzh (a:Act) (dst:Option Tmp) (u:Value):(a.put dst u).tmps.size=a.tmps.size:=by cases dst<;>simp [Act.put]
theorem zze (a:Act) (dst:Option Tmp) (u:Value):(a.put dst u).defers=a.defers:=by cases dst<;>rfl
theorem FDen.putAny {r:Env} {f:Fr} {a:Act} (h:FDen r f a) {dst:Option Tmp} (u:Value) (hN:zjc a.tmps.size dst=true):FDen r (f.put dst (.p (.c .any))) (a.put dst u):=h.put (by simp [AV.den,Pc.den,CV.den]) hN
inductive Ow where
 |cells (t:TypeId) (l:List CV)
 |row (e:TypeId) (size n:Nat) (xs:List Value)
 |ext (φ:Nat→World→Prop)
 |view (φ:Option Addr→Prop) (n:Nat) (xs:List Value)
 |gone
def Ow.holds (r:Env) (w:World) (i:Nat):Ow→Prop
 | .cells t l=>∃ b us,r.blk i=some b∧w.heap[b]?=some (.cells us.toArray t (0,0))∧denL r l us
 | .row e size n xs=>∃ v,r.val i=some v∧v.ownBlock=r.blk i∧w.ownsRow 0 e size v n xs
 | .ext φ=>∃ b,r.blk i=some b∧φ b w∧∀ w':World,w'.heap[b]?=w.heap[b]?→φ b w'
 | .view φ n xs=>∃ A c,r.val i=some (.slice A n c)∧n≤c∧(c≤maxLen∧φ A)∧r.blk i=none∧∀ j u,xs[j]?=some u→∃ b off,A=some ⟨b,off,none⟩∧b<w.heap.size∧(∀ k,r.blk k≠some b)∧w.cell? ⟨b,off+j,none⟩=some u
 | .gone=>True
structure Rel (w0:World) (G:Gs) (S:List Ow) (r:Env) (w:World):Prop where
 os:w.os=w0.os
 tape:w.tape=w0.tape
 output:w.output=w0.output
 size:w0.heap.size≤w.heap.size
 old:∀ k,k<w0.heap.size→k∉G→w.heap[k]?=w0.heap[k]?
 own:∀ (i:Nat) (o:Ow),S[i]?=some o→o.holds r w i
 inj:∀ i j b,r.blk i=some b→r.blk j=some b→i=j
 new:∀ i b,r.blk i=some b→b<w.heap.size∧(b<w0.heap.size→b∈G)
 outB:∀ i,S.length≤i→r.blk i=none
 outV:∀ i,S.length≤i→r.val i=none
 first:∀ (i g:Nat),G.fix[i]?=some g→r.blk i=some g
theorem Ow.holds_block {r:Env} {w w':World} {i:Nat} {o:Ow} (h:o.holds r w i) (hb:∀ b,r.blk i=some b→w'.heap[b]?=w.heap[b]?) (hs:w.heap.size≤w'.heap.size) (hv:∀ b,b<w.heap.size→(∀ k,r.blk k≠some b)→w'.heap[b]?=w.heap[b]?):o.holds r w' i:=by
 cases o with
 |cells t l=>obtain ⟨b,us,h1,h2,h3⟩:=h;exact ⟨b,us,h1,(hb b h1).trans h2,h3⟩
 |row e size n xs=>
  obtain ⟨v,h1,h2,h3,h4⟩:=h;refine ⟨v,h1,h2,h3,?_⟩;rcases h4 with h4|⟨g,cap,cur,hv,hg,hh,hr⟩
  ·exact .inl h4
  ·have:r.blk i=some g:=by rw [← h2,hv];rfl
   exact .inr ⟨g,cap,cur,hv,hg,(hb g this).trans hh,hr⟩
 |ext φ=>obtain ⟨b,h1,h2,h3⟩:=h;exact ⟨b,h1,h3 w' (hb b h1),fun w'' hw=>h3 w'' (hw.trans (hb b h1))⟩
 |view φ n xs=>
  obtain ⟨A,c,h1,h2,h3,h4,h5⟩:=h;refine ⟨A,c,h1,h2,h3,h4,fun j u hj=>?_⟩;obtain ⟨b,off,h6,h7,h8,h9⟩:=h5 j u hj;exact ⟨b,off,h6,Nat.lt_of_lt_of_le h7 hs,h8,(World.cell?_of_block (w:=w) (a:=⟨b,off+j,none⟩) (hv b h7 h8)).trans h9⟩
 |gone=>trivial
theorem Ow.holds_mono {r r':Env} (hr:r.le r') {w:World} {i:Nat} {o:Ow} (h:o.holds r w i) (hb:r'.blk i=r.blk i) (hn:∀ k b,r'.blk k=some b→r.blk k=some b∨w.heap.size≤b):o.holds r' w i:=by
 cases o with
 |cells t l=>obtain ⟨b,us,h1,h2,h3⟩:=h;exact ⟨b,us,hr.blk _ _ h1,h2,zip hr _ _ h3⟩
 |row e size n xs=>obtain ⟨v,h1,h2,h3⟩:=h;exact ⟨v,hr.val _ _ h1,h2.trans hb.symm,h3⟩
 |ext φ=>obtain ⟨b,h1,h2⟩:=h;exact ⟨b,hr.blk _ _ h1,h2⟩
 |view φ n xs=>
  obtain ⟨A,c,h1,h2,h3,h4,h5⟩:=h;refine ⟨A,c,hr.val _ _ h1,h2,h3,hb.trans h4,fun j u hj=>?_⟩;obtain ⟨b,off,h6,h7,h8,h9⟩:=h5 j u hj;refine ⟨b,off,h6,h7,fun k hk=>?_,h9⟩;rcases hn k b hk with h|h
  ·exact h8 k h
  ·omega
 |gone=>trivial
section
variable {w0:World} {G:Gs} {S:List Ow} {r:Env} {w:World}
theorem Rel.below (h:Rel w0 G S r w) {w':World} (hb:Below w.heap.size w w'):Rel w0 G S r w':=
 ⟨hb.os.trans h.os,hb.tape.trans h.tape,hb.output.trans h.output,Nat.le_trans h.size hb.size,
  fun k hk hg=>(hb.block k (Nat.lt_of_lt_of_le hk h.size)).trans (h.old k hk hg),
  fun i o ho=>Ow.holds_block (h.own i o ho) (fun b hb'=>hb.block b (h.new i b hb').1) hb.size (fun b hb' _=>hb.block b hb'),
  h.inj,fun i b hb'=>⟨Nat.lt_of_lt_of_le (h.new i b hb').1 hb.size,(h.new i b hb').2⟩,h.outB,h.outV,h.first⟩
theorem Rel.drew (h:Rel w0 G S r w):Rel w0 G S r w.drew:=h.below ((Below.refl _ _).drew)
theorem Rel.cell (h:Rel w0 G S r w) {i off:Nat} {t:TypeId} {l:List CV} {c:CV} (hi:S[i]?=some (.cells t l)) (hc:l[off]?=some c):
  ∃ b u,r.blk i=some b∧w.cell? ⟨b,off,none⟩=some u∧c.den r u:=by
 obtain ⟨b,us,h1,h2,h3⟩:=h.own i _ hi;obtain ⟨u,hu,hd⟩:=zij h3 hc;exact ⟨b,u,h1,by simp [World.cell?,h2,hu],hd⟩
end
def zac (w0:World) (G:Gs) (b off:Nat) (xs:List Value):Prop:=b<w0.heap.size∧b∉G∧∀ j u,xs[j]?=some u→w0.cell? ⟨b,off+j,none⟩=some u
theorem Rel.oldCell {w0:World} {G:Gs} {S:List Ow} {r:Env} {w:World} (h:Rel w0 G S r w) {b:Nat} (hb:b<w0.heap.size) (hg:b∉G) (off:Nat):w.cell? ⟨b,off,none⟩=w0.cell? ⟨b,off,none⟩:=
 World.cell?_of_block (w:=w0) (a:=⟨b,off,none⟩) (h.old b hb hg)
structure Nd where
 n:Nat
 ds:List Deferred
def Good (w0:World) (G:Gs) (N:Nd) (f:Fr) (S:List Ow) (a:Act) (w:World):Prop:=
 ∃ r,Rel w0 G S r w∧FDen r f a∧a.tmps.size=N.n∧a.defers=N.ds
theorem zdt (m v:Nat) (hm:m<4294967296):(bits .and .u32 ((m:Int)/2^v) 1==0)= !(m.testBit v):=by
 have e1:(m:Int)/2^v=((m/2^v:Nat):Int):=(by simp);have e2:m/2^v<4294967296:=Nat.lt_of_le_of_lt (Nat.div_le_self _ _) hm;have e3:=u32_and_nat (m/2^v) 1 e2 zO;rw [e1,show (1:Int)=((1:Nat):Int) from rfl,e3,Nat.and_one_is_mod,Nat.testBit_eq_decide_div_mod_eq];have e4:m/2^v%2<2:=Nat.mod_lt _ zO
 rcases (by omega:m/2^v%2=0∨m/2^v%2=1) with h|h<;>simp [h]
theorem zds (m d:Nat) (hm:m<4294967296) (hd:d<32):bits .or .u32 (m:Int) (2^d%4294967296)=((m|||2^d:Nat):Int):=by
 have h1:2^d<2^32:=Nat.pow_lt_pow_right zO hd
 have h2:2^d<4294967296:=by simpa using h1
 have e1:(2:Int)^d%4294967296=((2^d:Nat):Int):=by
  rw [show (2:Int)^d=((2^d:Nat):Int) by simp]
  obtain ⟨q,hq⟩:∃ q,2^d=q:=⟨_,rfl⟩
  rw [hq] at h2⊢;omega
 rw [e1];exact u32_or_nat m (2^d) hm h2
theorem z1b {o:BOp} (hf:znt o=true):∀ x∈reads o,0≤x∧x<28:=by
 obtain ⟨hI,hd,ha,hb,hN⟩:=zny hf;intro x hx;unfold reads at hx;rw [List.mem_append] at hx;rcases hx with hx|hx
 ·split at hx
  ·rename_i h
   rw [h] at ha;simp [zl3] at ha hx;subst hx;omega
  ·simp at hx
 ·split at hx
  ·rename_i h
   simp only [Bool.and_eq_true] at h;rw [h.1] at hb;simp [zl3] at hb hx;subst hx;omega
  ·simp at hx
theorem ybl {o:BOp} (hf:znt o=true):writes o<28:=by
 obtain ⟨hI,hd,ha,hb,hN⟩:=zny hf;unfold writes
 split
 ·rename_i h
  rw [h] at hd;simp [zl3] at hd;omega
 ·omega
theorem SlAt.fresh (w:World) (cs:Array Value) (t:TypeId) {xs:List Value} (h:cs.toList=xs):SlAt (w.alloc (.cells cs t)) (w.alloc (.cells cs t)).heap.size (some ⟨w.heap.size,0,none⟩) xs:=by
 subst h;refine SlAt.mk_ zS fun j u hu=>?_;rw [Nat.zero_add,cell_of_row _ _ j cs t _ (heap_alloc_new w _)]
 simpa using hu
theorem rop3 (a b:Int) (w:World) (ha:word a) (hb:word b):
  Calls Tryz.prog 95 #[.int .i64 3,.int .u32 a,.int .u32 b] w fun e w'=>e= .returned (.int .u32 (yaq 3 a b))∧w=w':=by
 have HA:=Lib.hid ha;have HB:=Lib.hid hb;obtain ⟨g1,g2⟩:=ha;obtain ⟨g3,g4⟩:=hb
 go_enter Tryz.func95,Tryz.ntmps95
 go_wp2_with (first|(go_at_call 151;refine (z5f _ _ (by first|exact HA.out|exact HB.out)).mono ?_;rintro e w' ⟨rfl,rfl⟩)|(go_at_call 152;refine (zdr _ _).mono ?_;rintro e w' ⟨rfl,rfl⟩))
 go_ret
 exact ⟨z1y (by simp [yaq]),rfl⟩
theorem rop4 (a b:Int) (w:World) (ha:word a) (hb:word b):
  Calls Tryz.prog 95 #[.int .i64 4,.int .u32 a,.int .u32 b] w fun e w'=>e= .returned (.int .u32 (yaq 4 a b))∧w=w':=by
 have HA:=Lib.hid ha;have HB:=Lib.hid hb;obtain ⟨g1,g2⟩:=ha;obtain ⟨g3,g4⟩:=hb
 go_enter Tryz.func95,Tryz.ntmps95
 go_wp2_with (first|(go_at_call 151;refine (z5f _ _ (by first|exact HA.out|exact HB.out)).mono ?_;rintro e w' ⟨rfl,rfl⟩)|(go_at_call 152;refine (zdr _ _).mono ?_;rintro e w' ⟨rfl,rfl⟩))
 go_ret
 exact ⟨z1y (by simp [yaq]),rfl⟩
theorem rop5 (a b:Int) (w:World) (ha:word a) (hb:word b):
  Calls Tryz.prog 95 #[.int .i64 5,.int .u32 a,.int .u32 b] w fun e w'=>e= .returned (.int .u32 (yaq 5 a b))∧w=w':=by
 have HA:=Lib.hid ha;have HB:=Lib.hid hb;obtain ⟨g1,g2⟩:=ha;obtain ⟨g3,g4⟩:=hb
 go_enter Tryz.func95,Tryz.ntmps95
 go_wp2_with (first|(go_at_call 151;refine (z5f _ _ (by first|exact HA.out|exact HB.out)).mono ?_;rintro e w' ⟨rfl,rfl⟩)|(go_at_call 152;refine (zdr _ _).mono ?_;rintro e w' ⟨rfl,rfl⟩))
 go_ret
 exact ⟨z1y (by simp [yaq];exact z83 HA.out HB.out),rfl⟩
theorem rop6 (a b:Int) (w:World) (ha:word a) (hb:word b):
  Calls Tryz.prog 95 #[.int .i64 6,.int .u32 a,.int .u32 b] w fun e w'=>e= .returned (.int .u32 (yaq 6 a b))∧w=w':=by
 have HA:=Lib.hid ha;have HB:=Lib.hid hb;obtain ⟨g1,g2⟩:=ha;obtain ⟨g3,g4⟩:=hb
 go_enter Tryz.func95,Tryz.ntmps95
 go_wp2_with (first|(go_at_call 151;refine (z5f _ _ (by first|exact HA.out|exact HB.out)).mono ?_;rintro e w' ⟨rfl,rfl⟩)|(go_at_call 152;refine (zdr _ _).mono ?_;rintro e w' ⟨rfl,rfl⟩))
 go_ret
 exact ⟨z1y (by simp [yaq];exact z84 HA.out HB.out),rfl⟩
theorem rop7 (a b:Int) (w:World) (ha:word a) (hb:word b):
  Calls Tryz.prog 95 #[.int .i64 7,.int .u32 a,.int .u32 b] w fun e w'=>e= .returned (.int .u32 (yaq 7 a b))∧w=w':=by
 have HA:=Lib.hid ha;have HB:=Lib.hid hb;obtain ⟨g1,g2⟩:=ha;obtain ⟨g3,g4⟩:=hb
 go_enter Tryz.func95,Tryz.ntmps95
 go_wp2_with (first|(go_at_call 151;refine (z5f _ _ (by first|exact HA.out|exact HB.out)).mono ?_;rintro e w' ⟨rfl,rfl⟩)|(go_at_call 152;refine (zdr _ _).mono ?_;rintro e w' ⟨rfl,rfl⟩))
 go_ret
 exact ⟨z1y (by simp [yaq];exact z85 HA.out HB.out),rfl⟩
theorem rop8 (a b:Int) (w:World) (ha:word a) (hb:word b):
  Calls Tryz.prog 95 #[.int .i64 8,.int .u32 a,.int .u32 b] w fun e w'=>e= .returned (.int .u32 (yaq 8 a b))∧w=w':=by
 have HA:=Lib.hid ha;have HB:=Lib.hid hb;obtain ⟨g1,g2⟩:=ha;obtain ⟨g3,g4⟩:=hb
 go_enter Tryz.func95,Tryz.ntmps95
 go_wp2_with (first|(go_at_call 151;refine (z5f _ _ (by first|exact HA.out|exact HB.out)).mono ?_;rintro e w' ⟨rfl,rfl⟩)|(go_at_call 152;refine (zdr _ _).mono ?_;rintro e w' ⟨rfl,rfl⟩))
 go_ret
 exact ⟨z1y (by simp [yaq]),rfl⟩
theorem rop9 (a b:Int) (w:World) (ha:word a) (hb:word b):
  Calls Tryz.prog 95 #[.int .i64 9,.int .u32 a,.int .u32 b] w fun e w'=>e= .returned (.int .u32 (yaq 9 a b))∧w=w':=by
 have HA:=Lib.hid ha;have HB:=Lib.hid hb;obtain ⟨g1,g2⟩:=ha;obtain ⟨g3,g4⟩:=hb
 go_enter Tryz.func95,Tryz.ntmps95
 go_wp2_with (first|(go_at_call 151;refine (z5f _ _ (by first|exact HA.out|exact HB.out)).mono ?_;rintro e w' ⟨rfl,rfl⟩)|(go_at_call 152;refine (zdr _ _).mono ?_;rintro e w' ⟨rfl,rfl⟩))
 go_ret
 exact ⟨z1y (by simp [yaq]),rfl⟩
theorem rop10 (a b:Int) (w:World) (ha:word a) (hb:word b):
  Calls Tryz.prog 95 #[.int .i64 10,.int .u32 a,.int .u32 b] w fun e w'=>e= .returned (.int .u32 (yaq 10 a b))∧w=w':=by
 have HA:=Lib.hid ha;have HB:=Lib.hid hb;obtain ⟨g1,g2⟩:=ha;obtain ⟨g3,g4⟩:=hb
 go_enter Tryz.func95,Tryz.ntmps95
 go_wp2_with (first|(go_at_call 151;refine (z5f _ _ (by first|exact HA.out|exact HB.out)).mono ?_;rintro e w' ⟨rfl,rfl⟩)|(go_at_call 152;refine (zdr _ _).mono ?_;rintro e w' ⟨rfl,rfl⟩))
 go_ret
 exact ⟨z1y (by simp [yaq]),rfl⟩
theorem rop11 (a b:Int) (w:World) (ha:word a) (hb:word b):
  Calls Tryz.prog 95 #[.int .i64 11,.int .u32 a,.int .u32 b] w fun e w'=>e= .returned (.int .u32 (yaq 11 a b))∧w=w':=by
 have HA:=Lib.hid ha;have HB:=Lib.hid hb;obtain ⟨g1,g2⟩:=ha;obtain ⟨g3,g4⟩:=hb
 go_enter Tryz.func95,Tryz.ntmps95
 go_wp2_with (first|(go_at_call 151;refine (z5f _ _ (by first|exact HA.out|exact HB.out)).mono ?_;rintro e w' ⟨rfl,rfl⟩)|(go_at_call 152;refine (zdr _ _).mono ?_;rintro e w' ⟨rfl,rfl⟩))
 go_ret
 exact ⟨z1y (by simp [yaq]),rfl⟩
theorem rop12 (a b:Int) (w:World) (ha:word a) (hb:word b):
  Calls Tryz.prog 95 #[.int .i64 12,.int .u32 a,.int .u32 b] w fun e w'=>e= .returned (.int .u32 (yaq 12 a b))∧w=w':=by
 have HA:=Lib.hid ha;have HB:=Lib.hid hb;obtain ⟨g1,g2⟩:=ha;obtain ⟨g3,g4⟩:=hb;by_cases h0:b=0
 ·subst h0
  go_enter Tryz.func95,Tryz.ntmps95
  go_wp2
  go_ret
  exact ⟨rfl,rfl⟩
 ·have h1:1≤b:=by omega
  have e1:(b==0)=false:=by simp [h0]
  clear h0
  go_enter Tryz.func95,Tryz.ntmps95
  go_wp2
  go_ret
  refine ⟨z1y ?_,rfl⟩;rw [show yaq 12 a b=a/b from by simp [yaq];omega]
theorem rop13 (a b:Int) (w:World) (ha:word a) (hb:word b):
  Calls Tryz.prog 95 #[.int .i64 13,.int .u32 a,.int .u32 b] w fun e w'=>e= .returned (.int .u32 (yaq 13 a b))∧w=w':=by
 have HA:=Lib.hid ha;have HB:=Lib.hid hb;obtain ⟨g1,g2⟩:=ha;obtain ⟨g3,g4⟩:=hb
 go_enter Tryz.func95,Tryz.ntmps95
 go_wp2_with (first|(go_at_call 151;refine (z5f _ _ (by first|exact HA.out|exact HB.out)).mono ?_;rintro e w' ⟨rfl,rfl⟩)|(go_at_call 152;refine (zdr _ _).mono ?_;rintro e w' ⟨rfl,rfl⟩))
 go_ret
 exact ⟨z1y (by simp [yaq];rfl),rfl⟩
theorem rop14 (a b:Int) (w:World) (ha:word a) (hb:word b):
  Calls Tryz.prog 95 #[.int .i64 14,.int .u32 a,.int .u32 b] w fun e w'=>e= .returned (.int .u32 (yaq 14 a b))∧w=w':=by
 have HA:=Lib.hid ha;have HB:=Lib.hid hb;obtain ⟨g1,g2⟩:=ha;obtain ⟨g3,g4⟩:=hb
 go_enter Tryz.func95,Tryz.ntmps95
 go_wp2_with (first|(go_at_call 151;refine (z5f _ _ (by first|exact HA.out|exact HB.out)).mono ?_;rintro e w' ⟨rfl,rfl⟩)|(go_at_call 152;refine (zdr _ _).mono ?_;rintro e w' ⟨rfl,rfl⟩))
 go_ret
 exact ⟨z1y (by simp [yaq]),rfl⟩
theorem rop15 (a b:Int) (w:World) (ha:word a) (hb:word b):
  Calls Tryz.prog 95 #[.int .i64 15,.int .u32 a,.int .u32 b] w fun e w'=>e= .returned (.int .u32 (yaq 15 a b))∧w=w':=by
 have HA:=Lib.hid ha;have HB:=Lib.hid hb;obtain ⟨g1,g2⟩:=ha;obtain ⟨g3,g4⟩:=hb;have e1:=fun W h=>z5f a W h;have e2:=fun W h=>z5f b W h;have E1:=Lib.hid e1;have E2:=Lib.hid e2;clear e1 e2
 go_enter Tryz.func95,Tryz.ntmps95
 go_wp2_with fail
 refine (E1.out _ HA.out).mono ?_;rintro e w' ⟨rfl,rfl⟩
 go_wp2_with fail
 refine (E2.out _ HB.out).mono ?_;rintro e w' ⟨rfl,rfl⟩
 go_wp2_with (first|(go_at_call 151;refine (z5f _ _ (by first|exact HA.out|exact HB.out)).mono ?_;rintro e w' ⟨rfl,rfl⟩)|(go_at_call 152;refine (zdr _ _).mono ?_;rintro e w' ⟨rfl,rfl⟩))
 go_ret
 exact ⟨z1y (by simp [yaq]),rfl⟩
theorem z12 (c a b:Int) (w:World) (h:zrf c=false):
  Calls Tryz.prog 95 #[.int .i64 c,.int .u32 a,.int .u32 b] w fun e w'=>e= .returned (.int .u32 0)∧w=w':=by
 have h':c<3∨15<c:=by simp [zrf] at h;omega
 clear h
 rcases h' with h|h
 all_goals
  go_enter Tryz.func95,Tryz.ntmps95
  go_wp2
  go_ret
  exact ⟨rfl,rfl⟩
theorem zwz (c a b:Int) (w:World) (ha:word a) (hb:word b):
  Calls Tryz.prog 95 #[.int .i64 c,.int .u32 a,.int .u32 b] w fun e w'=>e= .returned (.int .u32 (yaq c a b))∧w=w':=by
 by_cases h:zrf c=true
 ·have h':3≤c∧c≤15:=by simpa [zrf] using h
  rcases (by omega:c=3∨c=4∨c=5∨c=6∨c=7∨c=8∨c=9∨c=10∨c=11∨c=12∨c=13∨c=14∨c=15) with rfl|rfl|rfl|rfl|rfl|rfl|rfl|rfl|rfl|rfl|rfl|rfl|rfl
  ·exact rop3 a b w ha hb
  ·exact rop4 a b w ha hb
  ·exact rop5 a b w ha hb
  ·exact rop6 a b w ha hb
  ·exact rop7 a b w ha hb
  ·exact rop8 a b w ha hb
  ·exact rop9 a b w ha hb
  ·exact rop10 a b w ha hb
  ·exact rop11 a b w ha hb
  ·exact rop12 a b w ha hb
  ·exact rop13 a b w ha hb
  ·exact rop14 a b w ha hb
  ·exact rop15 a b w ha hb
 ·have h':zrf c=false:=by simpa using h
  have h0:yaq c a b=0:=by
   simp [zrf] at h';unfold yaq
   repeat (rw [if_neg zO])
  rw [h0];exact z12 c a b w h'
def tsz (P:Program) (t:TypeId):Nat:=match P.info? t with|some i=>i.size|none=>0
def tAgg (P:Program) (t:TypeId):Option Bool:=match P.underlying t with|some (.struct _)=>some true|some (.array _ _)=>some true|some _=>some false|none=>none
def zno {α:Type}:List α→(List α→Prop)→Prop
 |[],K=>K []
 |a::l,K=>zno l fun m=>K (a::m)
theorem znp {α:Type}:∀ {l:List α} {K:List α→Prop},zno l K↔K l
 |[],_K=>Iff.rfl
 |_a::l,_K=>znp (l:=l)
def znq {α:Type} (n:Nat) (l:List α) (K:List α→Prop):Prop:=match Nat.ble n 8 with|true=>zno l K|false=>K l
theorem znr {α:Type} {n:Nat} {l:List α} {K:List α→Prop}:znq n l K↔K l:=by
 unfold znq;split
 ·exact znp
 ·exact Iff.rfl
def cut (l:List CV) (off n:Nat):Option (List CV):=match Nat.ble (off+n) l.length with|true=>some ((l.drop off).take n)|false=>none
theorem zh3 {l m:List CV} {off n:Nat} (h:cut l off n=some m):off+n≤l.length∧m=(l.drop off).take n:=by
 unfold cut at h;split at h
 ·rename_i hb;exact ⟨Nat.le_of_ble_eq_true hb,(Option.some.inj h).symm⟩
 ·cases h
theorem za0 (b off i:Nat):Addr.add ⟨b,off,none⟩ i=⟨b,off+i,none⟩:=by
 unfold Addr.add;split
 ·rename_i h;subst h;simp
 ·rfl
theorem z2j (P:Program) (t:TypeId) (w:World) {i:TypeInfo} (h:P.info? t=some i):(sizeOf t).run P w= .ok i.size w:=by
 simp [sizeOf,typeInfo,h]
theorem z2e {P:Program} {t:TypeId} (w:World) {x:Bool} (h:tAgg P t=some x):(isAgg t).run P w= .ok x w:=by
 unfold tAgg at h;unfold isAgg underlying;simp only [Sem.run_bind,run_program,Result.andThen_ok]
 split at h
 ·rename_i hu;injection h with h;subst h;rw [hu];simp
 ·rename_i hu;injection h with h;subst h;rw [hu];simp
 ·rename_i d n1 n2 hu
  injection h with h;subst h;rw [hu];simp only [Result.andThen_ok,Sem.run_pure]
 ·cases h
theorem z2h {P:Program} {w:World} {b off:Nat}:∀ (n i:Nat) (acc:Array Value) (us:List Value),us.length=n→(∀ j u,us[j]?=some u→w.cell? ⟨b,off+i+j,none⟩=some u)→
  (loadCellsFrom ⟨b,off,none⟩ i n acc).run P w= .ok (acc++us.toArray) w
 |0,i,acc,us,hl,h=>by
  rw [List.eq_nil_of_length_eq_zero hl];simp [loadCellsFrom]
 |n+1,i,acc,us,hl,h=>by
  match us,hl with
  |u::us,hl=>
   have h0:=h 0 u rfl;have:=z2h (P:=P) (w:=w) (b:=b) (off:=off) n (i+1) (acc.push u) us (by simpa using hl) (fun j v hj=>by have:=h (j+1) v (by simpa using hj);rw [← this];congr 2;omega);unfold loadCellsFrom;simp only [Sem.run_bind,run_load,za0];rw [show off+i=off+i+0 by omega,h0];simp [this]
theorem z2g {P:Program} {w:World} {b off:Nat} {t:TypeId} {u:Value} (ht:tAgg P t=some false) (h:w.cell? ⟨b,off,none⟩=some u):
  (Instr.loadAt t (.pointer (some ⟨b,off,none⟩))).run P w= .ok u w:=by
 simp [Instr.loadAt,Instr.sureAddr,loadVar,z2e w ht,h]
theorem z2f {P:Program} {w:World} {b off:Nat} {t:TypeId} {us:List Value} {i:TypeInfo} (ht:tAgg P t=some true) (hi:P.info? t=some i) (hl:us.length=i.size) (h:∀ j u,us[j]?=some u→w.cell? ⟨b,off+j,none⟩=some u):
  (Instr.loadAt t (.pointer (some ⟨b,off,none⟩))).run P w= .ok (.agg us.toArray) w:=by
 simp [Instr.loadAt,Instr.sureAddr,loadVar,z2e w ht,z2j P t w hi,loadCells,z2h i.size 0 #[] us hl (by simpa using h)]
def binK (op:BinOp) (k:IntKind) (a b:Int) (K:Value→Prop):Prop:=
 match op with
 | .add=>∃ m,k.wrap (a+b)=m∧K (.int k m)
 | .sub=>∃ m,k.wrap (a-b)=m∧K (.int k m)
 | .mul=>∃ m,k.wrap (a*b)=m∧K (.int k m)
 | .quo=>b≠0∧∃ m,k.wrap (a.tdiv b)=m∧K (.int k m)
 | .rem=>b≠0∧∃ m,a.tmod b=m∧K (.int k m)
 | .eql=>K (.bool (a==b))
 | .neq=>K (.bool (a !=b))
 | .lss=>K (.bool (decide (a<b)))
 | .leq=>K (.bool (decide (a≤b)))
 | .gtr=>K (.bool (decide (a>b)))
 | .geq=>K (.bool (decide (a≥b)))
 | .and=>∃ m,bits .and k a b=m∧K (.int k m)
 | .or=>∃ m,bits .or k a b=m∧K (.int k m)
 | .xor=>∃ m,bits .xor k a b=m∧K (.int k m)
 | .andNot=>∃ m,bits .andNot k a b=m∧K (.int k m)
 |_=>False
def z47 (op:BinOp) (k:IntKind) (a b:Int) (K:Value→Prop):Prop:=
 match op with
 | .shl=>0≤b∧∃ m,k.wrap (a*2^(min b.toNat k.bits))=m∧K (.int k m)
 | .shr=>0≤b∧∃ m,a.fdiv (2^(min b.toNat k.bits))=m∧K (.int k m)
 |_=>False
theorem zdo {P:Program} {op:BinOp} {t:TypeId} {k:IntKind} {a b:Int} {K:Value→Prop} (h:binK op k a b K):∃ u,K u∧∀ w:World,(binOp op t (.int k a) (.int k b)).run P w= .ok u w:=by
 unfold binK at h
 split at h
 ·obtain ⟨m,hm,hK⟩:=h;exact ⟨_,hK,fun w=>by simp [binOp,Op.intArith,hm]⟩
 ·obtain ⟨m,hm,hK⟩:=h;exact ⟨_,hK,fun w=>by simp [binOp,Op.intArith,hm]⟩
 ·obtain ⟨m,hm,hK⟩:=h;exact ⟨_,hK,fun w=>by simp [binOp,Op.intArith,hm]⟩
 ·obtain ⟨h0,m,hm,hK⟩:=h;exact ⟨_,hK,fun w=>by simp [binOp,Op.intDiv,h0,hm]⟩
 ·obtain ⟨h0,m,hm,hK⟩:=h;exact ⟨_,hK,fun w=>by simp [binOp,Op.intDiv,h0,hm]⟩
 ·exact ⟨_,h,fun w=>by simp [binOp,Op.intCmp]⟩
 ·exact ⟨_,h,fun w=>by simp [binOp,Op.intCmp]⟩
 ·exact ⟨_,h,fun w=>by simp [binOp,Op.intCmp]⟩
 ·exact ⟨_,h,fun w=>by simp [binOp,Op.intCmp]⟩
 ·exact ⟨_,h,fun w=>by simp [binOp,Op.intCmp]⟩
 ·exact ⟨_,h,fun w=>by simp [binOp,Op.intCmp]⟩
 ·obtain ⟨m,hm,hK⟩:=h;exact ⟨_,hK,fun w=>by subst hm;simp [binOp,go_sem]⟩
 ·obtain ⟨m,hm,hK⟩:=h;exact ⟨_,hK,fun w=>by subst hm;simp [binOp,go_sem]⟩
 ·obtain ⟨m,hm,hK⟩:=h;exact ⟨_,hK,fun w=>by subst hm;simp [binOp,go_sem]⟩
 ·obtain ⟨m,hm,hK⟩:=h;exact ⟨_,hK,fun w=>by subst hm;simp [binOp,go_sem]⟩
 ·exact h.elim
theorem z48 {P:Program} {op:BinOp} {t:TypeId} {k k':IntKind} {a b:Int} {K:Value→Prop} (h:z47 op k a b K):∃ u,K u∧∀ w:World,(binOp op t (.int k a) (.int k' b)).run P w= .ok u w:=by
 unfold z47 at h
 split at h
 ·obtain ⟨h0,m,hm,hK⟩:=h;exact ⟨_,hK,fun w=>by simp [binOp,Op.shift,show ¬b<0 by omega,hm]⟩
 ·obtain ⟨h0,m,hm,hK⟩:=h;exact ⟨_,hK,fun w=>by simp [binOp,Op.shift,show ¬b<0 by omega,hm]⟩
 ·exact h.elim
abbrev one (x:Value):AV:= .p (.c (.v x))
structure QRun (P:Program) (w0:World) (G:Gs) (S:List Ow) (f:Fr) (o:Oper) (K:AV→Prop):Prop where
 out:∃ v:AV,K v∧∀ r a,FDen r f a→∃ u,v.den r u∧∀ w,Rel w0 G S r w→(execOp a.eval o).run P w= .ok (.value u) w
def getK (P:Program) (t:TypeId) (l:List CV) (off:Nat) (K:AV→Prop):Prop:=
 match tAgg P t with
 |some false=>(match l[off]? with|some c=>K (.p (.c c))|none=>False)
 |some true=>(match P.info? t with|some i=>(match cut l off i.size with|some m=>znq i.size m fun m=>K (.p (.agg m))|none=>False)|none=>False)
 |none=>False
def oldK (P:Program) (w0:World) (G:Gs) (t:TypeId) (b off:Nat) (K:AV→Prop):Prop:=
 match tAgg P t with
 |some false=>∃ x,zac w0 G b off [x]∧K (one x)
 |some true=>(match P.info? t with|some i=>∃ xs:List Value,zac w0 G b off xs∧xs.length=i.size∧K (.p (.agg (xs.map .v)))|none=>False)
 |none=>False
def ztg (P:Program) (w0:World) (G:Gs) (S:List Ow) (t:TypeId) (x:AV) (K:AV→Prop):Prop:=
 match x with
 | .p (.c (.ref i off))=>(match S[i]? with
  |some (.cells _ l)=>getK P t l off K
  |some (.row _ _ _ xs)=>getK P t (xs.map .v) off K
  |_=>False)
 | .p (.c (.vref i off))=>(match S[i]? with
  |some (.view _ _ xs)=>getK P t (xs.map .v) off K
  |_=>False)
 | .p (.c (.v (.pointer (some ⟨b,off,none⟩))))=>oldK P w0 G t b off K
 |_=>False
theorem zok {P:Program} {t:TypeId} {l:List CV} {off:Nat} {K:AV→Prop} (h:getK P t l off K) {r:Env} {b:Nat} {us:List Value} (hl:denL r l us) (base:Nat):
  ∃ v u,K v∧v.den r u∧∀ w:World,(∀ j x,us[j]?=some x→w.cell? ⟨b,base+j,none⟩=some x)→(Instr.loadAt t (.pointer (some ⟨b,base+off,none⟩))).run P w= .ok u w:=by
 unfold getK at h
 split at h
 ·rename_i ht
  split at h
  ·rename_i c hc
   obtain ⟨u,hu,hd⟩:=zij hl hc;exact ⟨_,u,h,hd,fun w hw=>z2g ht (hw _ _ hu)⟩
  ·exact h.elim
 ·rename_i ht
  split at h
  ·rename_i i hi
   split at h
   ·rename_i m hm
    obtain ⟨hle,rfl⟩:=zh3 hm;have hd:=ziu i.size (zim off hl);have hlen:=zio hl;refine ⟨_,_,znr.1 h,⟨_,rfl,hd⟩,fun w hw=>z2f ht hi zV fun j u hj=>?_⟩;rw [Nat.add_assoc];refine hw _ _ ?_;rw [List.getElem?_take] at hj
    split at hj
    ·rw [List.getElem?_drop] at hj;exact hj
    ·cases hj
   ·exact h.elim
  ·exact h.elim
 ·exact h.elim
theorem zv7 {P:Program} {w0:World} {G:Gs} {t:TypeId} {b off:Nat} {K:AV→Prop} (h:oldK P w0 G t b off K) (r:Env):
  ∃ v u,K v∧v.den r u∧∀ (S:List Ow) (r':Env) (w:World),Rel w0 G S r' w→(Instr.loadAt t (.pointer (some ⟨b,off,none⟩))).run P w= .ok u w:=by
 unfold oldK at h
 split at h
 ·rename_i ht
  obtain ⟨x,⟨h1,h2,h3⟩,hK⟩:=h;refine ⟨_,x,hK,by simp [AV.den,Pc.den,CV.den],fun S r' w hR=>z2g ht ?_⟩;rw [hR.oldCell h1 h2];simpa using h3 0 x rfl
 ·rename_i ht
  split at h
  ·rename_i i hi
   obtain ⟨xs,⟨h1,h2,h3⟩,hl,hK⟩:=h;refine ⟨_,.agg xs.toArray,hK,⟨xs,rfl,ziv xs⟩,fun S r' w hR=>z2f ht hi hl fun j u hj=>?_⟩;rw [hR.oldCell h1 h2];exact h3 j u hj
  ·exact h.elim
 ·exact h.elim
theorem zxw {w:World} {base:Nat} {e:TypeId} {size n:Nat} {v:Value} {xs:List Value} {b:Nat} (h:w.ownsRow base e size v n xs) (hb:v.ownBlock=some b):∀ j x,xs[j]?=some x→w.cell? ⟨b,j,none⟩=some x:=by
 intro j x hj;rcases h.2 with ⟨h0,_⟩|⟨g,cap,cur,hv,_,hh,_⟩
 ·subst h0;simp [Value.ownBlock] at hb
 ·subst hv
  simp [Value.ownBlock] at hb;subst hb;obtain ⟨b',off,hA,_,hc⟩:=SlAt.of_own h j x hj;injection hA with hA;injection hA with h1 h2;subst h1;subst h2
  simpa using hc
theorem zth {P:Program} {w0:World} {G:Gs} {S:List Ow} {t:TypeId} {x:AV} {K:AV→Prop} (h:ztg P w0 G S t x K) {r:Env} {w1:World} (hR1:Rel w0 G S r w1) {y:Value} (hx:x.den r y):
  ∃ v u,K v∧v.den r u∧∀ w:World,Below w1.heap.size w1 w→(Instr.loadAt t y).run P w= .ok u w:=by
 unfold ztg at h
 split at h
 ·rename_i i off
  simp only [AV.den,Pc.den,CV.den] at hx;obtain ⟨b,hb,rfl⟩:=hx
  split at h
  ·rename_i t' l hi
   obtain ⟨b',us,h1,h2,h3⟩:=hR1.own i _ hi;rw [hb] at h1;injection h1 with h1;subst h1;obtain ⟨v,u,hK,hd,hrun⟩:=zok h (b:=b) h3 0;simp only [Nat.zero_add] at hrun;refine ⟨v,u,hK,hd,fun w hw=>hrun w fun j x hj=>?_⟩;rw [hw.cell (p:=⟨b,j,none⟩) (hR1.new i b hb).1];simp [World.cell?,h2,hj]
  ·rename_i e size n xs hi
   obtain ⟨v',h1,h2,h3⟩:=hR1.own i _ hi;obtain ⟨v,u,hK,hd,hrun⟩:=zok h (b:=b) (r:=r) (ziv xs) 0;simp only [Nat.zero_add] at hrun;refine ⟨v,u,hK,hd,fun w hw=>hrun w fun j x hj=>?_⟩;rw [hw.cell (p:=⟨b,j,none⟩) (hR1.new i b hb).1];exact zxw h3 (h2.trans hb) j x hj
  ·exact h.elim
 ·rename_i i off
  simp only [AV.den,Pc.den,CV.den] at hx;obtain ⟨b,o,n',c',hb,rfl⟩:=hx
  split at h
  ·rename_i φ n xs hi
   obtain ⟨A,c,h1,h2,h3,h4,h5⟩:=hR1.own i _ hi;rw [hb] at h1;injection h1 with h1;injection h1 with h1 h1n h1c;subst h1;obtain ⟨v,u,hK,hd,hrun⟩:=zok h (b:=b) (r:=r) (ziv xs) o;refine ⟨v,u,hK,hd,fun w hw=>hrun w fun j x hj=>?_⟩;obtain ⟨b',off',hA,h6,_,h7⟩:=h5 j x hj;injection hA with hA;injection hA with e1 e2;subst e1;subst e2;rw [hw.cell (p:=⟨_,_,none⟩) h6];exact h7
  ·exact h.elim
 ·rename_i b off
  simp only [AV.den,Pc.den,CV.den] at hx;subst hx;obtain ⟨v,u,hK,hd,hrun⟩:=zv7 h r;exact ⟨v,u,hK,hd,fun w hw=>hrun S r w (hR1.below hw)⟩
 ·exact h.elim
def znd (P:Program) (s:TypeId) (k:Nat):Option Nat:=match P.underlying s with
 |some (.struct fs)=>(match fs[k]? with|some f=>(match P.info? f.type with|some i=>(match Nat.beq i.size 0 with|true=>none|false=>some f.offset)|none=>none)|none=>none)
 |_=>none
theorem z2a {P:Program} {s:TypeId} {k n:Nat} (h:znd P s k=some n) (b off:Nat) (w:World):(Instr.fieldAt s (.pointer (some ⟨b,off,none⟩)) k).run P w= .ok (.pointer (some ⟨b,off+n,none⟩)) w:=by
 unfold znd at h
 split at h
 ·rename_i fs hs
  split at h
  ·rename_i fl hf
   split at h
   ·rename_i i hi
    split at h
    ·cases h
    ·rename_i hz
     injection h with h;subst h
     have hz':¬i.size=0:=fun e=>by rw [e] at hz;cases hz
     simp [Instr.fieldAt,underlying,hs,hf,Instr.sureAddr,fieldPlace,z2j P fl.type w hi,hz',za0]
   ·cases h
  ·cases h
 ·cases h
def fldK (P:Program) (s:TypeId) (l:List CV) (k:Nat) (K:AV→Prop):Prop:=match P.underlying s with
 |some (.struct fs)=>(match fs[k]? with|some f=>getK P f.type l f.offset K|none=>False)
 |_=>False
theorem z2i {P:Program} {t:TypeId} {l:List CV} {off:Nat} {K:AV→Prop} (h:getK P t l off K) {r:Env} {us:List Value} (hl:denL r l us):
  ∃ v u,K v∧v.den r u∧∀ w:World,(part t us.toArray off).run P w= .ok u w:=by
 unfold getK at h
 split at h
 ·rename_i ht
  split at h
  ·rename_i c hc
   obtain ⟨u,hu,hd⟩:=zij hl hc;exact ⟨_,u,h,hd,fun w=>by simp [part,z2e w ht,hu]⟩
  ·exact h.elim
 ·rename_i ht
  split at h
  ·rename_i i hi
   split at h
   ·rename_i m hm
    obtain ⟨hle,rfl⟩:=zh3 hm;have hd:=ziu i.size (zim off hl);refine ⟨_,_,znr.1 h,⟨_,rfl,hd⟩,fun w=>?_⟩;simp [part,z2e w ht,z2j P t w hi,List.take_drop]
   ·exact h.elim
  ·exact h.elim
 ·exact h.elim
mutual
def CV.bnd (n:Nat):CV→Bool
 | .ref i _=>Nat.blt i n
 | .vref i _=>Nat.blt i n
 | .row i=>Nat.blt i n
 | .sl i _ _ _=>Nat.blt i n
 | .mp i=>Nat.blt i n
 | .clo _ cap=>bndL n cap
 |_=>true
def bndL (n:Nat):List CV→Bool
 |[]=>true
 |c::l=>match c.bnd n with|true=>bndL n l|false=>false
end
def Pc.bnd (n:Nat):Pc→Bool
 | .c x=>x.bnd n
 | .agg l=>bndL n l
def zx9 (n:Nat):List Pc→Bool
 |[]=>true
 |c::l=>match c.bnd n with|true=>zx9 n l|false=>false
def AV.bnd (n:Nat):AV→Bool
 | .p x=>x.bnd n
 | .tup l=>zx9 n l
def Fr.bnd (n:Nat):Fr→Bool
 |[]=>true
 |(_,x)::f=>match x.bnd n with|true=>Fr.bnd n f|false=>false
def Env.agree (n:Nat) (a b:Env):Prop:=∀ i,i<n→a.blk i=b.blk i∧a.val i=b.val i
mutual
theorem CV.den_agree {n:Nat} {a b:Env} (h:a.agree n b):∀ (c:CV) (u:Value),c.bnd n=true→c.den a u→c.den b u
 | .v x,u,_,hd=>by simpa only [CV.den] using hd
 | .ref i off,u,hb,hd=>by
  simp only [CV.den] at hd⊢;obtain ⟨x,hx,hu⟩:=hd;exact ⟨x,by rw [← (h i (by simpa [CV.bnd,Nat.blt_eq] using hb)).1];exact hx,hu⟩
 | .vref i off,u,hb,hd=>by
  simp only [CV.den] at hd⊢;obtain ⟨x,o,m,c,hx,hu⟩:=hd;exact ⟨x,o,m,c,by rw [← (h i (by simpa [CV.bnd,Nat.blt_eq] using hb)).2];exact hx,hu⟩
 | .row i,u,hb,hd=>by
  simp only [CV.den] at hd⊢;rw [← (h i (by simpa [CV.bnd,Nat.blt_eq] using hb)).2];exact hd
 | .sl i off m c,u,hb,hd=>by
  simp only [CV.den] at hd⊢;obtain ⟨x,hx,hu⟩:=hd;exact ⟨x,by rw [← (h i (by simpa [CV.bnd,Nat.blt_eq] using hb)).1];exact hx,hu⟩
 | .mp i,u,hb,hd=>by
  simp only [CV.den] at hd⊢;obtain ⟨x,hx,hu⟩:=hd;exact ⟨x,by rw [← (h i (by simpa [CV.bnd,Nat.blt_eq] using hb)).1];exact hx,hu⟩
 | .clo f cap,u,hb,hd=>by
  simp only [CV.den] at hd⊢;obtain ⟨us,hu,hl⟩:=hd;exact ⟨us,hu,zih h cap us (by simpa only [CV.bnd] using hb) hl⟩
 | .any,u,_,hd=>by simp only [CV.den]
theorem zih {n:Nat} {a b:Env} (h:a.agree n b):∀ (l:List CV) (us:List Value),bndL n l=true→denL a l us→denL b l us
 |[],us,_,hd=>by simpa only [denL] using hd
 |c::cs,us,hb,hd=>by
  simp only [denL] at hd⊢;obtain ⟨u,l,hu,hc,hl⟩:=hd;simp only [bndL] at hb
  split at hb
  ·rename_i h1;exact ⟨u,l,hu,CV.den_agree h c u h1 hc,zih h cs l hb hl⟩
  ·cases hb
end
theorem Pc.den_agree {n:Nat} {a b:Env} (h:a.agree n b):∀ (c:Pc) (u:Value),c.bnd n=true→c.den a u→c.den b u
 | .c x,u,hb,hd=>CV.den_agree h x u hb hd
 | .agg l,u,hb,hd=>by obtain ⟨us,hu,hl⟩:=hd;exact ⟨us,hu,zih h l us hb hl⟩
theorem zye {n:Nat} {a b:Env} (h:a.agree n b):∀ (l:List Pc) (us:List Value),zx9 n l=true→zyd a l us→zyd b l us
 |[],us,_,hd=>hd
 |c::cs,us,hb,hd=>by
  obtain ⟨u,l,hu,hc,hl⟩:=hd;simp only [zx9] at hb
  split at hb
  ·rename_i h1;exact ⟨u,l,hu,Pc.den_agree h c u h1 hc,zye h cs l hb hl⟩
  ·cases hb
theorem AV.den_agree {n:Nat} {a b:Env} (h:a.agree n b):∀ (c:AV) (u:Value),c.bnd n=true→c.den a u→c.den b u
 | .p x,u,hb,hd=>Pc.den_agree h x u hb hd
 | .tup l,u,hb,hd=>by obtain ⟨us,hu,hl⟩:=hd;exact ⟨us,hu,zye h l us hb hl⟩
theorem Fr.bnd_get {n:Nat}:∀ {f:Fr} (k:Nat),f.bnd n=true→(f.get k).bnd n=true
 |[],k,_=>rfl
 |(d,x)::f,k,h=>by
  simp only [Fr.bnd] at h
  split at h
  ·rename_i h1
   simp only [Fr.get]
   split
   ·exact h1
   ·exact Fr.bnd_get k h
  ·cases h
theorem FDen.agree {n:Nat} {a b:Env} {f:Fr} {x:Act} (h:FDen a f x) (hab:a.agree n b) (hb:f.bnd n=true):FDen b f x:=
 fun k=>AV.den_agree hab _ _ (Fr.bnd_get k hb) (h k)
mutual
def CV.names (i:Nat):CV→Bool
 | .ref j _=>Nat.beq i j
 | .vref j _=>Nat.beq i j
 | .row j=>Nat.beq i j
 | .sl j _ _ _=>Nat.beq i j
 | .mp j=>Nat.beq i j
 | .clo _ cap=>zuz i cap
 |_=>false
def zuz (i:Nat):List CV→Bool
 |[]=>false
 |c::l=>match c.names i with|true=>true|false=>zuz i l
end
abbrev But (i:Nat) (a b:Env):Prop:=∀ j,j≠i→a.blk j=b.blk j∧a.val j=b.val j
mutual
theorem CV.den_but {i:Nat} {a b:Env} (h:But i a b):∀ (c:CV) (u:Value),c.names i=false→c.den a u→c.den b u
 | .v x,u,_,hd=>by simpa only [CV.den] using hd
 | .ref j off,u,hb,hd=>by
  have hj:j≠i:=fun e=>by subst e;simp [CV.names] at hb
  simp only [CV.den] at hd⊢;obtain ⟨x,hx,hu⟩:=hd;exact ⟨x,by rw [← (h j hj).1];exact hx,hu⟩
 | .vref j off,u,hb,hd=>by
  have hj:j≠i:=fun e=>by subst e;simp [CV.names] at hb
  simp only [CV.den] at hd⊢;obtain ⟨x,o,m,c,hx,hu⟩:=hd;exact ⟨x,o,m,c,by rw [← (h j hj).2];exact hx,hu⟩
 | .row j,u,hb,hd=>by
  have hj:j≠i:=fun e=>by subst e;simp [CV.names] at hb
  simp only [CV.den] at hd⊢;rw [← (h j hj).2];exact hd
 | .sl j off m c,u,hb,hd=>by
  have hj:j≠i:=fun e=>by subst e;simp [CV.names] at hb
  simp only [CV.den] at hd⊢;obtain ⟨x,hx,hu⟩:=hd;exact ⟨x,by rw [← (h j hj).1];exact hx,hu⟩
 | .mp j,u,hb,hd=>by
  have hj:j≠i:=fun e=>by subst e;simp [CV.names] at hb
  simp only [CV.den] at hd⊢;obtain ⟨x,hx,hu⟩:=hd;exact ⟨x,by rw [← (h j hj).1];exact hx,hu⟩
 | .clo f cap,u,hb,hd=>by
  simp only [CV.den] at hd⊢;obtain ⟨us,hu,hl⟩:=hd;exact ⟨us,hu,zik h cap us (by simpa only [CV.names] using hb) hl⟩
 | .any,u,_,hd=>by simp only [CV.den]
theorem zik {i:Nat} {a b:Env} (h:But i a b):∀ (l:List CV) (us:List Value),zuz i l=false→denL a l us→denL b l us
 |[],us,_,hd=>by simpa only [denL] using hd
 |c::cs,us,hb,hd=>by
  simp only [denL] at hd⊢;obtain ⟨u,l,hu,hc,hl⟩:=hd;simp only [zuz] at hb
  split at hb
  ·cases hb
  ·rename_i h1;exact ⟨u,l,hu,CV.den_but h c u h1 hc,zik h cs l hb hl⟩
end
def CV.kill (i:Nat) (c:CV):CV:=match c.names i with|true=> .any|false=>c
theorem CV.kill_den {i:Nat} {a b:Env} (h:But i a b) {c:CV} {u:Value} (hd:c.den a u):(c.kill i).den b u:=by
 unfold CV.kill
 split
 ·simp only [CV.den]
 ·rename_i hn;exact CV.den_but h c u hn hd
def zsp (i:Nat):List CV→List CV
 |[]=>[]
 |c::l=>c.kill i::zsp i l
theorem zsq {i:Nat} {a b:Env} (h:But i a b):∀ {l:List CV} {us:List Value},denL a l us→denL b (zsp i l) us
 |[],us,hd=>by simpa only [zsp,denL] using hd
 |c::l,us,hd=>by
  simp only [zsp,denL] at hd⊢;obtain ⟨u,m,hu,hc,hl⟩:=hd;exact ⟨u,m,hu,CV.kill_den h hc,zsq h hl⟩
def Pc.kill (i:Nat):Pc→Pc
 | .c x=> .c (x.kill i)
 | .agg l=> .agg (zsp i l)
theorem Pc.kill_den {i:Nat} {a b:Env} (h:But i a b) {c:Pc} {u:Value} (hd:c.den a u):(c.kill i).den b u:=by
 cases c with
 |c x=>exact CV.kill_den (c:=x) h hd
 |agg l=>obtain ⟨us,hu,hl⟩:=hd;exact ⟨us,hu,zsq h hl⟩
def zym (i:Nat):List Pc→List Pc
 |[]=>[]
 |c::l=>c.kill i::zym i l
theorem zyn {i:Nat} {a b:Env} (h:But i a b):∀ {l:List Pc} {us:List Value},zyd a l us→zyd b (zym i l) us
 |[],us,hd=>hd
 |c::l,us,hd=>by obtain ⟨u,m,hu,hc,hl⟩:=hd;exact ⟨u,m,hu,Pc.kill_den h hc,zyn h hl⟩
def AV.kill (i:Nat):AV→AV
 | .p x=> .p (x.kill i)
 | .tup l=> .tup (zym i l)
theorem AV.kill_den {i:Nat} {a b:Env} (h:But i a b) {c:AV} {u:Value} (hd:c.den a u):(c.kill i).den b u:=by
 cases c with
 |p x=>exact Pc.kill_den (c:=x) h hd
 |tup l=>obtain ⟨us,hu,hl⟩:=hd;exact ⟨us,hu,zyn h hl⟩
def Fr.kill (i:Nat):Fr→Fr
 |[]=>[]
 |(d,x)::f=>(d,x.kill i)::Fr.kill i f
theorem Fr.kill_get {i:Nat}:∀ (f:Fr) (k:Nat),(Fr.kill i f).get k=(f.get k).kill i
 |[],k=>rfl
 |(d,x)::f,k=>by simp only [Fr.kill,Fr.get];split<;>first|rfl|exact Fr.kill_get f k
theorem FDen.kill {i:Nat} {a b:Env} {f:Fr} {x:Act} (hd:FDen a f x) (h:But i a b):FDen b (Fr.kill i f) x:=fun k=>by
 rw [Fr.kill_get];exact AV.kill_den h (hd k)
def Ow.kill (i:Nat):Ow→Ow
 | .cells t l=> .cells t (zsp i l)
 |o=>o
def zsr (i:Nat):List Ow→List Ow
 |[]=>[]
 |o::S=>o.kill i::zsr i S
theorem zss {i:Nat}:∀ (S:List Ow) (k:Nat),(zsr i S)[k]?=(S[k]?).map (Ow.kill i)
 |[],k=>by simp [zsr]
 |o::S,0=>by simp [zsr]
 |o::S,k+1=>by simp [zsr,zss S k]
theorem zst {i:Nat}:∀ S:List Ow,(zsr i S).length=S.length
 |[]=>rfl
 |o::S=>by simp [zsr,zst S]
def Env.set (r:Env) (i:Nat) (b:Option Nat) (v:Option Value):Env:=⟨fun j=>if j=i then b else r.blk j,fun j=>if j=i then v else r.val j⟩
section
variable {w0:World} {G:Gs} {S:List Ow} {r:Env} {w:World}
theorem Rel.le_new (h:Rel w0 G S r w) (b:Option Nat) (v:Option Value):r.le (r.set S.length b v):=by
 refine ⟨fun i x hx=>?_,fun i x hx=>?_⟩
 ·simp only [Env.set];rw [if_neg]
  ·exact hx
  ·rintro rfl;rw [h.outB _ (Nat.le_refl _)] at hx;cases hx
 ·simp only [Env.set];rw [if_neg]
  ·exact hx
  ·rintro rfl;rw [h.outV _ (Nat.le_refl _)] at hx;cases hx
theorem zot {α:Type} {l:List α} {x y:α} {i:Nat} (h:(l++[x])[i]?=some y):(i<l.length∧l[i]?=some y)∨(i=l.length∧x=y):=by
 rw [List.getElem?_append] at h
 split at h
 ·exact .inl ⟨by assumption,h⟩
 ·rename_i hi
  have:i-l.length=0:=by
   rcases Nat.eq_zero_or_pos (i-l.length) with h1|h1
   ·exact h1
   ·rw [List.getElem?_eq_none zV] at h;cases h
  rw [this] at h;simp at h;exact .inr ⟨by omega,h⟩
theorem Rel.snoc (h:Rel w0 G S r w) {w':World} (hb:Below w.heap.size w w') {o:Ow} {b:Option Nat} {v:Option Value} (hnb:∀ x,b=some x→w.heap.size≤x∧x<w'.heap.size) (ho:o.holds (r.set S.length b v) w' S.length):
  Rel w0 G (S++[o]) (r.set S.length b v) w':=by
 have h':=h.below hb;have hle:=h.le_new b v;refine ⟨h'.os,h'.tape,h'.output,h'.size,h'.old,fun i o' hi=>?_,fun i j x hx hy=>?_,fun i x hx=>?_,fun i hi=>?_,fun i hi=>?_,fun i g hg=>hle.blk _ _ (h.first i g hg)⟩
 ·rcases zot hi with ⟨h1,h2⟩|⟨h1,h2⟩
  ·refine Ow.holds_block (Ow.holds_mono hle (h.own i o' h2) (by simp only [Env.set];rw [if_neg zO]) (fun k x hk=>?_)) (fun x hx=>hb.block x ?_) hb.size (fun x hx _=>hb.block x hx)
   ·simp only [Env.set] at hk
    split at hk
    ·exact .inr (hnb x hk).1
    ·exact .inl hk
   ·simp only [Env.set] at hx
    rw [if_neg zO] at hx;exact (h.new i x hx).1
  ·subst h1;subst h2;exact ho
 ·simp only [Env.set] at hx hy
  split at hx<;>split at hy
  ·omega
  ·have h1:=(hnb x hx).1
   have h2:=(h.new _ _ hy).1;omega
  ·have h1:=(hnb x hy).1
   have h2:=(h.new _ _ hx).1;omega
  ·exact h.inj _ _ _ hx hy
 ·simp only [Env.set] at hx
  split at hx
  ·refine ⟨(hnb x hx).2,fun hlt=>?_⟩
   have:=(hnb x hx).1;have:=h.size;omega
  ·exact h'.new i x hx
 ·simp only [Env.set];rw [if_neg (by simp at hi;omega)];exact h.outB i (by simp at hi;omega)
 ·simp only [Env.set];rw [if_neg (by simp at hi;omega)];exact h.outV i (by simp at hi;omega)
theorem Rel.setBlock (h:Rel w0 G S r w) {i b:Nat} (hi:r.blk i=some b) {w':World} (hg:w.grownBy w' (some b)) {o:Ow} (ho:o.holds r w' i) (hil:i<S.length):Rel w0 G (S.set i o) r w':=by
 refine ⟨hg.os.trans h.os,hg.tape.trans h.tape,hg.output.trans h.output,Nat.le_trans h.size hg.size,fun k hk hkG=>?_,fun j o' hj=>?_,h.inj,fun j x hx=>⟨Nat.lt_of_lt_of_le (h.new j x hx).1 hg.size,(h.new j x hx).2⟩,
  fun j hj=>h.outB j (by simpa using hj),fun j hj=>h.outV j (by simpa using hj),h.first⟩
 ·rw [hg.block k (Nat.lt_of_lt_of_le hk h.size) (fun e=>by injection e with e;subst e;exact hkG ((h.new i k hi).2 hk))]
  exact h.old k hk hkG
 ·by_cases hij:i=j
  ·subst hij
   rw [List.getElem?_set_self hil] at hj;injection hj with hj;subst hj;exact ho
  ·rw [List.getElem?_set_ne hij] at hj
   exact Ow.holds_block (h.own j o' hj) (fun x hx=>hg.block x (h.new j x hx).1 (fun e=>by injection e with e;subst e;exact hij (h.inj i j _ hi hx))) hg.size (fun x hx hno=>hg.block x hx (fun e=>by injection e with e;subst e;exact hno i hi))
end
end Go.Proofs.YtocafomnnkmjfaaGreat
