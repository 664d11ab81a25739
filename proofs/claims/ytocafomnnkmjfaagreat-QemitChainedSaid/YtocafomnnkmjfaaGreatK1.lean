import Derived.Test.YtocafomnnkmjfaaGreatRows
import Derived.WalkKit
import Derived.WalkSpells
import Derived.WalkLawsBesides
import Derived.BigQuiet
import Derived.BigGuardPart
import Derived.Deep.QuietTactic
import Derived.Deep.Draws
import Derived.StillTailTactics
import Derived.Lib.Hide
import Derived.Maps.AppendAt
import Derived.Deep.AppendLies
import Derived.Maps.OwnSet
import Derived.Maps.RangeWalk
set_option maxRecDepth 100000
set_option maxHeartbeats 400000
namespace Go.Proofs.YtocafomnnkmjfaaGreat
theorem Ttb0 {a:Prop} (h:a:=by repeat (first|exact Below.refl _ _|assumption|(with_reducible refine Below.drew ?_)|(with_reducible refine zdh ?_ _)|(with_reducible refine Below.alloc ?_ (by first|exact Nat.le_refl _|assumption|(simp;done)|(simp;omega)|omega) _)|(with_reducible refine Below.setCell ?_ (by first|exact Nat.le_refl _|assumption|(simp;done)|(simp;omega)|omega) _)|(with_reducible refine zdg ?_ (by assumption) (by first|exact Nat.le_refl _|assumption|(simp;done)|(simp;omega)|omega))|(with_reducible refine zdk ?_ (by assumption) (by first|exact Nat.le_refl _|assumption|(simp;done)|(simp;omega)|omega) (by first|exact Nat.le_refl _|assumption|(simp;done)|(simp;omega)|omega)))):a:=h
theorem Ttb1 {a:Prop} (h:a:=by first|exact Nat.le_refl _|assumption|(simp;done)|(simp;omega)|omega):a:=h
theorem Ttb2 {a:Prop} (h:a:=by first|omega|(simp;done)|(simp;omega)):a:=h
theorem Ttb3 {a:Prop} (h:a:=by first|exact ⟨_,rfl,trivial⟩|exact ⟨_,rfl,rfl,rfl,rfl,rfl⟩):a:=h
theorem Ttb4 {a:Prop} (h:a:=by first|exact trivial|exact ⟨rfl,rfl,rfl,rfl⟩|exact ⟨rfl,rfl,by simp,by simp⟩):a:=h
theorem Ttb5 {a:Prop} (h:a:=by first|exact trivial|exact ⟨rfl,rfl,rfl,rfl⟩|exact ⟨rfl,Or.inl rfl⟩):a:=h
theorem Ttb6 {a:Prop} (h:a:=by trivial):a:=h
theorem Tm {a:Prop} (h:a:=by ((repeat (refine aI (by trivial) ?_));trivial)):a:=h
theorem aI {a b:Prop} (x:a) (y:b):a∧b:=⟨x,y⟩
theorem sM {α:Sort _} {β:Sort _} {a:α} {b:β} {p:Prop}:a=a∧(b=b∨p):=⟨rfl,Or.inl rfl⟩
theorem nT {p:Prop} (h:true=false):p:=Bool.noConfusion h
theorem nF {p:Prop} (h:false=true):p:=Bool.noConfusion h
theorem kq1 {a b:Prop} (x:a):(true=true→a)∧(true=false→b):=⟨fun _=>x,nT⟩
theorem kq2 {a b:Prop} (x:b):(false=true→a)∧(false=false→b):=⟨nF,fun _=>x⟩
theorem kq3 {a b:Prop} (x:a):(false=false→a)∧(false=true→b):=⟨fun _=>x,nF⟩
theorem kq4 {a b:Prop} (x:b):(true=false→a)∧(true=true→b):=⟨nT,fun _=>x⟩
theorem kq5 {a b p q:Prop} (h:¬q) (x:a):(p→a)∧(q→b):=⟨fun _=>x,fun y=>absurd y h⟩
theorem kq6 {a b p q:Prop} (h:¬p) (x:b):(p→a)∧(q→b):=⟨fun y=>absurd y h,fun _=>x⟩
theorem Tn {a:Prop} (h:a:=by ((repeat (first|refine aI rfl ?_|refine aI sM ?_));trivial)):a:=h
theorem kA {p q:Prop} (x:q) (h:q→p:=by (intro h;(repeat ((first|apply kq1|apply kq2|apply kq3|apply kq4|refine kq5 (by decide) ?_|refine kq6 (by decide) ?_);conv=>whnf));exact h)):p:=h x
theorem zO {a:Prop} (h:a:=by omega):a:=h
theorem zK {a:Prop} (h:a:=by kernel_rfl):a:=h
theorem zS {a:Prop} (h:a:=by simp):a:=h
theorem zU {a:Prop} (h:a:=by dsimp only;omega):a:=h
theorem zV {a:Prop} (h:a:=by simp;omega):a:=h
theorem kB {p q:Prop} (x:q) (h:q→p:=by (intro h;(conv=>whnf);(repeat ((first|apply kq1|apply kq2|apply kq3|apply kq4|refine kq5 (by decide) ?_|refine kq6 (by decide) ?_);conv=>whnf));exact h)):p:=h x
structure BOp where
 code:Int
 d:Int
 a:Int
 b:Int
 n:Int
structure Blk where
 at_:List Int
 pages:List Int
 ops:List BOp
instance:DecidableEq BOp:=fun x y=>
 if h:x.code=y.code∧x.d=y.d∧x.a=y.a∧x.b=y.b∧x.n=y.n then
  isTrue (by cases x;cases y;simp_all)
 else isFalse (by rintro rfl;exact h ⟨rfl,rfl,rfl,rfl,rfl⟩)
instance:Inhabited BOp:=⟨⟨0,0,0,0,0⟩⟩
instance:Inhabited Blk:=⟨⟨[],[],[]⟩⟩
def zrf (c:Int):Bool:=decide (3≤c∧c≤15)
def isOp (c:Int):Bool:=decide (1≤c∧c≤25)
def hasD (c:Int):Bool:=decide (1≤c∧c≤17)
def hasA (c:Int):Bool:=decide ((2≤c∧c≤19)∨c=21∨c=23∨c=25)
def hasB (c:Int):Bool:=decide ((3≤c∧c≤15)∨c=18∨c=19)
def hasN (c:Int):Bool:=decide (c=1∨(16≤c∧c≤20)∨c=23∨c=24)
def leaves (c:Int):Bool:=decide ((16≤c∧c≤19)∨c=21∨c=22)
def stores (c:Int):Bool:=decide (c=18∨c=19)
def zju (c:Int):Bool:=decide (c=24∨c=25∨c=22)
def writes (o:BOp):Int:=if hasD o.code then o.d else-1
def reads (o:BOp):List Int:=(if hasA o.code then [o.a] else [])++(if hasB o.code&& !(o.b==o.a) then [o.b] else [])
def zl3 (has:Bool) (v:Int):Bool:=if has then decide (0≤v∧v<28∧v≠19) else decide (v=0)
def mid (x:Int):Prop:= -1099511627776≤x∧x≤1099511627776
def word (x:Int):Prop:=0≤x∧x<4294967296
structure BOp.ok (o:BOp):Prop where
 code:mid o.code
 d:mid o.d
 a:mid o.a
 b:mid o.b
 n:word o.n
structure Blk.ok (b:Blk):Prop where
 at_:∀ x∈b.at_,word x
 pages:∀ x∈b.pages,mid x
 ops:∀ o∈b.ops,o.ok
 lat:b.at_.length≤1000000
 lpages:b.pages.length≤1000000
 lops:b.ops.length≤1000000
def pureB (o:BOp):Bool:=decide (0≤writes o)&& !leaves o.code
def twoB (c:Int):Bool:=zrf c||c==18||c==19
def zv1 (o:BOp):Bool:=leaves o.code||o.code==23||o.code==24||o.code==25
def z5e (n:Int):Int:=if 2147483648≤n then n-4294967296 else n
def z5x (c:Int):Int:=if c==17||c==19 then 1 else 4
def memI (v:Int) (l:List Int):Bool:=l.any fun x=>x==v
def andI (a b:Int):Int:=((a.toNat &&& b.toNat:Nat):Int)
def orI (a b:Int):Int:=((a.toNat|||b.toNat:Nat):Int)
def xorI (a b:Int):Int:=((a.toNat ^^^ b.toNat:Nat):Int)
def bitI (x:Bool):Int:=if x then 1 else 0
def yaq (c a b:Int):Int:=
 if c=3 then (a+b)%4294967296
 else if c=4 then (a-b)%4294967296
 else if c=5 then andI a b
 else if c=6 then orI a b
 else if c=7 then xorI a b
 else if c=8 then a*2^(b%32).toNat%4294967296
 else if c=9 then a/2^(b%32).toNat
 else if c=10 then z5e a/2^(b%32).toNat%4294967296
 else if c=11 then a*b%4294967296
 else if c=12 then (if b=0 then 0 else a/b)
 else if c=13 then bitI (decide (a=b))
 else if c=14 then bitI (decide (a<b))
 else if c=15 then bitI (decide (z5e a<z5e b))
 else 0
def zx6:Option Int→List Int→Bool
 |_,[]=>true
 |q,p::l=>decide (0≤p∧p<4096)&&(match q with|none=>true|some q=>decide (q<p))&&zx6 (some p) l
def zpu (b:Blk):Bool:=
 zx6 none b.pages&&decide (1≤b.at_.length∧b.at_.length≤64)&&decide (1≤b.ops.length∧b.ops.length≤2000)&&(match b.ops with|[]=>false|o::_=>o.code==20)
structure Ck where
 marks:Nat
 written:Nat
 changed:Bool
def znt (o:BOp):Bool:=isOp o.code&&zl3 (hasD o.code) o.d&&zl3 (hasA o.code) o.a&&zl3 (hasB o.code) o.b&&(hasN o.code||o.n==0)
def zyp (s:Ck) (o:BOp) (last exit:Bool):Bool:=(zju o.code==last)&& !(o.code==23&& !exit)&& !(leaves o.code&&s.changed)
def z0u (s:Ck) (v:Int):Bool:=decide (v<20)||s.written.testBit v.toNat
def zf3 (s:Ck) (o:BOp) (last exit:Bool):Option Ck:=
 if znt o&&zyp s o last exit then
  if o.code==20 then (if o.n==(s.marks:Int) then some ⟨s.marks+1,0,false⟩ else none)
  else if (reads o).all (z0u s) then
   some ⟨s.marks,if 20≤writes o then s.written|||2^(writes o).toNat else s.written,s.changed||(stores o.code||decide (0≤writes o∧writes o<20))⟩
  else none
 else none
def zga:Ck→List BOp→Option Ck
 |s,[]=>some s
 |s,o::l=>match zf3 s o l.isEmpty (match l with|[]=>false|p::_=>p.code==24) with
  |some s'=>zga s' l
  |none=>none
def z9g (b:Blk):Bool:=zpu b&&(match zga ⟨0,0,false⟩ b.ops with|some s=>s.marks==b.at_.length|none=>false)
open Go.RowKit
def SlAt (w:World) (B:Nat) (A:Option Addr) (xs:List Value):Prop:=
 ∀ j u,xs[j]?=some u→∃ b off,A=some ⟨b,off,none⟩∧b<B∧w.cell? ⟨b,off+j,none⟩=some u
section
variable {w w':World} {B B':Nat} {A:Option Addr} {xs:List Value}
theorem SlAt.nil:SlAt w B A []:=fun j u h=>by simp at h
theorem SlAt.open_ (h:SlAt w B A xs) (hx:0<xs.length):∃ b off,A=some ⟨b,off,none⟩∧b<B∧∀ j u,xs[j]?=some u→w.cell? ⟨b,off+j,none⟩=some u:=by
 obtain ⟨b,off,hA,hb,_⟩:=h 0 xs[0] (List.getElem?_eq_getElem hx);refine ⟨b,off,hA,hb,fun j u hj=>?_⟩;obtain ⟨b',off',hA',_,hc⟩:=h j u hj;rw [hA] at hA';injection hA' with hA';injection hA' with h1 h2;subst h1;subst h2;exact hc
theorem SlAt.mk_ {b off:Nat} (hb:b<B) (h:∀ j u,xs[j]?=some u→w.cell? ⟨b,off+j,none⟩=some u):SlAt w B (some ⟨b,off,none⟩) xs:=
 fun j u hj=>⟨b,off,rfl,hb,h j u hj⟩
theorem SlAt.keep (h:SlAt w B A xs) (hk:∀ p:Addr,p.block<B→w'.cell? p=w.cell? p):SlAt w' B A xs:=fun j u hj=>by
 obtain ⟨b,off,hA,hb,hc⟩:=h j u hj;exact ⟨b,off,hA,hb,(hk _ hb).trans hc⟩
theorem SlAt.more (h:SlAt w B A xs) (hB:B≤B'):SlAt w B' A xs:=fun j u hj=>by
 obtain ⟨b,off,hA,hb,hc⟩:=h j u hj;exact ⟨b,off,hA,by omega,hc⟩
theorem SlAt.below {B1:Nat} (h:SlAt w B A xs) (hb:Below B1 w w') (hB:B≤B1):SlAt w' B A xs:=h.keep fun _ hp=>hb.cell zO
theorem SlAt.drew (h:SlAt w B A xs):SlAt w.drew B A xs:=h
theorem SlAt.drewN (h:SlAt w B A xs) (k:Nat):SlAt (w.drewN k) B A xs:=h
theorem SlAt.alloc (h:SlAt w B A xs) (hB:B≤w.heap.size) (o:Obj):SlAt (w.alloc o) B A xs:=h.keep fun p hp=>World.cell?_alloc_lt w o p zO
theorem SlAt.setCell (h:SlAt w B A xs) {p:Addr} (hB:B≤p.block) (u:Value):SlAt (w.setCell p u) B A xs:=
 h.keep fun q hq=>World.cell?_setCell_other w p q u (fun e=>by subst e;omega)
theorem SlAt.of_own {base:Nat} {e:TypeId} {n c size:Nat} (h:w.ownsRow base e size (.slice A n c) n xs):SlAt w w.heap.size A xs:=by
 intro j u hj;rcases h.2 with ⟨h0,hx⟩|⟨g,cap,cur,hv,_,hh,_⟩
 ·have hl:=h.1
  rw [hx,Nat.zero_mul] at hl;rw [List.eq_nil_of_length_eq_zero hl] at hj;simp at hj
 ·have hA:A=some ⟨g,0,none⟩:=by injection hv
  subst hA
  have hlt:g<w.heap.size:=by
   rcases Nat.lt_or_ge g w.heap.size with h1|h1
   ·exact h1
   ·rw [Array.getElem?_eq_none h1] at hh;cases hh
  have:=h.cells (g:=g) rfl j u hj;refine ⟨g,0,rfl,hlt,?_⟩;unfold Addr.add at this;by_cases h0:j=0
  ·subst h0;simpa using this
  ·simpa [h0] using this
end
theorem zxz {w:World} {base:Nat} {e:TypeId} {size n:Nat} {v:Value} {xs:List Value} (h:w.ownsRow base e size v n xs):
  ∃ A c,v= .slice A n c∧SlAt w w.heap.size A xs∧n≤c∧c≤maxLen∧xs.length=n*size:=by
 have hl:=h.1;rcases h.2 with ⟨h0,hn⟩|⟨g,cap,cur,hv,hg,hh,hnc,hcm,r⟩
 ·subst hn
  refine ⟨none,0,h0,?_,Nat.le_refl _,by simp [maxLen],hl⟩;rw [Nat.zero_mul] at hl;rw [List.eq_nil_of_length_eq_zero hl];exact SlAt.nil
 ·subst hv
  exact ⟨_,_,rfl,SlAt.of_own h,hnc,hcm,hl⟩
theorem zxv {w:World} {base base':Nat} {e:TypeId} {size n:Nat} {v:Value} {xs:List Value} (h:w.ownsRow base e size v n xs) (hb:base'≤base):w.ownsRow base' e size v n xs:=by
 obtain ⟨h1,h2⟩:=h;rcases h2 with h2|⟨g,cap,cur,hv,hg,r⟩
 ·exact ⟨h1,.inl h2⟩
 ·exact ⟨h1,.inr ⟨g,cap,cur,hv,Nat.le_trans hb hg,r⟩⟩
theorem zxx {w:World} {base base':Nat} {e:TypeId} {size n n':Nat} {v:Value} {xs xs':List Value} (h:w.ownsRow base e size v n xs) (hb:base'≤base) (hn:n=n') (hx:xs=xs'):w.ownsRow base' e size v n' xs':=by
 subst hn;subst hx;exact zxv h hb
theorem zoy {w w':World} {base:Nat} {e:TypeId} {size n:Nat} {v:Value} {xs:List Value} (hown:w.ownsRow base e size v n xs) (hg:w.grownBy w' v.ownBlock) (hbase:base≤w.heap.size):Below base w w':=
 (Below.refl _ _).grown hg hbase fun k hk=>(hown.lt k hk).1
theorem ya5 {P:Program} {W:World} {ops:Array Oper} {rest:List Oper} {o:Oper} {a:Act} {Q:Exit→Act→World→Prop} (hgd:o.guard=none) (s x:Operand) (t:TypeId)
  (ho:o.op= .call {callee:= .builtin .append,args:= #[s,x],argTypes:= #[t,t]})
  (base:Nat) (e:TypeId) (z:Value) (size bytes:Nat) (ht:P.underlying t=some (.slice e)) (hi:(P.info? e).map (fun i=>(i.zero,i.size,i.bytes))=some (some z,size,bytes))
  (hzs:z.cells.size=size) (hsz:0<size)
  (v:Value) (n:Nat) (xs:List Value) (hs:a.eval s=v) (hown:W.ownsRow base e size v n xs)
  (cs:Array Value) (te:TypeId) (m N:Nat) (hx:a.eval x= .slice (some ⟨N,0,none⟩) m m) (hN:W.heap.size=N) (hl:cs.size=m*size) (h1:∀ u∈cs.toList,u.oneCell'=true)
  (h63:n+m≤1000000000) (hb:bytes≤100000) (hbase:base≤N)
  (h:∀ v' w',w'.ownsRow base e size v' (n+m) (xs++cs.toList)→Below base W w'→N<w'.heap.size→wpList P ops Q rest (a.put o.dst v') w'):
  wpList P ops Q (o::rest) a (W.alloc (.cells cs te)):=by
 subst hN;obtain ⟨i,hi,hz,hz1,hz2⟩:=info_parts hi;have hm:(n+m)*bytes≤1000000000*100000:=Nat.mul_le_mul h63 hb
 refine wpList_append_own_at (W.alloc (.cells cs te)) hgd s x t ho base e i z size bytes ht hi hz hz1 hz2 hzs hsz v n xs hs (hown.alloc _) ⟨W.heap.size,0,none⟩ m m cs.toList hx (by simpa using hl)
  (World.news_of_block (heap_alloc_new W _)) h1 (by unfold maxLen;omega) zO zV ?_
 intro v' w' hown' hg _ _;have hb':Below base W w':=((Below.refl _ _).alloc hbase _).trans (zoy (hown.alloc _) hg zV);refine h v' w' hown' hb' ?_;have:=hg.size;simp at this;omega
theorem bcell {W w1:World} (hb:Below W.heap.size W w1):(∀ b o,b<W.heap.size→w1.cell? ⟨b,o,none⟩=W.cell? ⟨b,o,none⟩)∧(∀ b o,b<W.heap.size→w1.frozen? ⟨b,o,none⟩=W.frozen? ⟨b,o,none⟩):=
 ⟨fun b o h=>hb.cell (p:=⟨b,o,none⟩) h,fun b o h=>hb.frozen (p:=⟨b,o,none⟩) h⟩
theorem zdh {B:Nat} {a w:World} (h:Below B a w) (n:Nat):Below B a (w.drewN n):=⟨h.os,h.tape,h.output,h.size,h.block⟩
theorem zdg {B B1:Nat} {w W w1:World} (h:Below B w W) (hb:Below B1 W w1) (hB:B≤B1):Below B w w1:=h.trans (hb.mono hB)
theorem zde {B:Nat} {W w1:World} (hb:Below B W w1):(∀ b o,b<B→w1.cell? ⟨b,o,none⟩=W.cell? ⟨b,o,none⟩)∧(∀ b o,b<B→w1.frozen? ⟨b,o,none⟩=W.frozen? ⟨b,o,none⟩):=
 ⟨fun b o h=>hb.cell (p:=⟨b,o,none⟩) h,fun b o h=>hb.frozen (p:=⟨b,o,none⟩) h⟩
theorem zwm {a w:World} {g:Nat} (h:a.grownBy w (some g)) {p:Addr} (hp:p.block=g∨a.heap.size≤p.block) (u:Value):a.grownBy (w.setCell p u) (some g):=
 ⟨h.os,h.tape,h.output,by simpa [World.setCell] using h.size,fun i hi hne=>(Below.heap_setCell w p u i (by
  rintro rfl;rcases hp with hp|hp
  ·exact hne (by rw [hp])
  ·omega)).trans (h.block i hi hne)⟩
section
variable {w w':World} {g:Nat} {t:TypeId} {cs:Array Value}
def RowIs (w:World) (g:Nat) (t:TypeId) (cs:Array Value):Prop:=w.heap[g]?=some (.cells cs t (0,0))
theorem RowIs.lt (h:RowIs w g t cs):g<w.heap.size:=by
 rcases Nat.lt_or_ge g w.heap.size with hlt|hge
 ·exact hlt
 ·unfold RowIs at h;rw [Array.getElem?_eq_none hge] at h;cases h
theorem RowIs.cell (h:RowIs w g t cs) (i:Nat):w.cell? ⟨g,i,none⟩=cs[i]?:=cell_of_row w g i cs t (0,0) h
theorem RowIs.frozen (h:RowIs w g t cs) (i:Nat):w.frozen? ⟨g,i,none⟩=false:=by
 unfold RowIs at h;simp [World.frozen?,h]
theorem RowIs.new (w:World) (t:TypeId) (cs:Array Value):RowIs (w.alloc (.cells cs t)) w.heap.size t cs:=heap_alloc_new w _
theorem RowIs.drew (h:RowIs w g t cs):RowIs w.drew g t cs:=h
theorem RowIs.drewN (h:RowIs w g t cs) (n:Nat):RowIs (w.drewN n) g t cs:=h
theorem RowIs.alloc (h:RowIs w g t cs) (o:Obj):RowIs (w.alloc o) g t cs:=(Below.heap_alloc w o g h.lt).trans h
theorem RowIs.far (h:RowIs w g t cs) {p:Addr} (hp:g≠p.block) (u:Value):RowIs (w.setCell p u) g t cs:=(Below.heap_setCell w p u g hp).trans h
theorem RowIs.below {B:Nat} (h:RowIs w g t cs) (hb:Below B w w') (hg:g<B):RowIs w' g t cs:=(hb.block g hg).trans h
end
def Has (w:World) (g:Nat) (cs:List Value):Prop:=∀ i u,cs[i]?=some u→w.cell? ⟨g,i,none⟩=some u∧w.frozen? ⟨g,i,none⟩=false
theorem Has.at_ {w:World} {g:Nat} {cs:List Value} (h:Has w g cs) (i:Nat) (u:Value) (hu:cs[i]?=some u):w.cell? ⟨g,i,none⟩=some u∧w.frozen? ⟨g,i,none⟩=false:=h i u hu
theorem Has.below {w w':World} {g B:Nat} {cs:List Value} (h:Has w g cs) (hb:Below B w w') (hg:g<B):Has w' g cs:=fun i u hu=>
 ⟨(hb.cell (p:=⟨g,i,none⟩) hg).trans (h i u hu).1,(hb.frozen (p:=⟨g,i,none⟩) hg).trans (h i u hu).2⟩
theorem Has.lt {w:World} {g:Nat} {a:Value} {cs:List Value} (h:Has w g (a::cs)):g<w.heap.size:=by
 have:=(h 0 a rfl).1;rcases Nat.lt_or_ge g w.heap.size with hlt|hge
 ·exact hlt
 ·simp [World.cell?,Array.getElem?_eq_none hge] at this
theorem yba {P:Program} {c:Code} {Q:Exit→Act→World→Prop} {a:Act} {w:World}
  (h:∀ W:World,(∀ p,W.cell? p=w.cell? p)→(∀ p,W.frozen? p=w.frozen? p)→W.heap.size=w.heap.size→(∀ B u,Below B u w→Below B u W)→c.wp P Q a W):c.wp P Q a w:=
 h w (fun _=>rfl) (fun _=>rfl) rfl fun _ _ h=>h
theorem z1y {k:IntKind} {a b:Int} (h:a=b):Ending.returned (.int k a)= .returned (.int k b):=by rw [h]
theorem z1x {a b:Bool} (h:a=b):Ending.returned (.bool a)= .returned (.bool b):=by rw [h]
def zll (l:List BOp):Bool:=match l with|[]=>false|p::_=>p.code==24
theorem zlm {l:List BOp} {k:Nat} {p:BOp} (h:l[k]?=some p):zll (l.drop k)=(p.code==24)∧(l.drop k).isEmpty=false:=by
 have hk:k<l.length:=by
  rcases Nat.lt_or_ge k l.length with h1|h1
  ·exact h1
  ·rw [List.getElem?_eq_none h1] at h;cases h
 rw [List.drop_eq_getElem_cons hk];have e:l[k]=p:=(by rw [List.getElem?_eq_getElem hk] at h;injection h);rw [e];exact ⟨rfl,rfl⟩
def z4z (marks:Nat) (o:BOp) (l:List BOp):Option Nat:=
 if znt o&&(zju o.code==l.isEmpty)&& !(o.code==23&& !zll l) then
  (if o.code==20 then (if o.n==(marks:Int) then some (marks+1) else none) else some marks)
 else none
def z4x:Nat→List BOp→Option Nat
 |m,[]=>some m
 |m,o::l=>match z4z m o l with|some m'=>z4x m' l|none=>none
def zmt (l:List BOp):Nat→Int
 |0=>if (l[0]?.map (·.code))=some 20 then 0 else-1
 |k+1=>if (l[k+1]?.map (·.code))=some 20 then ((k+1:Nat):Int) else zmt l k
def seg (l:List BOp) (i:Nat):List BOp:=(l.take i).drop (zmt l i).toNat
def zsv (s:List BOp) (v:Int):Bool:=decide (v<20)||s.any fun p=>writes p==v
def zof (s:List BOp):Bool:=s.all fun p=> !(decide (0≤writes p∧writes p≤18)||p.code==18||p.code==19)
def zxc (l:List BOp) (i:Nat) (o:BOp):Bool:=(reads o).all (zsv (seg l i))&&(!leaves o.code||zof (seg l i))
def zxb (l:List BOp):Bool:=(List.range l.length).all fun i=>match l[i]? with|some o=>zxc l i o|none=>true
def z9k (b:Blk):Bool:=zpu b&&(match z4x 0 b.ops with|some m=>zxb b.ops&&m==b.at_.length|none=>false)
def clrM (m d:Nat):Nat:=m &&& (4294967295-2^d)
def setM (m v:Nat):Nat:=m|||2^v
def z05 (m:Nat) (l:List Int):Nat:=l.foldl (fun m v=>setM m v.toNat) m
def zdf (o:BOp) (m:Nat):Nat:=
 if zv1 o then z05 (if 0≤writes o then clrM m (writes o).toNat else m) (reads o)|||524287 else z05 (if 0≤writes o then clrM m (writes o).toNat else m) (reads o)
def znh (f:Int→Option Int) (o:BOp):BOp×Bool:=
 if o.code==2&&(f o.a).isSome then (⟨1,o.d,0,0,(f o.a).getD 0⟩,true)
 else if zrf o.code&&(f o.a).isSome&&(f o.b).isSome then (⟨1,o.d,0,0,yaq o.code ((f o.a).getD 0) ((f o.b).getD 0)⟩,true)
 else if (f o.b).isSome&&(f o.b).getD 0==0&&memI o.code [3,4,6,7,8,9,10] then (⟨2,o.d,o.a,0,0⟩,true)
 else if o.code==21&&(f o.a).isSome&&(f o.a).getD 0 !=0 then (⟨0,0,0,0,0⟩,false)
 else if o.code==23&&(f o.a).isSome then (⟨24,0,0,0,o.n⟩,(f o.a).getD 0 !=0)
 else if o.code==25&&(f o.a).isSome then (⟨24,0,0,0,(f o.a).getD 0⟩,true)
 else (o,true)
abbrev opV (o:BOp):Value:= .agg #[.int .i64 o.code,.int .i64 o.d,.int .i64 o.a,.int .i64 o.b,.int .u32 o.n]
def opC (o:BOp):List Value:=[.int .i64 o.code,.int .i64 o.d,.int .i64 o.a,.int .i64 o.b,.int .u32 o.n]
theorem zwn (o:BOp):(opC o).length=5:=rfl
theorem zna:∀ l:List BOp,(l.flatMap opC).length=l.length*5
 |[]=>rfl
 |o::l=>by rw [List.flatMap_cons,List.length_append,zna l,zwn,List.length_cons];omega
theorem zm8:∀ (l:List BOp) (k j:Nat) (o:BOp),l[k]?=some o→j<5→(l.flatMap opC)[k*5+j]?=(opC o)[j]?
 |[],k,j,o,h,_=>by simp at h
 |x::l,0,j,o,h,hj=>by
  simp at h;subst h;rw [List.flatMap_cons,List.getElem?_append_left (by rw [zwn];omega)];simp
 |x::l,k+1,j,o,h,hj=>by
  rw [List.flatMap_cons,List.getElem?_append_right (by rw [zwn];omega),zwn,show (k+1)*5+j-5=k*5+j by omega];exact zm8 l k j o (by simpa using h) hj
def OpsAt (w:World) (B:Nat) (A:Option Addr) (l:List BOp):Prop:=SlAt w B A (l.flatMap opC)
theorem OpsAt.open_ {w:World} {B:Nat} {A:Option Addr} {l:List BOp} (h:OpsAt w B A l) (hx:0<l.length):
  ∃ b off,A=some ⟨b,off,none⟩∧b<B∧∀ k o,l[k]?=some o→
   w.cell? ⟨b,off+k*5,none⟩=some (.int .i64 o.code)∧w.cell? ⟨b,off+k*5+1,none⟩=some (.int .i64 o.d)∧w.cell? ⟨b,off+k*5+2,none⟩=some (.int .i64 o.a)∧
   w.cell? ⟨b,off+k*5+3,none⟩=some (.int .i64 o.b)∧w.cell? ⟨b,off+k*5+4,none⟩=some (.int .u32 o.n):=by
 obtain ⟨b,off,hA,hb,hc⟩:=SlAt.open_ h (by rw [zna];omega);refine ⟨b,off,hA,hb,fun k o hk=>?_⟩;have g:=fun j hj=>zm8 l k j o hk hj;refine ⟨?_,?_,?_,?_,?_⟩
 ·have:=hc (k*5+0) _ (g 0 zO);simpa using this
 ·have:=hc (k*5+1) _ (g 1 zO);simpa [Nat.add_assoc] using this
 ·have:=hc (k*5+2) _ (g 2 zO);simpa [Nat.add_assoc] using this
 ·have:=hc (k*5+3) _ (g 3 zO);simpa [Nat.add_assoc] using this
 ·have:=hc (k*5+4) _ (g 4 zO);simpa [Nat.add_assoc] using this
theorem zrc {w:World} {B:Nat} {A:Option Addr} {q:IntKind} {xs:List Int} (h:SlAt w B A (xs.map (.int q))) {k:Nat} (hk:k<xs.length):
  ∃ b off x,A=some ⟨b,off,none⟩∧b<B∧xs[k]?=some x∧w.cell? ⟨b,off+k,none⟩=some (.int q x):=by
 obtain ⟨b,off,hA,hb,hc⟩:=h.open_ (by simpa using Nat.lt_of_le_of_lt (Nat.zero_le _) hk);exact ⟨b,off,xs[k],hA,hb,List.getElem?_eq_getElem hk,hc k _ (by simp [List.getElem?_eq_getElem hk])⟩
theorem zw7 {w:World} {B:Nat} {A:Option Addr} {l:List BOp} (h:OpsAt w B A l) {k:Nat} (hk:k<l.length):
  ∃ b off o,A=some ⟨b,off,none⟩∧b<B∧l[k]?=some o∧
   w.cell? ⟨b,off+k*5,none⟩=some (.int .i64 o.code)∧w.cell? ⟨b,off+k*5+1,none⟩=some (.int .i64 o.d)∧w.cell? ⟨b,off+k*5+2,none⟩=some (.int .i64 o.a)∧
   w.cell? ⟨b,off+k*5+3,none⟩=some (.int .i64 o.b)∧w.cell? ⟨b,off+k*5+4,none⟩=some (.int .u32 o.n):=by
 obtain ⟨b,off,hA,hb,hc⟩:=h.open_ (Nat.lt_of_le_of_lt (Nat.zero_le _) hk);exact ⟨b,off,l[k],hA,hb,List.getElem?_eq_getElem hk,hc k _ (List.getElem?_eq_getElem hk)⟩
def BlkIs (w:World) (B:Nat) (v:Value) (b:Blk):Prop:=
 ∃ A1 c1 A2 c2 A3 c3,v= .agg #[.slice A1 b.at_.length c1,.slice A2 b.pages.length c2,.slice A3 b.ops.length c3]∧
  SlAt w B A1 (b.at_.map (.int .u32))∧SlAt w B A2 (b.pages.map (.int .i64))∧OpsAt w B A3 b.ops∧
  b.at_.length≤c1∧b.pages.length≤c2∧b.ops.length≤c3∧c1≤maxLen∧c2≤maxLen∧c3≤maxLen
theorem BlkIs.keep {w w':World} {B:Nat} {v:Value} {b:Blk} (h:BlkIs w B v b) (hk:∀ p:Addr,p.block<B→w'.cell? p=w.cell? p):BlkIs w' B v b:=by
 obtain ⟨A1,c1,A2,c2,A3,c3,hv,h1,h2,h3,hr⟩:=h;exact ⟨A1,c1,A2,c2,A3,c3,hv,h1.keep hk,h2.keep hk,SlAt.keep h3 hk,hr⟩
theorem BlkIs.more {w:World} {B B':Nat} {v:Value} {b:Blk} (h:BlkIs w B v b) (hB:B≤B'):BlkIs w B' v b:=by
 obtain ⟨A1,c1,A2,c2,A3,c3,hv,h1,h2,h3,hr⟩:=h;exact ⟨A1,c1,A2,c2,A3,c3,hv,h1.more hB,h2.more hB,SlAt.more h3 hB,hr⟩
theorem BlkIs.below {w w':World} {B B1:Nat} {v:Value} {b:Blk} (h:BlkIs w B v b) (hb:Below B1 w w') (hB:B≤B1):BlkIs w' B v b:=h.keep fun _ hp=>hb.cell zO
open Go.Maps (Keyed)
section
variable {ops:Array Oper} {rest:List Oper} {o:Oper} {a:Act} {Q:Exit→Act→World→Prop}
variable {R:Value→Option (DataW Unit×List MemPlace)} {mk:Int→Value} {cd:Int→DataW Unit} {good:Int→Prop} {b n:Nat} {f:Int→Option Int}
end
def fdel (f:Int→Option Int) (k:Nat):Int→Option Int:=fun j=>if 20≤j∧j<20+(k:Int) then none else f j
theorem z4v (c:Int) (w:World):
  Calls Tryz.prog 162 #[.int .i64 c] w fun e w'=>e= .returned (.tuple #[.agg #[.bool (hasD c),.bool (hasA c),.bool (hasB c),.bool (hasN c),.bool (leaves c),.bool (stores c)],.bool (isOp c)])∧Below w.heap.size w w':=by
 go_enter Tryz.func162,Tryz.ntmps162
 go_wp2
 all_goals
  refine bodyPost_ret (v:= .tuple #[.agg #[.bool (hasD c),.bool (hasA c),.bool (hasB c),.bool (hasN c),.bool (leaves c),.bool (stores c)],.bool (isOp c)]) ?_ rfl ⟨rfl,?_⟩
 all_goals first
  |exact (((Below.refl _ _).alloc (Nat.le_refl _) _))
  |(simp only [results,Tryz.results162];simp [go_sem];simp [hasD,hasA,hasB,hasN,leaves,stores,isOp] at*;try omega)
 all_goals (repeat' apply aI)
 all_goals (first|omega|(rw [Bool.eq_iff_iff];simp;omega))
theorem z4w (c:Int) (w:World):
  Calls Tryz.prog 107 #[.int .i64 c] w fun e w'=>e= .returned (.agg #[.bool (isOp c),.bool (hasD c),.bool (hasA c),.bool (hasB c),.bool (hasN c),.bool (leaves c)])∧Below w.heap.size w w':=by
 go_enter Tryz.func107,Tryz.ntmps107
 go_wp2
 all_goals
  refine bodyPost_ret (v:= .agg #[.bool (isOp c),.bool (hasD c),.bool (hasA c),.bool (hasB c),.bool (hasN c),.bool (leaves c)]) ?_ rfl ⟨rfl,?_⟩
 all_goals first
  |exact (((Below.refl _ _).alloc (Nat.le_refl _) _))
  |(simp only [results,Tryz.results107];simp [go_sem];simp [hasD,hasA,hasB,hasN,leaves,isOp] at*;try omega)
 all_goals (repeat' apply aI)
 all_goals (first|omega|(rw [Bool.eq_iff_iff];simp;omega))
theorem zsz:Keyed Tryz.prog 3:=Maps.int_keyed Tryz.underlying3
theorem zso {a:Int} (hw:(Lit.int .i64 a).wf=true):keyOf Tryz.prog 3 (.int .i64 a)=some (.int .i64 a):=Maps.keyOf_int_mk Tryz.underlying3 hw
theorem yaf {x:Int} (h:mid x):(Lit.int .i64 x).wf=true:=WalkArith.wf_i64 (by unfold mid at h;omega)
structure Elems (R:Value→Option (DataW Unit×List MemPlace)) (mk:Int→Value) (cd:Int→DataW Unit) (good:Int→Prop):Prop where
 to:∀ x,good x→R (mk x)=some (cd x,[])
 from_:∀ v x ps,R v=some (cd x,ps)→v=mk x
def IMap (R:Value→Option (DataW Unit×List MemPlace)) (cd:Int→DataW Unit) (w:World) (b n:Nat) (f:Int→Option Int):Prop:=
 ∃ D:DataW Unit,w.ownsMap Tryz.prog 3 R b n D∧∀ k,(Lit.int .i64 k).wf=true→Maps.has D (.int .i64 k)=(f k).isSome∧∀ z,D.atKey (.int .i64 k) z=((f k).map cd).getD z
def mput (f:Int→Option Int) (k x:Int):Int→Option Int:=fun j=>if j=k then some x else f j
def mdel (f:Int→Option Int) (k:Int):Int→Option Int:=fun j=>if j=k then none else f j
theorem zta {j k:Int} (h:j≠k):(Lit.int .i64 j)≠(Lit.int .i64 k):=fun e=>h (by injection e)
theorem zrh {k:Int} (_hw:(Lit.int .i64 k).wf=true):WideAt.IsKeyLit (.int .i64 k):=by
 first|trivial|simp [WideAt.IsKeyLit]|exact hw
section
variable {R:Value→Option (DataW Unit×List MemPlace)} {mk:Int→Value} {cd:Int→DataW Unit} {good:Int→Prop} {w w':World} {b n:Nat} {f:Int→Option Int}
theorem IMap.made (w:World):IMap R cd (w.alloc (.map #[] 0)) w.heap.size 0 (fun _=>none):=
 ⟨.map [],World.ownsMap_made _ _ _ _,fun _k _=>⟨rfl,fun _z=>rfl⟩⟩
theorem IMap.lt (h:IMap R cd w b n f):b<w.heap.size:=by obtain ⟨D,h,_⟩:=h;exact h.lt
theorem IMap.mono {n':Nat} (h:IMap R cd w b n f) (hn:n≤n'):IMap R cd w b n' f:=by obtain ⟨D,h,hf⟩:=h;exact ⟨D,h.mono hn,hf⟩
theorem IMap.below {B:Nat} (h:IMap R cd w b n f) (hb:Below B w w') (hB:b<B):IMap R cd w' b n f:=by
 obtain ⟨D,⟨es,clock,hh,r⟩,hf⟩:=h;exact ⟨D,⟨es,clock,(hb.block b hB).trans hh,r⟩,hf⟩
theorem IMap.block (h:IMap R cd w b n f) (hb:w'.heap[b]?=w.heap[b]?):IMap R cd w' b n f:=by
 obtain ⟨D,⟨es,clock,hh,r⟩,hf⟩:=h;exact ⟨D,⟨es,clock,hb.trans hh,r⟩,hf⟩
theorem IMap.alloc (h:IMap R cd w b n f) (o:Obj):IMap R cd (w.alloc o) b n f:=h.block (Below.heap_alloc w o b h.lt)
theorem IMap.setCell (h:IMap R cd w b n f) {a:Addr} (ha:b≠a.block) (u:Value):IMap R cd (w.setCell a u) b n f:=h.block (Below.heap_setCell w a u b ha)
theorem IMap.drewN (h:IMap R cd w b n f) (k:Nat):IMap R cd (w.drewN k) b n f:=h
theorem IMap.drew (h:IMap R cd w b n f):IMap R cd w.drew b n f:=h
theorem IMap.is {f':Int→Option Int} (h:IMap R cd w b n f) (hf:∀ k,f k=f' k):IMap R cd w b n f':=by rw [← funext hf];exact h
theorem IMap.put (h:IMap R cd w b n f) (E:Elems R mk cd good) {t e:TypeId} (ht:Tryz.prog.underlying t=some (.map 3 e)) (hn:n<1000000) {k x:Int} (hk:(Lit.int .i64 k).wf=true) (hx:good x):
  ∃ w',(Instr.mapUpdate t (.map (some b)) (.int .i64 k) (mk x)).run Tryz.prog w= .ok () w'∧IMap R cd w' b (n+1) (mput f k x)∧w.grownBy w' (some b):=by
 obtain ⟨D,h,hf⟩:=h;obtain ⟨w',hr,h',hg⟩:=h.update zsz ht (by unfold maxLen;omega) (zso hk) (E.to x hx);have hm:=h.isMap;refine ⟨w',hr,⟨_,h',fun j hj=>?_⟩,hg⟩;by_cases hjk:j=k
 ·subst hjk
  exact ⟨by rw [Maps.has_put_same hm (zrh hj)];simp [mput],fun z=>by rw [Maps.atKey_put_same hm (zrh hj)];simp [mput]⟩
 ·exact ⟨by rw [Maps.has_put_other (zta hjk)];simp [mput,hjk,(hf j hj).1],fun z=>by rw [Maps.atKey_put_other (zta hjk)];simp [mput,hjk,(hf j hj).2 z]⟩
theorem IMap.look (h:IMap R cd w b n f) (E:Elems R mk cd good) {t e:TypeId} (ht:Tryz.prog.underlying t=some (.map 3 e)) {z:Value} {_x0:Int} (hz:(zeroValue e).run Tryz.prog w= .ok z w) {zd:DataW Unit} (hzd:R z=some (zd,[])) (hzi:∀ v ps,R v=some (zd,ps)→v=z) {k:Int} (hk:(Lit.int .i64 k).wf=true):
  (Instr.lookup t (.map (some b)) (.int .i64 k) true).run Tryz.prog w= .ok (.tuple #[((f k).map mk).getD z,.bool (f k).isSome]) w:=by
 obtain ⟨D,h,hf⟩:=h;obtain ⟨v,ps,hr,hv⟩:=h.look_ok zsz ht hz hzd (zso hk);obtain ⟨h1,h2⟩:=hf k hk;rw [hr,h1];rw [h2 zd] at hv
 cases hfk:f k with
 |none=>
  rw [hfk] at hv;have:=hzi v ps hv;subst this
  rfl
 |some x=>
  rw [hfk] at hv;have:=E.from_ v x ps hv;subst this
  rfl
end
section
theorem ybi (o:BOp) (w:World):
  Calls Tryz.prog 118 #[opV o] w fun e w'=>e= .returned (.int .i64 (writes o))∧Below w.heap.size w w':=by
 unfold opV
 go_enter Tryz.func118,Tryz.ntmps118
 go_wp2_with (go_at_call 162;refine (z4v _ _).mono ?_;rintro e w1 ⟨rfl,hb1⟩;obtain ⟨hc1,hf1⟩:=bcell hb1;have hz1:=hb1.size;try simp only [World.size_alloc] at hz1;have hy1_0:w.heap.size<w1.heap.size:=zO;have hc1_0:=fun o=>hc1 (w.heap.size) o Ttb2;have hf1_0:=fun o=>hf1 (w.heap.size) o Ttb2)
 all_goals go_ret
 all_goals exact ⟨by simp [writes, *],Ttb0⟩
theorem ybk (o:BOp) (w:World):
  Calls Tryz.prog 137 #[opV o] w fun e w'=>e= .returned (.int .i64 (writes o))∧Below w.heap.size w w':=by
 unfold opV
 go_enter Tryz.func137,Tryz.ntmps137
 go_wp2_with (go_at_call 107;refine (z4w _ _).mono ?_;rintro e w1 ⟨rfl,hb1⟩;obtain ⟨hc1,hf1⟩:=bcell hb1;have hz1:=hb1.size;try simp only [World.size_alloc] at hz1;have hy1_0:w.heap.size<w1.heap.size:=zO;have hc1_0:=fun o=>hc1 (w.heap.size) o Ttb2;have hf1_0:=fun o=>hf1 (w.heap.size) o Ttb2)
 all_goals go_ret
 all_goals exact ⟨by simp [writes, *],Ttb0⟩
theorem shape_leaves (a b c d e f:Bool) (w:World):(Instr.field 195 (.agg #[.bool a,.bool b,.bool c,.bool d,.bool e,.bool f]) 5).run Tryz.prog w= .ok (.bool f) w:=by kernel_rfl
attribute [local go_sem] shape_leaves
theorem zt2 (o:BOp) (w:World):
  Calls Tryz.prog 138 #[opV o] w fun e w'=>e= .returned (.bool (leaves o.code))∧Below w.heap.size w w':=by
 unfold opV
 go_enter Tryz.func138,Tryz.ntmps138
 go_wp2_with (go_at_call 107;refine (z4w _ _).mono ?_;rintro e w1 ⟨rfl,hb1⟩;obtain ⟨hc1,hf1⟩:=bcell hb1;have hz1:=hb1.size;try simp only [World.size_alloc] at hz1;have hy1_0:w.heap.size<w1.heap.size:=zO;have hc1_0:=fun o=>hc1 (w.heap.size) o Ttb2;have hf1_0:=fun o=>hf1 (w.heap.size) o Ttb2)
 all_goals go_ret
 all_goals exact ⟨rfl,Ttb0⟩
theorem zl5 (h:Bool) (v:Int) (w:World):
  Calls Tryz.prog 163 #[.bool h,.int .i64 v] w fun e w'=>e= .returned (.bool (zl3 h v))∧w=w':=by
 cases h
 all_goals
  go_enter Tryz.func163,Tryz.ntmps163
  go_wp2
  all_goals go_ret
  all_goals exact ⟨z1x (by rw [Bool.eq_iff_iff];simp [zl3];try omega),rfl⟩
theorem zl6 (h:Bool) (v:Int) (w:World):
  Calls Tryz.prog 134 #[.bool h,.int .i64 v] w fun e w'=>e= .returned (.bool (zl3 h v))∧w=w':=by
 cases h
 all_goals
  go_enter Tryz.func134,Tryz.ntmps134
  go_wp2
  all_goals go_ret
  all_goals exact ⟨z1x (by rw [Bool.eq_iff_iff];simp [zl3];try omega),rfl⟩
theorem zjv (c:Int) (w:World):
  Calls Tryz.prog 164 #[.int .i64 c] w fun e w'=>e= .returned (.bool (zju c))∧w=w':=by
 go_enter Tryz.func164,Tryz.ntmps164
 go_wp2
 all_goals go_ret
 all_goals exact ⟨z1x (by rw [Bool.eq_iff_iff];simp [zju] at*;try omega),rfl⟩
theorem zjw (c:Int) (w:World):
  Calls Tryz.prog 77 #[.int .i64 c] w fun e w'=>e= .returned (.bool (zju c))∧w=w':=by
 go_enter Tryz.func77,Tryz.ntmps77
 go_wp2
 all_goals go_ret
 all_goals exact ⟨z1x (by rw [Bool.eq_iff_iff];simp [zju] at*;try omega),rfl⟩
end
noncomputable abbrev i64R:Value→Option (DataW Unit×List MemPlace):=plainElem Tryz.prog 3
abbrev i64D (x:Int):DataW Unit:= .lit (.int .i64 x)
theorem zq0:Elems i64R (.int .i64) i64D mid where
 to x hx:=plainElem_int Tryz.underlying3 (yaf hx)
 from_ v x ps h:=by
  obtain ⟨c,rfl,hc,_⟩:=plainElem_int_inv Tryz.underlying3 h;have h1:(DataW.lit (Lit.int .i64 x):DataW Unit)= .lit (.int .i64 c):=congrArg Prod.fst hc;have h2:=DataW.lit.inj h1;have h3:=(Lit.int.inj h2).2;rw [h3]
theorem ybt (w:World):(zeroValue 3).run Tryz.prog w= .ok (.int .i64 0) w:=by simp [go_sem]
theorem ztq {w:World} {b n:Nat} {f:Int→Option Int} (h:IMap i64R i64D w b n f) {k:Int} (hk:(Lit.int .i64 k).wf=true):
  (Instr.lookup 136 (.map (some b)) (.int .i64 k) true).run Tryz.prog w= .ok (.tuple #[.int .i64 ((f k).getD 0),.bool (f k).isSome]) w:=by
 have:=h.look zq0 Tryz.underlying136 (_x0:=0) (ybt w) (zd:=i64D 0) (plainElem_int Tryz.underlying3 (by decide)) (fun v ps hv=>zq0.from_ v 0 ps hv) hk;rw [this]
 cases f k<;>rfl
def znk (f:Int→Option Int) (p:BOp):Int→Option Int:=
 if p.code==1 then mput (if 0≤writes p then mdel f (writes p) else f) (writes p) p.n else if 0≤writes p then mdel f (writes p) else f
def zni (f:Int→Option Int) (o:BOp):Int→Option Int:=if o.code==20 then fdel f 8 else f
def znj:(Int→Option Int)→List BOp→List BOp
 |_,[]=>[]
 |f,o::l=>if (znh (zni f o) o).2 then (znh (zni f o) o).1::(if (znh (zni f o) o).1.code==24 then [] else znj (znk (zni f o) (znh (zni f o) o).1) l) else znj (zni f o) l
def zvl:Int→Option Int:=fun _=>none
def zng (b:Blk):List BOp:=if z9g b then znj zvl b.ops else b.ops
def ya2 (f:Int→Option Int):Prop:=∀ k x,f k=some x→word x
theorem pow32 (n:Nat):(2:Int)^n>0:=Int.pow_pos (by decide)
theorem zro {p:Prop} [Decidable p] {x y:Int} (hx:word x) (hy:word y):word (if p then x else y):=by by_cases h:p<;>simp only [h,if_true,if_false]<;>assumption
theorem yau (x:Int):word (x%4294967296):=by unfold word;omega
theorem yat (x:Bool):word (bitI x):=by cases x<;>(unfold word bitI;decide)
theorem yar {c a b:Int} (ha:word a) (hb:word b):word (yaq c a b):=by
 have w0:word 0:=by unfold word;omega
 have hand:word (andI a b):=by unfold word andI at*;have:a.toNat &&& b.toNat≤a.toNat:=Nat.and_le_left;omega
 have hor:word (orI a b):=by unfold word orI at*;have:a.toNat|||b.toNat<2^32:=Nat.or_lt_two_pow zO zO;omega
 have hxor:word (xorI a b):=by unfold word xorI at*;have:a.toNat ^^^ b.toNat<2^32:=Nat.xor_lt_two_pow zO zO;omega
 have hshr:word (a/2^(b%32).toNat):=by
  have h1:=Int.ediv_nonneg ha.1 (Int.le_of_lt (pow32 (b%32).toNat));have h2:a/2^(b%32).toNat≤a:=Int.ediv_le_self _ ha.1;unfold word at*;omega
 have hdiv:word (a/b):=by
  have h1:=Int.ediv_nonneg ha.1 hb.1;have h2:a/b≤a:=Int.ediv_le_self _ ha.1;unfold word at*;omega
 exact zro (yau _) (zro (yau _) (zro hand (zro hor (zro hxor (zro (yau _) (zro hshr (zro (yau _) (zro (yau _) (zro (zro w0 hdiv) (zro (yat _) (zro (yat _) (zro (yat _) w0))))))))))))
theorem mid0:mid 0:=by unfold mid;omega
theorem yap:word 0:=by unfold word;omega
theorem zq7:(Tryz.prog.info? 3).map (fun i=>(i.zero,i.size,i.bytes))=some (some (.int .i64 0),1,8):=by kernel_rfl
theorem z07 (o:BOp) (w:World):
  Calls Tryz.prog 165 #[opV o] w fun e w'=>∃ v,e= .returned v∧w'.ownsRow w.heap.size 3 1 v (reads o).length ((reads o).map (.int .i64))∧Below w.heap.size w w':=by
 unfold opV;by_cases hA:hasA o.code=true
 ·by_cases hB:hasB o.code=true
  ·by_cases hE:o.b=o.a
   ·have e0:(o.b !=o.a)=false:=by simp [hE]
    have hr:Hid (reads o=[o.a]):=(by unfold Hid;simp [reads,hA,hB,hE]);clear hE
    go_enter Tryz.func165,Tryz.ntmps165
    go_wp2_with (first|(go_at_call 162;refine (z4v _ _).mono ?_;rintro e w1 ⟨rfl,hb1⟩;obtain ⟨hc1,hf1⟩:=bcell hb1;have hz1:=hb1.size;try simp only [World.size_alloc] at hz1;have hy1_0:w.heap.size<w1.heap.size:=zO;have hc1_0:=fun o=>hc1 (w.heap.size) o Ttb2;have hf1_0:=fun o=>hf1 (w.heap.size) o Ttb2)|(at_builtin;(refine ya5 rfl _ _ 22 rfl (w1.heap.size+1) 3 (.int .i64 0) 1 8 Tryz.underlying22 zq7 rfl (by decide) _ _ _ rfl (World.ownsRow_nil _ _ _ _) _ _ 1 _ rfl zS rfl (by intro u hu;simp at hu;first|(subst hu;rfl)|(rcases hu with rfl|rfl|rfl|rfl|rfl<;>rfl)) zO (by decide) Ttb1 ?_);intro v2 w2 hown2 hb2 hz2;obtain ⟨hc2,hf2⟩:=zde hb2))
    go_ret
    exact ⟨_,rfl,zxx hown2 zO (by rw [hr.out];rfl) (by rw [hr.out];rfl),Ttb0⟩
   ·have e0:(o.b !=o.a)=true:=by simp [hE]
    have hr:Hid (reads o=[o.a,o.b]):=(by unfold Hid;simp [reads,hA,hB,hE]);clear hE
    go_enter Tryz.func165,Tryz.ntmps165
    go_wp2_with (first|(go_at_call 162;refine (z4v _ _).mono ?_;rintro e w1 ⟨rfl,hb1⟩;obtain ⟨hc1,hf1⟩:=bcell hb1;have hz1:=hb1.size;try simp only [World.size_alloc] at hz1;have hy1_0:w.heap.size<w1.heap.size:=zO;have hc1_0:=fun o=>hc1 (w.heap.size) o Ttb2;have hf1_0:=fun o=>hf1 (w.heap.size) o Ttb2)|(at_builtin;(refine ya5 rfl _ _ 22 rfl (w1.heap.size+1) 3 (.int .i64 0) 1 8 Tryz.underlying22 zq7 rfl (by decide) _ _ _ rfl (hown2) _ _ 1 _ rfl zS rfl (by intro u hu;simp at hu;first|(subst hu;rfl)|(rcases hu with rfl|rfl|rfl|rfl|rfl<;>rfl)) zO (by decide) Ttb1 ?_);intro v3 w3 hown3 hb3 hz3;obtain ⟨hc3,hf3⟩:=zde hb3)|(at_builtin;(refine ya5 rfl _ _ 22 rfl (w1.heap.size+1) 3 (.int .i64 0) 1 8 Tryz.underlying22 zq7 rfl (by decide) _ _ _ rfl (World.ownsRow_nil _ _ _ _) _ _ 1 _ rfl zS rfl (by intro u hu;simp at hu;first|(subst hu;rfl)|(rcases hu with rfl|rfl|rfl|rfl|rfl<;>rfl)) zO (by decide) Ttb1 ?_);intro v2 w2 hown2 hb2 hz2;obtain ⟨hc2,hf2⟩:=zde hb2))
    go_ret
    exact ⟨_,rfl,zxx hown3 zO (by rw [hr.out];rfl) (by rw [hr.out];rfl),Ttb0⟩
  ·have hB':hasB o.code=false:=by simpa using hB
   have hr:Hid (reads o=[o.a]):=(by unfold Hid;simp [reads,hA,hB']);clear hB
   go_enter Tryz.func165,Tryz.ntmps165
   go_wp2_with (first|(go_at_call 162;refine (z4v _ _).mono ?_;rintro e w1 ⟨rfl,hb1⟩;obtain ⟨hc1,hf1⟩:=bcell hb1;have hz1:=hb1.size;try simp only [World.size_alloc] at hz1;have hy1_0:w.heap.size<w1.heap.size:=zO;have hc1_0:=fun o=>hc1 (w.heap.size) o Ttb2;have hf1_0:=fun o=>hf1 (w.heap.size) o Ttb2)|(at_builtin;(refine ya5 rfl _ _ 22 rfl (w1.heap.size+1) 3 (.int .i64 0) 1 8 Tryz.underlying22 zq7 rfl (by decide) _ _ _ rfl (World.ownsRow_nil _ _ _ _) _ _ 1 _ rfl zS rfl (by intro u hu;simp at hu;first|(subst hu;rfl)|(rcases hu with rfl|rfl|rfl|rfl|rfl<;>rfl)) zO (by decide) Ttb1 ?_);intro v2 w2 hown2 hb2 hz2;obtain ⟨hc2,hf2⟩:=zde hb2))
   go_ret
   exact ⟨_,rfl,zxx hown2 zO (by rw [hr.out];rfl) (by rw [hr.out];rfl),Ttb0⟩
 ·have hA':hasA o.code=false:=by simpa using hA
  have hB':hasB o.code=false:=by
   rw [Bool.eq_false_iff];intro h;simp [hasA,hasB] at hA h;omega
  have hr:Hid (reads o=[]):=by unfold Hid;simp [reads,hA',hB']
  clear hA
  go_enter Tryz.func165,Tryz.ntmps165
  go_wp2_with (go_at_call 162;refine (z4v _ _).mono ?_;rintro e w1 ⟨rfl,hb1⟩;obtain ⟨hc1,hf1⟩:=bcell hb1;have hz1:=hb1.size;try simp only [World.size_alloc] at hz1;have hy1_0:w.heap.size<w1.heap.size:=zO;have hc1_0:=fun o=>hc1 (w.heap.size) o Ttb2;have hf1_0:=fun o=>hf1 (w.heap.size) o Ttb2)
  go_ret
  exact ⟨_,rfl,by rw [hr.out];exact World.ownsRow_nil _ _ _ _,Ttb0⟩
theorem z09 (o:BOp) (w:World):
  Calls Tryz.prog 136 #[opV o] w fun e w'=>∃ v,e= .returned v∧w'.ownsRow w.heap.size 3 1 v (reads o).length ((reads o).map (.int .i64))∧Below w.heap.size w w':=by
 unfold opV;by_cases hA:hasA o.code=true
 ·by_cases hB:hasB o.code=true
  ·by_cases hE:o.b=o.a
   ·have e0:(o.b !=o.a)=false:=by simp [hE]
    have hr:Hid (reads o=[o.a]):=(by unfold Hid;simp [reads,hA,hB,hE]);clear hE
    go_enter Tryz.func136,Tryz.ntmps136
    go_wp2_with (first|(go_at_call 107;refine (z4w _ _).mono ?_;rintro e w1 ⟨rfl,hb1⟩;obtain ⟨hc1,hf1⟩:=bcell hb1;have hz1:=hb1.size;try simp only [World.size_alloc] at hz1;have hy1_0:w.heap.size<w1.heap.size:=zO;have hc1_0:=fun o=>hc1 (w.heap.size) o Ttb2;have hf1_0:=fun o=>hf1 (w.heap.size) o Ttb2)|(at_builtin;(refine ya5 rfl _ _ 22 rfl (w1.heap.size+1) 3 (.int .i64 0) 1 8 Tryz.underlying22 zq7 rfl (by decide) _ _ _ rfl (World.ownsRow_nil _ _ _ _) _ _ 1 _ rfl zS rfl (by intro u hu;simp at hu;first|(subst hu;rfl)|(rcases hu with rfl|rfl|rfl|rfl|rfl<;>rfl)) zO (by decide) Ttb1 ?_);intro v2 w2 hown2 hb2 hz2;obtain ⟨hc2,hf2⟩:=zde hb2))
    go_ret
    exact ⟨_,rfl,zxx hown2 zO (by rw [hr.out];rfl) (by rw [hr.out];rfl),Ttb0⟩
   ·have e0:(o.b !=o.a)=true:=by simp [hE]
    have hr:Hid (reads o=[o.a,o.b]):=(by unfold Hid;simp [reads,hA,hB,hE]);clear hE
    go_enter Tryz.func136,Tryz.ntmps136
    go_wp2_with (first|(go_at_call 107;refine (z4w _ _).mono ?_;rintro e w1 ⟨rfl,hb1⟩;obtain ⟨hc1,hf1⟩:=bcell hb1;have hz1:=hb1.size;try simp only [World.size_alloc] at hz1;have hy1_0:w.heap.size<w1.heap.size:=zO;have hc1_0:=fun o=>hc1 (w.heap.size) o Ttb2;have hf1_0:=fun o=>hf1 (w.heap.size) o Ttb2)|(at_builtin;(refine ya5 rfl _ _ 22 rfl (w1.heap.size+1) 3 (.int .i64 0) 1 8 Tryz.underlying22 zq7 rfl (by decide) _ _ _ rfl (hown2) _ _ 1 _ rfl zS rfl (by intro u hu;simp at hu;first|(subst hu;rfl)|(rcases hu with rfl|rfl|rfl|rfl|rfl<;>rfl)) zO (by decide) Ttb1 ?_);intro v3 w3 hown3 hb3 hz3;obtain ⟨hc3,hf3⟩:=zde hb3)|(at_builtin;(refine ya5 rfl _ _ 22 rfl (w1.heap.size+1) 3 (.int .i64 0) 1 8 Tryz.underlying22 zq7 rfl (by decide) _ _ _ rfl (World.ownsRow_nil _ _ _ _) _ _ 1 _ rfl zS rfl (by intro u hu;simp at hu;first|(subst hu;rfl)|(rcases hu with rfl|rfl|rfl|rfl|rfl<;>rfl)) zO (by decide) Ttb1 ?_);intro v2 w2 hown2 hb2 hz2;obtain ⟨hc2,hf2⟩:=zde hb2))
    go_ret
    exact ⟨_,rfl,zxx hown3 zO (by rw [hr.out];rfl) (by rw [hr.out];rfl),Ttb0⟩
  ·have hB':hasB o.code=false:=by simpa using hB
   have hr:Hid (reads o=[o.a]):=(by unfold Hid;simp [reads,hA,hB']);clear hB
   go_enter Tryz.func136,Tryz.ntmps136
   go_wp2_with (first|(go_at_call 107;refine (z4w _ _).mono ?_;rintro e w1 ⟨rfl,hb1⟩;obtain ⟨hc1,hf1⟩:=bcell hb1;have hz1:=hb1.size;try simp only [World.size_alloc] at hz1;have hy1_0:w.heap.size<w1.heap.size:=zO;have hc1_0:=fun o=>hc1 (w.heap.size) o Ttb2;have hf1_0:=fun o=>hf1 (w.heap.size) o Ttb2)|(at_builtin;(refine ya5 rfl _ _ 22 rfl (w1.heap.size+1) 3 (.int .i64 0) 1 8 Tryz.underlying22 zq7 rfl (by decide) _ _ _ rfl (World.ownsRow_nil _ _ _ _) _ _ 1 _ rfl zS rfl (by intro u hu;simp at hu;first|(subst hu;rfl)|(rcases hu with rfl|rfl|rfl|rfl|rfl<;>rfl)) zO (by decide) Ttb1 ?_);intro v2 w2 hown2 hb2 hz2;obtain ⟨hc2,hf2⟩:=zde hb2))
   go_ret
   exact ⟨_,rfl,zxx hown2 zO (by rw [hr.out];rfl) (by rw [hr.out];rfl),Ttb0⟩
 ·have hA':hasA o.code=false:=by simpa using hA
  have hB':hasB o.code=false:=by
   rw [Bool.eq_false_iff];intro h;simp [hasA,hasB] at hA h;omega
  have hr:Hid (reads o=[]):=by unfold Hid;simp [reads,hA',hB']
  clear hA
  go_enter Tryz.func136,Tryz.ntmps136
  go_wp2_with (go_at_call 107;refine (z4w _ _).mono ?_;rintro e w1 ⟨rfl,hb1⟩;obtain ⟨hc1,hf1⟩:=bcell hb1;have hz1:=hb1.size;try simp only [World.size_alloc] at hz1;have hy1_0:w.heap.size<w1.heap.size:=zO;have hc1_0:=fun o=>hc1 (w.heap.size) o Ttb2;have hf1_0:=fun o=>hf1 (w.heap.size) o Ttb2)
  go_ret
  exact ⟨_,rfl,by rw [hr.out];exact World.ownsRow_nil _ _ _ _,Ttb0⟩
theorem zpe (v:Int) (w:World):
  Calls Tryz.prog 139 #[.int .i64 v] w fun e w'=>e= .returned (.bool (decide (0≤v∧v≤18)))∧w=w':=by
 go_enter Tryz.func139,Tryz.ntmps139
 go_wp2
 all_goals go_ret
 all_goals exact ⟨z1x (by rw [Bool.eq_iff_iff];simp;try omega),rfl⟩
theorem Has.alloc {w:World} {g:Nat} {cs:List Value} (h:Has w g cs) (o:Obj) (hg:g<w.heap.size):Has (w.alloc o) g cs:=
 h.below (B:=w.heap.size) ((Below.refl _ w).alloc (Nat.le_refl _) o) hg
theorem Has.drew {w:World} {g:Nat} {cs:List Value} (h:Has w g cs):Has w.drew g cs:=h
theorem Has.drewN {w:World} {g:Nat} {cs:List Value} (h:Has w g cs) (n:Nat):Has (w.drewN n) g cs:=h
theorem Has.new (w:World) (t:TypeId) (cs:List Value):Has (w.alloc (.cells cs.toArray t)) w.heap.size cs:=fun i u hu=>
 ⟨by rw [World.cell?_alloc_new];simpa using hu,(RowIs.new w t cs.toArray).frozen i⟩
theorem Has.only {w w':World} {g k:Nat} {cs:List Value} (h:Has w g cs) (hb:w.grownBy w' (some k)) (hne:g≠k) (hg:g<w.heap.size):Has w' g cs:=fun i v hv=>by
 obtain ⟨h1,h2⟩:=h i v hv;have hh:=hb.block g hg (fun e=>hne (by injection e));exact ⟨(World.cell?_of_block (w:=w) (a:=⟨g,i,none⟩) hh).trans h1,(World.frozen?_of_block (w:=w) (a:=⟨g,i,none⟩) hh).trans h2⟩
theorem zdk {B g:Nat} {w W w1:World} (h:Below B w W) (hb:W.grownBy w1 (some g)) (hg:B≤g) (hB:B≤W.heap.size):Below B w w1:=
 h.grown hb hB (fun k e=>by injection e with e;omega)
theorem zdn {a b:Int} (h:a=b):(a==b)=true:=by simp [h]
theorem zdm {a b:Int} (h:a≠b):(a==b)=false:=by simp [h]
def zf9 (s:Ck):List Value:=[.int .i64 (s.marks:Int),.int .u32 (s.written:Int),.bool s.changed]
section
variable (g:Nat) (s:Ck) (o:BOp) (last exit:Bool) (w:World)
end
theorem zny {o:BOp} (h:znt o=true):isOp o.code=true∧zl3 (hasD o.code) o.d=true∧zl3 (hasA o.code) o.a=true∧zl3 (hasB o.code) o.b=true∧(hasN o.code=true∨(hasN o.code=false∧(o.n !=0)=false)):=by
 unfold znt at h;simp only [Bool.and_eq_true,Bool.or_eq_true] at h;obtain ⟨⟨⟨⟨h1,h2⟩,h3⟩,h4⟩,h5⟩:=h;refine ⟨h1,h2,h3,h4,?_⟩
 cases hN:hasN o.code
 ·right;refine ⟨rfl,?_⟩;rw [hN] at h5;simp at h5;simp [h5]
 ·exact .inl rfl
section
variable (g:Nat) (s:Ck) (o:BOp) (last exit:Bool) (w:World)
end
section
variable (g:Nat) (s:Ck) (exit:Bool) (n:Int) (w:World)
theorem zts {g:Nat} {w:World} (h:g<w.heap.size):g<w.heap.size+1:=by omega
end
section
theorem zgb {s:Ck} {l:List BOp} {k:Nat} {o:BOp} (h:l[k]?=some o):
  zga s (l.drop k)=match zf3 s o (l.drop (k+1)).isEmpty (zll (l.drop (k+1))) with|some s'=>zga s' (l.drop (k+1))|none=>none:=by
 have hk:k<l.length:=by
  rcases Nat.lt_or_ge k l.length with h1|h1
  ·exact h1
  ·rw [List.getElem?_eq_none h1] at h;cases h
 rw [List.drop_eq_getElem_cons hk]
 have e:l[k]=o:=by rw [List.getElem?_eq_getElem hk] at h;injection h
 rw [e]
 rfl
attribute [local irreducible] wpStill
section
variable (A1 A2 A3:Option Addr) (c1 c2 c3:Nat) (b:Blk) (w:World)
end
end
theorem zv2 (a:Nat) (ha:a<4294967296):(BitVec.ofInt 32 (a:Int)).toNat=a:=by
 rw [BitVec.ofInt_natCast,BitVec.toNat_ofNat];exact Nat.mod_eq_of_lt zO
theorem z83 {a b:Int} (ha:word a) (hb:word b):bits .and .u32 a b=andI a b:=by
 unfold word at ha hb;obtain ⟨n,rfl⟩:=Int.eq_ofNat_of_zero_le ha.1;obtain ⟨m,rfl⟩:=Int.eq_ofNat_of_zero_le hb.1;have hx:n &&& m<2^32:=Nat.and_lt_two_pow _ zO;show IntKind.u32.wrap ((BitVec.ofInt 32 (n:Int) &&& BitVec.ofInt 32 (m:Int)).toNat:Int)=_;rw [BitVec.toNat_and,zv2 n zO,zv2 m zO,IntKind.wrap_u32];simp only [andI,Int.toNat_natCast];omega
theorem z84 {a b:Int} (ha:word a) (hb:word b):bits .or .u32 a b=orI a b:=by
 unfold word at ha hb;obtain ⟨n,rfl⟩:=Int.eq_ofNat_of_zero_le ha.1;obtain ⟨m,rfl⟩:=Int.eq_ofNat_of_zero_le hb.1;have hx:n|||m<2^32:=Nat.or_lt_two_pow zO zO;show IntKind.u32.wrap ((BitVec.ofInt 32 (n:Int)|||BitVec.ofInt 32 (m:Int)).toNat:Int)=_;rw [BitVec.toNat_or,zv2 n zO,zv2 m zO,IntKind.wrap_u32];simp only [orI,Int.toNat_natCast];omega
theorem z85 {a b:Int} (ha:word a) (hb:word b):bits .xor .u32 a b=xorI a b:=by
 unfold word at ha hb;obtain ⟨n,rfl⟩:=Int.eq_ofNat_of_zero_le ha.1;obtain ⟨m,rfl⟩:=Int.eq_ofNat_of_zero_le hb.1;have hx:n ^^^ m<2^32:=Nat.xor_lt_two_pow zO zO;show IntKind.u32.wrap ((BitVec.ofInt 32 (n:Int) ^^^ BitVec.ofInt 32 (m:Int)).toNat:Int)=_;rw [BitVec.toNat_xor,zv2 n zO,zv2 m zO,IntKind.wrap_u32];simp only [xorI,Int.toNat_natCast];omega
theorem zdr (x:Bool) (w:World):
  Calls Tryz.prog 152 #[.bool x] w fun e w'=>e= .returned (.int .u32 (bitI x))∧w=w':=by
 cases x
 all_goals
  go_enter Tryz.func152,Tryz.ntmps152
  go_wp2
  go_ret
  exact ⟨rfl,rfl⟩
theorem z5f (a:Int) (w:World) (ha:word a):
  Calls Tryz.prog 151 #[.int .u32 a] w fun e w'=>e= .returned (.int .i64 (z5e a))∧w=w':=by
 obtain ⟨h0,h1⟩:=ha;by_cases hs:2147483648≤a
 all_goals
  go_enter Tryz.func151,Tryz.ntmps151
  go_wp2
  go_ret
  exact ⟨z1y (by unfold z5e;split<;>omega),rfl⟩
def zne:Value→Option (DataW Unit×List MemPlace)
 | .func (.func f) a b=>if a.size=0∧b.size=0 then some (.lit (.int .i64 (f:Int)),[]) else none
 | .nilFunc=>some (.lit (.bool false),[])
 |_=>none
def fnMk (x:Int):Value:= .func (.func x.toNat) #[] #[]
def fnCd (x:Int):DataW Unit:= .lit (.int .i64 x)
theorem znf:Elems zne fnMk fnCd (fun x=>0≤x) where
 to x hx:=by simp [zne,fnMk,fnCd];omega
 from_ v x ps h:=by
  unfold zne at h
  split at h
  ·rename_i f a b
   split at h
   ·rename_i hs
    obtain ⟨ha,hb⟩:=hs;have ea:=Array.eq_empty_of_size_eq_zero ha;have eb:=Array.eq_empty_of_size_eq_zero hb;subst ea;subst eb;simp only [Option.some.injEq,Prod.mk.injEq,fnCd] at h;have h1:=h.1;injection h1 with h1;injection h1 with _ h1;subst h1;simp [fnMk]
   ·cases h
  ·simp [fnCd] at h
  ·cases h
def midF (s:Int→Option Int):Prop:=∀ k x,s k=some x→mid x
def zhb (s:Int→Option Int) (o:BOp):Int→Option Int:=if o.code==20 then fun v=>(fdel s 8 v).filter fun w=> !decide (20≤w) else s
def zxf (s:Int→Option Int) (has:Bool) (v:Int):Int:=if has&&(s v).isSome then (s v).getD 0 else v
def zhc (s:Int→Option Int) (o:BOp):BOp:=⟨o.code,o.d,zxf s (memI o.a (reads o)&&o.code !=20) o.a,zxf s (twoB o.code) o.b,o.n⟩
def zhf (p:BOp):Bool:=p.code==2&&p.d==p.a
def zha (s:Int→Option Int) (d:Int):Int→Option Int:=fun v=>(mdel s d v).filter fun w=> !(w==d)
def zhg (s:Int→Option Int) (p:BOp):Int→Option Int:=if writes p<0 then s else if p.code==2 then mput (zha s (writes p)) (writes p) p.a else zha s (writes p)
def zhe:(Int→Option Int)→List BOp→List BOp
 |_,[]=>[]
 |s,o::l=>if zhf (zhc (zhb s o) o) then zhe (zhb s o) l else zhc (zhb s o) o::zhe (zhg (zhb s o) (zhc (zhb s o) o)) l
def zg8 (b:Blk):List BOp:=if z9g b then zhe zvl b.ops else b.ops
end Go.Proofs.YtocafomnnkmjfaaGreat
