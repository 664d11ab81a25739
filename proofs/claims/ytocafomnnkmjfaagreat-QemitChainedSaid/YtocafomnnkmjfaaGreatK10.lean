import Derived.RangeFuncBound
import Derived.RangeFuncLeaves
import Derived.Conc.MuLone
import Derived.Shelf.SlicesQ.Reverse
import Derived.Ground.SlgnProg
import Derived.OrdersHeld
import Derived.Test.YtocafomnnkmjfaaGreatK9
namespace Go.Proofs.YtocafomnnkmjfaaGreat
open Go.RowKit
theorem zfv {w:World} {G:Gs} {bb off k:Nat} {l:List BOp} {o:BOp} (h:OpsAt w w.heap.size (some ⟨bb,off,none⟩) l) (hG:bb∉G) (hk:l[k]?=some o):zac w G bb (off+(k:Int).toNat*5) (opC o):=by
 have hlt:k<l.length:=by
  rcases Nat.lt_or_ge k l.length with h1|h1
  ·exact h1
  ·rw [List.getElem?_eq_none h1] at hk;cases hk
 obtain ⟨b',off',hA,hb,hc⟩:=SlAt.open_ h (by rw [zna];omega);injection hA with hA;injection hA with e1 e2;subst e1;subst e2;refine ⟨hb,hG,fun j u hj=>?_⟩
 have hj5:j<5:=by
  rcases Nat.lt_or_ge j 5 with h1|h1
  ·exact h1
  ·rw [List.getElem?_eq_none (by rw [zwn];exact h1)] at hj;cases hj
 have:=hc (k*5+j) u ((zm8 l k j o hk hj5).trans hj)
 simpa [Nat.add_assoc] using this
theorem zw6 {w:World} {A:Option Addr} {l:List BOp} (h:OpsAt w w.heap.size A l) (hl:0<l.length):∃ bb off,A=some ⟨bb,off,none⟩:=by
 obtain ⟨b,off,hA,_⟩:=SlAt.open_ h (by rw [zna];omega);exact ⟨b,off,hA⟩
section
variable {R:Value→Option (DataW Unit×List MemPlace)} {cd:Int→DataW Unit} {n:Nat} {m m':Int→Option Int}
variable {w0:World} {G:Gs} {fid:FuncId} {S:List Ow} {K:AV→List Ow→Prop} {x:Value}
end
theorem zfj {P:Program} {fid:FuncId} {fn:Func} {c:Code} {N:Nat} {w0:World} (xs:List Value) (hf:P.funcs[fid]?=some fn) (hN:fn.ntmps=N) (hb:fn.body=some c) (hle:xs.length≤N) {R:Ending→World→Prop}
  (h:vc none P w0 Gs.nil ⟨N,[]⟩ c (zb1 (xs.map fun x=>AV.of x) 0) [] (RetK P w0 Gs.nil fn.results.toList R)):Calls P fid xs.toArray w0 R:=
 zfl hf hN hb (z1o w0) (zc6 xs) hle h
theorem wr64 {n:Int} (h: -9223372036854775808≤n∧n<9223372036854775808):IntKind.i64.wrap n=n:=by
 have e:IntKind.i64.wrap n=wrap64 n:=by
  show (if (true&&decide (n%(2^64:Int)≥(2^63:Int))) then n%(2^64:Int)-(2^64:Int) else n%(2^64:Int))=_;unfold wrap64;by_cases h:n%(2^64:Int)≥(2^63:Int)
  ·rw [decide_eq_true h];simp only [Bool.and_self,if_true];omega
  ·rw [decide_eq_false h];simp only [Bool.and_false,Bool.false_eq_true,if_false];omega
 rw [e];unfold wrap64;omega
theorem wr32 (n:Int):IntKind.u32.wrap n=n%4294967296:=by
 show (if (false&&decide (n%(2^32:Int)≥(2^31:Int))) then n%(2^32:Int)-(2^32:Int) else n%(2^32:Int))=_;simp
theorem zfa {P:Program} {w0:World} {G:Gs} {fid:FuncId} {args:List AV} {S:List Ow} {K:AV→List Ow→Prop} {xs:List Value} {e:TypeId} {size n:Nat} {ys:List Value} (hx:avals args=some xs) (hok:fnOk P fid=true)
  (h:∀ r w,Rel w0 G S r w→Calls P fid xs.toArray w fun en w'=>∃ v,en= .returned v∧w'.ownsRow w.heap.size e size v n ys∧Below w.heap.size w w') (hK:K (.p (.c (.row S.length))) (S++[.row e size n ys])):CallS P w0 G fid args S K:=by
 refine ⟨hok,fun r w us hR hd=>?_⟩;rw [zcs hx hd]
 refine (h r w hR).mono fun en w' ⟨v,he,hown,hb⟩=>⟨.p (.c (.row S.length)),v,_,r.set S.length v.ownBlock (some v),he,by simp [AV.den,Pc.den,CV.den,Env.set],?_,hR.le_new _ _,hK⟩
 refine hR.snoc hb (fun x hx=>?_) ⟨v,by simp [Env.set],by simp [Env.set],zxv hown (Nat.zero_le _)⟩;rcases hown.2 with ⟨h1,_⟩|⟨g,cap,cur,h1,hg,hh,_⟩
 ·rw [h1] at hx;cases hx
 ·rw [h1] at hx;simp [Value.ownBlock] at hx;subst hx
  refine ⟨hg,?_⟩;rcases Nat.lt_or_ge g w'.heap.size with h2|h2
  ·exact h2
  ·rw [Array.getElem?_eq_none h2] at hh;cases hh
theorem z59 {w w':World} {A:Option Addr} {xs:List Value} (h:SlAt w w.heap.size A xs) (hB:Below w.heap.size w w'):SlAt w' w'.heap.size A xs:=(h.below hB (Nat.le_refl _)).more hB.size
structure FoldSt (n:Nat) (ops:List BOp) where
 k:Nat
 f:Int→Option Int
 out:List BOp
 hk:k≤n
 hw:ya2 f
 hl:out.length≤k
 eq:znj zvl ops=out++znj f (ops.drop k)
theorem zgh {s s1:Ck} {o:BOp} {x y:Bool} (h:zf3 s o x y=some s1):znt o=true∧zyp s o x y=true∧(o.code=20→o.n=(s.marks:Int)∧s1=⟨s.marks+1,0,false⟩)∧
  (o.code≠20→(∀ v∈reads o,z0u s v=true)∧s1=⟨s.marks,if 20≤writes o then s.written|||2^(writes o).toNat else s.written,s.changed||(stores o.code||decide (0≤writes o∧writes o<20))⟩):=by
 unfold zf3 at h;by_cases hf:(znt o&&zyp s o x y)=true
 ·rw [if_pos hf] at h
  simp only [Bool.and_eq_true] at hf;refine ⟨hf.1,hf.2,fun hc=>?_,fun hc=>?_⟩
  ·rw [if_pos (by simp [hc])] at h
   by_cases hn:(o.n==(s.marks:Int))=true
   ·rw [if_pos hn] at h;injection h with h;exact ⟨by simpa using hn,h.symm⟩
   ·rw [if_neg hn] at h;cases h
  ·rw [if_neg (by simpa using hc)] at h
   by_cases hr:(reads o).all (z0u s)=true
   ·rw [if_pos hr] at h;injection h with h;exact ⟨fun v hv=>List.all_eq_true.1 hr v hv,h.symm⟩
   ·rw [if_neg hr] at h;cases h
 ·rw [if_neg hf] at h;cases h
theorem zgi {s s2:Ck} {o:BOp} {l:List BOp} (h:zga s (o::l)=some s2):∃ s1,zf3 s o l.isEmpty (zll l)=some s1∧zga s1 l=some s2:=by
 change (match zf3 s o l.isEmpty (zll l) with|some s'=>zga s' l|none=>none)=_ at h
 cases h1:zf3 s o l.isEmpty (zll l) with
 |none=>rw [h1] at h;cases h
 |some s1=>rw [h1] at h;exact ⟨s1,rfl,h⟩
structure Follows (l m:List BOp):Prop where
 empty:m.isEmpty=l.isEmpty
 exit:zll l=true→zll m=true
theorem z9r {b:Blk}:z9g b=true↔zpu b=true∧∃ s,zga ⟨0,0,false⟩ b.ops=some s∧s.marks=b.at_.length:=by
 unfold z9g;rw [Bool.and_eq_true]
 constructor
 ·rintro ⟨h1,h2⟩
  split at h2
  ·rename_i s hs;exact ⟨h1,s,hs,by simpa using h2⟩
  ·cases h2
 ·rintro ⟨h1,s,h2,h3⟩
  rw [h2];exact ⟨h1,by simp [h3]⟩
theorem ya4 {P:Program} {ops:Array Oper} {Q:Exit→Act→World→Prop} {Q1:Act→World→Prop} (ro:Option Nat) (n:Nat):∀ (k:Nat) {l:List Oper} {a:Act} {w:World},seL P ops Q1 (l.take k) a w→(∀ a w,Q1 a w→wpListIn (zlu ro) n P ops Q (l.drop k) a w)→wpListIn (zlu ro) n P ops Q l a w
 |0,l,a,w,h,h2=>by simpa using h2 a w h
 |k+1,[],a,w,h,h2=>by simpa using h2 a w h
 |k+1,o::l,a,w,h,h2=>by
  simp only [List.take_succ_cons,List.drop_succ_cons] at h h2;unfold seL at h;unfold wpListIn
  split at h
  ·rename_i hw;rw [if_pos hw];exact z3u ro n h fun a w h=>ya4 ro n k h h2
  ·rename_i hw;rw [if_neg hw];exact ⟨fun f _=>zlw ro f,ya4 ro n k h h2⟩
def Slots (a:Act):List (Nat×Value)→Prop
 |[]=>True
 |(d,v)::l=>a.tmps.getD d undef=v∧Slots a l
def z6d:List (Nat×Value)→Fr
 |[]=>[]
 |(d,v)::l=>(d,AV.of v)::z6d l
theorem z6m {r:Env} {a:Act}:∀ {l:List (Nat×Value)},Slots a l→FDen r (z6d l) a
 |[],_=>fun k=>by simp [z6d,Fr.get,AV.den,Pc.den,CV.den]
 |(d,v)::l,h=>fun k=>by
  simp only [z6d,Fr.get]
  split
  ·rename_i hk;have:=Nat.eq_of_beq_eq_true hk;subst this
   rw [h.1];exact AV.of_den r v
  ·exact z6m h.2 k
def CV.fx (ok:Nat→Bool):CV→Bool
 | .v _=>true
 | .ref i _=>ok i
 | .any=>true
 |_=>false
def fxL (ok:Nat→Bool):List CV→Bool
 |[]=>true
 |c::l=>match c.fx ok with|true=>fxL ok l|false=>false
def AV.fx (ok:Nat→Bool):AV→Bool
 | .p (.c x)=>x.fx ok
 | .p (.agg l)=>fxL ok l
 |_=>false
def Fr.fx (ok:Nat→Bool):Fr→Bool
 |[]=>true
 |(_,x)::f=>match x.fx ok with|true=>Fr.fx ok f|false=>false
section
variable {ok:Nat→Bool} {r r':Env}
theorem CV.den_fx (h:∀ i b,ok i=true→r.blk i=some b→r'.blk i=some b):∀ {c:CV} {u:Value},c.fx ok=true→c.den r u→c.den r' u
 | .v x,u,_,hd=>by simpa only [CV.den] using hd
 | .ref i off,u,hb,hd=>by
  simp only [CV.den] at hd⊢;obtain ⟨x,hx,hu⟩:=hd;exact ⟨x,h i x hb hx,hu⟩
 | .any,u,_,hd=>by simp only [CV.den]
 | .vref ..,_,hb,_=>by cases hb
 | .row ..,_,hb,_=>by cases hb
 | .sl ..,_,hb,_=>by cases hb
 | .mp ..,_,hb,_=>by cases hb
 | .clo ..,_,hb,_=>by cases hb
theorem zin (h:∀ i b,ok i=true→r.blk i=some b→r'.blk i=some b):∀ {l:List CV} {us:List Value},fxL ok l=true→denL r l us→denL r' l us
 |[],us,_,hd=>by simpa only [denL] using hd
 |c::cs,us,hb,hd=>by
  simp only [denL] at hd⊢;obtain ⟨u,l,hu,hc,hl⟩:=hd;simp only [fxL] at hb
  split at hb
  ·rename_i hb1;exact ⟨u,l,hu,CV.den_fx h hb1 hc,zin h hb hl⟩
  ·cases hb
theorem AV.den_fx (h:∀ i b,ok i=true→r.blk i=some b→r'.blk i=some b) {x:AV} {u:Value} (hx:x.fx ok=true) (hd:x.den r u):x.den r' u:=by
 unfold AV.fx at hx
 split at hx
 ·exact CV.den_fx h hx hd
 ·obtain ⟨us,hu,hl⟩:=hd;exact ⟨us,hu,zin h hx hl⟩
 ·cases hx
theorem Fr.fx_get:∀ {f:Fr} (k:Nat),f.fx ok=true→(f.get k).fx ok=true
 |[],k,_=>rfl
 |(d,x)::f,k,h=>by
  simp only [Fr.fx] at h
  split at h
  ·simp only [Fr.get]
   split
   ·assumption
   ·exact Fr.fx_get k h
  ·cases h
theorem FDen.fx {f:Fr} {a:Act} (hf:FDen r f a) (h:∀ i b,ok i=true→r.blk i=some b→r'.blk i=some b) (hx:f.fx ok=true):FDen r' f a:=fun k=>AV.den_fx h (Fr.fx_get k hx) (hf k)
end
def Ow.flat:Ow→Bool
 | .cells _ _=>true
 | .row _ _ _ _=>true
 |_=>false
section
variable {w0:World} {G:Gs} {S:List Ow} {r:Env} {W:World}
theorem z1l (h:Rel w0 G S r W) {gs ext:List Nat} (hgs:∀ (i g:Nat),gs[i]?=some g→r.blk i=some g) (hext:∀ i b,r.blk i=some b→b∈gs∨b∈ext):Rel W ⟨gs,ext⟩ S r W:=
 ⟨rfl,rfl,rfl,Nat.le_refl _,fun _ _ _=>rfl,h.own,h.inj,fun i b hb=>⟨(h.new i b hb).1,fun _=>hext i b hb⟩,h.outB,h.outV,hgs⟩
theorem z1k (h:Rel w0 G S r W) {gs ext:List Nat} {S':List Ow} {r':Env} {W':World} (h2:Rel W ⟨gs,ext⟩ S' r' W') (hx:∀ b,b∈gs∨b∈ext→∃ i,r.blk i=some b) (hf:∀ (i g:Nat),G.fix[i]?=some g→gs[i]?=some g):Rel w0 G S' r' W':=by
 refine ⟨h2.os.trans h.os,h2.tape.trans h.tape,h2.output.trans h.output,Nat.le_trans h.size h2.size,fun k hk hG=>(h2.old k (Nat.lt_of_lt_of_le hk h.size) fun hm=>?_).trans (h.old k hk hG),h2.own,h2.inj,fun i b hb=>⟨(h2.new i b hb).1,fun hlt=>?_⟩,h2.outB,h2.outV,fun i g hg=>h2.first i g (hf i g hg)⟩
 ·obtain ⟨i,hi⟩:=hx k hm
  exact hG ((h.new i k hi).2 hk)
 ·obtain ⟨j,hj⟩:=hx b ((h2.new i b hb).2 (Nat.lt_of_lt_of_le hlt h.size))
  exact (h.new j b hj).2 hlt
end
structure SatQ (P:Program) (w0:World) (G:Gs) (N:Nd) (c:Code) (f:Fr) (S:List Ow) (Q:Exit→Act→World→Prop):Prop where
 out:∀ a w,Good w0 G N f S a w→c.wpIn Fence.wide 10 P Q a w
structure AtQ (w0:World) (G:Gs) (N:Nd) (e:Exit) (f:Fr) (S:List Ow) (Q:Exit→Act→World→Prop):Prop where
 out:∀ a w,Good w0 G N f S a w→Q e a w
section
variable {P:Program} {w0:World} {G:Gs} {N:Nd} {c d:Code} {f:Fr} {S:List Ow} {Q:Exit→Act→World→Prop}
theorem z3l (h:vc none P w0 G N c f S fun e f S=>AtQ w0 G N e f S Q):SatQ P w0 G N c f S Q:=
 ⟨fun a w hg=>wpIn_mono ((yac (ro:=none) c f S _ h).out 10 a w hg) fun _e a' w' ⟨_f',_S',hk,hg'⟩=>hk.out a' w' hg'⟩
theorem z3g (h:vc none P w0 G N c f S fun e f S=>match e with| .normal=>SatQ P w0 G N d f S Q|e=>AtQ w0 G N e f S Q):SatQ P w0 G N (.seq c d) f S Q:=
 ⟨fun a w hg=>wpIn_seq (wpIn_mono ((yac (ro:=none) c f S _ h).out 10 a w hg) fun e a' w' ⟨f',S',hk,hg'⟩=>by
  cases e with
  |normal=>exact hk.out a' w' hg'
  |exit id=>exact hk.out a' w' hg'
  |goto l=>exact hk.out a' w' hg'
  |ret=>exact hk.out a' w' hg'
  |panic ch=>exact hk.out a' w' hg'
  |outgrown=>exact hk.out a' w' hg')⟩
theorem z25 (h:SatQ P w0 G N c f S (Exit.then (d.wpIn Fence.wide 10 P Q) Q)):SatQ P w0 G N (.seq c d) f S Q:=⟨fun a w hg=>wpIn_seq (h.out a w hg)⟩
theorem z21 {id:Nat} (h:SatQ P w0 G N c f S (Exit.inBlock id Q)):SatQ P w0 G N (.block id c) f S Q:=⟨fun a w hg=>wpIn_block (h.out a w hg)⟩
end
structure EntB (f:Fr) (S:List Ow) (f':Fr) (S':List Ow):Prop where
 out:∀ w0 w r a,Rel w0 Gs.nil S r w→FDen r f a→∃ r',Rel w0 Gs.nil S' r' w∧FDen r' f' a∧∀ i b,r'.blk i=some b→∃ j,r.blk j=some b
def zfm (S:List Ow):Bool:=S.all fun o=>match o with| .cells _ _=>true|_=>false
mutual
def CV.ren (σ:Nat→Nat):CV→CV
 | .v x=> .v x
 | .ref i o=> .ref (σ i) o
 | .vref i o=> .vref (σ i) o
 | .row i=> .row (σ i)
 | .sl i o n c=> .sl (σ i) o n c
 | .mp i=> .mp (σ i)
 | .clo f cap=> .clo f (renL σ cap)
 | .any=> .any
def renL (σ:Nat→Nat):List CV→List CV
 |[]=>[]
 |c::l=>c.ren σ::renL σ l
end
def Pc.ren (σ:Nat→Nat):Pc→Pc
 | .c x=> .c (x.ren σ)
 | .agg l=> .agg (renL σ l)
def zy2 (σ:Nat→Nat):List Pc→List Pc
 |[]=>[]
 |c::l=>c.ren σ::zy2 σ l
def AV.ren (σ:Nat→Nat):AV→AV
 | .p x=> .p (x.ren σ)
 | .tup l=> .tup (zy2 σ l)
def Ow.ren (σ:Nat→Nat):Ow→Ow
 | .cells t l=> .cells t (renL σ l)
 |o=>o
def Env.comp (r:Env) (σ:Nat→Nat) (n:Nat):Env:=⟨fun i=>if i<n then r.blk (σ i) else Option.none,fun i=>if i<n then r.val (σ i) else Option.none⟩
section
variable {r:Env} {σ:Nat→Nat} {n:Nat}
theorem zgv {i:Nat} (h:i<n):(r.comp σ n).blk i=r.blk (σ i):=if_pos h
theorem zgw {i:Nat} (h:i<n):(r.comp σ n).val i=r.val (σ i):=if_pos h
mutual
theorem CV.den_ren:∀ (c:CV) (u:Value),c.bnd n=true→(c.ren σ).den r u→c.den (r.comp σ n) u
 | .v x,u,_,hd=>by simpa only [CV.den,CV.ren] using hd
 | .ref i off,u,hb,hd=>by
  have hi:i<n:=by simpa [CV.bnd,Nat.blt_eq] using hb
  simp only [CV.den,CV.ren] at hd⊢;rw [zgv hi];exact hd
 | .vref i off,u,hb,hd=>by
  have hi:i<n:=by simpa [CV.bnd,Nat.blt_eq] using hb
  simp only [CV.den,CV.ren] at hd⊢;rw [zgw hi];exact hd
 | .row i,u,hb,hd=>by
  have hi:i<n:=by simpa [CV.bnd,Nat.blt_eq] using hb
  simp only [CV.den,CV.ren] at hd⊢;rw [zgw hi];exact hd
 | .sl i off m c,u,hb,hd=>by
  have hi:i<n:=by simpa [CV.bnd,Nat.blt_eq] using hb
  simp only [CV.den,CV.ren] at hd⊢;rw [zgv hi];exact hd
 | .mp i,u,hb,hd=>by
  have hi:i<n:=by simpa [CV.bnd,Nat.blt_eq] using hb
  simp only [CV.den,CV.ren] at hd⊢;rw [zgv hi];exact hd
 | .clo f cap,u,hb,hd=>by
  simp only [CV.den,CV.ren] at hd⊢;obtain ⟨us,hu,hl⟩:=hd;exact ⟨us,hu,ziq cap us (by simpa only [CV.bnd] using hb) hl⟩
 | .any,u,_,hd=>by simp only [CV.den]
theorem ziq:∀ (l:List CV) (us:List Value),bndL n l=true→denL r (renL σ l) us→denL (r.comp σ n) l us
 |[],us,_,hd=>by simpa only [denL,renL] using hd
 |c::cs,us,hb,hd=>by
  simp only [denL,renL] at hd⊢;obtain ⟨u,l,hu,hc,hl⟩:=hd;simp only [bndL] at hb
  split at hb
  ·rename_i h1;exact ⟨u,l,hu,CV.den_ren c u h1 hc,ziq cs l hb hl⟩
  ·cases hb
end
theorem Pc.den_ren:∀ (c:Pc) (u:Value),c.bnd n=true→(c.ren σ).den r u→c.den (r.comp σ n) u
 | .c x,u,hb,hd=>CV.den_ren x u hb hd
 | .agg l,u,hb,hd=>by obtain ⟨us,hu,hl⟩:=hd;exact ⟨us,hu,ziq l us hb hl⟩
theorem zyj:∀ (l:List Pc) (us:List Value),zx9 n l=true→zyd r (zy2 σ l) us→zyd (r.comp σ n) l us
 |[],us,_,hd=>hd
 |c::cs,us,hb,hd=>by
  obtain ⟨u,l,hu,hc,hl⟩:=hd;simp only [zx9] at hb
  split at hb
  ·rename_i h1;exact ⟨u,l,hu,Pc.den_ren c u h1 hc,zyj cs l hb hl⟩
  ·cases hb
theorem AV.den_ren:∀ (c:AV) (u:Value),c.bnd n=true→(c.ren σ).den r u→c.den (r.comp σ n) u
 | .p x,u,hb,hd=>Pc.den_ren x u hb hd
 | .tup l,u,hb,hd=>by obtain ⟨us,hu,hl⟩:=hd;exact ⟨us,hu,zyj l us hb hl⟩
end
def FRen (f:Fr) (σ:Nat→Nat):Fr→Prop
 |[]=>True
 |(d,x)::g=>AVle (f.get d) (x.ren σ)∧FRen f σ g
theorem FRen.get {f:Fr} {σ:Nat→Nat}:∀ {g:Fr} (k:Nat),FRen f σ g→g.get k= .p (.c .any)∨AVle (f.get k) ((g.get k).ren σ)
 |[],k,_=> .inl rfl
 |(d,x)::g,k,h=>by
  simp only [Fr.get]
  split
  ·rename_i hk;have:=Nat.eq_of_beq_eq_true hk;subst this;exact .inr h.1
  ·exact FRen.get k h.2
def RLe (S:List Ow) (σ:Nat→Nat):List Ow→List Nat→Prop
 |[],[]=>True
 |o'::S',k::l=>(∃ o,S[k]?=some o∧OLe o (o'.ren σ))∧RLe S σ S' l
 |_,_=>False
theorem RLe.length {S:List Ow} {σ:Nat→Nat}:∀ {S':List Ow} {l:List Nat},RLe S σ S' l→S'.length=l.length
 |[],[],_=>rfl
 |_::S',_::l,h=>by simp [RLe.length h.2]
 |[],_::_,h=>h.elim
 |_::_,[],h=>h.elim
theorem RLe.get {S:List Ow} {σ:Nat→Nat}:∀ {S':List Ow} {l:List Nat} {i:Nat} {o':Ow},RLe S σ S' l→S'[i]?=some o'→∃ k o,l[i]?=some k∧S[k]?=some o∧OLe o (o'.ren σ)
 |[],_,i,o',_,h=>by simp at h
 |o::S',k::l,0,o',h,hi=>by simp at hi;subst hi;obtain ⟨o1,h1,h2⟩:=h.1;exact ⟨k,o1,by simp,h1,h2⟩
 |o::S',k::l,i+1,o',h,hi=>by simpa using RLe.get h.2 (by simpa using hi)
 |_::_,[],_,_,h,_=>h.elim
def zri (S:List Ow) (k:Nat):Bool:=match S[k]? with|some (.view ..)=>true|_=>false
def memB (k:Nat):List Nat→Bool
 |[]=>false
 |j::l=>match Nat.beq k j with|true=>true|false=>memB k l
theorem zt3 {k:Nat}:∀ {l:List Nat},k∈l→memB k l=true
 |j::l,h=>by
  simp only [memB]
  split
  ·rfl
  ·rename_i hb
   rcases List.mem_cons.1 h with rfl|h
   ·rw [Nat.beq_refl] at hb;cases hb
   ·exact zt3 h
def injB (S:List Ow):List Nat→Bool
 |[]=>true
 |k::l=>match zri S k,memB k l with|false,true=>false|_,_=>injB S l
theorem zq8 {S:List Ow}:∀ {l:List Nat} {i j k:Nat},injB S l=true→i<j→l[i]?=some k→l[j]?=some k→zri S k=true
 |[],i,j,k,_,_,h,_=>by simp at h
 |a::l,i,j,k,hb,hij,hi,hj=>by
  obtain ⟨j,rfl⟩:∃ j',j=j'+1:=⟨j-1,by omega⟩
  simp only [List.getElem?_cons_succ] at hj;simp only [injB] at hb
  cases i with
  |zero=>
   simp at hi;subst hi
   cases hv:zri S a
   ·rw [hv,zt3 (List.mem_of_getElem? hj)] at hb;cases hb
   ·rfl
  |succ i=>
   have hb2:injB S l=true:=(by split at hb;cases hb;exact hb);exact zq8 hb2 (by omega:i<j) (by simpa using hi) hj
def idB (n:Nat):List Nat→Nat→Bool
 |[],_=>true
 |k::l,i=>match Nat.blt i n,Nat.beq k i with|true,false=>false|_,_=>idB n l (i+1)
theorem zq2 {n:Nat}:∀ {l:List Nat} {s i k:Nat},idB n l s=true→l[i]?=some k→s+i<n→k=s+i
 |[],s,i,k,_,h,_=>by simp at h
 |a::l,s,i,k,hb,hi,hn=>by
  simp only [idB] at hb
  cases i with
  |zero=>
   simp at hi;subst hi;have h1:Nat.blt s n=true:=(by rw [Nat.blt_eq];omega);rw [h1] at hb
   cases h2:Nat.beq a s
   ·rw [h2] at hb;cases hb
   ·exact Nat.eq_of_beq_eq_true h2
  |succ i=>
   have hb2:idB n l (s+1)=true:=(by split at hb;cases hb;exact hb);have:=zq2 (i:=i) hb2 (by simpa using hi) zO;omega
theorem z1r {w0:World} {G:Gs} {S S':List Ow} {r:Env} {w:World} (hR:Rel w0 G S r w) (σl:List Nat) (hS:RLe S (fun i=>σl.getD i 0) S' σl) (hb:sbnd S'.length S'=true) (hi:injB S σl=true) (hG:idB G.fix.length σl 0=true) (hGl:Nat.ble G.fix.length S'.length=true):
  Rel w0 G S' (r.comp (fun i=>σl.getD i 0) S'.length) w:=by
 have hl:=hS.length
 have at_:∀ i,i<S'.length→∃ k o o',σl[i]?=some k∧σl.getD i 0=k∧S'[i]?=some o'∧S[k]?=some o∧OLe o (o'.ren fun i=>σl.getD i 0):=fun i hil=>by
  obtain ⟨k,o,h1,h2,h3⟩:=hS.get (List.getElem?_eq_getElem hil);exact ⟨k,o,_,h1,by rw [List.getD_eq_getElem?_getD,h1];rfl,List.getElem?_eq_getElem hil,h2,h3⟩
 have lt_of:∀ {i b},(r.comp (fun i=>σl.getD i 0) S'.length).blk i=some b→i<S'.length:=fun {i b} h=>by
  simp only [Env.comp] at h;split at h
  ·assumption
  ·cases h
 refine ⟨hR.os,hR.tape,hR.output,hR.size,hR.old,fun i o' ho'=>?_,fun i j b h1 h2=>?_,fun i b h=>?_,fun i h=>if_neg zO,fun i h=>if_neg zO,fun i g hg=>?_⟩
 ·have hil:i<S'.length:=by
   rcases Nat.lt_or_ge i S'.length with h1|h1
   ·exact h1
   ·rw [List.getElem?_eq_none h1] at ho';cases ho'
  obtain ⟨k,o,o2,h1,h2,h3,h4,h5⟩:=at_ i hil;rw [ho'] at h3;injection h3 with h3;subst h3;have hh:=h5.holds (hR.own k o h4);have hbo:=z3q hb ho';have hbl:(r.comp (fun i=>σl.getD i 0) S'.length).blk i=r.blk k:=(zgv hil).trans (by rw [h2]);have hvl:(r.comp (fun i=>σl.getD i 0) S'.length).val i=r.val k:=(zgw hil).trans (by rw [h2])
  cases o' with
  |cells t l=>obtain ⟨b,us,j1,j2,j3⟩:=hh;exact ⟨b,us,hbl.trans j1,j2,ziq l us hbo j3⟩
  |row e size m xs=>obtain ⟨v,j1,j2,j3⟩:=hh;exact ⟨v,hvl.trans j1,j2.trans hbl.symm,j3⟩
  |ext φ=>obtain ⟨b,j1,j2⟩:=hh;exact ⟨b,hbl.trans j1,j2⟩
  |view φ m xs=>
   obtain ⟨A,c,j1,j2,j3,j4,j5⟩:=hh;refine ⟨A,c,hvl.trans j1,j2,j3,hbl.trans j4,fun j u hj=>?_⟩;obtain ⟨b,off,j6,j7,j8,j9⟩:=j5 j u hj;refine ⟨b,off,j6,j7,fun q hq=>?_,j9⟩;rw [zgv (lt_of hq)] at hq;exact j8 _ hq
  |gone=>trivial
 ·have l1:=lt_of h1
  have l2:=lt_of h2;rw [zgv l1] at h1;rw [zgv l2] at h2;obtain ⟨k,o,o2,a1,a2,a3,a4,a5⟩:=at_ i l1;obtain ⟨k',o',o2',b1,b2,b3,b4,b5⟩:=at_ j l2;have hk:=hR.inj _ _ b h1 h2;rw [a2,b2] at hk;subst hk
  have hnv:zri S k=false:=by
   cases hv:zri S k
   ·rfl
   ·exfalso
    unfold zri at hv;rw [a4] at hv
    cases o<;>simp at hv
    obtain ⟨A,c,_,_,_,j4,_⟩:=hR.own k _ a4;rw [a2,j4] at h1;cases h1
  rcases Nat.lt_trichotomy i j with h|h|h
  ·rw [zq8 hi h a1 b1] at hnv;cases hnv
  ·exact h
  ·rw [zq8 hi h b1 a1] at hnv;cases hnv
 ·have l1:=lt_of h
  rw [zgv l1] at h;exact hR.new _ b h
 ·have hgl:i<G.fix.length:=by
   rcases Nat.lt_or_ge i G.fix.length with h1|h1
   ·exact h1
   ·rw [List.getElem?_eq_none h1] at hg;cases hg
  have hil:i<S'.length:=Nat.lt_of_lt_of_le hgl (Nat.le_of_ble_eq_true hGl);obtain ⟨k,o,o2,a1,a2,_⟩:=at_ i hil;rw [zgv hil,a2];have:=zq2 hG a1 zO;rw [this,Nat.zero_add];exact hR.first i g hg
theorem FRen.den {r:Env} {f f':Fr} {σ:Nat→Nat} {n:Nat} {a:Act} (h:FRen f σ f') (hb:f'.bnd n=true) (hf:FDen r f a):FDen (r.comp σ n) f' a:=fun k=>by
 rcases h.get k with h1|h1
 ·rw [h1];simp [AV.den,Pc.den,CV.den]
 ·exact AV.den_ren _ _ (Fr.bnd_get k hb) (h1.den (hf k))
theorem zj9 {w0:World} {G:Gs} {N:Nd} {f f':Fr} {S S':List Ow} (σl:List Nat) (hf:FRen f (fun i=>σl.getD i 0) f') (hS:RLe S (fun i=>σl.getD i 0) S' σl) (hfb:f'.bnd S'.length=true) (hb:sbnd S'.length S'=true) (hi:injB S σl=true) (hG:idB G.fix.length σl 0=true) (hGl:Nat.ble G.fix.length S'.length=true):Ent w0 G N f S f' S':=
 ⟨fun _a _w ⟨_r,hR,hd,hN,hdf⟩=>⟨_,z1r hR σl hS hb hi hG hGl,hf.den hfb hd,hN,hdf⟩⟩
structure CopySt (n:Nat) (ops:List BOp) where
 k:Nat
 f:Int→Option Int
 out:List BOp
 hk:k≤n
 hm:midF f
 hl:out.length≤k
 eq:zhe zvl ops=out++zhe f (ops.drop k)
structure EqSt (l m:List BOp) where
 k:Nat
 hk:k≤l.length
 h:l.take k=m.take k
section
variable {P:Program} {w0:World} {G:Gs} {N:Nat} {c d:Code} {f:Fr} {S:List Ow} {Q:Exit→Act→World→Prop} {fn:Func} {R:Ending→World→Prop}
theorem zcm {N:Nd} {id:Nat} (h:SatQ P w0 G N d f S Q):AtQ w0 G N .normal f S (Exit.inBlock id (Exit.then (d.wpIn Fence.wide 10 P Q) Q)):=⟨fun a w hg=>h.out a w hg⟩
theorem zcg (h:resK P w0 G S f fn.results.toList fun v=>Fin w0 G S v R):AtQ w0 G ⟨N,[]⟩ .ret f S (bodyPostM Fence.wide 10 P fn R):=by
 refine ⟨fun a w ⟨r,hR,hf,hN,hd⟩=>?_⟩;obtain ⟨v,u,hK,hdn,hrun⟩:=z1t h hR hf;show LeavesInM _ _ _ _ _ _ a.defers _ _;rw [show a.defers=[] from hd];exact ⟨u,hrun,hK.out r w u hR hdn⟩
theorem zfh {fid:FuncId} (xs:List Value) (hf:P.funcs[fid]?=some fn) (hN:fn.ntmps=N) (hb:fn.body=some c) (hle:xs.length≤N) {w:World} {R:Ending→World→Prop}
  (h:SatQ P w Gs.nil ⟨N,[]⟩ c (zb1 (xs.map fun x=>AV.of x) 0) [] (bodyPostM Fence.wide 10 P fn R)):Calls P fid xs.toArray w R:=by
 refine callsIn_wide.1 (callsIn_of_wp_marks (n:=10) hf hb trivial (h.out _ w ⟨Env.none,z1o w,fun i=>?_,by simp;omega,rfl⟩));refine zb2 (r:=Env.none) (xs.map fun x=>AV.of x) xs 0 (zc6 xs) (fun j u hj=>?_) i;rw [Nat.zero_add,Array.getD_eq_getD_getElem?,Array.getElem?_append_left (by simp;rcases Nat.lt_or_ge j xs.length with h1|h1;exact h1;rw [List.getElem?_eq_none h1] at hj;cases hj)];simp [hj]
end
structure RepSt (mu:Blk→Nat) (b0:Blk) where
 b:Blk
 ok:b.ok
 hat:b.at_=b0.at_
 hpg:b.pages=b0.pages
 eq:optN (mu b0) b0=optN (mu b) b
structure CkSim (s s':Ck):Prop where
 marks:s'.marks=s.marks
 known:∀ v,z0u s v=true→z0u s' v=true
 ch:s'.changed=true→s.changed=true
theorem zur {o:BOp} {v:Int}:v∈reads o↔(hasA o.code=true∧v=o.a)∨(hasB o.code=true∧v=o.b∧o.b≠o.a):=by
 unfold reads;rw [List.mem_append]
 constructor
 ·rintro (h|h)
  ·split at h
   ·rename_i hA;exact .inl ⟨hA,by simpa using h⟩
   ·cases h
  ·split at h
   ·rename_i hB;simp at hB;exact .inr ⟨hB.1,by simpa using h,hB.2⟩
   ·cases h
 ·rintro (⟨h1,h2⟩|⟨h1,h2,h3⟩)
  ·left;rw [h1,h2];simp
  ·right;rw [if_pos (by rw [h1];simp [h3]),h2];simp
theorem zn0 {o:BOp}:znt o=true↔isOp o.code=true∧zl3 (hasD o.code) o.d=true∧zl3 (hasA o.code) o.a=true∧zl3 (hasB o.code) o.b=true∧(hasN o.code||o.n==0)=true:=by
 unfold znt;simp only [Bool.and_eq_true]
 constructor
 ·rintro ⟨⟨⟨⟨h1,h2⟩,h3⟩,h4⟩,h5⟩;exact ⟨h1,h2,h3,h4,h5⟩
 ·rintro ⟨h1,h2,h3,h4,h5⟩;exact ⟨⟨⟨⟨h1,h2⟩,h3⟩,h4⟩,h5⟩
structure DeadSim (s s':Ck) (r:List BOp):Prop where
 marks:s'.marks=s.marks
 known:∀ v,ztb r v=true→z0u s v=true→z0u s' v=true
 ch:s'.changed=true→s.changed=true
def zo5 (ops:Array Oper) (f:Fr) (o:Oper):Option Bool:=match o.guard with
 |none=>some true
 |some (j,pol)=>(match z6e ops j with
  |some d=>(match f.get d with| .p (.c (.v (.bool x)))=>some (x==pol)|_=>none)
  |none=>none)
section
variable (P:Program) (W:World) (N:Nd) (ops:Array Oper)
end
section
variable {P:Program} {W:World} {N:Nd} {ops:Array Oper}
theorem zo9 {r:Env} {f:Fr} {a:Act} {o:Oper} {x:Bool} (hf:FDen r f a) (h:zo5 ops f o=some x):Region.wanted o (yielded ops a.tmps)=x:=by
 unfold zo5 at h
 split at h
 ·rename_i hg;injection h with h;subst h;exact yad hg _
 ·rename_i j pol hg
  split at h
  ·rename_i d hs
   split at h
   ·rename_i y hy
    injection h with h;subst h;rw [yae hg,ybn hf hs hy]
    cases y<;>cases pol<;>rfl
   ·cases h
  ·cases h
theorem z3f {w0:World} {d:Code} {f:Fr} {S:List Ow} {Q:Exit→Act→World→Prop} (h:∀ r w,Rel w0 Gs.nil S r w→∃ f2,(∀ a,FDen r f a→FDen Env.none f2 a)∧SatQ P w Gs.nil N d f2 [] Q):SatQ P w0 Gs.nil N d f S Q:=
 ⟨fun a w ⟨r,hR,hf,hN,hd⟩=>by
  obtain ⟨f2,h1,h2⟩:=h r w hR
  exact h2.out a w ⟨Env.none,z1o w,h1 a hf,hN,hd⟩⟩
end
def zkg (g:Nat):Env:=⟨fun i=>if i=0 then some g else Option.none,fun _=>Option.none⟩
theorem zkh {g i b:Nat} (h:(zkg g).blk i=some b):i=0∧b=g:=by
 simp only [zkg] at h
 split at h
 ·rename_i hi;injection h with h;exact ⟨hi,h.symm⟩
 ·cases h
theorem z1q (w:World) {g:Nat} {t:TypeId} {us:List Value} (h:w.heap[g]?=some (.cells us.toArray t (0,0))):Rel w ⟨[g],[]⟩ [.cells t (us.map .v)] (zkg g) w:=by
 have hlt:g<w.heap.size:=by
  rcases Nat.lt_or_ge g w.heap.size with h1|h1
  ·exact h1
  ·rw [Array.getElem?_eq_none h1] at h;cases h
 refine ⟨rfl,rfl,rfl,Nat.le_refl _,fun k _ _=>rfl,fun i o ho=>?_,fun i j b hi hj=>?_,fun i b hb=>?_,fun i hi=>?_,fun i _=>rfl,fun i x hx=>?_⟩
 ·cases i with
  |zero=>simp at ho;subst ho;exact ⟨g,us,rfl,h,ziv us⟩
  |succ i=>simp at ho
 ·rw [(zkh hi).1,(zkh hj).1]
 ·rw [(zkh hb).2];exact ⟨hlt,fun _=> .inl zS⟩
 ·show (if i=0 then some g else Option.none)=Option.none
  have:¬i=0:=by intro e;subst e;simp at hi
  rw [if_neg this]
 ·cases i with
  |zero=>simp at hx;subst hx;rfl
  |succ i=>simp at hx
theorem Rel.grown {w0:World} {g:Nat} {S:List Ow} {r:Env} {w:World} (h:Rel w0 ⟨[g],[]⟩ S r w):w0.grownBy w (some g):=
 ⟨h.os,h.tape,h.output,h.size,fun k hk hn=>h.old k hk (by
  rintro (h1|h1)
  ·simp at h1;exact hn (by rw [h1])
  ·cases h1)⟩
theorem zmo {w0:World} {g:Nat} {S:List Ow} {t:TypeId} {us:List Value} {v:AV} {x:Value} {R:Ending→World→Prop} (hv:v.val=some x) (h0:S[0]?=some (.cells t (us.map .v))) (h:∀ w,w.heap[g]?=some (.cells us.toArray t (0,0))→w0.grownBy w (some g)→R (.returned x) w):Fin w0 ⟨[g],[]⟩ S v R:=by
 refine ⟨fun r w u hR hd=>?_⟩;obtain rfl:=AV.val_den hv hd;obtain ⟨b,us',e1,e2,e3⟩:=hR.own 0 _ h0;have:=hR.first 0 g rfl;rw [this] at e1;injection e1 with e1;subst e1;obtain rfl:=ziw e3;exact h w e2 hR.grown
def zak (w0:World) (G:Gs) (w:World) (g:Nat):Prop:=∀ A ys,zao w0 G A ys→zao w ⟨[g],[]⟩ A ys
theorem Rel.oldKeep {w0:World} {G:Gs} {S:List Ow} {r:Env} {w:World} (hR:Rel w0 G S r w) {i g:Nat} (hg:r.blk i=some g):zak w0 G w g:=by
 intro A ys h j u hj;obtain ⟨b,off,e1,e2,e3,e4⟩:=h j u hj
 have hne:b≠g:=by
  intro e;subst e;exact e3 ((hR.new i b hg).2 e2)
 refine ⟨b,off,e1,Nat.lt_of_lt_of_le e2 hR.size,?_,by rw [hR.oldCell e2 e3];exact e4⟩;rintro (h1|h1)
 ·simp at h1;exact hne h1
 ·cases h1
theorem ze9 {P:Program} {w0:World} {G:Gs} {fid:FuncId} {S:List Ow} {K:AV→List Ow→Prop} {t:TypeId} {us:List Value} {args:List AV} {xs:List Value} (post:Value→List Value→Prop) (i:Nat) (hi:S[i]?=some (.cells t (us.map .v))) (hx:avals args=some xs) (hok:fnOk P fid=true)
  (h:∀ w g,zak w0 G w g→w.heap[g]?=some (.cells us.toArray t (0,0))→Calls P fid (.pointer (some ⟨g,0,none⟩)::xs).toArray w fun e w'=>∃ x us',post x us'∧e= .returned x∧w'.heap[g]?=some (.cells us'.toArray t (0,0))∧w.grownBy w' (some g))
  (hK:∀ x us',post x us'→K (AV.of x) (S.set i (.cells t (us'.map .v)))):CallS P w0 G fid (.p (.c (.ref i 0))::args) S K:=by
 refine ⟨hok,fun r w vs hR hd=>?_⟩;obtain ⟨u1,l1,rfl,d1,d2⟩:=hd;obtain rfl:=zcs hx d2;obtain ⟨g,hb,rfl⟩:=zi4 d1;obtain ⟨b',us1,e1,e2,e3⟩:=hR.own i _ hi;rw [hb] at e1;injection e1 with e1;subst e1;obtain rfl:=ziw e3;refine (h w g (hR.oldKeep hb) e2).mono fun e w' ⟨x,us',hp,he,hg,hgr⟩=>?_;exact ⟨AV.of x,x,_,r,he,AV.of_den r x,hR.setBlock (o:= .cells t (us'.map .v)) hb hgr ⟨g,us',hb,hg,ziv us'⟩ (hR.lt_of_blk hb),Env.le.refl r,hK x us' hp⟩
inductive Tr where
 |done
 |q (i:Nat) (t:Tr)
 |alt (i:Nat) (t more:Tr)
 |no
def Tr.alts:Tr→List Nat
 | .alt i _ more=>i::more.alts
 |_=>[]
def Tr.depth:Tr→Nat
 | .done=>0
 | .no=>0
 | .q _ t=>t.depth+1
 | .alt _ t more=>max (t.depth+1) more.depth
def Tr.ok (ops:Array Oper):Tr→Bool→Array Bool→Bool
 | .done,inner,listed=> !inner&&(Region.ready .any ops listed).isEmpty
 | .q i t,inner,listed=> !inner&&Region.free .any ops listed i&&(Region.ready .any ops listed).contains i&&t.ok ops false (listed.setIfInBounds i true)
 | .alt i t more,inner,listed=>(inner||Region.ready .any ops listed==i::more.alts)&&t.ok ops false (listed.setIfInBounds i true)&&more.ok ops true listed
 | .no,inner,_=>inner
section
variable (P:Program) (W:World) (N:Nd)
end
section
variable {P:Program} {W:World} {N:Nd} {ops:Array Oper} {l:List Oper}
end
section
variable {P:Program} {w0:World} {G:Gs} {N:Nd} {c d:Code} {f:Fr} {S:List Ow} {Q:Exit→Act→World→Prop}
theorem z23 {x:Operand} {t:Bool} (ht:f.ev x=one (.bool t)) (h1:t=true→SatQ P w0 G N c f S Q) (h2:t=false→SatQ P w0 G N d f S Q):SatQ P w0 G N (.cond x c d) f S Q:=by
 refine ⟨fun a w hg=>?_⟩;obtain ⟨r,hR,hf,hN,hd⟩:=hg;have hc:=hf.ev x;rw [ht] at hc;have hc:=zi6 hc;exact wpIn_cond_split hc (fun e=>(h1 e).out a w ⟨r,hR,hf,hN,hd⟩) (fun e=>(h2 e).out a w ⟨r,hR,hf,hN,hd⟩)
theorem z3j (h:AtQ w0 G N .normal f S Q):SatQ P w0 G N .skip f S Q:=⟨fun a w hg=>wpIn_skip (h.out a w hg)⟩
theorem zcd {d:Code} (h:SatQ P w0 G N d f S Q):AtQ w0 G N .normal f S (Exit.then (d.wpIn Fence.wide 10 P Q) Q):=⟨fun a w hg=>h.out a w hg⟩
theorem zb6 {id:Nat} (h:AtQ w0 G N .normal f S Q):AtQ w0 G N (.exit id) f S (Exit.inBlock id Q):=⟨fun a w hg=>by
 show (if id=id then Q .normal a w else _)
 rw [if_pos rfl];exact h.out a w hg⟩
theorem zb4 {id:Nat} (h:AtQ w0 G N .normal f S Q):AtQ w0 G N .normal f S (Exit.inBlock id Q):=⟨fun a w hg=>h.out a w hg⟩
theorem zb3 {e:Exit} {f':Fr} {S':List Ow} (h:Ent w0 G N f S f' S') (k:AtQ w0 G N e f' S' Q):AtQ w0 G N e f S Q:=⟨fun a w hg=>k.out a w (h.out a w hg)⟩
def MidQ {α:Type} (w0:World) (G:Gs) (N:Nd) (T:α→Fr) (U:α→List Ow) (Q:Exit→Act→World→Prop):Exit→Act→World→Prop:=fun e a w=>match e with
 | .normal=>∃ y,Good w0 G N (T y) (U y) a w
 |e=>Q e a w
theorem z3c {α:Type} (T:α→Fr) (U:α→List Ow) (hc:SatQ P w0 G N c f S (MidQ w0 G N T U Q)) (hd:∀ y,SatQ P w0 G N d (T y) (U y) Q):SatQ P w0 G N (.seq c d) f S Q:=
 z25 ⟨fun a w hg=>wpIn_mono (hc.out a w hg) fun e a' w' hq=>by
  cases e with
  |normal=>obtain ⟨y,hy⟩:=hq;exact (hd y).out a' w' hy
  |exit id=>exact hq
  |goto l=>exact hq
  |ret=>exact hq
  |panic ch=>exact hq
  |outgrown=>exact hq⟩
theorem zb8 {α:Type} {T:α→Fr} {U:α→List Ow} (y:α) (h:Ent w0 G N f S (T y) (U y)):AtQ w0 G N .normal f S (MidQ w0 G N T U Q):=⟨fun a w hg=>⟨y,h.out a w hg⟩⟩
def zam {α:Type} (w0:World) (G:Gs) (N:Nd) (T:α→Fr) (U:α→List Ow) (m:α→Nat) (n:Nat) (Q:Exit→Act→World→Prop):Exit→Act→World→Prop:=fun e a w=>match e with
 | .normal=>∃ y,Good w0 G N (T y) (U y) a w∧m y<n
 |e=>Q e a w
theorem zcb {α:Type} {T:α→Fr} {U:α→List Ow} {m:α→Nat} {n:Nat} (y:α) (h:Ent w0 G N f S (T y) (U y)) (hm:m y<n):AtQ w0 G N .normal f S (zam w0 G N T U m n Q):=⟨fun a w hg=>⟨y,h.out a w hg,hm⟩⟩
theorem zce {α:Type} {T:α→Fr} {U:α→List Ow} {m:α→Nat} {n:Nat} {id:Nat} (h:AtQ w0 G N (.exit id) f S Q):AtQ w0 G N (.exit id) f S (zam w0 G N T U m n Q):=⟨fun a w hg=>h.out a w hg⟩
theorem z29 {α:Type} (T:α→Fr) (U:α→List Ow) (m:α→Nat) (x0:α) (h0:Ent w0 G N f S (T x0) (U x0)) (hround:∀ x,SatQ P w0 G N c (T x) (U x) (zam w0 G N T U m (m x) Q)):SatQ P w0 G N (.loop c) f S Q:=by
 refine ⟨fun a w hg=>?_⟩;intro b k cs hro hb hr
 have key:∀ (n:Nat) (x:α),m x=n→∀ a w,Good w0 G N (T x) (U x) a w→∃ e a' w',Q e a' w'∧ArrivesIn (Machine.fenced P Fence.wide) P (lone (b.atR a (.code c:: .inLoop c::k)) cs w) b k cs e a' w':=by
  intro n
  induction n using Nat.strongRecOn with
  |_ n ih=>
   intro x hx a w hg;obtain ⟨e,a',w',hq,harr⟩:=(hround x).out a w hg b (.inLoop c::k) cs hro hb hr
   cases e with
   |normal=>
    obtain ⟨y,hgy,hlt⟩:=hq;obtain ⟨e2,a2,w2,hq2,harr2⟩:=ih (m y) zO y rfl a' w' hgy;exact ⟨e2,a2,w2,hq2,.of_steps (StepsIn.trans harr (.one (fenced_calm hb hr rfl) stepR_inLoop)) harr2⟩
   |exit id=>exact ⟨_,a',w',hq,.pass (x:= .inLoop c) rfl (fun _ _=> .inl zS) harr⟩
   |goto l=>exact ⟨_,a',w',hq,.pass (x:= .inLoop c) rfl (fun _ _=> .inl zS) harr⟩
   |ret=>exact ⟨_,a',w',hq,.pass (x:= .inLoop c) rfl (fun _ _=> .inl zS) harr⟩
   |panic ch=>exact ⟨_,a',w',hq,.pass (x:= .inLoop c) rfl (fun _ _=> .inl zS) harr⟩
   |outgrown=>exact ⟨_,a',w',hq,.pass (x:= .inLoop c) rfl (fun _ _=> .inl zS) harr⟩
 obtain ⟨e,a',w',hq,harr⟩:=key _ x0 rfl a w (h0.out a w hg);exact ⟨e,a',w',hq,.of_steps (.one (fenced_calm hb hr rfl) stepR_loop) harr⟩
end
theorem Rel.snocs {w0:World} {G:Gs} {S:List Ow} {r:Env} {w w':World} (h:Rel w0 G S r w) (hb:Below w.heap.size w w') (T:List Ow) (r':Env) (hle:∀ i,i<S.length→r'.blk i=r.blk i∧r'.val i=r.val i) (hnb:∀ i x,S.length≤i→r'.blk i=some x→w.heap.size≤x∧x<w'.heap.size) (hinj:∀ i j x,S.length≤i→S.length≤j→r'.blk i=some x→r'.blk j=some x→i=j)
  (hout:∀ i,S.length+T.length≤i→r'.blk i=none∧r'.val i=none) (ho:∀ (j:Nat) (o:Ow),T[j]?=some o→o.holds r' w' (S.length+j)):Rel w0 G (S++T) r' w'∧r.le r':=by
 have h':=h.below hb
 have hleB:∀ i x,r.blk i=some x→r'.blk i=some x:=fun i x hx=>by
  rcases Nat.lt_or_ge i S.length with h1|h1
  ·rw [(hle i h1).1];exact hx
  ·rw [h.outB i h1] at hx;cases hx
 have hleV:∀ i x,r.val i=some x→r'.val i=some x:=fun i x hx=>by
  rcases Nat.lt_or_ge i S.length with h1|h1
  ·rw [(hle i h1).2];exact hx
  ·rw [h.outV i h1] at hx;cases hx
 have hle':r.le r':=⟨hleB,hleV⟩
 refine ⟨⟨h'.os,h'.tape,h'.output,h'.size,h'.old,fun i o' hi=>?_,fun i j x hx hy=>?_,fun i x hx=>?_,fun i hi=>?_,fun i hi=>?_,fun i g hg=>hleB i g (h.first i g hg)⟩,hle'⟩
 ·rcases Nat.lt_or_ge i S.length with h1|h1
  ·rw [List.getElem?_append_left h1] at hi
   refine Ow.holds_block (Ow.holds_mono hle' (h.own i o' hi) (hle i h1).1 (fun k x hk=>?_)) (fun x hx=>hb.block x ?_) hb.size (fun x hx _=>hb.block x hx)
   ·rcases Nat.lt_or_ge k S.length with h2|h2
    ·left;rw [← (hle k h2).1];exact hk
    ·exact .inr (hnb k x h2 hk).1
   ·rw [(hle i h1).1] at hx;exact (h.new i x hx).1
  ·rw [List.getElem?_append_right h1] at hi
   have:=ho (i-S.length) o' hi
   rwa [show S.length+(i-S.length)=i by omega] at this
 ·rcases Nat.lt_or_ge i S.length with h1|h1<;>rcases Nat.lt_or_ge j S.length with h2|h2
  ·rw [(hle i h1).1] at hx;rw [(hle j h2).1] at hy;exact h.inj _ _ _ hx hy
  ·rw [(hle i h1).1] at hx
   have:=(h.new i x hx).1;have:=(hnb j x h2 hy).1;omega
  ·rw [(hle j h2).1] at hy
   have:=(h.new j x hy).1;have:=(hnb i x h1 hx).1;omega
  ·exact hinj i j x h1 h2 hx hy
 ·rcases Nat.lt_or_ge i S.length with h1|h1
  ·rw [(hle i h1).1] at hx;exact h'.new i x hx
  ·have:=hnb i x h1 hx
   refine ⟨this.2,fun hlt=>?_⟩;have:=h.size;omega
 ·exact (hout i (by simpa using hi)).1
 ·exact (hout i (by simpa using hi)).2
structure Rows3 (B:Nat) (w':World) (v1 v2 v3:Value) (b:Blk):Prop where
 at_:w'.ownsRow B 41 1 v1 b.at_.length (b.at_.map (.int .u32))
 pages:w'.ownsRow B 3 1 v2 b.pages.length (b.pages.map (.int .i64))
 ops:w'.ownsRow B 61 5 v3 b.ops.length (b.ops.flatMap opC)
 d12:∀ x,v1.ownBlock=some x→v2.ownBlock≠some x
 d13:∀ x,v1.ownBlock=some x→v3.ownBlock≠some x
 d23:∀ x,v2.ownBlock=some x→v3.ownBlock≠some x
def zo6 (ops:Array Oper) (f:Fr) (o:Oper):Option Bool:=match o.guard with
 |none=>some true
 |some (j,pol)=>(match z6e ops j with
  |some d=>(match f.get d with
   | .p (.c (.v (.bool x)))=>some (x==pol)
   | .p (.c (.v (.tuple _)))=>some false
   |_=>none)
  |none=>none)
def zpc (P:Program) (W:World) (G:Gs) (N:Nd) (ops:Array Oper):List Oper→Fr→List Ow→(Fr→List Ow→Prop)→Prop
 |[],f,S,K=>K f S
 |o::l,f,S,K=>match o.guard with
  |none=>opK P W G N o f S fun f' S'=>zpc P W G N ops l f' S' K
  |some _=>(match zo6 ops f o with
  |some x=>(x=true→opK P W G N o f S fun f' S'=>zpc P W G N ops l f' S' K)∧(x=false→(match zjc N.n o.dst with
   |true=>f.putK o.dst (one undef) fun f'=>zpc P W G N ops l f' S K
   |false=>False))
  |none=>False)
section
variable {P:Program} {w0:World} {G:Gs} {N:Nd} {c d:Code} {f:Fr} {S:List Ow} {Q:Exit→Act→World→Prop}
theorem zo7 {ops:Array Oper} {r:Env} {a:Act} {o:Oper} {x:Bool} (hf:FDen r f a) (h:zo6 ops f o=some x):Region.wanted o (yielded ops a.tmps)=x:=by
 unfold zo6 at h
 split at h
 ·rename_i hg;injection h with h;subst h;exact yad hg _
 ·rename_i j pol hg
  split at h
  ·rename_i d hs
   split at h
   ·rename_i y hy
    injection h with h;subst h;rw [yae hg,ybn hf hs hy]
    cases y<;>cases pol<;>rfl
   ·rename_i vs hy
    injection h with h;subst h;rw [yae hg];have hv:=hf d;rw [hy] at hv;have hv:=zi6 hv;unfold z6e at hs
    have:yielded ops a.tmps j=none:=by
     unfold yielded;rw [hs];show (match a.tmps[d]? with|some (.bool b)=>some b|_=>none)=none;rw [Array.getD_eq_getD_getElem?] at hv
     cases hd:a.tmps[d]? with
     |none=>rfl
     |some v=>
      rw [hd] at hv;simp at hv;subst hv;rfl
    rw [this]
    cases pol<;>rfl
   ·cases h
  ·cases h
theorem zpd {ops:Array Oper} {Q:Act→World→Prop}:∀ (l:List Oper) (f:Fr) (S:List Ow) (K:Fr→List Ow→Prop),zpc P w0 G N ops l f S K→(∀ f' S' a' w',K f' S'→Good w0 G N f' S' a' w'→Q a' w')→
  ∀ a w,Good w0 G N f S a w→seL P ops Q l a w
 |[],f,S,K,h,hK,a,w,hg=>hK _ _ _ _ h hg
 |o::l,f,S,K,h,hK,a,w,hg=>by
  obtain ⟨r,hR,hf,hN,hd⟩:=hg;unfold zpc at h
  split at h
  ·rename_i hg
   unfold seL;rw [if_pos (yad hg _)];exact (zwp h).out r a w hR hf hN hd _ (fun _ _ _=>True) fun f' S' a' w' hk hg'=>zpd l f' S' K hk hK a' w' hg'
  rename_i _ _ _
  split at h
  ·rename_i x hgd
   have hw:=zo7 hf hgd
   cases x with
   |true=>
    unfold seL;rw [if_pos hw];exact (zwp (h.1 rfl)).out r a w hR hf hN hd _ (fun _ _ _=>True) fun f' S' a' w' hk hg'=>zpd l f' S' K hk hK a' w' hg'
   |false=>
    have h:=h.2 rfl
    split at h
    ·rename_i hdst
     have hk:=zy5.1 h;unfold seL;rw [if_neg (by rw [hw];decide)];exact zpd l _ S K hk hK _ w ⟨r,hR,hf.put (zi3 _ _) (by rw [hN];exact hdst),(zzh a _ _).trans hN,(zze a _ _).trans hd⟩
    ·exact h.elim
  ·exact h.elim
theorem zco {Q':Exit→Act→World→Prop} (h:AtQ w0 G N .ret f S Q) (hQ:∀ a w,Q .ret a w→Q' .ret a w):AtQ w0 G N .ret f S Q':=⟨fun a w hg=>hQ a w (h.out a w hg)⟩
theorem z3e {id:Nat} {ops:Array Oper} (h:zpc P w0 G N ops ops.toList f S fun f' S'=>AtQ w0 G N .normal f' S' Q):SatQ P w0 G N (.region id ops false) f S Q:=
 ⟨fun a w hg=>wpIn_region_list (z3s none 10 (zpd _ f S _ h (fun _f' _S' a' w' hk hg'=>hk.out a' w' hg') a w hg))⟩
end
def zkf (gs:List Nat):Env:=⟨fun i=>gs[i]?,fun _=>Option.none⟩
structure ObjsAt (w:World) (gs:List Nat) (U:List Ow):Prop where
 len:U.length=gs.length
 nodup:∀ (i j b:Nat),gs[i]?=some b→gs[j]?=some b→i=j
 lt:∀ g∈gs,g<w.heap.size
 own:∀ (i:Nat) (o:Ow),U[i]?=some o→o.holds (zkf gs) w i
structure GrownBys (w w':World) (gs:List Nat):Prop where
 os:w'.os=w.os
 tape:w'.tape=w.tape
 output:w'.output=w.output
 size:w.heap.size≤w'.heap.size
 block:∀ k,k<w.heap.size→k∉gs→w'.heap[k]?=w.heap[k]?
theorem z1p {w:World} {gs:List Nat} {U:List Ow} (h:ObjsAt w gs U):Rel w ⟨gs,[]⟩ U (zkf gs) w:=by
 refine ⟨rfl,rfl,rfl,Nat.le_refl _,fun k _ _=>rfl,h.own,h.nodup,fun i b hb=>?_,fun i hi=>?_,fun i _=>rfl,fun i g hg=>hg⟩
 ·have hm:b∈gs:=List.mem_of_getElem? hb
  exact ⟨h.lt b hm,fun _=> .inl hm⟩
 ·show gs[i]?=Option.none
  exact List.getElem?_eq_none (by rw [← h.len];exact hi)
def CV.ob (n:Nat):CV→Bool
 | .v _=>true
 | .ref i _=>Nat.blt i n
 | .sl i _ _ _=>Nat.blt i n
 |_=>false
def CV.sh (k:Nat):CV→CV
 | .ref i o=> .ref (k+i) o
 | .sl i o n c=> .sl (k+i) o n c
 |c=>c
theorem CV.den_sh {r r':Env} {n k:Nat} (h:∀ i b,i<n→r.blk (k+i)=some b→r'.blk i=some b):∀ {c:CV} {u:Value},c.ob n=true→(c.sh k).den r u→c.den r' u
 | .v x,u,_,hd=>by simpa only [CV.den,CV.sh] using hd
 | .ref i off,u,hb,hd=>by
  simp only [CV.den,CV.sh] at hd⊢;obtain ⟨x,hx,hu⟩:=hd;exact ⟨x,h i x (by simpa [CV.ob,Nat.blt_eq] using hb) hx,hu⟩
 | .sl i off m c,u,hb,hd=>by
  simp only [CV.den,CV.sh] at hd⊢;obtain ⟨x,hx,hu⟩:=hd;exact ⟨x,h i x (by simpa [CV.ob,Nat.blt_eq] using hb) hx,hu⟩
 | .any,u,hb,_=>by cases hb
 | .vref ..,_,hb,_=>by cases hb
 | .row ..,_,hb,_=>by cases hb
 | .mp ..,_,hb,_=>by cases hb
 | .clo ..,_,hb,_=>by cases hb
theorem CV.sh_den {r r':Env} {n k:Nat} (h:∀ i b,i<n→r'.blk i=some b→r.blk (k+i)=some b):∀ {c:CV} {u:Value},c.ob n=true→c.den r' u→(c.sh k).den r u
 | .v x,u,_,hd=>by simpa only [CV.den,CV.sh] using hd
 | .ref i off,u,hb,hd=>by
  simp only [CV.den,CV.sh] at hd⊢;obtain ⟨x,hx,hu⟩:=hd;exact ⟨x,h i x (by simpa [CV.ob,Nat.blt_eq] using hb) hx,hu⟩
 | .sl i off m c,u,hb,hd=>by
  simp only [CV.den,CV.sh] at hd⊢;obtain ⟨x,hx,hu⟩:=hd;exact ⟨x,h i x (by simpa [CV.ob,Nat.blt_eq] using hb) hx,hu⟩
 | .any,u,hb,_=>by cases hb
 | .vref ..,_,hb,_=>by cases hb
 | .row ..,_,hb,_=>by cases hb
 | .mp ..,_,hb,_=>by cases hb
 | .clo ..,_,hb,_=>by cases hb
theorem zit {r r':Env} {n k:Nat} (h:∀ i b,i<n→r.blk (k+i)=some b→r'.blk i=some b):∀ {l:List CV} {us:List Value},(∀ c∈l,c.ob n=true)→denL r (l.map (CV.sh k)) us→denL r' l us
 |[],us,_,hd=>by simpa only [denL,List.map_nil] using hd
 |c::cs,us,hb,hd=>by
  simp only [List.map_cons,denL] at hd⊢;obtain ⟨u,l,hu,hc,hl⟩:=hd;exact ⟨u,l,hu,CV.den_sh h (hb c zS) hc,zit h (fun x hx=>hb x (by simp [hx])) hl⟩
theorem z4t {r r':Env} {n k:Nat} (h:∀ i b,i<n→r'.blk i=some b→r.blk (k+i)=some b):∀ {l:List CV} {us:List Value},(∀ c∈l,c.ob n=true)→denL r' l us→denL r (l.map (CV.sh k)) us
 |[],us,_,hd=>by simpa only [denL,List.map_nil] using hd
 |c::cs,us,hb,hd=>by
  simp only [List.map_cons,denL] at hd⊢;obtain ⟨u,l,hu,hc,hl⟩:=hd;exact ⟨u,l,hu,CV.sh_den h (hb c zS) hc,z4t h (fun x hx=>hb x (by simp [hx])) hl⟩
def Ow.Ob (n:Nat):Ow→Prop
 | .cells _ l=>∀ c∈l,c.ob n=true
 |_=>False
def zaj (n:Nat) (U:List Ow):Prop:=∀ o∈U,o.Ob n
def Ow.Sh (k:Nat):Ow→Ow→Prop
 | .cells t l,.cells t' l'=>t=t'∧l'=l.map (CV.sh k)
 |_,_=>False
def ShAll (k:Nat):List Ow→List Ow→Prop
 |[],[]=>True
 |o::U,o'::V=>o.Sh k o'∧ShAll k U V
 |_,_=>False
theorem ShAll.length {k:Nat}:∀ {U V:List Ow},ShAll k U V→U.length=V.length
 |[],[],_=>rfl
 |_::_,_::_,h=>by simp [h.2.length]
 |[],_::_,h=>h.elim
 |_::_,[],h=>h.elim
theorem ShAll.get {k:Nat}:∀ {U V:List Ow} (i:Nat),ShAll k U V→∀ {o},U[i]?=some o→∃ o',V[i]?=some o'∧o.Sh k o'
 |[],[],i,_,o,h=>by simp at h
 |a::U,b::V,0,hs,o,h=>by simp at h;subst h;exact ⟨b,rfl,hs.1⟩
 |a::U,b::V,i+1,hs,o,h=>by simpa using ShAll.get i hs.2 (by simpa using h)
 |[],_::_,_,h,_,_=>h.elim
 |_::_,[],_,h,_,_=>h.elim
theorem ShAll.get' {k:Nat}:∀ {U V:List Ow} (i:Nat),ShAll k U V→∀ {o},V[i]?=some o→∃ o',U[i]?=some o'∧o'.Sh k o
 |[],[],i,_,o,h=>by simp at h
 |a::U,b::V,0,hs,o,h=>by simp at h;subst h;exact ⟨a,rfl,hs.1⟩
 |a::U,b::V,i+1,hs,o,h=>by simpa using ShAll.get' i hs.2 (by simpa using h)
 |[],_::_,_,h,_,_=>h.elim
 |_::_,[],_,h,_,_=>h.elim
section
variable {P:Program} {w0:World} {G:Gs} {N:Nat} {c:Code} {fn:Func} {R:Ending→World→Prop}
theorem zff {fid:FuncId} {w:World} {gs:List Nat} {U:List Ow} (avs:List AV) (args:List Value) (hf:P.funcs[fid]?=some fn) (hN:fn.ntmps=N) (hb:fn.body=some c) (hle:args.length≤N) (hU:ObjsAt w gs U) (hargs:zc1 (zkf gs) avs args)
  (h:SatQ P w ⟨gs,[]⟩ ⟨N,[]⟩ c (zb1 avs 0) U (bodyPostM Fence.wide 10 P fn R)):Calls P fid args.toArray w R:=by
 refine callsIn_wide.1 (callsIn_of_wp_marks (n:=10) hf hb trivial (h.out _ w ⟨zkf gs,z1p hU,fun i=>?_,by simp;omega,rfl⟩));refine zb2 (r:=zkf gs) avs args 0 hargs (fun j u hj=>?_) i;rw [Nat.zero_add,Array.getD_eq_getD_getElem?,Array.getElem?_append_left (by simp;rcases Nat.lt_or_ge j args.length with h1|h1;exact h1;rw [List.getElem?_eq_none h1] at hj;cases hj)];have:args.toArray[j]?=some u:=(by simpa using hj);rw [this];rfl
theorem zfe {fid:FuncId} {w:World} {gs:List Nat} {U:List Ow} (avs:List AV) (args:List Value) (hf:P.funcs[fid]?=some fn) (hN:fn.ntmps=N) (hb:fn.body=some c) (hle:args.length≤N) (hU:ObjsAt w gs U) (hargs:zc1 (zkf gs) avs args)
  (h:vc none P w ⟨gs,[]⟩ ⟨N,[]⟩ c (zb1 avs 0) U (RetK P w ⟨gs,[]⟩ fn.results.toList R)):Calls P fid args.toArray w R:=
 zfl hf hN hb (z1p hU) hargs hle h
theorem Rel.growns {gs:List Nat} {S:List Ow} {r:Env} {w:World} (h:Rel w0 ⟨gs,[]⟩ S r w):GrownBys w0 w gs:=
 ⟨h.os,h.tape,h.output,h.size,fun k hk hn=>h.old k hk (by
  rintro (h1|h1)
  ·exact hn h1
  ·cases h1)⟩
theorem Rel.objs {gs:List Nat} {S U:List Ow} {r:Env} {w:World} (h:Rel w0 ⟨gs,[]⟩ S r w) (hlen:U.length=gs.length) (hU:∀ (i:Nat) (o:Ow),U[i]?=some o→S[i]?=some o) (hob:zaj gs.length U):ObjsAt w gs U:=by
 have hblk:∀ i b,gs[i]?=some b→r.blk i=some b:=fun i b hb=>h.first i b hb;refine ⟨hlen,fun i j b hi hj=>h.inj i j b (hblk i b hi) (hblk j b hj),fun g hg=>?_,fun i o ho=>?_⟩
 ·obtain ⟨i,hi⟩:=List.getElem?_of_mem hg
  exact (h.new i g (hblk i g hi)).1
 ·have hio:=h.own i o (hU i o ho)
  have hb:=hob o (List.mem_of_getElem? ho)
  cases o with
  |cells t l=>
   obtain ⟨b,us,e1,e2,e3⟩:=hio
   have hi:i<gs.length:=by
    rw [← hlen];rcases Nat.lt_or_ge i U.length with h1|h1
    ·exact h1
    ·rw [List.getElem?_eq_none h1] at ho;cases ho
   have hg:gs[i]?=some b:=by
    obtain ⟨g,hg⟩:∃ g,gs[i]?=some g:=⟨_,List.getElem?_eq_getElem hi⟩
    have:=hblk i g hg;rw [e1] at this;injection this with this;rw [this];exact hg
   refine ⟨b,us,hg,e2,?_⟩;refine zit (k:=0) (n:=gs.length) (r:=r) (fun i b hi hb=>?_) hb ?_
   ·obtain ⟨g,hg⟩:∃ g,gs[i]?=some g:=⟨_,List.getElem?_eq_getElem hi⟩
    have:=hblk i g hg;rw [Nat.zero_add] at hb;rw [hb] at this;injection this with this;rw [this];exact hg
   ·have:∀ l:List CV,l.map (CV.sh 0)=l:=fun l=>by
     refine (List.map_congr_left fun c _=>?_).trans (List.map_id l)
     cases c<;>simp [CV.sh]
    rw [this];exact e3
  |row=>exact hb.elim
  |ext=>exact hb.elim
  |view=>exact hb.elim
  |gone=>exact hb.elim
theorem zmn {gs:List Nat} {S U:List Ow} {v:AV} {x:Value} (hv:v.val=some x) (hlen:U.length=gs.length) (hU:∀ (i:Nat) (o:Ow),U[i]?=some o→S[i]?=some o) (hob:zaj gs.length U) (h:∀ w,ObjsAt w gs U→GrownBys w0 w gs→R (.returned x) w):Fin w0 ⟨gs,[]⟩ S v R:=by
 refine ⟨fun r w u hR hd=>?_⟩;obtain rfl:=AV.val_den hv hd;exact h w (hR.objs hlen hU hob) hR.growns
end
def OldKeeps (w0:World) (G:Gs) (w:World) (gs:List Nat):Prop:=∀ b,b<w0.heap.size→b∉G→b<w.heap.size∧b∉gs∧w.heap[b]?=w0.heap[b]?
theorem OldKeeps.cells {w0:World} {G:Gs} {w:World} {gs:List Nat} (h:OldKeeps w0 G w gs) {b off:Nat} {xs:List Value} (hc:zac w0 G b off xs):zac w ⟨gs,[]⟩ b off xs:=by
 obtain ⟨h1,h2,h3⟩:=hc;obtain ⟨k1,k2,k3⟩:=h b h1 h2;refine ⟨k1,?_,fun j u hj=>?_⟩
 ·rintro (h4|h4)
  ·exact k2 h4
  ·cases h4
 ·have:=h3 j u hj
  unfold World.cell? at this⊢;rw [k3];exact this
def putS (S:List Ow) (k:Nat):List Ow→List Ow
 |[]=>S
 |o::V=>putS (S.set k o) (k+1) V
theorem zy7:∀ (V:List Ow) (S:List Ow) (k:Nat),(putS S k V).length=S.length
 |[],S,k=>rfl
 |o::V,S,k=>by simp [putS,zy7 V]
theorem zy6:∀ (V:List Ow) (S:List Ow) (k j:Nat),k+V.length≤S.length→(putS S k V)[j]?=if k≤j∧j<k+V.length then V[j-k]? else S[j]?
 |[],S,k,j,h=>by rw [if_neg zS];rfl
 |o::V,S,k,j,h=>by
  simp only [List.length_cons] at h;show (putS (S.set k o) (k+1) V)[j]?=_;rw [zy6 V _ (k+1) j zV];by_cases h1:k+1≤j∧j<k+1+V.length
  ·rw [if_pos h1,if_pos (by simp only [List.length_cons];omega),show j-k=(j-(k+1))+1 by omega,List.getElem?_cons_succ]
  ·rw [if_neg h1]
   by_cases h2:j=k
   ·subst h2
    rw [List.getElem?_set_self zO,if_pos (by simp only [List.length_cons];omega),Nat.sub_self];rfl
   ·rw [List.getElem?_set_ne (fun e=>h2 e.symm),if_neg (by simp only [List.length_cons];omega)]
theorem zc7 {r:Env}:∀ {l m:List AV} {us:List Value},zc1 r (l++m) us→∃ us1 us2,us=us1++us2∧zc1 r l us1∧zc1 r m us2
 |[],m,us,h=>⟨[],us,rfl,rfl,h⟩
 |x::l,m,us,h=>by
  obtain ⟨u,l',rfl,h1,h2⟩:=h;obtain ⟨us1,us2,rfl,h3,h4⟩:=zc7 h2;exact ⟨u::us1,us2,rfl,⟨u,us1,rfl,h1,h3⟩,h4⟩
theorem ze8 {P:Program} {w0:World} {G:Gs} {fid:FuncId} {S:List Ow} {K:AV→List Ow→Prop} {pre suf:List AV} {xs ys:List Value} {α:Type} (k:Nat) (U V:List Ow) (U' V':α→List Ow) (X:α→Value) (post:α→Prop) (hpos:0<U.length) (hsh:ShAll k U V) (hob:zaj U.length U) (hS:∀ i,i<U.length→S[k+i]?=V[i]?)
  (hx:avals pre=some xs) (hy:avals suf=some ys) (hok:fnOk P fid=true) (hsh':∀ x,post x→ShAll k (U' x) (V' x)) (hob':∀ x,post x→zaj U.length (U' x)) (hlen':∀ x,post x→(U' x).length=U.length)
  (h:∀ w g gs,OldKeeps w0 G w (g::gs)→ObjsAt w (g::gs) U→Calls P fid (xs++ .pointer (some ⟨g,0,none⟩)::ys).toArray w fun e w'=>∃ x,post x∧e= .returned (X x)∧ObjsAt w' (g::gs) (U' x)∧GrownBys w w' (g::gs))
  (hK:∀ x,post x→K (AV.of (X x)) (putS S k (V' x))):CallS P w0 G fid (pre++ .p (.c (.ref k 0))::suf) S K:=by
 refine ⟨hok,fun r w vs hR hd=>?_⟩
 have hSlen:k+U.length≤S.length:=by
  have h1:=hS (U.length-1) zO;obtain ⟨o',h2,_⟩:=hsh.get (U.length-1) (List.getElem?_eq_getElem zO:U[U.length-1]?=some U[U.length-1]);rw [h2] at h1;rcases Nat.lt_or_ge (k+(U.length-1)) S.length with h3|h3
  ·omega
  ·rw [List.getElem?_eq_none h3] at h1;cases h1
 have hblk:∀ i,i<U.length→∃ b,r.blk (k+i)=some b:=fun i hi=>by
  obtain ⟨o',h2,h3⟩:=hsh.get i (List.getElem?_eq_getElem hi);have h4:=hR.own (k+i) o' (by rw [hS i hi,h2]);have h5:=hob _ (List.getElem_mem hi)
  cases hu:U[i] with
  |cells t l=>
   rw [hu] at h3
   cases o' with
   |cells t' l'=>obtain ⟨b,us,e1,_⟩:=h4;exact ⟨b,e1⟩
   |row=>exact h3.elim
   |ext=>exact h3.elim
   |view=>exact h3.elim
   |gone=>exact h3.elim
  |row=>rw [hu] at h5;exact h5.elim
  |ext=>rw [hu] at h5;exact h5.elim
  |view=>rw [hu] at h5;exact h5.elim
  |gone=>rw [hu] at h5;exact h5.elim
 obtain ⟨gs,hgl,hgs⟩:∃ gs:List Nat,gs.length=U.length∧∀ i,i<U.length→gs[i]?=r.blk (k+i):=by
  refine ⟨(List.range U.length).map fun i=>(r.blk (k+i)).getD 0,by simp,fun i hi=>?_⟩;obtain ⟨b,hb⟩:=hblk i hi;rw [List.getElem?_map,List.getElem?_range hi,hb];simp [hb]
 have hto:∀ i b,i<U.length→r.blk (k+i)=some b→(zkf gs).blk i=some b:=fun i b hi hb=>by
  show gs[i]?=some b;rw [hgs i hi];exact hb
 have hfrom:∀ i b,i<U.length→(zkf gs).blk i=some b→r.blk (k+i)=some b:=fun i b hi hb=>by
  have hb:gs[i]?=some b:=hb;rw [hgs i hi] at hb;exact hb
 have hin:∀ (i b:Nat),gs[i]?=some b→i<U.length∧r.blk (k+i)=some b:=fun i b hb=>by
  have hi:i<U.length:=by
   rcases Nat.lt_or_ge i U.length with h1|h1
   ·exact h1
   ·rw [List.getElem?_eq_none zO] at hb;cases hb
  exact ⟨hi,by rw [← hgs i hi];exact hb⟩
 have hmem:∀ b,b∈gs→∃ i,i<U.length∧r.blk (k+i)=some b:=fun b hb=>by
  obtain ⟨i,hi⟩:=List.getElem?_of_mem hb;exact ⟨i,hin i b hi⟩
 have hU:ObjsAt w gs U:=by
  refine ⟨hgl.symm,fun i j b hi hj=>?_,fun g hg=>?_,fun i o ho=>?_⟩
  ·have:=hR.inj _ _ b (hin i b hi).2 (hin j b hj).2
   omega
  ·obtain ⟨i,_,hi⟩:=hmem g hg
   exact (hR.new _ g hi).1
  ·have hi:i<U.length:=by
    rcases Nat.lt_or_ge i U.length with h1|h1
    ·exact h1
    ·rw [List.getElem?_eq_none h1] at ho;cases ho
   obtain ⟨o',h2,h3⟩:=hsh.get i ho;have h4:=hR.own (k+i) o' (by rw [hS i hi,h2]);have h5:=hob o (List.mem_of_getElem? ho)
   cases o with
   |cells t l=>
    cases o' with
    |cells t' l'=>
     obtain ⟨rfl,rfl⟩:=h3;obtain ⟨b,us,e1,e2,e3⟩:=h4;exact ⟨b,us,hto i b hi e1,e2,zit (n:=U.length) hto h5 e3⟩
    |row=>exact h3.elim
    |ext=>exact h3.elim
    |view=>exact h3.elim
    |gone=>exact h3.elim
   |row=>exact h5.elim
   |ext=>exact h5.elim
   |view=>exact h5.elim
   |gone=>exact h5.elim
 have hkeep:OldKeeps w0 G w gs:=fun b hb hG=>by
  refine ⟨Nat.lt_of_lt_of_le hb hR.size,fun hm=>?_,hR.old b hb hG⟩;obtain ⟨i,_,hi⟩:=hmem b hm;exact hG ((hR.new _ b hi).2 hb)
 cases gs with
 |nil=>simp at hgl;omega
 |cons g gs=>
  obtain ⟨vs1,vs2,rfl,d1,d2⟩:=zc7 hd;obtain rfl:=zcs hx d1;obtain ⟨u,vs3,rfl,d3,d4⟩:=d2;obtain rfl:=zcs hy d4;obtain ⟨b,hb,rfl⟩:=zi4 d3
  have hbg:b=g:=by
   have:=hto 0 b hpos (by simpa using hb);have:g=b:=(by injection this);exact this.symm
  subst hbg;refine (h w b gs hkeep hU).mono fun e w' ⟨x,hp,he,hU',hg⟩=>?_;refine ⟨AV.of (X x),X x,_,r,he,AV.of_den r _,?_,Env.le.refl r,hK x hp⟩;have hVl:(V' x).length=U.length:=(by rw [← hlen' x hp,(hsh' x hp).length])
  have hnot:∀ j b',r.blk j=some b'→¬(k≤j∧j<k+U.length)→b'∉(b::gs):=fun j b' hj hno hm=>by
   obtain ⟨i,hi,hbi⟩:=hmem b' hm;have:=hR.inj _ _ b' hj hbi;omega
  refine ⟨hg.os.trans hR.os,hg.tape.trans hR.tape,hg.output.trans hR.output,Nat.le_trans hR.size hg.size,fun j hj hjG=>?_,fun j o hj=>?_,hR.inj,fun j b' hb'=>⟨Nat.lt_of_lt_of_le (hR.new j b' hb').1 hg.size,(hR.new j b' hb').2⟩,
   fun j hj=>hR.outB j (by rwa [zy7] at hj),fun j hj=>hR.outV j (by rwa [zy7] at hj),hR.first⟩
  ·obtain ⟨k1,k2,k3⟩:=hkeep j hj hjG
   rw [hg.block j k1 k2];exact k3
  ·rw [zy6 _ _ _ _ (by rw [hVl];exact hSlen),hVl] at hj
   by_cases hr:k≤j∧j<k+U.length
   ·rw [if_pos hr] at hj
    obtain ⟨o',h2,h3⟩:=(hsh' x hp).get' (j-k) hj;have h4:=hU'.own (j-k) o' h2;have h5:=hob' x hp o' (List.mem_of_getElem? h2)
    cases o' with
    |cells t l=>
     cases o with
     |cells t' l'=>
      obtain ⟨rfl,rfl⟩:=h3;obtain ⟨c,us,e1,e2,e3⟩:=h4;refine ⟨c,us,?_,e2,z4t (n:=U.length) hfrom h5 e3⟩;have:=hfrom (j-k) c zO e1
      rwa [show k+(j-k)=j by omega] at this
     |row=>exact h3.elim
     |ext=>exact h3.elim
     |view=>exact h3.elim
     |gone=>exact h3.elim
    |row=>exact h5.elim
    |ext=>exact h5.elim
    |view=>exact h5.elim
    |gone=>exact h5.elim
   ·rw [if_neg hr] at hj
    refine Ow.holds_block (hR.own j o hj) (fun b' hb'=>hg.block b' (hR.new j b' hb').1 (hnot j b' hb' hr)) hg.size fun b' hb' hno=>hg.block b' hb' fun hm=>?_;obtain ⟨i,_,hi⟩:=hmem b' hm;exact hno _ hi
theorem z6i {r:Env} {f:Fr} {a:Act} (hf:FDen r f a) (d:Nat) {i g:Nat} (h:f.get d= .p (.c (.ref i 0))) (hb:r.blk i=some g):a.tmps.getD d undef= .pointer (some ⟨g,0,none⟩):=by
 have:=hf d;rw [h] at this;obtain ⟨b,h1,h2⟩:=zi4 this;rw [hb] at h1;injection h1 with h1;subst h1;exact h2
end Go.Proofs.YtocafomnnkmjfaaGreat
