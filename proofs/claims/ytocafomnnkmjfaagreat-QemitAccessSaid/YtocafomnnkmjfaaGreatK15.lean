import Derived.RangeFuncBound
import Derived.RangeFuncLeaves
import Derived.Test.YtocafomnnkmjfaaGreatK12
import Derived.Test.YtocafomnnkmjfaaGreatK14
namespace Go.Proofs.YtocafomnnkmjfaaGreat
open Go.RowKit
def AVle (u:AV):AV→Prop
 | .p (.c .any)=>True
 |v=>u=v
def FLe (f:Fr):Fr→Prop
 |[]=>True
 |(d,x)::r=>AVle (f.get d) x∧FLe f r
def CLp:List CV→List CV→Prop
 |[],[]=>True
 |c::l,d::m=>(match d with| .any=>True|d=>c=d)∧CLp l m
 |_,_=>False
def CLe (l m:List CV):Prop:=l=m∨CLp l m
def OLe:Ow→Ow→Prop
 | .cells t l,.cells t' l'=>t=t'∧CLe l l'
 | .row e s n xs,.row e' s' n' xs'=>e=e'∧s=s'∧n=n'∧xs=xs'
 | .view φ n xs,.view φ' n' xs'=>φ=φ'∧n=n'∧xs=xs'
 | .ext φ,.ext ψ=>∀ b w,φ b w→ψ b w
 |_,.gone=>True
 |_,_=>False
def SLe:List Ow→List Ow→Prop
 |_,[]=>True
 |o::S,o'::S'=>OLe o o'∧SLe S S'
 |[],_::_=>False
theorem AVle.den {r:Env} {u v:AV} {x:Value} (h:AVle u v) (hd:u.den r x):v.den r x:=by
 unfold AVle at h
 split at h
 ·simp [AV.den,Pc.den,CV.den]
 ·subst h;exact hd
theorem FLe.get {f:Fr}:∀ {g:Fr} (k:Nat),FLe f g→g.get k= .p (.c .any)∨AVle (f.get k) (g.get k)
 |[],k,_=> .inl rfl
 |(d,x)::r,k,h=>by
  simp only [Fr.get]
  split
  ·rename_i hk;have:=Nat.eq_of_beq_eq_true hk;subst this;exact .inr h.1
  ·exact FLe.get k h.2
theorem FLe.den {r:Env} {f g:Fr} {a:Act} (h:FLe f g) (hf:FDen r f a):FDen r g a:=fun k=>by
 rcases h.get k with h1|h1
 ·rw [h1];simp [AV.den,Pc.den,CV.den]
 ·exact h1.den (hf k)
theorem CLp.den {r:Env}:∀ {l m:List CV} {us:List Value},CLp l m→denL r l us→denL r m us
 |[],[],us,_,hd=>hd
 |c::l,d::m,us,h,hd=>by
  simp only [denL] at hd⊢;obtain ⟨u,l',hu,hc,hl⟩:=hd;refine ⟨u,l',hu,?_,CLp.den h.2 hl⟩;have h1:=h.1
  split at h1
  ·simp only [CV.den]
  ·subst h1;exact hc
 |[],_::_,_,h,_=>h.elim
 |_::_,[],_,h,_=>h.elim
theorem CLe.den {r:Env} {l m:List CV} {us:List Value} (h:CLe l m) (hd:denL r l us):denL r m us:=by
 rcases h with rfl|h
 ·exact hd
 ·exact h.den hd
theorem OLe.holds {r:Env} {w:World} {i:Nat} {o o':Ow} (h:OLe o o') (ho:o.holds r w i):o'.holds r w i:=by
 cases o<;>cases o'<;>simp only [OLe] at h
 ·obtain ⟨rfl,hl⟩:=h;obtain ⟨b,us,h1,h2,h3⟩:=ho;exact ⟨b,us,h1,h2,hl.den h3⟩
 ·trivial
 ·obtain ⟨rfl,rfl,rfl,rfl⟩:=h;exact ho
 ·trivial
 ·obtain ⟨b,h1,h2,h3⟩:=ho;exact ⟨b,h1,h b w h2,fun w' hw=>h b w' (h3 w' hw)⟩
 ·trivial
 ·obtain ⟨rfl,rfl,rfl⟩:=h;exact ho
 ·trivial
 ·trivial
theorem SLe.get:∀ {S S':List Ow} {i:Nat} {o':Ow},SLe S S'→S'[i]?=some o'→∃ o,S[i]?=some o∧OLe o o'
 |_,[],i,o',_,h=>by simp at h
 |[],_::_,_,_,h,_=>h.elim
 |o::S,o1::S',0,o',h,hi=>by simp at hi;subst hi;exact ⟨o,by simp,h.1⟩
 |o::S,o1::S',i+1,o',h,hi=>by simpa using SLe.get h.2 (by simpa using hi)
theorem SLe.length:∀ {S S':List Ow},SLe S S'→S'.length≤S.length
 |_,[],_=>by simp
 |[],_::_,h=>h.elim
 |o::S,o1::S',h=>by simp;exact SLe.length h.2
section
variable {P:Program} {w0:World} {G:Gs} {N:Nd} {f f':Fr} {S S':List Ow}
theorem zj3:Ent w0 G N f S f S:=⟨fun _ _ h=>h⟩
theorem zj8 {f2:Fr} {S2:List Ow} (h:Ent w0 G N f S f' S') (k:Ent w0 G N f' S' f2 S2):Ent w0 G N f S f2 S2:=⟨fun a w hg=>k.out a w (h.out a w hg)⟩
theorem zj7 (hl:S.length=S'.length) (hf:FLe f f') (hS:SLe S S'):Ent w0 G N f S f' S':=⟨fun a w ⟨r,hR,hd,hN,hdf⟩=>
 ⟨r,⟨hR.os,hR.tape,hR.output,hR.size,hR.old,fun i o' hi=>by obtain ⟨o,ho,hle⟩:=hS.get hi;exact hle.holds (hR.own i o ho),hR.inj,hR.new,fun i hi=>hR.outB i zO,fun i hi=>hR.outV i zO,hR.first⟩,hf.den hd,hN,hdf⟩⟩
theorem zjy (hf:FLe f f') (hS:SLe S S') (hb:Fr.bnd S'.length f'=true) (hg:zot G S'=true):Ent w0 G N f S f' S':=⟨fun a w ⟨r,hR,hd,hN,hdf⟩=>by
 unfold zot at hg
 split at hg
 ·rename_i hG
  refine ⟨r.upto S'.length,hR.upto rfl hS.length (Nat.le_of_ble_eq_true hG) fun i o' hi=>?_,(hf.den hd).agree (Env.upto_agree _ _) hb,hN,hdf⟩
  have hil:i<S'.length:=by
   rcases Nat.lt_or_ge i S'.length with h1|h1
   ·exact h1
   ·rw [List.getElem?_eq_none h1] at hi;cases hi
  obtain ⟨o,ho,hle⟩:=hS.get hi;exact Ow.holds_agree (hle.holds (hR.own i o ho)) (Env.upto_agree _ _) (z3y hg hi) hil (Env.upto_blk _ _)
 ·cases hg⟩
end
def zb1:List AV→Nat→Fr
 |[],_=>[]
 |x::l,k=>(k,x)::zb1 l (k+1)
def resV (P:Program) (w0:World) (G:Gs) (S:List Ow) (f:Fr):ResultVar→(AV→Prop)→Prop
 | .tmp t,K=>zng (f.get t) K
 | .cell t ty,K=>zta P w0 G S ty (f.get t) K
def resL (P:Program) (w0:World) (G:Gs) (S:List Ow) (f:Fr):List ResultVar→(List AV→Prop)→Prop
 |[],K=>K []
 |x::l,K=>resV P w0 G S f x fun v=>resL P w0 G S f l fun vs=>K (v::vs)
def z83:List AV→Option (List Pc)
 |[]=>some []
 | .p x::l=>(match z83 l with|some m=>some (x::m)|none=>none)
 |_=>none
def resK (P:Program) (w0:World) (G:Gs) (S:List Ow) (f:Fr) (rs:List ResultVar) (K:AV→Prop):Prop:=
 resL P w0 G S f rs fun vs=>match vs with
  |[v]=>K v
  |vs=>(match z83 vs with|some m=>K (.tup m)|none=>False)
structure Fin (w0:World) (G:Gs) (S:List Ow) (v:AV) (R:Ending→World→Prop):Prop where
 out:∀ r w u,Rel w0 G S r w→v.den r u→R (.returned u) w
def RetK (P:Program) (w0:World) (G:Gs) (rs:List ResultVar) (R:Ending→World→Prop):Exit→Fr→List Ow→Prop:=fun e f S=>match e with
 | .normal=>resK P w0 G S f rs fun v=>Fin w0 G S v R
 | .ret=>resK P w0 G S f rs fun v=>Fin w0 G S v R
 |_=>False
def resS (a:Act) (x:ResultVar):Sem Value:=match x with| .tmp t=>pure (a.tmps.getD t undef)| .cell t ty=>do loadVar ty (← asAddr (a.tmps.getD t undef))
theorem z13 {P:Program} {w0:World} {G:Gs} {S:List Ow} {f:Fr} {x:ResultVar} {K:AV→Prop} (h:resV P w0 G S f x K) {r:Env} {w:World} (hR:Rel w0 G S r w) {a:Act} (hf:FDen r f a):
  ∃ v u,K v∧v.den r u∧(resS a x).run P w= .ok u w:=by
 cases x with
 |tmp t=>exact ⟨_,_,znh.1 h,hf t,rfl⟩
 |cell t ty=>
  obtain ⟨v,u,hK,hd,hrun⟩:=ztb h hR (hf t);refine ⟨v,u,hK,hd,?_⟩;show (asAddr (a.tmps.getD t undef) >>= fun x=>loadVar ty x).run P w=_;have:=hrun w (Below.refl _ _);simp only [Instr.loadAt] at this;generalize a.tmps.getD t undef=x at this⊢
  cases x with
  |pointer p=>
   cases p with
   |none=>simp [Instr.sureAddr] at this
   |some p=>simpa [Instr.sureAddr,asAddr] using this
  |_=>simp [Instr.sureAddr] at this
theorem z12 {P:Program} {w0:World} {G:Gs} {S:List Ow} {f:Fr} {r:Env} {w:World} (hR:Rel w0 G S r w) {a:Act} (hf:FDen r f a):∀ {xs:List ResultVar} {K:List AV→Prop},resL P w0 G S f xs K→
  ∃ vs us,K vs∧zc1 r vs us∧(xs.mapM (resS a)).run P w= .ok us w
 |[],K,h=>⟨[],[],h,rfl,by simp⟩
 |x::xs,K,h=>by
  obtain ⟨v,u,h1,hd,hrun⟩:=z13 h hR hf;obtain ⟨vs,us,hK,hds,hruns⟩:=z12 hR hf h1;exact ⟨v::vs,u::us,hK,⟨u,us,rfl,hd,hds⟩,by simp only [List.mapM_cons,Sem.run_bind,hrun,hruns,Result.andThen_ok,Sem.run_pure]⟩
theorem z84 {r:Env}:∀ {vs:List AV} {m:List Pc} {us:List Value},z83 vs=some m→zc1 r vs us→zyk r m us
 |[],m,us,h,hd=>by injection h with h;subst h;exact hd
 |v::vs,m,us,h,hd=>by
  cases v with
  |tup l=>simp [z83] at h
  |p x=>
   simp only [z83] at h
   split at h
   ·rename_i m' hm
    injection h with h;subst h;obtain ⟨u,l,rfl,h1,h2⟩:=hd;exact ⟨u,l,rfl,h1,z84 hm h2⟩
   ·cases h
theorem zc5 {r:Env}:∀ {l:List AV} {us:List Value},zc1 r l us→us.length=l.length
 |[],us,h=>by rw [show us=[] from h];rfl
 |c::l,us,h=>by obtain ⟨u,l',rfl,_,h2⟩:=h;simp [zc5 h2]
theorem z11 {P:Program} {w0:World} {G:Gs} {S:List Ow} {f:Fr} {fn:Func} {K:AV→Prop} (h:resK P w0 G S f fn.results.toList K) {r:Env} {w:World} (hR:Rel w0 G S r w) {a:Act} (hf:FDen r f a):
  ∃ v u,K v∧v.den r u∧(results fn a.tmps).run P w= .ok u w:=by
 obtain ⟨vs,us,hK,hd,hrun⟩:=z12 hR hf h
 have hres:(results fn a.tmps).run P w= .ok (if h:us.toArray.size=1 then us.toArray[0] else .tuple us.toArray) w:=by
  unfold results;rw [Array.mapM_eq_mapM_toList];simp only [Sem.run_bind,Sem.run_map];erw [hrun];simp
 split at hK
 ·rename_i v
  obtain ⟨u,l,rfl,h1,h2⟩:=hd;have:l=[]:=h2;subst this;exact ⟨v,u,hK,h1,by rw [hres];simp⟩
 ·rename_i hne
  split at hK
  ·rename_i m hm
   refine ⟨_,.tuple us.toArray,hK,⟨us,rfl,z84 hm hd⟩,?_⟩;rw [hres,dif_neg];intro h1;obtain ⟨v,hv⟩:=List.length_eq_one_iff.1 ((zc5 hd).symm.trans (by simpa using h1));exact hne v hv
  ·exact hK.elim
theorem zb2 {r:Env} {tmps:Array Value}:∀ (avs:List AV) (us:List Value) (k:Nat),zc1 r avs us→(∀ j u,us[j]?=some u→tmps.getD (k+j) undef=u)→∀ i,((zb1 avs k).get i).den r (tmps.getD i undef)
 |[],us,k,_,_,i=>by simp [zb1,Fr.get,AV.den,Pc.den,CV.den]
 |v::avs,us,k,hd,h,i=>by
  obtain ⟨u,l,rfl,h1,h2⟩:=hd;simp only [zb1,Fr.get]
  split
  ·rename_i hk;have:=Nat.eq_of_beq_eq_true hk;subst this
   have:=h 0 u rfl;rw [Nat.add_zero] at this;rw [this];exact h1
  ·exact zb2 avs l (k+1) h2 (fun j u hj=>by have:=h (j+1) u (by simpa using hj);rw [← this];congr 1;omega) i
theorem zfk {P:Program} {fid:FuncId} {fn:Func} {c:Code} {N:Nat} (hf:P.funcs[fid]?=some fn) (hN:fn.ntmps=N) (hb:fn.body=some c) {w0:World} {G:Gs} {S0:List Ow} {r0:Env} (hR:Rel w0 G S0 r0 w0)
  {avs:List AV} {args:List Value} (hargs:zc1 r0 avs args) (hle:args.length≤N) {R:Ending→World→Prop} (h:vc none P w0 G ⟨N,[]⟩ c (zb1 avs 0) S0 (RetK P w0 G fn.results.toList R)):Calls P fid args.toArray w0 R:=by
 refine calls_of_wp hf hb (Code.wp_mono ?_ (wpIn_wide.1 ((yak c _ _ _ h).out 20 _ w0 ⟨r0,hR,?_,?_,rfl⟩)))
 ·rintro e a w ⟨f,S,hk,r,hR',hf',hN',hd'⟩
  cases e with
  |normal=>
   obtain ⟨v,u,hK,hd,hrun⟩:=z11 hk hR' hf';exact ⟨hd',u,hrun,hK.out r w u hR' hd⟩
  |ret=>
   obtain ⟨v,u,hK,hd,hrun⟩:=z11 hk hR' hf';exact ⟨hd',u,hrun,hK.out r w u hR' hd⟩
  |exit id=>exact hk.elim
  |goto l=>exact hk.elim
  |panic ch=>exact hk.elim
  |outgrown=>exact hk.elim
 ·intro i
  refine zb2 avs args 0 hargs (fun j u hj=>?_) i;rw [Nat.zero_add,Array.getD_eq_getD_getElem?,Array.getElem?_append_left (by simp;rcases Nat.lt_or_ge j args.length with h1|h1;exact h1;rw [List.getElem?_eq_none h1] at hj;cases hj)];simp [hj]
 ·simp;omega
def Env.none:Env:=⟨fun _=>Option.none,fun _=>Option.none⟩
theorem z1w (w:World):Rel w Gs.nil [] Env.none w:=
 ⟨rfl,rfl,rfl,Nat.le_refl _,fun _ _ _=>rfl,by simp,nofun,nofun,fun _ _=>rfl,fun _ _=>rfl,(by intro i g h;simp [Gs.nil] at h)⟩
theorem Rel.toBelow {w0 w:World} {S:List Ow} {r:Env} (h:Rel w0 Gs.nil S r w):Below w0.heap.size w0 w:=⟨h.os,h.tape,h.output,h.size,fun k hk=>h.old k hk zS⟩
theorem ze0 {P:Program} {w0:World} {G:Gs} {fid:FuncId} {args:List AV} {S:List Ow} {K:AV→List Ow→Prop} (x:Value) (hok:fnOk P fid=true)
  (h:∀ r w us,Rel w0 G S r w→zc1 r args us→Calls P fid us.toArray w fun e w'=>e= .returned x∧Below w.heap.size w w') (hK:K (AV.of x) S):CallS P w0 G fid args S K:=
 ⟨hok,fun r w us hR hd=>(h r w us hR hd).mono fun _e _w' ⟨he,hb⟩=>⟨_,x,S,r,he,AV.of_den r x,hR.below hb,Env.le.refl r,hK⟩⟩
def CV.val:CV→Option Value
 | .v x=>some x
 | .clo f []=>some (.func f #[] #[])
 |_=>none
def valL:List CV→Option (List Value)
 |[]=>some []
 |c::l=>match c.val with|some x=>(match valL l with|some m=>some (x::m)|none=>none)|none=>none
def Pc.val:Pc→Option Value
 | .c x=>x.val
 | .agg l=>(match valL l with|some m=>some (.agg m.toArray)|none=>none)
def zzy:List Pc→Option (List Value)
 |[]=>some []
 |c::l=>match c.val with|some x=>(match zzy l with|some m=>some (x::m)|none=>none)|none=>none
def AV.val:AV→Option Value
 | .p x=>x.val
 | .tup l=>(match zzy l with|some m=>some (.tuple m.toArray)|none=>none)
def avals:List AV→Option (List Value)
 |[]=>some []
 |c::l=>match c.val with|some x=>(match avals l with|some m=>some (x::m)|none=>none)|none=>none
theorem CV.val_den {r:Env} {c:CV} {x u:Value} (h:c.val=some x) (hd:c.den r u):u=x:=by
 unfold CV.val at h
 split at h
 ·injection h with h;subst h;simpa only [CV.den] using hd
 ·injection h with h;subst h
  simp only [CV.den,denL] at hd;obtain ⟨us,rfl,rfl⟩:=hd;rfl
 ·cases h
theorem z9k {r:Env}:∀ {l:List CV} {xs us:List Value},valL l=some xs→denL r l us→us=xs
 |[],xs,us,h,hd=>by injection h with h;subst h;simpa only [denL] using hd
 |c::l,xs,us,h,hd=>by
  simp only [denL] at hd;obtain ⟨u,m,rfl,h1,h2⟩:=hd;simp only [valL] at h
  split at h
  ·rename_i x hx
   split at h
   ·rename_i m' hm
    injection h with h;subst h;rw [CV.val_den hx h1,z9k hm h2]
   ·cases h
  ·cases h
theorem Pc.val_den {r:Env} {c:Pc} {x u:Value} (h:c.val=some x) (hd:c.den r u):u=x:=by
 unfold Pc.val at h
 split at h
 ·exact CV.val_den h hd
 ·split at h
  ·rename_i m hm
   injection h with h;subst h;obtain ⟨us,rfl,hl⟩:=hd;rw [z9k hm hl]
  ·cases h
theorem zzz {r:Env}:∀ {l:List Pc} {xs us:List Value},zzy l=some xs→zyk r l us→us=xs
 |[],xs,us,h,hd=>by injection h with h;subst h;exact hd
 |c::l,xs,us,h,hd=>by
  obtain ⟨u,m,rfl,h1,h2⟩:=hd;simp only [zzy] at h
  split at h
  ·rename_i x hx
   split at h
   ·rename_i m' hm
    injection h with h;subst h;rw [Pc.val_den hx h1,zzz hm h2]
   ·cases h
  ·cases h
theorem AV.val_den {r:Env} {c:AV} {x u:Value} (h:c.val=some x) (hd:c.den r u):u=x:=by
 unfold AV.val at h
 split at h
 ·exact Pc.val_den h hd
 ·split at h
  ·rename_i m hm
   injection h with h;subst h;obtain ⟨us,rfl,hl⟩:=hd;rw [zzz hm hl]
  ·cases h
theorem zcs {r:Env}:∀ {l:List AV} {xs us:List Value},avals l=some xs→zc1 r l us→us=xs
 |[],xs,us,h,hd=>by injection h with h;subst h;exact hd
 |c::l,xs,us,h,hd=>by
  obtain ⟨u,m,rfl,h1,h2⟩:=hd;simp only [avals] at h
  split at h
  ·rename_i x hx
   split at h
   ·rename_i m' hm
    injection h with h;subst h;rw [AV.val_den hx h1,zcs hm h2]
   ·cases h
  ·cases h
section
variable {P:Program} {w0:World} {G:Gs} {fid:FuncId} {args:List AV} {S:List Ow} {K:AV→List Ow→Prop} {xs:List Value} {x:Value}
theorem ze2 (hx:avals args=some xs) (hok:fnOk P fid=true) (h:∀ r w,Rel w0 G S r w→Calls P fid xs.toArray w fun e w'=>e= .returned x∧Below w.heap.size w w') (hK:K (AV.of x) S):CallS P w0 G fid args S K:=
 ze0 x hok (fun r w us hR hd=>by rw [zcs hx hd];exact h r w hR) hK
theorem zfa (hx:avals args=some xs) (hok:fnOk P fid=true) (h:∀ r w,Rel w0 G S r w→Calls P fid xs.toArray w fun e w'=>e= .returned x∧w=w') (hK:K (AV.of x) S):CallS P w0 G fid args S K:=
 ze2 hx hok (fun r w hR=>(h r w hR).mono fun e w' ⟨h1,h2⟩=>⟨h1,by subst h2;exact Below.refl _ _⟩) hK
theorem zmj {v:AV} {R:Ending→World→Prop} (hv:v.val=some x) (h:∀ w,Below w0.heap.size w0 w→R (.returned x) w):Fin w0 Gs.nil S v R:=⟨fun r w u hR hd=>by rw [AV.val_den hv hd];exact h w hR.toBelow⟩
end
def Inc (l:List Int):Prop:=l.Pairwise (· < ·)
def putP:List Int→Int→List Int
 |[],p=>[p]
 |x::l,p=>if x=p then x::l else if p<x then p::x::l else x::putP l p
def zx8 (a:Int):Int:=zhv a/256
def zax (l:List Int) (a:Int):List Int:=if zx8 a<4096 then putP l (zx8 a) else l
def zay (l:List Int) (a:Int):List Int:=zax (zax (zax (zax l a) (a+1)) (a+2)) (a+3)
def zs2 (pc:Int):Nat→List Int
 |0=>[]
 |m+1=>zay (zs2 pc m) (zz0 pc m)
structure PagesIn (l:List Int):Prop where
 inc:Inc l
 range:∀ x∈l,0≤x∧x<4096
theorem z2g {P:Program} {w:World} (base:Nat) (t ty e:TypeId) (i:TypeInfo) (z:Value) (ht:P.underlying t=some (.slice e)) (hi:P.info? e=some i) (hz:i.zero=some z)
  (hzs:z.cells.size=i.size) (hsz:0<i.size) (v:Value) (n:Nat) (xs:List Value) (hown:w.ownsRow base e i.size v n xs)
  (A:Option Addr) (m c:Nat) (news:List Value) (hl:news.length=m*i.size) (hnews:∀ j u,news[j]?=some u→∃ b off,A=some ⟨b,off,none⟩∧w.cell? ⟨b,off+j,none⟩=some u) (h1:∀ u∈news,u.oneCell'=true)
  (h63:n+m≤1000000000) (hbytes:i.bytes≤100000) (hbase:base≤w.heap.size):
  ∃ v' w',(Builtin.append_ #[t,t] ty #[v,.slice A m c]).run P w= .ok v' w'∧w'.ownsRow base e i.size v' (n+m) (xs++news)∧w.grownBy w' v.ownBlock∧(v'.ownBlock=v.ownBlock∨v'.ownBlock=some w.heap.size):=by
 have hm:(n+m)*i.bytes≤1000000000*100000:=Nat.mul_le_mul h63 hbytes
 cases A with
 |some ad=>
  obtain ⟨v',w',h2,h3,h4,_,h5⟩:=run_append_own_at (P:=P) w base t ty e i z i.size i.bytes ht hi hz rfl rfl hzs hsz v n xs hown ad m c news hl (fun j u hj=>by
   obtain ⟨b,off,hA,hc⟩:=hnews j u hj
   injection hA with hA;subst hA;rw [za0];exact hc) h1 (by unfold maxLen;omega) zO hbase
  exact ⟨v',w',h2,h3,h4,h5⟩
 |none=>
  have hnil:news=[]:=by
   cases news with
   |nil=>rfl
   |cons u l=>obtain ⟨b,off,hA,_⟩:=hnews 0 u rfl;cases hA
  subst hnil
  have hm0:m=0:=by
   rcases Nat.eq_zero_or_pos m with h|h
   ·exact h
   ·have:=Nat.mul_le_mul h hsz;simp at hl;omega
  subst hm0;obtain ⟨A',c',hv,_,hc,_⟩:=zx6 hown;refine ⟨v,w,?_,by simpa using hown,World.grownBy.refl _ _,.inl rfl⟩;subst hv
  have hut:∀ w:World,(underlying t).run P w= .ok (.slice e) w:=fun w=>by simp [underlying,ht]
  simp [Builtin.append_,hut,z2r P e w hi,Builtin.lenOf,Builtin.firstCells,hc]
  cases A'<;>simp [storeCells]
theorem Rel.append {w0:World} {G:Gs} {S:List Ow} {r:Env} {w w':World} (h:Rel w0 G S r w) {i:Nat} {e:TypeId} {size n n':Nat} {xs xs':List Value} {v v':Value} (hS:S[i]?=some (.row e size n xs)) (hG:G.fix.length≤i) (hv:r.val i=some v)
  (hown:w'.ownsRow 0 e size v' n' xs') (hg:w.grownBy w' v.ownBlock) (hb:v'.ownBlock=v.ownBlock∨v'.ownBlock=some w.heap.size):
  Rel w0 G ((zsl i S).set i (.row e size n' xs')) (r.set i v'.ownBlock (some v')) w'∧But i r (r.set i v'.ownBlock (some v')):=by
 have hbut:But i r (r.set i v'.ownBlock (some v')):=fun j hj=>by simp [Env.set,hj]
 have hil:i<S.length:=by
  rcases Nat.lt_or_ge i S.length with h1|h1
  ·exact h1
  ·rw [List.getElem?_eq_none h1] at hS;cases hS
 obtain ⟨v2,hv2,hob,_⟩:=h.own i _ hS;rw [hv] at hv2;injection hv2 with hv2;subst hv2
 have hnewlt:∀ x,v'.ownBlock=some x→x<w'.heap.size:=fun x hx=>by
  rcases hown.2 with ⟨h1,_⟩|⟨g,cap,cur,h1,_,hh,_⟩
  ·rw [h1] at hx;cases hx
  ·rw [h1] at hx;simp [Value.ownBlock] at hx;subst hx
   rcases Nat.lt_or_ge g w'.heap.size with h2|h2
   ·exact h2
   ·rw [Array.getElem?_eq_none h2] at hh;cases hh
 have hblk:∀ j x,r.blk j=some x→j≠i→w'.heap[x]?=w.heap[x]?:=fun j x hx hj=>hg.block x (h.new j x hx).1 (fun e=>hj (h.inj j i x hx (by rw [← hob];exact e.symm)));refine ⟨⟨hg.os.trans h.os,hg.tape.trans h.tape,hg.output.trans h.output,Nat.le_trans h.size hg.size,fun k hk hkG=>?_,fun j o hj=>?_,fun a b x ha hb'=>?_,fun j x hj=>?_,fun j hj=>?_,fun j hj=>?_,fun j g hj=>?_⟩,hbut⟩
 ·rw [hg.block k (Nat.lt_of_lt_of_le hk h.size) (fun e=>hkG ((h.new i k (by rw [← hob];exact e.symm)).2 hk))]
  exact h.old k hk hkG
 ·by_cases hij:i=j
  ·subst hij
   rw [List.getElem?_set_self (by rw [zsn];exact hil)] at hj;injection hj with hj;subst hj;exact ⟨v',by simp [Env.set],by simp [Env.set],hown⟩
  ·rw [List.getElem?_set_ne hij,zsm] at hj
   cases hSj:S[j]? with
   |none=>rw [hSj] at hj;cases hj
   |some o'=>
    rw [hSj] at hj;simp at hj;subst hj;have h1:=Ow.holds_block (h.own j o' hSj) (fun x hx=>hblk j x hx (Ne.symm hij)) hg.size (fun x hx hno=>hg.block x hx (fun e=>hno i (by rw [← hob];exact e.symm)))
    cases o' with
    |view φ m ys=>
     obtain ⟨A,c,h2,h3,h4,h5,h6⟩:=h.own j _ hSj;refine ⟨A,c,by rw [← (hbut j (Ne.symm hij)).2];exact h2,h3,h4,by rw [← (hbut j (Ne.symm hij)).1];exact h5,fun k u hk=>?_⟩;obtain ⟨b,off,h7,h8,h9,h10⟩:=h6 k u hk;refine ⟨b,off,h7,Nat.lt_of_lt_of_le h8 hg.size,fun q hq=>?_,(World.cell?_of_block (w:=w) (a:=⟨b,off+k,none⟩) (hg.block b h8 (fun e=>h9 i (by rw [← hob];exact e.symm)))).trans h10⟩;by_cases hqi:q=i
     ·subst hqi
      simp [Env.set] at hq;rcases hb with hb|hb
      ·rw [hb,hob] at hq;exact h9 q hq
      ·rw [hb] at hq;injection hq with hq;omega
     ·exact h9 q (by rw [(hbut q hqi).1];exact hq)
    |cells t l=>obtain ⟨b,us,h2,h3,h4⟩:=h1;exact ⟨b,us,by rw [← (hbut j (Ne.symm hij)).1];exact h2,h3,zsk hbut h4⟩
    |row e s n xs=>obtain ⟨v,h2,h3,h4⟩:=h1;exact ⟨v,by rw [← (hbut j (Ne.symm hij)).2];exact h2,by rw [← (hbut j (Ne.symm hij)).1];exact h3,h4⟩
    |ext φ=>obtain ⟨b,h2,h3⟩:=h1;exact ⟨b,by rw [← (hbut j (Ne.symm hij)).1];exact h2,h3⟩
    |gone=>trivial
 ·have fresh:∀ j x,j≠i→r.blk j=some x→v'.ownBlock=some x→False:=fun j x hj hx he=>by
   rcases hb with hb|hb
   ·rw [hb,hob] at he;exact hj (h.inj j i x hx he)
   ·rw [hb] at he;injection he with he;have:=(h.new j x hx).1;omega
  simp only [Env.set] at ha hb'
  split at ha<;>split at hb'
  ·omega
  ·exact (fresh b x (by assumption) hb' ha).elim
  ·exact (fresh a x (by assumption) ha hb').elim
  ·exact h.inj a b x ha hb'
 ·simp only [Env.set] at hj
  split at hj
  ·refine ⟨hnewlt x hj,fun hlt=>?_⟩
   rcases hb with hb|hb
   ·rw [hb,hob] at hj;exact (h.new i x hj).2 hlt
   ·rw [hb] at hj;injection hj with hj;have:=h.size;omega
  ·exact ⟨Nat.lt_of_lt_of_le (h.new j x hj).1 hg.size,(h.new j x hj).2⟩
 ·have hj':S.length≤j:=by simpa [zsn] using hj
  simp only [Env.set];rw [if_neg zO];exact h.outB j hj'
 ·have hj':S.length≤j:=by simpa [zsn] using hj
  simp only [Env.set];rw [if_neg zO];exact h.outV j hj'
 ·have:j<G.fix.length:=by
   rcases Nat.lt_or_ge j G.fix.length with h1|h1
   ·exact h1
   ·rw [List.getElem?_eq_none h1] at hj;cases hj
  simp only [Env.set];rw [if_neg zO];exact h.first j g hj
def zao (w0:World) (G:Gs) (A:Option Addr) (xs:List Value):Prop:=∀ j u,xs[j]?=some u→∃ b off,A=some ⟨b,off,none⟩∧b<w0.heap.size∧b∉G∧w0.cell? ⟨b,off+j,none⟩=some u
def srcK (w0:World) (G:Gs) (S:List Ow) (size i:Nat) (x:AV) (K:Nat→List Value→Prop):Prop:=
 match x with
 | .p (.c (.sl j off m _))=>(match S[j]? with
  |some (.cells _ l)=>(match cut l off (m*size) with
   |some cs=>(match zwj S cs with
    |true=>(match z95 cs with|some us=>K m us|none=>False)
    |false=>False)
   |none=>False)
  |_=>False)
 | .p (.c (.v (.slice A m _)))=>∃ xs:List Value,zao w0 G A xs∧xs.length=m*size∧(∀ u∈xs,u.oneCell'=true)∧K m xs
 | .p (.c (.row j))=>(match Nat.beq i j with
  |true=>False
  |false=>(match S[j]? with
   |some (.row _ size' n xs)=>size'=size∧(∀ u∈xs,u.oneCell'=true)∧K n xs
   |_=>False))
 |_=>False
def zl6 (i:Nat):Fr→(Fr→Prop)→Prop
 |[],K=>K []
 |(d,x)::f,K=>zng (x.kill i) fun x'=>zl6 i f fun f'=>K ((d,x')::f')
theorem zl7 {i:Nat}:∀ {f:Fr} {K:Fr→Prop},zl6 i f K↔K (Fr.kill i f)
 |[],_=>Iff.rfl
 |(d,x)::f,K=>by unfold zl6;rw [znh,zl7];rfl
def appK (P:Program) (w0:World) (G:Gs) (o:Oper) (f:Fr) (S:List Ow) (s x:Operand) (t:TypeId) (K:Fr→List Ow→Prop):Prop:=
 match P.underlying t with
 |some (.slice e)=>(match P.info? e with
  |some inf=>(match inf.zero with
   |some z=>(match Nat.beq z.cells.size inf.size,Nat.blt 0 inf.size,Nat.ble inf.bytes 100000 with
    |true,true,true=>(match f.ev s with
     | .p (.c (.row i))=>(match S[i]? with
      |some (.row e' size' n xs)=>(match Nat.beq e' e,Nat.beq size' inf.size,Nat.ble G.fix.length i with
       |true,true,true=>srcK w0 G S inf.size i (f.ev x) fun m news=>n+m≤1000000000∧zni ((zsl i S).set i (.row e inf.size (n+m) (xs++news))) fun S'=>zl6 i f fun f'=>f'.putK o.dst (.p (.c (.row i))) fun f'=>K f' S'
       |_,_,_=>False)
      |_=>False)
     | .p (.c (.v (.slice none 0 0)))=>lenK S fun i=>(match Nat.ble G.fix.length i with
      |true=>srcK w0 G S inf.size i (f.ev x) fun m news=>m≤1000000000∧zni (zsl i S++[.row e inf.size m news]) fun S'=>zl6 i f fun f'=>f'.putK o.dst (.p (.c (.row i))) fun f'=>K f' S'
      |false=>False)
     |_=>False)
    |_,_,_=>False)
   |none=>False)
  |none=>False)
 |_=>False
theorem zwh {u:Value} (h:(∀ x,u≠ .agg x)∧(∀ x,u≠ .tuple x)):u.oneCell'=true:=by
 cases u<;>first|rfl|exact absurd rfl (h.1 _)|exact absurd rfl (h.2 _)
theorem z61 {w0:World} {G:Gs} {S:List Ow} {size i:Nat} {x:AV} {K:Nat→List Value→Prop} (h:srcK w0 G S size i x K) {r:Env} {w:World} (hR:Rel w0 G S r w) {u:Value} (hd:x.den r u):
  ∃ A m c news,u= .slice A m c∧K m news∧news.length=m*size∧(∀ j x,news[j]?=some x→∃ b off,A=some ⟨b,off,none⟩∧w.cell? ⟨b,off+j,none⟩=some x)∧∀ x∈news,x.oneCell'=true:=by
 unfold srcK at h
 split at h
 ·rename_i j off m c
  have hux:∃ b,r.blk j=some b∧u= .slice (some ⟨b,off,none⟩) m c:=by simpa only [AV.den,Pc.den,CV.den] using hd
  obtain ⟨b,hb,rfl⟩:=hux
  split at h
  ·rename_i t l hS
   split at h
   ·rename_i cs hcs
    split at h
    ·rename_i hones
     split at h
     ·rename_i us hus
      obtain ⟨hle,rfl⟩:=zhz hcs;obtain ⟨b',vs,h1,h2,h3⟩:=hR.own j _ hS;rw [hb] at h1;injection h1 with h1;subst h1;have hdc:=ziq (m*size) (zii off h3);have hvs:=z96 hus hdc;have hlen:=zik hdc;refine ⟨_,m,c,us,rfl,h,?_,fun k x hk=>⟨b,off,rfl,?_⟩,fun x hx=>zwh (zwn hR hones hdc x (by rw [hvs];exact hx))⟩
      ·rw [← hvs,hlen];simp;omega
      ·rw [← hvs,List.getElem?_take] at hk
       split at hk
       ·rw [List.getElem?_drop] at hk;simp [World.cell?,h2,hk]
       ·cases hk
     ·exact h.elim
    ·exact h.elim
   ·exact h.elim
  ·exact h.elim
 ·rename_i A m c
  have hu:u= .slice A m c:=(by simpa only [AV.den,Pc.den,CV.den] using hd);subst hu;obtain ⟨xs,h1,h2,h3,hK⟩:=h;refine ⟨A,m,c,xs,rfl,hK,h2,fun j x hj=>?_,h3⟩;obtain ⟨b,off,hA,hlt,hG,hc⟩:=h1 j x hj;exact ⟨b,off,hA,by rw [hR.oldCell hlt hG];exact hc⟩
 ·rename_i j
  split at h
  ·exact h.elim
  ·split at h
   ·rename_i e size' n xs hS
    obtain ⟨rfl,h3,hK⟩:=h;obtain ⟨v,hv,hob,hown⟩:=hR.own j _ hS;have hux:r.val j=some u:=(by simpa only [AV.den,Pc.den,CV.den] using hd);rw [hux] at hv;injection hv with hv;subst hv;obtain ⟨A,c,hs,hsl,_,_,hl⟩:=zx6 hown;subst hs;refine ⟨A,n,c,xs,rfl,hK,hl,fun k x hk=>?_,h3⟩;obtain ⟨b,off,hA,_,hc⟩:=hsl k x hk;exact ⟨b,off,hA,hc⟩
   ·exact h.elim
 ·exact h.elim
theorem zbi {P:Program} {w0:World} {G:Gs} {N:Nd} {o:Oper} {f:Fr} {S:List Ow} {K:Fr→List Ow→Prop} {s x:Operand} {t:TypeId} (hop:o.op= .call ⟨.builtin .append,#[s,x],#[t,t]⟩) (h:appK P w0 G o f S s x t K) (hdst:zi8 N.n o.dst=true):OpS P w0 G N o f S K:=by
 refine ⟨fun r a w hR hf hN hd next Q hK=>?_⟩;have hs:=hf.ev s;have hx:=hf.ev x;unfold appK at h
 split at h
 ·rename_i e ht
  split at h
  ·rename_i inf hi
   split at h
   ·rename_i z hz
    split at h
    ·rename_i hzs hpos hbytes
     have hzs:=Nat.eq_of_beq_eq_true hzs;have hpos:0<inf.size:=(by simpa [Nat.blt_eq] using hpos);have hbytes:=Nat.le_of_ble_eq_true hbytes
     split at h
     ·rename_i i he
      rw [he] at hs
      split at h
      ·rename_i e' size' n xs hS
       split at h
       ·rename_i h1 h2 hG
        have h1:=Nat.eq_of_beq_eq_true h1;have h2:=Nat.eq_of_beq_eq_true h2;have hG:=Nat.le_of_ble_eq_true hG;subst h1;subst h2;obtain ⟨A,m,c,news,hu,⟨hle,hKK⟩,hl,hcells,hone⟩:=z61 h hR hx;rw [znj,zl7,zze] at hKK;obtain ⟨v,hv,hob,hown⟩:=hR.own i _ hS;have hux:r.val i=some (a.eval s):=(by simpa only [AV.den,Pc.den,CV.den] using hs);rw [hux] at hv;injection hv with hv;obtain ⟨v',w',hrun,hown',hg,hb⟩:=z2g (P:=P) 0 t o.type _ inf z ht hi hz hzs hpos v n xs hown A m c news hl hcells hone hle hbytes (Nat.zero_le _);obtain ⟨hR',hbut⟩:=hR.append hS hG (hux.trans (by rw [hv])) hown' hg hb
        have hex:(execOp a.eval o).run P w= .ok (.value v') w':=by
         simp [execOp,hop,resolve,invoke,builtin,hv,hu,hrun]
        exact ybh hex (hK _ _ _ _ hKK ⟨_,hR',(hf.kill hbut).put (by simp [AV.den,Pc.den,CV.den,Env.set]) (by rw [hN];exact hdst),(zzq a _ _).trans hN,(zzn a _ _).trans hd⟩)
       ·exact h.elim
      ·exact h.elim
     ·rename_i he
      rw [he] at hs;have hv:=zi2 hs;rw [zsw] at h
      split at h
      ·rename_i hG
       have hG:=Nat.le_of_ble_eq_true hG;obtain ⟨A,m,c,news,hu,⟨hle,hKK⟩,hl,hcells,hone⟩:=z61 h hR hx;rw [znj,zl7,zze] at hKK;have hle2:=hR.le_new none (some (.slice none 0 0))
       have hown:w.ownsRow 0 e inf.size (.slice none 0 0) 0 []:=⟨by simp,.inl ⟨rfl,rfl⟩⟩
       have hR2:=hR.snoc (Below.refl _ _) (b:=none) (v:=some (.slice none 0 0)) (o:= .row e inf.size 0 []) nofun ⟨.slice none 0 0,by simp [Env.set],by simp [Env.set,Value.ownBlock],hown⟩;obtain ⟨v',w',hrun,hown',hg,hb⟩:=z2g (P:=P) 0 t o.type _ inf z ht hi hz hzs hpos (.slice none 0 0) 0 [] hown A m c news hl hcells hone zO hbytes (Nat.zero_le _);obtain ⟨hR',hbut⟩:=hR2.append (i:=S.length) (e:=e) (size:=inf.size) (n:=0) (xs:=[]) zS hG (by simp [Env.set]) hown' hg hb
       have hex:(execOp a.eval o).run P w= .ok (.value v') w':=by
        simp [execOp,hop,resolve,invoke,builtin,hv,hu,hrun]
       have e1:(zsl S.length (S++[.row e inf.size 0 []])).set S.length (.row e inf.size (0+m) ([]++news))=zsl S.length S++[.row e inf.size m news]:=by
        have:∀ (S:List Ow) (o:Ow) (n:Nat),zsl n (S++[o])=zsl n S++[o.kill n]:=fun S=>by
         induction S with
         |nil=>intro o n;rfl
         |cons x S ih=>intro o n;simp [zsl,ih]
        rw [this];simp [List.set_append_right,zsn]
       rw [e1] at hR';exact ybh hex (hK _ _ _ _ hKK ⟨_,hR',((hf.mono hle2).kill hbut).put (by simp [AV.den,Pc.den,CV.den,Env.set]) (by rw [hN];exact hdst),(zzq a _ _).trans hN,(zzn a _ _).trans hd⟩)
      ·exact h.elim
     ·exact h.elim
    ·exact h.elim
   ·exact h.elim
  ·exact h.elim
 ·exact h.elim
section
variable {P:Program} {ops:Array Oper} {md:Region.Mode} {C:World→Prop}
def zpk (P:Program) (md:Region.Mode) (ops:Array Oper) (C:World→Prop) (n:Nat) (L:Array Bool→Act→Prop):Nat→Array Bool→Act→Prop
 |0,listed,a=>L listed a
 |f+1,listed,a=>Region.ready md ops listed≠[]∧∀ i∈Region.ready md ops listed,i<n∧qOp P ops C i (zpk P md ops C n L f (listed.setIfInBounds i true)) a
theorem zpl {n g:Nat} {L:Array Bool→Act→Prop} {Q':Exit→Act→World→Prop} (hL:∀ listed a w,C w→L listed a→wpAny P md ops Q' g listed a w):
  ∀ (f:Nat) (listed:Array Bool) (a:Act) (w:World),C w→zpk P md ops C n L f listed a→wpAny P md ops Q' (f+g) listed a w
 |0,listed,a,w,hw,h=>by rw [Nat.zero_add];exact hL _ _ _ hw h
 |f+1,listed,a,w,hw,h=>by
  rw [show f+1+g=(f+g)+1 by omega];exact ⟨fun h0=>absurd h0 h.1,fun i hi=>wpOp_of_qOp hw (fun a' w' hw' h'=>zpl hL f _ a' w' hw' h') (h.2 i hi).2⟩
theorem zpn {n i:Nat} {oi:Oper} {v:Value} {L:Array Bool→Act→Prop} (hi:ops[i]?=some oi) (hns:Region.noSelect ops=true) (hs:Region.sinkB md ops n=true) (hc:Region.chainB md ops n=true) (hn:n<ops.size) (hin:i<n)
  (hdone:∀ listed a,L listed a→∀ j∈Region.ready md ops listed,n≤j):
  ∀ (f:Nat) (listed:Array Bool) (a:Act),HeadInv md ops n listed→(∀ j oj,ops[j]?=some oj→j≠i→listed.getD j true=false→(∀ e∈oj.after,Region.binds md e=true→e.on≠i)→oi.apart ops oj=true)→
   i∈Region.ready md ops listed→YieldsIn P ops C oi v a→zpk P md ops C n L f (listed.setIfInBounds i true) (a.put oi.dst v)→zpk P md ops C n L (f+1) listed a:=by
 have hsel:=Region.noSelect_spec hns;intro f
 induction f with
 |zero=>
  intro listed a inv hfree hr hy H;have hun:=(mem_ready.1 hr).1;refine ⟨(fun h=>by rw [h] at hr;cases hr),fun j hj=>?_⟩;have hjn:j<n:=Nat.lt_of_not_le fun h=>tail_waits hs hc hn inv _ i rfl hin hun j h hj;by_cases hji:j=i
  ·subst hji;exact ⟨hjn,hy.qOp hi H⟩
  ·have:=hdone _ _ H j (ready_mono hj hji);omega
 |succ f ih=>
  intro listed a inv hfree hr hy H;have hun:=(mem_ready.1 hr).1;refine ⟨(fun h=>by rw [h] at hr;cases hr),fun j hj=>?_⟩;have hjn:j<n:=Nat.lt_of_not_le fun h=>tail_waits hs hc hn inv _ i rfl hin hun j h hj;refine ⟨hjn,?_⟩;by_cases hji:j=i
  ·subst hji;exact hy.qOp hi H
  ·obtain ⟨hjun,oj,hoj,hall⟩:=mem_ready.1 hj
   have hnot:∀ e∈oj.after,Region.binds md e=true→e.on≠i:=fun e he hb heq=>by
    have h1:=hall e he hb;rw [heq,getD_both hun] at h1;cases h1
   have hq:=qOp_put hoj (hfree j oj hoj hji hjun hnot) (fun cs b=>hsel i oi cs b hi) (fun cs b=>hsel j oj cs b hoj) hy (H.2 j (ready_mono hj hji)).2;refine qOp_mono (fun a' h3=>ih (listed.setIfInBounds j true) a' (inv.set hj hjn) (fun k ok hk hki hku hno=>hfree k ok hk hki ?_ hno) (ready_mono hr (Ne.symm hji)) h3.1 ?_) hq
   ·by_cases hjk:j=k
    ·subst hjk;exact hjun
    ·rwa [getD_set_ne true hjk] at hku
   ·rw [Array.setIfInBounds_comm _ _ hji];exact h3.2
theorem zpm {n g:Nat} {Lq:Act→Prop} (hns:Region.noSelect ops=true) (hs:Region.sinkB md ops n=true) (hc:Region.chainB md ops n=true) (hn:n<ops.size):
  ∀ (l:List Oper) (k:Nat) (listed:Array Bool) (a:Act),(∀ j,j<l.length→l[j]?=ops[k+j]?)→k+l.length=n→HeadInv md ops n listed→Region.lexHead md ops g l.length k listed=true→wpQuiet P ops C Lq l a→
   zpk P md ops C n (fun listed' a'=>Region.seqB md ops g n listed'=true∧Lq a') l.length listed a
 |[],k,listed,a,_,hk,_,hB,h=>by
  have hkn:k=n:=(by simpa using hk);subst hkn;exact ⟨by simpa [Region.lexHead] using hB,h⟩
 |o::l,k,listed,a,hl,hk,inv,hB,h=>by
  have h0:ops[k]?=some o:=(by simpa using (hl 0 zS).symm);simp only [List.length_cons,Region.lexHead,Bool.and_eq_true] at hB;have hkn:k<n:=(by simp only [List.length_cons] at hk;omega);have hr:k∈Region.ready md ops listed:=(by simpa using hB.1.1);have hq:qOp P ops C k (wpQuiet P ops C Lq l) a:=(by unfold qOp;simp only [h0];exact h);obtain ⟨v,hy,hK⟩:=yieldsIn_of_qOp h0 hq
  exact zpn h0 hns hs hc hn hkn (fun listed' a' hL=>seqB_ready hL.1) l.length listed a inv (Region.free_spec h0 hB.1.2) hr hy
   (zpm hns hs hc hn l (k+1) _ _ (fun j hj=>by have:=hl (j+1) zV;simpa [Nat.add_assoc,Nat.add_comm 1 j] using this) (by simp only [List.length_cons] at hk;omega) (inv.set hr hkn) hB.2 hK)
theorem z1p {id:Nat} {Q:Exit→Act→World→Prop} {a:Act} {w:World} {l:List Oper} (n:Nat) (hm:P.follows .mixedOrders=true) (hB:Region.lexTailB .any l.toArray n=true) (hC:C w.drew)
  (h:wpQuiet P l.toArray C (fun a'=>∀ w',C w'→wpList P l.toArray Q (l.drop n) a' w') (l.take n) a):(Code.region id l.toArray true).wp P Q a w:=by
 simp only [Region.lexTailB,Bool.and_eq_true,decide_eq_true_eq] at hB
 obtain ⟨⟨⟨⟨hns,hn⟩,hs⟩,hc⟩,hlex⟩:=hB
 have hnl:n<l.length:=by simpa using hn
 have htl:(l.take n).length=n:=by simp;omega
 have hdl:(l.drop n).length=l.toArray.size-n:=by simp
 have inv0:HeadInv .any l.toArray n (Array.replicate l.toArray.size false):=
  ⟨by simp,(fun j oj _ hl=>by rw [getD_replicate_false] at hl;cases hl),fun t _ ht=>getD_in (by simpa using ht) (getD_replicate_false _ _)⟩
 have H:=zpm (md:= .any) (g:=l.toArray.size-n) hns hs hc hn (l.take n) 0 _ a (fun j hj=>by rw [htl] at hj;simp [hj]) (by simpa using htl) inv0 (by rw [htl];exact hlex) h;refine wp_region_any hm ?_
 have:=zpl (Q':=Q) (g:=l.toArray.size-n) (fun listed a' w' hw' hL=>by
  have:=wpAny_of_seq (md:= .any) (Q':=Q) (l.drop n) n listed a' w' (fun j=>by simp [List.getElem?_drop]) (by rw [hdl];exact hL.1) (hL.2 w' hw')
  rwa [hdl] at this) _ _ _ w.drew hC H
 rw [htl,show n+(l.toArray.size-n)=l.toArray.size by omega] at this;exact this
end
structure QCall (P:Program) (w0:World) (G:Gs) (S:List Ow) (fid:FuncId) (args:List AV) (K:AV→Prop):Prop where
 out:fnOk P fid=true∧∃ x:Value,K (AV.of x)∧∀ r w us,Rel w0 G S r w→zc1 r args us→Calls P fid us.toArray w fun e w'=>e= .returned x∧Below w.heap.size w w'
def z0r (P:Program) (w0:World) (G:Gs) (S:List Ow) (f:Fr) (o:Oper) (K:AV→Prop):Prop:=
 match o.op with
 | .call ⟨.value fn,args,_⟩=>(match f.ev fn with
  | .p (.c (.clo (.func fid) cap))=>evL f args.toList fun vs=>QCall P w0 G S fid (vs++cap.map fun c=> .p (.c c)) K
  |_=>False)
 |_=>(match opTy P o.op with|true=>qop P w0 G S f o K|false=>False)
def z0w (P:Program) (w0:World) (G:Gs) (N:Nd) (ops:Array Oper) (S:List Ow):Nat→List Oper→Fr→(Fr→Prop)→Prop
 |_,[],f,K=>K f
 |0,_::_,_,_=>False
 |n+1,o::rest,f,K=>(match zi8 N.n o.dst with
  |false=>False
  |true=>(match o.guard with
   |none=>z0r P w0 G S f o fun v=>f.putK o.dst v fun f'=>z0w P w0 G N ops S n rest f' K
   |some (j,pol)=>(match z6m ops j with
    |none=>False
    |some d=>(match f.get d with
     | .p (.c (.v (.bool x)))=>(x=pol→z0r P w0 G S ((d,one (.bool pol))::f) o fun v=>Fr.putK ((d,one (.bool pol))::f) o.dst v fun f'=>z0w P w0 G N ops S n rest f' K)∧
       (x=(!pol)→Fr.putK ((d,one (.bool (!pol)))::f) o.dst (.p (.c .any)) fun f'=>z0w P w0 G N ops S n rest f' K)
     |_=>False))))
section
variable {P:Program} {w0:World} {G:Gs} {N:Nd} {ops:Array Oper} {S:List Ow} {r:Env} {w1:World}
theorem z0s (hR:Rel w0 G S r w1) {f:Fr} {o:Oper} {K:AV→Prop} (h:z0r P w0 G S f o K) {a:Act} (hf:FDen r f a):
  ∃ v u,K v∧v.den r u∧∀ w,Below w1.heap.size w1 w→o.quietAt P a (fun w'=>Below w1.heap.size w1 w') w u:=by
 unfold z0r at h
 split at h
 ·rename_i fn args tys hop
  have hfn:=hf.ev fn
  split at h
  ·rename_i fid cap he
   rw [he] at hfn;obtain ⟨us,hu,hcap⟩:=ziw hfn;rw [zkp] at h;obtain ⟨hok,x,hK,hc⟩:=h.out;refine ⟨_,x,hK,AV.of_den r x,fun w hw=>?_⟩
   have hrun:(execOp a.eval o).run P w= .ok (.enter fid ((args.map a.eval)++us.toArray)) w:=by
    simp [execOp,hop,resolve,Deferred.ofValue,hu,invoke,z2h hok]
   unfold Oper.quietAt;rw [hrun];refine ⟨rfl,?_⟩;have:=hc r w ((args.toList.map a.eval)++us) (hR.below hw) (zc2 (zc4 hf _) (zc3 hcap));rw [show ((args.toList.map a.eval)++us).toArray=(args.map a.eval)++us.toArray by apply Array.ext';simp] at this
   exact Calls.mono this fun e w' ⟨h1,h2⟩=>⟨h1,hw.trans (h2.mono hw.size)⟩
  ·exact h.elim
 ·split at h
  ·rename_i hty
   obtain ⟨v,u,hK,hd,hrun⟩:=z0v h hty hR hf;refine ⟨v,u,hK,hd,fun w hw=>?_⟩;unfold Oper.quietAt;rw [hrun w hw];exact ⟨rfl,rfl⟩
  ·exact h.elim
theorem z0x (hR:Rel w0 G S r w1) {Q:Act→Prop}:∀ (n:Nat) (l:List Oper) (f:Fr) (K:Fr→Prop),z0w P w0 G N ops S n l f K→(∀ f' a',K f'→FDen r f' a'→a'.tmps.size=N.n→a'.defers=N.ds→Q a')→
  ∀ a,FDen r f a→a.tmps.size=N.n→a.defers=N.ds→wpQuiet P ops (fun w'=>Below w1.heap.size w1 w') Q l a
 |_,[],f,K,h,hK,a,hf,hN,hd=>by cases ‹Nat› <;>exact hK f a h hf hN hd
 |0,o::l,f,K,h,hK,a,hf,hN,hd=>h.elim
 |n+1,o::l,f,K,h,hK,a,hf,hN,hd=>by
  unfold z0w at h
  have run:∀ {f:Fr},FDen r f a→zi8 N.n o.dst=true→Region.wanted o (yielded ops a.tmps)=true→(z0r P w0 G S f o fun v=>f.putK o.dst v fun f'=>z0w P w0 G N ops S n l f' K)→wpQuiet P ops (fun w'=>Below w1.heap.size w1 w') Q (o::l) a:=by
   intro f hf hdst hw h;obtain ⟨v,u,hKv,hv,hrun⟩:=z0s hR h hf;unfold wpQuiet;rw [if_pos hw];exact ⟨u,hrun,z0x hR n l _ K (zze.1 hKv) hK _ (hf.put hv (by rw [hN];exact hdst)) ((zzq a _ _).trans hN) ((zzn a _ _).trans hd)⟩
  split at h
  ·exact h.elim
  ·rename_i hdst
   split at h
   ·rename_i hg
    exact run hf hdst (yal hg _) h
   ·rename_i j pol hg
    split at h
    ·exact h.elim
    ·rename_i d hs
     split at h
     ·rename_i x hfx
      have hk:∀ y,x=y→FDen r ((d,one (.bool y))::f) a:=fun y hy k=>by
       simp only [Fr.get]
       split
       ·rename_i hdk;have:=Nat.eq_of_beq_eq_true hdk;subst this;rw [← hy, ← show f.get d=one (.bool x) from hfx];exact hf d
       ·exact hf k
      have hyl:=ybw hf hs hfx;by_cases hx:x=pol
      ·exact run (hk _ hx) hdst (by rw [yam hg,hyl,hx];simp) (h.1 hx)
      ·have hx':x= !pol:=by cases x<;>cases pol<;>simp_all
       unfold wpQuiet;rw [if_neg (by rw [yam hg,hyl];simpa using hx)];exact z0x hR n l _ K (zze.1 (h.2 hx')) hK _ ((hk _ hx').putAny undef (by rw [hN];exact hdst)) ((zzq a _ _).trans hN) ((zzn a _ _).trans hd)
     ·exact h.elim
theorem z27 {id:Nat} {l:List Oper} {f:Fr} {K:Exit→Fr→List Ow→Prop} (n:Nat) (hm:P.follows .mixedOrders=true) (hB:Region.lexTailB .any l.toArray n=true)
  (h:z0w P w0 G N l.toArray S (l.take n).length (l.take n) f fun f'=>opsK P w0 G N l.toArray (l.drop n).length (l.drop n) f' S (K .normal)):Sat none P w0 G N (.region id l.toArray true) f S K:=by
 refine ⟨fun n' a w ⟨r,hR,hf,hN,hd⟩=>wpIn_wide.2 ?_⟩;refine z1p (C:=fun w'=>Below w.drew.heap.size w.drew w') n hm hB (Below.refl _ _) ?_;refine z0x hR.drew _ _ f _ h (fun f' a' hk hf' hN' hd' w' hw'=>?_) a hf hN hd;exact z3z (zxa _ _ f' S _ hk (fun f2 S2 a2 w2 hk2 hg2=>⟨f2,S2,hk2,hg2⟩) a' w' ⟨r,hR.drew.below hw',hf',hN',hd'⟩)
theorem z25 {id:Nat} {l:List Oper} {f:Fr} {K:Exit→Fr→List Ow→Prop} (hm:P.follows .mixedOrders=true) (hB:Region.lexB .any l.toArray=true)
  (h:z0w P w0 G N l.toArray S l.length l f fun f'=>K .normal f' S):Sat none P w0 G N (.region id l.toArray true) f S K:=by
 refine ⟨fun n' a w ⟨r,hR,hf,hN,hd⟩=>wpIn_wide.2 ?_⟩;refine wp_region_quiet (C:=fun w'=>Below w.drew.heap.size w.drew w') hm hB (Below.refl _ _) ?_;exact z0x (Q:=fun a'=>∀ w',Below w.drew.heap.size w.drew w'→zal w0 G N K .normal a' w') hR.drew _ _ f _ h (fun f' a' hk hf' hN' hd' w' hw'=>⟨f',S,hk,r,hR.drew.below hw',hf',hN',hd'⟩) a hf hN hd
end
section
variable {P:Program} {w0:World} {G:Gs} {fid:FuncId} {args:List AV} {S:List Ow} {K:AV→Prop} {xs:List Value} {x:Value}
theorem z0c (hx:avals args=some xs) (hok:fnOk P fid=true) (h:∀ r w,Rel w0 G S r w→Calls P fid xs.toArray w fun e w'=>e= .returned x∧Below w.heap.size w w') (hK:K (AV.of x)):QCall P w0 G S fid args K:=
 ⟨⟨hok,x,hK,fun r w us hR hd=>by rw [zcs hx hd];exact h r w hR⟩⟩
theorem z0o (hx:avals args=some xs) (hok:fnOk P fid=true) (h:∀ r w,Rel w0 G S r w→Calls P fid xs.toArray w fun e w'=>e= .returned x∧w=w') (hK:K (AV.of x)):QCall P w0 G S fid args K:=
 z0c hx hok (fun r w hR=>(h r w hR).mono fun e w' ⟨h1,h2⟩=>⟨h1,by subst h2;exact Below.refl _ _⟩) hK
end
theorem Rel.slAt {w0:World} {G:Gs} {S:List Ow} {r:Env} {w:World} (hR:Rel w0 G S r w) {i b:Nat} {t:TypeId} {xs:List Value} (hi:S[i]?=some (.cells t (xs.map CV.v))) (hb:r.blk i=some b):SlAt w w.heap.size (some ⟨b,0,none⟩) xs:=by
 obtain ⟨b',us,h1,h2,h3⟩:=hR.own i _ hi;rw [hb] at h1;injection h1 with h1;subst h1;have:=zis h3;subst this
 exact SlAt.mk_ (hR.new i b hb).1 fun j u hj=>by simp [World.cell?,h2,hj]
theorem Rel.rowAt {w0:World} {G:Gs} {S:List Ow} {r:Env} {w:World} (hR:Rel w0 G S r w) {i:Nat} {e:TypeId} {size n:Nat} {xs:List Value} (hi:S[i]?=some (.row e size n xs)) {u:Value} (hu:r.val i=some u):
  ∃ A c,u= .slice A n c∧SlAt w w.heap.size A xs∧n≤c∧c≤maxLen:=by
 obtain ⟨v,hv,_,hown⟩:=hR.own i _ hi;rw [hu] at hv;injection hv with hv;subst hv;obtain ⟨A,c,h1,h2,h3,h4,_⟩:=zx6 hown;exact ⟨A,c,h1,h2,h3,h4⟩
theorem zi1 {r:Env} {i off n c:Nat} {u:Value} (h:AV.den r (.p (.c (.sl i off n c))) u):∃ b,r.blk i=some b∧u= .slice (some ⟨b,off,none⟩) n c:=by simpa only [AV.den,Pc.den,CV.den] using h
abbrev ztp (R:Value→Option (DataW Unit×List MemPlace)) (cd:Int→DataW Unit) (n:Nat) (f:Int→Option Int):Ow:= .ext fun b w=>IMap R cd w b n f
section
variable {R:Value→Option (DataW Unit×List MemPlace)} {mk:Int→Value} {cd:Int→DataW Unit} {good:Int→Prop} {n:Nat} {m:Int→Option Int}
variable {w0:World} {G:Gs} {N:Nd} {o:Oper} {f:Fr} {S:List Ow} {K:Fr→List Ow→Prop}
theorem zqx {r:Env} {w:World} {i b:Nat} (hb:r.blk i=some b) (h:IMap R cd w b n m):(ztp R cd n m).holds r w i:=⟨b,hb,h,fun _w' hw=>h.block hw⟩
theorem zw3 {t:TypeId} (hop:o.op= .makeMap t none) (hdst:zi8 N.n o.dst=true) (hk:K (f.put o.dst (.p (.c (.mp S.length)))) (S++[ztp R cd 0 fun _=>none])):OpS Tryz.prog w0 G N o f S K:=by
 refine ⟨fun r a w hR hf hN hd next Q hK=>?_⟩
 have hrun:(execOp a.eval o).run Tryz.prog w= .ok (.value (.map (some w.heap.size))) (w.alloc (.map #[] 0)):=by
  simp [execOp,hop,Instr.makeMap]
 have hle:=hR.le_new (some w.heap.size) none;refine ybh hrun (hK _ _ _ _ hk (zor hR hf hN hd hdst (r':=r.set S.length (some w.heap.size) none) ?_ (hR.snoc ((Below.refl _ _).alloc (Nat.le_refl _) _) (fun x hx=>by injection hx with hx;subst hx;simp) (zqx (by simp [Env.set]) (IMap.made w))) hle));simp only [AV.den,Pc.den,CV.den];exact ⟨w.heap.size,by simp [Env.set],rfl⟩
theorem Rel.lt_of_blk {S:List Ow} {r:Env} {w:World} (h:Rel w0 G S r w) {i b:Nat} (hb:r.blk i=some b):i<S.length:=by
 rcases Nat.lt_or_ge i S.length with h1|h1
 ·exact h1
 ·rw [h.outB i h1] at hb;cases hb
theorem ziy {r:Env} {i:Nat} {u:Value} (h:AV.den r (.p (.c (.mp i))) u):∃ b,r.blk i=some b∧u= .map (some b):=by simpa only [AV.den,Pc.den,CV.den] using h
end
section
variable {n:Nat} {m:Int→Option Int} {w0:World} {G:Gs} {o:Oper} {f:Fr} {S:List Ow} {K:AV→Prop}
end
theorem zfs {w0:World} {G:Gs} {b off:Nat} {x:Value} (hb:b<w0.heap.size) (hG:b∉G) (h:w0.cell? ⟨b,off,none⟩=some x):zac w0 G b off [x]:=
 ⟨hb,hG,fun j u hj=>by cases j with|zero=>simp at hj;subst hj;exact h|succ j=>simp at hj⟩
theorem zfq {w0:World} {G:Gs} {b off:Nat} {xs:List Value} (hb:b<w0.heap.size) (hG:b∉G) (h:∀ j u,xs[j]?=some u→w0.cell? ⟨b,off+j,none⟩=some u):zac w0 G b off xs:=⟨hb,hG,h⟩
section
variable {n b:Nat} {m:Int→Option Int} {w0:World} {G:Gs} {o:Oper} {f:Fr} {S:List Ow} {K:AV→Prop}
theorem z0m {mo x:Operand} (hop:o.op= .lookup 136 mo x true) (k:Int) (hm:f.ev mo=one (.map (some b))) (hmap:IMap i64R i64D w0 b n m) (hG:b∉G) (hx:f.ev x=one (.int .i64 k)) (hkw:(Lit.int .i64 k).wf=true)
  (hK:K (.tup [.c (.v (.int .i64 ((m k).getD 0))),.c (.v (.bool (m k).isSome))])):QRun Tryz.prog w0 G S f o K:=by
 refine ⟨_,hK,fun r a hf=>⟨.tuple #[.int .i64 ((m k).getD 0),.bool (m k).isSome],⟨_,rfl,_,_,rfl,by simp [Pc.den,CV.den],_,_,rfl,by simp [Pc.den,CV.den],rfl⟩,fun w hR=>?_⟩⟩;have h1:=hf.ev mo;have h2:=hf.ev x;rw [hm] at h1;rw [hx] at h2;simp [execOp,hop,zi2 h1,zi2 h2,ztk (hmap.block (hR.old b hmap.lt hG)) hkw]
end
theorem zft {w:World} {G:Gs} {bb off k:Nat} {l:List BOp} {o:BOp} (h:OpsAt w w.heap.size (some ⟨bb,off,none⟩) l) (hG:bb∉G) (hk:l[k]?=some o):zac w G bb (off+(k:Int).toNat*5) (opC o):=by
 have hlt:k<l.length:=by
  rcases Nat.lt_or_ge k l.length with h1|h1
  ·exact h1
  ·rw [List.getElem?_eq_none h1] at hk;cases hk
 obtain ⟨b',off',hA,hb,hc⟩:=SlAt.open_ h (by rw [zm4];omega);injection hA with hA;injection hA with e1 e2;subst e1;subst e2;refine ⟨hb,hG,fun j u hj=>?_⟩
 have hj5:j<5:=by
  rcases Nat.lt_or_ge j 5 with h1|h1
  ·exact h1
  ·rw [List.getElem?_eq_none (by rw [zwv];exact h1)] at hj;cases hj
 have:=hc (k*5+j) u ((zm2 l k j o hk hj5).trans hj)
 simpa [Nat.add_assoc] using this
section
variable {R:Value→Option (DataW Unit×List MemPlace)} {cd:Int→DataW Unit} {n:Nat} {m m':Int→Option Int}
variable {w0:World} {G:Gs} {fid:FuncId} {S:List Ow} {K:AV→List Ow→Prop} {x:Value}
end
theorem zfi {P:Program} {fid:FuncId} {fn:Func} {c:Code} {N:Nat} {w0:World} (xs:List Value) (hf:P.funcs[fid]?=some fn) (hN:fn.ntmps=N) (hb:fn.body=some c) (hle:xs.length≤N) {R:Ending→World→Prop}
  (h:vc none P w0 Gs.nil ⟨N,[]⟩ c (zb1 (xs.map fun x=>AV.of x) 0) [] (RetK P w0 Gs.nil fn.results.toList R)):Calls P fid xs.toArray w0 R:=
 zfk hf hN hb (z1w w0) (zc6 xs) hle h
theorem wr64 {n:Int} (h: -9223372036854775808≤n∧n<9223372036854775808):IntKind.i64.wrap n=n:=by
 have e:IntKind.i64.wrap n=wrap64 n:=by
  show (if (true&&decide (n%(2^64:Int)≥(2^63:Int))) then n%(2^64:Int)-(2^64:Int) else n%(2^64:Int))=_;unfold wrap64;by_cases h:n%(2^64:Int)≥(2^63:Int)
  ·rw [decide_eq_true h];simp only [Bool.and_self,if_true];omega
  ·rw [decide_eq_false h];simp only [Bool.and_false,Bool.false_eq_true,if_false];omega
 rw [e];unfold wrap64;omega
theorem wr32 (n:Int):IntKind.u32.wrap n=n%4294967296:=by
 show (if (false&&decide (n%(2^32:Int)≥(2^31:Int))) then n%(2^32:Int)-(2^32:Int) else n%(2^32:Int))=_;simp
theorem z6h {w w':World} {A:Option Addr} {xs:List Value} (h:SlAt w w.heap.size A xs) (hB:Below w.heap.size w w'):SlAt w' w'.heap.size A xs:=(h.below hB (Nat.le_refl _)).more hB.size
structure FoldSt (n:Nat) (ops:List BOp) where
 k:Nat
 f:Int→Option Int
 out:List BOp
 hk:k≤n
 hw:yba f
 hl:out.length≤k
 eq:znd zvp ops=out++znd f (ops.drop k)
theorem zgd {s s1:Ck} {o:BOp} {x y:Bool} (h:zf1 s o x y=some s1):znn o=true∧zyw s o x y=true∧(o.code=20→o.n=(s.marks:Int)∧s1=⟨s.marks+1,0,false⟩)∧
  (o.code≠20→(∀ v∈reads o,z02 s v=true)∧s1=⟨s.marks,if 20≤writes o then s.written|||2^(writes o).toNat else s.written,s.changed||(stores o.code||decide (0≤writes o∧writes o<20))⟩):=by
 unfold zf1 at h;by_cases hf:(znn o&&zyw s o x y)=true
 ·rw [if_pos hf] at h
  simp only [Bool.and_eq_true] at hf;refine ⟨hf.1,hf.2,fun hc=>?_,fun hc=>?_⟩
  ·rw [if_pos (by simp [hc])] at h
   by_cases hn:(o.n==(s.marks:Int))=true
   ·rw [if_pos hn] at h;injection h with h;exact ⟨by simpa using hn,h.symm⟩
   ·rw [if_neg hn] at h;cases h
  ·rw [if_neg (by simpa using hc)] at h
   by_cases hr:(reads o).all (z02 s)=true
   ·rw [if_pos hr] at h;injection h with h;exact ⟨fun v hv=>List.all_eq_true.1 hr v hv,h.symm⟩
   ·rw [if_neg hr] at h;cases h
 ·rw [if_neg hf] at h;cases h
theorem zge {s s2:Ck} {o:BOp} {l:List BOp} (h:zf8 s (o::l)=some s2):∃ s1,zf1 s o l.isEmpty (zlh l)=some s1∧zf8 s1 l=some s2:=by
 change (match zf1 s o l.isEmpty (zlh l) with|some s'=>zf8 s' l|none=>none)=_ at h
 cases h1:zf1 s o l.isEmpty (zlh l) with
 |none=>rw [h1] at h;cases h
 |some s1=>rw [h1] at h;exact ⟨s1,rfl,h⟩
structure Follows (l m:List BOp):Prop where
 empty:m.isEmpty=l.isEmpty
 exit:zlh l=true→zlh m=true
theorem z9z {b:Blk}:z9o b=true↔zpo b=true∧∃ s,zf8 ⟨0,0,false⟩ b.ops=some s∧s.marks=b.at_.length:=by
 unfold z9o;rw [Bool.and_eq_true]
 constructor
 ·rintro ⟨h1,h2⟩
  split at h2
  ·rename_i s hs;exact ⟨h1,s,hs,by simpa using h2⟩
  ·cases h2
 ·rintro ⟨h1,s,h2,h3⟩
  rw [h2];exact ⟨h1,by simp [h3]⟩
theorem ybc {P:Program} {ops:Array Oper} {Q:Exit→Act→World→Prop} {Q1:Act→World→Prop} (ro:Option Nat) (n:Nat):∀ (k:Nat) {l:List Oper} {a:Act} {w:World},seL P ops Q1 (l.take k) a w→(∀ a w,Q1 a w→wpListIn (zlq ro) n P ops Q (l.drop k) a w)→wpListIn (zlq ro) n P ops Q l a w
 |0,l,a,w,h,h2=>by simpa using h2 a w h
 |k+1,[],a,w,h,h2=>by simpa using h2 a w h
 |k+1,o::l,a,w,h,h2=>by
  simp only [List.take_succ_cons,List.drop_succ_cons] at h h2;unfold seL at h;unfold wpListIn
  split at h
  ·rename_i hw;rw [if_pos hw];exact z32 ro n h fun a w h=>ybc ro n k h h2
  ·rename_i hw;rw [if_neg hw];exact ⟨fun f _=>zls ro f,ybc ro n k h h2⟩
def Slots (a:Act):List (Nat×Value)→Prop
 |[]=>True
 |(d,v)::l=>a.tmps.getD d undef=v∧Slots a l
def z6l:List (Nat×Value)→Fr
 |[]=>[]
 |(d,v)::l=>(d,AV.of v)::z6l l
theorem z6u {r:Env} {a:Act}:∀ {l:List (Nat×Value)},Slots a l→FDen r (z6l l) a
 |[],_=>fun k=>by simp [z6l,Fr.get,AV.den,Pc.den,CV.den]
 |(d,v)::l,h=>fun k=>by
  simp only [z6l,Fr.get]
  split
  ·rename_i hk;have:=Nat.eq_of_beq_eq_true hk;subst this
   rw [h.1];exact AV.of_den r v
  ·exact z6u h.2 k
def CV.fx (ok:Nat→Bool):CV→Bool
 | .v _=>true
 | .ref i _=>ok i
 | .any=>true
 |_=>false
def fxL (ok:Nat→Bool):List CV→Bool
 |[]=>true
 |c::l=>match c.fx ok with|true=>fxL ok l|false=>false
def AV.fx (ok:Nat→Bool):AV→Bool
 | .p (.c x)=>x.fx ok
 | .p (.agg l)=>fxL ok l
 |_=>false
def Fr.fx (ok:Nat→Bool):Fr→Bool
 |[]=>true
 |(_,x)::f=>match x.fx ok with|true=>Fr.fx ok f|false=>false
section
variable {ok:Nat→Bool} {r r':Env}
theorem CV.den_fx (h:∀ i b,ok i=true→r.blk i=some b→r'.blk i=some b):∀ {c:CV} {u:Value},c.fx ok=true→c.den r u→c.den r' u
 | .v x,u,_,hd=>by simpa only [CV.den] using hd
 | .ref i off,u,hb,hd=>by
  simp only [CV.den] at hd⊢;obtain ⟨x,hx,hu⟩:=hd;exact ⟨x,h i x hb hx,hu⟩
 | .any,u,_,hd=>by simp only [CV.den]
 | .vref ..,_,hb,_=>by cases hb
 | .row ..,_,hb,_=>by cases hb
 | .sl ..,_,hb,_=>by cases hb
 | .mp ..,_,hb,_=>by cases hb
 | .clo ..,_,hb,_=>by cases hb
theorem zij (h:∀ i b,ok i=true→r.blk i=some b→r'.blk i=some b):∀ {l:List CV} {us:List Value},fxL ok l=true→denL r l us→denL r' l us
 |[],us,_,hd=>by simpa only [denL] using hd
 |c::cs,us,hb,hd=>by
  simp only [denL] at hd⊢;obtain ⟨u,l,hu,hc,hl⟩:=hd;simp only [fxL] at hb
  split at hb
  ·rename_i hb1;exact ⟨u,l,hu,CV.den_fx h hb1 hc,zij h hb hl⟩
  ·cases hb
theorem AV.den_fx (h:∀ i b,ok i=true→r.blk i=some b→r'.blk i=some b) {x:AV} {u:Value} (hx:x.fx ok=true) (hd:x.den r u):x.den r' u:=by
 unfold AV.fx at hx
 split at hx
 ·exact CV.den_fx h hx hd
 ·obtain ⟨us,hu,hl⟩:=hd;exact ⟨us,hu,zij h hx hl⟩
 ·cases hx
theorem Fr.fx_get:∀ {f:Fr} (k:Nat),f.fx ok=true→(f.get k).fx ok=true
 |[],k,_=>rfl
 |(d,x)::f,k,h=>by
  simp only [Fr.fx] at h
  split at h
  ·simp only [Fr.get]
   split
   ·assumption
   ·exact Fr.fx_get k h
  ·cases h
theorem FDen.fx {f:Fr} {a:Act} (hf:FDen r f a) (h:∀ i b,ok i=true→r.blk i=some b→r'.blk i=some b) (hx:f.fx ok=true):FDen r' f a:=fun k=>AV.den_fx h (Fr.fx_get k hx) (hf k)
end
def Ow.flat:Ow→Bool
 | .cells _ _=>true
 | .row _ _ _ _=>true
 |_=>false
section
variable {w0:World} {G:Gs} {S:List Ow} {r:Env} {W:World}
theorem z1t (h:Rel w0 G S r W) {gs ext:List Nat} (hgs:∀ (i g:Nat),gs[i]?=some g→r.blk i=some g) (hext:∀ i b,r.blk i=some b→b∈gs∨b∈ext):Rel W ⟨gs,ext⟩ S r W:=
 ⟨rfl,rfl,rfl,Nat.le_refl _,fun _ _ _=>rfl,h.own,h.inj,fun i b hb=>⟨(h.new i b hb).1,fun _=>hext i b hb⟩,h.outB,h.outV,hgs⟩
theorem z1s (h:Rel w0 G S r W) {gs ext:List Nat} {S':List Ow} {r':Env} {W':World} (h2:Rel W ⟨gs,ext⟩ S' r' W') (hx:∀ b,b∈gs∨b∈ext→∃ i,r.blk i=some b) (hf:∀ (i g:Nat),G.fix[i]?=some g→gs[i]?=some g):Rel w0 G S' r' W':=by
 refine ⟨h2.os.trans h.os,h2.tape.trans h.tape,h2.output.trans h.output,Nat.le_trans h.size h2.size,fun k hk hG=>(h2.old k (Nat.lt_of_lt_of_le hk h.size) fun hm=>?_).trans (h.old k hk hG),h2.own,h2.inj,fun i b hb=>⟨(h2.new i b hb).1,fun hlt=>?_⟩,h2.outB,h2.outV,fun i g hg=>h2.first i g (hf i g hg)⟩
 ·obtain ⟨i,hi⟩:=hx k hm
  exact hG ((h.new i k hi).2 hk)
 ·obtain ⟨j,hj⟩:=hx b ((h2.new i b hb).2 (Nat.lt_of_lt_of_le hlt h.size))
  exact (h.new j b hj).2 hlt
end
structure SatQ (P:Program) (w0:World) (G:Gs) (N:Nd) (c:Code) (f:Fr) (S:List Ow) (Q:Exit→Act→World→Prop):Prop where
 out:∀ a w,Good w0 G N f S a w→c.wpIn Fence.wide 10 P Q a w
structure AtQ (w0:World) (G:Gs) (N:Nd) (e:Exit) (f:Fr) (S:List Ow) (Q:Exit→Act→World→Prop):Prop where
 out:∀ a w,Good w0 G N f S a w→Q e a w
section
variable {P:Program} {w0:World} {G:Gs} {N:Nd} {c d:Code} {f:Fr} {S:List Ow} {Q:Exit→Act→World→Prop}
theorem z3t (h:vc none P w0 G N c f S fun e f S=>AtQ w0 G N e f S Q):SatQ P w0 G N c f S Q:=
 ⟨fun a w hg=>wpIn_mono ((yak (ro:=none) c f S _ h).out 10 a w hg) fun _e a' w' ⟨_f',_S',hk,hg'⟩=>hk.out a' w' hg'⟩
theorem z3o (h:vc none P w0 G N c f S fun e f S=>match e with| .normal=>SatQ P w0 G N d f S Q|e=>AtQ w0 G N e f S Q):SatQ P w0 G N (.seq c d) f S Q:=
 ⟨fun a w hg=>wpIn_seq (wpIn_mono ((yak (ro:=none) c f S _ h).out 10 a w hg) fun e a' w' ⟨f',S',hk,hg'⟩=>by
  cases e with
  |normal=>exact hk.out a' w' hg'
  |exit id=>exact hk.out a' w' hg'
  |goto l=>exact hk.out a' w' hg'
  |ret=>exact hk.out a' w' hg'
  |panic ch=>exact hk.out a' w' hg'
  |outgrown=>exact hk.out a' w' hg')⟩
theorem z3e (h:SatQ P w0 G N c f S (Exit.then (d.wpIn Fence.wide 10 P Q) Q)):SatQ P w0 G N (.seq c d) f S Q:=⟨fun a w hg=>wpIn_seq (h.out a w hg)⟩
theorem z3b {id:Nat} (h:SatQ P w0 G N c f S (Exit.inBlock id Q)):SatQ P w0 G N (.block id c) f S Q:=⟨fun a w hg=>wpIn_block (h.out a w hg)⟩
end
structure EntB (f:Fr) (S:List Ow) (f':Fr) (S':List Ow):Prop where
 out:∀ w0 w r a,Rel w0 Gs.nil S r w→FDen r f a→∃ r',Rel w0 Gs.nil S' r' w∧FDen r' f' a∧∀ i b,r'.blk i=some b→∃ j,r.blk j=some b
def zfl (S:List Ow):Bool:=S.all fun o=>match o with| .cells _ _=>true|_=>false
end Go.Proofs.YtocafomnnkmjfaaGreat
