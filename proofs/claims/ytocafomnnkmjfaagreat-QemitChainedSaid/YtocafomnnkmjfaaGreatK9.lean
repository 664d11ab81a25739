import Derived.Test.YtocafomnnkmjfaaGreatK8
namespace Go.Proofs.YtocafomnnkmjfaaGreat
open Go.RowKit
section
variable {P:Program} {w0:World} {G:Gs} {N:Nd} {ops:Array Oper}
theorem zwa {n:Nat} {r:Env} {f f':Fr} {grp:List Oper} {d:Nat} {x:Bool} {a:Act} (hfx:f.get d=one (.bool x)) (htop:zv9 (zjd grp) ((d,one (.bool x))::f) (putN grp) f') (hf:FDen r f' a) (hb:f.bnd n=true):FDen (r.upto n) (zzk grp f) a:=by
 intro k;rcases zzo grp f k with h|⟨h1,h2⟩
 ·rw [h];simp [AV.den,Pc.den,CV.den]
 ·rw [h1]
  have e1:=zwb _ _ htop k h2;have e2:=hf k;rw [e1] at e2;simp only [Fr.get] at e2
  split at e2
  ·rename_i hk
   have:=Nat.eq_of_beq_eq_true hk;subst this;rw [hfx];exact AV.den_agree (Env.upto_agree n r) _ _ rfl e2
  ·exact AV.den_agree (Env.upto_agree n r) _ _ (Fr.bnd_get k hb) e2
end
theorem z3q {n:Nat}:∀ {S:List Ow} {i:Nat} {o:Ow},sbnd n S=true→S[i]?=some o→o.bnd n=true
 |[],i,o,_,h=>by simp at h
 |x::S,i,o,hb,h=>by
  simp only [sbnd] at hb
  split at hb
  ·rename_i hx
   cases i with
   |zero=>simp at h;subst h;exact hx
   |succ i=>exact z3q hb (by simpa using h)
  ·cases hb
section
variable {P:Program} {w0:World} {G:Gs} {N:Nd} {ops:Array Oper}
theorem zw2 {Q:Act→World→Prop}:∀ (n:Nat) (l:List Oper) (f:Fr) (S:List Ow) (K:Fr→List Ow→Prop),opsK P w0 G N ops n l f S K→(∀ f' S' a' w',K f' S'→Good w0 G N f' S' a' w'→Q a' w')→
  ∀ a w,Good w0 G N f S a w→seL P ops Q l a w
 |_,[],f,S,K,h,hK,a,w,hg=>by cases ‹Nat› <;>exact hK _ _ _ _ h hg
 |0,o::l,f,S,K,h,hK,a,w,hg=>h.elim
 |n+1,o::l,f,S,K,h,hK,a,w,hg=>by
  unfold opsK at h
  have hsplit:∀ {j d:Nat} {pol x:Bool},o.guard=some (j,pol)→z6e ops j=some d→f.get d=one (.bool x)→
    ((x=pol→opK P w0 G N o ((d,one (.bool pol))::f) S fun f' S'=>opsK P w0 G N ops n l f' S' K)∧
     (x=(!pol)→match zjc N.n o.dst with|true=>(Fr.putK ((d,one (.bool (!pol)))::f) o.dst (.p (.c .any)) fun f'=>opsK P w0 G N ops n l f' S K)|false=>False))→seL P ops Q (o::l) a w:=by
   intro j d pol x hg' hs hfx ⟨h1,h2⟩;by_cases hx:x=pol
   ·obtain ⟨r,hR,hf,hN,hd⟩:=hg.known (d:=d) (x:=one (.bool pol)) (by rw [hfx,hx])
    refine z68 ?_ ((zwp (h1 hx)).out r a w hR hf hN hd _ (fun _ _ _=>True) fun f' S' a' w' hk hgd=>zw2 n l f' S' K hk hK a' w' hgd);rw [yae hg',ybn hf hs (zor d _ f)];simp
   ·have hx':x= !pol:=by cases x<;>cases pol<;>simp_all
    have h2:=h2 hx';obtain ⟨r,hR,hf,hN,hd⟩:=hg.known (d:=d) (x:=one (.bool (!pol))) (by rw [hfx,hx'])
    split at h2
    ·rename_i hdst
     refine z7a ?_ (zw2 n l _ S K (zy5.1 h2) hK _ _ ⟨r,hR,hf.putAny undef (by rw [hN];exact hdst),(zzh a _ _).trans hN,(zze a _ _).trans hd⟩)
     rw [yae hg',ybn hf hs (zor d _ f)];cases pol<;>simp
    ·exact h2.elim
  split at h
  ·rename_i hgd
   obtain ⟨r,hR,hf,hN,hd⟩:=hg;exact z68 (yad hgd _) ((zwp h).out r a w hR hf hN hd _ (fun _ _ _=>True) fun f' S' a' w' hk hg'=>zw2 n l f' S' K hk hK a' w' hg')
  ·rename_i j pol hgd
   split at h
   ·exact h.elim
   ·rename_i d hs
    split at h
    ·rename_i x hfx
     split at h
     ·rename_i grp p rem hspan
      split at h
      ·rename_i b hpick
       split at h
       ·rename_i hD hpd hmem
        have hmem:=zua hmem;obtain ⟨y,hy,hrest⟩:=h;rw [zzm,zy5] at hrest;have hall:∀ o∈grp,o.guard=some (j,pol):=fun o' ho'=>z6r j pol (o::l) o' (by rw [hspan];exact ho');have happ:grp++p::rem=o::l:=(by have:=z6s j pol (o::l);rw [hspan] at this;exact this);rw [← happ];by_cases hx:x=pol
        ·have h1:=hy hx
         refine z3y hs grp _ S _ hall h1 ?_ a w (hg.known (d:=d) (x:=one (.bool pol)) (by rw [hfx,hx]));rintro f' S' a' w' ⟨htop,htake,hb,hbnd,hgrp⟩ ⟨r',hR',hf',hN',hd'⟩;subst hx
         have hS:S.length≤S'.length:=by
          have:=congrArg List.length htake;simp at this;omega
         have hfd:=zwa (grp:=grp) hfx htop hf' hbnd;have hR2:Rel w0 G S' r' w':=hR';have eb:a'.eval (.tmp b)= .bool y:=(by have:=hf' b;rw [hb] at this;exact zi6 this)
         have ed:a'.eval (.tmp d)= .bool x:=by
          have h2:=hf' d;rw [zwb _ _ htop d hmem,zor] at h2;exact zi6 h2
         obtain ⟨hpg,hprun⟩:=zyl (P:=P) hpick (a:=a') ed (fun _=>eb) w';refine z68 (yad hpg _) (ya8 hprun ?_);refine zw2 n rem _ S K hrest hK _ _ ⟨r'.upto S.length,?_,hfd.put (zi3 _ _) (by rw [hN'];exact hpd),(zzh a' _ _).trans hN',(zze a' _ _).trans hd'⟩;unfold zoz at hgrp
         split at hgrp
         ·rename_i hG
          refine hR2.upto rfl hS (Nat.le_of_ble_eq_true hG) fun i o' ho'=>?_
          have hil:i<S.length:=by
           rcases Nat.lt_or_ge i S.length with h1|h1
           ·exact h1
           ·rw [List.getElem?_eq_none h1] at ho';cases ho'
          have ho2:S'[i]?=some o':=(by rw [← htake,List.getElem?_take] at ho';rw [if_pos hil] at ho';exact ho');exact Ow.holds_agree (hR2.own i o' ho2) (Env.upto_agree _ _) (z3q hgrp ho') hil (Env.upto_blk _ _)
         ·cases hgrp
        ·refine za6 grp hD hs hall hx hfx hmem hg fun a' hg'=>?_
         obtain ⟨r',hR',hf',hN',hd'⟩:=hg'
         have ed:a'.eval (.tmp d)= .bool x:=by
          have h2:=hf' d;rw [zzn grp f d hmem,hfx] at h2;exact zi6 h2
         obtain ⟨hpg,hprun⟩:=zyl (P:=P) (y:=y) hpick (a:=a') ed (fun e=>absurd e hx) w;refine z68 (yad hpg _) (ya8 hprun ?_);exact zw2 n rem _ S K hrest hK _ _ ⟨r',hR',hf'.put (zi3 _ _) (by rw [hN'];exact hpd),(zzh a' _ _).trans hN',(zze a' _ _).trans hd'⟩
       ·exact h.elim
      ·exact hsplit hgd hs hfx h
     ·exact hsplit hgd hs hfx h
    ·exact h.elim
end
def Inc (l:List Int):Prop:=l.Pairwise (· < ·)
def putP:List Int→Int→List Int
 |[],p=>[p]
 |x::l,p=>if x=p then x::l else if p<x then p::x::l else x::putP l p
def zx1 (a:Int):Int:=zhz a/256
def zax (l:List Int) (a:Int):List Int:=if zx1 a<4096 then putP l (zx1 a) else l
def zay (l:List Int) (a:Int):List Int:=zax (zax (zax (zax l a) (a+1)) (a+2)) (a+3)
def zs8 (pc:Int):Nat→List Int
 |0=>[]
 |m+1=>zay (zs8 pc m) (zzr pc m)
structure PagesIn (l:List Int):Prop where
 inc:Inc l
 range:∀ x∈l,0≤x∧x<4096
section
variable (ro:Option Nat) (P:Program) (w0:World) (G:Gs) (N:Nd)
def zal (K:Exit→Fr→List Ow→Prop):Exit→Act→World→Prop:=fun e a w=>∃ f S,K e f S∧Good w0 G N f S a w
structure Sat (c:Code) (f:Fr) (S:List Ow) (K:Exit→Fr→List Ow→Prop):Prop where
 out:∀ n a w,Good w0 G N f S a w→c.wpIn (zlu ro) n P (zal w0 G N K) a w
structure Ent (f:Fr) (S:List Ow) (f':Fr) (S':List Ow):Prop where
 out:∀ a w,Good w0 G N f S a w→Good w0 G N f' S' a w
def LoopS (vcb:Fr→List Ow→(Exit→Fr→List Ow→Prop)→Prop) (f:Fr) (S:List Ow) (K:Exit→Fr→List Ow→Prop):Prop:=
 ∃ (α:Type) (T:α→Fr) (U:α→List Ow) (m:α→Nat),(∃ x,Ent w0 G N f S (T x) (U x))∧
  ∀ x,vcb (T x) (U x) fun e f' S'=>match e with| .normal=>∃ y,Ent w0 G N f' S' (T y) (U y)∧m y<m x|e=>∃ f2 S2,Ent w0 G N f' S' f2 S2∧K e f2 S2
def vc:Code→Fr→List Ow→(Exit→Fr→List Ow→Prop)→Prop
 | .skip,f,S,K=>K .normal f S
 | .region id ops draw,f,S,K=>(match draw with
  |false=>opsK P w0 G N ops ops.toList.length ops.toList f S (K .normal)
  |true=>Sat ro P w0 G N (.region id ops true) f S K)
 | .seq a b,f,S,K=>vc a f S fun e f' S'=>match e with| .normal=>vc b f' S' K|e=>K e f' S'
 | .cond c x y,f,S,K=>(match f.ev c with
  | .p (.c (.v (.bool t)))=>(t=true→vc x f S K)∧(t=false→vc y f S K)
  |_=>False)
 | .block id body,f,S,K=>vc body f S fun e f' S'=>match e with
  | .exit id'=>(match Nat.beq id' id with|true=>K .normal f' S'|false=>K (.exit id') f' S')
  |e=>K e f' S'
 | .loop body,f,S,K=>LoopS w0 G N (vc body) f S K
 | .exit id,f,S,K=>K (.exit id) f S
 | .ret,f,S,K=>K .ret f S
 |c,f,S,K=>Sat ro P w0 G N c f S K
end
section
variable {ro:Option Nat} {P:Program} {w0:World} {G:Gs} {N:Nd}
theorem yac:∀ (c:Code) (f:Fr) (S:List Ow) (K:Exit→Fr→List Ow→Prop),vc ro P w0 G N c f S K→Sat ro P w0 G N c f S K
 | .skip,f,S,K,h=>⟨fun n a w hg=>wpIn_skip ⟨f,S,h,hg⟩⟩
 | .region id ops draw,f,S,K,h=>by
  cases draw with
  |false=>exact ⟨fun n a w hg=>wpIn_region_list (z3s ro n (zw2 _ _ f S _ h (fun f' S' a' w' hk hg'=>⟨f',S',hk,hg'⟩) a w hg))⟩
  |true=>exact h
 | .seq x y,f,S,K,h=>⟨fun n a w hg=>wpIn_seq (wpIn_mono ((yac x f S _ h).out n a w hg) (fun e a' w' ⟨f',S',hk,hg'⟩=>by
   cases e with
   |normal=>exact (yac y f' S' K hk).out n a' w' hg'
   |exit id=>exact ⟨f',S',hk,hg'⟩
   |goto l=>exact ⟨f',S',hk,hg'⟩
   |ret=>exact ⟨f',S',hk,hg'⟩
   |panic ch=>exact ⟨f',S',hk,hg'⟩
   |outgrown=>exact ⟨f',S',hk,hg'⟩))⟩
 | .cond c x y,f,S,K,h=>⟨fun n a w hg=>by
   unfold vc at h
   split at h
   ·rename_i t ht
    obtain ⟨r,hR,hf,hN,hd⟩:=hg;have hc:=hf.ev c;rw [ht] at hc;have hc:=zi6 hc;refine wpIn_cond_split hc (fun e=>(yac x f S K (h.1 e)).out n a w ⟨r,hR,hf,hN,hd⟩) (fun e=>(yac y f S K (h.2 e)).out n a w ⟨r,hR,hf,hN,hd⟩)
   ·exact h.elim⟩
 | .block id c,f,S,K,h=>⟨fun n a w hg=>wpIn_block (wpIn_mono ((yac c f S _ h).out n a w hg) (fun e a' w' ⟨f',S',hk,hg'⟩=>by
   cases e with
   |exit id'=>
    simp only [Exit.inBlock];by_cases hi:id'=id
    ·subst hi;simp only [Nat.beq_refl] at hk;rw [if_pos rfl];exact ⟨f',S',hk,hg'⟩
    ·have hb:Nat.beq id' id=false:=by
      cases h2:Nat.beq id' id
      ·rfl
      ·exact absurd (Nat.eq_of_beq_eq_true h2) hi
     simp only [hb] at hk;rw [if_neg hi];exact ⟨f',S',hk,hg'⟩
   |normal=>exact ⟨f',S',hk,hg'⟩
   |goto l=>exact ⟨f',S',hk,hg'⟩
   |ret=>exact ⟨f',S',hk,hg'⟩
   |panic ch=>exact ⟨f',S',hk,hg'⟩
   |outgrown=>exact ⟨f',S',hk,hg'⟩))⟩
 | .loop c,f,S,K,h=>⟨fun nn a w hg=>by
   obtain ⟨α,T,U,m,⟨x0,h0⟩,hround⟩:=h;intro b k cs hro hb hr
   have key:∀ (n:Nat) (x:α),m x=n→∀ a w,Good w0 G N (T x) (U x) a w→∃ e a' w',zal w0 G N K e a' w'∧ArrivesIn (Machine.fenced P (zlu ro)) P (lone (b.atR a (.code c:: .inLoop c::k)) cs w) b k cs e a' w':=by
    intro n
    induction n using Nat.strongRecOn with
    |_ n ih=>
     intro x hx a w hg;obtain ⟨e,a',w',⟨f',S',hk,hg'⟩,harr⟩:=(yac c (T x) (U x) _ (hround x)).out nn a w hg b (.inLoop c::k) cs hro hb hr
     cases e with
     |normal=>
      obtain ⟨y,hent,hlt⟩:=hk;obtain ⟨e2,a2,w2,hq2,harr2⟩:=ih (m y) zO y rfl a' w' (hent.out a' w' hg');exact ⟨e2,a2,w2,hq2,.of_steps (StepsIn.trans harr (.one (fenced_calm hb hr rfl) stepR_inLoop)) harr2⟩
     |exit id=>obtain ⟨f2,S2,hent,hk2⟩:=hk;exact ⟨_,a',w',⟨f2,S2,hk2,hent.out a' w' hg'⟩,.pass (x:= .inLoop c) rfl (fun _ _=> .inl zS) harr⟩
     |goto l=>obtain ⟨f2,S2,hent,hk2⟩:=hk;exact ⟨_,a',w',⟨f2,S2,hk2,hent.out a' w' hg'⟩,.pass (x:= .inLoop c) rfl (fun _ _=> .inl zS) harr⟩
     |ret=>obtain ⟨f2,S2,hent,hk2⟩:=hk;exact ⟨_,a',w',⟨f2,S2,hk2,hent.out a' w' hg'⟩,.pass (x:= .inLoop c) rfl (fun _ _=> .inl zS) harr⟩
     |panic ch=>obtain ⟨f2,S2,hent,hk2⟩:=hk;exact ⟨_,a',w',⟨f2,S2,hk2,hent.out a' w' hg'⟩,.pass (x:= .inLoop c) rfl (fun _ _=> .inl zS) harr⟩
     |outgrown=>obtain ⟨f2,S2,hent,hk2⟩:=hk;exact ⟨_,a',w',⟨f2,S2,hk2,hent.out a' w' hg'⟩,.pass (x:= .inLoop c) rfl (fun _ _=> .inl zS) harr⟩
   obtain ⟨e,a',w',hq,harr⟩:=key _ x0 rfl a w (h0.out a w hg)
   exact ⟨e,a',w',hq,.of_steps (.one (fenced_calm hb hr rfl) stepR_loop) harr⟩⟩
 | .exit id,f,S,K,h=>⟨fun n a w hg=>wpIn_exit ⟨f,S,h,hg⟩⟩
 | .ret,f,S,K,h=>⟨fun n a w hg=>wpIn_ret ⟨f,S,h,hg⟩⟩
 | .rangeFunc _ _ _ _,f,S,K,h=>h
 | .scope _,f,S,K,h=>h
 | .label _,f,S,K,h=>h
 | .goto _,f,S,K,h=>h
 | .refuse _,f,S,K,h=>h
end
def AVle (u:AV):AV→Prop
 | .p (.c .any)=>True
 |v=>u=v
def FLe (f:Fr):Fr→Prop
 |[]=>True
 |(d,x)::r=>AVle (f.get d) x∧FLe f r
def CLp:List CV→List CV→Prop
 |[],[]=>True
 |c::l,d::m=>(match d with| .any=>True|d=>c=d)∧CLp l m
 |_,_=>False
def CLe (l m:List CV):Prop:=l=m∨CLp l m
def OLe:Ow→Ow→Prop
 | .cells t l,.cells t' l'=>t=t'∧CLe l l'
 | .row e s n xs,.row e' s' n' xs'=>e=e'∧s=s'∧n=n'∧xs=xs'
 | .view φ n xs,.view φ' n' xs'=>φ=φ'∧n=n'∧xs=xs'
 | .ext φ,.ext ψ=>∀ b w,φ b w→ψ b w
 |_,.gone=>True
 |_,_=>False
def SLe:List Ow→List Ow→Prop
 |_,[]=>True
 |o::S,o'::S'=>OLe o o'∧SLe S S'
 |[],_::_=>False
theorem AVle.den {r:Env} {u v:AV} {x:Value} (h:AVle u v) (hd:u.den r x):v.den r x:=by
 unfold AVle at h
 split at h
 ·simp [AV.den,Pc.den,CV.den]
 ·subst h;exact hd
theorem FLe.get {f:Fr}:∀ {g:Fr} (k:Nat),FLe f g→g.get k= .p (.c .any)∨AVle (f.get k) (g.get k)
 |[],k,_=> .inl rfl
 |(d,x)::r,k,h=>by
  simp only [Fr.get]
  split
  ·rename_i hk;have:=Nat.eq_of_beq_eq_true hk;subst this;exact .inr h.1
  ·exact FLe.get k h.2
theorem FLe.den {r:Env} {f g:Fr} {a:Act} (h:FLe f g) (hf:FDen r f a):FDen r g a:=fun k=>by
 rcases h.get k with h1|h1
 ·rw [h1];simp [AV.den,Pc.den,CV.den]
 ·exact h1.den (hf k)
theorem CLp.den {r:Env}:∀ {l m:List CV} {us:List Value},CLp l m→denL r l us→denL r m us
 |[],[],us,_,hd=>hd
 |c::l,d::m,us,h,hd=>by
  simp only [denL] at hd⊢;obtain ⟨u,l',hu,hc,hl⟩:=hd;refine ⟨u,l',hu,?_,CLp.den h.2 hl⟩;have h1:=h.1
  split at h1
  ·simp only [CV.den]
  ·subst h1;exact hc
 |[],_::_,_,h,_=>h.elim
 |_::_,[],_,h,_=>h.elim
theorem CLe.den {r:Env} {l m:List CV} {us:List Value} (h:CLe l m) (hd:denL r l us):denL r m us:=by
 rcases h with rfl|h
 ·exact hd
 ·exact h.den hd
theorem OLe.holds {r:Env} {w:World} {i:Nat} {o o':Ow} (h:OLe o o') (ho:o.holds r w i):o'.holds r w i:=by
 cases o<;>cases o'<;>simp only [OLe] at h
 ·obtain ⟨rfl,hl⟩:=h;obtain ⟨b,us,h1,h2,h3⟩:=ho;exact ⟨b,us,h1,h2,hl.den h3⟩
 ·trivial
 ·obtain ⟨rfl,rfl,rfl,rfl⟩:=h;exact ho
 ·trivial
 ·obtain ⟨b,h1,h2,h3⟩:=ho;exact ⟨b,h1,h b w h2,fun w' hw=>h b w' (h3 w' hw)⟩
 ·trivial
 ·obtain ⟨rfl,rfl,rfl⟩:=h;exact ho
 ·trivial
 ·trivial
theorem SLe.get:∀ {S S':List Ow} {i:Nat} {o':Ow},SLe S S'→S'[i]?=some o'→∃ o,S[i]?=some o∧OLe o o'
 |_,[],i,o',_,h=>by simp at h
 |[],_::_,_,_,h,_=>h.elim
 |o::S,o1::S',0,o',h,hi=>by simp at hi;subst hi;exact ⟨o,by simp,h.1⟩
 |o::S,o1::S',i+1,o',h,hi=>by simpa using SLe.get h.2 (by simpa using hi)
theorem SLe.length:∀ {S S':List Ow},SLe S S'→S'.length≤S.length
 |_,[],_=>by simp
 |[],_::_,h=>h.elim
 |o::S,o1::S',h=>by simp;exact SLe.length h.2
section
variable {P:Program} {w0:World} {G:Gs} {N:Nd} {f f':Fr} {S S':List Ow}
theorem zj7:Ent w0 G N f S f S:=⟨fun _ _ h=>h⟩
theorem zkc {f2:Fr} {S2:List Ow} (h:Ent w0 G N f S f' S') (k:Ent w0 G N f' S' f2 S2):Ent w0 G N f S f2 S2:=⟨fun a w hg=>k.out a w (h.out a w hg)⟩
theorem zkb (hl:S.length=S'.length) (hf:FLe f f') (hS:SLe S S'):Ent w0 G N f S f' S':=⟨fun a w ⟨r,hR,hd,hN,hdf⟩=>
 ⟨r,⟨hR.os,hR.tape,hR.output,hR.size,hR.old,fun i o' hi=>by obtain ⟨o,ho,hle⟩:=hS.get hi;exact hle.holds (hR.own i o ho),hR.inj,hR.new,fun i hi=>hR.outB i zO,fun i hi=>hR.outV i zO,hR.first⟩,hf.den hd,hN,hdf⟩⟩
theorem zj2 (hf:FLe f f') (hS:SLe S S') (hb:Fr.bnd S'.length f'=true) (hg:zoz G S'=true):Ent w0 G N f S f' S':=⟨fun a w ⟨r,hR,hd,hN,hdf⟩=>by
 unfold zoz at hg
 split at hg
 ·rename_i hG
  refine ⟨r.upto S'.length,hR.upto rfl hS.length (Nat.le_of_ble_eq_true hG) fun i o' hi=>?_,(hf.den hd).agree (Env.upto_agree _ _) hb,hN,hdf⟩
  have hil:i<S'.length:=by
   rcases Nat.lt_or_ge i S'.length with h1|h1
   ·exact h1
   ·rw [List.getElem?_eq_none h1] at hi;cases hi
  obtain ⟨o,ho,hle⟩:=hS.get hi;exact Ow.holds_agree (hle.holds (hR.own i o ho)) (Env.upto_agree _ _) (z3q hg hi) hil (Env.upto_blk _ _)
 ·cases hg⟩
end
def zb1:List AV→Nat→Fr
 |[],_=>[]
 |x::l,k=>(k,x)::zb1 l (k+1)
def resV (P:Program) (w0:World) (G:Gs) (S:List Ow) (f:Fr):ResultVar→(AV→Prop)→Prop
 | .tmp t,K=>znm (f.get t) K
 | .cell t ty,K=>ztg P w0 G S ty (f.get t) K
def resL (P:Program) (w0:World) (G:Gs) (S:List Ow) (f:Fr):List ResultVar→(List AV→Prop)→Prop
 |[],K=>K []
 |x::l,K=>resV P w0 G S f x fun v=>resL P w0 G S f l fun vs=>K (v::vs)
def z8v:List AV→Option (List Pc)
 |[]=>some []
 | .p x::l=>(match z8v l with|some m=>some (x::m)|none=>none)
 |_=>none
def resK (P:Program) (w0:World) (G:Gs) (S:List Ow) (f:Fr) (rs:List ResultVar) (K:AV→Prop):Prop:=
 resL P w0 G S f rs fun vs=>match vs with
  |[v]=>K v
  |vs=>(match z8v vs with|some m=>K (.tup m)|none=>False)
structure Fin (w0:World) (G:Gs) (S:List Ow) (v:AV) (R:Ending→World→Prop):Prop where
 out:∀ r w u,Rel w0 G S r w→v.den r u→R (.returned u) w
def RetK (P:Program) (w0:World) (G:Gs) (rs:List ResultVar) (R:Ending→World→Prop):Exit→Fr→List Ow→Prop:=fun e f S=>match e with
 | .normal=>resK P w0 G S f rs fun v=>Fin w0 G S v R
 | .ret=>resK P w0 G S f rs fun v=>Fin w0 G S v R
 |_=>False
def resS (a:Act) (x:ResultVar):Sem Value:=match x with| .tmp t=>pure (a.tmps.getD t undef)| .cell t ty=>do loadVar ty (← asAddr (a.tmps.getD t undef))
theorem z1v {P:Program} {w0:World} {G:Gs} {S:List Ow} {f:Fr} {x:ResultVar} {K:AV→Prop} (h:resV P w0 G S f x K) {r:Env} {w:World} (hR:Rel w0 G S r w) {a:Act} (hf:FDen r f a):
  ∃ v u,K v∧v.den r u∧(resS a x).run P w= .ok u w:=by
 cases x with
 |tmp t=>exact ⟨_,_,znn.1 h,hf t,rfl⟩
 |cell t ty=>
  obtain ⟨v,u,hK,hd,hrun⟩:=zth h hR (hf t);refine ⟨v,u,hK,hd,?_⟩;show (asAddr (a.tmps.getD t undef) >>= fun x=>loadVar ty x).run P w=_;have:=hrun w (Below.refl _ _);simp only [Instr.loadAt] at this;generalize a.tmps.getD t undef=x at this⊢
  cases x with
  |pointer p=>
   cases p with
   |none=>simp [Instr.sureAddr] at this
   |some p=>simpa [Instr.sureAddr,asAddr] using this
  |_=>simp [Instr.sureAddr] at this
theorem z1u {P:Program} {w0:World} {G:Gs} {S:List Ow} {f:Fr} {r:Env} {w:World} (hR:Rel w0 G S r w) {a:Act} (hf:FDen r f a):∀ {xs:List ResultVar} {K:List AV→Prop},resL P w0 G S f xs K→
  ∃ vs us,K vs∧zc1 r vs us∧(xs.mapM (resS a)).run P w= .ok us w
 |[],K,h=>⟨[],[],h,rfl,by simp⟩
 |x::xs,K,h=>by
  obtain ⟨v,u,h1,hd,hrun⟩:=z1v h hR hf;obtain ⟨vs,us,hK,hds,hruns⟩:=z1u hR hf h1;exact ⟨v::vs,u::us,hK,⟨u,us,rfl,hd,hds⟩,by simp only [List.mapM_cons,Sem.run_bind,hrun,hruns,Result.andThen_ok,Sem.run_pure]⟩
theorem z8w {r:Env}:∀ {vs:List AV} {m:List Pc} {us:List Value},z8v vs=some m→zc1 r vs us→zyd r m us
 |[],m,us,h,hd=>by injection h with h;subst h;exact hd
 |v::vs,m,us,h,hd=>by
  cases v with
  |tup l=>simp [z8v] at h
  |p x=>
   simp only [z8v] at h
   split at h
   ·rename_i m' hm
    injection h with h;subst h;obtain ⟨u,l,rfl,h1,h2⟩:=hd;exact ⟨u,l,rfl,h1,z8w hm h2⟩
   ·cases h
theorem zc5 {r:Env}:∀ {l:List AV} {us:List Value},zc1 r l us→us.length=l.length
 |[],us,h=>by rw [show us=[] from h];rfl
 |c::l,us,h=>by obtain ⟨u,l',rfl,_,h2⟩:=h;simp [zc5 h2]
theorem z1t {P:Program} {w0:World} {G:Gs} {S:List Ow} {f:Fr} {fn:Func} {K:AV→Prop} (h:resK P w0 G S f fn.results.toList K) {r:Env} {w:World} (hR:Rel w0 G S r w) {a:Act} (hf:FDen r f a):
  ∃ v u,K v∧v.den r u∧(results fn a.tmps).run P w= .ok u w:=by
 obtain ⟨vs,us,hK,hd,hrun⟩:=z1u hR hf h
 have hres:(results fn a.tmps).run P w= .ok (if h:us.toArray.size=1 then us.toArray[0] else .tuple us.toArray) w:=by
  unfold results;rw [Array.mapM_eq_mapM_toList];simp only [Sem.run_bind,Sem.run_map];erw [hrun];simp
 split at hK
 ·rename_i v
  obtain ⟨u,l,rfl,h1,h2⟩:=hd;have:l=[]:=h2;subst this;exact ⟨v,u,hK,h1,by rw [hres];simp⟩
 ·rename_i hne
  split at hK
  ·rename_i m hm
   refine ⟨_,.tuple us.toArray,hK,⟨us,rfl,z8w hm hd⟩,?_⟩;rw [hres,dif_neg];intro h1;obtain ⟨v,hv⟩:=List.length_eq_one_iff.1 ((zc5 hd).symm.trans (by simpa using h1));exact hne v hv
  ·exact hK.elim
theorem zb2 {r:Env} {tmps:Array Value}:∀ (avs:List AV) (us:List Value) (k:Nat),zc1 r avs us→(∀ j u,us[j]?=some u→tmps.getD (k+j) undef=u)→∀ i,((zb1 avs k).get i).den r (tmps.getD i undef)
 |[],us,k,_,_,i=>by simp [zb1,Fr.get,AV.den,Pc.den,CV.den]
 |v::avs,us,k,hd,h,i=>by
  obtain ⟨u,l,rfl,h1,h2⟩:=hd;simp only [zb1,Fr.get]
  split
  ·rename_i hk;have:=Nat.eq_of_beq_eq_true hk;subst this
   have:=h 0 u rfl;rw [Nat.add_zero] at this;rw [this];exact h1
  ·exact zb2 avs l (k+1) h2 (fun j u hj=>by have:=h (j+1) u (by simpa using hj);rw [← this];congr 1;omega) i
theorem zfl {P:Program} {fid:FuncId} {fn:Func} {c:Code} {N:Nat} (hf:P.funcs[fid]?=some fn) (hN:fn.ntmps=N) (hb:fn.body=some c) {w0:World} {G:Gs} {S0:List Ow} {r0:Env} (hR:Rel w0 G S0 r0 w0)
  {avs:List AV} {args:List Value} (hargs:zc1 r0 avs args) (hle:args.length≤N) {R:Ending→World→Prop} (h:vc none P w0 G ⟨N,[]⟩ c (zb1 avs 0) S0 (RetK P w0 G fn.results.toList R)):Calls P fid args.toArray w0 R:=by
 refine calls_of_wp hf hb (Code.wp_mono ?_ (wpIn_wide.1 ((yac c _ _ _ h).out 20 _ w0 ⟨r0,hR,?_,?_,rfl⟩)))
 ·rintro e a w ⟨f,S,hk,r,hR',hf',hN',hd'⟩
  cases e with
  |normal=>
   obtain ⟨v,u,hK,hd,hrun⟩:=z1t hk hR' hf';exact ⟨hd',u,hrun,hK.out r w u hR' hd⟩
  |ret=>
   obtain ⟨v,u,hK,hd,hrun⟩:=z1t hk hR' hf';exact ⟨hd',u,hrun,hK.out r w u hR' hd⟩
  |exit id=>exact hk.elim
  |goto l=>exact hk.elim
  |panic ch=>exact hk.elim
  |outgrown=>exact hk.elim
 ·intro i
  refine zb2 avs args 0 hargs (fun j u hj=>?_) i;rw [Nat.zero_add,Array.getD_eq_getD_getElem?,Array.getElem?_append_left (by simp;rcases Nat.lt_or_ge j args.length with h1|h1;exact h1;rw [List.getElem?_eq_none h1] at hj;cases hj)];simp [hj]
 ·simp;omega
def Env.none:Env:=⟨fun _=>Option.none,fun _=>Option.none⟩
theorem z1o (w:World):Rel w Gs.nil [] Env.none w:=
 ⟨rfl,rfl,rfl,Nat.le_refl _,fun _ _ _=>rfl,by simp,nofun,nofun,fun _ _=>rfl,fun _ _=>rfl,(by intro i g h;simp [Gs.nil] at h)⟩
theorem Rel.toBelow {w0 w:World} {S:List Ow} {r:Env} (h:Rel w0 Gs.nil S r w):Below w0.heap.size w0 w:=⟨h.os,h.tape,h.output,h.size,fun k hk=>h.old k hk zS⟩
theorem ze0 {P:Program} {w0:World} {G:Gs} {fid:FuncId} {args:List AV} {S:List Ow} {K:AV→List Ow→Prop} (x:Value) (hok:fnOk P fid=true)
  (h:∀ r w us,Rel w0 G S r w→zc1 r args us→Calls P fid us.toArray w fun e w'=>e= .returned x∧Below w.heap.size w w') (hK:K (AV.of x) S):CallS P w0 G fid args S K:=
 ⟨hok,fun r w us hR hd=>(h r w us hR hd).mono fun _e _w' ⟨he,hb⟩=>⟨_,x,S,r,he,AV.of_den r x,hR.below hb,Env.le.refl r,hK⟩⟩
def CV.val:CV→Option Value
 | .v x=>some x
 | .clo f []=>some (.func f #[] #[])
 |_=>none
def valL:List CV→Option (List Value)
 |[]=>some []
 |c::l=>match c.val with|some x=>(match valL l with|some m=>some (x::m)|none=>none)|none=>none
def Pc.val:Pc→Option Value
 | .c x=>x.val
 | .agg l=>(match valL l with|some m=>some (.agg m.toArray)|none=>none)
def zzp:List Pc→Option (List Value)
 |[]=>some []
 |c::l=>match c.val with|some x=>(match zzp l with|some m=>some (x::m)|none=>none)|none=>none
def AV.val:AV→Option Value
 | .p x=>x.val
 | .tup l=>(match zzp l with|some m=>some (.tuple m.toArray)|none=>none)
def avals:List AV→Option (List Value)
 |[]=>some []
 |c::l=>match c.val with|some x=>(match avals l with|some m=>some (x::m)|none=>none)|none=>none
theorem CV.val_den {r:Env} {c:CV} {x u:Value} (h:c.val=some x) (hd:c.den r u):u=x:=by
 unfold CV.val at h
 split at h
 ·injection h with h;subst h;simpa only [CV.den] using hd
 ·injection h with h;subst h
  simp only [CV.den,denL] at hd;obtain ⟨us,rfl,rfl⟩:=hd;rfl
 ·cases h
theorem z9c {r:Env}:∀ {l:List CV} {xs us:List Value},valL l=some xs→denL r l us→us=xs
 |[],xs,us,h,hd=>by injection h with h;subst h;simpa only [denL] using hd
 |c::l,xs,us,h,hd=>by
  simp only [denL] at hd;obtain ⟨u,m,rfl,h1,h2⟩:=hd;simp only [valL] at h
  split at h
  ·rename_i x hx
   split at h
   ·rename_i m' hm
    injection h with h;subst h;rw [CV.val_den hx h1,z9c hm h2]
   ·cases h
  ·cases h
theorem Pc.val_den {r:Env} {c:Pc} {x u:Value} (h:c.val=some x) (hd:c.den r u):u=x:=by
 unfold Pc.val at h
 split at h
 ·exact CV.val_den h hd
 ·split at h
  ·rename_i m hm
   injection h with h;subst h;obtain ⟨us,rfl,hl⟩:=hd;rw [z9c hm hl]
  ·cases h
theorem zzq {r:Env}:∀ {l:List Pc} {xs us:List Value},zzp l=some xs→zyd r l us→us=xs
 |[],xs,us,h,hd=>by injection h with h;subst h;exact hd
 |c::l,xs,us,h,hd=>by
  obtain ⟨u,m,rfl,h1,h2⟩:=hd;simp only [zzp] at h
  split at h
  ·rename_i x hx
   split at h
   ·rename_i m' hm
    injection h with h;subst h;rw [Pc.val_den hx h1,zzq hm h2]
   ·cases h
  ·cases h
theorem AV.val_den {r:Env} {c:AV} {x u:Value} (h:c.val=some x) (hd:c.den r u):u=x:=by
 unfold AV.val at h
 split at h
 ·exact Pc.val_den h hd
 ·split at h
  ·rename_i m hm
   injection h with h;subst h;obtain ⟨us,rfl,hl⟩:=hd;rw [zzq hm hl]
  ·cases h
theorem zcs {r:Env}:∀ {l:List AV} {xs us:List Value},avals l=some xs→zc1 r l us→us=xs
 |[],xs,us,h,hd=>by injection h with h;subst h;exact hd
 |c::l,xs,us,h,hd=>by
  obtain ⟨u,m,rfl,h1,h2⟩:=hd;simp only [avals] at h
  split at h
  ·rename_i x hx
   split at h
   ·rename_i m' hm
    injection h with h;subst h;rw [AV.val_den hx h1,zcs hm h2]
   ·cases h
  ·cases h
section
variable {P:Program} {w0:World} {G:Gs} {fid:FuncId} {args:List AV} {S:List Ow} {K:AV→List Ow→Prop} {xs:List Value} {x:Value}
theorem ze2 (hx:avals args=some xs) (hok:fnOk P fid=true) (h:∀ r w,Rel w0 G S r w→Calls P fid xs.toArray w fun e w'=>e= .returned x∧Below w.heap.size w w') (hK:K (AV.of x) S):CallS P w0 G fid args S K:=
 ze0 x hok (fun r w us hR hd=>by rw [zcs hx hd];exact h r w hR) hK
theorem zfb (hx:avals args=some xs) (hok:fnOk P fid=true) (h:∀ r w,Rel w0 G S r w→Calls P fid xs.toArray w fun e w'=>e= .returned x∧w=w') (hK:K (AV.of x) S):CallS P w0 G fid args S K:=
 ze2 hx hok (fun r w hR=>(h r w hR).mono fun e w' ⟨h1,h2⟩=>⟨h1,by subst h2;exact Below.refl _ _⟩) hK
theorem zmp {v:AV} {R:Ending→World→Prop} (hv:v.val=some x) (h:∀ w,Below w0.heap.size w0 w→R (.returned x) w):Fin w0 Gs.nil S v R:=⟨fun r w u hR hd=>by rw [AV.val_den hv hd];exact h w hR.toBelow⟩
end
theorem z18 {P:Program} {w:World} (base:Nat) (t ty e:TypeId) (i:TypeInfo) (z:Value) (ht:P.underlying t=some (.slice e)) (hi:P.info? e=some i) (hz:i.zero=some z)
  (hzs:z.cells.size=i.size) (hsz:0<i.size) (v:Value) (n:Nat) (xs:List Value) (hown:w.ownsRow base e i.size v n xs)
  (A:Option Addr) (m c:Nat) (news:List Value) (hl:news.length=m*i.size) (hnews:∀ j u,news[j]?=some u→∃ b off,A=some ⟨b,off,none⟩∧w.cell? ⟨b,off+j,none⟩=some u) (h1:∀ u∈news,u.oneCell'=true)
  (h63:n+m≤1000000000) (hbytes:i.bytes≤100000) (hbase:base≤w.heap.size):
  ∃ v' w',(Builtin.append_ #[t,t] ty #[v,.slice A m c]).run P w= .ok v' w'∧w'.ownsRow base e i.size v' (n+m) (xs++news)∧w.grownBy w' v.ownBlock∧(v'.ownBlock=v.ownBlock∨v'.ownBlock=some w.heap.size):=by
 have hm:(n+m)*i.bytes≤1000000000*100000:=Nat.mul_le_mul h63 hbytes
 cases A with
 |some ad=>
  obtain ⟨v',w',h2,h3,h4,_,h5⟩:=run_append_own_at (P:=P) w base t ty e i z i.size i.bytes ht hi hz rfl rfl hzs hsz v n xs hown ad m c news hl (fun j u hj=>by
   obtain ⟨b,off,hA,hc⟩:=hnews j u hj
   injection hA with hA;subst hA;rw [za0];exact hc) h1 (by unfold maxLen;omega) zO hbase
  exact ⟨v',w',h2,h3,h4,h5⟩
 |none=>
  have hnil:news=[]:=by
   cases news with
   |nil=>rfl
   |cons u l=>obtain ⟨b,off,hA,_⟩:=hnews 0 u rfl;cases hA
  subst hnil
  have hm0:m=0:=by
   rcases Nat.eq_zero_or_pos m with h|h
   ·exact h
   ·have:=Nat.mul_le_mul h hsz;simp at hl;omega
  subst hm0;obtain ⟨A',c',hv,_,hc,_⟩:=zxz hown;refine ⟨v,w,?_,by simpa using hown,World.grownBy.refl _ _,.inl rfl⟩;subst hv
  have hut:∀ w:World,(underlying t).run P w= .ok (.slice e) w:=fun w=>by simp [underlying,ht]
  simp [Builtin.append_,hut,z2j P e w hi,Builtin.lenOf,Builtin.firstCells,hc]
  cases A'<;>simp [storeCells]
theorem Rel.append {w0:World} {G:Gs} {S:List Ow} {r:Env} {w w':World} (h:Rel w0 G S r w) {i:Nat} {e:TypeId} {size n n':Nat} {xs xs':List Value} {v v':Value} (hS:S[i]?=some (.row e size n xs)) (hG:G.fix.length≤i) (hv:r.val i=some v)
  (hown:w'.ownsRow 0 e size v' n' xs') (hg:w.grownBy w' v.ownBlock) (hb:v'.ownBlock=v.ownBlock∨v'.ownBlock=some w.heap.size):
  Rel w0 G ((zsr i S).set i (.row e size n' xs')) (r.set i v'.ownBlock (some v')) w'∧But i r (r.set i v'.ownBlock (some v')):=by
 have hbut:But i r (r.set i v'.ownBlock (some v')):=fun j hj=>by simp [Env.set,hj]
 have hil:i<S.length:=by
  rcases Nat.lt_or_ge i S.length with h1|h1
  ·exact h1
  ·rw [List.getElem?_eq_none h1] at hS;cases hS
 obtain ⟨v2,hv2,hob,_⟩:=h.own i _ hS;rw [hv] at hv2;injection hv2 with hv2;subst hv2
 have hnewlt:∀ x,v'.ownBlock=some x→x<w'.heap.size:=fun x hx=>by
  rcases hown.2 with ⟨h1,_⟩|⟨g,cap,cur,h1,_,hh,_⟩
  ·rw [h1] at hx;cases hx
  ·rw [h1] at hx;simp [Value.ownBlock] at hx;subst hx
   rcases Nat.lt_or_ge g w'.heap.size with h2|h2
   ·exact h2
   ·rw [Array.getElem?_eq_none h2] at hh;cases hh
 have hblk:∀ j x,r.blk j=some x→j≠i→w'.heap[x]?=w.heap[x]?:=fun j x hx hj=>hg.block x (h.new j x hx).1 (fun e=>hj (h.inj j i x hx (by rw [← hob];exact e.symm)));refine ⟨⟨hg.os.trans h.os,hg.tape.trans h.tape,hg.output.trans h.output,Nat.le_trans h.size hg.size,fun k hk hkG=>?_,fun j o hj=>?_,fun a b x ha hb'=>?_,fun j x hj=>?_,fun j hj=>?_,fun j hj=>?_,fun j g hj=>?_⟩,hbut⟩
 ·rw [hg.block k (Nat.lt_of_lt_of_le hk h.size) (fun e=>hkG ((h.new i k (by rw [← hob];exact e.symm)).2 hk))]
  exact h.old k hk hkG
 ·by_cases hij:i=j
  ·subst hij
   rw [List.getElem?_set_self (by rw [zst];exact hil)] at hj;injection hj with hj;subst hj;exact ⟨v',by simp [Env.set],by simp [Env.set],hown⟩
  ·rw [List.getElem?_set_ne hij,zss] at hj
   cases hSj:S[j]? with
   |none=>rw [hSj] at hj;cases hj
   |some o'=>
    rw [hSj] at hj;simp at hj;subst hj;have h1:=Ow.holds_block (h.own j o' hSj) (fun x hx=>hblk j x hx (Ne.symm hij)) hg.size (fun x hx hno=>hg.block x hx (fun e=>hno i (by rw [← hob];exact e.symm)))
    cases o' with
    |view φ m ys=>
     obtain ⟨A,c,h2,h3,h4,h5,h6⟩:=h.own j _ hSj;refine ⟨A,c,by rw [← (hbut j (Ne.symm hij)).2];exact h2,h3,h4,by rw [← (hbut j (Ne.symm hij)).1];exact h5,fun k u hk=>?_⟩;obtain ⟨b,off,h7,h8,h9,h10⟩:=h6 k u hk;refine ⟨b,off,h7,Nat.lt_of_lt_of_le h8 hg.size,fun q hq=>?_,(World.cell?_of_block (w:=w) (a:=⟨b,off+k,none⟩) (hg.block b h8 (fun e=>h9 i (by rw [← hob];exact e.symm)))).trans h10⟩;by_cases hqi:q=i
     ·subst hqi
      simp [Env.set] at hq;rcases hb with hb|hb
      ·rw [hb,hob] at hq;exact h9 q hq
      ·rw [hb] at hq;injection hq with hq;omega
     ·exact h9 q (by rw [(hbut q hqi).1];exact hq)
    |cells t l=>obtain ⟨b,us,h2,h3,h4⟩:=h1;exact ⟨b,us,by rw [← (hbut j (Ne.symm hij)).1];exact h2,h3,zsq hbut h4⟩
    |row e s n xs=>obtain ⟨v,h2,h3,h4⟩:=h1;exact ⟨v,by rw [← (hbut j (Ne.symm hij)).2];exact h2,by rw [← (hbut j (Ne.symm hij)).1];exact h3,h4⟩
    |ext φ=>obtain ⟨b,h2,h3⟩:=h1;exact ⟨b,by rw [← (hbut j (Ne.symm hij)).1];exact h2,h3⟩
    |gone=>trivial
 ·have fresh:∀ j x,j≠i→r.blk j=some x→v'.ownBlock=some x→False:=fun j x hj hx he=>by
   rcases hb with hb|hb
   ·rw [hb,hob] at he;exact hj (h.inj j i x hx he)
   ·rw [hb] at he;injection he with he;have:=(h.new j x hx).1;omega
  simp only [Env.set] at ha hb'
  split at ha<;>split at hb'
  ·omega
  ·exact (fresh b x (by assumption) hb' ha).elim
  ·exact (fresh a x (by assumption) ha hb').elim
  ·exact h.inj a b x ha hb'
 ·simp only [Env.set] at hj
  split at hj
  ·refine ⟨hnewlt x hj,fun hlt=>?_⟩
   rcases hb with hb|hb
   ·rw [hb,hob] at hj;exact (h.new i x hj).2 hlt
   ·rw [hb] at hj;injection hj with hj;have:=h.size;omega
  ·exact ⟨Nat.lt_of_lt_of_le (h.new j x hj).1 hg.size,(h.new j x hj).2⟩
 ·have hj':S.length≤j:=by simpa [zst] using hj
  simp only [Env.set];rw [if_neg zO];exact h.outB j hj'
 ·have hj':S.length≤j:=by simpa [zst] using hj
  simp only [Env.set];rw [if_neg zO];exact h.outV j hj'
 ·have:j<G.fix.length:=by
   rcases Nat.lt_or_ge j G.fix.length with h1|h1
   ·exact h1
   ·rw [List.getElem?_eq_none h1] at hj;cases hj
  simp only [Env.set];rw [if_neg zO];exact h.first j g hj
def zao (w0:World) (G:Gs) (A:Option Addr) (xs:List Value):Prop:=∀ j u,xs[j]?=some u→∃ b off,A=some ⟨b,off,none⟩∧b<w0.heap.size∧b∉G∧w0.cell? ⟨b,off+j,none⟩=some u
def srcK (w0:World) (G:Gs) (S:List Ow) (size i:Nat) (x:AV) (K:Nat→List Value→Prop):Prop:=
 match x with
 | .p (.c (.sl j off m _))=>(match S[j]? with
  |some (.cells _ l)=>(match cut l off (m*size) with
   |some cs=>(match zwf S cs with
    |true=>(match z9x cs with|some us=>K m us|none=>False)
    |false=>False)
   |none=>False)
  |_=>False)
 | .p (.c (.v (.slice A m _)))=>∃ xs:List Value,zao w0 G A xs∧xs.length=m*size∧(∀ u∈xs,u.oneCell'=true)∧K m xs
 | .p (.c (.row j))=>(match Nat.beq i j with
  |true=>False
  |false=>(match S[j]? with
   |some (.row _ size' n xs)=>size'=size∧(∀ u∈xs,u.oneCell'=true)∧K n xs
   |_=>False))
 |_=>False
def zma (i:Nat):Fr→(Fr→Prop)→Prop
 |[],K=>K []
 |(d,x)::f,K=>znm (x.kill i) fun x'=>zma i f fun f'=>K ((d,x')::f')
theorem zmb {i:Nat}:∀ {f:Fr} {K:Fr→Prop},zma i f K↔K (Fr.kill i f)
 |[],_=>Iff.rfl
 |(d,x)::f,K=>by unfold zma;rw [znn,zmb];rfl
def appK (P:Program) (w0:World) (G:Gs) (o:Oper) (f:Fr) (S:List Ow) (s x:Operand) (t:TypeId) (K:Fr→List Ow→Prop):Prop:=
 match P.underlying t with
 |some (.slice e)=>(match P.info? e with
  |some inf=>(match inf.zero with
   |some z=>(match Nat.beq z.cells.size inf.size,Nat.blt 0 inf.size,Nat.ble inf.bytes 100000 with
    |true,true,true=>(match f.ev s with
     | .p (.c (.row i))=>(match S[i]? with
      |some (.row e' size' n xs)=>(match Nat.beq e' e,Nat.beq size' inf.size,Nat.ble G.fix.length i with
       |true,true,true=>srcK w0 G S inf.size i (f.ev x) fun m news=>n+m≤1000000000∧zno ((zsr i S).set i (.row e inf.size (n+m) (xs++news))) fun S'=>zma i f fun f'=>f'.putK o.dst (.p (.c (.row i))) fun f'=>K f' S'
       |_,_,_=>False)
      |_=>False)
     | .p (.c (.v (.slice none 0 0)))=>lenK S fun i=>(match Nat.ble G.fix.length i with
      |true=>srcK w0 G S inf.size i (f.ev x) fun m news=>m≤1000000000∧zno (zsr i S++[.row e inf.size m news]) fun S'=>zma i f fun f'=>f'.putK o.dst (.p (.c (.row i))) fun f'=>K f' S'
      |false=>False)
     |_=>False)
    |_,_,_=>False)
   |none=>False)
  |none=>False)
 |_=>False
theorem zwd {u:Value} (h:(∀ x,u≠ .agg x)∧(∀ x,u≠ .tuple x)):u.oneCell'=true:=by
 cases u<;>first|rfl|exact absurd rfl (h.1 _)|exact absurd rfl (h.2 _)
theorem z6t {w0:World} {G:Gs} {S:List Ow} {size i:Nat} {x:AV} {K:Nat→List Value→Prop} (h:srcK w0 G S size i x K) {r:Env} {w:World} (hR:Rel w0 G S r w) {u:Value} (hd:x.den r u):
  ∃ A m c news,u= .slice A m c∧K m news∧news.length=m*size∧(∀ j x,news[j]?=some x→∃ b off,A=some ⟨b,off,none⟩∧w.cell? ⟨b,off+j,none⟩=some x)∧∀ x∈news,x.oneCell'=true:=by
 unfold srcK at h
 split at h
 ·rename_i j off m c
  have hux:∃ b,r.blk j=some b∧u= .slice (some ⟨b,off,none⟩) m c:=by simpa only [AV.den,Pc.den,CV.den] using hd
  obtain ⟨b,hb,rfl⟩:=hux
  split at h
  ·rename_i t l hS
   split at h
   ·rename_i cs hcs
    split at h
    ·rename_i hones
     split at h
     ·rename_i us hus
      obtain ⟨hle,rfl⟩:=zh3 hcs;obtain ⟨b',vs,h1,h2,h3⟩:=hR.own j _ hS;rw [hb] at h1;injection h1 with h1;subst h1;have hdc:=ziu (m*size) (zim off h3);have hvs:=z9y hus hdc;have hlen:=zio hdc;refine ⟨_,m,c,us,rfl,h,?_,fun k x hk=>⟨b,off,rfl,?_⟩,fun x hx=>zwd (zwj hR hones hdc x (by rw [hvs];exact hx))⟩
      ·rw [← hvs,hlen];simp;omega
      ·rw [← hvs,List.getElem?_take] at hk
       split at hk
       ·rw [List.getElem?_drop] at hk;simp [World.cell?,h2,hk]
       ·cases hk
     ·exact h.elim
    ·exact h.elim
   ·exact h.elim
  ·exact h.elim
 ·rename_i A m c
  have hu:u= .slice A m c:=(by simpa only [AV.den,Pc.den,CV.den] using hd);subst hu;obtain ⟨xs,h1,h2,h3,hK⟩:=h;refine ⟨A,m,c,xs,rfl,hK,h2,fun j x hj=>?_,h3⟩;obtain ⟨b,off,hA,hlt,hG,hc⟩:=h1 j x hj;exact ⟨b,off,hA,by rw [hR.oldCell hlt hG];exact hc⟩
 ·rename_i j
  split at h
  ·exact h.elim
  ·split at h
   ·rename_i e size' n xs hS
    obtain ⟨rfl,h3,hK⟩:=h;obtain ⟨v,hv,hob,hown⟩:=hR.own j _ hS;have hux:r.val j=some u:=(by simpa only [AV.den,Pc.den,CV.den] using hd);rw [hux] at hv;injection hv with hv;subst hv;obtain ⟨A,c,hs,hsl,_,_,hl⟩:=zxz hown;subst hs;refine ⟨A,n,c,xs,rfl,hK,hl,fun k x hk=>?_,h3⟩;obtain ⟨b,off,hA,_,hc⟩:=hsl k x hk;exact ⟨b,off,hA,hc⟩
   ·exact h.elim
 ·exact h.elim
theorem zbi {P:Program} {w0:World} {G:Gs} {N:Nd} {o:Oper} {f:Fr} {S:List Ow} {K:Fr→List Ow→Prop} {s x:Operand} {t:TypeId} (hop:o.op= .call ⟨.builtin .append,#[s,x],#[t,t]⟩) (h:appK P w0 G o f S s x t K) (hdst:zjc N.n o.dst=true):OpS P w0 G N o f S K:=by
 refine ⟨fun r a w hR hf hN hd next Q hK=>?_⟩;have hs:=hf.ev s;have hx:=hf.ev x;unfold appK at h
 split at h
 ·rename_i e ht
  split at h
  ·rename_i inf hi
   split at h
   ·rename_i z hz
    split at h
    ·rename_i hzs hpos hbytes
     have hzs:=Nat.eq_of_beq_eq_true hzs;have hpos:0<inf.size:=(by simpa [Nat.blt_eq] using hpos);have hbytes:=Nat.le_of_ble_eq_true hbytes
     split at h
     ·rename_i i he
      rw [he] at hs
      split at h
      ·rename_i e' size' n xs hS
       split at h
       ·rename_i h1 h2 hG
        have h1:=Nat.eq_of_beq_eq_true h1;have h2:=Nat.eq_of_beq_eq_true h2;have hG:=Nat.le_of_ble_eq_true hG;subst h1;subst h2;obtain ⟨A,m,c,news,hu,⟨hle,hKK⟩,hl,hcells,hone⟩:=z6t h hR hx;rw [znp,zmb,zy5] at hKK;obtain ⟨v,hv,hob,hown⟩:=hR.own i _ hS;have hux:r.val i=some (a.eval s):=(by simpa only [AV.den,Pc.den,CV.den] using hs);rw [hux] at hv;injection hv with hv;obtain ⟨v',w',hrun,hown',hg,hb⟩:=z18 (P:=P) 0 t o.type _ inf z ht hi hz hzs hpos v n xs hown A m c news hl hcells hone hle hbytes (Nat.zero_le _);obtain ⟨hR',hbut⟩:=hR.append hS hG (hux.trans (by rw [hv])) hown' hg hb
        have hex:(execOp a.eval o).run P w= .ok (.value v') w':=by
         simp [execOp,hop,resolve,invoke,builtin,hv,hu,hrun]
        exact ya8 hex (hK _ _ _ _ hKK ⟨_,hR',(hf.kill hbut).put (by simp [AV.den,Pc.den,CV.den,Env.set]) (by rw [hN];exact hdst),(zzh a _ _).trans hN,(zze a _ _).trans hd⟩)
       ·exact h.elim
      ·exact h.elim
     ·rename_i he
      rw [he] at hs;have hv:=zi6 hs;rw [zs2] at h
      split at h
      ·rename_i hG
       have hG:=Nat.le_of_ble_eq_true hG;obtain ⟨A,m,c,news,hu,⟨hle,hKK⟩,hl,hcells,hone⟩:=z6t h hR hx;rw [znp,zmb,zy5] at hKK;have hle2:=hR.le_new none (some (.slice none 0 0))
       have hown:w.ownsRow 0 e inf.size (.slice none 0 0) 0 []:=⟨by simp,.inl ⟨rfl,rfl⟩⟩
       have hR2:=hR.snoc (Below.refl _ _) (b:=none) (v:=some (.slice none 0 0)) (o:= .row e inf.size 0 []) nofun ⟨.slice none 0 0,by simp [Env.set],by simp [Env.set,Value.ownBlock],hown⟩;obtain ⟨v',w',hrun,hown',hg,hb⟩:=z18 (P:=P) 0 t o.type _ inf z ht hi hz hzs hpos (.slice none 0 0) 0 [] hown A m c news hl hcells hone zO hbytes (Nat.zero_le _);obtain ⟨hR',hbut⟩:=hR2.append (i:=S.length) (e:=e) (size:=inf.size) (n:=0) (xs:=[]) zS hG (by simp [Env.set]) hown' hg hb
       have hex:(execOp a.eval o).run P w= .ok (.value v') w':=by
        simp [execOp,hop,resolve,invoke,builtin,hv,hu,hrun]
       have e1:(zsr S.length (S++[.row e inf.size 0 []])).set S.length (.row e inf.size (0+m) ([]++news))=zsr S.length S++[.row e inf.size m news]:=by
        have:∀ (S:List Ow) (o:Ow) (n:Nat),zsr n (S++[o])=zsr n S++[o.kill n]:=fun S=>by
         induction S with
         |nil=>intro o n;rfl
         |cons x S ih=>intro o n;simp [zsr,ih]
        rw [this];simp [List.set_append_right,zst]
       rw [e1] at hR';exact ya8 hex (hK _ _ _ _ hKK ⟨_,hR',((hf.mono hle2).kill hbut).put (by simp [AV.den,Pc.den,CV.den,Env.set]) (by rw [hN];exact hdst),(zzh a _ _).trans hN,(zze a _ _).trans hd⟩)
      ·exact h.elim
     ·exact h.elim
    ·exact h.elim
   ·exact h.elim
  ·exact h.elim
 ·exact h.elim
section
variable {P:Program} {ops:Array Oper} {md:Region.Mode} {C:World→Prop}
def zpq (P:Program) (md:Region.Mode) (ops:Array Oper) (C:World→Prop) (n:Nat) (L:Array Bool→Act→Prop):Nat→Array Bool→Act→Prop
 |0,listed,a=>L listed a
 |f+1,listed,a=>Region.ready md ops listed≠[]∧∀ i∈Region.ready md ops listed,i<n∧qOp P ops C i (zpq P md ops C n L f (listed.setIfInBounds i true)) a
theorem zpr {n g:Nat} {L:Array Bool→Act→Prop} {Q':Exit→Act→World→Prop} (hL:∀ listed a w,C w→L listed a→wpAny P md ops Q' g listed a w):
  ∀ (f:Nat) (listed:Array Bool) (a:Act) (w:World),C w→zpq P md ops C n L f listed a→wpAny P md ops Q' (f+g) listed a w
 |0,listed,a,w,hw,h=>by rw [Nat.zero_add];exact hL _ _ _ hw h
 |f+1,listed,a,w,hw,h=>by
  rw [show f+1+g=(f+g)+1 by omega];exact ⟨fun h0=>absurd h0 h.1,fun i hi=>wpOp_of_qOp hw (fun a' w' hw' h'=>zpr hL f _ a' w' hw' h') (h.2 i hi).2⟩
theorem zpt {n i:Nat} {oi:Oper} {v:Value} {L:Array Bool→Act→Prop} (hi:ops[i]?=some oi) (hns:Region.noSelect ops=true) (hs:Region.sinkB md ops n=true) (hc:Region.chainB md ops n=true) (hn:n<ops.size) (hin:i<n)
  (hdone:∀ listed a,L listed a→∀ j∈Region.ready md ops listed,n≤j):
  ∀ (f:Nat) (listed:Array Bool) (a:Act),HeadInv md ops n listed→(∀ j oj,ops[j]?=some oj→j≠i→listed.getD j true=false→(∀ e∈oj.after,Region.binds md e=true→e.on≠i)→oi.apart ops oj=true)→
   i∈Region.ready md ops listed→YieldsIn P ops C oi v a→zpq P md ops C n L f (listed.setIfInBounds i true) (a.put oi.dst v)→zpq P md ops C n L (f+1) listed a:=by
 have hsel:=Region.noSelect_spec hns;intro f
 induction f with
 |zero=>
  intro listed a inv hfree hr hy H;have hun:=(mem_ready.1 hr).1;refine ⟨(fun h=>by rw [h] at hr;cases hr),fun j hj=>?_⟩;have hjn:j<n:=Nat.lt_of_not_le fun h=>tail_waits hs hc hn inv _ i rfl hin hun j h hj;by_cases hji:j=i
  ·subst hji;exact ⟨hjn,hy.qOp hi H⟩
  ·have:=hdone _ _ H j (ready_mono hj hji);omega
 |succ f ih=>
  intro listed a inv hfree hr hy H;have hun:=(mem_ready.1 hr).1;refine ⟨(fun h=>by rw [h] at hr;cases hr),fun j hj=>?_⟩;have hjn:j<n:=Nat.lt_of_not_le fun h=>tail_waits hs hc hn inv _ i rfl hin hun j h hj;refine ⟨hjn,?_⟩;by_cases hji:j=i
  ·subst hji;exact hy.qOp hi H
  ·obtain ⟨hjun,oj,hoj,hall⟩:=mem_ready.1 hj
   have hnot:∀ e∈oj.after,Region.binds md e=true→e.on≠i:=fun e he hb heq=>by
    have h1:=hall e he hb;rw [heq,getD_both hun] at h1;cases h1
   have hq:=qOp_put hoj (hfree j oj hoj hji hjun hnot) (fun cs b=>hsel i oi cs b hi) (fun cs b=>hsel j oj cs b hoj) hy (H.2 j (ready_mono hj hji)).2;refine qOp_mono (fun a' h3=>ih (listed.setIfInBounds j true) a' (inv.set hj hjn) (fun k ok hk hki hku hno=>hfree k ok hk hki ?_ hno) (ready_mono hr (Ne.symm hji)) h3.1 ?_) hq
   ·by_cases hjk:j=k
    ·subst hjk;exact hjun
    ·rwa [getD_set_ne true hjk] at hku
   ·rw [Array.setIfInBounds_comm _ _ hji];exact h3.2
theorem zps {n g:Nat} {Lq:Act→Prop} (hns:Region.noSelect ops=true) (hs:Region.sinkB md ops n=true) (hc:Region.chainB md ops n=true) (hn:n<ops.size):
  ∀ (l:List Oper) (k:Nat) (listed:Array Bool) (a:Act),(∀ j,j<l.length→l[j]?=ops[k+j]?)→k+l.length=n→HeadInv md ops n listed→Region.lexHead md ops g l.length k listed=true→wpQuiet P ops C Lq l a→
   zpq P md ops C n (fun listed' a'=>Region.seqB md ops g n listed'=true∧Lq a') l.length listed a
 |[],k,listed,a,_,hk,_,hB,h=>by
  have hkn:k=n:=(by simpa using hk);subst hkn;exact ⟨by simpa [Region.lexHead] using hB,h⟩
 |o::l,k,listed,a,hl,hk,inv,hB,h=>by
  have h0:ops[k]?=some o:=(by simpa using (hl 0 zS).symm);simp only [List.length_cons,Region.lexHead,Bool.and_eq_true] at hB;have hkn:k<n:=(by simp only [List.length_cons] at hk;omega);have hr:k∈Region.ready md ops listed:=(by simpa using hB.1.1);have hq:qOp P ops C k (wpQuiet P ops C Lq l) a:=(by unfold qOp;simp only [h0];exact h);obtain ⟨v,hy,hK⟩:=yieldsIn_of_qOp h0 hq
  exact zpt h0 hns hs hc hn hkn (fun listed' a' hL=>seqB_ready hL.1) l.length listed a inv (Region.free_spec h0 hB.1.2) hr hy
   (zps hns hs hc hn l (k+1) _ _ (fun j hj=>by have:=hl (j+1) zV;simpa [Nat.add_assoc,Nat.add_comm 1 j] using this) (by simp only [List.length_cons] at hk;omega) (inv.set hr hkn) hB.2 hK)
theorem z1h {id:Nat} {Q:Exit→Act→World→Prop} {a:Act} {w:World} {l:List Oper} (n:Nat) (hm:P.follows .mixedOrders=true) (hB:Region.lexTailB .any l.toArray n=true) (hC:C w.drew)
  (h:wpQuiet P l.toArray C (fun a'=>∀ w',C w'→wpList P l.toArray Q (l.drop n) a' w') (l.take n) a):(Code.region id l.toArray true).wp P Q a w:=by
 simp only [Region.lexTailB,Bool.and_eq_true,decide_eq_true_eq] at hB
 obtain ⟨⟨⟨⟨hns,hn⟩,hs⟩,hc⟩,hlex⟩:=hB
 have hnl:n<l.length:=by simpa using hn
 have htl:(l.take n).length=n:=by simp;omega
 have hdl:(l.drop n).length=l.toArray.size-n:=by simp
 have inv0:HeadInv .any l.toArray n (Array.replicate l.toArray.size false):=
  ⟨by simp,(fun j oj _ hl=>by rw [getD_replicate_false] at hl;cases hl),fun t _ ht=>getD_in (by simpa using ht) (getD_replicate_false _ _)⟩
 have H:=zps (md:= .any) (g:=l.toArray.size-n) hns hs hc hn (l.take n) 0 _ a (fun j hj=>by rw [htl] at hj;simp [hj]) (by simpa using htl) inv0 (by rw [htl];exact hlex) h;refine wp_region_any hm ?_
 have:=zpr (Q':=Q) (g:=l.toArray.size-n) (fun listed a' w' hw' hL=>by
  have:=wpAny_of_seq (md:= .any) (Q':=Q) (l.drop n) n listed a' w' (fun j=>by simp [List.getElem?_drop]) (by rw [hdl];exact hL.1) (hL.2 w' hw')
  rwa [hdl] at this) _ _ _ w.drew hC H
 rw [htl,show n+(l.toArray.size-n)=l.toArray.size by omega] at this;exact this
end
structure QCall (P:Program) (w0:World) (G:Gs) (S:List Ow) (fid:FuncId) (args:List AV) (K:AV→Prop):Prop where
 out:fnOk P fid=true∧∃ x:Value,K (AV.of x)∧∀ r w us,Rel w0 G S r w→zc1 r args us→Calls P fid us.toArray w fun e w'=>e= .returned x∧Below w.heap.size w w'
def z0j (P:Program) (w0:World) (G:Gs) (S:List Ow) (f:Fr) (o:Oper) (K:AV→Prop):Prop:=
 match o.op with
 | .call ⟨.value fn,args,_⟩=>(match f.ev fn with
  | .p (.c (.clo (.func fid) cap))=>evL f args.toList fun vs=>QCall P w0 G S fid (vs++cap.map fun c=> .p (.c c)) K
  |_=>False)
 |_=>(match opTy P o.op with|true=>qop P w0 G S f o K|false=>False)
def z0o (P:Program) (w0:World) (G:Gs) (N:Nd) (ops:Array Oper) (S:List Ow):Nat→List Oper→Fr→(Fr→Prop)→Prop
 |_,[],f,K=>K f
 |0,_::_,_,_=>False
 |n+1,o::rest,f,K=>(match zjc N.n o.dst with
  |false=>False
  |true=>(match o.guard with
   |none=>z0j P w0 G S f o fun v=>f.putK o.dst v fun f'=>z0o P w0 G N ops S n rest f' K
   |some (j,pol)=>(match z6e ops j with
    |none=>False
    |some d=>(match f.get d with
     | .p (.c (.v (.bool x)))=>(x=pol→z0j P w0 G S ((d,one (.bool pol))::f) o fun v=>Fr.putK ((d,one (.bool pol))::f) o.dst v fun f'=>z0o P w0 G N ops S n rest f' K)∧
       (x=(!pol)→Fr.putK ((d,one (.bool (!pol)))::f) o.dst (.p (.c .any)) fun f'=>z0o P w0 G N ops S n rest f' K)
     |_=>False))))
section
variable {P:Program} {w0:World} {G:Gs} {N:Nd} {ops:Array Oper} {S:List Ow} {r:Env} {w1:World}
theorem z0k (hR:Rel w0 G S r w1) {f:Fr} {o:Oper} {K:AV→Prop} (h:z0j P w0 G S f o K) {a:Act} (hf:FDen r f a):
  ∃ v u,K v∧v.den r u∧∀ w,Below w1.heap.size w1 w→o.quietAt P a (fun w'=>Below w1.heap.size w1 w') w u:=by
 unfold z0j at h
 split at h
 ·rename_i fn args tys hop
  have hfn:=hf.ev fn
  split at h
  ·rename_i fid cap he
   rw [he] at hfn;obtain ⟨us,hu,hcap⟩:=zi0 hfn;rw [zkt] at h;obtain ⟨hok,x,hK,hc⟩:=h.out;refine ⟨_,x,hK,AV.of_den r x,fun w hw=>?_⟩
   have hrun:(execOp a.eval o).run P w= .ok (.enter fid ((args.map a.eval)++us.toArray)) w:=by
    simp [execOp,hop,resolve,Deferred.ofValue,hu,invoke,z19 hok]
   unfold Oper.quietAt;rw [hrun];refine ⟨rfl,?_⟩;have:=hc r w ((args.toList.map a.eval)++us) (hR.below hw) (zc2 (zc4 hf _) (zc3 hcap));rw [show ((args.toList.map a.eval)++us).toArray=(args.map a.eval)++us.toArray by apply Array.ext';simp] at this
   exact Calls.mono this fun e w' ⟨h1,h2⟩=>⟨h1,hw.trans (h2.mono hw.size)⟩
  ·exact h.elim
 ·split at h
  ·rename_i hty
   obtain ⟨v,u,hK,hd,hrun⟩:=z0n h hty hR hf;refine ⟨v,u,hK,hd,fun w hw=>?_⟩;unfold Oper.quietAt;rw [hrun w hw];exact ⟨rfl,rfl⟩
  ·exact h.elim
theorem z0p (hR:Rel w0 G S r w1) {Q:Act→Prop}:∀ (n:Nat) (l:List Oper) (f:Fr) (K:Fr→Prop),z0o P w0 G N ops S n l f K→(∀ f' a',K f'→FDen r f' a'→a'.tmps.size=N.n→a'.defers=N.ds→Q a')→
  ∀ a,FDen r f a→a.tmps.size=N.n→a.defers=N.ds→wpQuiet P ops (fun w'=>Below w1.heap.size w1 w') Q l a
 |_,[],f,K,h,hK,a,hf,hN,hd=>by cases ‹Nat› <;>exact hK f a h hf hN hd
 |0,o::l,f,K,h,hK,a,hf,hN,hd=>h.elim
 |n+1,o::l,f,K,h,hK,a,hf,hN,hd=>by
  unfold z0o at h
  have run:∀ {f:Fr},FDen r f a→zjc N.n o.dst=true→Region.wanted o (yielded ops a.tmps)=true→(z0j P w0 G S f o fun v=>f.putK o.dst v fun f'=>z0o P w0 G N ops S n l f' K)→wpQuiet P ops (fun w'=>Below w1.heap.size w1 w') Q (o::l) a:=by
   intro f hf hdst hw h;obtain ⟨v,u,hKv,hv,hrun⟩:=z0k hR h hf;unfold wpQuiet;rw [if_pos hw];exact ⟨u,hrun,z0p hR n l _ K (zy5.1 hKv) hK _ (hf.put hv (by rw [hN];exact hdst)) ((zzh a _ _).trans hN) ((zze a _ _).trans hd)⟩
  split at h
  ·exact h.elim
  ·rename_i hdst
   split at h
   ·rename_i hg
    exact run hf hdst (yad hg _) h
   ·rename_i j pol hg
    split at h
    ·exact h.elim
    ·rename_i d hs
     split at h
     ·rename_i x hfx
      have hk:∀ y,x=y→FDen r ((d,one (.bool y))::f) a:=fun y hy k=>by
       simp only [Fr.get]
       split
       ·rename_i hdk;have:=Nat.eq_of_beq_eq_true hdk;subst this;rw [← hy, ← show f.get d=one (.bool x) from hfx];exact hf d
       ·exact hf k
      have hyl:=ybn hf hs hfx;by_cases hx:x=pol
      ·exact run (hk _ hx) hdst (by rw [yae hg,hyl,hx];simp) (h.1 hx)
      ·have hx':x= !pol:=by cases x<;>cases pol<;>simp_all
       unfold wpQuiet;rw [if_neg (by rw [yae hg,hyl];simpa using hx)];exact z0p hR n l _ K (zy5.1 (h.2 hx')) hK _ ((hk _ hx').putAny undef (by rw [hN];exact hdst)) ((zzh a _ _).trans hN) ((zze a _ _).trans hd)
     ·exact h.elim
theorem z2x {id:Nat} {l:List Oper} {f:Fr} {K:Exit→Fr→List Ow→Prop} (n:Nat) (hm:P.follows .mixedOrders=true) (hB:Region.lexTailB .any l.toArray n=true)
  (h:z0o P w0 G N l.toArray S (l.take n).length (l.take n) f fun f'=>opsK P w0 G N l.toArray (l.drop n).length (l.drop n) f' S (K .normal)):Sat none P w0 G N (.region id l.toArray true) f S K:=by
 refine ⟨fun n' a w ⟨r,hR,hf,hN,hd⟩=>wpIn_wide.2 ?_⟩;refine z1h (C:=fun w'=>Below w.drew.heap.size w.drew w') n hm hB (Below.refl _ _) ?_;refine z0p hR.drew _ _ f _ h (fun f' a' hk hf' hN' hd' w' hw'=>?_) a hf hN hd;exact z3r (zw2 _ _ f' S _ hk (fun f2 S2 a2 w2 hk2 hg2=>⟨f2,S2,hk2,hg2⟩) a' w' ⟨r,hR.drew.below hw',hf',hN',hd'⟩)
theorem z2v {id:Nat} {l:List Oper} {f:Fr} {K:Exit→Fr→List Ow→Prop} (hm:P.follows .mixedOrders=true) (hB:Region.lexB .any l.toArray=true)
  (h:z0o P w0 G N l.toArray S l.length l f fun f'=>K .normal f' S):Sat none P w0 G N (.region id l.toArray true) f S K:=by
 refine ⟨fun n' a w ⟨r,hR,hf,hN,hd⟩=>wpIn_wide.2 ?_⟩;refine wp_region_quiet (C:=fun w'=>Below w.drew.heap.size w.drew w') hm hB (Below.refl _ _) ?_;exact z0p (Q:=fun a'=>∀ w',Below w.drew.heap.size w.drew w'→zal w0 G N K .normal a' w') hR.drew _ _ f _ h (fun f' a' hk hf' hN' hd' w' hw'=>⟨f',S,hk,r,hR.drew.below hw',hf',hN',hd'⟩) a hf hN hd
end
section
variable {P:Program} {w0:World} {G:Gs} {fid:FuncId} {args:List AV} {S:List Ow} {K:AV→Prop} {xs:List Value} {x:Value}
theorem zz3 (hx:avals args=some xs) (hok:fnOk P fid=true) (h:∀ r w,Rel w0 G S r w→Calls P fid xs.toArray w fun e w'=>e= .returned x∧Below w.heap.size w w') (hK:K (AV.of x)):QCall P w0 G S fid args K:=
 ⟨⟨hok,x,hK,fun r w us hR hd=>by rw [zcs hx hd];exact h r w hR⟩⟩
theorem z0g (hx:avals args=some xs) (hok:fnOk P fid=true) (h:∀ r w,Rel w0 G S r w→Calls P fid xs.toArray w fun e w'=>e= .returned x∧w=w') (hK:K (AV.of x)):QCall P w0 G S fid args K:=
 zz3 hx hok (fun r w hR=>(h r w hR).mono fun e w' ⟨h1,h2⟩=>⟨h1,by subst h2;exact Below.refl _ _⟩) hK
end
theorem Rel.slAt {w0:World} {G:Gs} {S:List Ow} {r:Env} {w:World} (hR:Rel w0 G S r w) {i b:Nat} {t:TypeId} {xs:List Value} (hi:S[i]?=some (.cells t (xs.map CV.v))) (hb:r.blk i=some b):SlAt w w.heap.size (some ⟨b,0,none⟩) xs:=by
 obtain ⟨b',us,h1,h2,h3⟩:=hR.own i _ hi;rw [hb] at h1;injection h1 with h1;subst h1;have:=ziw h3;subst this
 exact SlAt.mk_ (hR.new i b hb).1 fun j u hj=>by simp [World.cell?,h2,hj]
theorem Rel.rowAt {w0:World} {G:Gs} {S:List Ow} {r:Env} {w:World} (hR:Rel w0 G S r w) {i:Nat} {e:TypeId} {size n:Nat} {xs:List Value} (hi:S[i]?=some (.row e size n xs)) {u:Value} (hu:r.val i=some u):
  ∃ A c,u= .slice A n c∧SlAt w w.heap.size A xs∧n≤c∧c≤maxLen:=by
 obtain ⟨v,hv,_,hown⟩:=hR.own i _ hi;rw [hu] at hv;injection hv with hv;subst hv;obtain ⟨A,c,h1,h2,h3,h4,_⟩:=zxz hown;exact ⟨A,c,h1,h2,h3,h4⟩
theorem zi5 {r:Env} {i off n c:Nat} {u:Value} (h:AV.den r (.p (.c (.sl i off n c))) u):∃ b,r.blk i=some b∧u= .slice (some ⟨b,off,none⟩) n c:=by simpa only [AV.den,Pc.den,CV.den] using h
abbrev ztv (R:Value→Option (DataW Unit×List MemPlace)) (cd:Int→DataW Unit) (n:Nat) (f:Int→Option Int):Ow:= .ext fun b w=>IMap R cd w b n f
section
variable {R:Value→Option (DataW Unit×List MemPlace)} {mk:Int→Value} {cd:Int→DataW Unit} {good:Int→Prop} {n:Nat} {m:Int→Option Int}
variable {w0:World} {G:Gs} {N:Nd} {o:Oper} {f:Fr} {S:List Ow} {K:Fr→List Ow→Prop}
theorem zq3 {r:Env} {w:World} {i b:Nat} (hb:r.blk i=some b) (h:IMap R cd w b n m):(ztv R cd n m).holds r w i:=⟨b,hb,h,fun _w' hw=>h.block hw⟩
theorem zwv {t:TypeId} (hop:o.op= .makeMap t none) (hdst:zjc N.n o.dst=true) (hk:K (f.put o.dst (.p (.c (.mp S.length)))) (S++[ztv R cd 0 fun _=>none])):OpS Tryz.prog w0 G N o f S K:=by
 refine ⟨fun r a w hR hf hN hd next Q hK=>?_⟩
 have hrun:(execOp a.eval o).run Tryz.prog w= .ok (.value (.map (some w.heap.size))) (w.alloc (.map #[] 0)):=by
  simp [execOp,hop,Instr.makeMap]
 have hle:=hR.le_new (some w.heap.size) none;refine ya8 hrun (hK _ _ _ _ hk (zox hR hf hN hd hdst (r':=r.set S.length (some w.heap.size) none) ?_ (hR.snoc ((Below.refl _ _).alloc (Nat.le_refl _) _) (fun x hx=>by injection hx with hx;subst hx;simp) (zq3 (by simp [Env.set]) (IMap.made w))) hle));simp only [AV.den,Pc.den,CV.den];exact ⟨w.heap.size,by simp [Env.set],rfl⟩
theorem Rel.lt_of_blk {S:List Ow} {r:Env} {w:World} (h:Rel w0 G S r w) {i b:Nat} (hb:r.blk i=some b):i<S.length:=by
 rcases Nat.lt_or_ge i S.length with h1|h1
 ·exact h1
 ·rw [h.outB i h1] at hb;cases hb
theorem zi2 {r:Env} {i:Nat} {u:Value} (h:AV.den r (.p (.c (.mp i))) u):∃ b,r.blk i=some b∧u= .map (some b):=by simpa only [AV.den,Pc.den,CV.den] using h
end
section
variable {n:Nat} {m:Int→Option Int} {w0:World} {G:Gs} {o:Oper} {f:Fr} {S:List Ow} {K:AV→Prop}
end
theorem zfu {w0:World} {G:Gs} {b off:Nat} {x:Value} (hb:b<w0.heap.size) (hG:b∉G) (h:w0.cell? ⟨b,off,none⟩=some x):zac w0 G b off [x]:=
 ⟨hb,hG,fun j u hj=>by cases j with|zero=>simp at hj;subst hj;exact h|succ j=>simp at hj⟩
theorem zfs {w0:World} {G:Gs} {b off:Nat} {xs:List Value} (hb:b<w0.heap.size) (hG:b∉G) (h:∀ j u,xs[j]?=some u→w0.cell? ⟨b,off+j,none⟩=some u):zac w0 G b off xs:=⟨hb,hG,h⟩
section
variable {n b:Nat} {m:Int→Option Int} {w0:World} {G:Gs} {o:Oper} {f:Fr} {S:List Ow} {K:AV→Prop}
theorem z0d {mo x:Operand} (hop:o.op= .lookup 136 mo x true) (k:Int) (hm:f.ev mo=one (.map (some b))) (hmap:IMap i64R i64D w0 b n m) (hG:b∉G) (hx:f.ev x=one (.int .i64 k)) (hkw:(Lit.int .i64 k).wf=true)
  (hK:K (.tup [.c (.v (.int .i64 ((m k).getD 0))),.c (.v (.bool (m k).isSome))])):QRun Tryz.prog w0 G S f o K:=by
 refine ⟨_,hK,fun r a hf=>⟨.tuple #[.int .i64 ((m k).getD 0),.bool (m k).isSome],⟨_,rfl,_,_,rfl,by simp [Pc.den,CV.den],_,_,rfl,by simp [Pc.den,CV.den],rfl⟩,fun w hR=>?_⟩⟩;have h1:=hf.ev mo;have h2:=hf.ev x;rw [hm] at h1;rw [hx] at h2;simp [execOp,hop,zi6 h1,zi6 h2,ztq (hmap.block (hR.old b hmap.lt hG)) hkw]
end
end Go.Proofs.YtocafomnnkmjfaaGreat
