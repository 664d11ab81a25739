import Derived.Test.YtocafomnnkmjfaaGreatK11
set_option maxRecDepth 100000
set_option maxHeartbeats 4000000
namespace Go.Proofs.YtocafomnnkmjfaaGreat
open Go.RowKit
def zpa (P:Program) (w0:World) (G:Gs) (N:Nd) (ops:Array Oper):List Oper→Fr→List Ow→(Fr→List Ow→Prop)→Prop
 |[],f,S,K=>K f S
 |o::l,f,S,K=>match o.guard with
  |none=>opK P w0 G N o f S fun f' S'=>zpa P w0 G N ops l f' S' K
  |some (j,pol)=>(match z6e ops j with
   |none=>False
   |some d=>(match f.get d with
    | .p (.c (.v (.bool x)))=>(x=pol→opK P w0 G N o ((d,one (.bool pol))::f) S fun f' S'=>zpa P w0 G N ops l f' S' K)∧
      (x=(!pol)→match zjc N.n o.dst with|true=>(Fr.putK ((d,one (.bool (!pol)))::f) o.dst (one undef) fun f'=>zpa P w0 G N ops l f' S K)|false=>False)
    | .p (.c (.v (.tuple _)))=>(match zjc N.n o.dst with|true=>(f.putK o.dst (one undef) fun f'=>zpa P w0 G N ops l f' S K)|false=>False)
    |_=>False))
section
variable {P:Program} {w0:World} {G:Gs} {N:Nd} {c d:Code} {f:Fr} {S:List Ow} {Q:Exit→Act→World→Prop}
theorem zpb {ops:Array Oper} {Q:Act→World→Prop}:∀ (l:List Oper) (f:Fr) (S:List Ow) (K:Fr→List Ow→Prop),zpa P w0 G N ops l f S K→(∀ f' S' a' w',K f' S'→Good w0 G N f' S' a' w'→Q a' w')→
  ∀ a w,Good w0 G N f S a w→seL P ops Q l a w
 |[],f,S,K,h,hK,a,w,hg=>hK _ _ _ _ h hg
 |o::l,f,S,K,h,hK,a,w,hg=>by
  unfold zpa at h
  split at h
  ·rename_i hgd
   obtain ⟨r,hR,hf,hN,hd⟩:=hg;exact z68 (yad hgd _) ((zwp h).out r a w hR hf hN hd _ (fun _ _ _=>True) fun f' S' a' w' hk hg'=>zpb l f' S' K hk hK a' w' hg')
  ·rename_i j pol hgd
   split at h
   ·exact h.elim
   ·rename_i d hs
    split at h
    ·rename_i x hfx
     obtain ⟨h1,h2⟩:=h;by_cases hx:x=pol
     ·obtain ⟨r,hR,hf,hN,hd⟩:=hg.known (d:=d) (x:=one (.bool pol)) (by rw [hfx,hx])
      refine z68 ?_ ((zwp (h1 hx)).out r a w hR hf hN hd _ (fun _ _ _=>True) fun f' S' a' w' hk hgd=>zpb l f' S' K hk hK a' w' hgd);rw [yae hgd,ybn hf hs (zor d _ f)];simp
     ·have hx':x= !pol:=by cases x<;>cases pol<;>simp_all
      have h2:=h2 hx';obtain ⟨r,hR,hf,hN,hd⟩:=hg.known (d:=d) (x:=one (.bool (!pol))) (by rw [hfx,hx'])
      split at h2
      ·rename_i hdst
       refine z7a ?_ (zpb l _ S K (zy5.1 h2) hK _ _ ⟨r,hR,hf.put (zi3 _ _) (by rw [hN];exact hdst),(zzh a _ _).trans hN,(zze a _ _).trans hd⟩)
       rw [yae hgd,ybn hf hs (zor d _ f)];cases pol<;>simp
      ·exact h2.elim
    ·rename_i vs hfx
     obtain ⟨r,hR,hf,hN,hd⟩:=hg;have hgu:zo6 ops f o=some false:=(by unfold zo6;rw [hgd];dsimp only;rw [hs];dsimp only;rw [hfx]);have hw:=zo7 hf hgu
     split at h
     ·rename_i hdst
      exact z7a hw (zpb l _ S K (zy5.1 h) hK _ _ ⟨r,hR,hf.put (zi3 _ _) (by rw [hN];exact hdst),(zzh a _ _).trans hN,(zze a _ _).trans hd⟩)
     ·exact h.elim
    ·exact h.elim
theorem zb5 {fn:Func} {N:Nat} {R:Ending→World→Prop} (h:resK P w0 G S f fn.results.toList fun v=>Fin w0 G S v R):AtQ w0 G ⟨N,[]⟩ .normal f S (bodyPostM Fence.wide 10 P fn R):=by
 refine ⟨fun a w ⟨r,hR,hf,hN,hd⟩=>?_⟩;obtain ⟨v,u,hK,hdn,hrun⟩:=z1t h hR hf;show LeavesInM _ _ _ _ _ _ a.defers _ _;rw [show a.defers=[] from hd];exact ⟨u,hrun,hK.out r w u hR hdn⟩
end
section
variable (ro:Option Nat) (P:Program) (w0:World) (G:Gs) (N:Nd)
def vcN:Code→Fr→List Ow→(Exit→Fr→List Ow→Prop)→Prop
 | .skip,f,S,K=>K .normal f S
 | .region id ops draw,f,S,K=>(match draw with
  |false=>zpa P w0 G N ops ops.toList f S (K .normal)
  |true=>Sat ro P w0 G N (.region id ops true) f S K)
 | .seq a b,f,S,K=>vcN a f S fun e f' S'=>match e with| .normal=>vcN b f' S' K|e=>K e f' S'
 | .cond c x y,f,S,K=>(match f.ev c with
  | .p (.c (.v (.bool t)))=>(t=true→vcN x f S K)∧(t=false→vcN y f S K)
  |_=>False)
 | .block id body,f,S,K=>vcN body f S fun e f' S'=>match e with
  | .exit id'=>(match Nat.beq id' id with|true=>K .normal f' S'|false=>K (.exit id') f' S')
  |e=>K e f' S'
 | .exit id,f,S,K=>K (.exit id) f S
 | .ret,f,S,K=>K .ret f S
 |c,f,S,K=>Sat ro P w0 G N c f S K
end
section
variable {ro:Option Nat} {P:Program} {w0:World} {G:Gs} {N:Nd}
theorem yab:∀ (c:Code) (f:Fr) (S:List Ow) (K:Exit→Fr→List Ow→Prop),vcN ro P w0 G N c f S K→Sat ro P w0 G N c f S K
 | .skip,f,S,K,h=>⟨fun n a w hg=>wpIn_skip ⟨f,S,h,hg⟩⟩
 | .region id ops draw,f,S,K,h=>by
  cases draw with
  |false=>exact ⟨fun n a w hg=>wpIn_region_list (z3s ro n (zpb _ f S _ h (fun f' S' a' w' hk hg'=>⟨f',S',hk,hg'⟩) a w hg))⟩
  |true=>exact h
 | .seq x y,f,S,K,h=>⟨fun n a w hg=>wpIn_seq (wpIn_mono ((yab x f S _ h).out n a w hg) (fun e a' w' ⟨f',S',hk,hg'⟩=>by
   cases e with
   |normal=>exact (yab y f' S' K hk).out n a' w' hg'
   |exit id=>exact ⟨f',S',hk,hg'⟩
   |goto l=>exact ⟨f',S',hk,hg'⟩
   |ret=>exact ⟨f',S',hk,hg'⟩
   |panic ch=>exact ⟨f',S',hk,hg'⟩
   |outgrown=>exact ⟨f',S',hk,hg'⟩))⟩
 | .cond c x y,f,S,K,h=>⟨fun n a w hg=>by
   unfold vcN at h
   split at h
   ·rename_i t ht
    obtain ⟨r,hR,hf,hN,hd⟩:=hg;have hc:=hf.ev c;rw [ht] at hc;have hc:=zi6 hc;refine wpIn_cond_split hc (fun e=>(yab x f S K (h.1 e)).out n a w ⟨r,hR,hf,hN,hd⟩) (fun e=>(yab y f S K (h.2 e)).out n a w ⟨r,hR,hf,hN,hd⟩)
   ·exact h.elim⟩
 | .block id c,f,S,K,h=>⟨fun n a w hg=>wpIn_block (wpIn_mono ((yab c f S _ h).out n a w hg) (fun e a' w' ⟨f',S',hk,hg'⟩=>by
   cases e with
   |exit id'=>
    simp only [Exit.inBlock];by_cases hi:id'=id
    ·subst hi;simp only [Nat.beq_refl] at hk;rw [if_pos rfl];exact ⟨f',S',hk,hg'⟩
    ·have hb:Nat.beq id' id=false:=by
      cases h2:Nat.beq id' id
      ·rfl
      ·exact absurd (Nat.eq_of_beq_eq_true h2) hi
     simp only [hb] at hk;rw [if_neg hi];exact ⟨f',S',hk,hg'⟩
   |normal=>exact ⟨f',S',hk,hg'⟩
   |goto l=>exact ⟨f',S',hk,hg'⟩
   |ret=>exact ⟨f',S',hk,hg'⟩
   |panic ch=>exact ⟨f',S',hk,hg'⟩
   |outgrown=>exact ⟨f',S',hk,hg'⟩))⟩
 | .loop c,f,S,K,h=>h
 | .exit id,f,S,K,h=>⟨fun n a w hg=>wpIn_exit ⟨f,S,h,hg⟩⟩
 | .ret,f,S,K,h=>⟨fun n a w hg=>wpIn_ret ⟨f,S,h,hg⟩⟩
 | .rangeFunc _ _ _ _,f,S,K,h=>h
 | .scope _,f,S,K,h=>h
 | .label _,f,S,K,h=>h
 | .goto _,f,S,K,h=>h
 | .refuse _,f,S,K,h=>h
end
section
variable {P:Program} {w0:World} {G:Gs} {N:Nd} {c d:Code} {f:Fr} {S:List Ow} {Q:Exit→Act→World→Prop}
theorem z3m (h:vcN none P w0 G N c f S fun e f S=>AtQ w0 G N e f S Q):SatQ P w0 G N c f S Q:=
 ⟨fun a w hg=>wpIn_mono ((yab (ro:=none) c f S _ h).out 10 a w hg) fun _e a' w' ⟨_f',_S',hk,hg'⟩=>hk.out a' w' hg'⟩
theorem z3i (h:vcN none P w0 G N c f S fun e f S=>match e with| .normal=>SatQ P w0 G N d f S Q|e=>AtQ w0 G N e f S Q):SatQ P w0 G N (.seq c d) f S Q:=
 ⟨fun a w hg=>wpIn_seq (wpIn_mono ((yab (ro:=none) c f S _ h).out 10 a w hg) fun e a' w' ⟨f',S',hk,hg'⟩=>by
  cases e with
  |normal=>exact hk.out a' w' hg'
  |exit id=>exact hk.out a' w' hg'
  |goto l=>exact hk.out a' w' hg'
  |ret=>exact hk.out a' w' hg'
  |panic ch=>exact hk.out a' w' hg'
  |outgrown=>exact hk.out a' w' hg')⟩
end
theorem zd8 {P:Program} {fn:Func} {w0:World} {G:Gs} {N:Nat} {R:Ending→World→Prop} {e:Exit} {f:Fr} {S:List Ow} (h:RetK P w0 G fn.results.toList R e f S):AtQ w0 G ⟨N,[]⟩ e f S (bodyPostM Fence.wide 10 P fn R):=by
 cases e with
 |normal=>exact zb5 h
 |ret=>exact zcg h
 |exit id=>exact h.elim
 |goto l=>exact h.elim
 |panic ch=>exact h.elim
 |outgrown=>exact h.elim
theorem zfk {P:Program} {fid:FuncId} {fn:Func} {c:Code} {N:Nat} {w0:World} (xs:List Value) (hf:P.funcs[fid]?=some fn) (hN:fn.ntmps=N) (hb:fn.body=some c) (hle:xs.length≤N) {R:Ending→World→Prop}
  (h:vcN none P w0 Gs.nil ⟨N,[]⟩ c (zb1 (xs.map fun x=>AV.of x) 0) [] (RetK P w0 Gs.nil fn.results.toList R)):Calls P fid xs.toArray w0 R:=
 zfh xs hf hN hb hle ⟨fun a w hg=>wpIn_mono ((yab (ro:=none) c _ _ _ h).out 10 a w hg) fun _e a' w' ⟨_f',_S',hk,hg'⟩=>(zd8 hk).out a' w' hg'⟩
def Pc.plB:Pc→Bool
 | .c x=>x.fx (fun _=>false)
 | .agg l=>fxL (fun _=>false) l
def pplL:List Pc→Bool
 |[]=>true
 |c::l=>match c.plB with|true=>pplL l|false=>false
def AV.plB:AV→Bool
 | .p x=>x.plB
 | .tup l=>pplL l
def plF:Fr→Fr
 |[]=>[]
 |(d,x)::f=>match x.plB with|true=>(d,x)::plF f|false=>(d,.p (.c .any))::plF f
theorem Pc.den_pl {r r':Env}:∀ {c:Pc} {u:Value},c.plB=true→c.den r u→c.den r' u
 | .c x,u,hp,hd=>CV.den_fx (ok:=fun _=>false) (fun i b hi=>by cases hi) hp hd
 | .agg l,u,hp,hd=>by obtain ⟨us,hu,hl⟩:=hd;exact ⟨us,hu,zin (ok:=fun _=>false) (fun i b hi=>by cases hi) hp hl⟩
theorem zyi {r r':Env}:∀ {l:List Pc} {us:List Value},pplL l=true→zyd r l us→zyd r' l us
 |[],us,_,hd=>hd
 |c::l,us,hp,hd=>by
  unfold pplL at hp
  split at hp
  ·rename_i hc
   obtain ⟨u,l',hu,h1,h2⟩:=hd;exact ⟨u,l',hu,Pc.den_pl hc h1,zyi hp h2⟩
  ·cases hp
theorem AV.den_pl {r r':Env}:∀ {x:AV} {u:Value},x.plB=true→x.den r u→x.den r' u
 | .p x,u,hp,hd=>Pc.den_pl hp hd
 | .tup l,u,hp,hd=>by obtain ⟨us,hu,hl⟩:=hd;exact ⟨us,hu,zyi hp hl⟩
theorem zyo {r r':Env} {f:Fr} {a:Act} (hf:FDen r f a):FDen r' (plF f) a:=by
 have key:∀ f:Fr,∀ k u,(f.get k).den r u→((plF f).get k).den r' u:=by
  intro f
  induction f with
  |nil=>intro k u _;simp [plF,Fr.get,AV.den,Pc.den,CV.den]
  |cons p f ih=>
   obtain ⟨d,x⟩:=p;intro k u h;unfold plF
   cases hx:x.plB<;>cases hk:Nat.beq d k<;>simp only [Fr.get,hk] at h⊢
   ·exact ih k u h
   ·simp [AV.den,Pc.den,CV.den]
   ·exact ih k u h
   ·exact AV.den_pl hx h
 exact fun k=>key f k _ (hf k)
structure Jmp (P:Program) (w0:World) (G:Gs) (fid:FuncId) (args:List AV) (S:List Ow) (K:Value→World→Prop):Prop where
 ok:fnOk P fid=true
 out:∀ r w us,Rel w0 G S r w→zc1 r args us→Calls P fid us.toArray w fun e w'=>∃ u,e= .returned u∧K u w'
def jmpK (P:Program) (w0:World) (G:Gs) (o:Oper) (f:Fr) (S:List Ow) (K:Value→World→Prop):Prop:=
 match o.op with
 | .call ⟨.value fn,args,_⟩=>(match f.ev fn with
  | .p (.c (.clo (.func fid) cap))=>evL f args.toList fun vs=>Jmp P w0 G fid (vs++cap.map fun c=> .p (.c c)) S K
  | .p (.c (.v (.func (.func fid) first cap)))=>(match first.toList with
   |[]=>evL f args.toList fun vs=>Jmp P w0 G fid (vs++cap.toList.map fun c=>AV.of c) S K
   |_=>False)
  |_=>False)
 |_=>False
section
variable {P:Program} {w0:World} {G:Gs} {N:Nd} {c d:Code} {f:Fr} {S:List Ow} {Q:Exit→Act→World→Prop}
theorem zr9 {o:Oper} {K:Value→World→Prop} (h:jmpK P w0 G o f S K) {r:Env} {w:World} (hR:Rel w0 G S r w) {a:Act} (hf:FDen r f a) {next:Act→World→Prop} (hK:∀ u w',K u w'→next (a.put o.dst u) w'):Oper.se P o a w next:=by
 unfold jmpK at h
 split at h
 ·rename_i fn args tys hop
  have hfn:=hf.ev fn
  split at h
  ·rename_i fid cap he
   rw [he] at hfn;obtain ⟨us,hu,hcap⟩:=zi0 hfn;rw [zkt] at h;obtain ⟨hok,hc⟩:=h
   have hrun:(execOp a.eval o).run P w= .ok (.enter fid ((args.map a.eval)++us.toArray)) w:=by
    simp [execOp,hop,resolve,Deferred.ofValue,hu,invoke,z19 hok]
   refine ya6 hrun ?_;have:=hc r w ((args.toList.map a.eval)++us) hR (zc2 (zc4 hf _) (zc3 hcap));rw [show ((args.toList.map a.eval)++us).toArray=(args.map a.eval)++us.toArray by apply Array.ext';simp] at this
   exact Calls.mono this fun e w' ⟨u,he,hk⟩=>⟨u,he,hK u w' hk⟩
  ·rename_i fid first cap he
   rw [he] at hfn;have hu:=zi6 hfn
   split at h
   ·rename_i hfst
    have ef:first= #[]:=Array.ext' hfst;rw [zkt] at h;obtain ⟨hok,hc⟩:=h
    have hrun:(execOp a.eval o).run P w= .ok (.enter fid ((args.map a.eval)++cap)) w:=by
     simp [execOp,hop,resolve,Deferred.ofValue,hu,ef,invoke,z19 hok]
    refine ya6 hrun ?_;have:=hc r w ((args.toList.map a.eval)++cap.toList) hR (zc2 (zc4 hf _) (zc6 _));rw [show ((args.toList.map a.eval)++cap.toList).toArray=(args.map a.eval)++cap by apply Array.ext';simp] at this
    exact Calls.mono this fun e w' ⟨u,he,hk⟩=>⟨u,he,hK u w' hk⟩
   ·exact h.elim
  ·exact h.elim
 ·exact h.elim
theorem z26 {id:Nat} {ops:Array Oper} (k:Nat) {o:Oper} (hk:ops.toList.drop k=o::ops.toList.drop (k+1)) (hg:o.guard=none) (hdst:zjc N.n o.dst=true)
  (h:zpa P w0 G N ops (ops.toList.take k) f S fun f1 S1=>jmpK P w0 G o f1 S1 fun u w'=>zpa P w' Gs.nil N ops (ops.toList.drop (k+1)) ((plF f1).put o.dst (AV.of u)) [] fun f2 S2=>AtQ w' Gs.nil N .normal f2 S2 Q):SatQ P w0 G N (.region id ops false) f S Q:=
 ⟨fun a w hgd=>wpIn_region_list (ya4 none 10 k (zpb (Q:=fun a w=>∃ f1 S1,(jmpK P w0 G o f1 S1 fun u w'=>zpa P w' Gs.nil N ops (ops.toList.drop (k+1)) ((plF f1).put o.dst (AV.of u)) [] fun f2 S2=>AtQ w' Gs.nil N .normal f2 S2 Q)∧Good w0 G N f1 S1 a w) _ f S _ h (fun f' S' a' w' hk' hg'=>⟨f',S',hk',hg'⟩) a w hgd) (by
  rintro a w ⟨f1,S1,hj,r,hR,hf,hN,hd⟩;rw [hk];unfold wpListIn;rw [if_pos (yad hg _)];refine z3u none 10 (next:=fun a w=>wpListIn (zlu none) 10 P ops Q (ops.toList.drop (k+1)) a w) (zr9 hj hR hf fun u w' hq=>?_) (fun a w h=>h)
  exact z3s none 10 (zpb _ _ _ _ hq (fun f' S' a' w' hk' hg'=>hk'.out a' w' hg') _ _ ⟨Env.none,z1o w',(zyo hf).put (AV.of_den _ _) (by rw [hN];exact hdst),(zzh a _ _).trans hN,(zze a _ _).trans hd⟩)))⟩
def zan {α:Type} (N:Nd) (T:α→Fr) (J:α→World→Prop) (m:α→Nat) (n:Nat) (Q:Exit→Act→World→Prop):Exit→Act→World→Prop:=fun e a w=>match e with
 | .normal=>∃ y,FDen Env.none (T y) a∧a.tmps.size=N.n∧a.defers=N.ds∧J y w∧m y<n
 |e=>Q e a w
theorem z3a {α:Type} (T:α→Fr) (J:α→World→Prop) (m:α→Nat) (x0:α) (h0:∀ r w,Rel w0 G S r w→(∀ a,FDen r f a→FDen Env.none (T x0) a)∧J x0 w) (hround:∀ x w,J x w→SatQ P w Gs.nil N c (T x) [] (zan N T J m (m x) Q)):SatQ P w0 G N (.loop c) f S Q:=by
 refine ⟨fun a w hg=>?_⟩;intro b k cs hro hb hr
 have key:∀ (n:Nat) (x:α),m x=n→∀ a w,J x w→FDen Env.none (T x) a→a.tmps.size=N.n→a.defers=N.ds→∃ e a' w',Q e a' w'∧ArrivesIn (Machine.fenced P Fence.wide) P (lone (b.atR a (.code c:: .inLoop c::k)) cs w) b k cs e a' w':=by
  intro n
  induction n using Nat.strongRecOn with
  |_ n ih=>
   intro x hx a w hJ hf hN hd;obtain ⟨e,a',w',hq,harr⟩:=(hround x w hJ).out a w ⟨Env.none,z1o w,hf,hN,hd⟩ b (.inLoop c::k) cs hro hb hr
   cases e with
   |normal=>
    obtain ⟨y,hf',hN',hd',hJ',hlt⟩:=hq;obtain ⟨e2,a2,w2,hq2,harr2⟩:=ih (m y) zO y rfl a' w' hJ' hf' hN' hd';exact ⟨e2,a2,w2,hq2,.of_steps (StepsIn.trans harr (.one (fenced_calm hb hr rfl) stepR_inLoop)) harr2⟩
   |exit id=>exact ⟨_,a',w',hq,.pass (x:= .inLoop c) rfl (fun _ _=> .inl zS) harr⟩
   |goto l=>exact ⟨_,a',w',hq,.pass (x:= .inLoop c) rfl (fun _ _=> .inl zS) harr⟩
   |ret=>exact ⟨_,a',w',hq,.pass (x:= .inLoop c) rfl (fun _ _=> .inl zS) harr⟩
   |panic ch=>exact ⟨_,a',w',hq,.pass (x:= .inLoop c) rfl (fun _ _=> .inl zS) harr⟩
   |outgrown=>exact ⟨_,a',w',hq,.pass (x:= .inLoop c) rfl (fun _ _=> .inl zS) harr⟩
 obtain ⟨r,hR,hf,hN,hd⟩:=hg;obtain ⟨h1,h2⟩:=h0 r w hR;obtain ⟨e,a',w',hq,harr⟩:=key _ x0 rfl a w h2 (h1 a hf) hN hd;exact ⟨e,a',w',hq,.of_steps (.one (fenced_calm hb hr rfl) stepR_loop) harr⟩
theorem zcc {α:Type} {T:α→Fr} {J:α→World→Prop} {m:α→Nat} {n:Nat} (y:α) (hf:FLe (plF f) (T y)) (hJ:∀ r w,Rel w0 G S r w→J y w) (hm:m y<n):AtQ w0 G N .normal f S (zan N T J m n Q):=
 ⟨fun _a w ⟨r,hR,hfd,hN,hd⟩=>⟨y,hf.den (zyo hfd),hN,hd,hJ r w hR,hm⟩⟩
theorem zcf {α:Type} {T:α→Fr} {J:α→World→Prop} {m:α→Nat} {n:Nat} {id:Nat} (h:AtQ w0 G N (.exit id) f S Q):AtQ w0 G N (.exit id) f S (zan N T J m n Q):=⟨fun a w hg=>h.out a w hg⟩
end
theorem z4l (n:Int):sgnW n 12=if 2048≤n%4096 then n%4096+4294963200 else n%4096:=rfl
theorem z5c (n:Int) (b:Nat) (w:World) (hn:word n) (hb:sbits b):Calls Tryz.prog 86 #[.int .u32 n,.int .i64 (b:Int)] w fun e w'=>e= .returned (.int .u32 (sgnW n b))∧Below w.heap.size w w':=by
 have hn2:=hn;obtain ⟨h0,h1⟩:=hn
 have key:∀ (B H:Int),n.tmod B=n%B→(IntKind.u32.wrap (1*2^(min (b:Int).toNat IntKind.u32.bits))=B)→(IntKind.i64.wrap ((b:Int)-1)=(b:Int)-1)→(IntKind.u32.wrap (1*2^(min ((b:Int)-1).toNat IntKind.u32.bits))=H)→(1≤(b:Int)∧(b:Int)<32)→B≠0→
   (∀ x:Int,x=n%B→sgnW n b=if H≤x then IntKind.u32.wrap (x-B) else x)→Calls Tryz.prog 86 #[.int .u32 n,.int .i64 (b:Int)] w fun e w'=>e= .returned (.int .u32 (sgnW n b))∧Below w.heap.size w w':=by
  intro B H hm hB hb1 hH hbr hB0 hs;refine zfj [.int .u32 n,.int .i64 (b:Int)] Tryz.func86 Tryz.ntmps86 rfl zS ?_;(conv=>whnf);refine ⟨fun hc=>absurd hc zV,fun _=>?_⟩;(conv=>whnf);refine ⟨fun hc=>absurd hc zV,fun _=>?_⟩;(conv=>whnf);refine ⟨by omega,B,hB,?_⟩;(conv=>whnf);refine ⟨hB0,n%B,hm,?_⟩;(conv=>whnf);refine ⟨_,hb1,?_⟩;(conv=>whnf);refine ⟨by omega,H,hH,?_⟩;(conv=>whnf);refine ⟨fun hc=>?_,fun hc=>?_⟩
  ·conv=>whnf
   refine ⟨by omega,B,hB,?_⟩;(conv=>whnf);refine ⟨_,rfl,?_⟩;(conv=>whnf)
   refine zmp rfl fun w' hB=>⟨?_,hB⟩
   have:H≤n%B:=(by simpa using hc);rw [hs _ rfl,if_pos this]
  ·conv=>whnf
   refine zmp rfl fun w' hB=>⟨?_,hB⟩
   have:¬H≤n%B:=(by simpa using hc);rw [hs _ rfl,if_neg this]
 rcases hb with rfl|rfl|rfl
 ·refine key 4096 2048 (Int.tmod_eq_emod_of_nonneg h0) (by decide) (by decide) (by decide) zO zO fun x hx=>?_
  rw [z4l, ← hx];split
  ·rw [wr32];omega
  ·rfl
 ·refine key 262144 131072 (Int.tmod_eq_emod_of_nonneg h0) (by decide) (by decide) (by decide) zO zO fun x hx=>?_
  rw [z4m, ← hx];split
  ·rw [wr32];omega
  ·rfl
 ·refine key 4194304 2097152 (Int.tmod_eq_emod_of_nonneg h0) (by decide) (by decide) (by decide) zO zO fun x hx=>?_
  rw [z4n, ← hx];split
  ·rw [wr32];omega
  ·rfl
theorem z4p (n:Int) {b:Nat} (hb:sbits b):word (sgnW n b):=by
 rcases hb with rfl|rfl|rfl
 ·rw [z4l];unfold word;split<;>omega
 ·exact z4q n (.inr (.inl rfl)) zO
 ·exact z4q n (.inr (.inr rfl)) zO
theorem zm3 (n:Int) (b:Nat) (w:World) (hn:word n) (hb:sbits b):Calls Tryz.prog 154 #[.int .u32 n,.int .i64 (b:Int)] w fun e w'=>e= .returned (.bool (decide (sgnW n b=n)))∧Below w.heap.size w w':=by
 refine zfj [.int .u32 n,.int .i64 (b:Int)] Tryz.func154 Tryz.ntmps154 rfl zS ?_
 conv=>whnf
 refine ze2 rfl zK (fun r w' _=>z5c n b w' hn hb) ?_
 conv=>whnf
 exact zmp rfl fun w' hB=>⟨rfl,hB⟩
theorem ybc {n:Int} (h:word n):IntKind.i32.wrap n=z5e n:=by
 unfold word at h
 have e:IntKind.i32.wrap n=if (true&&decide (n%4294967296≥2147483648))=true then n%4294967296-4294967296 else n%4294967296:=rfl
 rw [e];unfold z5e;have hm:n%4294967296=n:=(by omega);rw [hm];by_cases hc:2147483648≤n
 ·rw [if_pos hc,if_pos zV]
 ·rw [if_neg hc,if_neg zV]
theorem z5d (n:Int) (b:Nat) (w:World) (hn:word n) (hb:b=18∨b=22):Calls Tryz.prog 194 #[.int .u32 n,.int .i64 (b:Int)] w fun e w'=>e= .returned (.int .u32 (sgnW n b))∧Below w.heap.size w w':=by
 have key:∀ (k:Int),(IntKind.i64.wrap (32-(b:Int))=k)→0≤k→(1≤(b:Int)∧(b:Int)<32)→
   (IntKind.u32.wrap ((IntKind.i32.wrap (IntKind.u32.wrap (n*2^(min k.toNat IntKind.u32.bits)))).fdiv (2^(min k.toNat IntKind.i32.bits)))=sgnW n b)→Calls Tryz.prog 194 #[.int .u32 n,.int .i64 (b:Int)] w fun e w'=>e= .returned (.int .u32 (sgnW n b))∧Below w.heap.size w w':=by
  intro k hk hk0 hbr hs;refine zfj [.int .u32 n,.int .i64 (b:Int)] Tryz.func194 Tryz.ntmps194 rfl zS ?_;(conv=>whnf);refine ⟨fun hc=>absurd hc zV,fun _=>?_⟩;(conv=>whnf);refine ⟨fun hc=>absurd hc zV,fun _=>?_⟩;(conv=>whnf);refine ⟨k,hk,?_⟩;(conv=>whnf);refine ⟨hk0,_,rfl,?_⟩;(conv=>whnf);refine ⟨_,rfl,?_⟩;(conv=>whnf);refine ⟨k,hk,?_⟩;(conv=>whnf);refine ⟨hk0,_,rfl,?_⟩;(conv=>whnf);refine ⟨_,rfl,?_⟩;(conv=>whnf)
  exact zmp rfl fun w' hB=>⟨by rw [← hs],hB⟩
 rcases hb with rfl|rfl
 ·refine key 14 (by decide) zO zO ?_
  rw [show (min (14:Int).toNat IntKind.u32.bits)=14 from rfl,show (min (14:Int).toNat IntKind.i32.bits)=14 from rfl,show (2:Int)^14=16384 from rfl,wr32,wr32,ybc (by unfold word;omega),Int.fdiv_eq_ediv_of_nonneg _ zO];exact z4r n hn
 ·refine key 10 (by decide) zO zO ?_
  rw [show (min (10:Int).toNat IntKind.u32.bits)=10 from rfl,show (min (10:Int).toNat IntKind.i32.bits)=10 from rfl,show (2:Int)^10=1024 from rfl,wr32,wr32,ybc (by unfold word;omega),Int.fdiv_eq_ediv_of_nonneg _ zO];exact z4s n hn
theorem zm5 (n:Int) (b:Nat) (w:World) (hn:word n) (hb:b=18∨b=22):Calls Tryz.prog 170 #[.int .u32 n,.int .i64 (b:Int)] w fun e w'=>e= .returned (.bool (decide (sgnW n b=n)))∧Below w.heap.size w w':=by
 refine zfj [.int .u32 n,.int .i64 (b:Int)] Tryz.func170 Tryz.ntmps170 rfl zS ?_
 conv=>whnf
 refine ze2 rfl zK (fun r w' _=>z5d n b w' hn hb) ?_
 conv=>whnf
 exact zmp rfl fun w' hB=>⟨rfl,hB⟩
def CV.up (k:Nat):CV→CV
 | .v x=> .v x
 | .ref i o=> .ref (k+i) o
 | .vref i o=> .vref (k+i) o
 | .row i=> .row (k+i)
 | .sl i o n c=> .sl (k+i) o n c
 | .mp i=> .mp (k+i)
 | .clo _ _=> .any
 | .any=> .any
def Ow.up (k:Nat):Ow→Ow
 | .cells t l=> .cells t (l.map (CV.up k))
 | .row e size n xs=> .row e size n xs
 | .ext φ=> .ext φ
 |_=> .gone
abbrev memL (k n p:Nat) (M:MemP) (T:List Ow):List Ow:=
 .cells 115 [.sl (k+1) 0 n (n+M.td.length),.sl (k+2) 0 n (n+M.ti.length),.sl (k+3) 0 n (n+M.tod.length),.sl (k+4) 0 n (n+M.toi.length),.sl (k+5) 0 p (p+M.tr.length),.v (.bool false)]::
  .cells 5 (M.dV.map .v):: .cells 5 (M.iV.map .v):: .cells 5 (M.odV.map .v):: .cells 5 (M.oiV.map .v):: .cells 3 (M.rV.map .v)::T
theorem zt8 {n p:Nat} {M:MemP} {T:List Ow}:∀ (i:Nat) (o:Ow),(memS 0 n p M)[i]?=some o→(memL 0 n p M T)[i]?=some o:=z7u (T:=T)
theorem zt7 {n p:Nat} {M:MemP} {T:List Ow}:∀ (i:Nat),i<6→(memL 0 n p M T)[0+i]?=(memS 0 n p M)[i]?:=fun i hi=>by
 rw [Nat.zero_add];exact List.getElem?_append_left (l₁:=memS 0 n p M) (l₂:=T) hi
theorem zo3 (g g1 g2 g3 g4 g5 n p:Nat) (M:MemP) (T:List Ow) (hT:sbnd (6+T.length) T=true):zoz ⟨[g,g1,g2,g3,g4,g5],[]⟩ (memL 0 n p M T)=true:=by
 have hl:(memL 0 n p M T).length=6+T.length:=by simp;omega
 have hb:∀ i,i<6→Nat.blt i (6+T.length)=true:=fun i hi=>by rw [Nat.blt_eq];omega
 unfold zoz;rw [hl,show Nat.ble (Gs.mk [g,g1,g2,g3,g4,g5] []).fix.length (6+T.length)=true from Nat.ble_eq_true_of_le (by show 6≤_;omega)];show sbnd (6+T.length) (memL 0 n p M T)=true;simp only [sbnd,Ow.bnd,zd6,bndL,CV.bnd,Nat.zero_add,hb 1 zO,hb 2 zO,hb 3 zO,hb 4 zO,hb 5 zO];exact hT
def valV (v at_:Int) (ok:Bool):Value:= .agg #[.int .u32 v,.int .u32 at_,.bool ok]
def MemP.bad (M:MemP) (a r:Int):Nat→Nat→Option Int
 |_,0=>none
 |i,k+1=>if M.right ((a+i)%4294967296) r=true then M.bad a r (i+1) k else some ((a+i)%4294967296)
def zf1 (x:Option Int):Value:=match x with|none=>valV 0 0 true|some y=>valV 0 y false
theorem zdc (M:MemP) (a r:Int) {i m:Nat} (h:i<m):M.bad a r i (m-i)=if M.right ((a+i)%4294967296) r=true then M.bad a r (i+1) (m-(i+1)) else some ((a+i)%4294967296):=by
 obtain ⟨k,hk⟩:∃ k,m-i=k+1:=⟨m-i-1,by omega⟩
 rw [hk,show m-(i+1)=k by omega];rfl
theorem zuf (M:MemP) (n p:Nat) (a r:Int) (m:Nat) (w:World) (g:Nat) (gs:List Nat) (hU:ObjsAt w (g::gs) (memS 0 n p M)) (hM:M.ok n p) (_ha:word a) (hr:r=1∨r=2∨r=4) (hm:1≤m∧m≤4):
  Calls Tryz.prog 175 #[.pointer (some ⟨g,0,none⟩),.int .u32 a,.int .i64 (m:Int),.int .i64 r] w fun e w'=>e= .returned (zf1 (M.bad a r 0 m))∧ObjsAt w' (g::gs) (memS 0 n p M)∧GrownBys w w' (g::gs):=by
 obtain ⟨g0,g1,g2,g3,g4,g5,hg⟩:=z5w hU;injection hg with hg0 hgs;subst hgs;subst hg0;refine zfe [.p (.c (.ref 0 0)),one (.int .u32 a),one (.int .i64 (m:Int)),one (.int .i64 r)] [.pointer (some ⟨g,0,none⟩),.int .u32 a,.int .i64 (m:Int),.int .i64 r] Tryz.func175 Tryz.ntmps175 rfl zS hU ⟨_,_,rfl,zi1 rfl,zc6 [.int .u32 a,.int .i64 (m:Int),.int .i64 r]⟩ ?_;(conv=>whnf);refine ⟨decide ((m:Int)>4),fun _=>?_,?_⟩
 ·conv=>whnf
  exact ⟨rfl,rfl,rfl,rfl,zo3 g g1 g2 g3 g4 g5 n p M [.cells 220 [.v (.int .u32 0),.v (.int .u32 0),.v (.bool false)]] rfl⟩
 conv=>whnf
 refine ⟨fun hc=>absurd hc (by simp [cmb];omega),fun _=>?_⟩
 conv=>whnf
 refine ⟨{i:Nat//i≤m∧M.bad a r 0 m=M.bad a r i (m-i)},fun x=>[(0,.p (.c (.ref 0 0))),(1,one (.int .u32 a)),(2,one (.int .i64 (m:Int))),(3,one (.int .i64 r)),(8,.p (.c (.ref 6 0))),(9,one (.int .i64 (x.1:Int)))],fun x=>memL 0 n p M [.cells 220 [.v (.int .u32 0),.v (.int .u32 0),.v (.bool false)]],fun x=>m-x.1,
  ⟨⟨0,by omega,rfl⟩,zkb rfl Tn Tn⟩,fun x=>?_⟩
 obtain ⟨i,hi,hbad⟩:=x;dsimp only;(conv=>whnf);refine ⟨fun hc=>?_,fun hc=>?_⟩
 ·have hlt:i<m:=by simpa using hc
  rw [zdc M a r hlt] at hbad;(conv=>whnf);refine ⟨(i:Int),by rw [wr32];omega,?_⟩;(conv=>whnf);refine ⟨(a+i)%4294967296,wr32 _,?_⟩;(conv=>whnf);refine ze4 (pre:=[]) (suf:=[one (.int .u32 ((a+i)%4294967296)),one (.int .i64 r)]) 0 n p M (.bool (M.right ((a+i)%4294967296) r)) zt7 rfl rfl zK (fun w' g gs hk hU=>zus M n p _ r w' g gs hU hM (by unfold word;omega) hr) ?_;(conv=>whnf);refine ⟨fun hb=>?_,fun hb=>?_⟩
  ·have hb':M.right ((a+i)%4294967296) r=false:=by simpa using hb
   rw [hb',if_neg (by decide)] at hbad;(conv=>whnf);refine ⟨(i:Int),by rw [wr32];omega,?_⟩;(conv=>whnf);refine ⟨(a+i)%4294967296,wr32 _,?_⟩;(conv=>whnf);refine ⟨_,_,zj7,?_⟩;(conv=>whnf)
   exact zmn rfl rfl zt8 (zuc n p M) fun w' h1 h2=>⟨by rw [hbad];rfl,h1,h2⟩
  ·have hb':M.right ((a+i)%4294967296) r=true:=by simpa using hb
   rw [if_pos hb'] at hbad;(conv=>whnf);refine ⟨_,wr64 zO,?_⟩;(conv=>whnf);exact ⟨⟨i+1,by omega,hbad⟩,zkb rfl Tn Tn,by show m-(i+1)<m-i;omega⟩
 ·have hie:i=m:=by simp at hc;omega
  subst hie;rw [Nat.sub_self] at hbad;(conv=>whnf);refine ⟨_,_,zj7,?_⟩;(conv=>whnf)
  exact zmn rfl rfl zt8 (zuc n p M) fun w' h1 h2=>⟨by rw [hbad];rfl,h1,h2⟩
structure Held (W:World) (G:Gs) (w:World):Prop where
 os:w.os=W.os
 tape:w.tape=W.tape
 output:w.output=W.output
 size:W.heap.size≤w.heap.size
 old:∀ k,k<W.heap.size→k∉G→w.heap[k]?=W.heap[k]?
def Gs.flat (G:Gs):Gs:=⟨[],G.fix++G.ext⟩
theorem znb {G:Gs} {b:Nat}:b∈G.flat↔b∈G:=by
 constructor
 ·rintro (h|h)
  ·cases h
  ·exact List.mem_append.1 h
 ·intro h;exact .inr (List.mem_append.2 h)
theorem Rel.held {W:World} {G:Gs} {S:List Ow} {r:Env} {w:World} (h:Rel W G S r w):Held W G w:=⟨h.os,h.tape,h.output,h.size,h.old⟩
theorem Held.rel {W:World} {G:Gs} {w:World} (h:Held W G w):Rel W G.flat [] Env.none w:=
 ⟨h.os,h.tape,h.output,h.size,fun k hk hn=>h.old k hk (fun hm=>hn (znb.2 hm)),by simp,nofun,nofun,fun _ _=>rfl,fun _ _=>rfl,(by intro i g h;simp [Gs.flat] at h)⟩
def zyq (x:AV):AV:=match x.fx (fun _=>false) with|true=>x|false=> .p (.c .any)
def zys:Fr→Fr
 |[]=>[]
 |(d,x)::f=>(d,zyq x)::zys f
theorem zyt {r:Env} {f:Fr} {a:Act} (hf:FDen r f a):FDen Env.none (zys f) a:=by
 have key:∀ f:Fr,∀ k u,(f.get k).den r u→((zys f).get k).den Env.none u:=by
  intro f
  induction f with
  |nil=>intro k u _;simp [zys,Fr.get,AV.den,Pc.den,CV.den]
  |cons p f ih=>
   obtain ⟨d,x⟩:=p;intro k u h;unfold zys
   cases hk:Nat.beq d k<;>simp only [Fr.get,hk] at h⊢
   ·exact ih k u h
   ·unfold zyq
    cases hx:x.fx (fun _=>false)
    ·simp [AV.den,Pc.den,CV.den]
    ·exact AV.den_fx (ok:=fun _=>false) (fun i b hi=>by cases hi) hx h
 exact fun k=>key f k _ (hf k)
section
variable (P:Program) (W:World) (G:Gs) (N:Nd)
def zmr (f:Fr) (T:List Ow) (o:Oper) (K:AV→Prop):Prop:=
 match o.op with
 | .move x=>znm (f.ev x) K
 | .assign x=>znm (f.ev x) K
 | .fieldAddr s x k=>(match f.ev x with
  | .p (.c (.ref i off))=>(match znd P s k with|some n=>K (.p (.c (.ref i (off+n))))|none=>False)
  |_=>(match opTy P o.op with|true=>qop P W G.flat [] (zys f) o K|false=>False))
 | .nilCheck x=>(match f.ev x with
  | .p (.c (.ref i off))=>K (.p (.c (.ref i off)))
  |_=>(match opTy P o.op with|true=>qop P W G.flat [] (zys f) o K|false=>False))
 | .build t parts=>zee P T f t parts K
 |_=>(match opTy P o.op with|true=>qop P W G.flat [] (zys f) o K|false=>False)
def trG (ops:Array Oper) (l:List Oper):Tr→Fr→List Ow→(Fr→List Ow→Prop)→Prop
 | .done,f,T,K=>K f T
 | .no,_,_,_=>True
 | .q i t,f,T,K=>(match l[i]? with
  |none=>False
  |some o=>(match zjc N.n o.dst with
   |false=>False
   |true=>(match zo5 ops f o with
    |some true=>zmr P W G f T o fun v=>f.putK o.dst v fun f'=>trG ops l t f' T K
    |some false=>f.putK o.dst (.p (.c .any)) fun f'=>trG ops l t f' T K
    |none=>False)))
 | .alt i t more,f,T,K=>(match l[i]? with
  |none=>False
  |some o=>(match zo5 ops f o with
   |some true=>opK P W G N o f T fun f' T'=>trG ops l t f' T' K
   |_=>False))∧trG ops l more f T K
end
section
variable {P:Program} {W:World} {G:Gs} {N:Nd} {ops:Array Oper} {l:List Oper}
theorem zms {f:Fr} {T:List Ow} {o:Oper} {K:AV→Prop} (h:zmr P W G f T o K) {r:Env} {w:World} (hR:Rel W G T r w) {a:Act} (hf:FDen r f a):
  ∃ v u,K v∧v.den r u∧∀ w',Held W G w'→(execOp a.eval o).run P w'= .ok (.value u) w':=by
 have plain:(match opTy P o.op with|true=>qop P W G.flat [] (zys f) o K|false=>False)→∃ v u,K v∧v.den r u∧∀ w',Held W G w'→(execOp a.eval o).run P w'= .ok (.value u) w':=fun h=>by
  split at h
  ·rename_i hty
   obtain ⟨v,u,hK,hden,hrun⟩:=z0m h hty rfl (D:=Held W G) (fun w hw=>hw.rel) hR.held (zyt hf);exact ⟨v,u,hK,AV.den_mono ⟨(fun i b h=>by cases h),(fun i b h=>by cases h)⟩ _ _ hden,hrun⟩
  ·exact h.elim
 unfold zmr at h
 split at h
 ·rename_i x hop
  exact ⟨_,_,znn.1 h,hf.ev x,fun w' _=>by simp [execOp,hop]⟩
 ·rename_i x hop
  exact ⟨_,_,znn.1 h,hf.ev x,fun w' _=>by simp [execOp,hop]⟩
 ·rename_i s x k hop
  split at h
  ·rename_i i off he
   split at h
   ·rename_i n hn
    have hx:=hf.ev x;rw [he] at hx;obtain ⟨b,hb,hu⟩:=zi4 hx;exact ⟨_,_,h,zi1 hb,fun w' _=>by simp [execOp,hop,hu,z2a hn]⟩
   ·exact h.elim
  ·exact plain h
 ·rename_i x hop
  split at h
  ·rename_i i off he
   have hx:=hf.ev x;rw [he] at hx;obtain ⟨b,hb,hu⟩:=zi4 hx;exact ⟨_,_,h,zi1 hb,fun w' _=>by simp [execOp,hop,hu]⟩
  ·exact plain h
 ·rename_i t parts hop
  obtain ⟨v,u,hK,hd,hrun⟩:=zef hR hf h;exact ⟨v,u,hK,hd,fun w' _=>by simp [execOp,hop,hrun w']⟩
 ·exact plain h
theorem z8x (hl:∀ i:Nat,l[i]?=ops[i]?) (hns:Region.noSelect ops=true) {K:Fr→List Ow→Prop} {Q:Exit→Act→World→Prop} (hQ0:∀ c a w,¬Q (.panic c) a w) (hQ:∀ f T a w,K f T→Good W G N f T a w→Q .normal a w):
  ∀ (t:Tr) (inner:Bool) (listed:Array Bool) (f:Fr) (T:List Ow) (n:Nat),t.ok ops inner listed=true→t.depth≤n→trG P W G N ops l t f T K→∀ a w,Good W G N f T a w→
   (inner=false→wpAnyH P .any ops Q (Held W G) n listed a w)∧
   (∀ m,n=m+1→∀ i∈t.alts,wpOp P ops Q i (fun a' w'=>Held W G w'∧wpAnyH P .any ops Q (Held W G) m (listed.setIfInBounds i true) a' w') a w)
 | .done,inner,listed,f,T,n,hB,_,h,a,w,hg=>by
  refine ⟨fun _=>wpAnyH_done (by simp [Tr.ok] at hB;exact hB.2) (hQ f T a w h hg) _,fun m _ i hi=>by cases hi⟩
 | .no,inner,listed,f,T,n,hB,_,h,a,w,hg=>by
  refine ⟨fun he=>?_,fun m _ i hi=>by cases hi⟩;simp [Tr.ok] at hB;rw [hB] at he;cases he
 | .q i t,inner,listed,f,T,n,hB,hn,h,a,w,hg=>by
  refine ⟨fun _=>?_,fun m _ i hi=>by cases hi⟩;simp only [Tr.ok,Bool.and_eq_true] at hB;obtain ⟨⟨⟨_,hB1⟩,hB2⟩,hB3⟩:=hB;simp only [Tr.depth] at hn
  obtain ⟨n,rfl⟩:∃ k,n=k+1:=⟨n-1,by omega⟩
  unfold trG at h
  split at h
  ·exact h.elim
  ·rename_i o ho
   rw [hl] at ho
   split at h
   ·exact h.elim
   ·rename_i hdst
    obtain ⟨r,hR,hf,hN,hd⟩:=hg
    split at h
    ·rename_i hgd
     have hw:=zo9 hf hgd;obtain ⟨v,u,hK,hden,hrun⟩:=zms h hR hf;have hK:=zy5.1 hK;refine wpAnyH_take (v:=u) ho hns hB1 hB2 (fun c a w h=>absurd h (hQ0 c _ w)) (.inl ⟨hw,hrun⟩) hR.held ?_;exact (z8x hl hns hQ0 hQ t false _ _ T n hB3 zO hK _ w ⟨r,hR,hf.put hden (by rw [hN];exact hdst),(zzh a _ _).trans hN,(zze a _ _).trans hd⟩).1 rfl
    ·rename_i hgd
     have hw:=zo9 hf hgd;have hK:=zy5.1 h;refine wpAnyH_take (v:=undef) ho hns hB1 hB2 (fun c a w h=>absurd h (hQ0 c _ w)) (.inr ⟨hw,rfl⟩) hR.held ?_;exact (z8x hl hns hQ0 hQ t false _ _ T n hB3 zO hK _ w ⟨r,hR,hf.putAny _ (by rw [hN];exact hdst),(zzh a _ _).trans hN,(zze a _ _).trans hd⟩).1 rfl
    ·exact h.elim
 | .alt i t more,inner,listed,f,T,n,hB,hn,h,a,w,hg=>by
  simp only [Tr.ok,Bool.and_eq_true] at hB;obtain ⟨⟨hB1,hB2⟩,hB3⟩:=hB;simp only [Tr.depth] at hn;unfold trG at h;obtain ⟨h1,h2⟩:=h
  have all:∀ m,n=m+1→∀ j∈(Tr.alt i t more).alts,wpOp P ops Q j (fun a' w'=>Held W G w'∧wpAnyH P .any ops Q (Held W G) m (listed.setIfInBounds j true) a' w') a w:=by
   intro m hm j hj;simp only [Tr.alts,List.mem_cons] at hj;rcases hj with rfl|hj
   ·split at h1
    ·exact h1.elim
    ·rename_i o ho
     rw [hl] at ho;obtain ⟨r,hR,hf,hN,hd⟩:=hg
     split at h1
     ·rename_i hgd
      have hw:=zo9 hf hgd;unfold wpOp;simp only [ho,hw,if_true];refine .inl (z3t ((zwp h1).out r a w hR hf hN hd (fun a' w'=>Held W G w'∧wpAnyH P .any ops Q (Held W G) m (listed.setIfInBounds j true) a' w') Q fun f' T' a' w' hk hg'=>?_) fun _ _ h=>h);refine ⟨?_,(z8x hl hns hQ0 hQ t false _ f' T' m hB2 zO hk a' w' hg').1 rfl⟩;obtain ⟨r',hR',_⟩:=hg';exact hR'.held
     ·exact h1.elim
   ·exact (z8x hl hns hQ0 hQ more true listed f T n hB3 zO h2 a w hg).2 m hm j hj
  refine ⟨fun he=>?_,all⟩
  obtain ⟨m,rfl⟩:∃ k,n=k+1:=⟨n-1,by omega⟩
  have hr:Region.ready .any ops listed=(Tr.alt i t more).alts:=by
   rw [he] at hB1
   simpa [Tr.alts] using hB1
  exact wpAnyH_all hr (by simp [Tr.alts]) (all m rfl)
theorem z2t {id:Nat} {l:List Oper} {f:Fr} {S:List Ow} {K:Exit→Fr→List Ow→Prop} (t:Tr) (hm:P.follows .mixedOrders=true) (hns:Region.noSelect l.toArray=true) (hB:(t.ok l.toArray false (Array.replicate l.toArray.size false)&&Nat.ble t.depth l.length)=true)
  (h:trG P W G N l.toArray l t f S (K .normal)):Sat none P W G N (.region id l.toArray true) f S K:=by
 refine ⟨fun n a w ⟨r,hR,hf,hN,hd⟩=>wpIn_wide.2 ?_⟩;simp only [Bool.and_eq_true] at hB;refine Code.wp_mono (Q:=fun e a w=>match e with| .normal=>zal W G N K .normal a w|_=>False) (fun e a w h=>by cases e<;>first|exact h|exact h.elim) (wp_region_held (S:=Held W G) hm ?_);have:=(z8x (P:=P) (W:=W) (N:=N) (Q:=fun e a w=>match e with| .normal=>zal W G N K .normal a w|_=>False) (fun i=>by simp) hns (fun c a w h=>h) (fun f T a w hk hg=>⟨f,T,hk,hg⟩) t false _ f S l.length hB.1 (Nat.le_of_ble_eq_true hB.2) h a w.drew ⟨r,hR.drew,hf,hN,hd⟩).1 rfl
 simpa using this
end
inductive Nx (α:Type) where
 |done
 |q (i:Nat) (y:α)
 |alts (l:List (Nat×α))
structure DagOk {α:Type} (ops:Array Oper) (listed:α→Array Bool) (nx:α→Nx α) (left:α→Nat) (x:α):Prop where
 done:nx x= .done→Region.ready .any ops (listed x)=[]
 q:∀ i y,nx x= .q i y→Region.free .any ops (listed x) i=true∧(Region.ready .any ops (listed x)).contains i=true∧listed y=(listed x).setIfInBounds i true∧left y<left x
 alts:∀ l,nx x= .alts l→Region.ready .any ops (listed x)=l.map Prod.fst∧l≠[]∧∀ p∈l,listed p.2=(listed x).setIfInBounds p.1 true∧left p.2<left x
def zki:List Bool→List Bool→Bool
 |[],[]=>true
 |a::l,b::m=>match a,b with|true,true=>zki l m|false,false=>zki l m|_,_=>false
 |_,_=>false
theorem zkj:∀ {l m:List Bool},zki l m=true→l=m
 |[],[],_=>rfl
 |a::l,b::m,h=>by
  cases a<;>cases b<;>simp only [zki] at h<;>first|cases h|rw [zkj h]
 |[],_::_,h=>by cases h
 |_::_,[],h=>by cases h
def dagB {α:Type} (ops:Array Oper) (listed:α→Array Bool) (nx:α→Nx α) (left:α→Nat) (x:α):Bool:=
 match nx x with
 | .done=>(Region.ready .any ops (listed x)).isEmpty
 | .q i y=>Region.free .any ops (listed x) i&&(Region.ready .any ops (listed x)).contains i&&zki (listed y).toList ((listed x).setIfInBounds i true).toList&&Nat.blt (left y) (left x)
 | .alts l=>(Region.ready .any ops (listed x)==l.map Prod.fst)&& !l.isEmpty&&l.all fun p=>zki (listed p.2).toList ((listed x).setIfInBounds p.1 true).toList&&Nat.blt (left p.2) (left x)
theorem zh7 {α:Type} {ops:Array Oper} {listed:α→Array Bool} {nx:α→Nx α} {left:α→Nat} {x:α} (h:dagB ops listed nx left x=true):DagOk ops listed nx left x:=by
 unfold dagB at h;refine ⟨fun e=>?_,fun i y e=>?_,fun l e=>?_⟩
 ·rw [e] at h;simpa using h
 ·rw [e] at h
  simp only [Bool.and_eq_true] at h;exact ⟨h.1.1.1,h.1.1.2,Array.ext' (zkj h.1.2),by simpa [Nat.blt_eq] using h.2⟩
 ·rw [e] at h
  simp only [Bool.and_eq_true,List.all_eq_true] at h;refine ⟨by simpa using h.1.1,by simpa using h.1.2,fun p hp=>?_⟩;obtain ⟨h1,h2⟩:=h.2 p hp;exact ⟨Array.ext' (zkj h1),by simpa [Nat.blt_eq] using h2⟩
section
variable (P:Program) (W:World) (G:Gs) (N:Nd) {α:Type}
def zvh (ops:Array Oper) (l:List Oper) (T:α→Fr) (U:α→List Ow) (K:Fr→List Ow→Prop) (x:α):Nx α→Prop
 | .done=>K (T x) (U x)
 | .q i y=>(match l[i]? with
  |none=>False
  |some o=>(match zjc N.n o.dst with
   |false=>False
   |true=>(match zo5 ops (T x) o with
    |some true=>zmr P W G (T x) (U x) o fun v=>(T x).putK o.dst v fun f'=>Ent W G N f' (U x) (T y) (U y)
    |some false=>(T x).putK o.dst (.p (.c .any)) fun f'=>Ent W G N f' (U x) (T y) (U y)
    |none=>False)))
 | .alts m=>∀ p∈m,(match l[p.1]? with
  |none=>False
  |some o=>(match zo5 ops (T x) o with
   |some true=>opK P W G N o (T x) (U x) fun f' S'=>Ent W G N f' S' (T p.2) (U p.2)
   |_=>False))
end
section
variable {P:Program} {W:World} {G:Gs} {N:Nd} {ops:Array Oper} {l:List Oper} {α:Type}
theorem zh8 {listed:α→Array Bool} {nx:α→Nx α} {left:α→Nat} {T:α→Fr} {U:α→List Ow} (hl:∀ i:Nat,l[i]?=ops[i]?) (hns:Region.noSelect ops=true) {K:Fr→List Ow→Prop} {Q:Exit→Act→World→Prop} (hQ0:∀ c a w,¬Q (.panic c) a w) (hQ:∀ f T a w,K f T→Good W G N f T a w→Q .normal a w)
  (hB:∀ x,dagB ops listed nx left x=true) (hnode:∀ x,zvh P W G N ops l T U K x (nx x)):
  ∀ (n:Nat) (x:α) (a:Act) (w:World),left x≤n→Good W G N (T x) (U x) a w→wpAnyH P .any ops Q (Held W G) n (listed x) a w:=by
 intro n
 induction n with
 |zero=>
  intro x a w hn hg;have hb:=zh7 (hB x);have hk:=hnode x
  cases hx:nx x with
  |done=>rw [hx] at hk;exact wpAnyH_done (hb.done hx) (hQ _ _ a w hk hg) _
  |q i y=>have:=(hb.q i y hx).2.2.2;omega
  |alts m=>
   obtain ⟨_,h2,h3⟩:=hb.alts m hx;obtain ⟨p,hp⟩:=List.exists_mem_of_ne_nil m h2;have:=(h3 p hp).2;omega
 |succ n ih=>
  intro x a w hn hg;have hb:=zh7 (hB x);have hk:=hnode x
  cases hx:nx x with
  |done=>rw [hx] at hk;exact wpAnyH_done (hb.done hx) (hQ _ _ a w hk hg) _
  |q i y=>
   rw [hx] at hk;obtain ⟨h1,h2,h3,h4⟩:=hb.q i y hx;simp only [zvh] at hk
   split at hk
   ·exact hk.elim
   ·rename_i o ho
    rw [hl] at ho
    split at hk
    ·exact hk.elim
    ·rename_i hdst
     obtain ⟨r,hR,hf,hN,hd⟩:=hg
     split at hk
     ·rename_i hgd
      have hw:=zo9 hf hgd;obtain ⟨v,u,hK,hden,hrun⟩:=zms hk hR hf;have hK:=zy5.1 hK;refine wpAnyH_take (v:=u) ho hns h1 h2 (fun c a w h=>absurd h (hQ0 c _ w)) (.inl ⟨hw,hrun⟩) hR.held ?_;rw [← h3];exact ih y _ w zO (hK.out _ w ⟨r,hR,hf.put hden (by rw [hN];exact hdst),(zzh a _ _).trans hN,(zze a _ _).trans hd⟩)
     ·rename_i hgd
      have hw:=zo9 hf hgd;have hK:=zy5.1 hk;refine wpAnyH_take (v:=undef) ho hns h1 h2 (fun c a w h=>absurd h (hQ0 c _ w)) (.inr ⟨hw,rfl⟩) hR.held ?_;rw [← h3];exact ih y _ w zO (hK.out _ w ⟨r,hR,hf.putAny _ (by rw [hN];exact hdst),(zzh a _ _).trans hN,(zze a _ _).trans hd⟩)
     ·exact hk.elim
  |alts m=>
   rw [hx] at hk;obtain ⟨h1,h2,h3⟩:=hb.alts m hx;refine wpAnyH_all h1 (by simpa using h2) fun i hi=>?_;obtain ⟨p,hp,rfl⟩:=List.mem_map.1 hi;have hk:=hk p hp;obtain ⟨h4,h5⟩:=h3 p hp
   split at hk
   ·exact hk.elim
   ·rename_i o ho
    rw [hl] at ho;obtain ⟨r,hR,hf,hN,hd⟩:=hg
    split at hk
    ·rename_i hgd
     have hw:=zo9 hf hgd;unfold wpOp;simp only [ho,hw,if_true];refine .inl (z3t ((zwp hk).out r a w hR hf hN hd (fun a' w'=>Held W G w'∧wpAnyH P .any ops Q (Held W G) n ((listed x).setIfInBounds p.1 true) a' w') Q fun f' T' a' w' hke hg'=>?_) fun _ _ h=>h);have hg2:=hke.out a' w' hg';refine ⟨?_,?_⟩
     ·obtain ⟨r',hR',_⟩:=hg2
      exact hR'.held
     ·rw [← h4];exact ih p.2 a' w' zO hg2
    ·exact hk.elim
end
theorem z1n {w0:World} {G:Gs} {r:Env} {w:World} (n:Nat) {S:List Ow} (h:Rel w0 G S r w):Rel w0 G (S++List.replicate n .gone) r w:=by
 have hl:(S++List.replicate n Ow.gone).length=S.length+n:=by simp
 refine ⟨h.os,h.tape,h.output,h.size,h.old,fun i o ho=>?_,h.inj,h.new,fun i hi=>h.outB i zO,fun i hi=>h.outV i zO,h.first⟩
 rcases Nat.lt_or_ge i S.length with h1|h1
 ·rw [List.getElem?_append_left h1] at ho;exact h.own i o ho
 ·rw [List.getElem?_append_right h1,List.getElem?_replicate] at ho
  split at ho
  ·injection ho with ho;subst ho;trivial
  ·cases ho
theorem zj3 {w0:World} {G:Gs} {N:Nd} {f:Fr} {S:List Ow} (n:Nat):Ent w0 G N f S f (S++List.replicate n .gone):=⟨fun _a _w ⟨r,hR,hf,hN,hd⟩=>⟨r,z1n n hR,hf,hN,hd⟩⟩
theorem z1j {w0:World} {G:Gs} {S:List Ow} {r:Env} {w:World} (h:Rel w0 G S r w) (hc:zfm S=true):∃ gs:List Nat,gs.length=S.length∧(∀ i,r.blk i=gs[i]?)∧Rel w ⟨gs,[]⟩ S r w:=by
 have hblk:∀ i,i<S.length→∃ b,r.blk i=some b:=fun i hi=>by
  have ho:=h.own i _ (List.getElem?_eq_getElem hi)
  have hm:(match S[i] with| .cells _ _=>true|_=>false)=true:=by
   unfold zfm at hc;exact List.all_eq_true.1 hc _ (List.getElem_mem hi)
  cases hs:S[i] with
  |cells t l=>rw [hs] at ho;obtain ⟨b,us,e,_⟩:=ho;exact ⟨b,e⟩
  |row=>rw [hs] at hm;cases hm
  |ext=>rw [hs] at hm;cases hm
  |view=>rw [hs] at hm;cases hm
  |gone=>rw [hs] at hm;cases hm
 have hgs:∀ i,r.blk i=((List.range S.length).map fun i=>(r.blk i).getD 0)[i]?:=fun i=>by
  rcases Nat.lt_or_ge i S.length with h1|h1
  ·obtain ⟨b,hb⟩:=hblk i h1
   rw [List.getElem?_map,List.getElem?_range h1,hb];simp [hb]
  ·rw [h.outB i h1,List.getElem?_eq_none (by simpa using h1)]
 refine ⟨(List.range S.length).map fun i=>(r.blk i).getD 0,by simp,hgs,z1l h (fun i g hg=>by rw [hgs i];exact hg) fun i b hb=> .inl ?_⟩;rw [hgs i] at hb;exact List.mem_of_getElem? hb
theorem z2y {P:Program} {w0:World} {G:Gs} {N:Nd} {d:Code} {f:Fr} {S:List Ow} {Q:Exit→Act→World→Prop} (S2:List Ow) (ks:List Nat) (hS:RLe S (fun i=>ks.getD i 0) S2 ks) (hb:sbnd S2.length S2=true) (hi:injB S ks=true) (hG:idB G.fix.length ks 0=true) (hGl:Nat.ble G.fix.length S2.length=true) (hc:zfm S2=true)
  (h:∀ r w (gs:List Nat),Rel w0 G S r w→gs.length=S2.length→(∀ i,i<S2.length→r.blk (ks.getD i 0)=gs[i]?)→(∀ e f S,AtQ w0 G N e f S Q→AtQ w ⟨gs,[]⟩ N e f S Q)→∃ f2,(∀ a r2,(∀ i,r2.blk i=gs[i]?)→FDen r f a→FDen r2 f2 a)∧SatQ P w ⟨gs,[]⟩ N d f2 S2 Q):SatQ P w0 G N d f S Q:=
 ⟨fun a w ⟨r,hR,hf,hN,hd⟩=>by
  have h1:=z1r hR ks hS hb hi hG hGl;obtain ⟨gs,hl,hgs,hR2⟩:=z1j h1 hc
  have hback:∀ e f S,AtQ w0 G N e f S Q→AtQ w ⟨gs,[]⟩ N e f S Q:=fun e f' S' hq=>⟨fun a' w' ⟨r',hR',hf',hN',hd'⟩=>
   hq.out a' w' ⟨r',z1k h1 hR' (fun b hb=>by
    rcases hb with hb|hb
    ·obtain ⟨i,hi⟩:=List.getElem?_of_mem hb
     exact ⟨i,by rw [hgs i];exact hi⟩
    ·cases hb) (fun i g hg=>by rw [← hgs i];exact h1.first i g hg),hf',hN',hd'⟩⟩
  obtain ⟨f2,hf2,hsat⟩:=h r w gs hR hl (fun i hi=>by rw [← hgs i,zgv hi]) hback
  exact hsat.out a w ⟨_,hR2,hf2 a _ hgs hf,hN,hd⟩⟩
theorem unflat {w:World} {G:Gs} {b off:Nat} {xs:List Value} (h:zac w G.flat b off xs):zac w G b off xs:=⟨h.1,fun hm=>h.2.1 (znb.2 hm),h.2.2⟩
theorem zbf {w0 w:World} {G:Gs} {S S2:List Ow} {r:Env} {gs ks:List Nat} (hR:Rel w0 G S r w) (hl:gs.length=S2.length) (hgs:∀ i,i<S2.length→r.blk (ks.getD i 0)=gs[i]?) (hk:ks.length=S2.length) (j:Nat) {t:TypeId} {us:List Value} (hj:S[j]?=some (.cells t (us.map .v))) (hn:memB j ks=false):
  ∃ b,r.blk j=some b∧∀ (off:Nat) (xs:List Value),(∀ (k:Nat) (u:Value),xs[k]?=some u→us[off+k]?=some u)→zac w (Gs.flat ⟨gs,[]⟩) b off xs:=by
 obtain ⟨b,vs,e1,e2,e3⟩:=hR.own j _ hj;obtain rfl:=ziw e3;refine ⟨b,e1,fun off xs hx=>⟨(hR.new j b e1).1,fun hm=>?_,fun k u hu=>by simp [World.cell?,e2,hx k u hu]⟩⟩;rcases hm with hm|hm
 ·cases hm
 ·have hm:b∈gs:=by simpa [Gs.flat] using hm
  obtain ⟨i,hi⟩:=List.getElem?_of_mem hm
  have hil:i<S2.length:=by
   rw [← hl];rcases Nat.lt_or_ge i gs.length with h1|h1
   ·exact h1
   ·rw [List.getElem?_eq_none h1] at hi;cases hi
  have:=hgs i hil;rw [hi] at this;have hji:=hR.inj _ _ b this e1
  have hmem:j∈ks:=by
   rw [← hji,List.getD_eq_getElem?_getD,List.getElem?_eq_getElem zO];exact List.getElem_mem _
  rw [zt3 hmem] at hn
  cases hn
theorem z6h {r r2:Env} {f:Fr} {a:Act} (hf:FDen r f a) (d:Nat) {i off b:Nat} (h:f.get d= .p (.c (.ref i off))) (hb:r.blk i=some b):AV.den r2 (one (.pointer (some ⟨b,off,none⟩))) (a.tmps.getD d undef):=by
 have:=hf d;rw [h] at this;obtain ⟨b',hb',hu⟩:=zi4 this;rw [hb] at hb';injection hb' with hb';subst hb';rw [hu];exact zi3 _ _
theorem z6f {r r2:Env} {f:Fr} {a:Act} (hf:FDen r f a) (d:Nat) {i j off:Nat} (h:f.get d= .p (.c (.ref i off))) (hb:∀ b,r.blk i=some b→r2.blk j=some b):AV.den r2 (.p (.c (.ref j off))) (a.tmps.getD d undef):=by
 have:=hf d;rw [h] at this;obtain ⟨b',hb',hu⟩:=zi4 this;rw [hu];exact zi1 (hb b' hb')
theorem z6j {r r2:Env} {f:Fr} {a:Act} (hf:FDen r f a) (d:Nat) {x:Value} (h:(f.get d).val=some x):AV.den r2 (AV.of x) (a.tmps.getD d undef):=by
 rw [AV.val_den h (hf d)];exact AV.of_den r2 x
def zag (r:Env) (a:Act):Fr→Prop
 |[]=>True
 |(d,x)::f=>x.den r (a.tmps.getD d undef)∧zag r a f
theorem zn1 {r:Env} {a:Act}:∀ {f:Fr},zag r a f→FDen r f a
 |[],_=>fun k=>by simp [Fr.get,AV.den,Pc.den,CV.den]
 |(d,x)::f,h=>fun k=>by
  simp only [Fr.get]
  split
  ·rename_i hk;have:=Nat.eq_of_beq_eq_true hk;subst this;exact h.1
  ·exact zn1 h.2 k
theorem zvw {w w':World} {gs:List Nat} {U:List Ow} {n:Nat} (hob:zaj n U) (h:ObjsAt w gs U) (hB:Below w.heap.size w w'):ObjsAt w' gs U:=by
 refine ⟨h.len,h.nodup,fun g hg=>Nat.lt_of_lt_of_le (h.lt g hg) hB.size,fun i o ho=>?_⟩;have k:=h.own i o ho;have hb:=hob o (List.mem_of_getElem? ho)
 cases o with
 |cells t l=>
  obtain ⟨b,us,e1,e2,e3⟩:=k;exact ⟨b,us,e1,by rw [hB.block b (h.lt b (List.mem_of_getElem? (show gs[i]?=some b from e1)))];exact e2,e3⟩
 |row=>exact hb.elim
 |ext=>exact hb.elim
 |view=>exact hb.elim
 |gone=>exact hb.elim
section
variable {w0:World} {S:List Ow} {K:AV→List Ow→Prop} {fid:FuncId} {args:List AV} {P:Program}
theorem ze3 {us:List Value} {g n p:Nat} {gs:List Nat} {M:MemP} {X:Value} (hx:avals args=some us) (hok:fnOk P fid=true) (hU:ObjsAt w0 (g::gs) (memS 0 n p M))
  (h:∀ w,ObjsAt w (g::gs) (memS 0 n p M)→Calls P fid us.toArray w fun e w'=>e= .returned X∧ObjsAt w' (g::gs) (memS 0 n p M)∧GrownBys w w' (g::gs)) (hK:K (AV.of X) S):CallS P w0 Gs.nil fid args S K:=by
 refine ze2 hx hok (fun r w hR=>?_) hK;have hU':=zvw (zuc n p M) hU hR.toBelow
 exact (h w hU').mono fun e w' ⟨h1,h2,h3⟩=>⟨h1,zvu (zuc n p M) hU' h2 h3⟩
end
def MemP.code (M:MemP) (x:Int):Int:=(M.image[x.toNat]?).getD 0
theorem zug (M:MemP) (n p:Nat) (a:Int) (w:World) (g:Nat) (gs:List Nat) (hU:ObjsAt w (g::gs) (memS 0 n p M)) (hM:M.ok n p) (ha:word a) (hlt:a<(n:Int)):
  Calls Tryz.prog 210 #[.pointer (some ⟨g,0,none⟩),.int .u32 a] w fun e w'=>e= .returned (.int .u8 (M.code a))∧ObjsAt w' (g::gs) (memS 0 n p M)∧GrownBys w w' (g::gs):=by
 obtain ⟨g0,g1,g2,g3,g4,g5,hg⟩:=z5w hU;injection hg with hg0 hgs;subst hgs;subst hg0;have hw:0≤a∧a<4294967296:=ha
 obtain ⟨y,hy⟩:∃ y,M.image[a.toNat]?=some y:=⟨_,List.getElem?_eq_getElem (by rw [hM.li];omega)⟩
 have hget:(List.map CV.v M.iV)[a.toNat]?=some (.v (zem (M.code a))):=by
  unfold MemP.code;rw [hy];exact z8a hy
 refine zfe [.p (.c (.ref 0 0)),one (.int .u32 a)] [.pointer (some ⟨g,0,none⟩),.int .u32 a] Tryz.func210 Tryz.ntmps210 rfl zS hU ⟨_,_,rfl,zi1 rfl,zc6 [.int .u32 a]⟩ ?_
 conv=>whnf
 refine ze4 (pre:=[]) (suf:=[one (.int .u32 a)]) 0 n p M (.bool (decide (a<(n:Int)))) (fun i hi=>by rw [Nat.zero_add]) rfl rfl zK (fun w' g gs hk hU=>zuk M n p a w' g gs hU hM ha) ?_
 conv=>whnf
 refine ⟨fun hc=>absurd hc zV,fun _=>?_⟩
 conv=>whnf
 refine ⟨fun hc=>absurd hc (by decide),fun _=>?_⟩
 conv=>whnf
 refine ⟨⟨by omega,by omega⟩,?_⟩
 conv=>whnf
 rw [show (List.map CV.v M.iV)[0+a.toNat*tsz Tryz.prog 5]?=some (.v (zem (M.code a))) by show (List.map CV.v M.iV)[0+a.toNat*1]?=_;rw [Nat.zero_add,Nat.mul_one];exact hget]
 conv=>whnf
 exact zmn rfl rfl (fun i o h=>h) (zuc n p M) fun w' h1 h2=>⟨rfl,h1,h2⟩
structure SetP where
 r0:Int
 r1:Int
 r2:Int
 fill:Int
 vars:List Int
structure SetP.ok (x:SetP):Prop where
 fill:word x.fill
 len:x.vars.length=19
 word:∀ v∈x.vars,word v
def SetP.all (x:SetP):List Int:=x.vars++List.replicate 9 0
def SetP.right (x:SetP):Nat→Int
 |0=>x.r0
 |1=>x.r1
 |_=>x.r2
structure MemAt (w:World) (g n p:Nat) (M:MemP) (g1 g5:Nat):Prop where
 data:zac w Gs.nil g 0 [.slice (some ⟨g1,0,none⟩) n (n+M.td.length)]
 rights:zac w Gs.nil g 4 [.slice (some ⟨g5,0,none⟩) p (p+M.tr.length)]
 dat:∀ (i:Nat) (x:Int),M.data[i]?=some x→zac w Gs.nil g1 (0+(i:Int).toNat*1) [zem x]
 rig:∀ (i:Nat) (x:Int),M.rights[i]?=some x→zac w Gs.nil g5 (0+(i:Int).toNat*1) [intV x]
abbrev qiL (i:QI):List Value:=[intV i.op,intV i.d,intV i.a,intV i.b,.int .u32 i.imm]
abbrev qiV (i:QI):Value:= .agg #[intV i.op,intV i.d,intV i.a,intV i.b,.int .u32 i.imm]
abbrev formV (f:QForm):Value:= .agg #[.bool f.is,.bool f.d,.bool f.a,.bool f.b,.bool f.signed,intV f.bits,.int .u32 f.most]
theorem zw1 {op:Int} (h:0≤op∧op<64):op=0∨op=1∨op=2∨op=3∨op=4∨op=5∨op=6∨op=7∨op=8∨op=9∨op=10∨op=11∨op=12∨op=13∨op=14∨op=15∨op=16∨op=17∨op=18∨op=19∨op=20∨op=21∨op=22∨op=23∨op=24∨op=25∨op=26∨op=27∨op=28∨op=29∨op=30∨op=31∨op=32∨op=33∨op=34∨op=35∨op=36∨op=37∨op=38∨op=39∨op=40∨op=41∨op=42∨op=43∨op=44∨op=45∨op=46∨op=47∨op=48∨op=49∨op=50∨op=51∨op=52∨op=53∨op=54∨op=55∨op=56∨op=57∨op=58∨op=59∨op=60∨op=61∨op=62∨op=63:=by omega
theorem zv4 (op:Int) (w:World) (h:0≤op∧op<64):Calls Tryz.prog 85 #[intV op] w fun e w'=>e= .returned (formV (zzw op))∧Below w.heap.size w w':=by
 rcases zw1 h with rfl|rfl|rfl|rfl|rfl|rfl|rfl|rfl|rfl|rfl|rfl|rfl|rfl|rfl|rfl|rfl|rfl|rfl|rfl|rfl|rfl|rfl|rfl|rfl|rfl|rfl|rfl|rfl|rfl|rfl|rfl|rfl|rfl|rfl|rfl|rfl|rfl|rfl|rfl|rfl|rfl|rfl|rfl|rfl|rfl|rfl|rfl|rfl|rfl|rfl|rfl|rfl|rfl|rfl|rfl|rfl|rfl|rfl|rfl|rfl|rfl|rfl|rfl|rfl
 all_goals
  refine zfk [intV _] Tryz.func85 Tryz.ntmps85 rfl zS ?_
  conv=>whnf
  repeat (first|(refine ⟨fun _=>?_,(fun h=>absurd h (by decide))⟩;(conv=>whnf))|(refine ⟨(fun h=>absurd h (by decide)),fun _=>?_⟩;(conv=>whnf)))
  exact zmp rfl fun w' hB=>⟨rfl,hB⟩
theorem z1f (n:Int) (u:Bool) (w:World):Calls Tryz.prog 153 #[intV n,.bool u] w fun e w'=>e= .returned (.bool (regB n u))∧Below w.heap.size w w':=by
 refine zfk [intV n,.bool u] Tryz.func153 Tryz.ntmps153 rfl zS ?_
 conv=>whnf
 refine ⟨fun h1=>?_,fun h1=>?_⟩
 ·conv=>whnf
  refine kA ?_
  cases u with
  |false=>
   refine kB ?_
   refine zmp rfl fun w' hB=>⟨?_,hB⟩
   have hn:n≠0:=(by simpa using h1);simp [regB,hn]
  |true=>
   refine kB ?_;generalize hz:decide (n>0)=z;have hn:n≠0:=(by simpa using h1)
   cases z with
   |false=>
    refine kB ?_
    refine zmp rfl fun w' hB=>⟨?_,hB⟩
    have:¬0<n:=(by simpa using hz);simp [regB,hn,this]
   |true=>
    refine kB ?_
    refine zmp rfl fun w' hB=>⟨?_,hB⟩
    have:0<n:=(by simpa using hz);simp [regB,hn,this]
 ·conv=>whnf
  refine kA ?_
  refine zmp rfl fun w' hB=>⟨?_,hB⟩
  have hn:n=0:=by simpa using h1
  simp [regB,hn]
end Go.Proofs.YtocafomnnkmjfaaGreat
