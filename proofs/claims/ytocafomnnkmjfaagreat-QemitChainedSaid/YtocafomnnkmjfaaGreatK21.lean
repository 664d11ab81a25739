import Derived.Test.YtocafomnnkmjfaaGreatK20
set_option maxRecDepth 100000
set_option maxHeartbeats 8000000
namespace Go.Proofs.YtocafomnnkmjfaaGreat
open Go.RowKit
theorem zyv {M:MemP} {n p:Nat} (hM:M.ok n p) (hn:n<4294967296) (a:Nat) (l:List Int) (hb:∀ x∈l,0≤x∧x<256) (ha:a+l.length≤n):∀ j,j≤l.length→∀ x:Nat,(M.pokeAt (a:Int) l j).data[x]?=if a≤x∧x<a+j then l[x-a]? else M.data[x]?
 |0,_,x=>by rw [zy0,if_neg zO]
 |j+1,h,x=>by
  have e:l[j]?=some l[j]:=List.getElem?_eq_getElem h;have ih:=zyv hM hn a l hb ha j zO x;have hk:=zyy hM (a:Int) hb j zO;rw [zyz M _ l e,show ((a:Int)+(j:Int))%4294967296=((a+j:Nat):Int) by omega,if_pos (by rw [hk.ld];omega)];show (List.set (M.pokeAt (a:Int) l j).data ((a+j:Nat):Int).toNat l[j])[x]?=_;rw [Int.toNat_natCast,List.getElem?_set];by_cases hx:a+j=x
  ·rw [if_pos hx,if_pos (by rw [hk.ld];omega),if_pos zO,show x-a=j by omega,e]
  ·rw [if_neg hx,ih]
   by_cases hc:a≤x∧x<a+j
   ·rw [if_pos hc,if_pos zO]
   ·rw [if_neg hc,if_neg zO]
theorem z7z {M:MemP} {n p:Nat} (hM:M.ok n p) (b:Nat):∀ j,b+j≤n→∀ x:Nat,(M.syncTo b j).image[x]?=if b≤x∧x<b+j then M.data[x]? else M.image[x]?
 |0,_,x=>by rw [if_neg zO];rfl
 |j+1,h,x=>by
  have ih:=z7z hM b j zO x;have hk:=z71 hM b j;show (List.set (M.syncTo b j).image (b+j) (M.get ((b+j:Nat):Int)))[x]?=_;rw [List.getElem?_set];by_cases hx:b+j=x
  ·rw [if_pos hx,if_pos (by rw [hk.li];omega),if_pos zO]
   unfold MemP.get;rw [Int.toNat_natCast,hx,List.getElem?_eq_getElem (by rw [hM.ld];omega)]
   rfl
  ·rw [if_neg hx,ih]
   by_cases hc:b≤x∧x<b+j
   ·rw [if_pos hc,if_pos zO]
   ·rw [if_neg hc,if_neg zO]
def limI (i:Nat):QI:=⟨1,1+(i:Int)%15,1,2,0⟩
def limW (i:Nat):Int:=yas (limI i)
structure LimS (M:MemP) (j:Nat):Prop where
 ok:M.ok 768 3
 code:∀ i,i<j→∀ b,b<4→M.data[4*i+b]?=some (zei (limW i) b)
 rest:∀ x,4*j≤x→x<768→M.data[x]?=some 0
structure SynS (D:List Int) (M:MemP) (q:Nat):Prop where
 ok:M.ok 768 3
 data:M.data=D
 img:∀ x,x<256*q→M.image[x]?=D[x]?
 rights:∀ y,y<q→M.rights[y]?=some 5
theorem zep {y:Int} (h:word y):0+zei y 0*256^0+zei y 1*256^1+zei y 2*256^2+zei y 3*256^3=y:=by
 obtain ⟨h0,h1⟩:=h;have e0:zei y 0=y/1%256:=rfl;have e1:zei y 1=y/256%256:=rfl;have e2:zei y 2=y/65536%256:=rfl;have e3:zei y 3=y/16777216%256:=rfl;have p0:(256:Int)^0=1:=rfl;have p1:(256:Int)^1=256:=rfl;have p2:(256:Int)^2=65536:=rfl;have p3:(256:Int)^3=16777216:=rfl;rw [e0,e1,e2,e3,p0,p1,p2,p3];omega
theorem z0w {F:Int→Option Int} {a y:Int} (hy:word y) (h:∀ b:Nat,b<4→F (a+b)=some (zei y b)):z0v F a 4=some y:=by
 have h0:=h 0 zO;have h1:=h 1 zO;have h2:=h 2 zO;have h3:=h 3 zO;have e0:z0v F a 0=some 0:=rfl;have e1:z0v F a 1=some (0+zei y 0*256^0):=(by unfold z0v;rw [e0,h0]);have e2:z0v F a 2=some (0+zei y 0*256^0+zei y 1*256^1):=(by unfold z0v;rw [e1,h1]);have e3:z0v F a 3=some (0+zei y 0*256^0+zei y 1*256^1+zei y 2*256^2):=(by unfold z0v;rw [e2,h2]);unfold z0v;rw [e3,h3];show some _=some y;rw [zep hy]
def MemP.fk (M:MemP) (pc:Int):Int:=if pc%4=0 then (match M.bad pc 4 0 4 with|some _=>5|none=>if (z0z M.fet pc).isSome=true then 0 else 7) else 7
def MemP.fi (M:MemP) (pc:Int):Int:=if pc%4=0 then (match M.bad pc 4 0 4 with|some y=>y|none=>0) else 0
abbrev zlx (i:QI) (k inf:Int):Value:= .agg #[intV i.op,intV i.d,intV i.a,intV i.b,u32V i.imm,intV k,u32V inf]
theorem zdb {M:MemP} {a r y:Int}:∀ {i k:Nat},M.bad a r i k=some y→∃ j,i≤j∧j<i+k∧M.right ((a+j)%4294967296) r=false
 |i,0,h=>by cases h
 |i,k+1,h=>by
  unfold MemP.bad at h
  split at h
  ·obtain ⟨j,h1,h2,h3⟩:=zdb h
   exact ⟨j,by omega,by omega,h3⟩
  ·rename_i hr
   exact ⟨i,Nat.le_refl _,by omega,by simpa using hr⟩
theorem zlz {M:MemP} {a:Int} (h:M.right a 4=false):M.fet a=none:=by unfold MemP.fet;rw [h];rfl
theorem z03 {M:MemP} {pc y:Int} (hpc:word pc) (h4:pc%4=0) (h:M.bad pc 4 0 4=some y):z0z M.fet pc=none:=by
 obtain ⟨j,_,h2,h3⟩:=zdb h;unfold word at hpc;rw [show (pc+(j:Int))%4294967296=pc+j by omega] at h3;unfold z0z;rw [if_pos h4,z0y (zlz h3) zO]
 rfl
theorem zm6 {M:MemP} {pc:Int} (hpc:word pc):M.fk pc=0↔(z0z M.fet pc).isSome=true:=by
 unfold MemP.fk;by_cases h4:pc%4=0
 ·rw [if_pos h4]
  cases hb:M.bad pc 4 0 4 with
  |some y=>rw [z03 hpc h4 hb];simp
  |none=>cases (z0z M.fet pc).isSome<;>simp
 ·rw [if_neg h4]
  unfold z0z;rw [if_neg h4];simp
theorem zl1 (M:MemP) (n p:Nat) (pc:Int) (w:World) (g:Nat) (gs:List Nat) (hU:ObjsAt w (g::gs) (memS 0 n p M)) (hM:M.ok n p) (hpc:word pc):
  Calls Tryz.prog 147 #[u32V pc,.pointer (some ⟨g,0,none⟩)] w fun e w'=>e= .returned (zlx ((z0z M.fet pc).getD QI.zero) (M.fk pc) (M.fi pc))∧ObjsAt w' (g::gs) (memS 0 n p M)∧GrownBys w w' (g::gs):=by
 obtain ⟨g0,g1,g2,g3,g4,g5,hg⟩:=z5w hU;injection hg with hg0 hgs;subst hgs;subst hg0;have hpc':=hpc;obtain ⟨p0,p1⟩:=hpc';refine zff [one (u32V pc),.p (.c (.ref 0 0))] [u32V pc,.pointer (some ⟨g,0,none⟩)] Tryz.func147 Tryz.ntmps147 rfl zS hU ⟨_,_,rfl,zi3 _ _,_,_,rfl,zi1 rfl,rfl⟩ ?_;refine z3i ?_;(conv=>whnf);refine z3i ?_;(conv=>whnf);refine ⟨by decide,pc%4,Int.tmod_eq_emod_of_nonneg p0,?_⟩;(conv=>whnf);refine ⟨fun hc=>?_,fun hc=>?_⟩
 ·have h4:¬pc%4=0:=by simpa using hc
  conv=>whnf
  refine zcg ?_
  conv=>whnf
  refine zmn rfl rfl zt8 (zuc n p M) fun w' h1 h2=>⟨?_,h1,h2⟩
  unfold MemP.fk MemP.fi z0z;rw [if_neg h4,if_neg h4,if_neg h4];rfl
 have h4:pc%4=0:=by simpa using hc
 have hr:z0z M.fet pc=(z0v M.fet pc 4).bind decQ:=by unfold z0z;rw [if_pos h4]
 clear hc
 conv=>whnf
 refine z3i ?_
 conv=>whnf
 refine z3c (α:={x:Int//z0v M.fet pc 4=some x∧M.bad pc 4 0 4=none}) (fun x=>[(0,one (u32V pc)),(4,.p (.c (.ref 6 0))),(5,one (u32V x.1))]) (fun _=>memL 0 n p M [.cells 232 [.v (intV 0),.v (intV 0),.v (intV 0),.v (intV 0),.v (u32V 0),.v (intV 0),.v (u32V 0)]]) ?_ fun x=>?_
 ·refine z3i ?_
  conv=>whnf
  refine z21 ?_
  refine z29 (α:={x:Nat×Int//x.1≤4∧z0v M.fet pc x.1=some x.2∧M.bad pc 4 0 4=M.bad pc 4 x.1 (4-x.1)}) (fun x=>[(0,one (u32V pc)),(1,.p (.c (.ref 0 0))),(4,.p (.c (.ref 6 0))),(5,one (u32V x.1.2)),(6,one (intV (x.1.1:Int)))]) (fun _=>memL 0 n p M [.cells 232 [.v (intV 0),.v (intV 0),.v (intV 0),.v (intV 0),.v (u32V 0),.v (intV 0),.v (u32V 0)]]) (fun x=>4-x.1.1)
   ⟨(0,0),by omega,rfl,rfl⟩ (zkb rfl Tn Tn) fun x=>?_
  obtain ⟨⟨j,k⟩,hj,hk,hb⟩:=x;dsimp only at hj hk hb⊢;have hkb:=z0x (fun a b h=>zly hM a b h) hk;refine z3i ?_;(conv=>whnf);refine ⟨fun hc=>?_,fun hc=>?_⟩
  ·have hlt:j<4:=by simp at hc;omega
   have hbs:=zdc M pc 4 (i:=j) (m:=4) hlt;rw [show (pc+(j:Int))%4294967296=pc+j by omega] at hbs;have hwx:word (pc+j):=(by unfold word;omega);have hno:=z0y (F:=M.fet) (a:=pc) (i:=j) (j:=4)
   have hnx:z0v M.fet pc (j+1)=match z0v M.fet pc j,M.fet (pc+j) with
    |some k,some b=>some (k+b*256^j)
    |_,_=>none:=rfl
   rw [hk] at hnx;have hfb:=zly hM (pc+j);(conv=>whnf);refine z25 (z21 ?_);refine z3i ?_;(conv=>whnf);refine ⟨(j:Int),by rw [wr32];omega,?_⟩;(conv=>whnf);refine ⟨pc+j,by rw [wr32];omega,?_⟩;(conv=>whnf);refine ze4 (pre:=[]) (suf:=[one (u32V (pc+j))]) 0 n p M (M.fetchV (pc+j)) (fun i hi=>zt7 i hi) rfl rfl zK (fun w' g gs hk hU=>zuj M n p (pc+j) w' g gs hU hM hwx) ?_
   cases hrt:M.right (pc+j) 4 with
   |false=>
    have hfv:M.fetchV (pc+j)=valV 0 (pc+j) false:=(by unfold MemP.fetchV;rw [hrt];rfl);have hbad:M.bad pc 4 0 4=some (pc+j):=(by rw [hb,hbs,hrt];rfl);rw [hfv];(conv=>whnf);refine z3i ?_;(conv=>whnf);refine ⟨fun _=>?_,fun hc=>absurd hc (by decide)⟩;(conv=>whnf);refine ⟨(j:Int),by rw [wr32];omega,?_⟩;(conv=>whnf);refine ⟨pc+j,by rw [wr32];omega,?_⟩;(conv=>whnf);refine zco (zcg ?_) fun a w hq=>hq;(conv=>whnf)
    refine zmn rfl rfl (fun i o h=>z7u i o h) (zuc n p M) fun w' h1 h2=>⟨?_,h1,h2⟩
    rw [z03 hpc h4 hbad];unfold MemP.fk MemP.fi;rw [if_pos h4,if_pos h4,hbad];rfl
   |true=>
    have hfv:M.fetchV (pc+j)=valV (M.code (pc+j)) 0 true:=(by unfold MemP.fetchV;rw [hrt];rfl);have hfe:M.fet (pc+j)=some (M.code (pc+j)):=(by unfold MemP.fet;rw [hrt];rfl);rw [hrt] at hbs;rw [hfv];have hbb:=hfb _ hfe;rw [hfe] at hnx;generalize M.code (pc+j)=b at hbb hnx hfe hfv⊢;(conv=>whnf);refine z3i ?_;(conv=>whnf);refine ⟨fun hc=>absurd hc (by decide),fun _=>?_⟩;(conv=>whnf);have hj4:j=0∨j=1∨j=2∨j=3:=(by omega);refine z3m ?_;(conv=>whnf);refine ⟨8*(j:Int),wr64 zO,?_⟩;(conv=>whnf);refine ⟨8*(j:Int),by show IntKind.u64.wrap _=_;rcases hj4 with rfl|rfl|rfl|rfl<;>rfl,?_⟩;(conv=>whnf);refine ⟨by omega,b*256^j,?_,?_⟩
    ·rw [wr32]
     rcases hj4 with rfl|rfl|rfl|rfl
     ·show b*2^0%4294967296=b*256^0;omega
     ·show b*2^8%4294967296=b*256^1;omega
     ·show b*2^16%4294967296=b*256^2;omega
     ·show b*2^24%4294967296=b*256^3;omega
    (conv=>whnf);refine ⟨k+b*256^j,?_,?_⟩
    ·rw [wr32]
     have:=z0x (fun a b h=>zly hM a b h) hnx;have h2:(256:Int)^(j+1)≤4294967296:=(by rcases hj4 with rfl|rfl|rfl|rfl<;>decide);omega
    (conv=>whnf);refine zb4 (zcd ?_);refine z3m ?_;(conv=>whnf);refine ⟨(j:Int)+1,wr64 zO,?_⟩;(conv=>whnf);exact zcb ⟨(j+1,k+b*256^j),by show j+1≤4;omega,hnx,by rw [hb,hbs,if_pos rfl]⟩ (zj2 Tn Tn rfl (zo3 _ _ _ _ _ _ _ _ _ _ rfl)) (by show 4-(j+1)<4-j;omega)
  ·have he:j=4:=by simp at hc;omega
   subst he;(conv=>whnf);exact zce (zb6 (zb8 ⟨k,hk,by rw [hb];rfl⟩ (zkb rfl Tn Tn)))
 obtain ⟨x,hx,hb⟩:=x
 dsimp only
 have hxw:word x:=by have:=z0x (fun a b h=>zly hM a b h) hx;unfold word;omega
 refine z3i ?_
 conv=>whnf
 refine ze2 rfl zK (fun r w' hR=>zig x w' hxw) ?_
 have hr2:z0z M.fet pc=decQ x:=by rw [hr,hx];rfl
 have hfk:M.fk pc=if (decQ x).isSome=true then 0 else 7:=by unfold MemP.fk;rw [if_pos h4,hb,hr2]
 have hfi:M.fi pc=0:=by unfold MemP.fi;rw [if_pos h4,hb]
 rw [hr2,hfk,hfi]
 cases decQ x with
 |none=>
  (conv=>whnf);refine z3m ?_;refine kB ?_;refine zcg ?_;(conv=>whnf)
  exact zmn rfl rfl (fun i o h=>z7u i o h) (zuc n p M) fun w' h1 h2=>⟨rfl,h1,h2⟩
 |some i=>
  (conv=>whnf);refine z3m ?_;refine kB ?_;refine zcg ?_;(conv=>whnf)
  exact zmn rfl rfl (fun i o h=>z7u i o h) (zuc n p M) fun w' h1 h2=>⟨rfl,h1,h2⟩
def MemP.simp (M:MemP) (pc:Int):Bool:=match z0z M.fet pc with|none=>false|some i=>z5g i.op
theorem z02 {M:MemP} {n p:Nat} (hM:M.ok n p) {pc:Int} {i:QI} (h:z0z M.fet pc=some i):i.ok∧(zzw i.op).is=true:=by
 have hF:=fun a b (h:M.fet a=some b)=>zly hM a b h;refine ⟨z01 hF h,?_⟩;unfold z0z at h
 split at h
 ·cases hr:z0v M.fet pc 4 with
  |none=>rw [hr] at h;cases h
  |some x=>
   rw [hr] at h;exact (z9i (zie h).1).1
 ·cases h
abbrev stC (s:St) (T:List Value):List CV:=(stL s T).map CV.v
theorem z6v {s:St} {R R':Int→Int} (h:∀ j,0≤j→j<16→R j=R' j):stC {s with R:=R} []=stC {s with R:=R'} []:=congrArg (List.map CV.v) (z6y h [])
theorem z6x {s:St} {R:Int→Int} {X:List CV} {j:Int} (x:Int) (hX:X=stC {s with R:=R} []) (h0:0≤j) (h1:j<16):z3z X (0+1+j.toNat*1) [.v (u32V x)]=stC {s with R:=regU R j x} []:=by
 rw [hX];exact z61 {s with R:=R} [] x h0 h1
structure Tl where
 a:List Value
 b:List Value
 c:List Value
 d:List Value
 e:List Value
def MemP.tl (M:MemP) (t:Tl):MemP:={M with td:=t.a,ti:=t.b,tod:=t.c,toi:=t.d,tr:=t.e}
theorem z8u {M:MemP} {n p:Nat} (hM:M.ok n p) (t:Tl):(M.tl t).ok n p:=⟨hM.ld,hM.li,hM.lr,hM.lod,hM.loi,hM.np,hM.pmax,hM.db,hM.ib,hM.rb⟩
theorem zdd (M:MemP) (t:Tl) (a r:Int):∀ i k:Nat,(M.tl t).bad a r i k=M.bad a r i k
 |_,0=>rfl
 |i,k+1=>by
  unfold MemP.bad;rw [zdd M t a r (i+1) k];rfl
theorem ztn (M:MemP) (t:Tl) (a:Int):∀ i k:Nat,(M.tl t).load a i k=M.load a i k
 |_,0=>rfl
 |i,k+1=>by
  unfold MemP.load;rw [ztn M t a (i+1) k];rfl
theorem z7s (t:Tl) (a:Int):∀ (i k:Nat) (x:Int) (M:MemP),MemP.store a i k x (M.tl t)=(MemP.store a i k x M).tl t
 |_,0,_,_=>rfl
 |i,k+1,x,M=>z7s t a (i+1) k (x/256) (M.put ((a+i)%4294967296) (x%256))
theorem z7n (M:MemP) (t:Tl) (a:Int) (m:Nat) (x:Int):(M.tl t).storeM a m x=(M.storeM a m x).tl t:=by
 unfold MemP.storeM;rw [zdd]
 cases M.bad a 2 0 m with
 |none=>exact z7s t a 0 m x M
 |some y=>rfl
theorem z7p (a:Int):∀ (i k:Nat) (x:Int) (M:MemP),(MemP.store a i k x M).image=M.image∧(MemP.store a i k x M).rights=M.rights∧(MemP.store a i k x M).data.length=M.data.length
 |_,0,_,_=>⟨rfl,rfl,rfl⟩
 |i,k+1,x,M=>by
  obtain ⟨h1,h2,h3⟩:=z7p a (i+1) k (x/256) (M.put ((a+i)%4294967296) (x%256));exact ⟨h1,h2,h3.trans List.length_set⟩
theorem zl0 {M M':MemP} (h1:M'.image=M.image) (h2:M'.rights=M.rights) (h3:M'.data.length=M.data.length):M'.fet=M.fet:=by
 funext a
 unfold MemP.fet MemP.right MemP.code;rw [h1,h2,h3]
theorem z7l (M:MemP) (a:Int) (m:Nat) (x:Int):(M.storeM a m x).fet=M.fet:=by
 unfold MemP.storeM
 split
 ·obtain ⟨h1,h2,h3⟩:=z7p a 0 m x M
  exact zl0 h1 h2 h3
 ·rfl
theorem z9a {R:Int→Int} (hR:∀ j,0≤j→j<16→word (R j)) (d:Int) {x:Int} (hx:word x) (j:Int) (h0:0≤j) (h1:j<16):word (updR R d x j):=by
 unfold updR
 split
 ·exact hR j h0 h1
 ·show word (if j=d then x else R j)
  split
  ·exact hx
  ·exact hR j h0 h1
theorem z9b {R:Int→Int} (h0:R 0=0) (d x:Int):updR R d x 0=0:=by
 unfold updR
 split
 ·exact h0
 ·show (if (0:Int)=d then x else R 0)=0
  rw [if_neg zO];exact h0
theorem z66 {i:QI} (hi:i.ok) {a:Int} {R:Int→Int} {M:MemP} {n p:Nat} (hR:∀ j,0≤j→j<16→word (R j)) (h0:R 0=0) (hM:M.ok n p) {R':Int→Int} {nx:Int} {M':MemP} (h:z65 i a R M=some (R',nx,M')):word nx∧(∀ j,0≤j→j<16→word (R' j))∧R' 0=0∧M'.ok n p∧M'.fet=M.fet∧i.op<48:=by
 unfold z65 at h;by_cases c0:i.op=10∧R i.b=0
 ·rw [if_pos c0] at h
  cases h
 rw [if_neg c0] at h;by_cases c1:zzu i.op≠0
 ·rw [if_pos c1] at h
  injection h with h;injection h with h1 h2;injection h2 with h2 h3;subst h1;subst h2;subst h3;exact ⟨zh0 _,fun j h0 h1=>z9a hR _ (yar (hR _ hi.a.1 hi.a.2) (by split;exact hi.imm;exact hR _ hi.b.1 hi.b.2)) j h0 h1,z9b h0 _ _,hM,rfl,by have:=zzv.1 c1;omega⟩
 rw [if_neg c1] at h;by_cases c2:i.op=41
 ·rw [if_pos c2] at h
  injection h with h;injection h with h1 h2;injection h2 with h2 h3;subst h1;subst h2;subst h3;exact ⟨zh0 _,fun j h0 h1=>z9a hR _ (zh0 _) j h0 h1,z9b h0 _ _,hM,rfl,by omega⟩
 rw [if_neg c2] at h;by_cases c3:i.op=23
 ·rw [if_pos c3] at h
  cases hb:M.bad ((R i.a+i.imm)%4294967296) 1 0 4 with
  |some y=>rw [hb] at h;cases h
  |none=>rw [hb] at h;injection h with h;injection h with h1 h2;injection h2 with h2 h3;subst h1;subst h2;subst h3;exact ⟨zh0 _,fun j h0 h1=>z9a hR _ (zto _ _ _ _) j h0 h1,z9b h0 _ _,hM,rfl,by omega⟩
 rw [if_neg c3] at h;by_cases c4:i.op=24
 ·rw [if_pos c4] at h
  cases hb:M.bad ((R i.a+i.imm)%4294967296) 1 0 1 with
  |some y=>rw [hb] at h;cases h
  |none=>rw [hb] at h;injection h with h;injection h with h1 h2;injection h2 with h2 h3;subst h1;subst h2;subst h3;exact ⟨zh0 _,fun j h0 h1=>z9a hR _ (zto _ _ _ _) j h0 h1,z9b h0 _ _,hM,rfl,by omega⟩
 rw [if_neg c4] at h;by_cases c5:i.op=25
 ·rw [if_pos c5] at h
  cases hb:M.bad ((R i.a+i.imm)%4294967296) 2 0 4 with
  |some y=>rw [hb] at h;cases h
  |none=>rw [hb] at h;injection h with h;injection h with h1 h2;injection h2 with h2 h3;subst h1;subst h2;subst h3;exact ⟨zh0 _,hR,h0,z7m hM _ _ (hR _ hi.d.1 hi.d.2).1,z7l _ _ _ _,by omega⟩
 rw [if_neg c5] at h;by_cases c6:i.op=26
 ·rw [if_pos c6] at h
  cases hb:M.bad ((R i.a+i.imm)%4294967296) 2 0 1 with
  |some y=>rw [hb] at h;cases h
  |none=>rw [hb] at h;injection h with h;injection h with h1 h2;injection h2 with h2 h3;subst h1;subst h2;subst h3;exact ⟨zh0 _,hR,h0,z7m hM _ _ (hR _ hi.d.1 hi.d.2).1,z7l _ _ _ _,by omega⟩
 rw [if_neg c6] at h;by_cases c7:i.op=27
 ·rw [if_pos c7] at h
  injection h with h;injection h with h1 h2;injection h2 with h2 h3;subst h1;subst h2;subst h3;exact ⟨by unfold word;omega,fun j h0 h1=>z9a hR _ (zh0 _) j h0 h1,z9b h0 _ _,hM,rfl,by omega⟩
 rw [if_neg c7] at h;by_cases c8:i.op=40
 ·rw [if_pos c8] at h
  injection h with h;injection h with h1 h2;injection h2 with h2 h3;subst h1;subst h2;subst h3;exact ⟨zh0 _,fun j h0 h1=>z9a hR _ (zh0 _) j h0 h1,z9b h0 _ _,hM,rfl,by omega⟩
 rw [if_neg c8] at h;by_cases c9:32≤i.op∧i.op≤37
 ·rw [if_pos c9] at h
  injection h with h;injection h with h1 h2;injection h2 with h2 h3;subst h1;subst h2;subst h3;exact ⟨by split<;>exact zh0 _,hR,h0,hM,rfl,by omega⟩
 rw [if_neg c9] at h
 cases h
structure RunOk (M0:MemP) (n p:Nat) (R:Int→Int) (a:Int) (M:MemP):Prop where
 pc:word a
 reg:∀ j,0≤j→j<16→word (R j)
 zero:R 0=0
 mem:M.ok n p
 fet:M.fet=M0.fet
theorem zrt {F:Int→Option QI} (hF:∀ a i,F a=some i→i.ok) {M0:MemP} {n p:Nat}:∀ (m:Nat) {R:Int→Int} {a:Int} {M:MemP},RunOk M0 n p R a M→∀ {y:(Int→Int)×Int×MemP},zrq F m R a M=some y→RunOk M0 n p y.1 y.2.1 y.2.2
 |0,R,a,M,h,y,hy=>by
  injection hy with hy;subst hy;exact h
 |m+1,R,a,M,h,y,hy=>by
  rw [zrr] at hy
  cases hs:z65 (qAt F a) a R M with
  |none=>rw [hs] at hy;cases hy
  |some z=>
   obtain ⟨R',nx,M'⟩:=z;rw [hs] at hy;obtain ⟨h1,h2,h3,h4,h5,_⟩:=z66 (zzt hF a) h.reg h.zero h.mem hs;exact zrt hF m ⟨h1,h2,h3,h4,h5.trans h.fet⟩ hy
theorem zrv {F:Int→Option QI}:∀ (m:Nat) (R:Int→Int) (a:Int) (M:MemP),zrq F (m+1) R a M=(zrq F m R a M).bind fun y=>z65 (qAt F y.2.1) y.2.1 y.1 y.2.2
 |0,R,a,M=>by
  rw [zrr];show _=z65 (qAt F a) a R M
  cases z65 (qAt F a) a R M with
  |none=>rfl
  |some z=>rfl
 |m+1,R,a,M=>by
  rw [zrr]
  conv=>rhs;rw [zrr]
  cases z65 (qAt F a) a R M with
  |none=>rfl
  |some z=>exact zrv m z.1 z.2.1 z.2.2
theorem zru {F:Int→Option QI} {R:Int→Int} {a:Int} {M:MemP}:∀ (d j:Nat),j≤d→∀ {y:(Int→Int)×Int×MemP},zrq F d R a M=some y→∃ z,zrq F j R a M=some z
 |0,j,hj,y,h=>by
  obtain rfl:j=0:=by omega
  exact ⟨y,h⟩
 |d+1,j,hj,y,h=>by
  by_cases he:j=d+1
  ·subst he;exact ⟨y,h⟩
  ·rw [zrv] at h
   cases hd:zrq F d R a M with
   |none=>rw [hd] at h;cases h
   |some z=>exact zru d j zO hd
abbrev fetT:TypeId:=232
abbrev outT:TypeId:=169
theorem z69 (g g1 g2 g3 g4 g5 n p:Nat) (M:MemP) (L Z F I X:List Value):zoz ⟨[g,g1,g2,g3,g4,g5],[]⟩ (memL 0 n p M [.cells stT (L.map .v),.cells outT (Z.map .v),.cells fetT (F.map .v),.cells qiT (I.map .v),.cells stT (X.map .v)])=true:=
 zo3 _ _ _ _ _ _ _ _ _ _ (by simp only [sbnd,Ow.bnd,zd6])
theorem z00 {M:MemP} {pc:Int} {d a b imm:Int} (h:z0z M.fet pc=some ⟨53,d,a,b,imm⟩):imm≤3:=by
 unfold z0z at h
 split at h
 ·cases hr:z0v M.fet pc 4 with
  |none=>rw [hr] at h;cases h
  |some x=>
   rw [hr] at h;have:=(z9i (zie h).1).2.2.2.2;have h2:immB ⟨true,true,false,false,false,18,3⟩ imm=true:=this
   simpa [immB] using h2
 ·cases h
theorem zcx (L:List Value) (x y:Value) (_hx:AV.of x=one x) (_hy:AV.of y=one y):avals [.p (.agg (L.map .v)),one x,one y]=some [.agg L.toArray,x,y]:=by
 simp only [avals,AV.val,Pc.val,z9d L,CV.val]
theorem zv3 (L:List Value) (x y:Value):AV.of (.agg (L++[x,y]).toArray)= .p (.agg (zxl L (.v x) (.v y))):=by
 show AV.p (.agg ((L++[x,y]).toArray.toList.map .v))=_;rw [List.toList_toArray,List.map_append];rfl
theorem z88 {R:Int→Int} (h0:R 0=0) (d x j:Int):(if j=0 then 0 else regU R d x j)=updR R d x j:=by
 unfold updR;by_cases hd:d=0
 ·rw [if_pos hd]
  by_cases hj:j=0
  ·rw [if_pos hj,hj,h0]
  ·rw [if_neg hj];show (if j=d then x else R j)=R j;rw [if_neg zO]
 ·rw [if_neg hd]
  by_cases hj:j=0
  ·rw [if_pos hj,if_neg zO,hj,h0]
  ·rw [if_neg hj]
theorem z2p {R:Int→Int} (h0:R 0=0) (j:Int):(if j=0 then 0 else R j)=R j:=by
 split
 ·rename_i h;rw [h,h0]
 ·rfl
theorem zou {M:MemP} {n p:Nat} (hM:M.ok n p) (y:Int):0≤M.get y∧M.get y<256:=by
 unfold MemP.get
 cases h:M.data[y.toNat]? with
 |none=>exact ⟨Int.le_refl 0,by decide⟩
 |some x=>exact hM.db x (List.mem_of_getElem? h)
theorem zzf {M:MemP} {n p:Nat} (hM:M.ok n p) {y:Int} (hy:0≤y∧y<n) (v:Int) {x:Int} (hx:0≤x):(M.put y v).get x=if x=y then v else M.get x:=by
 unfold MemP.get MemP.put;dsimp only;rw [List.getElem?_set];by_cases h:x=y
 ·subst h
  rw [if_pos rfl,if_pos (by rw [hM.ld];omega),if_pos rfl];rfl
 ·rw [if_neg zO,if_neg h]
theorem zel (x:Int):zei x 0=x%256:=by unfold zei;simp
theorem zek (x:Int) (j:Nat):zei (x/256) j=zei x (j+1):=by
 unfold zei;rw [Int.ediv_ediv_of_nonneg (by decide),show 8*(j+1)=8+8*j by omega,Int.pow_add];rfl
theorem z7o {n p:Nat} {a:Int} (ha:0≤a) (hn:n<4294967296):∀ (i k:Nat) (x:Int) {M:MemP},M.ok n p→0≤x→a+i+k≤n→∀ y,0≤y→(MemP.store a i k x M).get y=if a+i≤y∧y<a+i+k then zei x (y-a-i).toNat else M.get y
 |i,0,x,M,_,_,_,y,_=>by rw [if_neg zO];rfl
 |i,k+1,x,M,hM,hx,h,y,hy=>by
  show (MemP.store a (i+1) k (x/256) (M.put ((a+i)%4294967296) (x%256))).get y=_;have e:(a+i)%4294967296=a+i:=Int.emod_eq_of_lt zO zO;rw [e,z7o ha hn (i+1) k (x/256) (zzg hM _ zO) zO (by push_cast;omega) y hy,zzf hM zO _ hy];by_cases c:a+((i+1:Nat):Int)≤y∧y<a+((i+1:Nat):Int)+k
  ·rw [if_pos c,if_pos zO,zek,show (y-a-((i+1:Nat):Int)).toNat+1=(y-a-i).toNat by omega]
  ·rw [if_neg c]
   by_cases c2:y=a+i
   ·rw [if_pos c2,if_pos zO,show (y-a-i).toNat=0 by omega,zel]
   ·rw [if_neg c2,if_neg zO]
theorem ztj {M N:MemP} {a:Int} (ha:0≤a):∀ (i k:Nat),a+i+k≤4294967296→(∀ y,a+i≤y→y<a+i+k→M.get y=N.get y)→M.load a i k=N.load a i k
 |_,0,_,_=>rfl
 |i,k+1,h,hb=>by
  unfold MemP.load;have e:(a+i)%4294967296=a+i:=Int.emod_eq_of_lt zO zO;rw [e,hb (a+i) zO zO,ztj ha (i+1) k (by push_cast;omega) (fun y h1 h2=>hb y (by push_cast at h1;omega) (by push_cast at h2;omega))]
theorem ztk {M:MemP} {n p:Nat} (hM:M.ok n p) {a:Int} (ha:0≤a) (h:a+4≤4294967296):M.load a 0 4=M.get a+M.get (a+1)*256+M.get (a+2)*65536+M.get (a+3)*16777216:=by
 have b0:=zou hM a;have b1:=zou hM (a+1);have b2:=zou hM (a+2);have b3:=zou hM (a+3);have e0:(a+((0:Nat):Int))%4294967296=a:=(by omega);have e1:(a+((0+1:Nat):Int))%4294967296=a+1:=(by omega);have e2:(a+((0+1+1:Nat):Int))%4294967296=a+2:=(by omega);have e3:(a+((0+1+1+1:Nat):Int))%4294967296=a+3:=(by omega);simp only [MemP.load,e0,e1,e2,e3];omega
theorem ztm {M:MemP} {n p:Nat} (hM:M.ok n p) (hn:n<4294967296) {a x:Int} (ha:0≤a) (h:a+4≤n) (hx:word x):(MemP.store a 0 4 x M).load a 0 4=x:=by
 have hs:=fun y hy=>z7o ha hn 0 4 x hM hx.1 zO y hy;rw [ztk (z7q a 0 4 x hM hx.1) ha zO,hs a zO,hs (a+1) zO,hs (a+2) zO,hs (a+3) zO,if_pos zO,if_pos zO,if_pos zO,if_pos zO];rw [show (a-a-((0:Nat):Int)).toNat=0 by omega,show (a+1-a-((0:Nat):Int)).toNat=1 by omega,show (a+2-a-((0:Nat):Int)).toNat=2 by omega,show (a+3-a-((0:Nat):Int)).toNat=3 by omega];have e0:zei x 0=x/1%256:=rfl;have e1:zei x 1=x/256%256:=rfl;have e2:zei x 2=x/65536%256:=rfl;have e3:zei x 3=x/16777216%256:=rfl;unfold word at hx;omega
theorem zc9 {M:MemP} {a r:Int}:∀ {i k:Nat},M.bad a r i k=none↔∀ j,i≤j→j<i+k→M.right ((a+j)%4294967296) r=true
 |i,0=>⟨fun _ j h1 h2=>by omega,fun _=>rfl⟩
 |i,k+1=>by
  unfold MemP.bad;by_cases h:M.right ((a+i)%4294967296) r=true
  ·rw [if_pos h,zc9 (i:=i+1) (k:=k)]
   constructor
   ·intro h2 j h3 h4
    by_cases hj:j=i
    ·subst hj;exact h
    ·exact h2 j zO zO
   ·intro h2 j h3 h4
    exact h2 j zO zO
  ·rw [if_neg h]
   constructor
   ·intro h2;cases h2
   ·intro h2;exact absurd (h2 i (Nat.le_refl _) zO) h
structure Sk where
 kind:Int
 index:Int
 target:Int
 live:Int
 back:Int
structure It where
 i:QI
 s:Option Sk
structure Em where
 a:List Int
 size:Int
 live:Int
 written:Nat
 pred:Int
def regE (r:Int):Int:=if 0≤r∧r<9 then r+1 else 0
def i3 (op d a b:Int):It:=⟨⟨op,d,a,b,0⟩,none⟩
def iI (op d a n:Int):It:=⟨⟨op,d,a,0,n⟩,none⟩
def zq1 (s:Sk):It:=⟨⟨48,0,0,0,0⟩,some s⟩
def skIn (E:Em) (kind k:Int):Sk:=⟨kind,k,0,E.live,0⟩
def zm1 (n:Int):Bool:=decide (sgnW n 18=n)
def con2 (d n:Int):List It:=[iI 41 d 0 (n/1024),iI 18 d d (n%1024)]
def conE (d n:Int):List It:=if zm1 n=true then [iI 16 d 0 n] else con2 d n
def rdE (E:Em) (v s:Int):List It:=if 0≤getV E.a v then [] else [iI 23 s 15 (4*v)]
def rrE (E:Em) (v s:Int):Int:=if 0≤getV E.a v then regE (getV E.a v) else s
def tgE (E:Em) (v:Int):Int:=rrE E v 10
def dnE (E:Em) (v:Int):List It:=if getV E.a v<0 then [iI 25 10 15 (4*v)] else []
def sv1 (E:Em) (v:Nat):List It:=if 0≤getV E.a (v:Int)∧E.written.testBit v=true then [iI 25 (regE (getV E.a (v:Int))) 15 (4*(v:Int))] else []
def svTo (E:Em):Nat→List It
 |0=>[]
 |j+1=>svTo E j++sv1 E j
def svE (E:Em):List It:=svTo E 19
def exE (E:Em) (n:Int):List It:=svE E++[zq1 ⟨4,0,n,0,0⟩]
def szE (c:Int):Int:=if c=17∨c=19 then 1 else 4
def ldE (c:Int):Int:=if c=17∨c=19 then 24 else 23
def adE (E:Em) (o:BOp):List It:=if zm1 o.n=true then [iI 16 12 (rrE E o.a 10) o.n] else con2 13 o.n++[i3 1 12 (rrE E o.a 10) 13]
def accE (E:Em) (k:Int) (o:BOp):List It:=
 if E.size<szE o.code then [zq1 (skIn E 2 k)]
 else rdE E o.a 10++(adE E o++(conE 13 (E.size-szE o.code)++([iI 35 13 12 2,zq1 (skIn E 2 k)]++
  (if 18≤o.code then rdE E o.b 11++[⟨⟨ldE o.code+2,rrE E o.b 11,12,0,0⟩,some (skIn E 3 k)⟩]
   else [⟨⟨ldE o.code,tgE E o.d,12,0,0⟩,some (skIn E 3 k)⟩]++dnE E o.d))))
def qopE (c:Int):Int:=if c≤11 then c-2 else c-3
def zn2 (E:Em) (k:Int) (o:BOp):List It:=
 if o.code=1 then conE (tgE E o.d) o.n++dnE E o.d
 else if o.code=2 then rdE E o.a 10++([i3 1 (tgE E o.d) (rrE E o.a 10) 0]++dnE E o.d)
 else if o.code=12 then rdE E o.a 10++(rdE E o.b 11++([i3 1 12 0 0,iI 32 (rrE E o.b 11) 0 2,i3 10 12 (rrE E o.a 10) (rrE E o.b 11),i3 1 (tgE E o.d) 12 0]++dnE E o.d))
 else if o.code=13 then rdE E o.a 10++(rdE E o.b 11++([i3 5 12 (rrE E o.a 10) (rrE E o.b 11),iI 16 13 0 1,i3 11 (tgE E o.d) 12 13]++dnE E o.d))
 else if 3≤o.code∧o.code≤15 then rdE E o.a 10++(rdE E o.b 11++([i3 (qopE o.code) (tgE E o.d) (rrE E o.a 10) (rrE E o.b 11)]++dnE E o.d))
 else if 16≤o.code∧o.code≤19 then accE E k o
 else if o.code=21 then rdE E o.a 10++[iI 33 (rrE E o.a 10) 0 2,zq1 (skIn E 2 k)]
 else if o.code=22 then [zq1 (skIn E 2 k)]
 else if o.code=23 then rdE E o.a 10++([iI 32 (rrE E o.a 10) 0 (1+(exE E o.n).length)]++exE E o.n)
 else if o.code=24 then exE E o.n
 else if o.code=25 then rdE E o.a 10++([i3 1 10 (rrE E o.a 10) 0]++(svE E++([iI 25 10 15 76]++(con2 11 E.pred++[iI 33 10 11 2,zq1 ⟨6,0,E.pred,0,12⟩,zq1 ⟨5,0,0,0,0⟩]))))
 else []
def zgo (E:Em):Int→List BOp→List It
 |_,[]=>[]
 |k,o::l=>zn2 E (ztx o k) o++zgo E (ztx o k) l
def ent1 (E:Em) (v:Nat):List It:=if 0≤getV E.a (v:Int) then [iI 23 (regE (getV E.a (v:Int))) 15 (4*(v:Int))] else []
def zjz (E:Em):Nat→List It
 |0=>[]
 |j+1=>zjz E j++ent1 E j
def entE (E:Em) (ctx n:Int):List It:=con2 15 ctx++([iI 23 10 15 112,iI 23 11 15 116,iI 16 10 10 n,iI 35 11 10 2,zq1 ⟨1,0,0,0,0⟩,iI 25 10 15 112]++zjz E 19)
def ztc (a:List Int):Nat→Nat
 |0=>0
 |j+1=>if 0≤getV a (j:Int) then ztc a j|||2^j else ztc a j
def ybd:List BOp→Nat
 |[]=>0
 |o::l=>if 0≤writes o then 2^(writes o).toNat|||ybd l else ybd l
def lenE (b:Blk):Int:=(b.at_.length:Int)-(if (b.ops.getLast?.map (·.code))=some 22 then 1 else 0)
def emE (b:Blk) (a:List Int) (size pred:Int):Em:=⟨a,size,(ztc a 19:Nat),ybd b.ops,pred⟩
def yag (b:Blk) (a:List Int) (ctx size pred:Int):List It:=entE (emE b a size pred) ctx (lenE b)++zgo (emE b a size pred) 0 b.ops
def itOk (it:It):Prop:=z9h it.i=true∧it.i.ok
def r16 (d:Int):Prop:=0≤d∧d<16
theorem z1c {d:Int} (h:r16 d):regB d true=true:=by unfold regB r16 at*;simp;omega
theorem zrl {op d a b:Int} (hop:1≤op∧op≤12) (hd:r16 d) (ha:r16 a) (hb:r16 b):itOk (i3 op d a b):=by
 refine ⟨?_,⟨⟨by show 0≤op;omega,by show op<64;omega⟩,hd,ha,hb,yap⟩⟩;have hf:zzw op=⟨true,true,true,true,false,0,0⟩:=if_pos hop;show ((zzw op).is&&regB d (zzw op).d&&regB a (zzw op).a&&regB b (zzw op).b&&immB (zzw op) 0)=true;rw [hf,z1c hd,z1c ha,z1c hb];rfl
theorem zrn {op d a n:Int} (hop:op=16∨(23≤op∧op≤26)∨(32≤op∧op≤37)) (hd:r16 d) (ha:r16 a) (hw:word n) (hn:zm1 n=true) (s:Option Sk):itOk ⟨⟨op,d,a,0,n⟩,s⟩:=by
 refine ⟨?_,⟨⟨by show 0≤op;omega,by show op<64;omega⟩,hd,ha,by show (0:Int)≤0∧(0:Int)<16;omega,hw⟩⟩
 have hf:zzw op=⟨true,true,true,false,true,18,0⟩:=by
  unfold zzw;rw [if_neg zO,if_neg zO,if_pos zO]
 show ((zzw op).is&&regB d (zzw op).d&&regB a (zzw op).a&&regB 0 (zzw op).b&&immB (zzw op) n)=true;rw [hf,z1c hd,z1c ha];show immB ⟨true,true,true,false,true,18,0⟩ n=true;unfold immB;rw [if_neg (by decide),if_pos rfl];exact hn
theorem zrk {d a n:Int} (hd:r16 d) (ha:r16 a) (hn:0≤n∧n<262144):itOk (iI 18 d a n):=by
 refine ⟨?_,⟨⟨by show (0:Int)≤18;decide,by show (18:Int)<64;decide⟩,hd,ha,by show (0:Int)≤0∧(0:Int)<16;omega,by show word n;unfold word;omega⟩⟩;show (true&&regB d true&&regB a true&&true&&decide (n<2^18))=true;rw [z1c hd,z1c ha];simp;omega
theorem zrm {d n:Int} (hd:r16 d) (hn:0≤n∧n<4194304):itOk (iI 41 d 0 n):=by
 refine ⟨?_,⟨⟨by show (0:Int)≤41;decide,by show (41:Int)<64;decide⟩,hd,by show (0:Int)≤0∧(0:Int)<16;omega,by show (0:Int)≤0∧(0:Int)<16;omega,by show word n;unfold word;omega⟩⟩;show (true&&regB d true&&true&&true&&decide (n<2^22))=true;rw [z1c hd];simp;omega
theorem r00:(0:Int)≤0∧(0:Int)<16:=by omega
theorem z7e (s:Sk):itOk (zq1 s):=⟨rfl,⟨(show (0:Int)≤48∧(48:Int)<64 by omega),r00,r00,r00,yap⟩⟩
theorem z1e (r:Int):r16 (regE r):=by unfold regE r16;split<;>omega
theorem z15 {E:Em} (v:Int) {s:Int} (hs:r16 s):r16 (rrE E v s):=by unfold rrE;split;exact z1e _;exact hs
theorem zm4 {n:Int} (h:0≤n∧n<131072):zm1 n=true:=by unfold zm1;rw [decide_eq_true_eq,z4m,if_neg zO];omega
def AllIt (l:List It):Prop:=∀ it∈l,itOk it
theorem AllIt.nil:AllIt []:=nofun
theorem AllIt.app {l m:List It} (h1:AllIt l) (h2:AllIt m):AllIt (l++m):=fun it h=>(List.mem_append.1 h).elim (h1 it) (h2 it)
theorem AllIt.cons {it:It} {l:List It} (h1:itOk it) (h2:AllIt l):AllIt (it::l):=fun x h=>by
 rcases List.mem_cons.1 h with rfl|h
 ·exact h1
 ·exact h2 x h
theorem AllIt.one {it:It} (h:itOk it):AllIt [it]:=AllIt.cons h AllIt.nil
theorem rlit {d:Int} (h:0≤d∧d<16:=by omega):r16 d:=h
theorem zg0 {d n:Int} (hd:r16 d) (hn:word n):AllIt (con2 d n):=by
 unfold word at hn;exact AllIt.cons (zrm hd zO) (AllIt.one (zrk hd hd zO))
theorem zg2 {d n:Int} (hd:r16 d) (hn:word n):AllIt (conE d n):=by
 unfold conE
 split
 ·rename_i h;exact AllIt.one (zrn (.inl rfl) hd rlit hn h none)
 ·exact zg0 hd hn
theorem z94 {v:Int} (hv:0≤v∧v<28):word (4*v)∧zm1 (4*v)=true:=⟨by unfold word;omega,zm4 zO⟩
theorem z0t {E:Em} {v s:Int} (hv:0≤v∧v<28) (hs:r16 s):AllIt (rdE E v s):=by
 unfold rdE
 split
 ·exact AllIt.nil
 ·exact AllIt.one (zrn (.inr (.inl ⟨by omega,by omega⟩)) hs rlit (z94 hv).1 (z94 hv).2 none)
theorem zi9 {E:Em} {v:Int} (hv:0≤v∧v<28):AllIt (dnE E v):=by
 unfold dnE
 split
 ·exact AllIt.one (zrn (.inr (.inl ⟨by omega,by omega⟩)) rlit rlit (z94 hv).1 (z94 hv).2 none)
 ·exact AllIt.nil
theorem z7w {E:Em}:∀ j,j≤19→AllIt (svTo E j)
 |0,_=>AllIt.nil
 |j+1,h=>AllIt.app (z7w j zO) (by
  unfold sv1
  split
  ·exact AllIt.one (zrn (.inr (.inl ⟨by omega,by omega⟩)) (z1e _) rlit (z94 zO).1 (z94 zO).2 none)
  ·exact AllIt.nil)
theorem z7v {E:Em}:∀ j,(svTo E j).length≤j
 |0=>Nat.le_refl _
 |j+1=>by
  have:=z7v (E:=E) j;show (svTo E j++sv1 E j).length≤j+1;rw [List.length_append];unfold sv1
  split<;>simp<;>omega
theorem zk6 {E:Em} (n:Int):AllIt (exE E n):=AllIt.app (z7w 19 (Nat.le_refl _)) (AllIt.one (z7e _))
theorem zk5 {E:Em} (n:Int):(exE E n).length≤20:=by
 have:=z7v (E:=E) 19;unfold exE svE;simp;omega
theorem zaw {E:Em} {o:BOp} (ho:o.ok):AllIt (adE E o):=by
 unfold adE
 split
 ·rename_i h;exact AllIt.one (zrn (.inl rfl) rlit (z15 _ rlit) ho.n h none)
 ·exact AllIt.app (zg0 rlit ho.n) (AllIt.one (zrl zO rlit (z15 _ rlit) rlit))
theorem zar {E:Em} (k:Int) {o:BOp} (ho:o.ok) (hf:znt o=true) (hs:0≤E.size∧E.size≤1048576):AllIt (accE E k o):=by
 have hz:1≤szE o.code∧szE o.code≤4:=by unfold szE;split<;>omega
 have hl:ldE o.code=23∨ldE o.code=24:=by unfold ldE;split<;>simp
 unfold accE
 split
 ·exact AllIt.one (z7e _)
 ·refine AllIt.app (z0t (znu hf) rlit) (AllIt.app (zaw ho) (AllIt.app (zg2 rlit (by unfold word;omega)) (AllIt.app (AllIt.cons (zrn (.inr (.inr ⟨by omega,by omega⟩)) rlit rlit (by unfold word;omega) (zm4 zO) none) (AllIt.one (z7e _))) ?_)))
  split
  ·exact AllIt.app (z0t (znv hf) rlit) (AllIt.one (zrn (.inr (.inl zO)) (z15 _ rlit) rlit yap (zm4 zO) _))
  ·exact AllIt.app (AllIt.one (zrn (.inr (.inl zO)) (z15 _ rlit) rlit yap (zm4 zO) _)) (zi9 (znx hf))
theorem zn4 {E:Em} (k:Int) {o:BOp} (ho:o.ok) (hf:znt o=true) (hs:0≤E.size∧E.size≤1048576) (hp:word E.pred):AllIt (zn2 E k o):=by
 have ha:=znu hf;have hb:=znv hf;have hd:=znx hf
 have w2:word 2∧zm1 2=true:=⟨by unfold word;omega,zm4 zO⟩
 unfold zn2;by_cases c0:o.code=1
 ·rw [if_pos c0]
  exact AllIt.app (zg2 (z15 _ rlit) ho.n) (zi9 hd)
 rw [if_neg c0];by_cases c1:o.code=2
 ·rw [if_pos c1]
  exact AllIt.app (z0t ha rlit) (AllIt.app (AllIt.one (zrl zO (z15 _ rlit) (z15 _ rlit) rlit)) (zi9 hd))
 rw [if_neg c1];by_cases c2:o.code=12
 ·rw [if_pos c2]
  exact AllIt.app (z0t ha rlit) (AllIt.app (z0t hb rlit) (AllIt.app (AllIt.cons (zrl zO rlit rlit rlit) (AllIt.cons (zrn (.inr (.inr ⟨by omega,by omega⟩)) (z15 _ rlit) rlit w2.1 w2.2 none) (AllIt.cons (zrl zO rlit (z15 _ rlit) (z15 _ rlit)) (AllIt.one (zrl zO (z15 _ rlit) rlit rlit))))) (zi9 hd)))
 rw [if_neg c2];by_cases c3:o.code=13
 ·rw [if_pos c3]
  exact AllIt.app (z0t ha rlit) (AllIt.app (z0t hb rlit) (AllIt.app (AllIt.cons (zrl zO rlit (z15 _ rlit) (z15 _ rlit)) (AllIt.cons (zrn (.inl rfl) rlit rlit (by unfold word;omega) (zm4 zO) none) (AllIt.one (zrl zO (z15 _ rlit) rlit rlit)))) (zi9 hd)))
 rw [if_neg c3];by_cases c4:3≤o.code∧o.code≤15
 ·rw [if_pos c4]
  have:1≤qopE o.code∧qopE o.code≤12:=by unfold qopE;split<;>omega
  exact AllIt.app (z0t ha rlit) (AllIt.app (z0t hb rlit) (AllIt.app (AllIt.one (zrl this (z15 _ rlit) (z15 _ rlit) (z15 _ rlit))) (zi9 hd)))
 rw [if_neg c4];by_cases c5:16≤o.code∧o.code≤19
 ·rw [if_pos c5]
  exact zar k ho hf hs
 rw [if_neg c5];by_cases c6:o.code=21
 ·rw [if_pos c6]
  exact AllIt.app (z0t ha rlit) (AllIt.cons (zrn (.inr (.inr ⟨by omega,by omega⟩)) (z15 _ rlit) rlit w2.1 w2.2 none) (AllIt.one (z7e _)))
 rw [if_neg c6];by_cases c7:o.code=22
 ·rw [if_pos c7]
  exact AllIt.one (z7e _)
 rw [if_neg c7];by_cases c8:o.code=23
 ·rw [if_pos c8]
  have hl:=zk5 (E:=E) o.n;exact AllIt.app (z0t ha rlit) (AllIt.app (AllIt.one (zrn (.inr (.inr ⟨by omega,by omega⟩)) (z15 _ rlit) rlit (by unfold word;omega) (zm4 zO) none)) (zk6 _))
 rw [if_neg c8];by_cases c9:o.code=24
 ·rw [if_pos c9]
  exact zk6 _
 rw [if_neg c9];by_cases c10:o.code=25
 ·rw [if_pos c10]
  exact AllIt.app (z0t ha rlit) (AllIt.app (AllIt.one (zrl zO rlit (z15 _ rlit) rlit)) (AllIt.app (z7w 19 (Nat.le_refl _)) (AllIt.app (AllIt.one (zrn (.inr (.inl ⟨by omega,by omega⟩)) rlit rlit (by unfold word;omega) (zm4 zO) none)) (AllIt.app (zg0 rlit hp) (AllIt.cons (zrn (.inr (.inr ⟨by omega,by omega⟩)) rlit rlit w2.1 w2.2 none) (AllIt.cons (z7e _) (AllIt.one (z7e _))))))))
 rw [if_neg c10];exact AllIt.nil
theorem z0s {E:Em} (v s:Int):(rdE E v s).length≤1:=by unfold rdE;split<;>simp
theorem zi8 {E:Em} (v:Int):(dnE E v).length≤1:=by unfold dnE;split<;>simp
theorem zg1 (d n:Int):(conE d n).length≤2:=by unfold conE con2;split<;>simp
theorem zav {E:Em} (o:BOp):(adE E o).length≤3:=by unfold adE con2;split<;>simp
theorem zn3 {E:Em} (k:Int) (o:BOp):(zn2 E k o).length≤27∧(o.code≠25→(zn2 E k o).length≤25):=by
 have h1:=z0s (E:=E) o.a 10;have h2:=z0s (E:=E) o.b 11;have h3:=zi8 (E:=E) o.d;have h4:=zg1 (tgE E o.d) o.n;have h5:=zg1 13 (E.size-szE o.code);have h6:=zav (E:=E) o;have h7:=zk5 (E:=E) o.n;have h8:=z7v (E:=E) 19;unfold zn2 accE svE con2;by_cases c0:o.code=1
 ·rw [if_pos c0];simp only [List.length_append];omega
 rw [if_neg c0];by_cases c1:o.code=2
 ·rw [if_pos c1];simp only [List.length_append,List.length_cons,List.length_nil];omega
 rw [if_neg c1];by_cases c2:o.code=12
 ·rw [if_pos c2];simp only [List.length_append,List.length_cons,List.length_nil];omega
 rw [if_neg c2];by_cases c3:o.code=13
 ·rw [if_pos c3];simp only [List.length_append,List.length_cons,List.length_nil];omega
 rw [if_neg c3];by_cases c4:3≤o.code∧o.code≤15
 ·rw [if_pos c4];simp only [List.length_append,List.length_cons,List.length_nil];omega
 rw [if_neg c4];by_cases c5:16≤o.code∧o.code≤19
 ·rw [if_pos c5]
  by_cases d1:E.size<szE o.code
  ·rw [if_pos d1];exact ⟨by simp,fun _=>by simp⟩
  rw [if_neg d1];by_cases d2:18≤o.code
  ·rw [if_pos d2];simp only [List.length_append,List.length_cons,List.length_nil];omega
  ·rw [if_neg d2];simp only [List.length_append,List.length_cons,List.length_nil];omega
 rw [if_neg c5];by_cases c6:o.code=21
 ·rw [if_pos c6];simp only [List.length_append,List.length_cons,List.length_nil];omega
 rw [if_neg c6];by_cases c7:o.code=22
 ·rw [if_pos c7];exact ⟨by simp,fun _=>by simp⟩
 rw [if_neg c7];by_cases c8:o.code=23
 ·rw [if_pos c8];simp only [List.length_append,List.length_cons,List.length_nil];omega
 rw [if_neg c8];by_cases c9:o.code=24
 ·rw [if_pos c9];omega
 rw [if_neg c9];by_cases c10:o.code=25
 ·rw [if_pos c10];simp only [List.length_append,List.length_cons,List.length_nil];omega
 rw [if_neg c10];exact ⟨by simp,fun _=>by simp⟩
theorem zf5 {s s':Ck} {o:BOp} {x y:Bool} (h:zf3 s o x y=some s'):zju o.code=x:=by
 by_cases hc:(znt o&&zyp s o x y)=true
 ·simp only [Bool.and_eq_true] at hc
  have h2:=hc.2;unfold zyp at h2;simp only [Bool.and_eq_true,beq_iff_eq] at h2;exact h2.1.1
 ·unfold zf3 at h
  rw [if_neg hc] at h;cases h
theorem zgq {E:Em}:∀ (l:List BOp) (s s':Ck) (k:Int),zga s l=some s'→(zgo E k l).length≤25*l.length+2
 |[],_,_,_,_=>by show 0≤_;omega
 |o::l,s,s',k,h=>by
  obtain ⟨h1,h1'⟩:=zn3 (E:=E) (ztx o k) o;show (zn2 E (ztx o k) o++zgo E (ztx o k) l).length≤_;unfold zga at h
  split at h
  ·rename_i s1 hnx
   have h2:=zgq (E:=E) l s1 s' (ztx o k) h;rw [List.length_append,List.length_cons]
   cases l with
   |nil=>simp only [zgo,List.length_nil];omega
   |cons q l=>
    have h25:o.code≠25:=fun e=>by
     exact absurd (zf5 hnx) (by rw [e];show ¬zju 25=false;decide)
    have:=h1' h25;omega
  ·cases h
theorem zj0 {E:Em}:∀ j,(zjz E j).length≤j
 |0=>Nat.le_refl _
 |j+1=>by
  have:=zj0 (E:=E) j;show (zjz E j++ent1 E j).length≤j+1;rw [List.length_append];unfold ent1
  split<;>simp<;>omega
theorem zjx {E:Em} (ctx n:Int):(entE E ctx n).length≤27:=by
 have:=zj0 (E:=E) 19;unfold entE con2;simp;omega
theorem zho {L L':List Value} (h:L.length=24) (h':L'.length=24) (X:List CV):z3z (L.map CV.v++X) 0 (L'.map .v)=L'.map .v++X:=by
 have hl:(L.map CV.v).length=24:=by rw [List.length_map];exact h
 have hl':(L'.map CV.v).length=24:=by rw [List.length_map];exact h'
 rw [z33 (L'.map .v) (L.map .v) 0 zO 24 zO X,z32 zO]
theorem zcp (L:List Value):avals [.p (.agg (L.map .v))]=some [.agg L.toArray]:=by
 simp only [avals,AV.val,Pc.val,z9d]
structure SiteP where
 off:Int
 kind:Int
 index:Int
 target:Int
 live:Int
 const:Int
abbrev z5k (s:SiteP):List Value:=[.int .i64 s.off,.int .i64 s.kind,.int .i64 s.index,.int .u32 s.target,.int .u32 s.live,.int .i64 s.const]
abbrev z5m (s:SiteP):Value:= .agg (z5k s).toArray
abbrev iqL (i:QI):List Value:=[.int .i64 i.op,.int .i64 i.d,.int .i64 i.a,.int .i64 i.b,.int .u32 i.imm]
def z5l (n:Nat) (s:Sk):SiteP:=⟨4*(n:Int),s.kind,s.index,s.target,s.live,if s.back=0 then 0 else 4*(n:Int)-s.back⟩
def z5q:Nat→List It→List SiteP
 |_,[]=>[]
 |n,it::l=>(match it.s with|none=>z5q (n+1) l|some s=>z5l n s::z5q (n+1) l)
structure EmX where
 a:List Int
 size:Int
 code:List QI
 sites:List SiteP
 live:Int
 index:Int
 written:Int
def EmX.app (X:EmX) (l:List It):EmX:={X with code:=X.code++l.map (·.i),sites:=X.sites++z5q X.code.length l}
theorem z5r:∀ (n:Nat) (l m:List It),z5q n (l++m)=z5q n l++z5q (n+l.length) m
 |_,[],_=>rfl
 |n,it::l,m=>by
  have ih:=z5r (n+1) l m;rw [show n+1+l.length=n+(it::l).length by rw [List.length_cons];omega] at ih;show (match it.s with|none=>z5q (n+1) (l++m)|some s=>z5l n s::z5q (n+1) (l++m))=(match it.s with|none=>z5q (n+1) l|some s=>z5l n s::z5q (n+1) l)++_;rw [ih]
  cases it.s<;>rfl
theorem zbj (X:EmX) (l m:List It):(X.app l).app m=X.app (l++m):=by
 unfold EmX.app;simp only [List.map_append,z5r,List.append_assoc,List.length_append,List.length_map]
theorem zbn (X:EmX):X.app []=X:=by
 unfold EmX.app z5q;simp
abbrev emT:TypeId:=134
abbrev siT:TypeId:=67
abbrev iqT:TypeId:=81
def EmX.cells (X:EmX) (vC vS:Value):List Value:=X.a.map (.int .i64)++[.int .i64 X.size,vC,vS,.int .u32 X.live,.int .i64 X.index,.int .u32 X.written]
structure EmAt (w:World) (g:Nat) (vC vS:Value) (X:EmX):Prop where
 blk:w.heap[g]?=some (.cells (X.cells vC vS).toArray emT (0,0))
 al:X.a.length=28
 code:w.ownsRow 0 iqT 5 vC X.code.length (X.code.flatMap iqL)
 sites:w.ownsRow 0 siT 6 vS X.sites.length (X.sites.flatMap z5k)
 farC:vC.ownBlock≠some g
 farS:vS.ownBlock≠some g
 apart:∀ b,vC.ownBlock=some b→vS.ownBlock≠some b
def emG (g:Nat) (vC vS:Value):List Nat:=g::(vC.ownBlock.toList++vS.ownBlock.toList)
theorem zuh {g b:Nat} {vC vS:Value}:b∈emG g vC vS↔b=g∨vC.ownBlock=some b∨vS.ownBlock=some b:=by
 unfold emG;simp only [List.mem_cons,List.mem_append,Option.mem_toList]
structure EmTo (w w':World) (g:Nat) (vC vS:Value) (X':EmX):Prop where
 out:∃ vC' vS',EmAt w' g vC' vS' X'∧∀ b∈emG g vC' vS',b∈emG g vC vS∨w.heap.size≤b
 held:Held w ⟨[],emG g vC vS⟩ w'
theorem zp0 {w w':World} {gs:List Nat} (h:Held w ⟨[],gs⟩ w') {b:Nat} (hb:b<w.heap.size) (hn:b∉gs):w'.heap[b]?=w.heap[b]?:=h.old b hb (fun hm=>by
 rcases hm with hm|hm
 ·cases hm
 ·exact hn hm)
theorem zp7 {w w1 w2:World} {gs gs1:List Nat} (h:Held w ⟨[],gs⟩ w1) (k:Held w1 ⟨[],gs1⟩ w2) (hs:∀ b∈gs1,b∈gs∨w.heap.size≤b):Held w ⟨[],gs⟩ w2:=
 ⟨k.os.trans h.os,k.tape.trans h.tape,k.output.trans h.output,Nat.le_trans h.size k.size,fun b hb hn=>by
  refine (zp0 k (Nat.lt_of_lt_of_le hb h.size) fun hm=>?_).trans (h.old b hb hn);rcases hs b hm with h1|h1
  ·exact hn (.inr h1)
  ·omega⟩
theorem zp4 {w w':World} {gs:List Nat} (h:Below w.heap.size w w'):Held w ⟨[],gs⟩ w':=zp2 h
section
variable {w:World} {g:Nat} {vC vS:Value} {X:EmX}
theorem EmAt.lt (h:EmAt w g vC vS X):g<w.heap.size:=zpz h.blk
theorem EmAt.lts (h:EmAt w g vC vS X):∀ b∈emG g vC vS,b<w.heap.size:=fun b hb=>by
 rcases zuh.1 hb with rfl|hb|hb
 ·exact h.lt
 ·exact (zxy h.code b hb).2
 ·exact (zxy h.sites b hb).2
theorem EmAt.later {w':World} (h:EmAt w g vC vS X) (hB:Below w.heap.size w w'):EmAt w' g vC vS X:=
 ⟨(hB.block g h.lt).trans h.blk,h.al,zx0 h.code hB,zx0 h.sites hB,h.farC,h.farS,h.apart⟩
theorem EmTo.refl {w':World} (h:EmAt w g vC vS X) (hB:Below w.heap.size w w'):EmTo w w' g vC vS X:=
 ⟨⟨vC,vS,h.later hB,fun _b hb=> .inl hb⟩,zp4 hB⟩
theorem EmTo.later {w1 w2:World} {X1:EmX} (h:EmTo w w1 g vC vS X1) (hB:Below w1.heap.size w1 w2):EmTo w w2 g vC vS X1:=by
 obtain ⟨vC1,vS1,k1,k2⟩:=h.out;exact ⟨⟨vC1,vS1,k1.later hB,k2⟩,zp7 h.held (gs1:=[]) (zp4 hB) nofun⟩
theorem EmTo.early {w1 w2:World} {X1:EmX} (hB:Below w.heap.size w w1) (h:EmTo w1 w2 g vC vS X1):EmTo w w2 g vC vS X1:=by
 obtain ⟨vC1,vS1,k1,k2⟩:=h.out;exact ⟨⟨vC1,vS1,k1,fun b hb=>(k2 b hb).imp id fun h2=>Nat.le_trans hB.size h2⟩,zp7 (zp4 hB) h.held fun b hb=> .inl hb⟩
theorem EmTo.then {w1 w2:World} {X1 X2:EmX} {vC1 vS1:Value} (h:EmTo w w1 g vC vS X1) (hb:∀ b∈emG g vC1 vS1,b∈emG g vC vS∨w.heap.size≤b) (k:EmTo w1 w2 g vC1 vS1 X2):EmTo w w2 g vC vS X2:=by
 obtain ⟨vC2,vS2,k1,k2⟩:=k.out;refine ⟨⟨vC2,vS2,k1,fun b hb2=>?_⟩,zp7 h.held k.held hb⟩;rcases k2 b hb2 with h3|h3
 ·exact hb b h3
 ·exact .inr (Nat.le_trans h.held.size h3)
theorem EmTo.now {w1:World} {X1:EmX} (h:EmTo w w1 g vC vS X1):∃ vC1 vS1,EmAt w1 g vC1 vS1 X1∧∀ w2 X2,EmTo w1 w2 g vC1 vS1 X2→EmTo w w2 g vC vS X2:=by
 obtain ⟨vC1,vS1,k1,k2⟩:=h.out;exact ⟨vC1,vS1,k1,fun w2 X2 k=>h.then k2 k⟩
theorem EmTo.blk {w1:World} {X1:EmX} (h:EmTo w w1 g vC vS X1) {b:Nat} (hb:b<w.heap.size) (hn:b∉emG g vC vS):w1.heap[b]?=w.heap[b]?:=zp0 h.held hb hn
abbrev emU (X:EmX):List Ow:=[.cells emT ((X.a.map (Value.int .i64)).map .v++[.v (.int .i64 X.size),.row 1,.row 2,.v (.int .u32 X.live),.v (.int .i64 X.index),.v (.int .u32 X.written)]),.row iqT 5 X.code.length (X.code.flatMap iqL),.row siT 6 X.sites.length (X.sites.flatMap z5k)]
def zje (g:Nat) (vC vS:Value):Env:=⟨fun i=>if i=0 then some g else if i=1 then vC.ownBlock else if i=2 then vS.ownBlock else none,fun i=>if i=1 then some vC else if i=2 then some vS else none⟩
abbrev emGs (g:Nat) (vC vS:Value):Gs:=⟨[g],vC.ownBlock.toList++vS.ownBlock.toList⟩
theorem zui {b:Nat}:b∈emGs g vC vS↔b∈emG g vC vS:=by
 rw [zuh]
 constructor
 ·rintro (h|h)
  ·simp at h;exact .inl h
  ·simp only [List.mem_append,Option.mem_toList] at h;exact .inr h
 ·rintro (h|h)
  ·exact .inl (by simp [h])
  ·exact .inr (by simp only [List.mem_append,Option.mem_toList];exact h)
theorem zix {r:Env} {us:List Value} {l:List CV} {vs:List Value} (h:denL r l vs):denL r (us.map .v++l) (us++vs):=by
 induction us with
 |nil=>exact h
 |cons u us ih=>exact ⟨u,_,rfl,rfl,ih⟩
theorem ziy {r:Env}:∀ {us:List Value} {l:List CV} {vs:List Value},denL r (us.map .v++l) vs→∃ ws,vs=us++ws∧denL r l ws
 |[],l,vs,h=>⟨vs,rfl,h⟩
 |u::us,l,vs,h=>by
  obtain ⟨u1,l1,rfl,d1,d2⟩:=h;obtain rfl:u1=u:=d1;obtain ⟨ws,rfl,d3⟩:=ziy d2;exact ⟨ws,rfl,d3⟩
theorem z1m (h:EmAt w g vC vS X):Rel w (emGs g vC vS) (emU X) (zje g vC vS) w:=by
 have hC:=zxy h.code;have hS:=zxy h.sites;refine ⟨rfl,rfl,rfl,Nat.le_refl _,fun _ _ _=>rfl,fun i o ho=>?_,fun i j b hi hj=>?_,fun i b hb=>?_,fun i hi=>?_,fun i hi=>?_,fun i x hx=>?_⟩
 ·match i with
  |0=>
   have ho:some _=some o:=ho;injection ho with ho;subst ho;refine ⟨g,_,rfl,h.blk,zix ?_⟩;exact ⟨_,_,rfl,rfl,_,_,rfl,rfl,_,_,rfl,rfl,_,_,rfl,rfl,_,_,rfl,rfl,_,_,rfl,rfl,rfl⟩
  |1=>simp at ho;subst ho;exact ⟨vC,rfl,rfl,h.code⟩
  |2=>simp at ho;subst ho;exact ⟨vS,rfl,rfl,h.sites⟩
  |i+3=>simp at ho
 ·match i,j with
  |0,0=>rfl
  |1,1=>rfl
  |2,2=>rfl
  |0,1=>simp [zje] at hi hj;subst hi;exact absurd hj h.farC
  |1,0=>simp [zje] at hi hj;subst hj;exact absurd hi h.farC
  |0,2=>simp [zje] at hi hj;subst hi;exact absurd hj h.farS
  |2,0=>simp [zje] at hi hj;subst hj;exact absurd hi h.farS
  |1,2=>simp [zje] at hi hj;exact absurd hj (h.apart b hi)
  |2,1=>simp [zje] at hi hj;exact absurd hi (h.apart b hj)
  |i+3,_=>simp [zje] at hi
  |0,j+3=>simp [zje] at hj
  |1,j+3=>simp [zje] at hj
  |2,j+3=>simp [zje] at hj
 ·match i with
  |0=>simp [zje] at hb;subst hb;exact ⟨h.lt,fun _=> .inl zS⟩
  |1=>simp [zje] at hb;exact ⟨(hC b hb).2,fun _=> .inr (by simp [hb])⟩
  |2=>simp [zje] at hb;exact ⟨(hS b hb).2,fun _=> .inr (by simp [hb])⟩
  |i+3=>simp [zje] at hb
 ·match i with
  |0=>simp at hi
  |1=>simp at hi
  |2=>simp at hi
  |i+3=>simp [zje]
 ·match i with
  |0=>simp at hi
  |1=>simp at hi
  |2=>simp at hi
  |i+3=>simp [zje]
 ·match i with
  |0=>simp at hx;subst hx;rfl
  |i+1=>simp at hx
theorem zjl {S:List Ow} {r:Env} {w':World} {X':EmX} {i1 i2:Nat} (hR:Rel w (emGs g vC vS) S r w') (hal:X'.a.length=28) (h0:S[0]?=some (.cells emT ((X'.a.map (Value.int .i64)).map .v++[.v (.int .i64 X'.size),.row i1,.row i2,.v (.int .u32 X'.live),.v (.int .i64 X'.index),.v (.int .u32 X'.written)]))) (h1:S[i1]?=some (.row iqT 5 X'.code.length (X'.code.flatMap iqL))) (h2:S[i2]?=some (.row siT 6 X'.sites.length (X'.sites.flatMap z5k))) (hi:i1≠i2∧i1≠0∧i2≠0):EmTo w w' g vC vS X':=by
 obtain ⟨b,us,e1,e2,e3⟩:=hR.own 0 _ h0;have f0:=hR.first 0 g rfl;rw [f0] at e1;injection e1 with e1;subst e1;obtain ⟨ws,rfl,d⟩:=ziy e3;obtain ⟨u1,l1,rfl,d1,u2,l2,rfl,d2,u3,l3,rfl,d3,u4,l4,rfl,d4,u5,l5,rfl,d5,u6,l6,rfl,d6,rfl⟩:=d;obtain rfl:u1= .int .i64 X'.size:=d1;obtain rfl:u4= .int .u32 X'.live:=d4;obtain rfl:u5= .int .i64 X'.index:=d5;obtain rfl:u6= .int .u32 X'.written:=d6;obtain ⟨vC',c1,c2,c3⟩:=hR.own i1 _ h1;have d2:r.val i1=some u2:=d2;rw [d2] at c1;injection c1 with c1;subst c1;obtain ⟨vS',s1,s2,s3⟩:=hR.own i2 _ h2;have d3:r.val i2=some u3:=d3;rw [d3] at s1;injection s1 with s1;subst s1
 have key:∀ i b,r.blk i=some b→i≠0→b≠g∧(b∈emG g vC vS∨w.heap.size≤b):=fun i b hb hi0=>by
  refine ⟨fun e=>?_,?_⟩
  ·subst e;exact hi0 (hR.inj i 0 b hb f0)
  ·rcases Nat.lt_or_ge b w.heap.size with h3|h3
   ·exact .inl (zui.1 ((hR.new i b hb).2 h3))
   ·exact .inr h3
 refine ⟨⟨u2,u3,⟨e2,hal,c3,s3,fun e=>?_,fun e=>?_,fun b hb he=>?_⟩,fun b hb=>?_⟩,⟨hR.os,hR.tape,hR.output,hR.size,fun k hk hn=>hR.old k hk (fun hm=>hn (.inr (zui.1 hm)))⟩⟩
 ·rw [c2] at e;exact (key i1 g e hi.2.1).1 rfl
 ·rw [s2] at e;exact (key i2 g e hi.2.2).1 rfl
 ·rw [c2] at hb;rw [s2] at he;exact hi.1 (hR.inj i1 i2 b hb he)
 ·rcases zuh.1 hb with rfl|hb|hb
  ·exact .inl (zuh.2 (.inl rfl))
  ·rw [c2] at hb;exact (key i1 b hb hi.2.1).2
  ·rw [s2] at hb;exact (key i2 b hb hi.2.2).2
theorem zmk {S:List Ow} {v:AV} {x:Value} {X':EmX} {R:Ending→World→Prop} (i1 i2:Nat) (hv:v.val=some x) (hal:X'.a.length=28) (h0:S[0]?=some (.cells emT ((X'.a.map (Value.int .i64)).map .v++[.v (.int .i64 X'.size),.row i1,.row i2,.v (.int .u32 X'.live),.v (.int .i64 X'.index),.v (.int .u32 X'.written)]))) (h1:S[i1]?=some (.row iqT 5 X'.code.length (X'.code.flatMap iqL))) (h2:S[i2]?=some (.row siT 6 X'.sites.length (X'.sites.flatMap z5k))) (hi:i1≠i2∧i1≠0∧i2≠0) (h:∀ w',EmTo w w' g vC vS X'→R (.returned x) w'):Fin w (emGs g vC vS) S v R:=by
 refine ⟨fun r w' u hR hd=>?_⟩;rw [AV.val_den hv hd];exact h w' (zjl hR hal h0 h1 h2 hi)
end
end Go.Proofs.YtocafomnnkmjfaaGreat
