import Derived.Test.YtocafomnnkmjfaaGreatK17
set_option maxRecDepth 100000
set_option maxHeartbeats 4000000
namespace Go.Proofs.YtocafomnnkmjfaaGreat
open Go.RowKit
abbrev memL (k n p:Nat) (M:MemP) (T:List Ow):List Ow:=
 .cells 115 [.sl (k+1) 0 n (n+M.td.length),.sl (k+2) 0 n (n+M.ti.length),.sl (k+3) 0 n (n+M.tod.length),.sl (k+4) 0 n (n+M.toi.length),.sl (k+5) 0 p (p+M.tr.length),.v (.bool false)]::
  .cells 5 (M.dV.map .v):: .cells 5 (M.iV.map .v):: .cells 5 (M.odV.map .v):: .cells 5 (M.oiV.map .v):: .cells 3 (M.rV.map .v)::T
theorem zt2 {n p:Nat} {M:MemP} {T:List Ow}:∀ (i:Nat) (o:Ow),(memS 0 n p M)[i]?=some o→(memL 0 n p M T)[i]?=some o:=z74 (T:=T)
theorem zt1 {n p:Nat} {M:MemP} {T:List Ow}:∀ (i:Nat),i<6→(memL 0 n p M T)[0+i]?=(memS 0 n p M)[i]?:=fun i hi=>by
 rw [Nat.zero_add];exact List.getElem?_append_left (l₁:=memS 0 n p M) (l₂:=T) hi
theorem zox (g g1 g2 g3 g4 g5 n p:Nat) (M:MemP) (T:List Ow) (hT:sbnd (6+T.length) T=true):zot ⟨[g,g1,g2,g3,g4,g5],[]⟩ (memL 0 n p M T)=true:=by
 have hl:(memL 0 n p M T).length=6+T.length:=by simp;omega
 have hb:∀ i,i<6→Nat.blt i (6+T.length)=true:=fun i hi=>by rw [Nat.blt_eq];omega
 unfold zot;rw [hl,show Nat.ble (Gs.mk [g,g1,g2,g3,g4,g5] []).fix.length (6+T.length)=true from Nat.ble_eq_true_of_le (by show 6≤_;omega)];show sbnd (6+T.length) (memL 0 n p M T)=true;simp only [sbnd,Ow.bnd,zd6,bndL,CV.bnd,Nat.zero_add,hb 1 zO,hb 2 zO,hb 3 zO,hb 4 zO,hb 5 zO];exact hT
def valV (v at_:Int) (ok:Bool):Value:= .agg #[.int .u32 v,.int .u32 at_,.bool ok]
def MemP.bad (M:MemP) (a r:Int):Nat→Nat→Option Int
 |_,0=>none
 |i,k+1=>if M.right ((a+i)%4294967296) r=true then M.bad a r (i+1) k else some ((a+i)%4294967296)
def zfz (x:Option Int):Value:=match x with|none=>valV 0 0 true|some y=>valV 0 y false
theorem zdc (M:MemP) (a r:Int) {i m:Nat} (h:i<m):M.bad a r i (m-i)=if M.right ((a+i)%4294967296) r=true then M.bad a r (i+1) (m-(i+1)) else some ((a+i)%4294967296):=by
 obtain ⟨k,hk⟩:∃ k,m-i=k+1:=⟨m-i-1,by omega⟩
 rw [hk,show m-(i+1)=k by omega];rfl
theorem zt9 (M:MemP) (n p:Nat) (a r:Int) (m:Nat) (w:World) (g:Nat) (gs:List Nat) (hU:ObjsAt w (g::gs) (memS 0 n p M)) (hM:M.ok n p) (_ha:word a) (hr:r=1∨r=2∨r=4) (hm:1≤m∧m≤4):
  Calls Tryz.prog 175 #[.pointer (some ⟨g,0,none⟩),.int .u32 a,.int .i64 (m:Int),.int .i64 r] w fun e w'=>e= .returned (zfz (M.bad a r 0 m))∧ObjsAt w' (g::gs) (memS 0 n p M)∧GrownBys w w' (g::gs):=by
 obtain ⟨g0,g1,g2,g3,g4,g5,hg⟩:=z56 hU;injection hg with hg0 hgs;subst hgs;subst hg0;refine zfd [.p (.c (.ref 0 0)),one (.int .u32 a),one (.int .i64 (m:Int)),one (.int .i64 r)] [.pointer (some ⟨g,0,none⟩),.int .u32 a,.int .i64 (m:Int),.int .i64 r] Tryz.func175 Tryz.ntmps175 rfl zS hU ⟨_,_,rfl,zix rfl,zc6 [.int .u32 a,.int .i64 (m:Int),.int .i64 r]⟩ ?_;(conv=>whnf);refine ⟨decide ((m:Int)>4),fun _=>?_,?_⟩
 ·conv=>whnf
  exact ⟨rfl,rfl,rfl,rfl,zox g g1 g2 g3 g4 g5 n p M [.cells 220 [.v (.int .u32 0),.v (.int .u32 0),.v (.bool false)]] rfl⟩
 conv=>whnf
 refine ⟨fun hc=>absurd hc (by simp [cmb];omega),fun _=>?_⟩
 conv=>whnf
 refine ⟨{i:Nat//i≤m∧M.bad a r 0 m=M.bad a r i (m-i)},fun x=>[(0,.p (.c (.ref 0 0))),(1,one (.int .u32 a)),(2,one (.int .i64 (m:Int))),(3,one (.int .i64 r)),(8,.p (.c (.ref 6 0))),(9,one (.int .i64 (x.1:Int)))],fun x=>memL 0 n p M [.cells 220 [.v (.int .u32 0),.v (.int .u32 0),.v (.bool false)]],fun x=>m-x.1,
  ⟨⟨0,by omega,rfl⟩,zj7 rfl Tn Tn⟩,fun x=>?_⟩
 obtain ⟨i,hi,hbad⟩:=x;dsimp only;(conv=>whnf);refine ⟨fun hc=>?_,fun hc=>?_⟩
 ·have hlt:i<m:=by simpa using hc
  rw [zdc M a r hlt] at hbad;(conv=>whnf);refine ⟨(i:Int),by rw [wr32];omega,?_⟩;(conv=>whnf);refine ⟨(a+i)%4294967296,wr32 _,?_⟩;(conv=>whnf);refine ze4 (pre:=[]) (suf:=[one (.int .u32 ((a+i)%4294967296)),one (.int .i64 r)]) 0 n p M (.bool (M.right ((a+i)%4294967296) r)) zt1 rfl rfl zK (fun w' g gs hk hU=>zum M n p _ r w' g gs hU hM (by unfold word;omega) hr) ?_;(conv=>whnf);refine ⟨fun hb=>?_,fun hb=>?_⟩
  ·have hb':M.right ((a+i)%4294967296) r=false:=by simpa using hb
   rw [hb',if_neg (by decide)] at hbad;(conv=>whnf);refine ⟨(i:Int),by rw [wr32];omega,?_⟩;(conv=>whnf);refine ⟨(a+i)%4294967296,wr32 _,?_⟩;(conv=>whnf);refine ⟨_,_,zj3,?_⟩;(conv=>whnf)
   exact zmh rfl rfl zt2 (zt6 n p M) fun w' h1 h2=>⟨by rw [hbad];rfl,h1,h2⟩
  ·have hb':M.right ((a+i)%4294967296) r=true:=by simpa using hb
   rw [if_pos hb'] at hbad;(conv=>whnf);refine ⟨_,wr64 zO,?_⟩;(conv=>whnf);exact ⟨⟨i+1,by omega,hbad⟩,zj7 rfl Tn Tn,by show m-(i+1)<m-i;omega⟩
 ·have hie:i=m:=by simp at hc;omega
  subst hie;rw [Nat.sub_self] at hbad;(conv=>whnf);refine ⟨_,_,zj3,?_⟩;(conv=>whnf)
  exact zmh rfl rfl zt2 (zt6 n p M) fun w' h1 h2=>⟨by rw [hbad];rfl,h1,h2⟩
structure Held (W:World) (G:Gs) (w:World):Prop where
 os:w.os=W.os
 tape:w.tape=W.tape
 output:w.output=W.output
 size:W.heap.size≤w.heap.size
 old:∀ k,k<W.heap.size→k∉G→w.heap[k]?=W.heap[k]?
def Gs.flat (G:Gs):Gs:=⟨[],G.fix++G.ext⟩
theorem zm5 {G:Gs} {b:Nat}:b∈G.flat↔b∈G:=by
 constructor
 ·rintro (h|h)
  ·cases h
  ·exact List.mem_append.1 h
 ·intro h;exact .inr (List.mem_append.2 h)
theorem Rel.held {W:World} {G:Gs} {S:List Ow} {r:Env} {w:World} (h:Rel W G S r w):Held W G w:=⟨h.os,h.tape,h.output,h.size,h.old⟩
theorem Held.rel {W:World} {G:Gs} {w:World} (h:Held W G w):Rel W G.flat [] Env.none w:=
 ⟨h.os,h.tape,h.output,h.size,fun k hk hn=>h.old k hk (fun hm=>hn (zm5.2 hm)),by simp,nofun,nofun,fun _ _=>rfl,fun _ _=>rfl,(by intro i g h;simp [Gs.flat] at h)⟩
def zyx (x:AV):AV:=match x.fx (fun _=>false) with|true=>x|false=> .p (.c .any)
def zyz:Fr→Fr
 |[]=>[]
 |(d,x)::f=>(d,zyx x)::zyz f
theorem zy0 {r:Env} {f:Fr} {a:Act} (hf:FDen r f a):FDen Env.none (zyz f) a:=by
 have key:∀ f:Fr,∀ k u,(f.get k).den r u→((zyz f).get k).den Env.none u:=by
  intro f
  induction f with
  |nil=>intro k u _;simp [zyz,Fr.get,AV.den,Pc.den,CV.den]
  |cons p f ih=>
   obtain ⟨d,x⟩:=p;intro k u h;unfold zyz
   cases hk:Nat.beq d k<;>simp only [Fr.get,hk] at h⊢
   ·exact ih k u h
   ·unfold zyx
    cases hx:x.fx (fun _=>false)
    ·simp [AV.den,Pc.den,CV.den]
    ·exact AV.den_fx (ok:=fun _=>false) (fun i b hi=>by cases hi) hx h
 exact fun k=>key f k _ (hf k)
section
variable (P:Program) (W:World) (G:Gs) (N:Nd)
def zml (f:Fr) (T:List Ow) (o:Oper) (K:AV→Prop):Prop:=
 match o.op with
 | .move x=>zng (f.ev x) K
 | .assign x=>zng (f.ev x) K
 | .fieldAddr s x k=>(match f.ev x with
  | .p (.c (.ref i off))=>(match zm7 P s k with|some n=>K (.p (.c (.ref i (off+n))))|none=>False)
  |_=>(match opTy P o.op with|true=>qop P W G.flat [] (zyz f) o K|false=>False))
 | .nilCheck x=>(match f.ev x with
  | .p (.c (.ref i off))=>K (.p (.c (.ref i off)))
  |_=>(match opTy P o.op with|true=>qop P W G.flat [] (zyz f) o K|false=>False))
 | .build t parts=>zee P T f t parts K
 |_=>(match opTy P o.op with|true=>qop P W G.flat [] (zyz f) o K|false=>False)
def trG (ops:Array Oper) (l:List Oper):Tr→Fr→List Ow→(Fr→List Ow→Prop)→Prop
 | .done,f,T,K=>K f T
 | .no,_,_,_=>True
 | .q i t,f,T,K=>(match l[i]? with
  |none=>False
  |some o=>(match zi8 N.n o.dst with
   |false=>False
   |true=>(match zoz ops f o with
    |some true=>zml P W G f T o fun v=>f.putK o.dst v fun f'=>trG ops l t f' T K
    |some false=>f.putK o.dst (.p (.c .any)) fun f'=>trG ops l t f' T K
    |none=>False)))
 | .alt i t more,f,T,K=>(match l[i]? with
  |none=>False
  |some o=>(match zoz ops f o with
   |some true=>opK P W G N o f T fun f' T'=>trG ops l t f' T' K
   |_=>False))∧trG ops l more f T K
end
section
variable {P:Program} {W:World} {G:Gs} {N:Nd} {ops:Array Oper} {l:List Oper}
theorem zmm {f:Fr} {T:List Ow} {o:Oper} {K:AV→Prop} (h:zml P W G f T o K) {r:Env} {w:World} (hR:Rel W G T r w) {a:Act} (hf:FDen r f a):
  ∃ v u,K v∧v.den r u∧∀ w',Held W G w'→(execOp a.eval o).run P w'= .ok (.value u) w':=by
 have plain:(match opTy P o.op with|true=>qop P W G.flat [] (zyz f) o K|false=>False)→∃ v u,K v∧v.den r u∧∀ w',Held W G w'→(execOp a.eval o).run P w'= .ok (.value u) w':=fun h=>by
  split at h
  ·rename_i hty
   obtain ⟨v,u,hK,hden,hrun⟩:=z0u h hty rfl (D:=Held W G) (fun w hw=>hw.rel) hR.held (zy0 hf);exact ⟨v,u,hK,AV.den_mono ⟨(fun i b h=>by cases h),(fun i b h=>by cases h)⟩ _ _ hden,hrun⟩
  ·exact h.elim
 unfold zml at h
 split at h
 ·rename_i x hop
  exact ⟨_,_,znh.1 h,hf.ev x,fun w' _=>by simp [execOp,hop]⟩
 ·rename_i x hop
  exact ⟨_,_,znh.1 h,hf.ev x,fun w' _=>by simp [execOp,hop]⟩
 ·rename_i s x k hop
  split at h
  ·rename_i i off he
   split at h
   ·rename_i n hn
    have hx:=hf.ev x;rw [he] at hx;obtain ⟨b,hb,hu⟩:=zi0 hx;exact ⟨_,_,h,zix hb,fun w' _=>by simp [execOp,hop,hu,z2i hn]⟩
   ·exact h.elim
  ·exact plain h
 ·rename_i x hop
  split at h
  ·rename_i i off he
   have hx:=hf.ev x;rw [he] at hx;obtain ⟨b,hb,hu⟩:=zi0 hx;exact ⟨_,_,h,zix hb,fun w' _=>by simp [execOp,hop,hu]⟩
  ·exact plain h
 ·rename_i t parts hop
  obtain ⟨v,u,hK,hd,hrun⟩:=zef hR hf h;exact ⟨v,u,hK,hd,fun w' _=>by simp [execOp,hop,hrun w']⟩
 ·exact plain h
theorem z85 (hl:∀ i:Nat,l[i]?=ops[i]?) (hns:Region.noSelect ops=true) {K:Fr→List Ow→Prop} {Q:Exit→Act→World→Prop} (hQ0:∀ c a w,¬Q (.panic c) a w) (hQ:∀ f T a w,K f T→Good W G N f T a w→Q .normal a w):
  ∀ (t:Tr) (inner:Bool) (listed:Array Bool) (f:Fr) (T:List Ow) (n:Nat),t.ok ops inner listed=true→t.depth≤n→trG P W G N ops l t f T K→∀ a w,Good W G N f T a w→
   (inner=false→wpAnyH P .any ops Q (Held W G) n listed a w)∧
   (∀ m,n=m+1→∀ i∈t.alts,wpOp P ops Q i (fun a' w'=>Held W G w'∧wpAnyH P .any ops Q (Held W G) m (listed.setIfInBounds i true) a' w') a w)
 | .done,inner,listed,f,T,n,hB,_,h,a,w,hg=>by
  refine ⟨fun _=>wpAnyH_done (by simp [Tr.ok] at hB;exact hB.2) (hQ f T a w h hg) _,fun m _ i hi=>by cases hi⟩
 | .no,inner,listed,f,T,n,hB,_,h,a,w,hg=>by
  refine ⟨fun he=>?_,fun m _ i hi=>by cases hi⟩;simp [Tr.ok] at hB;rw [hB] at he;cases he
 | .q i t,inner,listed,f,T,n,hB,hn,h,a,w,hg=>by
  refine ⟨fun _=>?_,fun m _ i hi=>by cases hi⟩;simp only [Tr.ok,Bool.and_eq_true] at hB;obtain ⟨⟨⟨_,hB1⟩,hB2⟩,hB3⟩:=hB;simp only [Tr.depth] at hn
  obtain ⟨n,rfl⟩:∃ k,n=k+1:=⟨n-1,by omega⟩
  unfold trG at h
  split at h
  ·exact h.elim
  ·rename_i o ho
   rw [hl] at ho
   split at h
   ·exact h.elim
   ·rename_i hdst
    obtain ⟨r,hR,hf,hN,hd⟩:=hg
    split at h
    ·rename_i hgd
     have hw:=zo3 hf hgd;obtain ⟨v,u,hK,hden,hrun⟩:=zmm h hR hf;have hK:=zze.1 hK;refine wpAnyH_take (v:=u) ho hns hB1 hB2 (fun c a w h=>absurd h (hQ0 c _ w)) (.inl ⟨hw,hrun⟩) hR.held ?_;exact (z85 hl hns hQ0 hQ t false _ _ T n hB3 zO hK _ w ⟨r,hR,hf.put hden (by rw [hN];exact hdst),(zzq a _ _).trans hN,(zzn a _ _).trans hd⟩).1 rfl
    ·rename_i hgd
     have hw:=zo3 hf hgd;have hK:=zze.1 h;refine wpAnyH_take (v:=undef) ho hns hB1 hB2 (fun c a w h=>absurd h (hQ0 c _ w)) (.inr ⟨hw,rfl⟩) hR.held ?_;exact (z85 hl hns hQ0 hQ t false _ _ T n hB3 zO hK _ w ⟨r,hR,hf.putAny _ (by rw [hN];exact hdst),(zzq a _ _).trans hN,(zzn a _ _).trans hd⟩).1 rfl
    ·exact h.elim
 | .alt i t more,inner,listed,f,T,n,hB,hn,h,a,w,hg=>by
  simp only [Tr.ok,Bool.and_eq_true] at hB;obtain ⟨⟨hB1,hB2⟩,hB3⟩:=hB;simp only [Tr.depth] at hn;unfold trG at h;obtain ⟨h1,h2⟩:=h
  have all:∀ m,n=m+1→∀ j∈(Tr.alt i t more).alts,wpOp P ops Q j (fun a' w'=>Held W G w'∧wpAnyH P .any ops Q (Held W G) m (listed.setIfInBounds j true) a' w') a w:=by
   intro m hm j hj;simp only [Tr.alts,List.mem_cons] at hj;rcases hj with rfl|hj
   ·split at h1
    ·exact h1.elim
    ·rename_i o ho
     rw [hl] at ho;obtain ⟨r,hR,hf,hN,hd⟩:=hg
     split at h1
     ·rename_i hgd
      have hw:=zo3 hf hgd;unfold wpOp;simp only [ho,hw,if_true];refine .inl (z31 ((zwx h1).out r a w hR hf hN hd (fun a' w'=>Held W G w'∧wpAnyH P .any ops Q (Held W G) m (listed.setIfInBounds j true) a' w') Q fun f' T' a' w' hk hg'=>?_) fun _ _ h=>h);refine ⟨?_,(z85 hl hns hQ0 hQ t false _ f' T' m hB2 zO hk a' w' hg').1 rfl⟩;obtain ⟨r',hR',_⟩:=hg';exact hR'.held
     ·exact h1.elim
   ·exact (z85 hl hns hQ0 hQ more true listed f T n hB3 zO h2 a w hg).2 m hm j hj
  refine ⟨fun he=>?_,all⟩
  obtain ⟨m,rfl⟩:∃ k,n=k+1:=⟨n-1,by omega⟩
  have hr:Region.ready .any ops listed=(Tr.alt i t more).alts:=by
   rw [he] at hB1
   simpa [Tr.alts] using hB1
  exact wpAnyH_all hr (by simp [Tr.alts]) (all m rfl)
theorem z23 {id:Nat} {l:List Oper} {f:Fr} {S:List Ow} {K:Exit→Fr→List Ow→Prop} (t:Tr) (hm:P.follows .mixedOrders=true) (hns:Region.noSelect l.toArray=true) (hB:(t.ok l.toArray false (Array.replicate l.toArray.size false)&&Nat.ble t.depth l.length)=true)
  (h:trG P W G N l.toArray l t f S (K .normal)):Sat none P W G N (.region id l.toArray true) f S K:=by
 refine ⟨fun n a w ⟨r,hR,hf,hN,hd⟩=>wpIn_wide.2 ?_⟩;simp only [Bool.and_eq_true] at hB;refine Code.wp_mono (Q:=fun e a w=>match e with| .normal=>zal W G N K .normal a w|_=>False) (fun e a w h=>by cases e<;>first|exact h|exact h.elim) (wp_region_held (S:=Held W G) hm ?_);have:=(z85 (P:=P) (W:=W) (N:=N) (Q:=fun e a w=>match e with| .normal=>zal W G N K .normal a w|_=>False) (fun i=>by simp) hns (fun c a w h=>h) (fun f T a w hk hg=>⟨f,T,hk,hg⟩) t false _ f S l.length hB.1 (Nat.le_of_ble_eq_true hB.2) h a w.drew ⟨r,hR.drew,hf,hN,hd⟩).1 rfl
 simpa using this
end
inductive Nx (α:Type) where
 |done
 |q (i:Nat) (y:α)
 |alts (l:List (Nat×α))
structure DagOk {α:Type} (ops:Array Oper) (listed:α→Array Bool) (nx:α→Nx α) (left:α→Nat) (x:α):Prop where
 done:nx x= .done→Region.ready .any ops (listed x)=[]
 q:∀ i y,nx x= .q i y→Region.free .any ops (listed x) i=true∧(Region.ready .any ops (listed x)).contains i=true∧listed y=(listed x).setIfInBounds i true∧left y<left x
 alts:∀ l,nx x= .alts l→Region.ready .any ops (listed x)=l.map Prod.fst∧l≠[]∧∀ p∈l,listed p.2=(listed x).setIfInBounds p.1 true∧left p.2<left x
def zke:List Bool→List Bool→Bool
 |[],[]=>true
 |a::l,b::m=>match a,b with|true,true=>zke l m|false,false=>zke l m|_,_=>false
 |_,_=>false
theorem zkf:∀ {l m:List Bool},zke l m=true→l=m
 |[],[],_=>rfl
 |a::l,b::m,h=>by
  cases a<;>cases b<;>simp only [zke] at h<;>first|cases h|rw [zkf h]
 |[],_::_,h=>by cases h
 |_::_,[],h=>by cases h
def dagB {α:Type} (ops:Array Oper) (listed:α→Array Bool) (nx:α→Nx α) (left:α→Nat) (x:α):Bool:=
 match nx x with
 | .done=>(Region.ready .any ops (listed x)).isEmpty
 | .q i y=>Region.free .any ops (listed x) i&&(Region.ready .any ops (listed x)).contains i&&zke (listed y).toList ((listed x).setIfInBounds i true).toList&&Nat.blt (left y) (left x)
 | .alts l=>(Region.ready .any ops (listed x)==l.map Prod.fst)&& !l.isEmpty&&l.all fun p=>zke (listed p.2).toList ((listed x).setIfInBounds p.1 true).toList&&Nat.blt (left p.2) (left x)
theorem zh3 {α:Type} {ops:Array Oper} {listed:α→Array Bool} {nx:α→Nx α} {left:α→Nat} {x:α} (h:dagB ops listed nx left x=true):DagOk ops listed nx left x:=by
 unfold dagB at h;refine ⟨fun e=>?_,fun i y e=>?_,fun l e=>?_⟩
 ·rw [e] at h;simpa using h
 ·rw [e] at h
  simp only [Bool.and_eq_true] at h;exact ⟨h.1.1.1,h.1.1.2,Array.ext' (zkf h.1.2),by simpa [Nat.blt_eq] using h.2⟩
 ·rw [e] at h
  simp only [Bool.and_eq_true,List.all_eq_true] at h;refine ⟨by simpa using h.1.1,by simpa using h.1.2,fun p hp=>?_⟩;obtain ⟨h1,h2⟩:=h.2 p hp;exact ⟨Array.ext' (zkf h1),by simpa [Nat.blt_eq] using h2⟩
section
variable (P:Program) (W:World) (G:Gs) (N:Nd) {α:Type}
def zvl (ops:Array Oper) (l:List Oper) (T:α→Fr) (U:α→List Ow) (K:Fr→List Ow→Prop) (x:α):Nx α→Prop
 | .done=>K (T x) (U x)
 | .q i y=>(match l[i]? with
  |none=>False
  |some o=>(match zi8 N.n o.dst with
   |false=>False
   |true=>(match zoz ops (T x) o with
    |some true=>zml P W G (T x) (U x) o fun v=>(T x).putK o.dst v fun f'=>Ent W G N f' (U x) (T y) (U y)
    |some false=>(T x).putK o.dst (.p (.c .any)) fun f'=>Ent W G N f' (U x) (T y) (U y)
    |none=>False)))
 | .alts m=>∀ p∈m,(match l[p.1]? with
  |none=>False
  |some o=>(match zoz ops (T x) o with
   |some true=>opK P W G N o (T x) (U x) fun f' S'=>Ent W G N f' S' (T p.2) (U p.2)
   |_=>False))
end
section
variable {P:Program} {W:World} {G:Gs} {N:Nd} {ops:Array Oper} {l:List Oper} {α:Type}
theorem zh4 {listed:α→Array Bool} {nx:α→Nx α} {left:α→Nat} {T:α→Fr} {U:α→List Ow} (hl:∀ i:Nat,l[i]?=ops[i]?) (hns:Region.noSelect ops=true) {K:Fr→List Ow→Prop} {Q:Exit→Act→World→Prop} (hQ0:∀ c a w,¬Q (.panic c) a w) (hQ:∀ f T a w,K f T→Good W G N f T a w→Q .normal a w)
  (hB:∀ x,dagB ops listed nx left x=true) (hnode:∀ x,zvl P W G N ops l T U K x (nx x)):
  ∀ (n:Nat) (x:α) (a:Act) (w:World),left x≤n→Good W G N (T x) (U x) a w→wpAnyH P .any ops Q (Held W G) n (listed x) a w:=by
 intro n
 induction n with
 |zero=>
  intro x a w hn hg;have hb:=zh3 (hB x);have hk:=hnode x
  cases hx:nx x with
  |done=>rw [hx] at hk;exact wpAnyH_done (hb.done hx) (hQ _ _ a w hk hg) _
  |q i y=>have:=(hb.q i y hx).2.2.2;omega
  |alts m=>
   obtain ⟨_,h2,h3⟩:=hb.alts m hx;obtain ⟨p,hp⟩:=List.exists_mem_of_ne_nil m h2;have:=(h3 p hp).2;omega
 |succ n ih=>
  intro x a w hn hg;have hb:=zh3 (hB x);have hk:=hnode x
  cases hx:nx x with
  |done=>rw [hx] at hk;exact wpAnyH_done (hb.done hx) (hQ _ _ a w hk hg) _
  |q i y=>
   rw [hx] at hk;obtain ⟨h1,h2,h3,h4⟩:=hb.q i y hx;simp only [zvl] at hk
   split at hk
   ·exact hk.elim
   ·rename_i o ho
    rw [hl] at ho
    split at hk
    ·exact hk.elim
    ·rename_i hdst
     obtain ⟨r,hR,hf,hN,hd⟩:=hg
     split at hk
     ·rename_i hgd
      have hw:=zo3 hf hgd;obtain ⟨v,u,hK,hden,hrun⟩:=zmm hk hR hf;have hK:=zze.1 hK;refine wpAnyH_take (v:=u) ho hns h1 h2 (fun c a w h=>absurd h (hQ0 c _ w)) (.inl ⟨hw,hrun⟩) hR.held ?_;rw [← h3];exact ih y _ w zO (hK.out _ w ⟨r,hR,hf.put hden (by rw [hN];exact hdst),(zzq a _ _).trans hN,(zzn a _ _).trans hd⟩)
     ·rename_i hgd
      have hw:=zo3 hf hgd;have hK:=zze.1 hk;refine wpAnyH_take (v:=undef) ho hns h1 h2 (fun c a w h=>absurd h (hQ0 c _ w)) (.inr ⟨hw,rfl⟩) hR.held ?_;rw [← h3];exact ih y _ w zO (hK.out _ w ⟨r,hR,hf.putAny _ (by rw [hN];exact hdst),(zzq a _ _).trans hN,(zzn a _ _).trans hd⟩)
     ·exact hk.elim
  |alts m=>
   rw [hx] at hk;obtain ⟨h1,h2,h3⟩:=hb.alts m hx;refine wpAnyH_all h1 (by simpa using h2) fun i hi=>?_;obtain ⟨p,hp,rfl⟩:=List.mem_map.1 hi;have hk:=hk p hp;obtain ⟨h4,h5⟩:=h3 p hp
   split at hk
   ·exact hk.elim
   ·rename_i o ho
    rw [hl] at ho;obtain ⟨r,hR,hf,hN,hd⟩:=hg
    split at hk
    ·rename_i hgd
     have hw:=zo3 hf hgd;unfold wpOp;simp only [ho,hw,if_true];refine .inl (z31 ((zwx hk).out r a w hR hf hN hd (fun a' w'=>Held W G w'∧wpAnyH P .any ops Q (Held W G) n ((listed x).setIfInBounds p.1 true) a' w') Q fun f' T' a' w' hke hg'=>?_) fun _ _ h=>h);have hg2:=hke.out a' w' hg';refine ⟨?_,?_⟩
     ·obtain ⟨r',hR',_⟩:=hg2
      exact hR'.held
     ·rw [← h4];exact ih p.2 a' w' zO hg2
    ·exact hk.elim
end
theorem z1v {w0:World} {G:Gs} {r:Env} {w:World} (n:Nat) {S:List Ow} (h:Rel w0 G S r w):Rel w0 G (S++List.replicate n .gone) r w:=by
 have hl:(S++List.replicate n Ow.gone).length=S.length+n:=by simp
 refine ⟨h.os,h.tape,h.output,h.size,h.old,fun i o ho=>?_,h.inj,h.new,fun i hi=>h.outB i zO,fun i hi=>h.outV i zO,h.first⟩
 rcases Nat.lt_or_ge i S.length with h1|h1
 ·rw [List.getElem?_append_left h1] at ho;exact h.own i o ho
 ·rw [List.getElem?_append_right h1,List.getElem?_replicate] at ho
  split at ho
  ·injection ho with ho;subst ho;trivial
  ·cases ho
theorem zjz {w0:World} {G:Gs} {N:Nd} {f:Fr} {S:List Ow} (n:Nat):Ent w0 G N f S f (S++List.replicate n .gone):=⟨fun _a _w ⟨r,hR,hf,hN,hd⟩=>⟨r,z1v n hR,hf,hN,hd⟩⟩
theorem z1r {w0:World} {G:Gs} {S:List Ow} {r:Env} {w:World} (h:Rel w0 G S r w) (hc:zfl S=true):∃ gs:List Nat,gs.length=S.length∧(∀ i,r.blk i=gs[i]?)∧Rel w ⟨gs,[]⟩ S r w:=by
 have hblk:∀ i,i<S.length→∃ b,r.blk i=some b:=fun i hi=>by
  have ho:=h.own i _ (List.getElem?_eq_getElem hi)
  have hm:(match S[i] with| .cells _ _=>true|_=>false)=true:=by
   unfold zfl at hc;exact List.all_eq_true.1 hc _ (List.getElem_mem hi)
  cases hs:S[i] with
  |cells t l=>rw [hs] at ho;obtain ⟨b,us,e,_⟩:=ho;exact ⟨b,e⟩
  |row=>rw [hs] at hm;cases hm
  |ext=>rw [hs] at hm;cases hm
  |view=>rw [hs] at hm;cases hm
  |gone=>rw [hs] at hm;cases hm
 have hgs:∀ i,r.blk i=((List.range S.length).map fun i=>(r.blk i).getD 0)[i]?:=fun i=>by
  rcases Nat.lt_or_ge i S.length with h1|h1
  ·obtain ⟨b,hb⟩:=hblk i h1
   rw [List.getElem?_map,List.getElem?_range h1,hb];simp [hb]
  ·rw [h.outB i h1,List.getElem?_eq_none (by simpa using h1)]
 refine ⟨(List.range S.length).map fun i=>(r.blk i).getD 0,by simp,hgs,z1t h (fun i g hg=>by rw [hgs i];exact hg) fun i b hb=> .inl ?_⟩;rw [hgs i] at hb;exact List.mem_of_getElem? hb
theorem z29 {P:Program} {w0:World} {G:Gs} {N:Nd} {d:Code} {f:Fr} {S:List Ow} {Q:Exit→Act→World→Prop} (S2:List Ow) (ks:List Nat) (hS:RLe S (fun i=>ks.getD i 0) S2 ks) (hb:sbnd S2.length S2=true) (hi:injB S ks=true) (hG:idB G.fix.length ks 0=true) (hGl:Nat.ble G.fix.length S2.length=true) (hc:zfl S2=true)
  (h:∀ r w (gs:List Nat),Rel w0 G S r w→gs.length=S2.length→(∀ i,i<S2.length→r.blk (ks.getD i 0)=gs[i]?)→(∀ e f S,AtQ w0 G N e f S Q→AtQ w ⟨gs,[]⟩ N e f S Q)→∃ f2,(∀ a r2,(∀ i,r2.blk i=gs[i]?)→FDen r f a→FDen r2 f2 a)∧SatQ P w ⟨gs,[]⟩ N d f2 S2 Q):SatQ P w0 G N d f S Q:=
 ⟨fun a w ⟨r,hR,hf,hN,hd⟩=>by
  have h1:=z1z hR ks hS hb hi hG hGl;obtain ⟨gs,hl,hgs,hR2⟩:=z1r h1 hc
  have hback:∀ e f S,AtQ w0 G N e f S Q→AtQ w ⟨gs,[]⟩ N e f S Q:=fun e f' S' hq=>⟨fun a' w' ⟨r',hR',hf',hN',hd'⟩=>
   hq.out a' w' ⟨r',z1s h1 hR' (fun b hb=>by
    rcases hb with hb|hb
    ·obtain ⟨i,hi⟩:=List.getElem?_of_mem hb
     exact ⟨i,by rw [hgs i];exact hi⟩
    ·cases hb) (fun i g hg=>by rw [← hgs i];exact h1.first i g hg),hf',hN',hd'⟩⟩
  obtain ⟨f2,hf2,hsat⟩:=h r w gs hR hl (fun i hi=>by rw [← hgs i,zgr hi]) hback
  exact hsat.out a w ⟨_,hR2,hf2 a _ hgs hf,hN,hd⟩⟩
theorem unflat {w:World} {G:Gs} {b off:Nat} {xs:List Value} (h:zac w G.flat b off xs):zac w G b off xs:=⟨h.1,fun hm=>h.2.1 (zm5.2 hm),h.2.2⟩
theorem zbf {w0 w:World} {G:Gs} {S S2:List Ow} {r:Env} {gs ks:List Nat} (hR:Rel w0 G S r w) (hl:gs.length=S2.length) (hgs:∀ i,i<S2.length→r.blk (ks.getD i 0)=gs[i]?) (hk:ks.length=S2.length) (j:Nat) {t:TypeId} {us:List Value} (hj:S[j]?=some (.cells t (us.map .v))) (hn:memB j ks=false):
  ∃ b,r.blk j=some b∧∀ (off:Nat) (xs:List Value),(∀ (k:Nat) (u:Value),xs[k]?=some u→us[off+k]?=some u)→zac w (Gs.flat ⟨gs,[]⟩) b off xs:=by
 obtain ⟨b,vs,e1,e2,e3⟩:=hR.own j _ hj;obtain rfl:=zis e3;refine ⟨b,e1,fun off xs hx=>⟨(hR.new j b e1).1,fun hm=>?_,fun k u hu=>by simp [World.cell?,e2,hx k u hu]⟩⟩;rcases hm with hm|hm
 ·cases hm
 ·have hm:b∈gs:=by simpa [Gs.flat] using hm
  obtain ⟨i,hi⟩:=List.getElem?_of_mem hm
  have hil:i<S2.length:=by
   rw [← hl];rcases Nat.lt_or_ge i gs.length with h1|h1
   ·exact h1
   ·rw [List.getElem?_eq_none h1] at hi;cases hi
  have:=hgs i hil;rw [hi] at this;have hji:=hR.inj _ _ b this e1
  have hmem:j∈ks:=by
   rw [← hji,List.getD_eq_getElem?_getD,List.getElem?_eq_getElem zO];exact List.getElem_mem _
  rw [ztx hmem] at hn
  cases hn
theorem z6p {r r2:Env} {f:Fr} {a:Act} (hf:FDen r f a) (d:Nat) {i off b:Nat} (h:f.get d= .p (.c (.ref i off))) (hb:r.blk i=some b):AV.den r2 (one (.pointer (some ⟨b,off,none⟩))) (a.tmps.getD d undef):=by
 have:=hf d;rw [h] at this;obtain ⟨b',hb',hu⟩:=zi0 this;rw [hb] at hb';injection hb' with hb';subst hb';rw [hu];exact ziz _ _
theorem z6n {r r2:Env} {f:Fr} {a:Act} (hf:FDen r f a) (d:Nat) {i j off:Nat} (h:f.get d= .p (.c (.ref i off))) (hb:∀ b,r.blk i=some b→r2.blk j=some b):AV.den r2 (.p (.c (.ref j off))) (a.tmps.getD d undef):=by
 have:=hf d;rw [h] at this;obtain ⟨b',hb',hu⟩:=zi0 this;rw [hu];exact zix (hb b' hb')
theorem z6r {r r2:Env} {f:Fr} {a:Act} (hf:FDen r f a) (d:Nat) {x:Value} (h:(f.get d).val=some x):AV.den r2 (AV.of x) (a.tmps.getD d undef):=by
 rw [AV.val_den h (hf d)];exact AV.of_den r2 x
def zah (r:Env) (a:Act):Fr→Prop
 |[]=>True
 |(d,x)::f=>x.den r (a.tmps.getD d undef)∧zah r a f
theorem znv {r:Env} {a:Act}:∀ {f:Fr},zah r a f→FDen r f a
 |[],_=>fun k=>by simp [Fr.get,AV.den,Pc.den,CV.den]
 |(d,x)::f,h=>fun k=>by
  simp only [Fr.get]
  split
  ·rename_i hk;have:=Nat.eq_of_beq_eq_true hk;subst this;exact h.1
  ·exact znv h.2 k
theorem zv0 {w w':World} {gs:List Nat} {U:List Ow} {n:Nat} (hob:zaj n U) (h:ObjsAt w gs U) (hB:Below w.heap.size w w'):ObjsAt w' gs U:=by
 refine ⟨h.len,h.nodup,fun g hg=>Nat.lt_of_lt_of_le (h.lt g hg) hB.size,fun i o ho=>?_⟩;have k:=h.own i o ho;have hb:=hob o (List.mem_of_getElem? ho)
 cases o with
 |cells t l=>
  obtain ⟨b,us,e1,e2,e3⟩:=k;exact ⟨b,us,e1,by rw [hB.block b (h.lt b (List.mem_of_getElem? (show gs[i]?=some b from e1)))];exact e2,e3⟩
 |row=>exact hb.elim
 |ext=>exact hb.elim
 |view=>exact hb.elim
 |gone=>exact hb.elim
section
variable {w0:World} {S:List Ow} {K:AV→List Ow→Prop} {fid:FuncId} {args:List AV} {P:Program}
theorem ze3 {us:List Value} {g n p:Nat} {gs:List Nat} {M:MemP} {X:Value} (hx:avals args=some us) (hok:fnOk P fid=true) (hU:ObjsAt w0 (g::gs) (memS 0 n p M))
  (h:∀ w,ObjsAt w (g::gs) (memS 0 n p M)→Calls P fid us.toArray w fun e w'=>e= .returned X∧ObjsAt w' (g::gs) (memS 0 n p M)∧GrownBys w w' (g::gs)) (hK:K (AV.of X) S):CallS P w0 Gs.nil fid args S K:=by
 refine ze2 hx hok (fun r w hR=>?_) hK;have hU':=zv0 (zt6 n p M) hU hR.toBelow
 exact (h w hU').mono fun e w' ⟨h1,h2,h3⟩=>⟨h1,zvy (zt6 n p M) hU' h2 h3⟩
end
def MemP.code (M:MemP) (x:Int):Int:=(M.image[x.toNat]?).getD 0
theorem zua (M:MemP) (n p:Nat) (a:Int) (w:World) (g:Nat) (gs:List Nat) (hU:ObjsAt w (g::gs) (memS 0 n p M)) (hM:M.ok n p) (ha:word a) (hlt:a<(n:Int)):
  Calls Tryz.prog 210 #[.pointer (some ⟨g,0,none⟩),.int .u32 a] w fun e w'=>e= .returned (.int .u8 (M.code a))∧ObjsAt w' (g::gs) (memS 0 n p M)∧GrownBys w w' (g::gs):=by
 obtain ⟨g0,g1,g2,g3,g4,g5,hg⟩:=z56 hU;injection hg with hg0 hgs;subst hgs;subst hg0;have hw:0≤a∧a<4294967296:=ha
 obtain ⟨y,hy⟩:∃ y,M.image[a.toNat]?=some y:=⟨_,List.getElem?_eq_getElem (by rw [hM.li];omega)⟩
 have hget:(List.map CV.v M.iV)[a.toNat]?=some (.v (zem (M.code a))):=by
  unfold MemP.code;rw [hy];exact z8i hy
 refine zfd [.p (.c (.ref 0 0)),one (.int .u32 a)] [.pointer (some ⟨g,0,none⟩),.int .u32 a] Tryz.func210 Tryz.ntmps210 rfl zS hU ⟨_,_,rfl,zix rfl,zc6 [.int .u32 a]⟩ ?_
 conv=>whnf
 refine ze4 (pre:=[]) (suf:=[one (.int .u32 a)]) 0 n p M (.bool (decide (a<(n:Int)))) (fun i hi=>by rw [Nat.zero_add]) rfl rfl zK (fun w' g gs hk hU=>zue M n p a w' g gs hU hM ha) ?_
 conv=>whnf
 refine ⟨fun hc=>absurd hc zV,fun _=>?_⟩
 conv=>whnf
 refine ⟨fun hc=>absurd hc (by decide),fun _=>?_⟩
 conv=>whnf
 refine ⟨⟨by omega,by omega⟩,?_⟩
 conv=>whnf
 rw [show (List.map CV.v M.iV)[0+a.toNat*tsz Tryz.prog 5]?=some (.v (zem (M.code a))) by show (List.map CV.v M.iV)[0+a.toNat*1]?=_;rw [Nat.zero_add,Nat.mul_one];exact hget]
 conv=>whnf
 exact zmh rfl rfl (fun i o h=>h) (zt6 n p M) fun w' h1 h2=>⟨rfl,h1,h2⟩
structure SetP where
 r0:Int
 r1:Int
 r2:Int
 fill:Int
 vars:List Int
structure SetP.ok (x:SetP):Prop where
 fill:word x.fill
 len:x.vars.length=19
 word:∀ v∈x.vars,word v
def SetP.all (x:SetP):List Int:=x.vars++List.replicate 9 0
def SetP.right (x:SetP):Nat→Int
 |0=>x.r0
 |1=>x.r1
 |_=>x.r2
structure MemAt (w:World) (g n p:Nat) (M:MemP) (g1 g5:Nat):Prop where
 data:zac w Gs.nil g 0 [.slice (some ⟨g1,0,none⟩) n (n+M.td.length)]
 rights:zac w Gs.nil g 4 [.slice (some ⟨g5,0,none⟩) p (p+M.tr.length)]
 dat:∀ (i:Nat) (x:Int),M.data[i]?=some x→zac w Gs.nil g1 (0+(i:Int).toNat*1) [zem x]
 rig:∀ (i:Nat) (x:Int),M.rights[i]?=some x→zac w Gs.nil g5 (0+(i:Int).toNat*1) [intV x]
abbrev qiL (i:QI):List Value:=[intV i.op,intV i.d,intV i.a,intV i.b,.int .u32 i.imm]
abbrev qiV (i:QI):Value:= .agg #[intV i.op,intV i.d,intV i.a,intV i.b,.int .u32 i.imm]
abbrev formV (f:QForm):Value:= .agg #[.bool f.is,.bool f.d,.bool f.a,.bool f.b,.bool f.signed,intV f.bits,.int .u32 f.most]
theorem zw9 {op:Int} (h:0≤op∧op<64):op=0∨op=1∨op=2∨op=3∨op=4∨op=5∨op=6∨op=7∨op=8∨op=9∨op=10∨op=11∨op=12∨op=13∨op=14∨op=15∨op=16∨op=17∨op=18∨op=19∨op=20∨op=21∨op=22∨op=23∨op=24∨op=25∨op=26∨op=27∨op=28∨op=29∨op=30∨op=31∨op=32∨op=33∨op=34∨op=35∨op=36∨op=37∨op=38∨op=39∨op=40∨op=41∨op=42∨op=43∨op=44∨op=45∨op=46∨op=47∨op=48∨op=49∨op=50∨op=51∨op=52∨op=53∨op=54∨op=55∨op=56∨op=57∨op=58∨op=59∨op=60∨op=61∨op=62∨op=63:=by omega
theorem zv8 (op:Int) (w:World) (h:0≤op∧op<64):Calls Tryz.prog 85 #[intV op] w fun e w'=>e= .returned (formV (zz5 op))∧Below w.heap.size w w':=by
 rcases zw9 h with rfl|rfl|rfl|rfl|rfl|rfl|rfl|rfl|rfl|rfl|rfl|rfl|rfl|rfl|rfl|rfl|rfl|rfl|rfl|rfl|rfl|rfl|rfl|rfl|rfl|rfl|rfl|rfl|rfl|rfl|rfl|rfl|rfl|rfl|rfl|rfl|rfl|rfl|rfl|rfl|rfl|rfl|rfl|rfl|rfl|rfl|rfl|rfl|rfl|rfl|rfl|rfl|rfl|rfl|rfl|rfl|rfl|rfl|rfl|rfl|rfl|rfl|rfl|rfl
 all_goals
  refine zfj [intV _] Tryz.func85 Tryz.ntmps85 rfl zS ?_
  conv=>whnf
  repeat (first|(refine ⟨fun _=>?_,(fun h=>absurd h (by decide))⟩;(conv=>whnf))|(refine ⟨(fun h=>absurd h (by decide)),fun _=>?_⟩;(conv=>whnf)))
  exact zmj rfl fun w' hB=>⟨rfl,hB⟩
theorem z1n (n:Int) (u:Bool) (w:World):Calls Tryz.prog 153 #[intV n,.bool u] w fun e w'=>e= .returned (.bool (regB n u))∧Below w.heap.size w w':=by
 refine zfj [intV n,.bool u] Tryz.func153 Tryz.ntmps153 rfl zS ?_
 conv=>whnf
 refine ⟨fun h1=>?_,fun h1=>?_⟩
 ·conv=>whnf
  refine kA ?_
  cases u with
  |false=>
   refine kB ?_
   refine zmj rfl fun w' hB=>⟨?_,hB⟩
   have hn:n≠0:=(by simpa using h1);simp [regB,hn]
  |true=>
   refine kB ?_;generalize hz:decide (n>0)=z;have hn:n≠0:=(by simpa using h1)
   cases z with
   |false=>
    refine kB ?_
    refine zmj rfl fun w' hB=>⟨?_,hB⟩
    have:¬0<n:=(by simpa using hz);simp [regB,hn,this]
   |true=>
    refine kB ?_
    refine zmj rfl fun w' hB=>⟨?_,hB⟩
    have:0<n:=(by simpa using hz);simp [regB,hn,this]
 ·conv=>whnf
  refine kA ?_
  refine zmj rfl fun w' hB=>⟨?_,hB⟩
  have hn:n=0:=by simpa using h1
  simp [regB,hn]
theorem zer (l m:List Int):zeq (l++m)=zeq l++zeq m:=by
 have h:(zeq (l++m)).data=(zeq l++zeq m).data:=by
  apply Array.ext';rw [zet,List.map_append,ByteArray.data_append,Array.toList_append,zet,zet]
 exact ByteArray.ext h
section
variable {P:Program} {w0:World} {G:Gs} {N:Nd} {S:List Ow} {f:Fr} {o:Oper}
theorem zwy {K:Fr→List Ow→Prop} (h:QRun P w0 G S f o fun v=>K (f.put o.dst v) S) (hdst:zi8 N.n o.dst=true):OpS P w0 G N o f S K:=
 ⟨fun r a w hR hf hN hd next Q hK=>by
  obtain ⟨v,u,hk,hv,hrun⟩:=h.use hR hf
  exact ybh (hrun w (Below.refl _ _)) (hK _ _ _ _ hk ⟨r,hR,hf.put hv (by rw [hN];exact hdst),(zzq a _ _).trans hN,(zzn a _ _).trans hd⟩)⟩
theorem z0a {K:AV→Prop} {t t':TypeId} {x y:Operand} (l m:List Int) (hop:o.op= .binOp .add t x y t') (hx:f.ev x=one (strV l)) (hy:f.ev y=one (strV m)) (hlen:l.length+m.length≤9223372036854775807) (hk:K (one (strV (l++m)))):QRun P w0 G S f o K:=by
 refine ⟨_,hk,fun r a hf=>?_⟩;have h1:=hf.ev x;have h2:=hf.ev y;rw [hx] at h1;rw [hy] at h2;refine ⟨_,rfl,fun w hR=>?_⟩
 have hb:¬((((zeq l).size+(zeq m).size:Nat):Int)>IntKind.i64.max):=by
  rw [zeu,zeu];show ¬(_>(9223372036854775807:Int));omega
 have hb':¬(IntKind.i64.max<((zeq l).size:Int)+((zeq m).size:Int)):=by omega
 simp [execOp,hop,zi2 h1,zi2 h2,strV,binOp,Op.stringOp,eqGuard,zer]
 rw [zeu,zeu];omega
theorem z0q {K:AV→Prop} {t e:TypeId} {x:Operand} {lo hi:Option Operand} {inf:TypeInfo} (i off n c l h size:Nat) (hop:o.op= .slice t x lo hi none) (ht:P.underlying t=some (.slice e)) (hif:P.info? e=some inf) (hsz:inf.size=size) (hx:f.ev x= .p (.c (.sl i off n c)))
  (hl:(lo=none∧l=0)∨∃ y q,lo=some y∧f.ev y=one (.int q (l:Int))) (hh:(hi=none∧h=n)∨∃ y q,hi=some y∧f.ev y=one (.int q (h:Int))) (hlh:l≤h) (hhc:h≤c) (hlc:l<c) (hk:K (.p (.c (.sl i (off+l*size) (h-l) (c-l))))):QRun P w0 G S f o K:=by
 refine ⟨_,hk,fun r a hf=>?_⟩;have h1:=hf.ev x;rw [hx] at h1;obtain ⟨b,hb,hu⟩:=zi1 h1;refine ⟨.slice (some ⟨b,off+l*size,none⟩) (h-l) (c-l),?_,fun w hR=>?_⟩
 ·simp only [AV.den,Pc.den,CV.den];exact ⟨b,hb,rfl⟩
 ·have hrun:=z2s ht hif (some ⟨b,off,none⟩) n c l h (lo.map a.eval) (hi.map a.eval) (by
   rcases hl with ⟨rfl,rfl⟩|⟨y,q,rfl,hy⟩
   ·exact .inl ⟨rfl,rfl⟩
   ·have h2:=hf.ev y;rw [hy] at h2;exact .inr ⟨q,by simp [zi2 h2]⟩) (by
   rcases hh with ⟨rfl,rfl⟩|⟨y,q,rfl,hy⟩
   ·exact .inl ⟨rfl,rfl⟩
   ·have h2:=hf.ev y;rw [hy] at h2;exact .inr ⟨q,by simp [zi2 h2]⟩) hlh hhc w
  rw [if_neg zO] at hrun;simp [execOp,hop,hu,hrun,za0,hsz]
end
theorem zfh {P:Program} {N:Nat} {c:Code} {fn:Func} {R:Ending→World→Prop} {fid:FuncId} {w:World} {G:Gs} {S0:List Ow} {r0:Env} (avs:List AV) (args:List Value) (hf:P.funcs[fid]?=some fn) (hN:fn.ntmps=N) (hb:fn.body=some c) (hle:args.length≤N) (hR:Rel w G S0 r0 w) (hargs:zc1 r0 avs args)
  (h:SatQ P w G ⟨N,[]⟩ c (zb1 avs 0) S0 (bodyPostM Fence.wide 10 P fn R)):Calls P fid args.toArray w R:=by
 refine callsIn_wide.1 (callsIn_of_wp_marks (n:=10) hf hb trivial (h.out _ w ⟨r0,hR,fun i=>?_,by simp;omega,rfl⟩));refine zb2 (r:=r0) avs args 0 hargs (fun j u hj=>?_) i;rw [Nat.zero_add,Array.getD_eq_getD_getElem?,Array.getElem?_append_left (by simp;rcases Nat.lt_or_ge j args.length with h1|h1;exact h1;rw [List.getElem?_eq_none h1] at hj;cases hj)];have:args.toArray[j]?=some u:=(by simpa using hj);rw [this];rfl
theorem z3j {P:Program} {w0:World} {G:Gs} {N:Nd} {c:Code} {f:Fr} {S:List Ow} {Q:Exit→Act→World→Prop} {α:Type} (T:α→Fr) (J:α→World→Prop) (m:α→Nat) (x0:α) (hf:FLe (plF f) (T x0)) (hJ:∀ r w,Rel w0 G S r w→J x0 w) (hround:∀ x w,J x w→SatQ P w Gs.nil N c (T x) [] (zan N T J m (m x) Q)):SatQ P w0 G N (.loop c) f S Q:=
 z3i T J m x0 (fun r w hR=>⟨fun _a hf'=>hf.den (zyv hf'),hJ r w hR⟩) hround
section
variable {P:Program} {w0:World} {G:Gs} {N:Nd} {S:List Ow} {f:Fr} {o:Oper}
theorem z0i {K:AV→Prop} {t e:TypeId} {x ix:Operand} {q:IntKind} {i:TypeInfo} (b off n size:Nat) (k:Int) (hop:o.op= .indexAddr t x ix) (ht:P.underlying t=some (.array n e)) (hi:P.info? e=some i) (hsz:i.size=size) (hx:f.ev x=one (.pointer (some ⟨b,off,none⟩))) (hix:f.ev ix=one (.int q k)) (h0:0≤k) (h1:k<(n:Int)) (hk:K (one (.pointer (some ⟨b,off+k.toNat*size,none⟩)))):QRun P w0 G S f o K:=by
 refine ⟨_,hk,fun r a hf=>?_⟩;have h2:=hf.ev x;have h3:=hf.ev ix;rw [hx] at h2;rw [hix] at h3;refine ⟨_,ziz _ _,fun w hR=>?_⟩;have:=z2k ht hi (b:=b) (off:=off) (q:=q) h0 h1 w;simp [execOp,hop,zi2 h2,zi2 h3,this,hsz]
end
section
variable {P:Program} {w0:World} {G:Gs} {N:Nd} {c d:Code} {f:Fr} {S:List Ow} {Q:Exit→Act→World→Prop} {α:Type}
def MidW (N:Nd) (T:α→Fr) (J:α→World→Prop) (Q:Exit→Act→World→Prop):Exit→Act→World→Prop:=fun e a w=>match e with
 | .normal=>∃ y,FDen Env.none (T y) a∧a.tmps.size=N.n∧a.defers=N.ds∧J y w
 |e=>Q e a w
theorem z3l (T:α→Fr) (J:α→World→Prop) (hc:SatQ P w0 G N c f S (MidW N T J Q)) (hd:∀ y w,J y w→SatQ P w Gs.nil N d (T y) [] Q):SatQ P w0 G N (.seq c d) f S Q:=
 ⟨fun a w hg=>wpIn_seq (wpIn_mono (hc.out a w hg) fun e a' w' hq=>by
  cases e with
  |normal=>
   obtain ⟨y,hf,hN,hds,hJ⟩:=hq;exact (hd y w' hJ).out a' w' ⟨Env.none,z1w w',hf,hN,hds⟩
  |exit id=>exact hq
  |goto l=>exact hq
  |ret=>exact hq
  |panic ch=>exact hq
  |outgrown=>exact hq)⟩
theorem zca {T:α→Fr} {J:α→World→Prop} (y:α) (hf:FLe (plF f) (T y)) (hJ:∀ r w,Rel w0 G S r w→J y w):AtQ w0 G N .normal f S (MidW N T J Q):=
 ⟨fun _a w ⟨r,hR,hfd,hN,hds⟩=>⟨y,hf.den (zyv hfd),hN,hds,hJ r w hR⟩⟩
theorem zcj {T:α→Fr} {J:α→World→Prop} (h:AtQ w0 G N .ret f S Q):AtQ w0 G N .ret f S (MidW N T J Q):=⟨fun a w hg=>h.out a w hg⟩
end
structure BlkAt (w:World) (b:Blk) (A1 A2 A3:Option Addr):Prop where
 at_:SlAt w w.heap.size A1 (b.at_.map (.int .u32))
 pages:SlAt w w.heap.size A2 (b.pages.map (.int .i64))
 ops:OpsAt w w.heap.size A3 b.ops
theorem BlkAt.later {w w':World} {b:Blk} {A1 A2 A3:Option Addr} (h:BlkAt w b A1 A2 A3) (hB:Below w.heap.size w w'):BlkAt w' b A1 A2 A3:=⟨z6h h.at_ hB,z6h h.pages hB,z6h h.ops hB⟩
theorem zda {M:MemP} {a r:Int}:∀ {i k:Nat},M.bad a r i k=none→∀ j,i≤j→j<i+k→M.right ((a+j)%4294967296) r=true
 |i,0,_,j,h1,h2=>by omega
 |i,k+1,h,j,h1,h2=>by
  unfold MemP.bad at h
  split at h
  ·rename_i hr
   by_cases e:j=i
   ·rw [e];exact hr
   ·exact zda h j zO zO
  ·cases h
theorem z18 {M:MemP} {a r:Int} (h:M.right a r=true):a<(M.data.length:Int):=by
 unfold MemP.right at h;simp only [Bool.and_eq_true,decide_eq_true_eq] at h;exact h.1
def MemP.get (M:MemP) (x:Int):Int:=(M.data[x.toNat]?).getD 0
def MemP.load (M:MemP) (a:Int):Nat→Nat→Int
 |_,0=>0
 |i,k+1=>(M.load a (i+1) k*256+M.get ((a+i)%4294967296))%4294967296
def MemP.loadV (M:MemP) (a:Int) (m:Nat):Value:=match M.bad a 1 0 m with|none=>valV (M.load a 0 m) 0 true|some y=>valV 0 y false
theorem ztf (M:MemP) (a:Int) {i m:Nat} (h:i<m):M.load a i (m-i)=(M.load a (i+1) (m-(i+1))*256+M.get ((a+i)%4294967296))%4294967296:=by
 obtain ⟨k,hk⟩:∃ k,m-i=k+1:=⟨m-i-1,by omega⟩
 rw [hk,show m-(i+1)=k by omega];rfl
theorem zti (M:MemP) (a:Int) (i k:Nat):word (M.load a i k):=by
 cases k with
 |zero=>exact yax
 |succ k=>exact ya2 _
theorem zok {M:MemP} {n p:Nat} (hM:M.ok n p) {x:Int} (h0:0≤x) (hx:x<(n:Int)):(M.dV.map CV.v)[x.toNat]?=some (.v (zem (M.get x)))∧0≤M.get x∧M.get x<256:=by
 obtain ⟨y,hy⟩:∃ y,M.data[x.toNat]?=some y:=⟨_,List.getElem?_eq_getElem (by rw [hM.ld];omega)⟩
 have hb:=hM.db y (List.mem_of_getElem? hy);unfold MemP.get;rw [hy];exact ⟨z8i hy,hb⟩
theorem zuf (M:MemP) (n p:Nat) (a:Int) (m:Nat) (w:World) (g:Nat) (gs:List Nat) (hU:ObjsAt w (g::gs) (memS 0 n p M)) (hM:M.ok n p) (ha:word a) (hm:1≤m∧m≤4):
  Calls Tryz.prog 140 #[.pointer (some ⟨g,0,none⟩),.int .u32 a,.int .i64 (m:Int)] w fun e w'=>e= .returned (M.loadV a m)∧ObjsAt w' (g::gs) (memS 0 n p M)∧GrownBys w w' (g::gs):=by
 obtain ⟨g0,g1,g2,g3,g4,g5,hg⟩:=z56 hU;injection hg with hg0 hgs;subst hgs;subst hg0;refine zfd [.p (.c (.ref 0 0)),one (.int .u32 a),one (.int .i64 (m:Int))] [.pointer (some ⟨g,0,none⟩),.int .u32 a,.int .i64 (m:Int)] Tryz.func140 Tryz.ntmps140 rfl zS hU ⟨_,_,rfl,zix rfl,zc6 [.int .u32 a,.int .i64 (m:Int)]⟩ ?_;(conv=>whnf);refine ze4 (pre:=[]) (suf:=[one (.int .u32 a),one (.int .i64 (m:Int)),one (.int .i64 1)]) 0 n p M (zfz (M.bad a 1 0 m)) zt1 rfl rfl zK (fun w' g gs hk hU=>zt9 M n p a 1 m w' g gs hU hM ha (.inl rfl) hm) ?_
 cases hbad:M.bad a 1 0 m with
 |some y=>
  conv=>whnf
  refine ⟨fun hc=>absurd hc (by decide),fun _=>?_⟩
  conv=>whnf
  exact zmh rfl rfl zt2 (zt6 n p M) fun w' h1 h2=>⟨by unfold MemP.loadV;rw [hbad];rfl,h1,h2⟩
 |none=>
  (conv=>whnf);refine ⟨fun _=>?_,fun hc=>absurd hc (by decide)⟩;(conv=>whnf);refine ⟨_,wr64 zO,?_⟩;(conv=>whnf);have e0:M.load a m (m-m)=0:=(by rw [Nat.sub_self];rfl)
  refine ⟨{i:Nat//i≤m},fun x=>[(0,.p (.c (.ref 0 0))),(1,one (.int .u32 a)),(6,.p (.c (.ref 6 0))),(7,.p (.c (.ref 7 0))),(8,one (.int .i64 ((x.1:Int)-1)))],fun x=>memL 0 n p M [.cells 220 [.v (.int .u32 0),.v (.int .u32 0),.v (.bool false)],.cells 220 [.v (.int .u32 (M.load a x.1 (m-x.1))),.v (.int .u32 0),.v (.bool true)]],fun x=>x.1,
   ⟨⟨m,by omega⟩,zj7 rfl Tn (aI sM (aI sM (aI sM (aI sM (aI sM (aI sM (aI sM (aI ((aI rfl (Or.inl (by rw [e0])))) trivial))))))))⟩,fun x=>?_⟩
  obtain ⟨i,hi⟩:=x;dsimp only;(conv=>whnf);refine ⟨fun hc=>?_,fun hc=>?_⟩
  ·have hpos:0<i:=by simp at hc;omega
   obtain ⟨k,rfl⟩:∃ k,i=k+1:=⟨i-1,by omega⟩
   have hk:k<m:=(by omega);have hx:=z18 (zda hbad k zO zO);rw [hM.ld] at hx;have hx0:0≤(a+(k:Int))%4294967296:=(by omega);obtain ⟨hget,hb0,hb1⟩:=zok hM hx0 hx;have hst:=ztf M a hk;have hlw:word (M.load a (k+1) (m-(k+1))):=zti M a _ _;rw [show (((k+1:Nat):Int)-1)=(k:Int) by omega];have hl0:0≤M.load a (k+1) (m-(k+1)):=hlw.1;(conv=>whnf);refine z27 16 mixed zK ?_;(conv=>whnf);refine ⟨_,wr32 _,?_⟩;(conv=>whnf);refine ⟨(k:Int),by rw [wr32];omega,?_⟩;(conv=>whnf);refine ⟨(a+(k:Int))%4294967296,wr32 _,?_⟩;(conv=>whnf);refine ⟨⟨by omega,by omega⟩,?_⟩;(conv=>whnf);rw [show (List.map CV.v M.dV)[0+((a+(k:Int))%4294967296).toNat*tsz Tryz.prog 5]?=some (.v (zem (M.get ((a+k)%4294967296)))) by show (List.map CV.v M.dV)[0+((a+(k:Int))%4294967296).toNat*1]?=_;rw [Nat.zero_add,Nat.mul_one];exact hget];(conv=>whnf);refine ⟨M.get ((a+k)%4294967296),by rw [wr32];omega,?_⟩;(conv=>whnf);refine ⟨M.load a k (m-k),by rw [wr32,hst];omega,?_⟩;(conv=>whnf);refine ⟨_,wr64 zO,?_⟩;(conv=>whnf);exact ⟨⟨k,by omega⟩,zj7 rfl Tn Tn,by show k<k+1;omega⟩
  ·have hi0:i=0:=by simp at hc;omega
   subst hi0;(conv=>whnf);refine ⟨_,_,zj3,?_⟩;(conv=>whnf)
   exact zmh rfl rfl zt2 (zt6 n p M) fun w' h1 h2=>⟨by unfold MemP.loadV;rw [hbad];rfl,h1,h2⟩
inductive K5 where
 |k0|k1|k2|k3|k4
inductive KSt where
 |l0|l1|l2|l3
 |c (k:K5) (a b c d:Bool)
 |s1|s2|s3|s4
def K5.ge:K5→Nat→Bool
 | .k0,_=>false
 | .k1,i=>Nat.beq i 0
 | .k2,i=>Nat.blt i 2
 | .k3,i=>Nat.blt i 3
 | .k4,_=>true
def K5.left:K5→Nat
 | .k0=>4
 | .k1=>3
 | .k2=>2
 | .k3=>1
 | .k4=>0
def KSt.listed:KSt→Array Bool
 | .l0=> #[false,false,false,false,false,false,false,false,false,false,false,false,false,false,false,false]
 | .l1=> #[true,false,false,false,false,false,false,false,false,false,false,false,false,false,false,false]
 | .l2=> #[true,false,true,false,false,false,false,false,false,false,false,false,false,false,false,false]
 | .l3=> #[true,false,true,false,true,false,false,false,false,false,false,false,false,false,false,false]
 | .c k a b e d=> #[true,k.ge 0,true,k.ge 1,true,k.ge 2,true,k.ge 3,a,b,e,d,false,false,false,false]
 | .s1=> #[true,true,true,true,true,true,true,true,true,true,true,true,true,false,false,false]
 | .s2=> #[true,true,true,true,true,true,true,true,true,true,true,true,true,true,false,false]
 | .s3=> #[true,true,true,true,true,true,true,true,true,true,true,true,true,true,true,false]
 | .s4=> #[true,true,true,true,true,true,true,true,true,true,true,true,true,true,true,true]
def KSt.calls (a b e d:Bool):K5→List (Nat×KSt)
 | .k0=>[(1,.c .k1 a b e d)]
 | .k1=>[(3,.c .k2 a b e d)]
 | .k2=>[(5,.c .k3 a b e d)]
 | .k3=>[(7,.c .k4 a b e d)]
 | .k4=>[]
def KSt.box (i:Nat) (y:KSt):Bool→List (Nat×KSt)
 |false=>[(i,y)]
 |true=>[]
def KSt.last:K5→Bool→Bool→Bool→Bool→List (Nat×KSt)
 | .k4,true,true,true,true=>[(12,.s1)]
 |_,_,_,_,_=>[]
def KSt.nx:KSt→Nx KSt
 | .l0=> .q 0 .l1
 | .l1=> .q 2 .l2
 | .l2=> .q 4 .l3
 | .l3=> .q 6 (.c .k0 false false false false)
 | .c k a b e d=> .alts (KSt.calls a b e d k++(KSt.box 8 (.c k true b e d) a++(KSt.box 9 (.c k a true e d) b++(KSt.box 10 (.c k a b true d) e++(KSt.box 11 (.c k a b e true) d++KSt.last k a b e d)))))
 | .s1=> .alts [(13,.s2)]
 | .s2=> .alts [(14,.s3)]
 | .s3=> .alts [(15,.s4)]
 | .s4=> .done
def bleft:Bool→Nat
 |true=>0
 |false=>1
def KSt.left:KSt→Nat
 | .l0=>16
 | .l1=>15
 | .l2=>14
 | .l3=>13
 | .c k a b e d=>4+k.left+bleft a+bleft b+bleft e+bleft d
 | .s1=>3
 | .s2=>2
 | .s3=>1
 | .s4=>0
section
variable (P:Program) (W:World) (G:Gs) (N:Nd) {α:Type}
def altK (ops:Array Oper) (l:List Oper) (T:α→Fr) (U:α→List Ow) (x:α) (i:Nat) (y:α):Prop:=
 match l[i]? with
 |none=>False
 |some o=>(match zoz ops (T x) o with
  |some true=>opK P W G N o (T x) (U x) fun f' S'=>Ent W G N f' S' (T y) (U y)
  |_=>False)
end
section
variable {P:Program} {W:World} {G:Gs} {N:Nd} {l:List Oper} {T:KSt→Fr} {U:KSt→List Ow}
end
theorem zkg {P:Program} {d:Nat} {xs ys:Array Value} {f:Field} {fs:List Field} {w:World} {a b:Value} (hn:f.name≠ "_") (h1:(part f.type xs f.offset).run P w= .ok a w) (h2:(part f.type ys f.offset).run P w= .ok b w) (h3:(Op.equalIn d f.type a b).run P w= .ok true w):(Op.eqFields d xs ys (f::fs)).run P w=(Op.eqFields d xs ys fs).run P w:=by
 simp only [Op.eqFields,hn,ne_eq,not_false_eq_true,if_true,Sem.run_bind,h1,h2,h3,Result.andThen_ok,Bool.not_true,Bool.false_eq_true,if_false]
structure FOk (f:QForm):Prop where
 bits:f.bits=0∨f.bits=18∨f.bits=22
 most:0≤f.most∧f.most≤4
 sgn:f.signed=true→0<f.bits∧f.most=0
theorem znm (op:Int):FOk (zz5 op):=by
 obtain ⟨h1,h2,h3,h4,_⟩:=zz6 op;exact ⟨h1,⟨h2,h3⟩,h4⟩
theorem shl1 {b:Nat} (h:b=18∨b=22):IntKind.u32.wrap (1*2^(min (b:Int).toNat IntKind.u32.bits))=2^b:=by
 rcases h with rfl|rfl<;>rfl
theorem zg3 {b:Nat} (h:b=18∨b=22):IntKind.u64.wrap (b:Int)=(b:Int):=by
 rcases h with rfl|rfl<;>rfl
theorem z91 (i:QI) (w:World) (h:0≤i.op∧i.op<64) (hi:word i.imm):Calls Tryz.prog 96 #[qiV i] w fun e w'=>e= .returned (.bool (z9p i))∧Below w.heap.size w w':=by
 refine zfj [qiV i] Tryz.func96 Tryz.ntmps96 rfl zS ?_;(conv=>whnf);refine ze2 rfl zK (fun r w' _=>zv8 i.op w' h) ?_;have hf:=znm i.op;unfold z9p;generalize zz5 i.op=f at hf;(conv=>whnf)
 have e1:∀ (n:Int) (u:Bool),regB n u=true∨regB n u=false:=fun n u=>by cases regB n u<;>simp
 refine ⟨fun h1=>?_,fun h1=>?_⟩
 ·conv=>whnf
  refine zmj rfl fun w' hB=>⟨?_,hB⟩
  have:f.is=false:=by simpa using h1
  rw [this];rfl
 have his:f.is=true:=(by simpa using h1);(conv=>whnf);refine ze2 rfl zK (fun r w' _=>z1n i.d f.d w') ?_;(conv=>whnf);refine ze2 rfl zK (fun r w' _=>z1n i.a f.a w') ?_;(conv=>whnf);refine ze2 rfl zK (fun r w' _=>z1n i.b f.b w') ?_;rw [his];generalize regB i.d f.d=x1;generalize regB i.a f.a=x2;generalize regB i.b f.b=x3
 cases x1<;>cases x2<;>cases x3<;>((conv=>whnf);refine kA ?_)
 all_goals first|exact zmj rfl fun w' hB=>⟨rfl,hB⟩|skip
 obtain ⟨is,fd,fa,fb,fs,fbits,fmost⟩:=f;obtain ⟨hb,hm,hs⟩:=hf;dsimp only at hb hm hs his⊢;rcases hb with rfl|hb
 ·refine kA ?_
  conv=>whnf
  exact zmj rfl fun w' hB=>⟨rfl,hB⟩
 have hb0:¬fbits=0:=by omega
 refine ⟨fun hc=>absurd hc zV,fun _=>?_⟩
 conv=>whnf
 cases fs with
 |true=>
  refine kA ?_;(conv=>whnf);refine ze2 rfl zK (fun r w' _=>zmx i.imm fbits w' hi (.inr hb)) ?_;(conv=>whnf)
  refine zmj rfl fun w' hB=>⟨?_,hB⟩
  simp [immB,hb0]
 |false=>
  refine kA ?_;(conv=>whnf);refine ⟨fun hc=>?_,fun hc=>?_⟩
  ·conv=>whnf
   refine zmj rfl fun w' hB=>⟨?_,hB⟩
   have:0<fmost:=(by simpa using hc);simp [immB,hb0,this]
  ·conv=>whnf
   refine ⟨_,zg3 hb,?_⟩;(conv=>whnf);refine ⟨by omega,_,shl1 hb,?_⟩;(conv=>whnf)
   refine zmj rfl fun w' hB=>⟨?_,hB⟩
   have:¬0<fmost:=(by simpa using hc);simp [immB,hb0,this]
end Go.Proofs.YtocafomnnkmjfaaGreat
