import Derived.Test.YtocafomnnkmjfaaGreatK16
set_option maxRecDepth 100000
namespace Go.Proofs.YtocafomnnkmjfaaGreat
theorem ydh (l:List BOp):(l.flatMap opC).length=l.length*5:=by
 induction l with
 |nil=>rfl
 |cons o l ih=>simp [List.flatMap_cons,ih,opC];omega
theorem yd5 {α:Type} (p q:List α) (k:Nat) (u:α):(p++q).set (p.length+k) u=p++q.set k u:=by
 rw [List.set_append_right _ _ zO];congr 2;omega
theorem yd4 {α:Type}:∀ (us p q:List α) (k:Nat),z33 (p++q) (p.length+k) us=p++z33 q k us
 |[],p,q,k=>rfl
 |u::us,p,q,k=>by
  simp only [z33];rw [yd5];exact yd4 us p (q.set k u) (k+1)
theorem ydj:∀ {l:List BOp} {k:Nat} (o:BOp),k<l.length→z33 (l.flatMap opC) (k*5) (opC o)=(l.set k o).flatMap opC
 |[],k,o,h=>by simp at h
 |x::l,0,o,h=>by simp [List.flatMap_cons,opC,z33]
 |x::l,k+1,o,h=>by
  rw [List.flatMap_cons,show (k+1)*5=(opC x).length+k*5 by simp [opC];omega,yd4,ydj o (by simpa using h)];simp [List.flatMap_cons]
open Go.RowKit
theorem BodyOk.bin {l:List BOp} {W:Nat} {ch:Bool} (h:BodyOk l W ch) {c d a b:Int} (hc:3≤c∧c≤15) (hd:0≤d∧d<28∧d≠19) (ha:srcI W a) (hb:srcI W b):BodyOk (l++[⟨c,d,a,b,0⟩]) (if 20≤d then W|||2^d.toNat else W) (ch||decide (d<20)):=by
 have ha':=ha
 have hb':=hb
 obtain ⟨a1,a2,a3,a4⟩:=ha
 obtain ⟨b1,b2,b3,b4⟩:=hb
 have hD:hasD c=true:=by unfold hasD;rw [decide_eq_true_eq];omega
 have hA:hasA c=true:=by unfold hasA;rw [decide_eq_true_eq];omega
 have hB:hasB c=true:=by unfold hasB;rw [decide_eq_true_eq];omega
 have hI:isOp c=true:=by unfold isOp;rw [decide_eq_true_eq];omega
 have hL:leaves c=false:=by unfold leaves;rw [decide_eq_false_iff_not];omega
 have hS:stores c=false:=by unfold stores;rw [decide_eq_false_iff_not];omega
 have hw:writes ⟨c,d,a,b,0⟩=d:=by unfold writes;rw [if_pos hD]
 refine (h.snoc (o:=⟨c,d,a,b,0⟩) ⟨zun zU,zun zU,zun zU,zun zU,yat⟩ (by unfold zd7;rw [decide_eq_true_eq];dsimp only;omega) ?_ (fun h=>by rw [hL] at h;cases h) (fun v hv=>?_)).is ?_ ?_
 ·unfold znl
  dsimp only;rw [hI,hD,hA,hB,z6y ha',z6y hb'];have:zlx true d=true:=(by unfold zlx;rw [if_pos rfl,decide_eq_true_eq];omega);rw [this];simp
 ·rcases z1e hv with rfl|rfl
  ·exact ha'
  ·exact hb'
 ·unfold zuu;rw [hw]
 ·unfold zus
  rw [hw];dsimp only;rw [hS,Bool.false_or];congr 1;rw [decide_eq_decide];omega
theorem ycg {s:Ck} {o:BOp} (h:o.code≠23) (x:Bool):zfz s o false x=zfz s o false false:=by
 unfold zfz zys
 have:(o.code==23)=false:=by rw [beq_eq_false_iff_ne];exact h
 rw [this];rfl
theorem ych:∀ {l:List BOp} {s s':Ck} {rest:List BOp},ckL s l=some s'→(∀ o∈l,o.code≠23)→rest≠[]→zf6 s (l++rest)=zf6 s' rest
 |[],s,s',rest,h,_,_=>by injection h with h;subst h;rfl
 |o::l,s,s',rest,h,hc,hr=>by
  simp only [ckL] at h
  split at h
  ·rename_i s1 h1
   have ih:=ych h (fun p hp=>hc p (by simp [hp])) hr;show (match zfz s o (l++rest).isEmpty _ with|some s'=>zf6 s' (l++rest)|none=>none)=_;have he:(l++rest).isEmpty=false:=(by cases l<;>cases rest<;>simp_all);rw [he,ycg (hc o zS),h1];exact ih
  ·cases h
theorem yd7 {n:Int} (hn:word n) (ch:Bool):TailOk [⟨24,0,0,0,n⟩] ch:=by
 refine ⟨fun i W=>?_,fun o ho=>?_,by simp⟩
 ·cases ch<;>rfl
 ·simp at ho;subst ho
  exact ⟨zun zU,mid0,mid0,mid0,hn⟩
theorem ycy {a:Int} (h:0≤a∧a<19):zlx true a=true:=by unfold zlx;rw [if_pos rfl,decide_eq_true_eq];omega
theorem yea {a:Int} (ha:0≤a∧a<19) (ch:Bool):TailOk [⟨25,0,a,0,0⟩] ch:=by
 refine ⟨fun i W=>?_,fun o ho=>?_,by simp⟩
 ·have h1:znl ⟨25,0,a,0,0⟩=true:=by
   show (isOp 25&&zlx false 0&&zlx true a&&zlx false 0&&(false||true))=true;rw [ycy ha];rfl
  have h2:zys ⟨i,W,ch⟩ ⟨25,0,a,0,0⟩ true false=true:=by cases ch<;>rfl
  have h3:(reads ⟨25,0,a,0,0⟩).all (z0y ⟨i,W,ch⟩)=true:=by
   show ([a].all (z0y ⟨i,W,ch⟩))=true;have:a<20:=(by omega);simp [z0y,this]
  show (match zfz ⟨i,W,ch⟩ ⟨25,0,a,0,0⟩ true false with|some s'=>zf6 s' []|none=>none)=_;unfold zfz;rw [h1,h2,h3];show some (Ck.mk i W (ch||(false||false)))=_;simp
 ·simp at ho;subst ho
  exact ⟨zun zU,mid0,zun zU,mid0,yat⟩
theorem yd8 {a n m:Int} (ha:0≤a∧a<19) (hn:word n) (hm:word m) (ch:Bool):TailOk [⟨23,0,a,0,n⟩,⟨24,0,0,0,m⟩] ch:=by
 refine ⟨fun i W=>?_,fun o ho=>?_,by simp⟩
 ·have h1:znl ⟨23,0,a,0,n⟩=true:=by
   show (isOp 23&&zlx false 0&&zlx true a&&zlx false 0&&(true||_))=true;rw [ycy ha];rfl
  have h2:zys ⟨i,W,ch⟩ ⟨23,0,a,0,n⟩ false true=true:=by cases ch<;>rfl
  have h3:(reads ⟨23,0,a,0,n⟩).all (z0y ⟨i,W,ch⟩)=true:=by
   show ([a].all (z0y ⟨i,W,ch⟩))=true;have:a<20:=(by omega);simp [z0y,this]
  show (match zfz ⟨i,W,ch⟩ ⟨23,0,a,0,n⟩ false true with|some s'=>zf6 s' [⟨24,0,0,0,m⟩]|none=>none)=_
  have h4:zfz ⟨i,W,ch⟩ ⟨23,0,a,0,n⟩ false true=some ⟨i,W,ch⟩:=by
   unfold zfz;rw [h1,h2,h3];show some (Ck.mk i W (ch||(false||false)))=_;simp
  rw [h4];exact (yd7 hm ch).run i W
 ·simp at ho
  rcases ho with rfl|rfl
  ·exact ⟨zun zU,mid0,zun zU,mid0,hn⟩
  ·exact ⟨zun zU,mid0,mid0,mid0,hm⟩
theorem yd9:TailOk [⟨22,0,0,0,0⟩] false:=by
 refine ⟨fun i W=>rfl,fun o ho=>?_,by simp⟩;simp at ho;subst ho;exact ⟨zun zU,mid0,mid0,mid0,yat⟩
theorem yc3 {ats:List Int} {p:Int} {ops t:List BOp} {i W:Nat} {ch:Bool} (h:PreOk ops i W ch) (ht:TailOk t ch) (hi:1≤i) (hats:∀ x∈ats,word x) (hatl:ats.length=i) (hi2:i≤64) (hp:0≤p∧p<4096) (hlen:ops.length+t.length≤200):MadeOk ⟨ats,[p],ops++t⟩:=by
 refine ⟨⟨hats,fun x hx=>?_,fun o ho=>?_,?_,?_,?_⟩,?_,by simp;omega,by show 1≤10;omega⟩
 ·simp at hx;subst hx;unfold mid;omega
 ·rcases List.mem_append.1 ho with ho|ho
  ·exact (h.all o ho).1
  ·exact ht.all o ho
 ·show ats.length≤_;omega
 ·show 1≤_;omega
 ·show (ops++t).length≤_;simp;omega
 ·obtain ⟨o,l,h1,h2⟩:∃ o l,ops=o::l∧o.code=20:=by
   rcases h.head with ⟨h0,_⟩|h0
   ·omega
   ·exact h0
  have hrun:zf6 ⟨0,0,false⟩ (ops++t)=some ⟨i,W,ch⟩:=(by rw [ych h.run (fun o ho=>(h.all o ho).2) ht.ne];exact ht.run i W);unfold z9k;dsimp only;rw [hrun];have hpos:1≤(ops++t).length:=(by rw [h1];simp)
  have hh:zpm ⟨ats,[p],ops++t⟩=true:=by
   unfold zpm;dsimp only
   have e1:zx9 none [p]=true:=by
    show (decide (0≤p∧p<4096)&&true&&true)=true;simp;omega
   have e2:decide (1≤ats.length∧ats.length≤64)=true:=(by rw [decide_eq_true_eq];omega);have e3:decide (1≤(ops++t).length∧(ops++t).length≤2000)=true:=(by rw [decide_eq_true_eq];simp at hpos⊢;omega);rw [e1,e2,e3,h1];simp [h2]
  rw [hh];simp [hatl]
section
variable {P:Program} {w0:World} {G:Gs} {N:Nd} {f f':Fr} {S S':List Ow}
theorem yco (d:Nat) (e:TypeId) (size:Nat) (h:f.get d=one (.slice none 0 0)):Ent w0 G N f S ((d,.p (.c (.row S.length)))::f) (S++[.row e size 0 []]):=⟨fun a w ⟨r,hR,hf,hN,hd⟩=>by
 have hle:=hR.le_new none (some (.slice none 0 0));have hdd:=hf d;rw [h] at hdd;have hv:=zi0 hdd;refine ⟨r.set S.length none (some (.slice none 0 0)),hR.snoc (Below.refl _ _) nofun ⟨.slice none 0 0,by simp [Env.set],by simp [Env.set,Value.ownBlock],by simp,.inl ⟨rfl,rfl⟩⟩,fun k=>?_,hN,hd⟩;simp only [Fr.get]
 split
 ·rename_i hk
  have:=Nat.eq_of_beq_eq_true hk;subst this;simp only [AV.den,Pc.den,CV.den];rw [hv];simp [Env.set]
 ·exact (hf.mono hle) k⟩
end
section
variable {P:Program} {w0:World} {G:Gs} {fid:FuncId} {args:List AV} {S:List Ow} {K:AV→List Ow→Prop} {xs:List Value} {x:Value}
end
section
variable {P:Program} {ops:Array Oper} {md:Region.Mode} {C:World→Prop}
end
section
variable {P:Program} {w0:World} {G:Gs} {N:Nd} {ops:Array Oper} {S:List Ow} {r:Env} {w1:World}
end
section
variable {P:Program} {w0:World} {G:Gs} {fid:FuncId} {args:List AV} {S:List Ow} {K:AV→Prop} {xs:List Value} {x:Value}
end
theorem ycj {r:Env} {i:Nat} {u:Value} (h:AV.den r (.p (.c (.row i))) u):r.val i=some u:=by simpa only [AV.den,Pc.den,CV.den] using h
open Go.Maps (Keyed)
abbrev yc6 (b:Nat) (M:Obj):Ow:= .ext fun b' w=>b'=b∧w.heap[b]?=some M
section
variable (R:Value→Option (DataW Unit×List MemPlace)) (cd:Int→DataW Unit)
end
section
variable {R:Value→Option (DataW Unit×List MemPlace)} {mk:Int→Value} {cd:Int→DataW Unit} {good:Int→Prop}
variable {w0:World} {G:Gs} {N:Nd} {o:Oper} {f:Fr} {S:List Ow} {K:Fr→List Ow→Prop} {n:Nat} {m:Int→Option Int}
end
open Go.RowKit
theorem ydy {w0:World} {G:Gs} {S:List Ow} {r:Env} {w:World} (h:Rel w0 G S r w) {i:Nat} {o:Ow} (ho:o.holds r w i):Rel w0 G (S.set i o) r w:=by
 refine ⟨h.os,h.tape,h.output,h.size,h.old,fun j o' hj=>?_,h.inj,h.new,fun j hj=>h.outB j (by simpa using hj),fun j hj=>h.outV j (by simpa using hj),h.first⟩;rw [List.getElem?_set] at hj
 split at hj
 ·rename_i hij;subst hij
  split at hj
  ·injection hj with hj;subst hj;exact ho
  ·cases hj
 ·exact h.own j o' hj
section
variable {r:Env} {σ:Nat→Nat} {n:Nat}
end
end Go.Proofs.YtocafomnnkmjfaaGreat
namespace Go.Proofs
open Go.Shelf Go.Lib
end Go.Proofs
namespace Go.Proofs.YtocafomnnkmjfaaGreat
open Go.RowKit
theorem yc7 {x:BOp}:∀ v∈opC x,v.oneCell'=true:=by
 intro v hv;simp only [opC,List.mem_cons,List.not_mem_nil,or_false] at hv
 rcases hv with rfl|rfl|rfl|rfl|rfl<;>rfl
def ydr:Fr→Fr
 |[]=>[]
 |(d,x)::f=>match x.fx (fun _=>false) with|true=>(d,x)::ydr f|false=>(d,.p (.c .any))::ydr f
theorem yds {r:Env} {f:Fr} {a:Act} (hf:FDen r f a):FDen Env.none (ydr f) a:=by
 have key:∀ f:Fr,∀ k u,(f.get k).den r u→((ydr f).get k).den Env.none u:=by
  intro f
  induction f with
  |nil=>intro k u _;simp [ydr,Fr.get,AV.den,Pc.den,CV.den]
  |cons p f ih=>
   obtain ⟨d,x⟩:=p;intro k u h;unfold ydr
   cases hx:x.fx (fun _=>false)<;>cases hk:Nat.beq d k<;>simp only [Fr.get,hk] at h⊢
   ·exact ih k u h
   ·simp [AV.den,Pc.den,CV.den]
   ·exact ih k u h
   ·exact AV.den_fx (ok:=fun _=>false) (fun i b hi=>by cases hi) hx h
 exact fun k=>key f k _ (hf k)
section
variable (P:Program) (W:World) (N:Nd) (ops:Array Oper)
end
section
variable {P:Program} {W:World} {N:Nd} {ops:Array Oper}
end
theorem ycd {P:Program} {fid:FuncId} {fn:Func} {c:Code} {N:Nat} {w:World} {g:Nat} {t:TypeId} {us:List Value} (xs:List Value) (hf:P.funcs[fid]?=some fn) (hN:fn.ntmps=N) (hb:fn.body=some c) (hle:xs.length+1≤N) (hg:w.heap[g]?=some (.cells us.toArray t (0,0))) {R:Ending→World→Prop}
  (h:vc none P w ⟨[g],[]⟩ ⟨N,[]⟩ c (zb1 (.p (.c (.ref 0 0))::xs.map fun x=>AV.of x) 0) [.cells t (us.map .v)] (RetK P w ⟨[g],[]⟩ fn.results.toList R)):Calls P fid (.pointer (some ⟨g,0,none⟩)::xs).toArray w R:=
 zfi hf hN hb (z1u w hg) (avs:= .p (.c (.ref 0 0))::xs.map fun x=>AV.of x) (args:= .pointer (some ⟨g,0,none⟩)::xs) ⟨_,_,rfl,ziv (by simp [zka]),zc6 xs⟩ (by simpa using hle) h
section
variable (P:Program) (W:World) (N:Nd)
def yct (f:Fr) (T:List Ow) (o:Oper) (K:AV→Prop):Prop:=
 match o.op with
 | .move x=>zne (f.ev x) K
 | .assign x=>zne (f.ev x) K
 | .fieldAddr s x k=>(match f.ev x with
  | .p (.c (.ref i off))=>(match zm5 P s k with|some n=>K (.p (.c (.ref i (off+n))))|none=>False)
  |_=>(match opTy P o.op with|true=>qop P W Gs.nil [] (ydr f) o K|false=>False))
 | .build t parts=>zec P T f t parts K
 |_=>(match opTy P o.op with|true=>qop P W Gs.nil [] (ydr f) o K|false=>False)
def trK (ops:Array Oper) (l:List Oper):Tr→Fr→List Ow→(Fr→List Ow→Prop)→Prop
 | .done,f,T,K=>K f T
 | .no,_,_,_=>True
 | .q i t,f,T,K=>(match l[i]? with
  |none=>False
  |some o=>(match zi6 N.n o.dst with
   |false=>False
   |true=>(match zox ops f o with
    |some true=>yct P W f T o fun v=>f.putK o.dst v fun f'=>trK ops l t f' T K
    |some false=>f.putK o.dst (.p (.c .any)) fun f'=>trK ops l t f' T K
    |none=>False)))
 | .alt i t more,f,T,K=>(match l[i]? with
  |none=>False
  |some o=>(match zox ops f o with
   |some true=>opK P W Gs.nil N o f T fun f' T'=>trK ops l t f' T' K
   |_=>False))∧trK ops l more f T K
end
section
variable {P:Program} {W:World} {N:Nd} {ops:Array Oper} {l:List Oper}
theorem ycu {f:Fr} {T:List Ow} {o:Oper} {K:AV→Prop} (h:yct P W f T o K) {r:Env} {w:World} (hR:Rel W Gs.nil T r w) {a:Act} (hf:FDen r f a):
  ∃ v u,K v∧v.den r u∧∀ w',Below W.heap.size W w'→(execOp a.eval o).run P w'= .ok (.value u) w':=by
 have plain:(match opTy P o.op with|true=>qop P W Gs.nil [] (ydr f) o K|false=>False)→∃ v u,K v∧v.den r u∧∀ w',Below W.heap.size W w'→(execOp a.eval o).run P w'= .ok (.value u) w':=fun h=>by
  split at h
  ·rename_i hty
   obtain ⟨v,u,hK,hden,hrun⟩:=z0r h hty (z1s W) (yds hf);exact ⟨v,u,hK,AV.den_mono ⟨(fun i b h=>by cases h),(fun i b h=>by cases h)⟩ _ _ hden,hrun⟩
  ·exact h.elim
 unfold yct at h
 split at h
 ·rename_i x hop
  exact ⟨_,_,znf.1 h,hf.ev x,fun w' _=>by simp [execOp,hop]⟩
 ·rename_i x hop
  exact ⟨_,_,znf.1 h,hf.ev x,fun w' _=>by simp [execOp,hop]⟩
 ·rename_i s x k hop
  split at h
  ·rename_i i off he
   split at h
   ·rename_i n hn
    have hx:=hf.ev x;rw [he] at hx;obtain ⟨b,hb,hu⟩:=ziy hx;exact ⟨_,_,h,ziv hb,fun w' _=>by simp [execOp,hop,hu,z2e hn]⟩
   ·exact h.elim
  ·exact plain h
 ·rename_i t parts hop
  obtain ⟨v,u,hK,hd,hrun⟩:=zed hR hf h;exact ⟨v,u,hK,hd,fun w' _=>by simp [execOp,hop,hrun w']⟩
 ·exact plain h
theorem yee (hl:∀ i:Nat,l[i]?=ops[i]?) (hns:Region.noSelect ops=true) {K:Fr→List Ow→Prop} {Q:Exit→Act→World→Prop} (hQ0:∀ c a w,¬Q (.panic c) a w) (hQ:∀ f T a w,K f T→Good W Gs.nil N f T a w→Q .normal a w):
  ∀ (t:Tr) (inner:Bool) (listed:Array Bool) (f:Fr) (T:List Ow) (n:Nat),t.ok ops inner listed=true→t.depth≤n→trK P W N ops l t f T K→∀ a w,Good W Gs.nil N f T a w→
   (inner=false→wpAnyH P .any ops Q (fun w'=>Below W.heap.size W w') n listed a w)∧
   (∀ m,n=m+1→∀ i∈t.alts,wpOp P ops Q i (fun a' w'=>Below W.heap.size W w'∧wpAnyH P .any ops Q (fun w'=>Below W.heap.size W w') m (listed.setIfInBounds i true) a' w') a w)
 | .done,inner,listed,f,T,n,hB,_,h,a,w,hg=>by
  refine ⟨fun _=>wpAnyH_done (by simp [Tr.ok] at hB;exact hB.2) (hQ f T a w h hg) _,fun m _ i hi=>by cases hi⟩
 | .no,inner,listed,f,T,n,hB,_,h,a,w,hg=>by
  refine ⟨fun he=>?_,fun m _ i hi=>by cases hi⟩;simp [Tr.ok] at hB;rw [hB] at he;cases he
 | .q i t,inner,listed,f,T,n,hB,hn,h,a,w,hg=>by
  refine ⟨fun _=>?_,fun m _ i hi=>by cases hi⟩;simp only [Tr.ok,Bool.and_eq_true] at hB;obtain ⟨⟨⟨_,hB1⟩,hB2⟩,hB3⟩:=hB;simp only [Tr.depth] at hn
  obtain ⟨n,rfl⟩:∃ k,n=k+1:=⟨n-1,by omega⟩
  unfold trK at h
  split at h
  ·exact h.elim
  ·rename_i o ho
   rw [hl] at ho
   split at h
   ·exact h.elim
   ·rename_i hdst
    obtain ⟨r,hR,hf,hN,hd⟩:=hg
    split at h
    ·rename_i hgd
     have hw:=zo1 hf hgd;obtain ⟨v,u,hK,hden,hrun⟩:=ycu h hR hf;have hK:=zza.1 hK;refine wpAnyH_take (v:=u) ho hns hB1 hB2 (fun c a w h=>absurd h (hQ0 c _ w)) (.inl ⟨hw,hrun⟩) hR.toBelow ?_;exact (yee hl hns hQ0 hQ t false _ _ T n hB3 zO hK _ w ⟨r,hR,hf.put hden (by rw [hN];exact hdst),(zzm a _ _).trans hN,(zzj a _ _).trans hd⟩).1 rfl
    ·rename_i hgd
     have hw:=zo1 hf hgd;have hK:=zza.1 h;refine wpAnyH_take (v:=undef) ho hns hB1 hB2 (fun c a w h=>absurd h (hQ0 c _ w)) (.inr ⟨hw,rfl⟩) hR.toBelow ?_;exact (yee hl hns hQ0 hQ t false _ _ T n hB3 zO hK _ w ⟨r,hR,hf.putAny _ (by rw [hN];exact hdst),(zzm a _ _).trans hN,(zzj a _ _).trans hd⟩).1 rfl
    ·exact h.elim
 | .alt i t more,inner,listed,f,T,n,hB,hn,h,a,w,hg=>by
  simp only [Tr.ok,Bool.and_eq_true] at hB;obtain ⟨⟨hB1,hB2⟩,hB3⟩:=hB;simp only [Tr.depth] at hn;unfold trK at h;obtain ⟨h1,h2⟩:=h
  have all:∀ m,n=m+1→∀ j∈(Tr.alt i t more).alts,wpOp P ops Q j (fun a' w'=>Below W.heap.size W w'∧wpAnyH P .any ops Q (fun w'=>Below W.heap.size W w') m (listed.setIfInBounds j true) a' w') a w:=by
   intro m hm j hj;simp only [Tr.alts,List.mem_cons] at hj;rcases hj with rfl|hj
   ·split at h1
    ·exact h1.elim
    ·rename_i o ho
     rw [hl] at ho;obtain ⟨r,hR,hf,hN,hd⟩:=hg
     split at h1
     ·rename_i hgd
      have hw:=zo1 hf hgd;unfold wpOp;simp only [ho,hw,if_true];refine .inl (z3x ((zwt h1).out r a w hR hf hN hd (fun a' w'=>Below W.heap.size W w'∧wpAnyH P .any ops Q (fun w'=>Below W.heap.size W w') m (listed.setIfInBounds j true) a' w') Q fun f' T' a' w' hk hg'=>?_) fun _ _ h=>h);refine ⟨?_,(yee hl hns hQ0 hQ t false _ f' T' m hB2 zO hk a' w' hg').1 rfl⟩;obtain ⟨r',hR',_⟩:=hg';exact hR'.toBelow
     ·exact h1.elim
   ·exact (yee hl hns hQ0 hQ more true listed f T n hB3 zO h2 a w hg).2 m hm j hj
  refine ⟨fun he=>?_,all⟩
  obtain ⟨m,rfl⟩:∃ k,n=k+1:=⟨n-1,by omega⟩
  have hr:Region.ready .any ops listed=(Tr.alt i t more).alts:=by
   rw [he] at hB1
   simpa [Tr.alts] using hB1
  exact wpAnyH_all hr (by simp [Tr.alts]) (all m rfl)
theorem yd1 {id:Nat} {l:List Oper} {f:Fr} {S:List Ow} {K:Exit→Fr→List Ow→Prop} (t:Tr) (hm:P.follows .mixedOrders=true) (hns:Region.noSelect l.toArray=true) (hB:(t.ok l.toArray false (Array.replicate l.toArray.size false)&&Nat.ble t.depth l.length)=true)
  (h:trK P W N l.toArray l t f S (K .normal)):Sat none P W Gs.nil N (.region id l.toArray true) f S K:=by
 refine ⟨fun n a w ⟨r,hR,hf,hN,hd⟩=>wpIn_wide.2 ?_⟩;simp only [Bool.and_eq_true] at hB;refine Code.wp_mono (Q:=fun e a w=>match e with| .normal=>zal W Gs.nil N K .normal a w|_=>False) (fun e a w h=>by cases e<;>first|exact h|exact h.elim) (wp_region_held (S:=fun w'=>Below W.heap.size W w') hm ?_);have:=(yee (P:=P) (W:=W) (N:=N) (Q:=fun e a w=>match e with| .normal=>zal W Gs.nil N K .normal a w|_=>False) (fun i=>by simp) hns (fun c a w h=>h) (fun f T a w hk hg=>⟨f,T,hk,hg⟩) t false _ f S l.length hB.1 (Nat.le_of_ble_eq_true hB.2) h a w.drew ⟨r,hR.drew,hf,hN,hd⟩).1 rfl
 simpa using this
end
section
variable {w0:World} {G:Gs} {S:List Ow} {r:Env} {w:World}
theorem Rel.snocG (h:Rel w0 G S r w) {i g:Nat} (hi:r.blk i=some g) {w':World} (hg:w.grownBy w' (some g)) {o1 o:Ow} {b:Option Nat} {v:Option Value} (hnb:∀ x,b=some x→w.heap.size≤x∧x<w'.heap.size) (ho1:o1.holds (r.set S.length b v) w' i) (ho:o.holds (r.set S.length b v) w' S.length):
  Rel w0 G (S.set i o1++[o]) (r.set S.length b v) w':=by
 have hle:=h.le_new b v;have hil:=h.lt_of_blk hi;have hlen:(S.set i o1).length=S.length:=(by simp);refine ⟨hg.os.trans h.os,hg.tape.trans h.tape,hg.output.trans h.output,Nat.le_trans h.size hg.size,fun k hk hkG=>?_,fun j o' hj=>?_,fun a c x hx hy=>?_,fun a x hx=>?_,fun a ha=>?_,fun a ha=>?_,fun a x hx=>hle.blk _ _ (h.first a x hx)⟩
 ·rw [hg.block k (Nat.lt_of_lt_of_le hk h.size) (fun e=>by injection e with e;subst e;exact hkG ((h.new i k hi).2 hk))]
  exact h.old k hk hkG
 ·rcases zol hj with ⟨h1,h2⟩|⟨h1,h2⟩
  ·by_cases hij:i=j
   ·subst hij
    rw [List.getElem?_set_self hil] at h2;injection h2 with h2;subst h2;exact ho1
   ·rw [List.getElem?_set_ne hij] at h2
    refine Ow.holds_block (Ow.holds_mono hle (h.own j o' h2) (by simp only [Env.set];rw [if_neg zO]) (fun k x hk=>?_)) (fun x hx=>?_) hg.size (fun x hx hno=>hg.block x hx (fun e=>by injection e with e;subst e;exact hno i (hle.blk _ _ hi)))
    ·simp only [Env.set] at hk
     split at hk
     ·exact .inr (hnb x hk).1
     ·exact .inl hk
    ·simp only [Env.set] at hx
     rw [if_neg zO] at hx;exact hg.block x (h.new j x hx).1 (fun e=>by injection e with e;subst e;exact hij (h.inj i j _ hi hx))
  ·rw [hlen] at h1
   subst h1;subst h2;exact ho
 ·simp only [Env.set] at hx hy
  split at hx<;>split at hy
  ·omega
  ·have h1:=(hnb x hx).1
   have h2:=(h.new _ _ hy).1;omega
  ·have h1:=(hnb x hy).1
   have h2:=(h.new _ _ hx).1;omega
  ·exact h.inj _ _ _ hx hy
 ·simp only [Env.set] at hx
  split at hx
  ·refine ⟨(hnb x hx).2,fun hlt=>?_⟩
   have:=(hnb x hx).1;have:=h.size;omega
  ·exact ⟨Nat.lt_of_lt_of_le (h.new a x hx).1 hg.size,(h.new a x hx).2⟩
 ·simp only [List.length_append,hlen,List.length_cons,List.length_nil] at ha
  simp only [Env.set];rw [if_neg zO];exact h.outB a zO
 ·simp only [List.length_append,hlen,List.length_cons,List.length_nil] at ha
  simp only [Env.set];rw [if_neg zO];exact h.outV a zO
end
theorem yb8 {P:Program} {w0:World} {G:Gs} {fid:FuncId} {S:List Ow} {K:AV→List Ow→Prop} {t:TypeId} {us:List Value} {args:List AV} {xs:List Value} (ety:TypeId) (size:Nat) (post:Nat→List Value→List Value→Prop) (i:Nat) (hi:S[i]?=some (.cells t (us.map .v))) (hx:avals args=some xs) (hok:fnOk P fid=true)
  (h:∀ w g,zak w0 G w g→w.heap[g]?=some (.cells us.toArray t (0,0))→Calls P fid (.pointer (some ⟨g,0,none⟩)::xs).toArray w fun e w'=>∃ v n ys us',post n ys us'∧e= .returned v∧w'.ownsRow w.heap.size ety size v n ys∧w'.heap[g]?=some (.cells us'.toArray t (0,0))∧w.grownBy w' (some g))
  (hK:∀ n ys us',post n ys us'→K (.p (.c (.row S.length))) (S.set i (.cells t (us'.map .v))++[.row ety size n ys])):CallS P w0 G fid (.p (.c (.ref i 0))::args) S K:=by
 refine ⟨hok,fun r w vs hR hd=>?_⟩;obtain ⟨u1,l1,rfl,d1,d2⟩:=hd;obtain rfl:=zcs hx d2;obtain ⟨g,hb,rfl⟩:=ziy d1;obtain ⟨b',us1,e1,e2,e3⟩:=hR.own i _ hi;rw [hb] at e1;injection e1 with e1;subst e1;obtain rfl:=ziq e3;refine (h w g (hR.oldKeep hb) e2).mono fun e w' ⟨v,n,ys,us',hp,he,hown,hg,hgr⟩=>?_;exact ⟨.p (.c (.row S.length)),v,_,r.set S.length v.ownBlock (some v),he,by simp [AV.den,Pc.den,CV.den,Env.set],hR.snocG (o1:= .cells t (us'.map .v)) (o:= .row ety size n ys) hb hgr (zx1 hown) ⟨g,us',(hR.le_new _ _).blk _ _ hb,hg,zip us'⟩ ⟨v,by simp [Env.set],by simp [Env.set],zxy hown (Nat.zero_le _)⟩,hR.le_new _ _,hK n ys us' hp⟩
theorem ycr {w0:World} {g j:Nat} {S:List Ow} {t e:TypeId} {us:List Value} {size n:Nat} {xs:List Value} {R:Ending→World→Prop} (h0:S[0]?=some (.cells t (us.map .v))) (hj:S[j]?=some (.row e size n xs)) (hj0:0<j)
  (h:∀ w v,w.heap[g]?=some (.cells us.toArray t (0,0))→w0.grownBy w (some g)→w.ownsRow w0.heap.size e size v n xs→R (.returned v) w):Fin w0 ⟨[g],[]⟩ S (.p (.c (.row j))) R:=by
 refine ⟨fun r w u hR hd=>?_⟩;have hu:=ycj hd;obtain ⟨b,us',e1,e2,e3⟩:=hR.own 0 _ h0;have hfirst:=hR.first 0 g rfl;rw [hfirst] at e1;injection e1 with e1;subst e1;obtain rfl:=ziq e3;obtain ⟨v,f1,f2,f3⟩:=hR.own j _ hj;rw [hu] at f1;injection f1 with f1;subst f1;refine h w u e2 hR.grown ⟨f3.1,?_⟩;rcases f3.2 with h1|⟨b',cap,cur,h1,_,h2⟩
 ·exact .inl h1
 ·refine .inr ⟨b',cap,cur,h1,?_,h2⟩
  have hb:r.blk j=some b':=by rw [← f2,h1];rfl
  rcases Nat.lt_or_ge b' w0.heap.size with h3|h3
  ·have h4:=(hR.new j b' hb).2 h3
   rcases h4 with h4|h4
   ·simp at h4;subst h4
    have:=hR.inj 0 j _ hfirst hb;omega
   ·cases h4
  ·exact h3
section
variable {P:Program} {w0:World} {G:Gs} {N:Nat} {c d:Code} {f:Fr} {S:List Ow} {Q:Exit→Act→World→Prop} {fn:Func} {R:Ending→World→Prop}
end
def ycw (P:Program) (W:World) (G:Gs) (N:Nd) (ops:Array Oper):List Oper→Fr→List Ow→(Fr→List Ow→Prop)→Prop
 |[],f,S,K=>K f S
 |o::l,f,S,K=>(match zox ops f o with
  |some true=>opK P W G N o f S fun f' S'=>ycw P W G N ops l f' S' K
  |some false=>(match zi6 N.n o.dst with
   |true=>f.putK o.dst (.p (.c .any)) fun f'=>ycw P W G N ops l f' S K
   |false=>False)
  |none=>False)
section
variable {P:Program} {w0:World} {G:Gs} {N:Nd} {c d:Code} {f:Fr} {S:List Ow} {Q:Exit→Act→World→Prop}
theorem ycx {ops:Array Oper} {Q:Act→World→Prop}:∀ (l:List Oper) (f:Fr) (S:List Ow) (K:Fr→List Ow→Prop),ycw P w0 G N ops l f S K→(∀ f' S' a' w',K f' S'→Good w0 G N f' S' a' w'→Q a' w')→
  ∀ a w,Good w0 G N f S a w→seL P ops Q l a w
 |[],f,S,K,h,hK,a,w,hg=>hK _ _ _ _ h hg
 |o::l,f,S,K,h,hK,a,w,hg=>by
  obtain ⟨r,hR,hf,hN,hd⟩:=hg;unfold ycw at h
  split at h
  ·rename_i hgd
   have hw:=zo1 hf hgd;unfold seL;rw [if_pos hw];exact (zwt h).out r a w hR hf hN hd _ (fun _ _ _=>True) fun f' S' a' w' hk hg'=>ycx l f' S' K hk hK a' w' hg'
  ·rename_i hgd
   have hw:=zo1 hf hgd
   split at h
   ·rename_i hdst
    have hk:=zza.1 h;unfold seL;rw [if_neg (by rw [hw];decide)];exact ycx l _ S K hk hK _ w ⟨r,hR,hf.putAny _ (by rw [hN];exact hdst),(zzm a _ _).trans hN,(zzj a _ _).trans hd⟩
   ·exact h.elim
  ·exact h.elim
theorem yd3 {id:Nat} {ops:Array Oper} (h:ycw P w0 G N ops ops.toList f S fun f' S'=>AtQ w0 G N .normal f' S' Q):SatQ P w0 G N (.region id ops false) f S Q:=
 ⟨fun a w hg=>wpIn_region_list (z3w none 10 (ycx _ f S _ h (fun _f' _S' a' w' hk hg'=>hk.out a' w' hg') a w hg))⟩
theorem ycn (i j:Nat) (e:TypeId) (size:Nat) {t:TypeId} {l:List CV} {f':Fr} (hi:S[i]?=some (.cells t l)) (hj:l[j]?=some (.v (.slice none 0 0))) (hf:FLe f f'):Ent w0 G N f S f' (S.set i (.cells t (l.set j (.row S.length)))++[.row e size 0 []]):=⟨fun a w ⟨r,hR,hd,hN,hdf⟩=>by
 obtain ⟨b,us,h1,h2,h3⟩:=hR.own i _ hi;have hle:=hR.le_new none (some (.slice none 0 0));have hil:=hR.lt_of_blk h1;have hR2:=hR.snoc (o:= .row e size 0 []) (Below.refl _ _) (b:=none) (v:=some (.slice none 0 0)) nofun ⟨.slice none 0 0,by simp [Env.set],by simp [Env.set,Value.ownBlock],by simp,.inl ⟨rfl,rfl⟩⟩;refine ⟨r.set S.length none (some (.slice none 0 0)),?_,hf.den (hd.mono hle),hN,hdf⟩;obtain ⟨u,hu,hdu⟩:=zid h3 hj;simp only [CV.den] at hdu;subst hdu
 have hus:us=us.set j (.slice none 0 0):=by
  refine List.ext_getElem? fun k=>?_;rw [List.getElem?_set]
  split
  ·rename_i hk;subst hk
   split
   ·exact hu
   ·rename_i hlt;rw [List.getElem?_eq_none zO] at hu;cases hu
  ·rfl
 have:=ydy hR2 (i:=i) (o:= .cells t (l.set j (.row S.length))) ⟨b,us,hle.blk _ _ h1,h2,by rw [hus];exact zil j (zij hle _ _ h3) (by simp [CV.den,Env.set])⟩
 rwa [List.set_append_left _ _ hil] at this⟩
end
def env3 (r:Env) (n:Nat) (v1 v2 v3:Value):Env:=⟨fun i=>if i<n then r.blk i else if i=n then v1.ownBlock else if i=n+1 then v2.ownBlock else if i=n+2 then v3.ownBlock else Option.none,fun i=>if i<n then r.val i else if i=n then some v1 else if i=n+1 then some v2 else if i=n+2 then some v3 else Option.none⟩
theorem ycp {r:Env} {n:Nat} {v1 v2 v3:Value} {i x:Nat} (hi:n≤i) (h:(env3 r n v1 v2 v3).blk i=some x):(i=n∧v1.ownBlock=some x)∨(i=n+1∧v2.ownBlock=some x)∨(i=n+2∧v3.ownBlock=some x):=by
 simp only [env3] at h;rw [if_neg zO] at h
 split at h
 ·exact .inl ⟨‹_›,h⟩
 ·split at h
  ·exact .inr (.inl ⟨‹_›,h⟩)
  ·split at h
   ·exact .inr (.inr ⟨‹_›,h⟩)
   ·cases h
abbrev yb5 (b:Blk):List Ow:=[.row 41 1 b.at_.length (b.at_.map (.int .u32)),.row 3 1 b.pages.length (b.pages.map (.int .i64)),.row 61 5 b.ops.length (b.ops.flatMap opC)]
theorem Rel.rows3 {w0:World} {G:Gs} {S:List Ow} {r:Env} {w w':World} (h:Rel w0 G S r w) (hb:Below w.heap.size w w') {v1 v2 v3:Value} {b:Blk} (h3:Rows3 w.heap.size w' v1 v2 v3 b):Rel w0 G (S++yb5 b) (env3 r S.length v1 v2 v3) w'∧r.le (env3 r S.length v1 v2 v3)∧(env3 r S.length v1 v2 v3).val S.length=some v1∧(env3 r S.length v1 v2 v3).val (S.length+1)=some v2∧(env3 r S.length v1 v2 v3).val (S.length+2)=some v3:=by
 have hv1:(env3 r S.length v1 v2 v3).val S.length=some v1:=by simp [env3]
 have hv2:(env3 r S.length v1 v2 v3).val (S.length+1)=some v2:=by simp only [env3];rw [if_neg zO,if_neg zO,if_pos trivial]
 have hv3:(env3 r S.length v1 v2 v3).val (S.length+2)=some v3:=by simp only [env3];rw [if_neg zO,if_neg zO,if_neg zO,if_pos trivial]
 have hb1:(env3 r S.length v1 v2 v3).blk S.length=v1.ownBlock:=by simp [env3]
 have hb2:(env3 r S.length v1 v2 v3).blk (S.length+1)=v2.ownBlock:=by simp only [env3];rw [if_neg zO,if_neg zO,if_pos trivial]
 have hb3:(env3 r S.length v1 v2 v3).blk (S.length+2)=v3.ownBlock:=by simp only [env3];rw [if_neg zO,if_neg zO,if_neg zO,if_pos trivial]
 have:=h.snocs hb (yb5 b) (env3 r S.length v1 v2 v3) (fun i hi=>by simp only [env3];rw [if_pos hi,if_pos hi];exact ⟨rfl,rfl⟩) (fun i x hi hx=>?_) (fun i j x hi hj hx hy=>?_) (fun i hi=>?_) (fun j o hj=>?_)
 ·exact ⟨this.1,this.2,hv1,hv2,hv3⟩
 ·rcases ycp hi hx with ⟨_,e⟩|⟨_,e⟩|⟨_,e⟩
  ·exact zx1 h3.at_ x e
  ·exact zx1 h3.pages x e
  ·exact zx1 h3.ops x e
 ·rcases ycp hi hx with ⟨e1,e⟩|⟨e1,e⟩|⟨e1,e⟩<;>rcases ycp hj hy with ⟨e2,e'⟩|⟨e2,e'⟩|⟨e2,e'⟩
  ·omega
  ·exact absurd e' (h3.d12 x e)
  ·exact absurd e' (h3.d13 x e)
  ·exact absurd e (h3.d12 x e')
  ·omega
  ·exact absurd e' (h3.d23 x e)
  ·exact absurd e (h3.d13 x e')
  ·exact absurd e (h3.d23 x e')
  ·omega
 ·simp only [List.length_cons,List.length_nil] at hi
  simp only [env3];rw [if_neg zO,if_neg zO,if_neg zO,if_neg zO,if_neg zO,if_neg zO,if_neg zO,if_neg zO];exact ⟨rfl,rfl⟩
 ·rcases j with _|_|_|j
  ·simp at hj;subst hj;exact ⟨v1,hv1,hb1.symm,zxy h3.at_ (Nat.zero_le _)⟩
  ·simp at hj;subst hj;exact ⟨v2,hv2,hb2.symm,zxy h3.pages (Nat.zero_le _)⟩
  ·simp at hj;subst hj;exact ⟨v3,hv3,hb3.symm,zxy h3.ops (Nat.zero_le _)⟩
  ·simp at hj
theorem yb6 {P:Program} {w0:World} {G:Gs} {fid:FuncId} {args:List AV} {S:List Ow} {K:AV→List Ow→Prop} (post:Blk→Prop) (hok:fnOk P fid=true)
  (h:∀ r w us,Rel w0 G S r w→zc1 r args us→Calls P fid us.toArray w fun en w'=>∃ b v1 v2 v3,post b∧en= .returned (.agg #[v1,v2,v3])∧Rows3 w.heap.size w' v1 v2 v3 b∧Below w.heap.size w w')
  (hK:∀ b,post b→K (.p (.agg [.row S.length,.row (S.length+1),.row (S.length+2)])) (S++yb5 b)):CallS P w0 G fid args S K:=by
 refine ⟨hok,fun r w us hR hd=>?_⟩;refine (h r w us hR hd).mono fun en w' ⟨b,v1,v2,v3,hp,he,h3,hB⟩=>?_;obtain ⟨k1,k2,k3,k4,k5⟩:=hR.rows3 hB h3;refine ⟨.p (.agg [.row S.length,.row (S.length+1),.row (S.length+2)]),_,_,_,he,⟨[v1,v2,v3],rfl,?_⟩,k1,k2,hK b hp⟩;simp only [denL,CV.den];exact ⟨_,_,rfl,k3,_,_,rfl,k4,_,_,rfl,k5,rfl⟩
def yb0 (S:List Ow) (x:CV) (i:Nat) (e:TypeId) (size n:Nat) (xs:List Value):Prop:=
 (x= .row i∧S[i]?=some (.row e size n xs))∨(x= .sl i 0 n n∧S[i]?=some (.cells e (xs.map .v))∧xs.length=n*size∧n≤maxLen)
theorem ydz {w0 w:World} {S:List Ow} {r:Env} (hR:Rel w0 Gs.nil S r w) {x:CV} {i:Nat} {e:TypeId} {size n:Nat} {xs:List Value} (h:yb0 S x i e size n xs) {u:Value} (hd:x.den r u):w.ownsRow w0.heap.size e size u n xs∧u.ownBlock=r.blk i:=by
 have hnew:∀ g,r.blk i=some g→w0.heap.size≤g:=fun g hg=>by
  rcases Nat.lt_or_ge g w0.heap.size with h3|h3
  ·have:=(hR.new i g hg).2 h3;simp at this
  ·exact h3
 rcases h with ⟨rfl,hi⟩|⟨rfl,hi,hl,hn⟩
 ·simp only [CV.den] at hd
  obtain ⟨v,f1,f2,f3⟩:=hR.own i _ hi;rw [hd] at f1;injection f1 with f1;subst f1;refine ⟨⟨f3.1,?_⟩,f2⟩;rcases f3.2 with h1|⟨b',cap,cur,h1,_,h2⟩
  ·exact .inl h1
  ·exact .inr ⟨b',cap,cur,h1,hnew b' (by rw [← f2,h1];rfl),h2⟩
 ·simp only [CV.den] at hd
  obtain ⟨b,hb,rfl⟩:=hd;obtain ⟨b',us,e1,e2,e3⟩:=hR.own i _ hi;rw [hb] at e1;injection e1 with e1;subst e1;obtain rfl:=ziq e3;exact ⟨⟨hl,.inr ⟨b,n,us.toArray,rfl,hnew b hb,e2,Nat.le_refl _,hn,by simpa using hl,by simp [← hl]⟩⟩,hb.symm⟩
theorem ycs {w0:World} {S:List Ow} {x1 x2 x3:CV} {R:Ending→World→Prop} (i1 i2 i3:Nat) (b:Blk) (h12:i1≠i2) (h13:i1≠i3) (h23:i2≠i3) (h1:yb0 S x1 i1 41 1 b.at_.length (b.at_.map (.int .u32))) (h2:yb0 S x2 i2 3 1 b.pages.length (b.pages.map (.int .i64))) (h3:yb0 S x3 i3 61 5 b.ops.length (b.ops.flatMap opC))
  (h:∀ w v1 v2 v3,Rows3 w0.heap.size w v1 v2 v3 b→Below w0.heap.size w0 w→R (.returned (.agg #[v1,v2,v3])) w):Fin w0 Gs.nil S (.p (.agg [x1,x2,x3])) R:=by
 refine ⟨fun r w u hR hd=>?_⟩;obtain ⟨us,rfl,hl⟩:=zit hd;simp only [denL] at hl;obtain ⟨u1,l1,rfl,d1,u2,l2,rfl,d2,u3,l3,rfl,d3,rfl⟩:=hl;obtain ⟨o1,b1⟩:=ydz hR h1 d1;obtain ⟨o2,b2⟩:=ydz hR h2 d2;obtain ⟨o3,b3⟩:=ydz hR h3 d3;refine h w u1 u2 u3 ⟨o1,o2,o3,fun x hx hy=>?_,fun x hx hy=>?_,fun x hx hy=>?_⟩ hR.toBelow
 ·rw [b1] at hx;rw [b2] at hy;exact h12 (hR.inj _ _ _ hx hy)
 ·rw [b1] at hx;rw [b3] at hy;exact h13 (hR.inj _ _ _ hx hy)
 ·rw [b2] at hx;rw [b3] at hy;exact h23 (hR.inj _ _ _ hx hy)
theorem Rel.appendG {w0:World} {G:Gs} {S:List Ow} {r:Env} {w w':World} (h:Rel w0 G S r w) {i:Nat} {e:TypeId} {size n':Nat} {xs':List Value} {B:Option Nat} {v':Value} (hil:i<S.length) (hG:G.fix.length≤i) (hob:B=r.blk i)
  (hown:w'.ownsRow 0 e size v' n' xs') (hg:w.grownBy w' B) (hb:v'.ownBlock=B∨v'.ownBlock=some w.heap.size):
  Rel w0 G ((zsh i S).set i (.row e size n' xs')) (r.set i v'.ownBlock (some v')) w'∧But i r (r.set i v'.ownBlock (some v')):=by
 have hbut:But i r (r.set i v'.ownBlock (some v')):=fun j hj=>by simp [Env.set,hj]
 have hnewlt:∀ x,v'.ownBlock=some x→x<w'.heap.size:=fun x hx=>by
  rcases hown.2 with ⟨h1,_⟩|⟨g,cap,cur,h1,_,hh,_⟩
  ·rw [h1] at hx;cases hx
  ·rw [h1] at hx;simp [Value.ownBlock] at hx;subst hx
   rcases Nat.lt_or_ge g w'.heap.size with h2|h2
   ·exact h2
   ·rw [Array.getElem?_eq_none h2] at hh;cases hh
 have hblk:∀ j x,r.blk j=some x→j≠i→w'.heap[x]?=w.heap[x]?:=fun j x hx hj=>hg.block x (h.new j x hx).1 (fun e=>hj (h.inj j i x hx (by rw [← hob];exact e.symm)));refine ⟨⟨hg.os.trans h.os,hg.tape.trans h.tape,hg.output.trans h.output,Nat.le_trans h.size hg.size,fun k hk hkG=>?_,fun j o hj=>?_,fun a b x ha hb'=>?_,fun j x hj=>?_,fun j hj=>?_,fun j hj=>?_,fun j g hj=>?_⟩,hbut⟩
 ·rw [hg.block k (Nat.lt_of_lt_of_le hk h.size) (fun e=>hkG ((h.new i k (by rw [← hob];exact e.symm)).2 hk))]
  exact h.old k hk hkG
 ·by_cases hij:i=j
  ·subst hij
   rw [List.getElem?_set_self (by rw [zsj];exact hil)] at hj;injection hj with hj;subst hj;exact ⟨v',by simp [Env.set],by simp [Env.set],hown⟩
  ·rw [List.getElem?_set_ne hij,zsi] at hj
   cases hSj:S[j]? with
   |none=>rw [hSj] at hj;cases hj
   |some o'=>
    rw [hSj] at hj;simp at hj;subst hj;have h1:=Ow.holds_block (h.own j o' hSj) (fun x hx=>hblk j x hx (Ne.symm hij)) hg.size (fun x hx hno=>hg.block x hx (fun e=>hno i (by rw [← hob];exact e.symm)))
    cases o' with
    |view φ m ys=>
     obtain ⟨A,c,h2,h3,h4,h5,h6⟩:=h.own j _ hSj;refine ⟨A,c,by rw [← (hbut j (Ne.symm hij)).2];exact h2,h3,h4,by rw [← (hbut j (Ne.symm hij)).1];exact h5,fun k u hk=>?_⟩;obtain ⟨b,off,h7,h8,h9,h10⟩:=h6 k u hk;refine ⟨b,off,h7,Nat.lt_of_lt_of_le h8 hg.size,fun q hq=>?_,(World.cell?_of_block (w:=w) (a:=⟨b,off+k,none⟩) (hg.block b h8 (fun e=>h9 i (by rw [← hob];exact e.symm)))).trans h10⟩;by_cases hqi:q=i
     ·subst hqi
      simp [Env.set] at hq;rcases hb with hb|hb
      ·rw [hb,hob] at hq;exact h9 q hq
      ·rw [hb] at hq;injection hq with hq;omega
     ·exact h9 q (by rw [(hbut q hqi).1];exact hq)
    |cells t l=>obtain ⟨b,us,h2,h3,h4⟩:=h1;exact ⟨b,us,by rw [← (hbut j (Ne.symm hij)).1];exact h2,h3,zsg hbut h4⟩
    |row e s n xs=>obtain ⟨v,h2,h3,h4⟩:=h1;exact ⟨v,by rw [← (hbut j (Ne.symm hij)).2];exact h2,by rw [← (hbut j (Ne.symm hij)).1];exact h3,h4⟩
    |ext φ=>obtain ⟨b,h2,h3⟩:=h1;exact ⟨b,by rw [← (hbut j (Ne.symm hij)).1];exact h2,h3⟩
    |gone=>trivial
 ·have fresh:∀ j x,j≠i→r.blk j=some x→v'.ownBlock=some x→False:=fun j x hj hx he=>by
   rcases hb with hb|hb
   ·rw [hb,hob] at he;exact hj (h.inj j i x hx he)
   ·rw [hb] at he;injection he with he;have:=(h.new j x hx).1;omega
  simp only [Env.set] at ha hb'
  split at ha<;>split at hb'
  ·omega
  ·exact (fresh b x (by assumption) hb' ha).elim
  ·exact (fresh a x (by assumption) ha hb').elim
  ·exact h.inj a b x ha hb'
 ·simp only [Env.set] at hj
  split at hj
  ·refine ⟨hnewlt x hj,fun hlt=>?_⟩
   rcases hb with hb|hb
   ·rw [hb,hob] at hj;exact (h.new i x hj).2 hlt
   ·rw [hb] at hj;injection hj with hj;have:=h.size;omega
  ·exact ⟨Nat.lt_of_lt_of_le (h.new j x hj).1 hg.size,(h.new j x hj).2⟩
 ·have hj':S.length≤j:=by simpa [zsj] using hj
  simp only [Env.set];rw [if_neg zO];exact h.outB j hj'
 ·have hj':S.length≤j:=by simpa [zsj] using hj
  simp only [Env.set];rw [if_neg zO];exact h.outV j hj'
 ·have:j<G.fix.length:=by
   rcases Nat.lt_or_ge j G.fix.length with h1|h1
   ·exact h1
   ·rw [List.getElem?_eq_none h1] at hj;cases hj
  simp only [Env.set];rw [if_neg zO];exact h.first j g hj
section
variable {P:Program} {w0:World} {G:Gs} {N:Nd} {o:Oper} {f:Fr} {S:List Ow} {K:Fr→List Ow→Prop} {Q:Exit→Act→World→Prop} {d:Code}
theorem ydc {t e:TypeId} {i:TypeInfo} {x:Operand} {lo hi:Option Operand} {A:Option Addr} {n c:Nat} (l h size:Nat) (hop:o.op= .slice t x lo hi none) (ht:P.underlying t=some (.slice e)) (hif:P.info? e=some i) (hsz:i.size=size) (hx:f.ev x=one (.slice A n c))
  (hl:(lo=none∧l=0)∨∃ y q,lo=some y∧f.ev y=one (.int q (l:Int))) (hh:(hi=none∧h=n)∨∃ y q,hi=some y∧f.ev y=one (.int q (h:Int))) (hlh:l≤h) (hhc:h≤c) (hdst:zi6 N.n o.dst=true)
  (hk:K (f.put o.dst (one (.slice (if c=l then A else A.map (·.add (l*size))) (h-l) (c-l)))) S):OpS P w0 G N o f S K:=by
 subst hsz;refine zwv _ hdst (fun r act w hR hf=>⟨_,zix _ _,?_⟩) hk;have h1:=hf.ev x;rw [hx] at h1
 have hl':((lo.map act.eval)=none∧l=0)∨∃ q,(lo.map act.eval)=some (.int q (l:Int)):=by
  rcases hl with ⟨rfl,h0⟩|⟨y,q,rfl,hy⟩
  ·exact .inl ⟨rfl,h0⟩
  ·have:=hf.ev y;rw [hy] at this;exact .inr ⟨q,by rw [Option.map_some,zi0 this]⟩
 have hh':((hi.map act.eval)=none∧h=n)∨∃ q,(hi.map act.eval)=some (.int q (h:Int)):=by
  rcases hh with ⟨rfl,h0⟩|⟨y,q,rfl,hy⟩
  ·exact .inl ⟨rfl,h0⟩
  ·have:=hf.ev y;rw [hy] at this;exact .inr ⟨q,by rw [Option.map_some,zi0 this]⟩
 have:=z2o (P:=P) ht hif A n c l h (lo.map act.eval) (hi.map act.eval) hl' hh' hlh hhc w;simp [execOp,hop,zi0 h1,this]
theorem yda {t e:TypeId} {i:TypeInfo} {x y:Operand} {q:IntKind} {n size:Nat} {xs:List Value} (k m:Nat) (hop:o.op= .slice t x none (some y) none) (ht:P.underlying t=some (.slice e)) (hif:P.info? e=some i) (_hsz:i.size=size) (hx:f.ev x= .p (.c (.row k))) (hS:S[k]?=some (.row e size n xs)) (hy:f.ev y=one (.int q (m:Int))) (hm:m≤n) (hG:G.fix.length≤k) (hdst:zi6 N.n o.dst=true)
  (hk:K ((Fr.kill k f).put o.dst (.p (.c (.row k)))) ((zsh k S).set k (.row e size m (xs.take (m*size))))):OpS P w0 G N o f S K:=by
 refine ⟨fun r a w hR hf hN hd next Q hK=>?_⟩;have h1:=hf.ev x;have h2:=hf.ev y;rw [hx] at h1;rw [hy] at h2;have hu:=ycj h1;obtain ⟨v,f1,f2,f3⟩:=hR.own k _ hS;rw [hu] at f1;injection f1 with f1;subst f1
 have hlt:k<S.length:=by
  rcases Nat.lt_or_ge k S.length with h|h
  ·exact h
  ·rw [List.getElem?_eq_none h] at hS;cases hS
 obtain ⟨A,c,he⟩:=z17 f3;rw [he] at f2 f3 hu
 have hnc:n≤c:=by
  rcases f3.2 with ⟨e1,e2⟩|⟨g,cap,cur,e1,_,_,e2,_⟩
  ·injection e1 with _ _ e1;omega
  ·injection e1 with _ _ e1;omega
 have hmin:min (m*size) xs.length=m*size:=Nat.min_eq_left (by rw [f3.1];exact Nat.mul_le_mul_right _ hm)
 have hown:w.ownsRow 0 e size (.slice A m c) m (xs.take (m*size)):=by
  refine ⟨by rw [List.length_take,hmin],?_⟩;rcases f3.2 with ⟨e1,e2⟩|⟨g,cap,cur,e1,e2,e3,e4,e5,e6,e7⟩
  ·injection e1 with e0 e0' e1;subst e0;subst e1
   exact .inl ⟨by rw [show m=0 by omega],by omega⟩
  ·injection e1 with e0 e0' e1;subst e0;subst e1
   refine .inr ⟨g,c,cur,rfl,Nat.zero_le _,e3,by omega,e5,e6,?_⟩;rw [← e7,List.take_take,Nat.min_eq_left (Nat.mul_le_mul_right _ hm)]
 have hbl:(Value.slice A m c).ownBlock=(Value.slice A n c).ownBlock:=by cases A<;>rfl
 obtain ⟨hR',hbut⟩:=hR.appendG (i:=k) (B:=(Value.slice A n c).ownBlock) hlt hG f2 hown (World.grownBy.refl w _) (.inl hbl)
 have hrun:=z2o (P:=P) ht hif A n c 0 m none (some (.int q (m:Int))) (.inl ⟨rfl,rfl⟩) (.inr ⟨q,rfl⟩) (Nat.zero_le _) zO w
 have hA:(if c=0 then A else A.map (·.add (0*i.size)))=A:=by
  split
  ·rfl
  ·cases A with
   |none=>rfl
   |some p=>simp [Addr.add]
 rw [hA,Nat.sub_zero,Nat.sub_zero] at hrun
 have hex:(execOp a.eval o).run P w= .ok (.value (.slice A m c)) w:=by simp [execOp,hop,he,zi0 h2,hrun]
 exact ybd hex (hK _ _ _ _ hk ⟨_,hR',(hf.kill hbut).put (by simp [AV.den,Pc.den,CV.den,Env.set]) (by rw [hN];exact hdst),(zzm a _ _).trans hN,(zzj a _ _).trans hd⟩)
theorem yd2 (h:∀ r w,Rel w0 G S r w→∃ f2 S2,Rel w0 G S2 r w∧(∀ a,FDen r f a→FDen r f2 a)∧SatQ P w0 G N d f2 S2 Q):SatQ P w0 G N d f S Q:=
 ⟨fun a w ⟨r,hR,hf,hN,hd⟩=>by
  obtain ⟨f2,S2,hR2,hf2,hs⟩:=h r w hR
  exact hs.out a w ⟨r,hR2,hf2 a hf,hN,hd⟩⟩
theorem yc9 {t e:TypeId} {inf:TypeInfo} {z:Value} {s x:Operand} {A:Option Addr} {m c2:Nat} (k ob i C size:Nat) (cur news:List Value) (hop:o.op= .call ⟨.builtin .append,#[s,x],#[t,t]⟩) (ht:P.underlying t=some (.slice e)) (hif:P.info? e=some inf) (hz:inf.zero=some z) (hzs:z.cells.size=inf.size) (hsz:inf.size=size) (hpos:0<size) (hbytes:inf.bytes≤100000)
  (hs:f.ev s=one (.slice (some ⟨ob,0,none⟩) i C)) (hx:f.ev x=one (.slice A m c2)) (hSk:S[k]?=some (yc6 ob (.cells cur.toArray e (0,0)))) (hG:G.fix.length≤k) (hC:cur.length=C*size) (hiC:i≤C) (hCm:C≤maxLen) (hl:news.length=m*size) (hnews:∀ (j:Nat) u,news[j]?=some u→∃ off,A=some ⟨ob,off,none⟩∧cur[off+j]?=some u) (hone:∀ u∈news,u.oneCell'=true) (hle:i+m≤1000000000) (hdst:zi6 N.n o.dst=true)
  (hk:K ((Fr.kill k f).put o.dst (.p (.c (.row k)))) ((zsh k S).set k (.row e size (i+m) (cur.take (i*size)++news)))):OpS P w0 G N o f S K:=by
 subst hsz;refine ⟨fun r a w hR hf hN hd next Q hK=>?_⟩;have h1:=hf.ev s;have h2:=hf.ev x;rw [hs] at h1;rw [hx] at h2;obtain ⟨b,hb,⟨rfl,hh⟩,_⟩:=hR.own k _ hSk
 have hlt:k<S.length:=by
  rcases Nat.lt_or_ge k S.length with h|h
  ·exact h
  ·rw [List.getElem?_eq_none h] at hSk;cases hSk
 have hown:w.ownsRow 0 e inf.size (.slice (some ⟨b,0,none⟩) i C) i (cur.take (i*inf.size)):=
  ⟨by rw [List.length_take,Nat.min_eq_left (by rw [hC];exact Nat.mul_le_mul_right _ hiC)],.inr ⟨b,C,cur.toArray,rfl,Nat.zero_le _,hh,hiC,hCm,by simpa using hC,by simp⟩⟩
 obtain ⟨v',w',hrun,hown',hg,hbb⟩:=z2c (P:=P) 0 t o.type e inf z ht hif hz hzs hpos _ i _ hown A m c2 news hl (fun j u hj=>by
  obtain ⟨off,e1,e2⟩:=hnews j u hj
  exact ⟨b,off,e1,by simp [World.cell?,hh,e2]⟩) hone hle hbytes (Nat.zero_le _)
 obtain ⟨hR',hbut⟩:=hR.appendG (i:=k) (B:=some b) hlt hG hb.symm hown' hg hbb
 have hex:(execOp a.eval o).run P w= .ok (.value v') w':=by
  simp [execOp,hop,resolve,invoke,builtin,zi0 h1,zi0 h2,hrun]
 exact ybd hex (hK _ _ _ _ hk ⟨_,hR',(hf.kill hbut).put (by simp [AV.den,Pc.den,CV.den,Env.set]) (by rw [hN];exact hdst),(zzm a _ _).trans hN,(zzj a _ _).trans hd⟩)
theorem yc8 {t e:TypeId} {inf:TypeInfo} {z:Value} {s x:Operand} {A:Option Addr} {m c2 n:Nat} {xs:List Value} (k j ob size:Nat) (cur news:List Value) (hop:o.op= .call ⟨.builtin .append,#[s,x],#[t,t]⟩) (ht:P.underlying t=some (.slice e)) (hif:P.info? e=some inf) (hz:inf.zero=some z) (hzs:z.cells.size=inf.size) (hsz:inf.size=size) (hpos:0<size) (hbytes:inf.bytes≤100000)
  (hs:f.ev s= .p (.c (.row j))) (hSj:S[j]?=some (.row e size n xs)) (hx:f.ev x=one (.slice A m c2)) (hSk:S[k]?=some (yc6 ob (.cells cur.toArray e (0,0)))) (hG:G.fix.length≤j) (hl:news.length=m*size) (hnews:∀ (j:Nat) u,news[j]?=some u→∃ off,A=some ⟨ob,off,none⟩∧cur[off+j]?=some u) (hone:∀ u∈news,u.oneCell'=true) (hle:n+m≤1000000000) (hdst:zi6 N.n o.dst=true)
  (hk:K ((Fr.kill j f).put o.dst (.p (.c (.row j)))) ((zsh j S).set j (.row e size (n+m) (xs++news)))):OpS P w0 G N o f S K:=by
 subst hsz;refine ⟨fun r a w hR hf hN hd next Q hK=>?_⟩;have h1:=hf.ev s;have h2:=hf.ev x;rw [hs] at h1;rw [hx] at h2;obtain ⟨b,hb,⟨rfl,hh⟩,_⟩:=hR.own k _ hSk;obtain ⟨v,hv,hob,hown⟩:=hR.own j _ hSj;have hux:=ycj h1;rw [hux] at hv;injection hv with hv;subst hv
 obtain ⟨v',w',hrun,hown',hg,hbb⟩:=z2c (P:=P) 0 t o.type e inf z ht hif hz hzs hpos _ n xs hown A m c2 news hl (fun j u hj=>by
  obtain ⟨off,e1,e2⟩:=hnews j u hj
  exact ⟨b,off,e1,by simp [World.cell?,hh,e2]⟩) hone hle hbytes (Nat.zero_le _)
 obtain ⟨hR',hbut⟩:=hR.append hSj hG hux hown' hg hbb
 have hex:(execOp a.eval o).run P w= .ok (.value v') w':=by
  simp [execOp,hop,resolve,invoke,builtin,zi0 h2,hrun]
 exact ybd hex (hK _ _ _ _ hk ⟨_,hR',(hf.kill hbut).put (by simp [AV.den,Pc.den,CV.den,Env.set]) (by rw [hN];exact hdst),(zzm a _ _).trans hN,(zzj a _ _).trans hd⟩)
end
theorem ydp {w0:World} {G:Gs} {S:List Ow} {r:Env} {w:World} (hR:Rel w0 G S r w) (i:Nat) {t:TypeId} {l:List CV} (hi:S[i]?=some (.cells t l)):∃ g us,r.blk i=some g∧denL r l us∧zac w Gs.nil g 0 us:=by
 obtain ⟨g,us,h1,h2,h3⟩:=hR.own i _ hi;exact ⟨g,us,h1,h3,(hR.new i g h1).1,by simp,fun j u hj=>by simp [World.cell?,h2,hj]⟩
theorem yec {x n:Int} (h0:0<n):0≤(x.tmod n+n).tmod n∧(x.tmod n+n).tmod n<n:=by
 have h1: -n<x.tmod n:=by
  have:=Int.lt_tmod_of_pos x h0;omega
 have h3:0≤x.tmod n+n:=by omega
 exact ⟨Int.tmod_nonneg _ h3,Int.tmod_lt_of_pos _ h0⟩
abbrev mkC (A:Option Addr) (m c:Nat) (k:Int):List Value:=[.slice A m c,.int .i64 k]
theorem yed (A:Option Addr) (m c:Nat) (xs:List Int) (k n:Int) (g:Nat) (w:World) (hs:zao w ⟨[g],[]⟩ A (xs.map (.int .i64))) (hl:xs.length=m) (_hm:0≤m) (hk:0≤k∧k<1000000) (hn:0<n∧n≤65536)
  (hg:w.heap[g]?=some (.cells (mkC A m c k).toArray 125 (0,0))):
  Calls Tryz.prog 60 #[.pointer (some ⟨g,0,none⟩),.int .i64 n] w fun e w'=>∃ x us',((∃ z,x= .int .i64 z∧0≤z∧z<n)∧us'=mkC A m c (k+1))∧e= .returned x∧w'.heap[g]?=some (.cells us'.toArray 125 (0,0))∧w.grownBy w' (some g):=by
 have key:∀ (x:Int) (w':World),w'.heap[g]?=some (.cells (mkC A m c (k+1)).toArray 125 (0,0))→w.grownBy w' (some g)→∃ y us',((∃ z,y= .int .i64 z∧0≤z∧z<n)∧us'=mkC A m c (k+1))∧Ending.returned (.int .i64 ((x.tmod n+n).tmod n))= .returned y∧w'.heap[g]?=some (.cells us'.toArray 125 (0,0))∧w.grownBy w' (some g):=
  fun x w' h1 h2=>⟨_,_,⟨⟨_,rfl,yec hn.1⟩,rfl⟩,rfl,h1,h2⟩
 have hmod:∀ x:Int,-9223372036854775808≤x.tmod n+n∧x.tmod n+n<9223372036854775808:=fun x=>by
  have h1: -n<x.tmod n:=(by have:=Int.lt_tmod_of_pos x hn.1;omega);have h2:=Int.tmod_lt_of_pos x hn.1;omega
 refine ycd [.int .i64 n] Tryz.func60 Tryz.ntmps60 rfl zS hg ?_
 conv=>whnf
 refine z2z mixed zK ?_
 conv=>whnf
 refine ⟨fun ht=>?_,fun ht=>?_⟩
 ·have hlt:k<(m:Int):=by simpa using ht
  obtain ⟨x,hx⟩:∃ x,xs[k.toNat]?=some x:=⟨_,List.getElem?_eq_getElem zO⟩
  obtain ⟨b,off,rfl,hb,hG,hc⟩:=hs k.toNat (.int .i64 x) (by rw [List.getElem?_map,hx];rfl)
  (conv=>whnf);refine z2z mixed zK ?_;(conv=>whnf);refine ⟨⟨by omega,by omega⟩,?_⟩;(conv=>whnf);refine ⟨.int .i64 x,zfq hb hG (by rw [show off+k.toNat*tsz Tryz.prog 3=off+k.toNat from congrArg (off+ ·) (Nat.mul_one _)];exact hc),?_⟩;(conv=>whnf);refine ⟨k+1,wr64 zO,?_⟩;(conv=>whnf);refine ⟨by omega,_,rfl,?_⟩;(conv=>whnf);refine ⟨_,wr64 (hmod x),?_⟩;(conv=>whnf);refine ⟨by omega,_,rfl,?_⟩;(conv=>whnf);exact zmg (us:=mkC (some ⟨b,off,none⟩) m c (k+1)) rfl rfl (key x)
 ·conv=>whnf
  refine ⟨k+1,wr64 zO,?_⟩;(conv=>whnf);refine ⟨by omega,_,rfl,?_⟩;(conv=>whnf);refine ⟨_,wr64 (hmod 0),?_⟩;(conv=>whnf);refine ⟨by omega,_,rfl,?_⟩;(conv=>whnf);exact zmg (us:=mkC A m c (k+1)) rfl rfl (key 0)
theorem yca {w0:World} {G:Gs} {S:List Ow} {K:AV→List Ow→Prop} (i:Nat) {A:Option Addr} {m c:Nat} {xs:List Int} {k n:Int} (hi:S[i]?=some (.cells 125 ((mkC A m c k).map .v))) (hs:zao w0 G A (xs.map (.int .i64))) (hl:xs.length=m) (hm:0≤m) (hk:0≤k∧k<1000000) (hn:0<n∧n≤65536)
  (hK:∀ z,0≤z→z<n→K (one (.int .i64 z)) (S.set i (.cells 125 ((mkC A m c (k+1)).map .v)))):CallS Tryz.prog w0 G 60 [.p (.c (.ref i 0)),one (.int .i64 n)] S K:=by
 refine ze7 (fun x us'=>(∃ z,x= .int .i64 z∧0≤z∧z<n)∧us'=mkC A m c (k+1)) i hi (xs:=[.int .i64 n]) rfl zK (fun w g ho hg=>yed A m c xs k n g w (ho A _ hs) hl hm hk hn hg) ?_;rintro x us' ⟨⟨z,rfl,h0,h1⟩,rfl⟩;exact hK z h0 h1
theorem yej (A:Option Addr) (m c:Nat) (xs:List Int) (k:Int) (g:Nat) (w:World) (hs:zao w ⟨[g],[]⟩ A (xs.map (.int .i64))) (hl:xs.length=m) (hm:0≤m) (hk:0≤k∧k<999990)
  (hg:w.heap[g]?=some (.cells (mkC A m c k).toArray 125 (0,0))):
  Calls Tryz.prog 105 #[.pointer (some ⟨g,0,none⟩)] w fun e w'=>∃ x us',((∃ z,x= .int .u32 z∧word z)∧us'=mkC A m c (k+2))∧e= .returned x∧w'.heap[g]?=some (.cells us'.toArray 125 (0,0))∧w.grownBy w' (some g):=by
 have key:∀ (x:Int) (w':World),word x→w'.heap[g]?=some (.cells (mkC A m c (k+1+1)).toArray 125 (0,0))→w.grownBy w' (some g)→∃ y us',((∃ z,y= .int .u32 z∧word z)∧us'=mkC A m c (k+2))∧Ending.returned (.int .u32 x)= .returned y∧w'.heap[g]?=some (.cells us'.toArray 125 (0,0))∧w.grownBy w' (some g):=
  fun x w' h0 h1 h2=>⟨_,_,⟨⟨_,rfl,h0⟩,rfl⟩,rfl,by rw [show k+2=k+1+1 by omega];exact h1,h2⟩
 refine ycd [] Tryz.func105 Tryz.ntmps105 rfl zS hg ?_
 conv=>whnf
 refine yca 0 rfl hs hl hm zO zO fun z z0 z1=>?_
 conv=>whnf
 refine ⟨z,by rw [wr32];omega,?_⟩
 conv=>whnf
 refine yca 0 rfl hs hl hm zO zO fun y y0 y1=>?_
 conv=>whnf
 refine ⟨fun _=>?_,fun _=>?_⟩
 ·conv=>whnf
  refine ⟨by omega,_,rfl,?_⟩;(conv=>whnf);exact zmg (us:=mkC A m c (k+1+1)) rfl rfl fun w' h1 h2=>key _ w' (by rw [Int.tmod_eq_emod_of_nonneg z0];unfold word;omega) h1 h2
 conv=>whnf
 refine ⟨fun _=>?_,fun _=>?_⟩
 ·conv=>whnf
  refine ⟨by omega,_,rfl,?_⟩;(conv=>whnf);refine ⟨_,wr32 _,?_⟩;(conv=>whnf);exact zmg (us:=mkC A m c (k+1+1)) rfl rfl fun w' h1 h2=>key _ w' (yay _) h1 h2
 conv=>whnf
 refine ⟨fun _=>?_,fun _=>?_⟩
 ·conv=>whnf
  refine ⟨_,wr32 _,?_⟩;(conv=>whnf);exact zmg (us:=mkC A m c (k+1+1)) rfl rfl fun w' h1 h2=>key _ w' (yay _) h1 h2
 conv=>whnf
 refine ⟨by omega,_,rfl,?_⟩
 conv=>whnf
 exact zmg (us:=mkC A m c (k+1+1)) rfl rfl fun w' h1 h2=>key _ w' (by rw [Int.tmod_eq_emod_of_nonneg z0];unfold word;omega) h1 h2
theorem ycc {w0:World} {G:Gs} {S:List Ow} {K:AV→List Ow→Prop} (i:Nat) {A:Option Addr} {m c:Nat} {xs:List Int} {k:Int} (hi:S[i]?=some (.cells 125 ((mkC A m c k).map .v))) (hs:zao w0 G A (xs.map (.int .i64))) (hl:xs.length=m) (hm:0≤m) (hk:0≤k∧k<999990)
  (hK:∀ z,word z→K (one (.int .u32 z)) (S.set i (.cells 125 ((mkC A m c (k+2)).map .v)))):CallS Tryz.prog w0 G 105 [.p (.c (.ref i 0))] S K:=by
 refine ze7 (fun x us'=>(∃ z,x= .int .u32 z∧word z)∧us'=mkC A m c (k+2)) i hi (xs:=[]) rfl zK (fun w g ho hg=>yej A m c xs k g w (ho A _ hs) hl hm hk hg) ?_;rintro x us' ⟨⟨z,rfl,h0⟩,rfl⟩;exact hK z h0
abbrev wrC (W:Nat):List Value:=[.bool (W.testBit 20),.bool (W.testBit 21),.bool (W.testBit 22),.bool (W.testBit 23),.bool (W.testBit 24),.bool (W.testBit 25),.bool (W.testBit 26),.bool (W.testBit 27)]
theorem yek (W:Nat) {t:Nat} (h:t<8):(wrC W)[t]?=some (.bool (W.testBit (20+t))):=by
 rcases t with _|_|_|_|_|_|_|_|t<;>first|rfl|omega
theorem yd6 (A:Option Addr) (m c:Nat) (xs:List Int) (k:Int) (W:Nat) (g:Nat) (w:World) (hs:zao w ⟨[g],[]⟩ A (xs.map (.int .i64))) (hl:xs.length=m) (hm:0≤m) (hk:0≤k∧k<999990)
  (hg:w.heap[g]?=some (.cells (mkC A m c k).toArray 125 (0,0))):
  Calls Tryz.prog 104 #[.pointer (some ⟨g,0,none⟩),.agg (wrC W).toArray] w fun e w'=>∃ x us',((∃ z,x= .int .i64 z∧srcI W z)∧us'=mkC A m c (k+1))∧e= .returned x∧w'.heap[g]?=some (.cells us'.toArray 125 (0,0))∧w.grownBy w' (some g):=by
 refine ycd [.agg (wrC W).toArray] Tryz.func104 Tryz.ntmps104 rfl zS hg ?_
 conv=>whnf
 refine yca 0 rfl hs hl hm zO zO fun z z0 z1=>?_
 conv=>whnf
 refine ⟨fun hz=>?_,fun hz=>?_⟩
 ·have hz:z<19:=by simpa using hz
  conv=>whnf
  exact zmg (us:=mkC A m c (k+1)) rfl rfl fun w' h1 h2=>⟨_,_,⟨⟨_,rfl,⟨by omega,by omega,by omega,.inl zO⟩⟩,rfl⟩,rfl,h1,h2⟩
 have hz:¬z<19:=by simpa using hz
 conv=>whnf
 refine ⟨z-19,wr64 zO,?_⟩
 conv=>whnf
 refine ⟨⟨by omega,by omega⟩,?_⟩
 conv=>whnf
 rw [show (List.map CV.v (wrC W).toArray.toList)[0+(z-19).toNat*tsz Tryz.prog 4]?=some (.v (.bool (W.testBit (20+(z-19).toNat)))) by
  rw [show 0+(z-19).toNat*tsz Tryz.prog 4=(z-19).toNat from (Nat.zero_add _).trans (Nat.mul_one _),List.getElem?_map];show ((wrC W)[(z-19).toNat]?).map CV.v=_
  rw [yek W zO];rfl]
 conv=>whnf
 refine ⟨fun ht=>?_,fun ht=>?_⟩
 ·conv=>whnf
  refine ⟨z+1,wr64 zO,?_⟩
  conv=>whnf
  exact zmg (us:=mkC A m c (k+1)) rfl rfl fun w' h1 h2=>⟨_,_,⟨⟨_,rfl,⟨by omega,by omega,by omega,.inr (by rw [show (z+1).toNat=20+(z-19).toNat by omega];exact ht)⟩⟩,rfl⟩,rfl,h1,h2⟩
 ·conv=>whnf
  refine ⟨z-19,wr64 zO,?_⟩
  conv=>whnf
  exact zmg (us:=mkC A m c (k+1)) rfl rfl fun w' h1 h2=>⟨_,_,⟨⟨_,rfl,⟨by omega,by omega,by omega,.inl zO⟩⟩,rfl⟩,rfl,h1,h2⟩
theorem yb9 {w0:World} {G:Gs} {S:List Ow} {K:AV→List Ow→Prop} (i:Nat) {A:Option Addr} {m c:Nat} {xs:List Int} {k:Int} (W:Nat) {l:List CV} (hl8:l=(wrC W).map .v) (hi:S[i]?=some (.cells 125 ((mkC A m c k).map .v))) (hs:zao w0 G A (xs.map (.int .i64))) (hl:xs.length=m) (hm:0≤m) (hk:0≤k∧k<999990)
  (hK:∀ z,srcI W z→K (one (.int .i64 z)) (S.set i (.cells 125 ((mkC A m c (k+1)).map .v)))):CallS Tryz.prog w0 G 104 [.p (.c (.ref i 0)),.p (.agg l)] S K:=by
 subst hl8;refine ze7 (fun x us'=>(∃ z,x= .int .i64 z∧srcI W z)∧us'=mkC A m c (k+1)) i hi (xs:=[.agg (wrC W).toArray]) rfl zK (fun w g ho hg=>yd6 A m c xs k W g w (ho A _ hs) hl hm hk hg) ?_;rintro x us' ⟨⟨z,rfl,h0⟩,rfl⟩;exact hK z h0
end Go.Proofs.YtocafomnnkmjfaaGreat
