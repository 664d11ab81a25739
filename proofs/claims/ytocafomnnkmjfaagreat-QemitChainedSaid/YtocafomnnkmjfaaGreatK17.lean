import Derived.Test.YtocafomnnkmjfaaGreatK16
set_option maxRecDepth 100000
set_option maxHeartbeats 1000000
namespace Go.Proofs.YtocafomnnkmjfaaGreat
open Go.RowKit
structure JmpG (P:Program) (w0:World) (G:Gs) (fid:FuncId) (args:List AV) (f:Fr) (S:List Ow) (K:AV→World→Gs→Fr→List Ow→Prop):Prop where
 ok:fnOk P fid=true
 out:∀ r w us,Rel w0 G S r w→zc1 r args us→Calls P fid us.toArray w fun e w'=>∃ u x w2 G2 f2 S2 r2,e= .returned u∧Rel w2 G2 S2 r2 w'∧(∀ a,FDen r f a→FDen r2 f2 a)∧x.den r2 u∧K x w2 G2 f2 S2
def zr7 (P:Program) (w0:World) (G:Gs) (o:Oper) (f:Fr) (S:List Ow) (K:AV→World→Gs→Fr→List Ow→Prop):Prop:=
 match o.op with
 | .call ⟨.value fn,args,_⟩=>(match f.ev fn with
  | .p (.c (.clo (.func fid) []))=>evL f args.toList fun vs=>JmpG P w0 G fid vs f S K
  |_=>False)
 |_=>False
section
variable {P:Program} {w0:World} {G:Gs} {N:Nd} {c d:Code} {f:Fr} {S:List Ow} {Q:Exit→Act→World→Prop}
theorem zr8 {o:Oper} {K:AV→World→Gs→Fr→List Ow→Prop} (h:zr7 P w0 G o f S K) {r:Env} {w:World} (hR:Rel w0 G S r w) {a:Act} (hf:FDen r f a) {next:Act→World→Prop} (hK:∀ u x w2 G2 f2 S2 r2 w',Rel w2 G2 S2 r2 w'→FDen r2 f2 a→x.den r2 u→K x w2 G2 f2 S2→next (a.put o.dst u) w'):Oper.se P o a w next:=by
 unfold zr7 at h
 split at h
 ·rename_i fn args tys hop
  have hfn:=hf.ev fn
  split at h
  ·rename_i fid he
   rw [he] at hfn;obtain ⟨us,hu,hcap⟩:=zi0 hfn;simp only [denL] at hcap;subst hcap;rw [zkt] at h;obtain ⟨hok,hc⟩:=h
   have hrun:(execOp a.eval o).run P w= .ok (.enter fid (args.map a.eval)) w:=by
    simp [execOp,hop,resolve,Deferred.ofValue,hu,invoke,z19 hok]
   refine ya6 hrun ?_;have:=hc r w (args.toList.map a.eval) hR (zc4 hf _);rw [show (args.toList.map a.eval).toArray=args.map a.eval by apply Array.ext';simp] at this
   exact Calls.mono this fun e w' ⟨u,x,w2,G2,f2,S2,r2,he,h1,h2,h3,hk⟩=>⟨u,he,hK u x w2 G2 f2 S2 r2 w' h1 (h2 a hf) h3 hk⟩
  ·exact h.elim
 ·exact h.elim
theorem z27 {id:Nat} {ops:Array Oper} (k:Nat) {o:Oper} (hk:ops.toList.drop k=o::ops.toList.drop (k+1)) (hg:o.guard=none) (hdst:zjc N.n o.dst=true)
  (h:zpa P w0 G N ops (ops.toList.take k) f S fun f1 S1=>zr7 P w0 G o f1 S1 fun x w2 G2 f2 S2=>zpa P w2 G2 N ops (ops.toList.drop (k+1)) (f2.put o.dst x) S2 fun f3 S3=>AtQ w2 G2 N .normal f3 S3 Q):SatQ P w0 G N (.region id ops false) f S Q:=
 ⟨fun a w hgd=>wpIn_region_list (ya4 none 10 k (zpb (Q:=fun a w=>∃ f1 S1,(zr7 P w0 G o f1 S1 fun x w2 G2 f2 S2=>zpa P w2 G2 N ops (ops.toList.drop (k+1)) (f2.put o.dst x) S2 fun f3 S3=>AtQ w2 G2 N .normal f3 S3 Q)∧Good w0 G N f1 S1 a w) _ f S _ h (fun f' S' a' w' hk' hg'=>⟨f',S',hk',hg'⟩) a w hgd) (by
  rintro a w ⟨f1,S1,hj,r,hR,hf,hN,hd⟩;rw [hk];unfold wpListIn;rw [if_pos (yad hg _)];refine z3u none 10 (next:=fun a w=>wpListIn (zlu none) 10 P ops Q (ops.toList.drop (k+1)) a w) (zr8 hj hR hf fun u x w2 G2 f2 S2 r2 w' h1 h2 h3 hq=>?_) (fun a w h=>h)
  exact z3s none 10 (zpb _ _ _ _ hq (fun f' S' a' w' hk' hg'=>hk'.out a' w' hg') _ _ ⟨r2,h1,h2.put h3 (by rw [hN];exact hdst),(zzh a _ _).trans hN,(zze a _ _).trans hd⟩)))⟩
end
structure JmpJ (P:Program) (W:World) (G:Gs) (J:World→Prop) (fid:FuncId) (args:List AV) (K:Value→(World→Prop)→Prop):Prop where
 ok:fnOk P fid=true
 out:∃ (α:Type) (val:α→Value) (J':α→World→Prop),(∀ w us,Held W G w→J w→zc1 Env.none args us→Calls P fid us.toArray w fun e w'=>∃ y,e= .returned (val y)∧Held W G w'∧J' y w')∧∀ y,K (val y) (J' y)
theorem JmpJ.one {P:Program} {W:World} {G:Gs} {J:World→Prop} {fid:FuncId} {args:List AV} {K:Value→(World→Prop)→Prop} (ok:fnOk P fid=true) (x:Value) (J':World→Prop) (h:∀ w us,Held W G w→J w→zc1 Env.none args us→Calls P fid us.toArray w fun e w'=>e= .returned x∧Held W G w'∧J' w') (hK:K x J'):JmpJ P W G J fid args K:=
 ⟨ok,Unit,fun _=>x,fun _=>J',fun w us h1 h2 h3=>(h w us h1 h2 h3).mono fun _e _w' ⟨k1,k2,k3⟩=>⟨(),k1,k2,k3⟩,fun _=>hK⟩
theorem JmpJ.prop {P:Program} {W:World} {G:Gs} {J:World→Prop} {fid:FuncId} {args:List AV} {K:Value→(World→Prop)→Prop} (ok:fnOk P fid=true) (X:Value→Prop) (J':Value→World→Prop) (h:∀ w us,Held W G w→J w→zc1 Env.none args us→Calls P fid us.toArray w fun e w'=>∃ x,e= .returned x∧X x∧Held W G w'∧J' x w') (hK:∀ x,X x→K x (J' x)):JmpJ P W G J fid args K:=
 ⟨ok,{x//X x},fun x=>x.1,fun x=>J' x.1,fun w us h1 h2 h3=>(h w us h1 h2 h3).mono fun _e _w' ⟨x,k1,k2,k3,k4⟩=>⟨⟨x,k2⟩,k1,k3,k4⟩,fun x=>hK x.1 x.2⟩
section
variable (P:Program) (W:World) (G:Gs) (N:Nd)
def zew (f:Fr) (J:World→Prop) (o:Oper) (K:AV→(World→Prop)→Prop):Prop:=
 match o.op with
 | .call ⟨.value fn,args,_⟩=>(match f.ev fn with
  | .p (.c (.clo (.func fid) []))=>evL f args.toList fun vs=>JmpJ P W G J fid vs fun x J'=>K (AV.of x) J'
  | .p (.c (.v (.func (.func fid) first cap)))=>(match first.toList with
   |[]=>evL f args.toList fun vs=>JmpJ P W G J fid (vs++cap.toList.map fun c=>AV.of c) fun x J'=>K (AV.of x) J'
   |_=>False)
  |_=>False)
 |_=>False
def zrg (o:Oper):Bool:=match o.op with| .call ⟨.value _,_,_⟩=>true|_=>false
def zmy (f:Fr) (o:Oper) (K:AV→Prop):Prop:=
 match o.op with
 | .extract x k=>(match f.ev x with
  | .tup l=>(match l[k]? with|some p=>K (.p p)|none=>False)
  |_=>zmr P W G f [] o K)
 |_=>zmr P W G f [] o K
structure AllocJ (J:World→Prop) (p:Nat) (x:Obj) (w':World):Prop where
 out:∃ w,J w∧Held W G w∧w.heap.size=p∧Below w.heap.size w w'∧w'.heap[p]?=some x
structure StoreJ (J:World→Prop) (b:Nat) (x:Obj) (w':World):Prop where
 out:∃ w,J w∧Held W G w∧w.grownBy w' (some b)∧w'.heap[b]?=some x
def za8 (t:TypeId) (J:World→Prop) (K:AV→(World→Prop)→Prop):Prop:=
 match P.info? t with
 |some i=>(match i.zero with
  |some z=>∀ p,W.heap.size≤p→K (one (.pointer (some ⟨p,0,none⟩))) (AllocJ W G J p (.cells z.cells t (0,0)))
  |none=>False)
 |none=>False
def z7h (t:TypeId) (x y:AV) (J:World→Prop) (K:AV→(World→Prop)→Prop):Prop:=
 match x with
 | .p (.c (.v (.pointer (some ⟨b,off,none⟩))))=>(match y.okCells [] with
  |some cs=>(match P.info? t with
   |some inf=>∃ us cur t',(W.heap.size≤b∨b∈G)∧cs=us.map CV.v∧us.length=inf.size∧zwf [] cs=true∧off+us.length≤cur.length∧(∀ w,Held W G w→J w→w.heap[b]?=some (.cells cur.toArray t' (0,0)))∧K (.p (.c .any)) (StoreJ W G J b (.cells (z3z cur off us).toArray t' (0,0)))
   |none=>False)
  |none=>False)
 |_=>False
def zea (t:TypeId) (n:Nat) (parts:Array (Nat×Operand)) (f:Fr) (J:World→Prop) (K:AV→(World→Prop)→Prop):Prop:=
 ∃ (us:List Value) (e:TypeId) (i:TypeInfo) (z:Value),P.underlying t=some (.slice e)∧P.info? e=some i∧i.zero=some z∧n*i.size≤16777216∧zmc P [] f (fun k=>some (k*i.size,i.size)) parts.toList (List.replicate (n*i.size) .any)=some (us.map .v)∧∀ p,W.heap.size≤p→K (one (.slice (some ⟨p,0,none⟩) n n)) (AllocJ W G J p (.cells us.toArray e (0,0)))
def z63 (f:Fr) (J:World→Prop) (o:Oper) (K:AV→(World→Prop)→Prop):Prop:=
 match zrg o with
 |true=>zew P W G f J o K
 |false=>(match o.op with
  | .alloc t=>za8 P W G t J K
  | .store t x y=>z7h P W G t (f.ev x) (f.ev y) J K
  | .buildSlice t n parts=>zea P W G t n parts f J K
  |_=>zmy P W G f o fun v=>K v J)
def trJ (ops:Array Oper) (l:List Oper):Tr→Fr→(World→Prop)→(Fr→(World→Prop)→Prop)→Prop
 | .done,f,J,K=>K f J
 | .no,_,_,_=>True
 | .q i t,f,J,K=>(match l[i]? with
  |none=>False
  |some o=>(match zjc N.n o.dst with
   |false=>False
   |true=>(match zo5 ops f o with
    |some true=>zmy P W G f o fun v=>f.putK o.dst v fun f'=>trJ ops l t f' J K
    |some false=>f.putK o.dst (.p (.c .any)) fun f'=>trJ ops l t f' J K
    |none=>False)))
 | .alt i t more,f,J,K=>(match l[i]? with
  |none=>False
  |some o=>(match zjc N.n o.dst with
   |false=>False
   |true=>(match zo5 ops f o with
    |some true=>z63 P W G f J o fun v J'=>f.putK o.dst v fun f'=>trJ ops l t f' J' K
    |_=>False)))∧trJ ops l more f J K
def seqJ (ops:Array Oper):List Oper→Fr→(World→Prop)→(Fr→(World→Prop)→Prop)→Prop
 |[],f,J,K=>K f J
 |o::l,f,J,K=>(match zjc N.n o.dst with
  |false=>False
  |true=>(match zo5 ops f o with
   |some true=>z63 P W G f J o fun v J'=>f.putK o.dst v fun f'=>seqJ ops l f' J' K
   |some false=>f.putK o.dst (.p (.c .any)) fun f'=>seqJ ops l f' J K
   |none=>False))
end
structure GoodJ (W:World) (G:Gs) (N:Nd) (f:Fr) (J:World→Prop) (a:Act) (w:World):Prop where
 held:Held W G w
 j:J w
 den:FDen Env.none f a
 size:a.tmps.size=N.n
 defers:a.defers=N.ds
section
variable {P:Program} {W:World} {gs:List Nat} {N:Nd} {ops:Array Oper} {l:List Oper}
theorem zex {f:Fr} {J:World→Prop} {o:Oper} {K:AV→(World→Prop)→Prop} (h:zew P W ⟨[],gs⟩ f J o K) {a:Act} {w:World} (hg:GoodJ W ⟨[],gs⟩ N f J a w) {next:Act→World→Prop} (hK:∀ v J' u w',K v J'→v.den Env.none u→Held W ⟨[],gs⟩ w'→J' w'→next (a.put o.dst u) w'):Oper.se P o a w next:=by
 unfold zew at h
 split at h
 ·rename_i fn args tys hop
  have hfn:=hg.den.ev fn
  split at h
  ·rename_i fid he
   rw [he] at hfn;obtain ⟨us,hu,hcap⟩:=zi0 hfn;simp only [denL] at hcap;subst hcap;rw [zkt] at h;obtain ⟨hok,α,val,J',hc,hk⟩:=h
   have hrun:(execOp a.eval o).run P w= .ok (.enter fid (args.map a.eval)) w:=by
    simp [execOp,hop,resolve,Deferred.ofValue,hu,invoke,z19 hok]
   refine ya6 hrun ?_;have:=hc w (args.toList.map a.eval) hg.held hg.j (zc4 hg.den _);rw [show (args.toList.map a.eval).toArray=args.map a.eval by apply Array.ext';simp] at this
   exact Calls.mono this fun e w' ⟨y,he,h1,h2⟩=>⟨val y,he,hK _ _ _ _ (hk y) (AV.of_den _ (val y)) h1 h2⟩
  ·rename_i fid first cap he
   rw [he] at hfn;have hu:=zi6 hfn
   split at h
   ·rename_i hfst
    have ef:first= #[]:=Array.ext' hfst;rw [zkt] at h;obtain ⟨hok,α,val,J',hc,hk⟩:=h
    have hrun:(execOp a.eval o).run P w= .ok (.enter fid ((args.map a.eval)++cap)) w:=by
     simp [execOp,hop,resolve,Deferred.ofValue,hu,ef,invoke,z19 hok]
    refine ya6 hrun ?_;have:=hc w ((args.toList.map a.eval)++cap.toList) hg.held hg.j (zc2 (zc4 hg.den _) (zc6 _));rw [show ((args.toList.map a.eval)++cap.toList).toArray=(args.map a.eval)++cap by apply Array.ext';simp] at this
    exact Calls.mono this fun e w' ⟨y,he,h1,h2⟩=>⟨val y,he,hK _ _ _ _ (hk y) (AV.of_den _ (val y)) h1 h2⟩
   ·exact h.elim
  ·exact h.elim
 ·exact h.elim
theorem zp6 {w:World} (h:Held W ⟨[],gs⟩ w):Rel W ⟨[],gs⟩ [] Env.none w:=h.rel
theorem zmz {f:Fr} {J:World→Prop} {o:Oper} {K:AV→Prop} (h:zmy P W ⟨[],gs⟩ f o K) {a:Act} {w:World} (hg:GoodJ W ⟨[],gs⟩ N f J a w):
  ∃ v u,K v∧v.den Env.none u∧∀ w',Held W ⟨[],gs⟩ w'→(execOp a.eval o).run P w'= .ok (.value u) w':=by
 unfold zmy at h
 split at h
 ·rename_i x k hop
  split at h
  ·rename_i l hx
   split at h
   ·rename_i p hp
    have hxd:=hg.den.ev x;rw [hx] at hxd;obtain ⟨us,hu,hl⟩:=hxd;obtain ⟨u,h1,h2⟩:=zyf hl hp;exact ⟨_,u,h,h2,fun w _=>by simp [execOp,hop,hu,Instr.extract,h1]⟩
   ·exact h.elim
  ·exact zms h (zp6 hg.held) hg.den
 ·exact zms h (zp6 hg.held) hg.den
theorem za9 {f:Fr} {J:World→Prop} {o:Oper} {t:TypeId} {K:AV→(World→Prop)→Prop} (hop:o.op= .alloc t) (h:za8 P W ⟨[],gs⟩ t J K) {a:Act} {w:World} (hg:GoodJ W ⟨[],gs⟩ N f J a w) {next:Act→World→Prop} (hK:∀ v J' u w',K v J'→v.den Env.none u→Held W ⟨[],gs⟩ w'→J' w'→next (a.put o.dst u) w'):Oper.se P o a w next:=by
 unfold za8 at h
 split at h
 ·rename_i i hi
  split at h
  ·rename_i z hz
   have hrun:(execOp a.eval o).run P w= .ok (.value (.pointer (some ⟨w.heap.size,0,none⟩))) (w.alloc (.cells z.cells t)):=by
    simp [execOp,hop,Instr.alloc,zeroValue,typeInfo,hi,hz,newVar,newRow]
   have hB:Below w.heap.size w (w.alloc (.cells z.cells t)):=Below.alloc (Below.refl _ _) (Nat.le_refl _) _;have hz:=hg.held.size;exact ya8 hrun (hK _ _ _ _ (h _ hz) (zi3 _ _) ⟨hB.os.trans hg.held.os,hB.tape.trans hg.held.tape,hB.output.trans hg.held.output,Nat.le_trans hz hB.size,fun k hk hn=>(hB.block k zO).trans (hg.held.old k hk hn)⟩ ⟨⟨w,hg.j,hg.held,rfl,hB,heap_alloc_new w _⟩⟩)
  ·exact h.elim
 ·exact h.elim
theorem z7i {f:Fr} {J:World→Prop} {o:Oper} {t:TypeId} {x y:Operand} {K:AV→(World→Prop)→Prop} (hop:o.op= .store t x y) (h:z7h P W ⟨[],gs⟩ t (f.ev x) (f.ev y) J K) {a:Act} {w:World} (hg:GoodJ W ⟨[],gs⟩ N f J a w) {next:Act→World→Prop} (hK:∀ v J' u w',K v J'→v.den Env.none u→Held W ⟨[],gs⟩ w'→J' w'→next (a.put o.dst u) w'):Oper.se P o a w next:=by
 unfold z7h at h
 split at h
 ·rename_i b off hx
  have hxd:=hg.den.ev x;rw [hx] at hxd;have hu:a.eval x= .pointer (some ⟨b,off,none⟩):=hxd
  split at h
  ·rename_i cs hcs
   have hdc:=zv6 (zp6 hg.held) hcs (hg.den.ev y)
   split at h
   ·rename_i inf hinf
    obtain ⟨us,cur,t',hb,rfl,hl,hones,hle,hcur,hk⟩:=h;have hone:=zwj (zp6 hg.held) hones hdc;have hus:(a.eval y).cells.toList=us:=ziw hdc;rw [hus] at hone;obtain ⟨w',hr,hgr,hbl⟩:=z2l (P:=P) us (i:=0) (off:=off) (hcur w hg.held hg.j) hone zO
    have hrun:(execOp a.eval o).run P w= .ok .skip w':=by
     have hz:¬(a.eval y).cells.size≠inf.size:=(by rw [← Array.length_toList,hus,hl];simp);rw [← hus] at hr;simp only [execOp,hop,Instr.storeAt,hu,Instr.sureAddr,storeVar,Sem.run_bind,Sem.run_pure,Result.andThen_ok,z2j P t w hinf,if_neg hz,hr]
    have hz:=hg.held.size;refine ya7 hrun (hK _ _ _ _ hk (by simp [AV.den,Pc.den,CV.den]) ⟨hgr.os.trans hg.held.os,hgr.tape.trans hg.held.tape,hgr.output.trans hg.held.output,Nat.le_trans hz hgr.size,fun k hk hn=>(hgr.block k zO fun e=>?_).trans (hg.held.old k hk hn)⟩ ⟨⟨w,hg.j,hg.held,hgr,by rw [Nat.add_zero] at hbl;exact hbl⟩⟩);injection e with e;subst e;exact hb.elim (fun h=>by omega) hn
   ·exact h.elim
  ·exact h.elim
 ·exact h.elim
theorem zeb {f:Fr} {J:World→Prop} {o:Oper} {t:TypeId} {n:Nat} {parts:Array (Nat×Operand)} {K:AV→(World→Prop)→Prop} (hop:o.op= .buildSlice t n parts) (h:zea P W ⟨[],gs⟩ t n parts f J K) {a:Act} {w:World} (hg:GoodJ W ⟨[],gs⟩ N f J a w) {next:Act→World→Prop} (hK:∀ v J' u w',K v J'→v.den Env.none u→Held W ⟨[],gs⟩ w'→J' w'→next (a.put o.dst u) w'):Oper.se P o a w next:=by
 obtain ⟨us,e,i,z,ht,hi,hz,hle,hl,hk⟩:=h
 have hany:∀ zero:Array Value,denL Env.none (List.replicate (n*i.size) .any) ((Array.range (n*i.size)).map (zero[· %zero.size]!)).toList:=fun zero=>by
  have:=zii Env.none ((Array.range (n*i.size)).map (zero[· %zero.size]!)).toList
  rwa [show ((Array.range (n*i.size)).map (zero[· %zero.size]!)).toList.length=n*i.size by simp] at this
 have e3:(parts.map fun (i,x)=>(i,a.eval x)).toList=parts.toList.map fun p=>(p.1,a.eval p.2):=by simp
 have fl:∀ zero:Array Value,Instr.fill (fun k=>some (k*i.size,i.size)) ((Array.range (n*i.size)).map (zero[· %zero.size]!)) (parts.toList.map fun p=>(p.1,a.eval p.2))=some us.toArray:=fun zero=>by
  obtain ⟨vs,hv,hdv⟩:=zmd (zp6 hg.held) hg.den parts.toList _ _ _ hl (hany zero);rw [Array.toArray_toList] at hv;rw [hv,ziw hdv]
 have hrun:(execOp a.eval o).run P w= .ok (.value (.slice (some ⟨w.heap.size,0,none⟩) n n)) (w.alloc (.cells us.toArray e)):=by
  simp only [execOp,hop,Instr.buildSlice,underlying,Sem.run_bind,run_program,Result.andThen_ok,ht,Sem.run_pure,z2j P e w hi,e3];rw [if_neg zO];by_cases h0:n*i.size=0
  ·rw [if_pos h0]
   simp only [Sem.run_bind,Sem.run_pure,Result.andThen_ok];rw [fl #[]];simp [newRow]
  ·rw [if_neg h0]
   simp only [zeroValue,typeInfo,Sem.run_bind,run_program,Result.andThen_ok,hi,hz,Sem.run_pure];rw [fl z.cells];simp [newRow]
 have hB:Below w.heap.size w (w.alloc (.cells us.toArray e)):=Below.alloc (Below.refl _ _) (Nat.le_refl _) _;have hz:=hg.held.size;exact ya8 hrun (hK _ _ _ _ (hk _ hz) (zi3 _ _) ⟨hB.os.trans hg.held.os,hB.tape.trans hg.held.tape,hB.output.trans hg.held.output,Nat.le_trans hz hB.size,fun k hk hn=>(hB.block k zO).trans (hg.held.old k hk hn)⟩ ⟨⟨w,hg.j,hg.held,rfl,hB,heap_alloc_new w _⟩⟩)
theorem z64 {f:Fr} {J:World→Prop} {o:Oper} {K:AV→(World→Prop)→Prop} (h:z63 P W ⟨[],gs⟩ f J o K) {a:Act} {w:World} (hg:GoodJ W ⟨[],gs⟩ N f J a w) {next:Act→World→Prop} (hK:∀ v J' u w',K v J'→v.den Env.none u→Held W ⟨[],gs⟩ w'→J' w'→next (a.put o.dst u) w'):Oper.se P o a w next:=by
 unfold z63 at h
 split at h
 ·exact zex h hg hK
 ·split at h
  ·rename_i t hop;exact za9 hop h hg hK
  ·rename_i t x y hop;exact z7i hop h hg hK
  ·rename_i t n parts hop;exact zeb hop h hg hK
  ·obtain ⟨v,u,hk,hd,hrun⟩:=zmz h hg
   unfold Oper.se;rw [hrun w hg.held];exact hK v J u w hk hd hg.held hg.j
theorem z8y (hl:∀ i:Nat,l[i]?=ops[i]?) (hns:Region.noSelect ops=true) {K:Fr→(World→Prop)→Prop} {Q:Exit→Act→World→Prop} (hQ0:∀ c a w,¬Q (.panic c) a w) (hQ:∀ f J a w,K f J→GoodJ W ⟨[],gs⟩ N f J a w→Q .normal a w):
  ∀ (t:Tr) (inner:Bool) (listed:Array Bool) (f:Fr) (J:World→Prop) (n:Nat),t.ok ops inner listed=true→t.depth≤n→trJ P W ⟨[],gs⟩ N ops l t f J K→∀ a w,GoodJ W ⟨[],gs⟩ N f J a w→
   (inner=false→wpAnyH P .any ops Q (Held W ⟨[],gs⟩) n listed a w)∧
   (∀ m,n=m+1→∀ i∈t.alts,wpOp P ops Q i (fun a' w'=>Held W ⟨[],gs⟩ w'∧wpAnyH P .any ops Q (Held W ⟨[],gs⟩) m (listed.setIfInBounds i true) a' w') a w)
 | .done,inner,listed,f,J,n,hB,_,h,a,w,hg=>by
  refine ⟨fun _=>wpAnyH_done (by simp [Tr.ok] at hB;exact hB.2) (hQ f J a w h hg) _,fun m _ i hi=>by cases hi⟩
 | .no,inner,listed,f,J,n,hB,_,h,a,w,hg=>by
  refine ⟨fun he=>?_,fun m _ i hi=>by cases hi⟩;simp [Tr.ok] at hB;rw [hB] at he;cases he
 | .q i t,inner,listed,f,J,n,hB,hn,h,a,w,hg=>by
  refine ⟨fun _=>?_,fun m _ i hi=>by cases hi⟩;simp only [Tr.ok,Bool.and_eq_true] at hB;obtain ⟨⟨⟨_,hB1⟩,hB2⟩,hB3⟩:=hB;simp only [Tr.depth] at hn
  obtain ⟨n,rfl⟩:∃ k,n=k+1:=⟨n-1,by omega⟩
  unfold trJ at h
  split at h
  ·exact h.elim
  ·rename_i o ho
   rw [hl] at ho
   split at h
   ·exact h.elim
   ·rename_i hdst
    split at h
    ·rename_i hgd
     have hw:=zo9 hg.den hgd;obtain ⟨v,u,hK,hden,hrun⟩:=zmz h hg;have hK:=zy5.1 hK;refine wpAnyH_take (v:=u) ho hns hB1 hB2 (fun c a w h=>absurd h (hQ0 c _ w)) (.inl ⟨hw,hrun⟩) hg.held ?_;exact (z8y hl hns hQ0 hQ t false _ _ J n hB3 zO hK _ w ⟨hg.held,hg.j,hg.den.put hden (by rw [hg.size];exact hdst),(zzh a _ _).trans hg.size,(zze a _ _).trans hg.defers⟩).1 rfl
    ·rename_i hgd
     have hw:=zo9 hg.den hgd;have hK:=zy5.1 h;refine wpAnyH_take (v:=undef) ho hns hB1 hB2 (fun c a w h=>absurd h (hQ0 c _ w)) (.inr ⟨hw,rfl⟩) hg.held ?_;exact (z8y hl hns hQ0 hQ t false _ _ J n hB3 zO hK _ w ⟨hg.held,hg.j,hg.den.putAny _ (by rw [hg.size];exact hdst),(zzh a _ _).trans hg.size,(zze a _ _).trans hg.defers⟩).1 rfl
    ·exact h.elim
 | .alt i t more,inner,listed,f,J,n,hB,hn,h,a,w,hg=>by
  simp only [Tr.ok,Bool.and_eq_true] at hB;obtain ⟨⟨hB1,hB2⟩,hB3⟩:=hB;simp only [Tr.depth] at hn;unfold trJ at h;obtain ⟨h1,h2⟩:=h
  have all:∀ m,n=m+1→∀ j∈(Tr.alt i t more).alts,wpOp P ops Q j (fun a' w'=>Held W ⟨[],gs⟩ w'∧wpAnyH P .any ops Q (Held W ⟨[],gs⟩) m (listed.setIfInBounds j true) a' w') a w:=by
   intro m hm j hj;simp only [Tr.alts,List.mem_cons] at hj;rcases hj with rfl|hj
   ·split at h1
    ·exact h1.elim
    ·rename_i o ho
     rw [hl] at ho
     split at h1
     ·exact h1.elim
     ·rename_i hdst
      split at h1
      ·rename_i hgd
       have hw:=zo9 hg.den hgd;unfold wpOp;simp only [ho,hw,if_true];refine .inl (z3t (z64 h1 hg (next:=fun a' w'=>Held W ⟨[],gs⟩ w'∧wpAnyH P .any ops Q (Held W ⟨[],gs⟩) m (listed.setIfInBounds j true) a' w') fun v J' u w' hk hv hh hj'=>?_) fun _ _ h=>h);exact ⟨hh,(z8y hl hns hQ0 hQ t false _ _ J' m hB2 zO (zy5.1 hk) _ w' ⟨hh,hj',hg.den.put hv (by rw [hg.size];exact hdst),(zzh a _ _).trans hg.size,(zze a _ _).trans hg.defers⟩).1 rfl⟩
      ·exact h1.elim
   ·exact (z8y hl hns hQ0 hQ more true listed f J n hB3 zO h2 a w hg).2 m hm j hj
  refine ⟨fun he=>?_,all⟩
  obtain ⟨m,rfl⟩:∃ k,n=k+1:=⟨n-1,by omega⟩
  have hr:Region.ready .any ops listed=(Tr.alt i t more).alts:=by
   rw [he] at hB1
   simpa [Tr.alts] using hB1
  exact wpAnyH_all hr (by simp [Tr.alts]) (all m rfl)
theorem z3x {K:Fr→(World→Prop)→Prop} {Q:Act→World→Prop} (hQ:∀ f J a w,K f J→GoodJ W ⟨[],gs⟩ N f J a w→Q a w):∀ (l:List Oper) (f:Fr) (J:World→Prop),seqJ P W ⟨[],gs⟩ N ops l f J K→∀ a w,GoodJ W ⟨[],gs⟩ N f J a w→seL P ops Q l a w
 |[],f,J,h,a,w,hg=>hQ f J a w h hg
 |o::l,f,J,h,a,w,hg=>by
  unfold seqJ at h
  split at h
  ·exact h.elim
  ·rename_i hdst
   split at h
   ·rename_i hgd
    refine z68 (zo9 hg.den hgd) (z64 h hg fun v J' u w' hk hv hh hj'=>?_);exact z3x hQ l _ J' (zy5.1 hk) _ w' ⟨hh,hj',hg.den.put hv (by rw [hg.size];exact hdst),(zzh a _ _).trans hg.size,(zze a _ _).trans hg.defers⟩
   ·rename_i hgd
    refine z7a (zo9 hg.den hgd) ?_;exact z3x hQ l _ J (zy5.1 h) _ w ⟨hg.held,hg.j,hg.den.putAny _ (by rw [hg.size];exact hdst),(zzh a _ _).trans hg.size,(zze a _ _).trans hg.defers⟩
   ·exact h.elim
theorem zp2 {w:World} (h:Below W.heap.size W w):Held W ⟨[],gs⟩ w:=⟨h.os,h.tape,h.output,h.size,fun k hk _=>h.block k hk⟩
theorem z3k {id:Nat} {l:List Oper} {f:Fr} {S:List Ow} {Q:Exit→Act→World→Prop} (gs:List Nat) (t:Tr) (J0:World→Prop) (hJ:∀ w,Below W.heap.size W w→J0 w) (hm:P.follows .mixedOrders=true) (hns:Region.noSelect l.toArray=true) (hB:(t.ok l.toArray false (Array.replicate l.toArray.size false)&&Nat.ble t.depth l.length)=true)
  (h:trJ P W ⟨[],gs⟩ N l.toArray l t (zys f) J0 fun f' J'=>∀ w',Held W ⟨[],gs⟩ w'→J' w'→AtQ w' Gs.nil N .normal f' [] Q):SatQ P W Gs.nil N (.region id l.toArray true) f S Q:=by
 refine ⟨fun a w ⟨r,hR,hf,hN,hd⟩=>wpIn_wide.2 ?_⟩;simp only [Bool.and_eq_true] at hB;have hb:=hR.drew.toBelow;refine Code.wp_mono (Q:=fun e a w=>match e with| .normal=>Q .normal a w|_=>False) (fun e a w h=>by cases e<;>first|exact h|exact h.elim) (wp_region_held (S:=Held W ⟨[],gs⟩) hm ?_);have:=(z8y (P:=P) (W:=W) (N:=N) (Q:=fun e a w=>match e with| .normal=>Q .normal a w|_=>False) (fun i=>by simp) hns (fun c a w h=>h) (fun f' J' a' w' hk hg=>(hk w' hg.held hg.j).out a' w' ⟨Env.none,z1o w',hg.den,hg.size,hg.defers⟩) t false _ (zys f) J0 l.length hB.1 (Nat.le_of_ble_eq_true hB.2) h a w.drew ⟨zp2 hb,hJ _ hb,zyt hf,hN,hd⟩).1 rfl
 simpa using this
theorem z3h {id:Nat} {ops:Array Oper} {f:Fr} {S:List Ow} {Q:Exit→Act→World→Prop} (gs:List Nat) (J0:World→Prop) (hJ:∀ w,Below W.heap.size W w→J0 w)
  (h:seqJ P W ⟨[],gs⟩ N ops ops.toList (zys f) J0 fun f' J'=>∀ w',Held W ⟨[],gs⟩ w'→J' w'→AtQ w' Gs.nil N .normal f' [] Q):SatQ P W Gs.nil N (.region id ops false) f S Q:=
 ⟨fun a w ⟨_r,hR,hf,hN,hd⟩=>wpIn_region_list (z3s none 10 (z3x (fun _f' _J' a' w' hk hg=>(hk w' hg.held hg.j).out a' w' ⟨Env.none,z1o w',hg.den,hg.size,hg.defers⟩) _ (zys f) J0 h a w ⟨zp2 hR.toBelow,hJ _ hR.toBelow,zyt hf,hN,hd⟩))⟩
end
def zf0 (ops:Array Oper):List Nat→Array Bool→Bool
 |[],_=>true
 |i::qs,listed=>Region.free .any ops listed i&&(Region.ready .any ops listed).contains i&&zf0 ops qs (listed.setIfInBounds i true)
def zfz:List Nat→Array Bool→Array Bool
 |[],listed=>listed
 |i::qs,listed=>zfz qs (listed.setIfInBounds i true)
section
variable (P:Program) (W:World) (G:Gs) (N:Nd)
def chK (ops:Array Oper) (l:List Oper):List Nat→Fr→List Ow→(Fr→List Ow→Prop)→Prop
 |[],f,T,K=>K f T
 |i::qs,f,T,K=>(match l[i]? with
  |none=>False
  |some o=>(match zjc N.n o.dst with
   |false=>False
   |true=>(match zo5 ops f o with
    |some true=>zmr P W G f T o fun v=>f.putK o.dst v fun f'=>chK ops l qs f' T K
    |_=>False)))
end
section
variable {P:Program} {W:World} {G:Gs} {N:Nd} {ops:Array Oper} {l:List Oper} {α:Type}
theorem zfy (hl:∀ i:Nat,l[i]?=ops[i]?) (hns:Region.noSelect ops=true) {K:Fr→List Ow→Prop} {Q:Exit→Act→World→Prop} (hQ0:∀ c a w,¬Q (.panic c) a w) {m:Nat}:
  ∀ (qs:List Nat) (listed:Array Bool) (f:Fr) (T:List Ow),zf0 ops qs listed=true→chK P W G N ops l qs f T K→(∀ f' a w,K f' T→Good W G N f' T a w→wpAnyH P .any ops Q (Held W G) m (zfz qs listed) a w)→
   ∀ a w,Good W G N f T a w→wpAnyH P .any ops Q (Held W G) (qs.length+m) listed a w
 |[],listed,f,T,_,h,hK,a,w,hg=>by
  rw [List.length_nil,Nat.zero_add];exact hK f a w h hg
 |i::qs,listed,f,T,hB,h,hK,a,w,hg=>by
  simp only [zf0,Bool.and_eq_true] at hB;obtain ⟨⟨hB1,hB2⟩,hB3⟩:=hB;rw [List.length_cons,show qs.length+1+m=(qs.length+m)+1 by omega];unfold chK at h
  split at h
  ·exact h.elim
  ·rename_i o ho
   rw [hl] at ho
   split at h
   ·exact h.elim
   ·rename_i hdst
    obtain ⟨r,hR,hf,hN,hd⟩:=hg
    split at h
    ·rename_i hgd
     have hw:=zo9 hf hgd;obtain ⟨v,u,hK1,hden,hrun⟩:=zms h hR hf;have hK1:=zy5.1 hK1;refine wpAnyH_take (v:=u) ho hns hB1 hB2 (fun c a w h=>absurd h (hQ0 c _ w)) (.inl ⟨hw,hrun⟩) hR.held ?_;exact zfy hl hns hQ0 qs _ _ T hB3 hK1 hK _ w ⟨r,hR,hf.put hden (by rw [hN];exact hdst),(zzh a _ _).trans hN,(zze a _ _).trans hd⟩
    ·exact h.elim
theorem z2u {id:Nat} {f:Fr} {S:List Ow} {K:Exit→Fr→List Ow→Prop} (qs:List Nat) (listed:α→Array Bool) (nx:α→Nx α) (left:α→Nat) (T:α→Fr) (U:α→List Ow) (x0:α) (hm:P.follows .mixedOrders=true) (hns:Region.noSelect l.toArray=true)
  (h0:(zf0 l.toArray qs (Array.replicate l.toArray.size false)&&zki (listed x0).toList (zfz qs (Array.replicate l.toArray.size false)).toList&&Nat.ble (qs.length+left x0) l.length)=true) (hB:∀ x,dagB l.toArray listed nx left x=true)
  (h:chK P W G N l.toArray l qs f S fun f' S'=>Ent W G N f' S' (T x0) (U x0)) (hnode:∀ x,zvh P W G N l.toArray l T U (K .normal) x (nx x)):Sat none P W G N (.region id l.toArray true) f S K:=by
 refine ⟨fun n a w ⟨r,hR,hf,hN,hd⟩=>wpIn_wide.2 ?_⟩;simp only [Bool.and_eq_true] at h0;obtain ⟨⟨h1,h2⟩,h3⟩:=h0;have h3:=Nat.le_of_ble_eq_true h3;refine Code.wp_mono (Q:=fun e a w=>match e with| .normal=>zal W G N K .normal a w|_=>False) (fun e a w h=>by cases e<;>first|exact h|exact h.elim) (wp_region_held (S:=Held W G) hm ?_)
 have:=zfy (P:=P) (W:=W) (N:=N) (Q:=fun e a w=>match e with| .normal=>zal W G N K .normal a w|_=>False) (m:=l.length-qs.length) (fun i=>by simp) hns (fun c a w h=>h) qs (Array.replicate l.toArray.size false) f S h1 h (fun f' a' w' hK hg=>by
  have:=zh8 (P:=P) (W:=W) (N:=N) (ops:=l.toArray) (l:=l) (Q:=fun e a w=>match e with| .normal=>zal W G N K .normal a w|_=>False) (fun i=>by simp) hns (fun c a w h=>h) (fun f T a w hk hg=>⟨f,T,hk,hg⟩) hB hnode (l.length-qs.length) x0 a' w' zO (hK.out a' w' hg)
  rwa [show listed x0=zfz qs (Array.replicate l.toArray.size false) from Array.ext' (zkj h2)] at this) a w.drew ⟨r,hR.drew,hf,hN,hd⟩
 rw [show qs.length+(l.length-qs.length)=l.length by omega] at this
 simpa using this
theorem zvj {T:α→Fr} {U:α→List Ow} {K:Fr→List Ow→Prop} {x:α}:zvh P W G N ops l T U K x (.alts []):=fun p hp=>by cases hp
theorem zvi {T:α→Fr} {U:α→List Ow} {K:Fr→List Ow→Prop} {x:α} {i:Nat} {y:α} {m:List (Nat×α)} (h:altK P W G N ops l T U x i y) (hm:zvh P W G N ops l T U K x (.alts m)):zvh P W G N ops l T U K x (.alts ((i,y)::m)):=fun p hp=>by
 rcases List.mem_cons.1 hp with rfl|hp
 ·exact h
 ·exact hm p hp
end
def z14 (S:List Ow):Bool:=S.all fun o=>match o with| .row .. =>true| .gone=>true|_=>false
theorem zj5 {w0:World} {N:Nd} {f:Fr} {A:List Ow} (d:Nat) (e:TypeId) (size:Nat) (hf:f.bnd A.length=true) (hA:z14 A=true):
  Ent w0 Gs.nil N ((d,.p (.c (.sl A.length 0 0 0)))::f) (A++[.cells e []]) ((d,.p (.c (.row A.length)))::f) (A++[.row e size 0 []]):=⟨fun a w ⟨r,hR,hd,hN,hdf⟩=>by
 have h1:=hd d;rw [zor] at h1;obtain ⟨b,hb,hu⟩:=zi5 h1;obtain ⟨b',us,e1,e2,e3⟩:=hR.own A.length (.cells e []) zS;rw [hb] at e1;injection e1 with e1;subst e1;obtain rfl:us=[]:=e3
 obtain ⟨v,hv⟩:∃ v:Value,v= .slice (some ⟨b,0,none⟩) 0 0:=⟨_,rfl⟩
 have hlen:(A++[Ow.cells e []]).length=A.length+1:=by simp
 refine ⟨⟨r.blk,fun i=>if i=A.length then some v else r.val i⟩,⟨hR.os,hR.tape,hR.output,hR.size,hR.old,fun i o ho=>?_,hR.inj,hR.new,fun i hi=>hR.outB i (by simp at hi⊢;omega),fun i hi=>?_,hR.first⟩,fun k=>?_,hN,hdf⟩
 ·rcases zot ho with ⟨hi,ho⟩|⟨rfl,rfl⟩
  ·have h2:=hR.own i o (by rw [List.getElem?_append_left hi];exact ho)
   have h3:=List.all_eq_true.1 hA o (List.mem_of_getElem? ho)
   cases o with
   |row e' s' n' xs'=>
    obtain ⟨v',f1,f2,f3⟩:=h2;exact ⟨v',by show (if i=A.length then some v else r.val i)=some v';rw [if_neg zO];exact f1,f2,f3⟩
   |gone=>trivial
   |cells=>cases h3
   |ext=>cases h3
   |view=>cases h3
  ·refine ⟨v,by show (if A.length=A.length then some v else _)=some v;rw [if_pos rfl],by rw [hv];exact hb.symm,by simp,.inr ⟨b,0,#[],hv,Nat.zero_le _,e2,Nat.le_refl _,Nat.zero_le _,by simp,by simp⟩⟩
 ·show (if i=A.length then some v else r.val i)=none
  have:A.length+1≤i:=(by simpa using hi);rw [if_neg zO];exact hR.outV i (by rw [hlen];exact this)
 ·have hag:r.agree A.length ⟨r.blk,fun i=>if i=A.length then some v else r.val i⟩:=fun i hi=>⟨rfl,by show r.val i=(if i=A.length then some v else r.val i);rw [if_neg zO]⟩
  have h4:=hd k;simp only [Fr.get] at h4⊢
  split
  ·rename_i hk
   have hk:d=k:=Nat.eq_of_beq_eq_true hk;subst hk;show (if A.length=A.length then some v else _)=some _;rw [if_pos rfl,hv,hu]
  ·rename_i hk
   rw [hk] at h4
   exact AV.den_agree hag _ _ (Fr.bnd_get k hf) h4⟩
theorem zk1 {ats:List Int} {n p:Nat}:∀ (l:List BOp) (i:Int) (vs:List Int) (M:MemP),VarsOk vs→M.ok n p→(∀ o∈l,o.ok)→(zkx ats l i vs M).out.vars.length=28∧(zkx ats l i vs M).mem.ok n p
 |[],i,vs,M,hv,hM,_=>⟨rfl,hM⟩
 |o::l,i,vs,M,hv,hM,ho=>by
  have hg:=(zpk hv).len;have hoo:=ho o zS;have hol:∀ p∈l,p.ok:=fun p hp=>ho p (by simp [hp]);have hA:=zbv (o:=o) hM hv;by_cases h1:o.code=24∨(o.code=23∧getV vs o.a≠0)
  ·rw [zky h1];exact ⟨hg,hM⟩
  by_cases h2:o.code=25
  ·rw [zk3 h2];exact ⟨hg,hM⟩
  cases h3:(zbr o vs M).stays with
  |true=>rw [zkz h1 h2 h3];exact zk1 l _ _ _ (zby hv hoo.n) hA hol
  |false=>rw [zk0 h1 h2 h3];exact ⟨hg,hA⟩
theorem zkv {b:Blk} {n p:Nat} {vs:List Int} {M:MemP} (hb:b.ok) (hv:VarsOk vs) (hM:M.ok n p):(zku b vs M).out.vars.length=28∧(zku b vs M).mem.ok n p:=by
 unfold zku
 split
 ·exact zk1 b.ops 0 vs M hv hM hb.ops
 ·exact ⟨rfl,hM⟩
structure OptOk (b:Blk) (l:List BOp):Prop where
 valid:z9g ⟨b.at_,b.pages,l⟩=true
 ok:(⟨b.at_,b.pages,l⟩:Blk).ok
 same:∀ vs M,VarsOk vs→zku ⟨b.at_,b.pages,l⟩ vs M=zku b vs M
abbrev outL (x:Outc):List Value:= .bool x.leaves::intV x.index::intV x.done:: .int .u32 x.pc::u32L x.vars
abbrev outV (x:Outc):Value:= .agg (outL x).toArray
def zaf (b:Blk) (vs:List Int) (n p:Nat) (M:MemP) (g:Nat) (gs:List Nat) (w:World):Ending→World→Prop:=fun e w'=>e= .returned (outV (zku b vs M).out)∧ObjsAt w' (g::gs) (memS 0 n p (zku b vs M).mem)∧GrownBys w w' (g::gs)
theorem z54 {w0:World} {G:Gs} {S:List Ow} {r:Env} {w:World} (hR:Rel w0 G S r w) {A:Option Addr} {xs:List Value} (h:zao w0 G A xs):SlAt w w.heap.size A xs:=fun j u hj=>by
 obtain ⟨b,off,e1,e2,e3,e4⟩:=h j u hj;exact ⟨b,off,e1,Nat.lt_of_lt_of_le e2 hR.size,(hR.oldCell e2 e3 _).trans e4⟩
theorem z57 {w0:World} {G:Gs} {A:Option Addr} {l:List BOp} (h:zao w0 G A (l.flatMap opC)) {j:Nat} {o:BOp} (hj:l[j]?=some o):∃ b off,A=some ⟨b,off,none⟩∧zac w0 G b (off+(j:Int).toNat*5) (opC o):=by
 have at_:∀ k,k<5→(l.flatMap opC)[j*5+k]?=(opC o)[k]?:=fun k hk=>by
  have:=zw8 hj;rw [← this,List.getElem?_take,if_pos hk,List.getElem?_drop]
 obtain ⟨b,off,e1,e2,e3,e4⟩:=h (j*5+0) (.int .i64 o.code) (by rw [at_ 0 zO];rfl);refine ⟨b,off,e1,e2,e3,fun k u hk=>?_⟩
 have hk5:k<5:=by
  rcases Nat.lt_or_ge k 5 with h1|h1
  ·exact h1
  ·rw [List.getElem?_eq_none (by simpa [opC] using h1)] at hk;cases hk
 obtain ⟨b',off',f1,_,_,f4⟩:=h (j*5+k) u (by rw [at_ k hk5];exact hk);rw [e1] at f1;injection f1 with f1;injection f1 with f1 f2;subst f1;subst f2;rw [Int.toNat_natCast,Nat.add_assoc];exact f4
theorem z58 {w0:World} {G:Gs} {A:Option Addr} {xs:List Value} (h:zao w0 G A xs) {i:Int} (_hi:0≤i) {x:Value} (hx:xs[i.toNat]?=some x):∃ b off,A=some ⟨b,off,none⟩∧zac w0 G b (off+i.toNat*1) [x]:=by
 obtain ⟨b,off,e1,e2,e3,e4⟩:=h i.toNat x hx;exact ⟨b,off,e1,zfu e2 e3 (by rw [Nat.mul_one];exact e4)⟩
theorem zo1 (g g1 g2 g3 g4 g5 n p:Nat) (M:MemP) (t1 t2 t3 t4:TypeId) (us1 us2 us3 us4:List Value):zoz ⟨[g,g1,g2,g3,g4,g5],[]⟩ (memL 0 n p M [.cells t1 (us1.map .v),.cells t2 (us2.map .v),.cells t3 (us3.map .v),.cells t4 (us4.map .v)])=true:=
 zo3 g g1 g2 g3 g4 g5 n p M _ (by simp only [sbnd,Ow.bnd,zd6])
theorem zcz (vs:List Int):avals [.p (.agg (z95 vs))]=some [z97 vs]:=by
 simp only [avals,AV.val,Pc.val,z9d]
theorem zcw (o:BOp) (vs:List Int):avals [.p (.agg ((opC o).map .v)),.p (.agg (z95 vs))]=some [opV o,z97 vs]:=by
 simp only [avals,AV.val,Pc.val,z9d];rfl
theorem zxt {vs:List Int} (h:VarsOk vs) (c0 c1 c2 c3:CV) (Z:List CV) (hZ:Z.length=28):z3z (c0::c1::c2::c3::Z) 4 (z95 vs)=c0::c1::c2::c3::z95 vs:=by
 have:=z30 (p:=[c0,c1,c2,c3]) (l:=Z) (m:=z95 vs) (by rw [hZ,z96 h]);exact this
theorem zmf {P:Program} {S:List Ow} {f:Fr} {place:Nat→Option (Nat×Nat)} {parts:List (Nat×Operand)} {cells:List CV} {K:List CV→Prop} (m:List CV) (h:zmc P S f place parts cells=some m) (hK:K m):(match zmc P S f place parts cells with|some m=>K m|none=>False):=by
 rw [h];exact hK
abbrev outC (x:Outc):List CV:=(outL x).map .v
theorem zxk {x:Outc} (h:VarsOk x.vars):(outC x).length=32:=by simp [h.len]
theorem zwk (S:List Ow) (x:Outc):zwf S (outC x)=true:=zwl S x.vars
theorem zxq {x:Outc} (h:VarsOk x.vars) (Z:List CV) (hZ:Z.length=32):z3z Z 0 (outC x)=outC x:=z32 (by rw [hZ,zxk h])
set_option maxRecDepth 100000
theorem zcl {w0:World} {G:Gs} {N:Nd} {f:Fr} {S:List Ow} {Q:Exit→Act→World→Prop} {Q':Act→World→Prop} (h:AtQ w0 G N .ret f S Q):AtQ w0 G N .ret f S (Exit.then Q' Q):=⟨fun a w hg=>h.out a w hg⟩
theorem zxu {w0:World} {gs:List Nat} {n p:Nat} {f:Fr} {S:List Ow} {x:Outc} {M:MemP} {R:Ending→World→Prop} (hgs:gs.length=6) (hx:VarsOk x.vars) (h6:f.get 6= .p (.c (.ref 8 0))) (h8:S[8]?=some (.cells 74 (outC x))) (hS:∀ (i:Nat) (o:Ow),(memS 0 n p M)[i]?=some o→S[i]?=some o)
  (hR:∀ w',ObjsAt w' gs (memS 0 n p M)→GrownBys w0 w' gs→R (.returned (outV x)) w'):resK Tryz.prog w0 ⟨gs,[]⟩ S f [.cell 6 74] fun v=>Fin w0 ⟨gs,[]⟩ S v R:=by
 unfold resK resL resV;dsimp only;rw [h6];unfold ztg;dsimp only;rw [h8];(conv=>whnf);erw [zh1 (zxk hx)];(conv=>whnf);exact zmn (U:=memS 0 n p M) (z9e _) hgs.symm hS (by rw [hgs];exact zuc n p M) hR
theorem zk4 (b:Blk) (vs:List Int) (n p:Nat) (M:MemP) (A1 A2 A3:Option Addr) (c1 c2 c3:Nat) (w:World) (g:Nat) (gs:List Nat) (hU:ObjsAt w (g::gs) (memS 0 n p M)) (hM:M.ok n p) (hb:b.ok) (hv:z9g b=true) (hvs:VarsOk vs)
  (h1:zao w ⟨g::gs,[]⟩ A1 (b.at_.map (.int .u32))) (h2:zao w ⟨g::gs,[]⟩ A2 (b.pages.map (.int .i64))) (h3:zao w ⟨g::gs,[]⟩ A3 (b.ops.flatMap opC)):
  Calls Tryz.prog 31 #[.agg #[.slice A1 b.at_.length c1,.slice A2 b.pages.length c2,.slice A3 b.ops.length c3],z97 vs,.pointer (some ⟨g,0,none⟩)] w (zaf b vs n p M g gs w):=by
 obtain ⟨g0,g1,g2,g3,g4,g5,hg⟩:=z5w hU;injection hg with hg0 hgs;subst hgs;subst hg0;have hvl:=z96 hvs;have hz:=ybr;have hlen:=hb.lops;have hforms:=z9o hv;refine zff [.p (.agg [.v (.slice A1 b.at_.length c1),.v (.slice A2 b.pages.length c2),.v (.slice A3 b.ops.length c3)]),AV.of (z97 vs),.p (.c (.ref 0 0))] [.agg #[.slice A1 b.at_.length c1,.slice A2 b.pages.length c2,.slice A3 b.ops.length c3],z97 vs,.pointer (some ⟨g,0,none⟩)] Tryz.func31 Tryz.ntmps31 rfl zS hU ⟨_,_,rfl,AV.of_den _ (.agg #[.slice A1 b.at_.length c1,.slice A2 b.pages.length c2,.slice A3 b.ops.length c3]),_,_,rfl,AV.of_den _ _,_,_,rfl,zi1 rfl,rfl⟩ ?_;refine z3g ?_;(conv=>whnf);refine z3g ?_;(conv=>whnf);refine ze2 rfl zK (fun r w' hR=>z9s A1 A2 A3 c1 c2 c3 b w' hb (z54 hR h2) (z54 hR h3)) ?_;rw [z9u,hv];(conv=>whnf);refine z3g ?_;(conv=>whnf);refine ⟨fun h=>absurd h (by decide),fun _=>?_⟩;(conv=>whnf);refine z3g ?_;(conv=>whnf);erw [zh1 hvl];(conv=>whnf);erw [zdl hvl,zwl];(conv=>whnf);erw [zdz (hvl.trans hz.symm)];(conv=>whnf);erw [z99 hvs _ hz];(conv=>whnf);refine z3g ?_;(conv=>whnf);refine z25 ?_;refine z3g ?_;(conv=>whnf);refine z21 ?_
 refine z29 (α:={y:Nat×Int×List Int×MemP//y.1≤b.ops.length∧VarsOk y.2.2.1∧y.2.2.2.ok n p∧EvAt b.at_.length (b.ops.drop y.1) y.2.1∧zkx b.at_ (b.ops.drop y.1) y.2.1 y.2.2.1 y.2.2.2=zku b vs M})
  (fun y=>[(2,.p (.c (.ref 0 0))),(3,.p (.c (.ref 6 0))),(6,.p (.c (.ref 8 0))),(8,.p (.c (.ref 9 0))),(9,one (.int .i64 y.1.2.1)),(10,one (.int .i64 (y.1.1:Int)))])
  (fun y=>memL 0 n p y.1.2.2.2 [.cells 28 [.v (.slice A1 b.at_.length c1),.v (.slice A2 b.pages.length c2),.v (.slice A3 b.ops.length c3)],.cells 42 (z95 vs),.cells 74 ((outL Outc.zero).map .v),.cells 42 (z95 y.1.2.2.1)]) (fun y=>b.ops.length-y.1.1)
  ⟨(0,0,vs,M),by show 0≤_;omega,hvs,hM,by show EvAt _ (b.ops.drop 0) 0;exact zkr hv,by show zkx b.at_ (b.ops.drop 0) 0 vs M=_;unfold zku;rw [if_pos hv];rfl⟩
  (zkb rfl Tn Tn) fun y=>?_
 obtain ⟨⟨j,i,us,Q⟩,hj,hus,hQ,hat,hev⟩:=y;dsimp only at hj hus hQ hat hev⊢;have hul:=z96 hus;refine z3g ?_;(conv=>whnf);refine ⟨fun hc=>?_,fun hc=>?_⟩
 ·have hlt:j<b.ops.length:=by simpa using hc
  obtain ⟨o,ho⟩:∃ o,b.ops[j]?=some o:=⟨_,List.getElem?_eq_getElem hlt⟩
  obtain ⟨bo,off,rfl,hcell⟩:=z57 h3 ho;have hfo:=hforms o (List.mem_of_getElem? ho);have hoo:=hb.ops o (List.mem_of_getElem? ho);rw [zjb ho] at hat hev
  have hat2:=zks hat
  conv=>whnf
  refine z3c (α:={y:Int×List Int×MemP//VarsOk y.2.1∧y.2.2.ok n p∧EvAt b.at_.length (b.ops.drop (j+1)) y.1∧zkx b.at_ (b.ops.drop (j+1)) y.1 y.2.1 y.2.2=zku b vs M})
   (fun y=>[(2,.p (.c (.ref 0 0))),(3,.p (.c (.ref 6 0))),(6,.p (.c (.ref 8 0))),(8,.p (.c (.ref 9 0))),(9,one (.int .i64 y.1.1)),(10,one (.int .i64 (j:Int)))])
   (fun y=>memL 0 n p y.1.2.2 [.cells 28 [.v (.slice A1 b.at_.length c1),.v (.slice A2 b.pages.length c2),.v (.slice (some ⟨bo,off,none⟩) b.ops.length c3)],.cells 42 (z95 vs),.cells 74 ((outL Outc.zero).map .v),.cells 42 (z95 y.1.2.1)]) ?_ fun y=>?_
  ·refine z21 ?_
   refine z3g ?_;(conv=>whnf);refine ⟨⟨by omega,by omega⟩,?_⟩;(conv=>whnf);refine ⟨opC o,hcell,rfl,?_⟩;(conv=>whnf)
   refine z3c (α:=Unit) (fun _=>[(2,.p (.c (.ref 0 0))),(3,.p (.c (.ref 6 0))),(6,.p (.c (.ref 8 0))),(8,.p (.c (.ref 9 0))),(9,one (.int .i64 (ztx o i))),(10,one (.int .i64 (j:Int))),(11,.p (.c (.ref 10 0)))])
    (fun _=>memL 0 n p Q [.cells 28 [.v (.slice A1 b.at_.length c1),.v (.slice A2 b.pages.length c2),.v (.slice (some ⟨bo,off,none⟩) b.ops.length c3)],.cells 42 (z95 vs),.cells 74 ((outL Outc.zero).map .v),.cells 42 (z95 us),.cells 61 ((opC o).map .v)]) ?_ fun _=>?_
   ·refine z3l ?_
    (conv=>whnf);refine ⟨fun h=>?_,fun h=>?_⟩
    ·have hm:ztx o i=o.n:=if_pos (by simpa using h)
     have hn:0≤o.n∧o.n<4294967296:=hoo.n;(conv=>whnf);refine ⟨o.n,wr64 zO,?_⟩;(conv=>whnf);exact zb8 () (zkb rfl (aI rfl (aI rfl (aI rfl (aI rfl (aI ((congrArg (fun z=>one (.int .i64 z)) hm.symm)) Tn))))) Tn)
    ·have hm:ztx o i=i:=if_neg (by simpa using h)
     (conv=>whnf);exact zb8 () (zkb rfl (aI rfl (aI rfl (aI rfl (aI rfl (aI ((congrArg (fun z=>one (.int .i64 z)) hm.symm)) Tn))))) Tn)
   refine z25 ?_;refine z3c (α:=Unit) (fun _=>[(2,.p (.c (.ref 0 0))),(3,.p (.c (.ref 6 0))),(6,.p (.c (.ref 8 0))),(8,.p (.c (.ref 9 0))),(9,one (.int .i64 (ztx o i))),(10,one (.int .i64 (j:Int))),(11,.p (.c (.ref 10 0))),(52,one (.bool (o.code==24||(o.code==23&&getV us o.a !=0))))]) (fun _=>memL 0 n p Q [.cells 28 [.v (.slice A1 b.at_.length c1),.v (.slice A2 b.pages.length c2),.v (.slice (some ⟨bo,off,none⟩) b.ops.length c3)],.cells 42 (z95 vs),.cells 74 ((outL Outc.zero).map .v),.cells 42 (z95 us),.cells 61 ((opC o).map .v)]) ?_ fun _=>?_
   ·refine z3e ?_
    conv=>whnf
    cases h:(o.code==24) with
    |true=>
     repeat (first|(refine ⟨fun _=>?_,(fun h=>absurd h (by decide))⟩;(conv=>whnf))|(refine ⟨(fun h=>absurd h (by decide)),fun _=>?_⟩;(conv=>whnf)))
     exact zb8 () (zkb rfl Tn Tn)
    |false=>
     repeat (first|(refine ⟨fun _=>?_,(fun h=>absurd h (by decide))⟩;(conv=>whnf))|(refine ⟨(fun h=>absurd h (by decide)),fun _=>?_⟩;(conv=>whnf)))
     cases h2:(o.code==23) with
     |true=>
      repeat (first|(refine ⟨fun _=>?_,(fun h=>absurd h (by decide))⟩;(conv=>whnf))|(refine ⟨(fun h=>absurd h (by decide)),fun _=>?_⟩;(conv=>whnf)))
      refine ⟨⟨(znu hfo).1,by have:=(znu hfo).2;omega⟩,?_⟩;(conv=>whnf)
      repeat (first|(refine ⟨fun _=>?_,(fun h=>absurd h (by decide))⟩;(conv=>whnf))|(refine ⟨(fun h=>absurd h (by decide)),fun _=>?_⟩;(conv=>whnf)))
      erw [z90 hus (znu hfo)];(conv=>whnf)
      repeat (first|(refine ⟨fun _=>?_,(fun h=>absurd h (by decide))⟩;(conv=>whnf))|(refine ⟨(fun h=>absurd h (by decide)),fun _=>?_⟩;(conv=>whnf)))
      exact zb8 () (zkb rfl Tn Tn)
     |false=>
      repeat (first|(refine ⟨fun _=>?_,(fun h=>absurd h (by decide))⟩;(conv=>whnf))|(refine ⟨(fun h=>absurd h (by decide)),fun _=>?_⟩;(conv=>whnf)))
      exact zb8 () (zkb rfl Tn Tn)
   have hgu:=zpk hus;have hgl:=z96 hgu;have hcond:(o.code==24||(o.code==23&&getV us o.a !=0))=true↔(o.code=24∨(o.code=23∧getV us o.a≠0)):=(by simp);refine z23 rfl (fun ht=>?_) (fun ht=>z3j (zcd ?_))
   ·have hev2:=(zky (ats:=b.at_) (l:=b.ops.drop (j+1)) (i:=i) (M:=Q) (hcond.1 ht)).symm.trans hev
    refine z3l ?_;refine z2x 8 mixed zK ?_;(conv=>whnf);erw [zh1 hul];(conv=>whnf);refine zz3 (xs:=[z97 us]) (x:=z97 (zpg us)) (zcz us) zK (fun r w' hR=>zpm us w' hus.len) ?_;(conv=>whnf);refine zmf (outC ⟨false,0,b.at_.length,o.n,zpg us⟩) ?_ ?_
    ·conv=>lhs;whnf
     erw [zdl hgl]
     conv=>lhs;whnf
     exact congrArg some (zxt hgu _ _ _ _ _ rfl)
    (conv=>whnf);erw [zdl (zxk (x:=⟨false,0,b.at_.length,o.n,zpg us⟩) hgu),zwk];(conv=>whnf);erw [zdz (zxk (x:=⟨false,0,b.at_.length,o.n,zpg us⟩) hgu)];(conv=>whnf);erw [zxq (x:=⟨false,0,b.at_.length,o.n,zpg us⟩) hgu _ rfl];refine zcl (zch (zci (zck (zch (zcl (zcg (zxu (x:=⟨false,0,b.at_.length,o.n,zpg us⟩) (M:=Q) rfl hgu rfl rfl zt8 fun w' k1 k2=>?_)))))));unfold zaf;rw [← hev2];exact ⟨rfl,k1,k2⟩
   have hne:¬(o.code=24∨(o.code=23∧getV us o.a≠0)):=fun h=>by rw [hcond.2 h] at ht;cases ht
   refine z25 ?_;refine z3g ?_;(conv=>whnf);refine z23 rfl (fun h25=>?_) (fun h25=>z3j (zcd ?_))
   ·have hev2:=(zk3 (ats:=b.at_) (l:=b.ops.drop (j+1)) (i:=i) (vs:=us) (M:=Q) (o:=o) (by simpa using h25)).symm.trans hev
    refine z3l ?_;refine z2x 10 mixed zK ?_;(conv=>whnf);refine ⟨⟨(znu hfo).1,by have:=(znu hfo).2;omega⟩,?_⟩;(conv=>whnf);erw [z90 hus (znu hfo)];(conv=>whnf);erw [zh1 hul];(conv=>whnf);refine zz3 (xs:=[z97 us]) (x:=z97 (zpg us)) (zcz us) zK (fun r w' hR=>zpm us w' hus.len) ?_;(conv=>whnf);refine zmf (outC ⟨false,0,b.at_.length,getV us o.a,zpg us⟩) ?_ ?_
    ·conv=>lhs;whnf
     erw [zdl hgl]
     conv=>lhs;whnf
     exact congrArg some (zxt hgu _ _ _ _ _ rfl)
    (conv=>whnf);erw [zdl (zxk (x:=⟨false,0,b.at_.length,getV us o.a,zpg us⟩) hgu),zwk];(conv=>whnf);erw [zdz (zxk (x:=⟨false,0,b.at_.length,getV us o.a,zpg us⟩) hgu)];(conv=>whnf);erw [zxq (x:=⟨false,0,b.at_.length,getV us o.a,zpg us⟩) hgu _ rfl];refine zcl (zch (zci (zck (zch (zcl (zcg (zxu (x:=⟨false,0,b.at_.length,getV us o.a,zpg us⟩) (M:=Q) rfl hgu rfl rfl zt8 fun w' k1 k2=>?_)))))));unfold zaf;rw [← hev2];exact ⟨rfl,k1,k2⟩
   have hn25:o.code≠25:=by simpa using h25
   obtain ⟨⟨us2,st,Q2⟩,hA⟩:∃ r,r=zbr o us Q:=⟨_,rfl⟩
   have hus2:VarsOk us2:=(by have:=zby (M:=Q) hus hoo.n;rw [← hA] at this;exact this);have hQ2:Q2.ok n p:=(by have:=zbv (o:=o) hQ hus;rw [← hA] at this;exact this);have hul2:=z96 hus2;refine z3g ?_;(conv=>whnf);erw [zh1 hul];(conv=>whnf)
   refine ze5 (pre:=[.p (.agg ((opC o).map .v)),.p (.agg (z95 us))]) (suf:=[]) 0 n p Q Q2 (.tuple #[z97 us2,.bool st]) zt7 (zcw o us) rfl zK (fun w' g gs hk hU=>by
    have:=zb0 o us n p Q w' g gs hU hQ hfo hoo hus;unfold zaa at this;rw [← hA] at this
    exact this) ?_
   (conv=>whnf);erw [zdl hul2,zwl];(conv=>whnf);erw [zdz (hul2.trans hz.symm)];(conv=>whnf);erw [z99 hus2 _ hz];(conv=>whnf);refine z25 ?_;refine z3g ?_;(conv=>whnf);refine z23 rfl (fun hst=>?_) (fun hst=>z3j (zcd ?_))
   ·have hst':st=false:=by simpa using hst
    obtain ⟨hi0,hi1⟩:0≤ztx o i∧ztx o i<b.at_.length:=by obtain ⟨_,_,_,_,h0,h1⟩:=hat2;exact ⟨h0,h1⟩
    obtain ⟨y,hy⟩:∃ y,b.at_[(ztx o i).toNat]?=some y:=⟨_,List.getElem?_eq_getElem zO⟩
    obtain ⟨ba,offa,rfl,hca⟩:=z58 h1 hi0 (x:= .int .u32 y) (by rw [List.getElem?_map,hy];rfl);have hev2:=(zk0 (ats:=b.at_) (l:=b.ops.drop (j+1)) (i:=i) (vs:=us) (M:=Q) (o:=o) hne hn25 (by rw [← hA];exact hst')).symm.trans hev;rw [← hA,hy] at hev2;refine z3l ?_;refine z2x 10 mixed zK ?_;(conv=>whnf);refine ⟨⟨hi0,hi1⟩,?_⟩;(conv=>whnf);refine ⟨_,hca,?_⟩;(conv=>whnf);erw [zh1 hul];(conv=>whnf);refine zz3 (xs:=[z97 us]) (x:=z97 (zpg us)) (zcz us) zK (fun r w' hR=>zpm us w' hus.len) ?_;(conv=>whnf);refine zmf (outC ⟨true,ztx o i,ztx o i,y,zpg us⟩) ?_ ?_
    ·conv=>lhs;whnf
     erw [zdl hgl]
     conv=>lhs;whnf
     exact congrArg some (zxt hgu _ _ _ _ _ rfl)
    (conv=>whnf);erw [zdl (zxk (x:=⟨true,ztx o i,ztx o i,y,zpg us⟩) hgu),zwk];(conv=>whnf);erw [zdz (zxk (x:=⟨true,ztx o i,ztx o i,y,zpg us⟩) hgu)];(conv=>whnf);erw [zxq (x:=⟨true,ztx o i,ztx o i,y,zpg us⟩) hgu _ rfl];refine zcl (zch (zci (zck (zch (zcl (zcg (zxu (x:=⟨true,ztx o i,ztx o i,y,zpg us⟩) (M:=Q2) rfl hgu rfl rfl zt8 fun w' k1 k2=>?_)))))));unfold zaf;rw [← hev2];exact ⟨rfl,k1,k2⟩
   have hst':st=true:=(by simpa using hst);have hev2:=(zkz (ats:=b.at_) (l:=b.ops.drop (j+1)) (i:=i) (vs:=us) (M:=Q) (o:=o) hne hn25 (by rw [← hA];exact hst')).symm.trans hev;rw [← hA] at hev2;refine z3l ?_;(conv=>whnf);erw [zh1 hul2];(conv=>whnf);erw [zdl hul2,zwl];(conv=>whnf);erw [zdz (hul2.trans hul.symm)];(conv=>whnf);erw [z99 hus2 _ hul];(conv=>whnf);erw [z92 hus];(conv=>whnf);exact zb4 (zb8 ⟨(ztx o i,us2,Q2),hus2,hQ2,hat2,hev2⟩ (zj2 Tn Tn rfl (zo1 _ _ _ _ _ _ _ _ _ _ _ _ _ [.slice A1 b.at_.length c1,.slice A2 b.pages.length c2,.slice (some ⟨bo,off,none⟩) b.ops.length c3] _ _ _)))
  ·obtain ⟨⟨i2,us2,Q2⟩,hus2,hQ2,hat3,hev2⟩:=y
   dsimp only at hus2 hQ2 hat3 hev2⊢;refine z3l ?_;(conv=>whnf);refine ⟨_,wr64 zO,?_⟩;(conv=>whnf);exact zcb ⟨(j+1,i2,us2,Q2),by show j+1≤_;omega,hus2,hQ2,hat3,hev2⟩ (zkb rfl Tn Tn) (by show b.ops.length-(j+1)<b.ops.length-j;omega)
 ·have hje:j=b.ops.length:=by simp at hc;omega
  rw [hje,List.drop_length] at hev;(conv=>whnf);refine zce (zb6 (zcd ?_));refine z3l ?_;(conv=>whnf);refine zcg (zxu (x:=Outc.zero) (M:=Q) rfl ⟨rfl,fun x hx=>by rw [List.eq_of_mem_replicate hx];exact yap⟩ rfl rfl zt8 fun w' k1 k2=>?_);unfold zaf;rw [← hev];exact ⟨rfl,k1,k2⟩
end Go.Proofs.YtocafomnnkmjfaaGreat
