import Derived.RangeFuncNested
import Derived.RangeFuncCalls
import Derived.ControlIn
import Derived.TacticsIn
import Derived.ChangeKeysEq
import Derived.Test.YtocafomnnkmjfaaGreatK6
set_option maxHeartbeats 1000000
namespace Go.Proofs.YtocafomnnkmjfaaGreat
open Go.RowKit
def z3z {α:Type}:List α→Nat→List α→List α
 |l,_,[]=>l
 |l,off,c::cs=>z3z (l.set off c) (off+1) cs
theorem z31 {α:Type}:∀ (cs l:List α) (off:Nat),(z3z l off cs).length=l.length
 |[],_,_=>rfl
 |c::cs,l,off=>by rw [z3z,z31 cs];simp
theorem zis {r:Env}:∀ {cs:List CV} {vs:List Value} {l:List CV} {us:List Value} (off:Nat),denL r cs vs→denL r l us→denL r (z3z l off cs) (z3z us off vs)
 |[],vs,l,us,off,h,hl=>by simp only [denL] at h;subst h;exact hl
 |c::cs,vs,l,us,off,h,hl=>by
  simp only [denL] at h;obtain ⟨u,m,hu,hc,hm⟩:=h;subst hu;exact zis (off+1) hm (zir off hl hc)
theorem znl:∀ (vs:List Value) (cs:Array Value) (off k:Nat),((vs.zipIdx k).foldl (fun cs (c,j)=>cs.setIfInBounds (off+j) c) cs).toList=z3z cs.toList (off+k) vs
 |[],cs,off,k=>rfl
 |v::vs,cs,off,k=>by
  simp only [List.zipIdx_cons,List.foldl_cons,z3z];rw [znl vs _ off (k+1)];simp [Nat.add_assoc]
def CV.one:CV→Bool
 | .v (.agg _)=>false
 | .v (.tuple _)=>false
 | .v _=>true
 | .any=>false
 | .row _=>false
 |_=>true
theorem zft {u:Value} (h:∀ cs,u≠ .agg cs):u.cells= #[u]:=by
 unfold Value.cells
 split
 ·rename_i cs;exact absurd rfl (h cs)
 ·rfl
def AV.okCells (S:List Ow):AV→Option (List CV)
 | .p (.c c)=>(match c with
  | .row i=>(match S[i]? with|some (.row ..)=>some [c]|some (.view ..)=>some [c]|_=>none)
  |c=>(match c.one with|true=>some [c]|false=>none))
 | .p (.agg l)=>some l
 | .tup _=>none
theorem z13 {w:World} {base:Nat} {e:TypeId} {size n:Nat} {v:Value} {xs:List Value} (h:w.ownsRow base e size v n xs):∃ A c,v= .slice A n c:=by
 rcases h.2 with ⟨h0,hn⟩|⟨g,cap,cur,hv,_⟩
 ·subst hn;exact ⟨_,_,h0⟩
 ·exact ⟨_,_,hv⟩
theorem zwe {r:Env} {c:CV} {u:Value} (h:c.one=true) (hd:c.den r u):(∀ cs,u≠ .agg cs)∧(∀ cs,u≠ .tuple cs):=by
 cases c with
 |v x=>simp only [CV.den] at hd;subst hd;cases u<;>simp [CV.one] at h<;>exact ⟨nofun,nofun⟩
 |ref i off=>simp only [CV.den] at hd;obtain ⟨b,_,rfl⟩:=hd;exact ⟨nofun,nofun⟩
 |vref i off=>simp only [CV.den] at hd;obtain ⟨b,o,n,c,_,rfl⟩:=hd;exact ⟨nofun,nofun⟩
 |row i=>simp [CV.one] at h
 |sl i off n c=>simp only [CV.den] at hd;obtain ⟨b,_,rfl⟩:=hd;exact ⟨nofun,nofun⟩
 |mp i=>simp only [CV.den] at hd;obtain ⟨b,_,rfl⟩:=hd;exact ⟨nofun,nofun⟩
 |clo f cap=>simp only [CV.den] at hd;obtain ⟨us,rfl,_⟩:=hd;exact ⟨nofun,nofun⟩
 |any=>simp [CV.one] at h
theorem zv6 {w0:World} {G:Gs} {S:List Ow} {r:Env} {w:World} (hR:Rel w0 G S r w) {x:AV} {cs:List CV} (h:x.okCells S=some cs) {u:Value} (hd:x.den r u):denL r cs u.cells.toList:=by
 unfold AV.okCells at h
 split at h
 ·rename_i c
  split at h
  ·rename_i i
   split at h
   ·rename_i hi
    injection h with h;subst h;simp only [AV.den,Pc.den,CV.den] at hd;obtain ⟨v,h1,h2,h3⟩:=hR.own i _ hi;rw [hd] at h1;injection h1 with h1;subst h1;obtain ⟨A,c',hs⟩:=z13 h3;subst hs;simp only [Value.cells,denL];exact ⟨_,_,rfl,by simpa only [CV.den] using hd,rfl⟩
   ·rename_i hi
    injection h with h;subst h;simp only [AV.den,Pc.den,CV.den] at hd;obtain ⟨A,c',h1,_⟩:=hR.own i _ hi;rw [hd] at h1;injection h1 with h1;subst h1;simp only [Value.cells,denL];exact ⟨_,_,rfl,by simpa only [CV.den] using hd,rfl⟩
   ·cases h
  ·split at h
   ·rename_i ho
    injection h with h;subst h;simp only [AV.den,Pc.den] at hd;rw [zft (zwe ho hd).1];simp only [denL];exact ⟨u,[],rfl,hd,rfl⟩
   ·cases h
 ·rename_i l
  injection h with h;subst h;obtain ⟨us,rfl,hl⟩:=hd
  simpa [Value.cells] using hl
 ·cases h
def zmc (P:Program) (S:List Ow) (f:Fr) (place:Nat→Option (Nat×Nat)):List (Nat×Operand)→List CV→Option (List CV)
 |[],cells=>some cells
 |(i,x)::rest,cells=>match place i with
  |some (off,size)=>(match (f.ev x).okCells S with
   |some cs=>(match Nat.beq cs.length size with|true=>(match Nat.ble (off+size) cells.length with|true=>zmc P S f place rest (z3z cells off cs)|false=>none)|false=>none)
   |none=>none)
  |none=>none
theorem zmd {P:Program} {w0:World} {G:Gs} {S:List Ow} {r:Env} {w:World} (hR:Rel w0 G S r w) {f:Fr} {a:Act} (hf:FDen r f a) {place:Nat→Option (Nat×Nat)}:
  ∀ (parts:List (Nat×Operand)) (cells m:List CV) (us:List Value),zmc P S f place parts cells=some m→denL r cells us→
   ∃ vs:List Value,Instr.fill place us.toArray (parts.map fun p=>(p.1,a.eval p.2))=some vs.toArray∧denL r m vs
 |[],cells,m,us,h,hl=>by injection h with h;subst h;exact ⟨us,rfl,hl⟩
 |(i,x)::rest,cells,m,us,h,hl=>by
  unfold zmc at h
  split at h
  ·rename_i off size hp
   split at h
   ·rename_i cs hcs
    split at h
    ·rename_i hz
     split at h
     ·rename_i hle
      have hd:=zv6 hR hcs (hf.ev x);have hlen:=zio hd;have e1:cs.length=size:=Nat.eq_of_beq_eq_true hz;have e2:off+size≤cells.length:=Nat.le_of_ble_eq_true hle;have e3:=zio hl;obtain ⟨vs,hv,hm⟩:=zmd hR hf rest _ m (z3z us off (a.eval x).cells.toList) h (zis off hd hl);refine ⟨vs,?_,hm⟩;have hsz:(a.eval x).cells.size=size:=(by rw [← Array.length_toList,hlen,e1]);simp only [List.map_cons,Instr.fill,hp];rw [if_neg (by simp only [Bool.or_eq_true,decide_eq_true_eq,not_or];refine ⟨fun h=>h hsz,by simp;omega⟩)];rw [← hv]
      congr 1
      apply Array.ext';have:=znl (a.eval x).cells.toList us.toArray off 0;simp only [Nat.add_zero] at this;rw [← this]
      congr 1
      rw [← Array.foldl_toList]
      congr 1
      simp
     ·cases h
    ·cases h
   ·cases h
  ·cases h
def zl4 (P:Program) (fs:Array Field) (k:Nat):Option (Nat×Nat):=match fs[k]? with|some f=>(match P.info? f.type with|some i=>some (f.offset,i.size)|none=>none)|none=>none
def za7 (P:Program):List Field→Bool
 |[]=>true
 |f::fs=>match P.info? f.type with|some _=>za7 P fs|none=>false
theorem ztu {P:Program} (w:World):∀ fs:List Field,za7 P fs=true→
  ∃ ps:List (Nat×Nat),(fs.mapM fun f=>(do pure (f.offset, ← sizeOf f.type):Sem (Nat×Nat))).run P w= .ok ps w∧∀ k:Nat,ps[k]?=zl4 P fs.toArray k
 |[],_=>⟨[],by simp,fun k=>by simp [zl4]⟩
 |f::fs,h=>by
  unfold za7 at h
  split at h
  ·rename_i i hi
   obtain ⟨ps,h1,h2⟩:=ztu w fs h;refine ⟨(f.offset,i.size)::ps,?_,fun k=>?_⟩
   ·simp only [List.mapM_cons,Sem.run_bind,z2j P f.type w hi,Result.andThen_ok,Sem.run_pure,h1]
   ·cases k with
    |zero=>simp [zl4,hi]
    |succ k=>simpa [zl4] using h2 k
  ·cases h
def zee (P:Program) (S:List Ow) (f:Fr) (t:TypeId) (parts:Array (Nat×Operand)) (K:AV→Prop):Prop:=
 match P.underlying t,P.info? t with
 |some (.struct fs),some i=>(match i.zero with
  |some z=>(match za7 P fs.toList with
   |true=>(match zmc P S f (zl4 P fs) parts.toList (z.cells.toList.map .v) with|some m=>znq i.size m fun m=>K (.p (.agg m))|none=>False)
   |false=>False)
  |none=>False)
 |some (.array _ e),some i=>(match i.zero,P.info? e with
  |some z,some ie=>(match zmc P S f (fun k=>some (k*ie.size,ie.size)) parts.toList (z.cells.toList.map .v) with|some m=>znq i.size m fun m=>K (.p (.agg m))|none=>False)
  |_,_=>False)
 |_,_=>False
theorem zef {P:Program} {w0:World} {G:Gs} {S:List Ow} {r:Env} {w:World} (hR:Rel w0 G S r w) {f:Fr} {a:Act} (hf:FDen r f a) {t:TypeId} {parts:Array (Nat×Operand)} {K:AV→Prop} (h:zee P S f t parts K):
  ∃ v u,K v∧v.den r u∧∀ w:World,(Instr.build t (parts.map fun (i,x)=>(i,a.eval x))).run P w= .ok u w:=by
 unfold zee at h
 split at h
 ·rename_i fs i hu hi
  split at h
  ·rename_i z hz
   split at h
   ·rename_i hall
    split at h
    ·rename_i m hm
     obtain ⟨vs,hv,hd⟩:=zmd hR hf parts.toList _ m z.cells.toList hm (ziv _);refine ⟨_,.agg vs.toArray,znr.1 h,⟨vs,rfl,hd⟩,fun w=>?_⟩;obtain ⟨ps,h1,h2⟩:=ztu w fs.toList hall;have h2':(fun k=>ps.toArray[k]?)=zl4 P fs:=(by funext k;simpa using h2 k);have e1:(parts.map fun (i,x)=>(i,a.eval x)).toList=parts.toList.map fun p=>(p.1,a.eval p.2):=(by simp);simp only [Instr.build,zeroValue,typeInfo,underlying,Sem.run_bind,run_program,Result.andThen_ok,hi,hu,hz,Sem.run_pure,Array.mapM_eq_mapM_toList,Sem.run_map,h1,h2',e1];rw [show z.cells=z.cells.toList.toArray by simp,hv]
     rfl
    ·exact h.elim
   ·exact h.elim
  ·exact h.elim
 ·rename_i n e i hu hi
  split at h
  ·rename_i z ie hz hie
   split at h
   ·rename_i m hm
    obtain ⟨vs,hv,hd⟩:=zmd hR hf parts.toList _ m z.cells.toList hm (ziv _);refine ⟨_,.agg vs.toArray,znr.1 h,⟨vs,rfl,hd⟩,fun w=>?_⟩;have e1:(parts.map fun (i,x)=>(i,a.eval x)).toList=parts.toList.map fun p=>(p.1,a.eval p.2):=(by simp);have e2:=z2j P e w hie;simp only [Instr.build,zeroValue,typeInfo,underlying,Sem.run_bind,run_program,Result.andThen_ok,hi,hu,hz,Sem.run_pure,e1,e2];rw [show z.cells=z.cells.toList.toArray by simp,hv]
    rfl
   ·exact h.elim
  ·exact h.elim
 ·exact h.elim
def qop (P:Program) (w0:World) (G:Gs) (S:List Ow) (f:Fr) (o:Oper) (K:AV→Prop):Prop:=
 match o.op with
 | .move x=>(match f.ev x with| .p (.c c)=>K (.p (.c c))| .p (.agg l)=>K (.p (.agg l))| .tup l=>K (.tup l))
 | .assign x=>(match f.ev x with| .p (.c c)=>K (.p (.c c))| .p (.agg l)=>K (.p (.agg l))| .tup l=>K (.tup l))
 | .pick c x y=>(match f.ev c with
  | .p (.c (.v (.bool b)))=>(match f.ev x with
   | .p (.c (.v (.bool p)))=>(match f.ev y with
    | .p (.c (.v (.bool q)))=>K (one (.bool (bif b then p else q)))
    |v=>(match b with|true=>K (one (.bool p))|false=>K v))
   |u=>(match b with|true=>K u|false=>K (f.ev y)))
  |_=>False)
 | .load t x=>ztg P w0 G S t (f.ev x) K
 | .nilCheck x=>(match f.ev x with
  | .p (.c (.ref i off))=>K (.p (.c (.ref i off)))
  | .p (.c (.clo (.func fn) cap))=>K (.p (.c (.clo (.func fn) cap)))
  | .p (.c (.v (.pointer (some p))))=>K (one (.pointer (some p)))
  |_=>QRun P w0 G S f o K)
 | .binOp op _ x y _=>(match f.ev x with
  | .p (.c (.v (.int k a)))=>(match f.ev y with
   | .p (.c (.v (.int k' b)))=>(match op with
    | .shl=>z47 .shl k a b fun u=>K (one u)
    | .shr=>z47 .shr k a b fun u=>K (one u)
    |op=>(match decide (k=k') with|true=>binK op k a b fun u=>K (one u)|false=>False))
   |_=>QRun P w0 G S f o K)
  |_=>QRun P w0 G S f o K)
 | .unOp op _ x=>(match op,f.ev x with
  | .not,.p (.c (.v (.bool a)))=>K (one (.bool (!a)))
  |_,_=>QRun P w0 G S f o K)
 | .convert src dst x=>(match f.ev x with
  | .p (.c (.v (.int _ n)))=>(match P.underlying src with
   |some (.int _)=>(match P.underlying dst with
    |some (.int k)=>∃ m,k.wrap n=m∧K (one (.int k m))
    |_=>QRun P w0 G S f o K)
   |_=>QRun P w0 G S f o K)
  |_=>QRun P w0 G S f o K)
 | .fieldAddr s x k=>(match f.ev x with
  | .p (.c (.ref i off))=>(match znd P s k with|some n=>K (.p (.c (.ref i (off+n))))|none=>False)
  | .p (.c (.v (.pointer (some ⟨b,off,none⟩))))=>(match znd P s k with|some n=>K (one (.pointer (some ⟨b,off+n,none⟩)))|none=>False)
  |_=>False)
 | .field t x k=>(match f.ev x with| .p (.agg l)=>fldK P t l k K|_=>False)
 | .extract x k=>(match f.ev x with
  | .tup l=>(match l[k]? with|some p=>K (.p p)|none=>False)
  |_=>False)
 | .build t parts=>zee P S f t parts K
 | .makeFunc (.func fn) first cap=>(match first.toList with
  |[]=>(match cap.toList with
   |[]=>K (.p (.c (.clo (.func fn) [])))
   |[x]=>(match f.ev x with| .p (.c c)=>K (.p (.c (.clo (.func fn) [c])))|_=>False)
   |_=>QRun P w0 G S f o K)
  |_=>QRun P w0 G S f o K)
 | .indexAddr t x ix=>(match f.ev x with
  | .p (.c (.v (.slice (some ⟨b,off,none⟩) n _)))=>(match f.ev ix with
   | .p (.c (.v (.int _ k)))=>(match P.underlying t with
    |some (.slice e)=>(0≤k∧k<(n:Int))∧K (one (.pointer (some ⟨b,off+k.toNat*tsz P e,none⟩)))
    |_=>False)
   |_=>False)
  | .p (.c (.row i))=>(match f.ev ix with
   | .p (.c (.v (.int _ k)))=>(match P.underlying t with
    |some (.slice e)=>(match S[i]? with
     |some (.row _ _ n _)=>(0≤k∧k<(n:Int))∧K (.p (.c (.ref i (k.toNat*tsz P e))))
     |some (.view _ n xs)=>(0≤k∧k<(n:Int)∧0<xs.length)∧K (.p (.c (.vref i (k.toNat*tsz P e))))
     |_=>False)
    |_=>False)
   |_=>False)
  | .p (.c (.sl i off n _))=>(match f.ev ix with
   | .p (.c (.v (.int _ k)))=>(match P.underlying t with
    |some (.slice e)=>(0≤k∧k<(n:Int))∧K (.p (.c (.ref i (off+k.toNat*tsz P e))))
    |_=>False)
   |_=>False)
  | .p (.c (.ref i off))=>(match f.ev ix with
   | .p (.c (.v (.int _ k)))=>(match P.underlying t with
    |some (.array n e)=>(0≤k∧k<(n:Int))∧K (.p (.c (.ref i (off+k.toNat*tsz P e))))
    |_=>False)
   |_=>False)
  |_=>QRun P w0 G S f o K)
 | .index t x ix=>(match f.ev x with
  | .p (.agg l)=>(match f.ev ix with
   | .p (.c (.v (.int _ k)))=>(match P.underlying t with
    |some (.array n e)=>(0≤k∧k<(n:Int))∧getK P e l (k.toNat*tsz P e) K
    |_=>False)
   |_=>False)
  |_=>QRun P w0 G S f o K)
 | .call ⟨.builtin .len,args,tys⟩=>(match args.toList with
  |[x]=>(match tys.toList with
   |[t]=>(match P.underlying t with
    |some (.slice _)=>(match f.ev x with
     | .p (.c (.v (.slice _ n _)))=>K (one (.int .i64 n))
     | .p (.c (.sl _ _ n _))=>K (one (.int .i64 n))
     | .p (.c (.row i))=>(match S[i]? with|some (.row _ _ n _)=>K (one (.int .i64 n))|some (.view _ n _)=>K (one (.int .i64 n))|_=>False)
     |_=>False)
    |_=>QRun P w0 G S f o K)
   |_=>False)
  |_=>False)
 |_=>QRun P w0 G S f o K
open Go.Maps (Keyed)
abbrev litK (k:Int):Lit:= .int .i64 k
section
variable (R:Value→Option (DataW Unit×List MemPlace)) (cd:Int→DataW Unit)
structure Ranging (b r:Nat) (M I:Obj) (n:Nat) (m:Int→Option Int) (left:Int→Bool) (cnt:Nat):Prop where
 out:∃ (D:DataW Unit) (lf:Lit→Bool),(∀ w:World,w.heap[b]?=some M→w.heap[r]?=some I→w.ranges Tryz.prog 3 R b r n D lf cnt)∧
  (∀ k,(litK k).wf=true→Maps.has D (litK k)=(m k).isSome∧∀ z,D.atKey (litK k) z=((m k).map cd).getD z)∧∀ k,(litK k).wf=true→lf (litK k)=left k
 map:∀ w:World,w.heap[b]?=some M→IMap R cd w b n m
end
section
variable {R:Value→Option (DataW Unit×List MemPlace)} {mk:Int→Value} {cd:Int→DataW Unit} {good:Int→Prop}
variable {w0:World} {G:Gs} {N:Nd} {o:Oper} {f:Fr} {S:List Ow} {K:Fr→List Ow→Prop} {n:Nat} {m:Int→Option Int}
end
theorem IMap.is_wf {R:Value→Option (DataW Unit×List MemPlace)} {cd:Int→DataW Unit} {w:World} {b n:Nat} {f f':Int→Option Int} (h:IMap R cd w b n f) (hf:∀ k,(litK k).wf=true→f k=f' k):IMap R cd w b n f':=by
 obtain ⟨D,h1,h2⟩:=h;exact ⟨D,h1,fun k hk=>by rw [← hf k hk];exact h2 k hk⟩
theorem Ranging.is {R:Value→Option (DataW Unit×List MemPlace)} {cd:Int→DataW Unit} {b r:Nat} {M I:Obj} {n:Nat} {m m':Int→Option Int} {left:Int→Bool} {cnt:Nat} (h:Ranging R cd b r M I n m left cnt) (hm:∀ k,(litK k).wf=true→m k=m' k):Ranging R cd b r M I n m' left cnt:=by
 obtain ⟨⟨D,lf,h1,h2,h3⟩,h4⟩:=h;exact ⟨⟨D,lf,h1,fun k hk=>by rw [← hm k hk];exact h2 k hk,h3⟩,fun w hw=>(h4 w hw).is_wf hm⟩
def filtF (m:Int→Option Int) (left:Int→Bool) (keep:Int→Bool):Int→Option Int:=fun k=>if left k then m k else (m k).filter keep
structure FiltSt (b q n:Nat) (m:Int→Option Int) (keep:Int→Bool) where
 M:Obj
 I:Obj
 left:Int→Bool
 cnt:Nat
 h:Ranging i64R i64D b q M I n (filtF m left keep) left cnt
theorem QRun.use {P:Program} {w0:World} {G:Gs} {S:List Ow} {f:Fr} {o:Oper} {K:AV→Prop} (h:QRun P w0 G S f o K) {r:Env} {w1:World} (hR:Rel w0 G S r w1) {a:Act} (hf:FDen r f a):
  ∃ v u,K v∧v.den r u∧∀ w:World,Below w1.heap.size w1 w→(execOp a.eval o).run P w= .ok (.value u) w:=by
 obtain ⟨v,hK,hr⟩:=h.out;obtain ⟨u,hd,hrun⟩:=hr r a hf;exact ⟨v,u,hK,hd,fun w hw=>hrun w (hR.below hw)⟩
section
variable {r:Env} {u:Value}
theorem zi6 {x:Value} (h:AV.den r (one x) u):u=x:=by simpa only [AV.den,Pc.den,CV.den] using h
theorem zi3 (r:Env) (x:Value):AV.den r (one x) x:=by simp only [AV.den,Pc.den,CV.den]
theorem zi4 {i off:Nat} (h:AV.den r (.p (.c (.ref i off))) u):∃ b,r.blk i=some b∧u= .pointer (some ⟨b,off,none⟩):=by simpa only [AV.den,Pc.den,CV.den] using h
theorem zi1 {i off b:Nat} (h:r.blk i=some b):AV.den r (.p (.c (.ref i off))) (.pointer (some ⟨b,off,none⟩)):=by simp only [AV.den,Pc.den,CV.den];exact ⟨b,h,rfl⟩
theorem ziz {l:List CV} (h:AV.den r (.p (.agg l)) u):∃ us:List Value,u= .agg us.toArray∧denL r l us:=h
theorem zi0 {fn:Fn} {cap:List CV} (h:AV.den r (.p (.c (.clo fn cap))) u):∃ us:List Value,u= .func fn #[] us.toArray∧denL r cap us:=by simpa only [AV.den,Pc.den,CV.den] using h
end
theorem zyf {r:Env}:∀ {l:List Pc} {us:List Value} {k:Nat} {c:Pc},zyd r l us→l[k]?=some c→∃ u,us[k]?=some u∧c.den r u
 |[],us,k,c,hd,h=>by simp at h
 |a::l,us,0,c,hd,h=>by
  obtain ⟨u,l',hu,hc,hl⟩:=hd;subst hu;simp at h;subst h;exact ⟨u,by simp,hc⟩
 |a::l,us,k+1,c,hd,h=>by
  obtain ⟨u,l',hu,hc,hl⟩:=hd;subst hu
  simpa using zyf hl (by simpa using h)
theorem z82 {P:Program} {e:TypeId} {i:TypeInfo} (h:P.info? e=some i):tsz P e=i.size:=by simp [tsz,h]
theorem z2d {P:Program} {t e:TypeId} (ht:P.underlying t=some (.slice e)) {i:TypeInfo} (hi:P.info? e=some i) {b off n c:Nat} {q:IntKind} {k:Int} (h0:0≤k) (h1:k<(n:Int)) (w:World):
  (Instr.indexAt t (.slice (some ⟨b,off,none⟩) n c) (.int q k)).run P w= .ok (.pointer (some ⟨b,off+k.toNat*i.size,none⟩)) w:=by
 simp [Instr.indexAt,asIntOf,underlying,ht,h0,h1,z2j P e w hi,za0]
theorem z2c {P:Program} {t e:TypeId} {n:Nat} (ht:P.underlying t=some (.array n e)) {i:TypeInfo} (hi:P.info? e=some i) {b off:Nat} {q:IntKind} {k:Int} (h0:0≤k) (h1:k<(n:Int)) (w:World):
  (Instr.indexAt t (.pointer (some ⟨b,off,none⟩)) (.int q k)).run P w= .ok (.pointer (some ⟨b,off+k.toNat*i.size,none⟩)) w:=by
 simp [Instr.indexAt,asIntOf,Instr.sureAddr,underlying,ht,h0,h1,z2j P e w hi,za0]
def opTy (P:Program):Op→Bool
 | .indexAddr t _ _=>(match P.underlying t with|some (.slice e)=>(P.info? e).isSome|some (.array _ e)=>(P.info? e).isSome|_=>true)
 | .index t _ _=>(match P.underlying t with|some (.array _ e)=>(P.info? e).isSome|_=>true)
 |_=>true
theorem z0n {P:Program} {w0:World} {G:Gs} {S:List Ow} {f:Fr} {o:Oper} {K:AV→Prop} (h:qop P w0 G S f o K) (hty:opTy P o.op=true) {r:Env} {w1:World} (hR:Rel w0 G S r w1) {a:Act} (hf:FDen r f a):
  ∃ v u,K v∧v.den r u∧∀ w:World,Below w1.heap.size w1 w→(execOp a.eval o).run P w= .ok (.value u) w:=by
 unfold qop at h
 split at h
 ·
  rename_i x hop;have hx:=hf.ev x;refine ⟨f.ev x,a.eval x,?_,hx,fun w _=>by simp [execOp,hop]⟩
  split at h<;>(rename_i he;rw [he];exact h)
 ·rename_i x hop
  have hx:=hf.ev x;refine ⟨f.ev x,a.eval x,?_,hx,fun w _=>by simp [execOp,hop]⟩
  split at h<;>(rename_i he;rw [he];exact h)
 ·
  rename_i c x y hop;have hc:=hf.ev c;have hx:=hf.ev x;have hy:=hf.ev y
  split at h
  ·rename_i b eb
   rw [eb] at hc;have e1:=zi6 hc
   have hrun:∀ w:World,(execOp a.eval o).run P w= .ok (.value (if b then a.eval x else a.eval y)) w:=fun w=>by simp [execOp,hop,e1,asBool]
   split at h
   ·rename_i p ep
    rw [ep] at hx;have e2:=zi6 hx
    split at h
    ·rename_i q eq
     rw [eq] at hy;have e3:=zi6 hy;refine ⟨_,_,h,zi3 r _,fun w _=>?_⟩;rw [hrun w,e2,e3]
     cases b<;>rfl
    ·cases b with
     |true=>exact ⟨_,_,h,zi3 r _,fun w _=>by rw [hrun w,e2];rfl⟩
     |false=>exact ⟨_,_,h,hy,fun w _=>by rw [hrun w];rfl⟩
   ·cases b with
    |true=>exact ⟨_,_,h,hx,fun w _=>by rw [hrun w];rfl⟩
    |false=>exact ⟨_,_,h,hy,fun w _=>by rw [hrun w];rfl⟩
  ·exact h.elim
 ·
  rename_i t x hop;obtain ⟨v,u,hK,hd,hrun⟩:=zth h hR (hf.ev x);exact ⟨v,u,hK,hd,fun w hw=>by simp [execOp,hop,hrun w hw]⟩
 ·
  rename_i x hop;have hx:=hf.ev x
  split at h
  ·rename_i i off he
   rw [he] at hx;refine ⟨_,_,h,hx,fun w _=>?_⟩;obtain ⟨b,hb,hu⟩:=zi4 hx;simp [execOp,hop,hu]
  ·rename_i fn cap he
   rw [he] at hx;refine ⟨_,_,h,hx,fun w _=>?_⟩;obtain ⟨us,hu,_⟩:=zi0 hx;simp [execOp,hop,hu]
  ·rename_i p he
   rw [he] at hx;refine ⟨_,_,h,hx,fun w _=>?_⟩;have hu:=zi6 hx;simp [execOp,hop,hu]
  ·exact QRun.use h hR hf
 ·
  rename_i op t x y t' hop;have hx:=hf.ev x;have hy:=hf.ev y
  split at h
  ·rename_i k p ep
   rw [ep] at hx;have e1:=zi6 hx
   split at h
   ·rename_i k' q eq
    rw [eq] at hy;have e2:=zi6 hy
    have hg:∀ w:World,(eqGuard op t x y (.int k p) (.int k' q)).run P w= .ok () w:=fun w=>by
     unfold eqGuard;cases op<;>simp
    split at h
    ·obtain ⟨u,hK,hrun⟩:=z48 (P:=P) (t:=t) (k':=k') h
     exact ⟨_,u,hK,zi3 r u,fun w _=>by simp [execOp,hop,e1,e2,hg w,hrun w]⟩
    ·obtain ⟨u,hK,hrun⟩:=z48 (P:=P) (t:=t) (k':=k') h
     exact ⟨_,u,hK,zi3 r u,fun w _=>by simp [execOp,hop,e1,e2,hg w,hrun w]⟩
    ·split at h
     ·rename_i hk
      have hk:=of_decide_eq_true hk;subst hk;obtain ⟨u,hK,hrun⟩:=zdo (P:=P) (t:=t) h;exact ⟨_,u,hK,zi3 r u,fun w _=>by simp [execOp,hop,e1,e2,hg w,hrun w]⟩
     ·exact h.elim
   ·exact QRun.use h hR hf
  ·exact QRun.use h hR hf
 ·
  rename_i op t x hop;have hx:=hf.ev x
  split at h
  ·rename_i p ep
   rw [ep] at hx;have e1:=zi6 hx;exact ⟨_,_,h,zi3 r _,fun w _=>by simp [execOp,hop,e1,Op.unary]⟩
  ·exact QRun.use h hR hf
 ·
  rename_i src dst x hop;have hx:=hf.ev x
  split at h
  ·rename_i k n ep
   rw [ep] at hx;have e1:=zi6 hx
   split at h
   ·rename_i q0 hq0
    split at h
    ·rename_i q hq
     obtain ⟨m,hm,hK⟩:=h;exact ⟨_,_,hK,zi3 r _,fun w _=>by simp [execOp,hop,e1,convert,underlying,hq0,hq,Conv.intToInt,hm]⟩
    ·exact QRun.use h hR hf
   ·exact QRun.use h hR hf
  ·exact QRun.use h hR hf
 ·
  rename_i s x k hop;have hx:=hf.ev x
  split at h
  ·rename_i i off he
   rw [he] at hx;obtain ⟨b,hb,hu⟩:=zi4 hx
   split at h
   ·rename_i n hn
    exact ⟨_,_,h,zi1 hb,fun w _=>by simp [execOp,hop,hu,z2a hn]⟩
   ·exact h.elim
  ·rename_i b off he
   rw [he] at hx;have hu:=zi6 hx
   split at h
   ·rename_i n hn
    exact ⟨_,_,h,zi3 r _,fun w _=>by simp [execOp,hop,hu,z2a hn]⟩
   ·exact h.elim
  ·exact h.elim
 ·
  rename_i t x k hop;have hx:=hf.ev x
  split at h
  ·rename_i l he
   rw [he] at hx;obtain ⟨us,hu,hl⟩:=ziz hx;unfold fldK at h
   split at h
   ·rename_i fs hs
    split at h
    ·rename_i fl hfl
     obtain ⟨v,u,hK,hd,hrun⟩:=z2i h hl;exact ⟨v,u,hK,hd,fun w _=>by simp [execOp,hop,hu,Instr.field,underlying,hs,hfl,asAgg,hrun w]⟩
    ·exact h.elim
   ·exact h.elim
  ·exact h.elim
 ·
  rename_i x k hop;have hx:=hf.ev x
  split at h
  ·rename_i l he
   rw [he] at hx;obtain ⟨us,hu,hl⟩:=hx
   split at h
   ·rename_i p hp
    obtain ⟨u,h1,h2⟩:=zyf hl hp;exact ⟨_,u,h,h2,fun w _=>by simp [execOp,hop,hu,Instr.extract,h1]⟩
   ·exact h.elim
  ·exact h.elim
 ·
  rename_i t parts hop;obtain ⟨v,u,hK,hd,hrun⟩:=zef hR hf h;exact ⟨v,u,hK,hd,fun w _=>by simp only [execOp,hop,Sem.run_bind,hrun w,Result.andThen_ok,Sem.run_pure]⟩
 ·
  rename_i fn first cap hop
  split at h
  ·rename_i hfirst
   have ef:first= #[]:=Array.ext' hfirst
   split at h
   ·rename_i hcap
    have ec:cap= #[]:=Array.ext' hcap;exact ⟨_,.func (.func fn) #[] #[],h,by simp [AV.den,Pc.den,CV.den,denL],fun w _=>by simp [execOp,hop,Instr.makeFunc,ef,ec]⟩
   ·rename_i x hcap
    have ec:cap= #[x]:=Array.ext' hcap;have hx:=hf.ev x
    split at h
    ·rename_i c he
     rw [he] at hx;refine ⟨_,.func (.func fn) #[] #[a.eval x],h,?_,fun w _=>by simp [execOp,hop,Instr.makeFunc,ef,ec]⟩;simp only [AV.den,Pc.den,CV.den,denL];exact ⟨[a.eval x],rfl,_,_,rfl,hx,rfl⟩
    ·exact h.elim
   ·exact QRun.use h hR hf
  ·exact QRun.use h hR hf
 ·
  rename_i t x ix hop;rw [hop] at hty;have hx:=hf.ev x;have hi:=hf.ev ix
  split at h
  ·rename_i b off n c he
   rw [he] at hx;have hu:=zi6 hx
   split at h
   ·rename_i q k hk
    rw [hk] at hi;have hu2:=zi6 hi
    split at h
    ·rename_i e ht
     simp only [opTy,ht] at hty;obtain ⟨i,hie⟩:=Option.isSome_iff_exists.1 hty;obtain ⟨⟨h0,h1⟩,hK⟩:=h;refine ⟨_,_,hK,zi3 r _,fun w _=>?_⟩;simp only [execOp,hop,hu,hu2,Sem.run_bind,z2d ht hie h0 h1,Result.andThen_ok,Sem.run_pure,z82 hie]
    ·exact h.elim
   ·exact h.elim
  ·rename_i i he
   rw [he] at hx
   split at h
   ·rename_i q k hk
    rw [hk] at hi;have hu2:=zi6 hi
    split at h
    ·rename_i e ht
     simp only [opTy,ht] at hty;obtain ⟨i',hie⟩:=Option.isSome_iff_exists.1 hty
     split at h
     ·rename_i e' size n xs hS
      obtain ⟨⟨h0,h1⟩,hK⟩:=h;obtain ⟨v,hv1,hv2,hv3⟩:=hR.own i _ hS;have hux:r.val i=some (a.eval x):=(by simpa only [AV.den,Pc.den,CV.den] using hx);rw [hux] at hv1;injection hv1 with hv1;rcases hv3.2 with ⟨hn,hz⟩|⟨g,cap,cur,hv,_⟩
      ·omega
      ·rw [← hv1] at hv hv2
       have hb:r.blk i=some g:=(by rw [← hv2,hv];rfl);refine ⟨_,_,hK,zi1 hb,fun w _=>?_⟩;simp only [execOp,hop,hv,hu2,Sem.run_bind,z2d ht hie h0 h1,Result.andThen_ok,Sem.run_pure,z82 hie,Nat.zero_add]
     ·rename_i n xs hS
      obtain ⟨⟨h0,h1,hpos⟩,hK⟩:=h;obtain ⟨A,c,hv1,hv2,hv3,hv4,hv5⟩:=hR.own i _ hS;have hux:r.val i=some (a.eval x):=(by simpa only [AV.den,Pc.den,CV.den] using hx);obtain ⟨b,off,hA,_⟩:=hv5 0 xs[0] (by simp [hpos]);subst hA;rw [hux] at hv1;injection hv1 with hv1;refine ⟨_,.pointer (some ⟨b,off+k.toNat*i'.size,none⟩),hK,?_,fun w _=>?_⟩
      ·simp only [AV.den,Pc.den,CV.den]
       exact ⟨b,off,n,c,by rw [hux,hv1],by rw [z82 hie]⟩
      ·simp only [execOp,hop,hv1,hu2,Sem.run_bind,z2d ht hie h0 h1,Result.andThen_ok,Sem.run_pure]
     ·exact h.elim
    ·exact h.elim
   ·exact h.elim
  ·rename_i i off n c he
   rw [he] at hx;have hux:∃ b,r.blk i=some b∧a.eval x= .slice (some ⟨b,off,none⟩) n c:=(by simpa only [AV.den,Pc.den,CV.den] using hx);obtain ⟨b,hb,hu⟩:=hux
   split at h
   ·rename_i q k hk
    rw [hk] at hi;have hu2:=zi6 hi
    split at h
    ·rename_i e ht
     simp only [opTy,ht] at hty;obtain ⟨i',hie⟩:=Option.isSome_iff_exists.1 hty;obtain ⟨⟨h0,h1⟩,hK⟩:=h;refine ⟨_,_,hK,zi1 hb,fun w _=>?_⟩;simp only [execOp,hop,hu,hu2,Sem.run_bind,z2d ht hie h0 h1,Result.andThen_ok,Sem.run_pure,z82 hie]
    ·exact h.elim
   ·exact h.elim
  ·rename_i i off he
   rw [he] at hx;obtain ⟨b,hb,hu⟩:=zi4 hx
   split at h
   ·rename_i q k hk
    rw [hk] at hi;have hu2:=zi6 hi
    split at h
    ·rename_i n e ht
     simp only [opTy,ht] at hty;obtain ⟨i',hie⟩:=Option.isSome_iff_exists.1 hty;obtain ⟨⟨h0,h1⟩,hK⟩:=h;refine ⟨_,_,hK,zi1 hb,fun w _=>?_⟩;simp only [execOp,hop,hu,hu2,Sem.run_bind,z2c ht hie h0 h1,Result.andThen_ok,Sem.run_pure,z82 hie]
    ·exact h.elim
   ·exact h.elim
  ·exact QRun.use h hR hf
 ·
  rename_i t x ix hop;rw [hop] at hty;have hx:=hf.ev x;have hi:=hf.ev ix
  split at h
  ·rename_i l he
   rw [he] at hx;obtain ⟨us,hu,hl⟩:=ziz hx
   split at h
   ·rename_i q k hk
    rw [hk] at hi;have hu2:=zi6 hi
    split at h
    ·rename_i n e ht
     simp only [opTy,ht] at hty;obtain ⟨i',hie⟩:=Option.isSome_iff_exists.1 hty;obtain ⟨⟨h0,h1⟩,hK⟩:=h;obtain ⟨v,u,hK',hd,hrun⟩:=z2i hK hl;refine ⟨v,u,hK',hd,fun w _=>?_⟩;have e3:=hrun w;rw [z82 hie] at e3;simp [execOp,hop,hu,hu2,Instr.index,asIntOf,underlying,ht,h0,h1,z2j P e w hie,e3]
    ·exact h.elim
   ·exact h.elim
  ·exact QRun.use h hR hf
 ·
  rename_i args tys hop
  split at h
  ·rename_i x hargs
   have ea:args= #[x]:=Array.ext' hargs
   split at h
   ·rename_i t htys
    have et:tys= #[t]:=Array.ext' htys
    split at h
    ·rename_i e ht
     have hx:=hf.ev x
     split at h
     ·rename_i A n c he
      rw [he] at hx;have hu:=zi6 hx;exact ⟨_,_,h,zi3 r _,fun w _=>by simp [execOp,hop,ea,et,resolve,invoke,builtin,Builtin.len_,underlying,ht,hu,goInt]⟩
     ·rename_i i off n c he
      rw [he] at hx;have hux:∃ b,r.blk i=some b∧a.eval x= .slice (some ⟨b,off,none⟩) n c:=(by simpa only [AV.den,Pc.den,CV.den] using hx);obtain ⟨b,hb,hu⟩:=hux;exact ⟨_,_,h,zi3 r _,fun w _=>by simp [execOp,hop,ea,et,resolve,invoke,builtin,Builtin.len_,underlying,ht,hu,goInt]⟩
     ·rename_i i he
      rw [he] at hx
      split at h
      ·rename_i e' size n xs hS
       obtain ⟨v,hv1,hv2,hv3⟩:=hR.own i _ hS;have hux:r.val i=some (a.eval x):=(by simpa only [AV.den,Pc.den,CV.den] using hx);rw [hux] at hv1;injection hv1 with hv1;obtain ⟨A,c,hv⟩:=z13 hv3;rw [← hv1] at hv;exact ⟨_,_,h,zi3 r _,fun w _=>by simp [execOp,hop,ea,et,resolve,invoke,builtin,Builtin.len_,underlying,ht,hv,goInt]⟩
      ·rename_i n xs hS
       obtain ⟨A,c,hv1,_⟩:=hR.own i _ hS;have hux:r.val i=some (a.eval x):=(by simpa only [AV.den,Pc.den,CV.den] using hx);rw [hux] at hv1;injection hv1 with hv1;exact ⟨_,_,h,zi3 r _,fun w _=>by simp [execOp,hop,ea,et,resolve,invoke,builtin,Builtin.len_,underlying,ht,hv1,goInt]⟩
      ·exact h.elim
     ·exact h.elim
    ·exact QRun.use h hR hf
   ·exact h.elim
  ·exact h.elim
 ·exact QRun.use h hR hf
def fld (n:String) (t:TypeId) (k b:Nat):Field:={name:=n,type:=t,offset:=k,embedded:=false,tag:= "",pkgPath:= "",byteOffset:=b}
section
attribute [local irreducible] wpStill wpQuiet
end
section
attribute [local irreducible] wpStill wpQuiet
section
variable {R:Value→Option (DataW Unit×List MemPlace)} {cd:Int→DataW Unit} {b n:Nat} {f:Int→Option Int} (w:World)
end
end
section
attribute [local irreducible] wpStill wpQuiet
section
variable (A1 A2 A3 D1 D2 D3:Option Addr) (c1 c2 c3 d1 d2 d3:Nat) (x y:Blk) (w:World)
end
end
def zlu:Option Nat→Fence
 |none=>Fence.wide
 |some l=>Fence.wide.inRound l
theorem zlw (ro:Option Nat) (f:FuncId):(zlu ro).fn f:=by cases ro<;>trivial
theorem zlv (ro:Option Nat):(zlu ro).depth=none:=by cases ro<;>rfl
theorem zfd {P:Program} {f:FuncId} {args:Array Value} {w:World} {R:Ending→World→Prop} (ro:Option Nat) (n:Nat) (h:Calls P f args w R):CallsIn (zlu ro) n P f args w R:=by
 cases ro with
 |none=>exact callsIn_wide.2 h
 |some l=>exact CallsIn.inRound l (callsIn_wide.2 h)
def OpRes (P:Program) (o:Oper) (a:Act) (next:Act→World→Prop):Result Next→Prop
 | .ok (.value v) w'=>next (a.put o.dst v) w'
 | .ok .skip w'=>next (a.put o.dst undef) w'
 | .ok (.enter f args) w'=>Calls P f args w' fun e w''=>∃ u,e= .returned u∧next (a.put o.dst u) w''
 |_=>False
def Oper.se (P:Program) (o:Oper) (a:Act) (w:World) (next:Act→World→Prop):Prop:=OpRes P o a next ((execOp a.eval o).run P w)
def seL (P:Program) (ops:Array Oper) (Q:Act→World→Prop):List Oper→Act→World→Prop
 |[],a,w=>Q a w
 |o::rest,a,w=>if Region.wanted o (yielded ops a.tmps) then Oper.se P o a w (seL P ops Q rest) else seL P ops Q rest (a.put o.dst undef) w
theorem z3t {P:Program} {o:Oper} {a:Act} {w:World} {next next':Act→World→Prop} {Q:Exit→Act→World→Prop} (h:Oper.se P o a w next) (hn:∀ a w,next a w→next' a w):o.wp P a w next' Q:=by
 unfold Oper.se at h;unfold Oper.wp;generalize (execOp a.eval o).run P w=r at h⊢
 cases r with
 |halt x w'=>exact h.elim
 |ok x w'=>
  cases x<;>first|exact (h:False).elim|exact hn _ _ h|skip
  exact Calls.mono h fun e w'' ⟨u,he,hk⟩=>by subst he;exact hn _ _ hk
theorem z3u {P:Program} {o:Oper} {a:Act} {w:World} {next next':Act→World→Prop} {Q:Exit→Act→World→Prop} (ro:Option Nat) (n:Nat) (h:Oper.se P o a w next) (hn:∀ a w,next a w→next' a w):o.wpIn (zlu ro) n P a w next' Q:=by
 refine ⟨fun f _=>zlw ro f,?_⟩
 have hdef:∀ c,o.op≠ .defer c:=fun c hc=>by
  unfold Oper.se at h;simp only [execOp,hc,Sem.run_bind] at h
  cases hr:(resolve a.eval c o.type).run P w with
  |halt x w'=>rw [hr] at h;exact h
  |ok x w'=>rw [hr] at h;exact h
 rw [Oper.semAt_eq _ _ _ hdef];unfold Oper.se at h;generalize (execOp a.eval o).run P w=r at h⊢
 cases r with
 |halt x w'=>exact h.elim
 |ok x w'=>
  cases x<;>first|exact (h:False).elim|exact hn _ _ h|skip
  refine ⟨fun hd=>by rw [zlv] at hd;simp at hd,?_⟩
  exact (zfd ro (n-1) h).mono fun e w'' ⟨u,he,hk⟩=>by subst he;exact hn _ _ hk
theorem z3r {P:Program} {ops:Array Oper} {Q:Exit→Act→World→Prop}:∀ {l:List Oper} {a:Act} {w:World},seL P ops (Q .normal) l a w→wpList P ops Q l a w
 |[],a,w,h=>h
 |o::l,a,w,h=>by
  unfold seL at h;unfold wpList
  split at h
  ·rename_i hw;rw [if_pos hw];exact .inl (z3t h fun a w h=>z3r h)
  ·rename_i hw;rw [if_neg hw];exact z3r h
theorem z3s {P:Program} {ops:Array Oper} {Q:Exit→Act→World→Prop} (ro:Option Nat) (n:Nat):∀ {l:List Oper} {a:Act} {w:World},seL P ops (Q .normal) l a w→wpListIn (zlu ro) n P ops Q l a w
 |[],a,w,h=>h
 |o::l,a,w,h=>by
  unfold seL at h;unfold wpListIn
  split at h
  ·rename_i hw;rw [if_pos hw];exact z3u ro n h fun a w h=>z3s ro n h
  ·rename_i hw;rw [if_neg hw];exact ⟨fun f _=>zlw ro f,z3s ro n h⟩
theorem ya8 {P:Program} {o:Oper} {a:Act} {w w':World} {u:Value} {next:Act→World→Prop} (hrun:(execOp a.eval o).run P w= .ok (.value u) w') (h:next (a.put o.dst u) w'):Oper.se P o a w next:=by
 unfold Oper.se;rw [hrun];exact h
theorem ya7 {P:Program} {o:Oper} {a:Act} {w w':World} {next:Act→World→Prop} (hrun:(execOp a.eval o).run P w= .ok .skip w') (h:next (a.put o.dst undef) w'):Oper.se P o a w next:=by
 unfold Oper.se;rw [hrun];exact h
theorem ya6 {P:Program} {o:Oper} {a:Act} {w w':World} {fn:FuncId} {args:Array Value} {next:Act→World→Prop} (hrun:(execOp a.eval o).run P w= .ok (.enter fn args) w')
  (h:Calls P fn args w' fun e w''=>∃ u,e= .returned u∧next (a.put o.dst u) w''):Oper.se P o a w next:=by
 unfold Oper.se;rw [hrun];exact h
def Fr.putK (f:Fr) (dst:Option Tmp) (x:AV) (K:Fr→Prop):Prop:=match dst with|some d=>K ((d,x)::f)|none=>K f
theorem zy5 {f:Fr} {dst:Option Tmp} {x:AV} {K:Fr→Prop}:Fr.putK f dst x K↔K (f.put dst x):=by unfold Fr.putK Fr.put;split<;>rfl
def lenK {α:Type}:List α→(Nat→Prop)→Prop
 |[],K=>K 0
 |_::l,K=>lenK l fun n=>K (n+1)
theorem zs2 {α:Type}:∀ {l:List α} {K:Nat→Prop},lenK l K↔K l.length
 |[],_=>Iff.rfl
 |_::l,_K=>zs2 (l:=l)
def znm (x:AV) (K:AV→Prop):Prop:=match x with
 | .p (.c c)=>K (.p (.c c))
 | .p (.agg l)=>K (.p (.agg l))
 | .tup l=>K (.tup l)
theorem znn {x:AV} {K:AV→Prop}:znm x K↔K x:=by unfold znm;split<;>rfl
def evL (f:Fr):List Operand→(List AV→Prop)→Prop
 |[],K=>K []
 |x::l,K=>znm (f.ev x) fun v=>evL f l fun vs=>K (v::vs)
theorem zkt {f:Fr}:∀ {l:List Operand} {K:List AV→Prop},evL f l K↔K (l.map f.ev)
 |[],_=>Iff.rfl
 |x::l,K=>by unfold evL;rw [znn,zkt];rfl
def zc1 (r:Env):List AV→List Value→Prop
 |[],us=>us=[]
 |c::cs,us=>∃ u l,us=u::l∧c.den r u∧zc1 r cs l
theorem zc4 {r:Env} {f:Fr} {a:Act} (h:FDen r f a):∀ l:List Operand,zc1 r (l.map f.ev) (l.map a.eval)
 |[]=>rfl
 |x::l=>⟨_,_,rfl,h.ev x,zc4 h l⟩
theorem zc2 {r:Env}:∀ {l m:List AV} {us vs:List Value},zc1 r l us→zc1 r m vs→zc1 r (l++m) (us++vs)
 |[],m,us,vs,h,k=>by subst h;exact k
 |c::l,m,us,vs,h,k=>by obtain ⟨u,l',rfl,h1,h2⟩:=h;exact ⟨u,_,rfl,h1,zc2 h2 k⟩
theorem zc3 {r:Env}:∀ {l:List CV} {us:List Value},denL r l us→zc1 r (l.map fun c=> .p (.c c)) us
 |[],us,h=>by simp only [denL] at h;exact h
 |c::l,us,h=>by simp only [denL] at h;obtain ⟨u,l',rfl,h1,h2⟩:=h;exact ⟨u,_,rfl,h1,zc3 h2⟩
def fnOk (P:Program) (fid:FuncId):Bool:=match P.funcs[fid]? with|some fn=> !(fn.name== "runtime.NumGoroutine")&&fn.body.isSome|none=>false
theorem z19 {P:Program} {fid:FuncId} (h:fnOk P fid=true) (args:Array Value) (w:World):(callFunc fid args).run P w= .ok (.enter fid args) w:=by
 unfold fnOk at h
 split at h
 ·rename_i fn hf
  simp only [Bool.and_eq_true,Bool.not_eq_true'] at h
  have h1:¬fn.name= "runtime.NumGoroutine" :=by simpa using h.1
  have h2:¬fn.body=none:=fun e=>by rw [e] at h;simp at h
  simp [callFunc,hf,h1,h2]
 ·cases h
section
variable (P:Program) (w0:World) (G:Gs) (N:Nd)
structure CallS (fid:FuncId) (args:List AV) (S:List Ow) (K:AV→List Ow→Prop):Prop where
 ok:fnOk P fid=true
 out:∀ r w us,Rel w0 G S r w→zc1 r args us→
  Calls P fid us.toArray w fun e w'=>∃ v u S' r',e= .returned u∧v.den r' u∧Rel w0 G S' r' w'∧r.le r'∧K v S'
structure OpS (o:Oper) (f:Fr) (S:List Ow) (K:Fr→List Ow→Prop):Prop where
 out:∀ r a w,Rel w0 G S r w→FDen r f a→a.tmps.size=N.n→a.defers=N.ds→∀ (next:Act→World→Prop) (_Q:Exit→Act→World→Prop),
  (∀ f' S' a' w',K f' S'→Good w0 G N f' S' a' w'→next a' w')→Oper.se P o a w next
def zba (o:Oper) (f:Fr) (S:List Ow) (t:TypeId) (K:Fr→List Ow→Prop):Prop:=
 match P.info? t with
 |some i=>(match i.zero with
  |some z=>znq z.cells.toList.length (z.cells.toList.map CV.v) fun l=>lenK S fun n=>zno (S++[.cells t l]) fun S'=>f.putK o.dst (.p (.c (.ref n 0))) fun f'=>K f' S'
  |none=>False)
 |none=>False
def boxK (o:Oper) (f:Fr) (S:List Ow) (t:TypeId) (x:AV) (K:Fr→List Ow→Prop):Prop:=
 match x.okCells S with
 |some l=>lenK S fun n=>zno (S++[.cells t l]) fun S'=>f.putK o.dst (.p (.c (.ref n 0))) fun f'=>K f' S'
 |none=>False
def oneS (S:List Ow):CV→Bool
 | .row i=>(match S[i]? with|some (.row ..)=>true|some (.view ..)=>true|_=>false)
 |c=>c.one
def zwf (S:List Ow):List CV→Bool
 |[]=>true
 |c::l=>match oneS S c with|true=>zwf S l|false=>false
def z9x:List CV→Option (List Value)
 |[]=>some []
 | .v x::l=>(match z9x l with|some us=>some (x::us)|none=>none)
 |_=>none
def z7j (o:Oper) (f:Fr) (S:List Ow) (t:TypeId) (x y:AV) (K:Fr→List Ow→Prop):Prop:=
 match x with
 | .p (.c (.ref i off))=>(match y.okCells S with
  |some cs=>(match P.info? t with
   |some inf=>(match Nat.beq cs.length inf.size with
    |true=>(match zwf S cs with
     |true=>(match S[i]? with
      |some (.cells t' l)=>(match Nat.ble (off+cs.length) l.length with
       |true=>znq l.length (z3z l off cs) fun l'=>zno (S.set i (.cells t' l')) fun S'=>f.putK o.dst (.p (.c .any)) fun f'=>K f' S'
       |false=>False)
      |some (.row e size n xs)=>(match z9x cs with
       |some us=>off+us.length≤xs.length∧zno (S.set i (.row e size n (z3z xs off us))) fun S'=>f.putK o.dst (.p (.c .any)) fun f'=>K f' S'
       |none=>False)
      |_=>False)
     |false=>False)
    |false=>False)
   |none=>False)
  |none=>False)
 |_=>False
def zec (o:Oper) (f:Fr) (S:List Ow) (t:TypeId) (n:Nat) (parts:Array (Nat×Operand)) (K:Fr→List Ow→Prop):Prop:=
 match P.underlying t with
 |some (.slice e)=>(match P.info? e with
  |some i=>(match i.zero with
   |some z=>(match Nat.beq z.cells.size i.size with
    |true=>(match Nat.ble (n*i.size) 16777216 with
     |true=>(match zmc P S f (fun k=>some (k*i.size,i.size)) parts.toList (List.replicate (n*i.size) .any) with
      |some l=>zno l fun l=>lenK S fun k=>zno (S++[.cells e l]) fun S'=>f.putK o.dst (.p (.c (.sl k 0 n n))) fun f'=>K f' S'
      |none=>False)
     |false=>False)
    |false=>False)
   |none=>False)
  |none=>False)
 |_=>False
def zey (o:Oper) (f:Fr) (S:List Ow) (fn:AV) (args:List Operand) (K:Fr→List Ow→Prop):Prop:=
 match fn with
 | .p (.c (.clo (.func fid) cap))=>evL f args fun vs=>CallS P w0 G fid (vs++cap.map fun c=> .p (.c c)) S fun v S'=>f.putK o.dst v fun f'=>K f' S'
 | .p (.c (.v (.func (.func fid) first cap)))=>(match first.toList with
  |[]=>evL f args fun vs=>CallS P w0 G fid (vs++cap.toList.map fun c=>AV.of c) S fun v S'=>f.putK o.dst v fun f'=>K f' S'
  |_=>False)
 |_=>False
def opK (o:Oper) (f:Fr) (S:List Ow) (K:Fr→List Ow→Prop):Prop:=
 match zjc N.n o.dst with
 |false=>False
 |true=>(match o.op with
  | .alloc t=>zba P o f S t K
  | .box t x=>boxK o f S t (f.ev x) K
  | .store t x y=>z7j P o f S t (f.ev x) (f.ev y) K
  | .buildSlice t n parts=>zec P o f S t n parts K
  | .call ⟨.value fn,args,_⟩=>zey P w0 G o f S (f.ev fn) args.toList K
  | .call ⟨.builtin .len,_,_⟩=>(match opTy P o.op with|true=>qop P w0 G S f o fun v=>(f.putK o.dst v fun f'=>K f' S)|false=>False)
  | .move _| .assign _| .pick _ _ _| .load _ _| .nilCheck _| .binOp _ _ _ _ _| .unOp _ _ _| .convert _ _ _| .fieldAddr _ _ _| .field _ _ _| .extract _ _| .build _ _| .makeFunc _ _ _| .indexAddr _ _ _| .index _ _ _| .lookup _ _ _ _=>
   (match opTy P o.op with|true=>qop P w0 G S f o fun v=>(f.putK o.dst v fun f'=>K f' S)|false=>False)
  |_=>OpS P w0 G N o f S K)
end
theorem z36 {w:World} {b off:Nat} (u:Value):w.grownBy (w.setCell ⟨b,off,none⟩ u) (some b):=zwm (World.grownBy.refl w _) (.inl rfl) u
theorem z35 {w:World} {b off:Nat} {cs:List Value} {t:TypeId} (h:w.heap[b]?=some (.cells cs.toArray t (0,0))) (u:Value):(w.setCell ⟨b,off,none⟩ u).heap[b]?=some (.cells (cs.set off u).toArray t (0,0)):=by
 simp [World.setCell,Array.getElem?_modify,h]
theorem z2l {P:Program}:∀ (us:List Value) {w:World} {b off i:Nat} {cs:List Value} {t:TypeId},w.heap[b]?=some (.cells cs.toArray t (0,0))→(∀ u∈us,(∀ x,u≠ .agg x)∧(∀ x,u≠ .tuple x))→off+i+us.length≤cs.length→
  ∃ w',(storeCells ⟨b,off,none⟩ us i).run P w= .ok () w'∧w.grownBy w' (some b)∧w'.heap[b]?=some (.cells (z3z cs (off+i) us).toArray t (0,0))
 |[],w,b,off,i,cs,t,h,_,_=>⟨w,by simp [storeCells],World.grownBy.refl _ _,h⟩
 |u::us,w,b,off,i,cs,t,h,hu,hl=>by
  obtain ⟨h1,h2⟩:=hu u (List.mem_cons_self ..)
  have hc:w.cell? ⟨b,off+i,none⟩≠none:=by
   simp [World.cell?,h];simp at hl;omega
  have hf:w.frozen? ⟨b,off+i,none⟩=false:=(by simp [World.frozen?,h]);have hset:=z35 (off:=off+i) h u;obtain ⟨w',hr,hg,hb⟩:=z2l (P:=P) us (i:=i+1) (off:=off) hset (fun v hv=>hu v (List.mem_cons_of_mem _ hv)) (by simp at hl⊢;omega);refine ⟨w',?_,(z36 u).trans hg,by simpa [z3z,Nat.add_assoc] using hb⟩;unfold storeCells;simp only [Sem.run_bind,za0]
  have:(store ⟨b,off+i,none⟩ u).run P w= .ok () (w.setCell ⟨b,off+i,none⟩ u):=by
   obtain ⟨x,hx⟩:=Option.ne_none_iff_exists'.1 hc
   cases u<;>first|(exact absurd rfl (h1 _))|(exact absurd rfl (h2 _))|simp [store,Sem.run,hx,hf]
  rw [this];exact hr
theorem zwj {w0:World} {G:Gs} {S:List Ow} {r:Env} {w:World} (hR:Rel w0 G S r w):∀ {cs:List CV} {us:List Value},zwf S cs=true→denL r cs us→∀ u∈us,(∀ x,u≠ .agg x)∧(∀ x,u≠ .tuple x)
 |[],us,_,hd,u,hu=>by simp only [denL] at hd;subst hd;cases hu
 |c::cs,us,h,hd,u,hu=>by
  simp only [denL] at hd;obtain ⟨v,l,rfl,hc,hl⟩:=hd;simp only [zwf] at h
  split at h
  ·rename_i h1
   rcases List.mem_cons.1 hu with rfl|hu
   ·unfold oneS at h1
    split at h1
    ·split at h1
     ·rename_i i _ e size n xs hS
      simp only [CV.den] at hc;obtain ⟨v,hv,_,ho⟩:=hR.own _ _ hS;rw [hc] at hv;injection hv with hv;subst hv;obtain ⟨A,c,hs⟩:=z13 ho;subst hs;exact ⟨nofun,nofun⟩
     ·rename_i i _ φ n xs hS
      simp only [CV.den] at hc;obtain ⟨A,c,hv,_⟩:=hR.own _ _ hS;rw [hc] at hv;injection hv with hv;subst hv;exact ⟨nofun,nofun⟩
     ·cases h1
    ·exact zwe h1 hc
   ·exact zwj hR h hl u hu
  ·cases h
theorem z9y {r:Env}:∀ {cs:List CV} {us vs:List Value},z9x cs=some us→denL r cs vs→vs=us
 |[],us,vs,h,hd=>by injection h with h;subst h;simpa only [denL] using hd
 |c::cs,us,vs,h,hd=>by
  simp only [denL] at hd;obtain ⟨v,l,rfl,hc,hl⟩:=hd
  cases c<;>simp only [z9x] at h<;>try cases h
  rename_i x
  split at h
  ·rename_i us' hus
   injection h with h;subst h;simp only [CV.den] at hc;subst hc;rw [z9y hus hl]
  ·cases h
theorem z33 {α:Type}:∀ (us l:List α) (off:Nat),off+us.length≤l.length→∀ m,l.length≤m→∀ l':List α,z3z (l++l') off us=z3z l off us++l'
 |[],l,off,_,m,_,l'=>rfl
 |u::us,l,off,h,m,hm,l'=>by
  simp only [z3z];rw [List.set_append_left _ _ (by simp at h;omega)];exact z33 us (l.set off u) (off+1) (by simp at h⊢;omega) m (by simpa using hm) l'
theorem zw8:∀ {l:List BOp} {k:Nat} {o:BOp},l[k]?=some o→((l.flatMap opC).drop (k*5)).take 5=opC o
 |[],k,o,h=>by simp at h
 |x::l,0,o,h=>by simp at h;subst h;simp [List.flatMap_cons,opC]
 |x::l,k+1,o,h=>by
  rw [List.flatMap_cons,show (k+1)*5=(opC x).length+k*5 by simp [opC];omega, ← List.drop_drop,List.drop_left];exact zw8 (by simpa using h)
theorem zu6 {s s2:Ck} {o:BOp} {x y:Bool} (h:zf3 s o x y=some s2):znt o=true:=by
 unfold zf3 at h;by_cases hf:(znt o&&zyp s o x y)=true
 ·simp only [Bool.and_eq_true] at hf;exact hf.1
 ·rw [if_neg hf] at h;cases h
theorem z2b:∀ {l:List BOp} {s s':Ck},zga s l=some s'→∀ o∈l,znt o=true
 |[],_,_,_,o,ho=>by cases ho
 |p::l,s,s',h,o,ho=>by
  unfold zga at h
  split at h
  ·rename_i s2 h2
   rcases List.mem_cons.1 ho with rfl|ho
   ·exact zu6 h2
   ·exact z2b h o ho
  ·cases h
theorem z9o {b:Blk} (h:z9g b=true):∀ o∈b.ops,znt o=true:=by
 unfold z9g at h;simp only [Bool.and_eq_true] at h;have h2:=h.2
 split at h2
 ·rename_i s hs;exact z2b hs
 ·cases h2
def deadB (o:BOp) (m:Nat):Bool:=pureB o&& !(m.testBit o.d.toNat)
structure DeadS where
 live:Nat
 out:List BOp
def zib (s:DeadS) (o:BOp):DeadS:=if deadB o s.live then s else ⟨zdf o s.live,s.out++[o]⟩
def zia (l:List BOp):DeadS:=l.foldl zib ⟨0,[]⟩
def zh9 (b:Blk):List BOp:=if z9g b then (zia b.ops.reverse).out.reverse else b.ops
structure LiveS where
 live:Nat
 row:List Nat
def ckL:Ck→List BOp→Option Ck
 |s,[]=>some s
 |s,o::l=>match zf3 s o false false with|some s'=>ckL s' l|none=>none
theorem zf2:∀ (l m:List BOp) (s:Ck),ckL s (l++m)=(ckL s l).bind fun s'=>ckL s' m
 |[],m,s=>rfl
 |o::l,m,s=>by
  simp only [List.cons_append,ckL]
  split
  ·rename_i s' _;exact zf2 l m s'
  ·rfl
def zd7 (c:Int):Bool:=decide ((1≤c∧c≤19)∨c=21)
structure BodyOk (l:List BOp) (W:Nat) (ch:Bool):Prop where
 run:∀ m,ckL ⟨m,0,false⟩ l=some ⟨m,W,ch⟩
 all:∀ o∈l,o.ok∧zd7 o.code=true
theorem BodyOk.nil:BodyOk [] 0 false:=⟨fun _=>rfl,nofun⟩
def zu5 (W:Nat) (o:BOp):Nat:=if 20≤writes o then W|||2^(writes o).toNat else W
def zu2 (ch:Bool) (o:BOp):Bool:=ch||(stores o.code||decide (0≤writes o∧writes o<20))
def srcI (W:Nat) (v:Int):Prop:=0≤v∧v<28∧v≠19∧(v<20∨W.testBit v.toNat=true)
theorem BodyOk.snoc {l:List BOp} {W:Nat} {ch:Bool} {o:BOp} (h:BodyOk l W ch) (ho:o.ok) (hc:zd7 o.code=true) (hf:znt o=true) (hlv:leaves o.code=true→ch=false) (hr:∀ v∈reads o,srcI W v):BodyOk (l++[o]) (zu5 W o) (zu2 ch o):=by
 refine ⟨fun m=>?_,fun p hp=>?_⟩
 ·rw [zf2,h.run m]
  show (match zf3 ⟨m,W,ch⟩ o false false with|some s'=>ckL s' []|none=>none)=_
  have hc':(1≤o.code∧o.code≤19)∨o.code=21:=by simpa [zd7] using hc
  have hpl:zyp ⟨m,W,ch⟩ o false false=true:=by
   unfold zyp;have h1:zju o.code=false:=(by unfold zju;rw [decide_eq_false_iff_not];omega);have h2:(o.code==23)=false:=(by rw [beq_eq_false_iff_ne];omega);rw [h1,h2]
   cases hl:leaves o.code
   ·rfl
   ·rw [hlv hl];rfl
  have hrd:(reads o).all (z0u ⟨m,W,ch⟩)=true:=by
   rw [List.all_eq_true];intro v hv;unfold z0u;rcases (hr v hv).2.2.2 with h1|h1
   ·simp [h1]
   ·simp [h1]
  unfold zf3;rw [hf,hpl,hrd];have h20:(o.code==20)=false:=(by rw [beq_eq_false_iff_ne];omega);rw [h20]
  rfl
 ·rcases List.mem_append.1 hp with hp|hp
  ·exact h.all p hp
  ·simp at hp;subst hp;exact ⟨ho,hc⟩
theorem zux {x:Int} (h: -1000≤x∧x≤1000):mid x:=by unfold mid;omega
theorem BodyOk.is {l:List BOp} {W W':Nat} {ch ch':Bool} (h:BodyOk l W ch) (hW:W=W') (hc:ch=ch'):BodyOk l W' ch':=by subst hW;subst hc;exact h
theorem BodyOk.const {l:List BOp} {W:Nat} {ch:Bool} (h:BodyOk l W ch) {d n:Int} (hd:0≤d∧d<28∧d≠19) (hn:word n):BodyOk (l++[⟨1,d,0,0,n⟩]) (if 20≤d then W|||2^d.toNat else W) (ch||decide (d<20)):=by
 refine (h.snoc (o:=⟨1,d,0,0,n⟩) ⟨zux zU,zux zU,mid0,mid0,hn⟩ rfl ?_ (fun h=>by cases h) (fun v hv=>by cases hv)).is rfl ?_
 ·show (isOp 1&&zl3 true d&&zl3 false 0&&zl3 false 0&&(true||_))=true
  have:zl3 true d=true:=by unfold zl3;rw [if_pos rfl,decide_eq_true_eq];omega
  rw [this];rfl
 ·unfold zu2
  show (ch||(false||decide (0≤d∧d<20)))=_;rw [Bool.false_or];congr 1;rw [decide_eq_decide];omega
theorem z6u {W:Nat} {v:Int} (h:srcI W v):zl3 true v=true:=by unfold zl3;rw [if_pos rfl,decide_eq_true_eq];exact ⟨h.1,h.2.1,h.2.2.1⟩
theorem BodyOk.move {l:List BOp} {W:Nat} {ch:Bool} (h:BodyOk l W ch) {d a:Int} (hd:0≤d∧d<28∧d≠19) (ha:srcI W a):BodyOk (l++[⟨2,d,a,0,0⟩]) (if 20≤d then W|||2^d.toNat else W) (ch||decide (d<20)):=by
 have ha':=ha;obtain ⟨a1,a2,a3,a4⟩:=ha;refine (h.snoc (o:=⟨2,d,a,0,0⟩) ⟨zux zU,zux zU,zux zU,mid0,yap⟩ rfl ?_ (fun h=>by cases h) (fun v hv=>?_)).is rfl ?_
 ·show (isOp 2&&zl3 true d&&zl3 true a&&zl3 false 0&&(false||true))=true
  have:zl3 true d=true:=by unfold zl3;rw [if_pos rfl,decide_eq_true_eq];omega
  rw [this,z6u ha'];rfl
 ·have:v∈[a]:=hv
  simp at this;subst this;exact ha'
 ·unfold zu2
  show (ch||(false||decide (0≤d∧d<20)))=_;rw [Bool.false_or];congr 1;rw [decide_eq_decide];omega
theorem z1a {c a b d n:Int} {v:Int} (h:v∈reads ⟨c,d,a,b,n⟩):v=a∨v=b:=by
 unfold reads at h;rcases List.mem_append.1 h with h|h
 ·split at h
  ·left;simpa using h
  ·cases h
 ·split at h
  ·right;simpa using h
  ·cases h
theorem BodyOk.load {l:List BOp} {W:Nat} {ch:Bool} (h:BodyOk l W ch) {c d a n:Int} (hc:16≤c∧c≤17) (hd:20≤d∧d<28) (ha:srcI W a) (hn:word n) (hch:ch=false):BodyOk (l++[⟨c,d,a,0,n⟩]) (W|||2^d.toNat) ch:=by
 have ha':=ha
 obtain ⟨a1,a2,a3,a4⟩:=ha
 have hD:hasD c=true:=by unfold hasD;rw [decide_eq_true_eq];omega
 have hA:hasA c=true:=by unfold hasA;rw [decide_eq_true_eq];omega
 have hB:hasB c=false:=by unfold hasB;rw [decide_eq_false_iff_not];omega
 have hNn:hasN c=true:=by unfold hasN;rw [decide_eq_true_eq];omega
 have hI:isOp c=true:=by unfold isOp;rw [decide_eq_true_eq];omega
 have hS:stores c=false:=by unfold stores;rw [decide_eq_false_iff_not];omega
 have hw:writes ⟨c,d,a,0,n⟩=d:=by unfold writes;rw [if_pos hD]
 refine (h.snoc (o:=⟨c,d,a,0,n⟩) ⟨zux zU,zux zU,zux zU,mid0,hn⟩ (by unfold zd7;rw [decide_eq_true_eq];dsimp only;omega) ?_ (fun _=>hch) (fun v hv=>?_)).is ?_ ?_
 ·unfold znt
  dsimp only;rw [hI,hD,hA,hB,z6u ha',hNn];have:zl3 true d=true:=(by unfold zl3;rw [if_pos rfl,decide_eq_true_eq];omega);rw [this];rfl
 ·unfold reads at hv
  dsimp only at hv;rw [hA,hB] at hv;simp at hv;subst hv;exact ha'
 ·unfold zu5;rw [hw,if_pos hd.1]
 ·unfold zu2
  rw [hw];dsimp only;rw [hS,Bool.false_or];have:decide (0≤d∧d<20)=false:=(by rw [decide_eq_false_iff_not];omega);rw [this,Bool.or_false]
theorem BodyOk.guard {l:List BOp} {W:Nat} {ch:Bool} (h:BodyOk l W ch) {a:Int} (ha:srcI W a) (hch:ch=false):BodyOk (l++[⟨21,0,a,0,0⟩]) W ch:=by
 have ha':=ha;obtain ⟨a1,a2,a3,a4⟩:=ha;refine (h.snoc (o:=⟨21,0,a,0,0⟩) ⟨zux zU,mid0,zux zU,mid0,yap⟩ rfl ?_ (fun _=>hch) (fun v hv=>?_)).is rfl ?_
 ·show (isOp 21&&zl3 false 0&&zl3 true a&&zl3 false 0&&(false||true))=true
  rw [z6u ha'];rfl
 ·have:v∈[a]:=hv
  simp at this;subst this;exact ha'
 ·unfold zu2
  show (ch||(false||false))=_;simp
theorem BodyOk.store {l:List BOp} {W:Nat} {ch:Bool} (h:BodyOk l W ch) {c a b n:Int} (hc:18≤c∧c≤19) (ha:srcI W a) (hb:srcI W b) (hn:word n) (hch:ch=false):BodyOk (l++[⟨c,0,a,b,n⟩]) W true:=by
 have ha':=ha
 have hb':=hb
 obtain ⟨a1,a2,a3,a4⟩:=ha
 obtain ⟨b1,b2,b3,b4⟩:=hb
 have hD:hasD c=false:=by unfold hasD;rw [decide_eq_false_iff_not];omega
 have hA:hasA c=true:=by unfold hasA;rw [decide_eq_true_eq];omega
 have hB:hasB c=true:=by unfold hasB;rw [decide_eq_true_eq];omega
 have hNn:hasN c=true:=by unfold hasN;rw [decide_eq_true_eq];omega
 have hI:isOp c=true:=by unfold isOp;rw [decide_eq_true_eq];omega
 have hS:stores c=true:=by unfold stores;rw [decide_eq_true_eq];omega
 have hw:writes ⟨c,0,a,b,n⟩= -1:=by unfold writes;rw [if_neg (by rw [hD];decide)]
 refine (h.snoc (o:=⟨c,0,a,b,n⟩) ⟨zux zU,mid0,zux zU,zux zU,hn⟩ (by unfold zd7;rw [decide_eq_true_eq];dsimp only;omega) ?_ (fun _=>hch) (fun v hv=>?_)).is ?_ ?_
 ·unfold znt
  dsimp only;rw [hI,hD,hA,hB,z6u ha',z6u hb',hNn];rfl
 ·rcases z1a hv with rfl|rfl
  ·exact ha'
  ·exact hb'
 ·unfold zu5;rw [hw];rfl
 ·unfold zu2
  dsimp only;rw [hS];simp
structure ReplOk (o p:BOp):Prop where
 formed:znt p=true
 code:1≤p.code∧p.code≤15
 writes:writes p=writes o
 reads:∀ v∈reads p,v∈Go.Proofs.YtocafomnnkmjfaaGreat.reads o
end Go.Proofs.YtocafomnnkmjfaaGreat
