import Derived.Laws.StructEq
import Derived.Test.YtocafomnnkmjfaaGreatK3
namespace Go.Proofs.YtocafomnnkmjfaaGreat
open Go.RowKit
def tsz (P:Program) (t:TypeId):Nat:=match P.info? t with|some i=>i.size|none=>0
def tAgg (P:Program) (t:TypeId):Option Bool:=match P.underlying t with|some (.struct _)=>some true|some (.array _ _)=>some true|some _=>some false|none=>none
def zni {α:Type}:List α→(List α→Prop)→Prop
 |[],K=>K []
 |a::l,K=>zni l fun m=>K (a::m)
theorem znj {α:Type}:∀ {l:List α} {K:List α→Prop},zni l K↔K l
 |[],_K=>Iff.rfl
 |_a::l,_K=>znj (l:=l)
def znk {α:Type} (n:Nat) (l:List α) (K:List α→Prop):Prop:=match Nat.ble n 8 with|true=>zni l K|false=>K l
theorem znl {α:Type} {n:Nat} {l:List α} {K:List α→Prop}:znk n l K↔K l:=by
 unfold znk;split
 ·exact znj
 ·exact Iff.rfl
def cut (l:List CV) (off n:Nat):Option (List CV):=match Nat.ble (off+n) l.length with|true=>some ((l.drop off).take n)|false=>none
theorem zhz {l m:List CV} {off n:Nat} (h:cut l off n=some m):off+n≤l.length∧m=(l.drop off).take n:=by
 unfold cut at h;split at h
 ·rename_i hb;exact ⟨Nat.le_of_ble_eq_true hb,(Option.some.inj h).symm⟩
 ·cases h
theorem za0 (b off i:Nat):Addr.add ⟨b,off,none⟩ i=⟨b,off+i,none⟩:=by
 unfold Addr.add;split
 ·rename_i h;subst h;simp
 ·rfl
theorem z2r (P:Program) (t:TypeId) (w:World) {i:TypeInfo} (h:P.info? t=some i):(sizeOf t).run P w= .ok i.size w:=by
 simp [sizeOf,typeInfo,h]
theorem z2m {P:Program} {t:TypeId} (w:World) {x:Bool} (h:tAgg P t=some x):(isAgg t).run P w= .ok x w:=by
 unfold tAgg at h;unfold isAgg underlying;simp only [Sem.run_bind,run_program,Result.andThen_ok]
 split at h
 ·rename_i hu;injection h with h;subst h;rw [hu];simp
 ·rename_i hu;injection h with h;subst h;rw [hu];simp
 ·rename_i d n1 n2 hu
  injection h with h;subst h;rw [hu];simp only [Result.andThen_ok,Sem.run_pure]
 ·cases h
theorem z2p {P:Program} {w:World} {b off:Nat}:∀ (n i:Nat) (acc:Array Value) (us:List Value),us.length=n→(∀ j u,us[j]?=some u→w.cell? ⟨b,off+i+j,none⟩=some u)→
  (loadCellsFrom ⟨b,off,none⟩ i n acc).run P w= .ok (acc++us.toArray) w
 |0,i,acc,us,hl,h=>by
  rw [List.eq_nil_of_length_eq_zero hl];simp [loadCellsFrom]
 |n+1,i,acc,us,hl,h=>by
  match us,hl with
  |u::us,hl=>
   have h0:=h 0 u rfl;have:=z2p (P:=P) (w:=w) (b:=b) (off:=off) n (i+1) (acc.push u) us (by simpa using hl) (fun j v hj=>by have:=h (j+1) v (by simpa using hj);rw [← this];congr 2;omega);unfold loadCellsFrom;simp only [Sem.run_bind,run_load,za0];rw [show off+i=off+i+0 by omega,h0];simp [this]
theorem z2o {P:Program} {w:World} {b off:Nat} {t:TypeId} {u:Value} (ht:tAgg P t=some false) (h:w.cell? ⟨b,off,none⟩=some u):
  (Instr.loadAt t (.pointer (some ⟨b,off,none⟩))).run P w= .ok u w:=by
 simp [Instr.loadAt,Instr.sureAddr,loadVar,z2m w ht,h]
theorem z2n {P:Program} {w:World} {b off:Nat} {t:TypeId} {us:List Value} {i:TypeInfo} (ht:tAgg P t=some true) (hi:P.info? t=some i) (hl:us.length=i.size) (h:∀ j u,us[j]?=some u→w.cell? ⟨b,off+j,none⟩=some u):
  (Instr.loadAt t (.pointer (some ⟨b,off,none⟩))).run P w= .ok (.agg us.toArray) w:=by
 simp [Instr.loadAt,Instr.sureAddr,loadVar,z2m w ht,z2r P t w hi,loadCells,z2p i.size 0 #[] us hl (by simpa using h)]
def binK (op:BinOp) (k:IntKind) (a b:Int) (K:Value→Prop):Prop:=
 match op with
 | .add=>∃ m,k.wrap (a+b)=m∧K (.int k m)
 | .sub=>∃ m,k.wrap (a-b)=m∧K (.int k m)
 | .mul=>∃ m,k.wrap (a*b)=m∧K (.int k m)
 | .quo=>b≠0∧∃ m,k.wrap (a.tdiv b)=m∧K (.int k m)
 | .rem=>b≠0∧∃ m,a.tmod b=m∧K (.int k m)
 | .eql=>K (.bool (a==b))
 | .neq=>K (.bool (a !=b))
 | .lss=>K (.bool (decide (a<b)))
 | .leq=>K (.bool (decide (a≤b)))
 | .gtr=>K (.bool (decide (a>b)))
 | .geq=>K (.bool (decide (a≥b)))
 | .and=>∃ m,bits .and k a b=m∧K (.int k m)
 | .or=>∃ m,bits .or k a b=m∧K (.int k m)
 | .xor=>∃ m,bits .xor k a b=m∧K (.int k m)
 | .andNot=>∃ m,bits .andNot k a b=m∧K (.int k m)
 |_=>False
def z5f (op:BinOp) (k:IntKind) (a b:Int) (K:Value→Prop):Prop:=
 match op with
 | .shl=>0≤b∧∃ m,k.wrap (a*2^(min b.toNat k.bits))=m∧K (.int k m)
 | .shr=>0≤b∧∃ m,a.fdiv (2^(min b.toNat k.bits))=m∧K (.int k m)
 |_=>False
theorem zdo {P:Program} {op:BinOp} {t:TypeId} {k:IntKind} {a b:Int} {K:Value→Prop} (h:binK op k a b K):∃ u,K u∧∀ w:World,(binOp op t (.int k a) (.int k b)).run P w= .ok u w:=by
 unfold binK at h
 split at h
 ·obtain ⟨m,hm,hK⟩:=h;exact ⟨_,hK,fun w=>by simp [binOp,Op.intArith,hm]⟩
 ·obtain ⟨m,hm,hK⟩:=h;exact ⟨_,hK,fun w=>by simp [binOp,Op.intArith,hm]⟩
 ·obtain ⟨m,hm,hK⟩:=h;exact ⟨_,hK,fun w=>by simp [binOp,Op.intArith,hm]⟩
 ·obtain ⟨h0,m,hm,hK⟩:=h;exact ⟨_,hK,fun w=>by simp [binOp,Op.intDiv,h0,hm]⟩
 ·obtain ⟨h0,m,hm,hK⟩:=h;exact ⟨_,hK,fun w=>by simp [binOp,Op.intDiv,h0,hm]⟩
 ·exact ⟨_,h,fun w=>by simp [binOp,Op.intCmp]⟩
 ·exact ⟨_,h,fun w=>by simp [binOp,Op.intCmp]⟩
 ·exact ⟨_,h,fun w=>by simp [binOp,Op.intCmp]⟩
 ·exact ⟨_,h,fun w=>by simp [binOp,Op.intCmp]⟩
 ·exact ⟨_,h,fun w=>by simp [binOp,Op.intCmp]⟩
 ·exact ⟨_,h,fun w=>by simp [binOp,Op.intCmp]⟩
 ·obtain ⟨m,hm,hK⟩:=h;exact ⟨_,hK,fun w=>by subst hm;simp [binOp,go_sem]⟩
 ·obtain ⟨m,hm,hK⟩:=h;exact ⟨_,hK,fun w=>by subst hm;simp [binOp,go_sem]⟩
 ·obtain ⟨m,hm,hK⟩:=h;exact ⟨_,hK,fun w=>by subst hm;simp [binOp,go_sem]⟩
 ·obtain ⟨m,hm,hK⟩:=h;exact ⟨_,hK,fun w=>by subst hm;simp [binOp,go_sem]⟩
 ·exact h.elim
theorem z5g {P:Program} {op:BinOp} {t:TypeId} {k k':IntKind} {a b:Int} {K:Value→Prop} (h:z5f op k a b K):∃ u,K u∧∀ w:World,(binOp op t (.int k a) (.int k' b)).run P w= .ok u w:=by
 unfold z5f at h
 split at h
 ·obtain ⟨h0,m,hm,hK⟩:=h;exact ⟨_,hK,fun w=>by simp [binOp,Op.shift,show ¬b<0 by omega,hm]⟩
 ·obtain ⟨h0,m,hm,hK⟩:=h;exact ⟨_,hK,fun w=>by simp [binOp,Op.shift,show ¬b<0 by omega,hm]⟩
 ·exact h.elim
abbrev one (x:Value):AV:= .p (.c (.v x))
structure QRun (P:Program) (w0:World) (G:Gs) (S:List Ow) (f:Fr) (o:Oper) (K:AV→Prop):Prop where
 out:∃ v:AV,K v∧∀ r a,FDen r f a→∃ u,v.den r u∧∀ w,Rel w0 G S r w→(execOp a.eval o).run P w= .ok (.value u) w
def getK (P:Program) (t:TypeId) (l:List CV) (off:Nat) (K:AV→Prop):Prop:=
 match tAgg P t with
 |some false=>(match l[off]? with|some c=>K (.p (.c c))|none=>False)
 |some true=>(match P.info? t with|some i=>(match cut l off i.size with|some m=>znk i.size m fun m=>K (.p (.agg m))|none=>False)|none=>False)
 |none=>False
def oldK (P:Program) (w0:World) (G:Gs) (t:TypeId) (b off:Nat) (K:AV→Prop):Prop:=
 match tAgg P t with
 |some false=>∃ x,zac w0 G b off [x]∧K (one x)
 |some true=>(match P.info? t with|some i=>∃ xs:List Value,zac w0 G b off xs∧xs.length=i.size∧K (.p (.agg (xs.map .v)))|none=>False)
 |none=>False
def zta (P:Program) (w0:World) (G:Gs) (S:List Ow) (t:TypeId) (x:AV) (K:AV→Prop):Prop:=
 match x with
 | .p (.c (.ref i off))=>(match S[i]? with
  |some (.cells _ l)=>getK P t l off K
  |some (.row _ _ _ xs)=>getK P t (xs.map .v) off K
  |_=>False)
 | .p (.c (.vref i off))=>(match S[i]? with
  |some (.view _ _ xs)=>getK P t (xs.map .v) off K
  |_=>False)
 | .p (.c (.v (.pointer (some ⟨b,off,none⟩))))=>oldK P w0 G t b off K
 |_=>False
theorem zoe {P:Program} {t:TypeId} {l:List CV} {off:Nat} {K:AV→Prop} (h:getK P t l off K) {r:Env} {b:Nat} {us:List Value} (hl:denL r l us) (base:Nat):
  ∃ v u,K v∧v.den r u∧∀ w:World,(∀ j x,us[j]?=some x→w.cell? ⟨b,base+j,none⟩=some x)→(Instr.loadAt t (.pointer (some ⟨b,base+off,none⟩))).run P w= .ok u w:=by
 unfold getK at h
 split at h
 ·rename_i ht
  split at h
  ·rename_i c hc
   obtain ⟨u,hu,hd⟩:=zif hl hc;exact ⟨_,u,h,hd,fun w hw=>z2o ht (hw _ _ hu)⟩
  ·exact h.elim
 ·rename_i ht
  split at h
  ·rename_i i hi
   split at h
   ·rename_i m hm
    obtain ⟨hle,rfl⟩:=zhz hm;have hd:=ziq i.size (zii off hl);have hlen:=zik hl;refine ⟨_,_,znl.1 h,⟨_,rfl,hd⟩,fun w hw=>z2n ht hi zV fun j u hj=>?_⟩;rw [Nat.add_assoc];refine hw _ _ ?_;rw [List.getElem?_take] at hj
    split at hj
    ·rw [List.getElem?_drop] at hj;exact hj
    ·cases hj
   ·exact h.elim
  ·exact h.elim
 ·exact h.elim
theorem zwb {P:Program} {w0:World} {G:Gs} {t:TypeId} {b off:Nat} {K:AV→Prop} (h:oldK P w0 G t b off K) (r:Env):
  ∃ v u,K v∧v.den r u∧∀ (S:List Ow) (r':Env) (w:World),Rel w0 G S r' w→(Instr.loadAt t (.pointer (some ⟨b,off,none⟩))).run P w= .ok u w:=by
 unfold oldK at h
 split at h
 ·rename_i ht
  obtain ⟨x,⟨h1,h2,h3⟩,hK⟩:=h;refine ⟨_,x,hK,by simp [AV.den,Pc.den,CV.den],fun S r' w hR=>z2o ht ?_⟩;rw [hR.oldCell h1 h2];simpa using h3 0 x rfl
 ·rename_i ht
  split at h
  ·rename_i i hi
   obtain ⟨xs,⟨h1,h2,h3⟩,hl,hK⟩:=h;refine ⟨_,.agg xs.toArray,hK,⟨xs,rfl,zir xs⟩,fun S r' w hR=>z2n ht hi hl fun j u hj=>?_⟩;rw [hR.oldCell h1 h2];exact h3 j u hj
  ·exact h.elim
 ·exact h.elim
theorem zx3 {w:World} {base:Nat} {e:TypeId} {size n:Nat} {v:Value} {xs:List Value} {b:Nat} (h:w.ownsRow base e size v n xs) (hb:v.ownBlock=some b):∀ j x,xs[j]?=some x→w.cell? ⟨b,j,none⟩=some x:=by
 intro j x hj;rcases h.2 with ⟨h0,_⟩|⟨g,cap,cur,hv,_,hh,_⟩
 ·subst h0;simp [Value.ownBlock] at hb
 ·subst hv
  simp [Value.ownBlock] at hb;subst hb;obtain ⟨b',off,hA,_,hc⟩:=SlAt.of_own h j x hj;injection hA with hA;injection hA with h1 h2;subst h1;subst h2
  simpa using hc
theorem ztb {P:Program} {w0:World} {G:Gs} {S:List Ow} {t:TypeId} {x:AV} {K:AV→Prop} (h:zta P w0 G S t x K) {r:Env} {w1:World} (hR1:Rel w0 G S r w1) {y:Value} (hx:x.den r y):
  ∃ v u,K v∧v.den r u∧∀ w:World,Below w1.heap.size w1 w→(Instr.loadAt t y).run P w= .ok u w:=by
 unfold zta at h
 split at h
 ·rename_i i off
  simp only [AV.den,Pc.den,CV.den] at hx;obtain ⟨b,hb,rfl⟩:=hx
  split at h
  ·rename_i t' l hi
   obtain ⟨b',us,h1,h2,h3⟩:=hR1.own i _ hi;rw [hb] at h1;injection h1 with h1;subst h1;obtain ⟨v,u,hK,hd,hrun⟩:=zoe h (b:=b) h3 0;simp only [Nat.zero_add] at hrun;refine ⟨v,u,hK,hd,fun w hw=>hrun w fun j x hj=>?_⟩;rw [hw.cell (p:=⟨b,j,none⟩) (hR1.new i b hb).1];simp [World.cell?,h2,hj]
  ·rename_i e size n xs hi
   obtain ⟨v',h1,h2,h3⟩:=hR1.own i _ hi;obtain ⟨v,u,hK,hd,hrun⟩:=zoe h (b:=b) (r:=r) (zir xs) 0;simp only [Nat.zero_add] at hrun;refine ⟨v,u,hK,hd,fun w hw=>hrun w fun j x hj=>?_⟩;rw [hw.cell (p:=⟨b,j,none⟩) (hR1.new i b hb).1];exact zx3 h3 (h2.trans hb) j x hj
  ·exact h.elim
 ·rename_i i off
  simp only [AV.den,Pc.den,CV.den] at hx;obtain ⟨b,o,n',c',hb,rfl⟩:=hx
  split at h
  ·rename_i φ n xs hi
   obtain ⟨A,c,h1,h2,h3,h4,h5⟩:=hR1.own i _ hi;rw [hb] at h1;injection h1 with h1;injection h1 with h1 h1n h1c;subst h1;obtain ⟨v,u,hK,hd,hrun⟩:=zoe h (b:=b) (r:=r) (zir xs) o;refine ⟨v,u,hK,hd,fun w hw=>hrun w fun j x hj=>?_⟩;obtain ⟨b',off',hA,h6,_,h7⟩:=h5 j x hj;injection hA with hA;injection hA with e1 e2;subst e1;subst e2;rw [hw.cell (p:=⟨_,_,none⟩) h6];exact h7
  ·exact h.elim
 ·rename_i b off
  simp only [AV.den,Pc.den,CV.den] at hx;subst hx;obtain ⟨v,u,hK,hd,hrun⟩:=zwb h r;exact ⟨v,u,hK,hd,fun w hw=>hrun S r w (hR1.below hw)⟩
 ·exact h.elim
def zm7 (P:Program) (s:TypeId) (k:Nat):Option Nat:=match P.underlying s with
 |some (.struct fs)=>(match fs[k]? with|some f=>(match P.info? f.type with|some i=>(match Nat.beq i.size 0 with|true=>none|false=>some f.offset)|none=>none)|none=>none)
 |_=>none
theorem z2i {P:Program} {s:TypeId} {k n:Nat} (h:zm7 P s k=some n) (b off:Nat) (w:World):(Instr.fieldAt s (.pointer (some ⟨b,off,none⟩)) k).run P w= .ok (.pointer (some ⟨b,off+n,none⟩)) w:=by
 unfold zm7 at h
 split at h
 ·rename_i fs hs
  split at h
  ·rename_i fl hf
   split at h
   ·rename_i i hi
    split at h
    ·cases h
    ·rename_i hz
     injection h with h;subst h
     have hz':¬i.size=0:=fun e=>by rw [e] at hz;cases hz
     simp [Instr.fieldAt,underlying,hs,hf,Instr.sureAddr,fieldPlace,z2r P fl.type w hi,hz',za0]
   ·cases h
  ·cases h
 ·cases h
def fldK (P:Program) (s:TypeId) (l:List CV) (k:Nat) (K:AV→Prop):Prop:=match P.underlying s with
 |some (.struct fs)=>(match fs[k]? with|some f=>getK P f.type l f.offset K|none=>False)
 |_=>False
theorem z2q {P:Program} {t:TypeId} {l:List CV} {off:Nat} {K:AV→Prop} (h:getK P t l off K) {r:Env} {us:List Value} (hl:denL r l us):
  ∃ v u,K v∧v.den r u∧∀ w:World,(part t us.toArray off).run P w= .ok u w:=by
 unfold getK at h
 split at h
 ·rename_i ht
  split at h
  ·rename_i c hc
   obtain ⟨u,hu,hd⟩:=zif hl hc;exact ⟨_,u,h,hd,fun w=>by simp [part,z2m w ht,hu]⟩
  ·exact h.elim
 ·rename_i ht
  split at h
  ·rename_i i hi
   split at h
   ·rename_i m hm
    obtain ⟨hle,rfl⟩:=zhz hm;have hd:=ziq i.size (zii off hl);refine ⟨_,_,znl.1 h,⟨_,rfl,hd⟩,fun w=>?_⟩;simp [part,z2m w ht,z2r P t w hi,List.take_drop]
   ·exact h.elim
  ·exact h.elim
 ·exact h.elim
mutual
def CV.bnd (n:Nat):CV→Bool
 | .ref i _=>Nat.blt i n
 | .vref i _=>Nat.blt i n
 | .row i=>Nat.blt i n
 | .sl i _ _ _=>Nat.blt i n
 | .mp i=>Nat.blt i n
 | .clo _ cap=>bndL n cap
 |_=>true
def bndL (n:Nat):List CV→Bool
 |[]=>true
 |c::l=>match c.bnd n with|true=>bndL n l|false=>false
end
def Pc.bnd (n:Nat):Pc→Bool
 | .c x=>x.bnd n
 | .agg l=>bndL n l
def zyg (n:Nat):List Pc→Bool
 |[]=>true
 |c::l=>match c.bnd n with|true=>zyg n l|false=>false
def AV.bnd (n:Nat):AV→Bool
 | .p x=>x.bnd n
 | .tup l=>zyg n l
def Fr.bnd (n:Nat):Fr→Bool
 |[]=>true
 |(_,x)::f=>match x.bnd n with|true=>Fr.bnd n f|false=>false
def Env.agree (n:Nat) (a b:Env):Prop:=∀ i,i<n→a.blk i=b.blk i∧a.val i=b.val i
mutual
theorem CV.den_agree {n:Nat} {a b:Env} (h:a.agree n b):∀ (c:CV) (u:Value),c.bnd n=true→c.den a u→c.den b u
 | .v x,u,_,hd=>by simpa only [CV.den] using hd
 | .ref i off,u,hb,hd=>by
  simp only [CV.den] at hd⊢;obtain ⟨x,hx,hu⟩:=hd;exact ⟨x,by rw [← (h i (by simpa [CV.bnd,Nat.blt_eq] using hb)).1];exact hx,hu⟩
 | .vref i off,u,hb,hd=>by
  simp only [CV.den] at hd⊢;obtain ⟨x,o,m,c,hx,hu⟩:=hd;exact ⟨x,o,m,c,by rw [← (h i (by simpa [CV.bnd,Nat.blt_eq] using hb)).2];exact hx,hu⟩
 | .row i,u,hb,hd=>by
  simp only [CV.den] at hd⊢;rw [← (h i (by simpa [CV.bnd,Nat.blt_eq] using hb)).2];exact hd
 | .sl i off m c,u,hb,hd=>by
  simp only [CV.den] at hd⊢;obtain ⟨x,hx,hu⟩:=hd;exact ⟨x,by rw [← (h i (by simpa [CV.bnd,Nat.blt_eq] using hb)).1];exact hx,hu⟩
 | .mp i,u,hb,hd=>by
  simp only [CV.den] at hd⊢;obtain ⟨x,hx,hu⟩:=hd;exact ⟨x,by rw [← (h i (by simpa [CV.bnd,Nat.blt_eq] using hb)).1];exact hx,hu⟩
 | .clo f cap,u,hb,hd=>by
  simp only [CV.den] at hd⊢;obtain ⟨us,hu,hl⟩:=hd;exact ⟨us,hu,zid h cap us (by simpa only [CV.bnd] using hb) hl⟩
 | .any,u,_,hd=>by simp only [CV.den]
theorem zid {n:Nat} {a b:Env} (h:a.agree n b):∀ (l:List CV) (us:List Value),bndL n l=true→denL a l us→denL b l us
 |[],us,_,hd=>by simpa only [denL] using hd
 |c::cs,us,hb,hd=>by
  simp only [denL] at hd⊢;obtain ⟨u,l,hu,hc,hl⟩:=hd;simp only [bndL] at hb
  split at hb
  ·rename_i h1;exact ⟨u,l,hu,CV.den_agree h c u h1 hc,zid h cs l hb hl⟩
  ·cases hb
end
theorem Pc.den_agree {n:Nat} {a b:Env} (h:a.agree n b):∀ (c:Pc) (u:Value),c.bnd n=true→c.den a u→c.den b u
 | .c x,u,hb,hd=>CV.den_agree h x u hb hd
 | .agg l,u,hb,hd=>by obtain ⟨us,hu,hl⟩:=hd;exact ⟨us,hu,zid h l us hb hl⟩
theorem zyl {n:Nat} {a b:Env} (h:a.agree n b):∀ (l:List Pc) (us:List Value),zyg n l=true→zyk a l us→zyk b l us
 |[],us,_,hd=>hd
 |c::cs,us,hb,hd=>by
  obtain ⟨u,l,hu,hc,hl⟩:=hd;simp only [zyg] at hb
  split at hb
  ·rename_i h1;exact ⟨u,l,hu,Pc.den_agree h c u h1 hc,zyl h cs l hb hl⟩
  ·cases hb
theorem AV.den_agree {n:Nat} {a b:Env} (h:a.agree n b):∀ (c:AV) (u:Value),c.bnd n=true→c.den a u→c.den b u
 | .p x,u,hb,hd=>Pc.den_agree h x u hb hd
 | .tup l,u,hb,hd=>by obtain ⟨us,hu,hl⟩:=hd;exact ⟨us,hu,zyl h l us hb hl⟩
theorem Fr.bnd_get {n:Nat}:∀ {f:Fr} (k:Nat),f.bnd n=true→(f.get k).bnd n=true
 |[],k,_=>rfl
 |(d,x)::f,k,h=>by
  simp only [Fr.bnd] at h
  split at h
  ·rename_i h1
   simp only [Fr.get]
   split
   ·exact h1
   ·exact Fr.bnd_get k h
  ·cases h
theorem FDen.agree {n:Nat} {a b:Env} {f:Fr} {x:Act} (h:FDen a f x) (hab:a.agree n b) (hb:f.bnd n=true):FDen b f x:=
 fun k=>AV.den_agree hab _ _ (Fr.bnd_get k hb) (h k)
mutual
def CV.names (i:Nat):CV→Bool
 | .ref j _=>Nat.beq i j
 | .vref j _=>Nat.beq i j
 | .row j=>Nat.beq i j
 | .sl j _ _ _=>Nat.beq i j
 | .mp j=>Nat.beq i j
 | .clo _ cap=>zut i cap
 |_=>false
def zut (i:Nat):List CV→Bool
 |[]=>false
 |c::l=>match c.names i with|true=>true|false=>zut i l
end
abbrev But (i:Nat) (a b:Env):Prop:=∀ j,j≠i→a.blk j=b.blk j∧a.val j=b.val j
mutual
theorem CV.den_but {i:Nat} {a b:Env} (h:But i a b):∀ (c:CV) (u:Value),c.names i=false→c.den a u→c.den b u
 | .v x,u,_,hd=>by simpa only [CV.den] using hd
 | .ref j off,u,hb,hd=>by
  have hj:j≠i:=fun e=>by subst e;simp [CV.names] at hb
  simp only [CV.den] at hd⊢;obtain ⟨x,hx,hu⟩:=hd;exact ⟨x,by rw [← (h j hj).1];exact hx,hu⟩
 | .vref j off,u,hb,hd=>by
  have hj:j≠i:=fun e=>by subst e;simp [CV.names] at hb
  simp only [CV.den] at hd⊢;obtain ⟨x,o,m,c,hx,hu⟩:=hd;exact ⟨x,o,m,c,by rw [← (h j hj).2];exact hx,hu⟩
 | .row j,u,hb,hd=>by
  have hj:j≠i:=fun e=>by subst e;simp [CV.names] at hb
  simp only [CV.den] at hd⊢;rw [← (h j hj).2];exact hd
 | .sl j off m c,u,hb,hd=>by
  have hj:j≠i:=fun e=>by subst e;simp [CV.names] at hb
  simp only [CV.den] at hd⊢;obtain ⟨x,hx,hu⟩:=hd;exact ⟨x,by rw [← (h j hj).1];exact hx,hu⟩
 | .mp j,u,hb,hd=>by
  have hj:j≠i:=fun e=>by subst e;simp [CV.names] at hb
  simp only [CV.den] at hd⊢;obtain ⟨x,hx,hu⟩:=hd;exact ⟨x,by rw [← (h j hj).1];exact hx,hu⟩
 | .clo f cap,u,hb,hd=>by
  simp only [CV.den] at hd⊢;obtain ⟨us,hu,hl⟩:=hd;exact ⟨us,hu,zig h cap us (by simpa only [CV.names] using hb) hl⟩
 | .any,u,_,hd=>by simp only [CV.den]
theorem zig {i:Nat} {a b:Env} (h:But i a b):∀ (l:List CV) (us:List Value),zut i l=false→denL a l us→denL b l us
 |[],us,_,hd=>by simpa only [denL] using hd
 |c::cs,us,hb,hd=>by
  simp only [denL] at hd⊢;obtain ⟨u,l,hu,hc,hl⟩:=hd;simp only [zut] at hb
  split at hb
  ·cases hb
  ·rename_i h1;exact ⟨u,l,hu,CV.den_but h c u h1 hc,zig h cs l hb hl⟩
end
def CV.kill (i:Nat) (c:CV):CV:=match c.names i with|true=> .any|false=>c
theorem CV.kill_den {i:Nat} {a b:Env} (h:But i a b) {c:CV} {u:Value} (hd:c.den a u):(c.kill i).den b u:=by
 unfold CV.kill
 split
 ·simp only [CV.den]
 ·rename_i hn;exact CV.den_but h c u hn hd
def zsj (i:Nat):List CV→List CV
 |[]=>[]
 |c::l=>c.kill i::zsj i l
theorem zsk {i:Nat} {a b:Env} (h:But i a b):∀ {l:List CV} {us:List Value},denL a l us→denL b (zsj i l) us
 |[],us,hd=>by simpa only [zsj,denL] using hd
 |c::l,us,hd=>by
  simp only [zsj,denL] at hd⊢;obtain ⟨u,m,hu,hc,hl⟩:=hd;exact ⟨u,m,hu,CV.kill_den h hc,zsk h hl⟩
def Pc.kill (i:Nat):Pc→Pc
 | .c x=> .c (x.kill i)
 | .agg l=> .agg (zsj i l)
theorem Pc.kill_den {i:Nat} {a b:Env} (h:But i a b) {c:Pc} {u:Value} (hd:c.den a u):(c.kill i).den b u:=by
 cases c with
 |c x=>exact CV.kill_den (c:=x) h hd
 |agg l=>obtain ⟨us,hu,hl⟩:=hd;exact ⟨us,hu,zsk h hl⟩
def zyt (i:Nat):List Pc→List Pc
 |[]=>[]
 |c::l=>c.kill i::zyt i l
theorem zyu {i:Nat} {a b:Env} (h:But i a b):∀ {l:List Pc} {us:List Value},zyk a l us→zyk b (zyt i l) us
 |[],us,hd=>hd
 |c::l,us,hd=>by obtain ⟨u,m,hu,hc,hl⟩:=hd;exact ⟨u,m,hu,Pc.kill_den h hc,zyu h hl⟩
def AV.kill (i:Nat):AV→AV
 | .p x=> .p (x.kill i)
 | .tup l=> .tup (zyt i l)
theorem AV.kill_den {i:Nat} {a b:Env} (h:But i a b) {c:AV} {u:Value} (hd:c.den a u):(c.kill i).den b u:=by
 cases c with
 |p x=>exact Pc.kill_den (c:=x) h hd
 |tup l=>obtain ⟨us,hu,hl⟩:=hd;exact ⟨us,hu,zyu h hl⟩
def Fr.kill (i:Nat):Fr→Fr
 |[]=>[]
 |(d,x)::f=>(d,x.kill i)::Fr.kill i f
theorem Fr.kill_get {i:Nat}:∀ (f:Fr) (k:Nat),(Fr.kill i f).get k=(f.get k).kill i
 |[],k=>rfl
 |(d,x)::f,k=>by simp only [Fr.kill,Fr.get];split<;>first|rfl|exact Fr.kill_get f k
theorem FDen.kill {i:Nat} {a b:Env} {f:Fr} {x:Act} (hd:FDen a f x) (h:But i a b):FDen b (Fr.kill i f) x:=fun k=>by
 rw [Fr.kill_get];exact AV.kill_den h (hd k)
def Ow.kill (i:Nat):Ow→Ow
 | .cells t l=> .cells t (zsj i l)
 |o=>o
def zsl (i:Nat):List Ow→List Ow
 |[]=>[]
 |o::S=>o.kill i::zsl i S
theorem zsm {i:Nat}:∀ (S:List Ow) (k:Nat),(zsl i S)[k]?=(S[k]?).map (Ow.kill i)
 |[],k=>by simp [zsl]
 |o::S,0=>by simp [zsl]
 |o::S,k+1=>by simp [zsl,zsm S k]
theorem zsn {i:Nat}:∀ S:List Ow,(zsl i S).length=S.length
 |[]=>rfl
 |o::S=>by simp [zsl,zsn S]
def Env.set (r:Env) (i:Nat) (b:Option Nat) (v:Option Value):Env:=⟨fun j=>if j=i then b else r.blk j,fun j=>if j=i then v else r.val j⟩
section
variable {w0:World} {G:Gs} {S:List Ow} {r:Env} {w:World}
theorem Rel.le_new (h:Rel w0 G S r w) (b:Option Nat) (v:Option Value):r.le (r.set S.length b v):=by
 refine ⟨fun i x hx=>?_,fun i x hx=>?_⟩
 ·simp only [Env.set];rw [if_neg]
  ·exact hx
  ·rintro rfl;rw [h.outB _ (Nat.le_refl _)] at hx;cases hx
 ·simp only [Env.set];rw [if_neg]
  ·exact hx
  ·rintro rfl;rw [h.outV _ (Nat.le_refl _)] at hx;cases hx
theorem zon {α:Type} {l:List α} {x y:α} {i:Nat} (h:(l++[x])[i]?=some y):(i<l.length∧l[i]?=some y)∨(i=l.length∧x=y):=by
 rw [List.getElem?_append] at h
 split at h
 ·exact .inl ⟨by assumption,h⟩
 ·rename_i hi
  have:i-l.length=0:=by
   rcases Nat.eq_zero_or_pos (i-l.length) with h1|h1
   ·exact h1
   ·rw [List.getElem?_eq_none zV] at h;cases h
  rw [this] at h;simp at h;exact .inr ⟨by omega,h⟩
theorem Rel.snoc (h:Rel w0 G S r w) {w':World} (hb:Below w.heap.size w w') {o:Ow} {b:Option Nat} {v:Option Value} (hnb:∀ x,b=some x→w.heap.size≤x∧x<w'.heap.size) (ho:o.holds (r.set S.length b v) w' S.length):
  Rel w0 G (S++[o]) (r.set S.length b v) w':=by
 have h':=h.below hb;have hle:=h.le_new b v;refine ⟨h'.os,h'.tape,h'.output,h'.size,h'.old,fun i o' hi=>?_,fun i j x hx hy=>?_,fun i x hx=>?_,fun i hi=>?_,fun i hi=>?_,fun i g hg=>hle.blk _ _ (h.first i g hg)⟩
 ·rcases zon hi with ⟨h1,h2⟩|⟨h1,h2⟩
  ·refine Ow.holds_block (Ow.holds_mono hle (h.own i o' h2) (by simp only [Env.set];rw [if_neg zO]) (fun k x hk=>?_)) (fun x hx=>hb.block x ?_) hb.size (fun x hx _=>hb.block x hx)
   ·simp only [Env.set] at hk
    split at hk
    ·exact .inr (hnb x hk).1
    ·exact .inl hk
   ·simp only [Env.set] at hx
    rw [if_neg zO] at hx;exact (h.new i x hx).1
  ·subst h1;subst h2;exact ho
 ·simp only [Env.set] at hx hy
  split at hx<;>split at hy
  ·omega
  ·have h1:=(hnb x hx).1
   have h2:=(h.new _ _ hy).1;omega
  ·have h1:=(hnb x hy).1
   have h2:=(h.new _ _ hx).1;omega
  ·exact h.inj _ _ _ hx hy
 ·simp only [Env.set] at hx
  split at hx
  ·refine ⟨(hnb x hx).2,fun hlt=>?_⟩
   have:=(hnb x hx).1;have:=h.size;omega
  ·exact h'.new i x hx
 ·simp only [Env.set];rw [if_neg (by simp at hi;omega)];exact h.outB i (by simp at hi;omega)
 ·simp only [Env.set];rw [if_neg (by simp at hi;omega)];exact h.outV i (by simp at hi;omega)
theorem Rel.setBlock (h:Rel w0 G S r w) {i b:Nat} (hi:r.blk i=some b) {w':World} (hg:w.grownBy w' (some b)) {o:Ow} (ho:o.holds r w' i) (hil:i<S.length):Rel w0 G (S.set i o) r w':=by
 refine ⟨hg.os.trans h.os,hg.tape.trans h.tape,hg.output.trans h.output,Nat.le_trans h.size hg.size,fun k hk hkG=>?_,fun j o' hj=>?_,h.inj,fun j x hx=>⟨Nat.lt_of_lt_of_le (h.new j x hx).1 hg.size,(h.new j x hx).2⟩,
  fun j hj=>h.outB j (by simpa using hj),fun j hj=>h.outV j (by simpa using hj),h.first⟩
 ·rw [hg.block k (Nat.lt_of_lt_of_le hk h.size) (fun e=>by injection e with e;subst e;exact hkG ((h.new i k hi).2 hk))]
  exact h.old k hk hkG
 ·by_cases hij:i=j
  ·subst hij
   rw [List.getElem?_set_self hil] at hj;injection hj with hj;subst hj;exact ho
  ·rw [List.getElem?_set_ne hij] at hj
   exact Ow.holds_block (h.own j o' hj) (fun x hx=>hg.block x (h.new j x hx).1 (fun e=>by injection e with e;subst e;exact hij (h.inj i j _ hi hx))) hg.size (fun x hx hno=>hg.block x hx (fun e=>by injection e with e;subst e;exact hno i hi))
end
theorem zdt (m v:Nat) (hm:m<4294967296):(bits .and .u32 ((m:Int)/2^v) 1==0)= !(m.testBit v):=by
 have e1:(m:Int)/2^v=((m/2^v:Nat):Int):=(by simp);have e2:m/2^v<4294967296:=Nat.lt_of_le_of_lt (Nat.div_le_self _ _) hm;have e3:=u32_and_nat (m/2^v) 1 e2 zO;rw [e1,show (1:Int)=((1:Nat):Int) from rfl,e3,Nat.and_one_is_mod,Nat.testBit_eq_decide_div_mod_eq];have e4:m/2^v%2<2:=Nat.mod_lt _ zO
 rcases (by omega:m/2^v%2=0∨m/2^v%2=1) with h|h<;>simp [h]
theorem zds (m d:Nat) (hm:m<4294967296) (hd:d<32):bits .or .u32 (m:Int) (2^d%4294967296)=((m|||2^d:Nat):Int):=by
 have h1:2^d<2^32:=Nat.pow_lt_pow_right zO hd
 have h2:2^d<4294967296:=by simpa using h1
 have e1:(2:Int)^d%4294967296=((2^d:Nat):Int):=by
  rw [show (2:Int)^d=((2^d:Nat):Int) by simp]
  obtain ⟨q,hq⟩:∃ q,2^d=q:=⟨_,rfl⟩
  rw [hq] at h2⊢;omega
 rw [e1];exact u32_or_nat m (2^d) hm h2
theorem z1j {o:BOp} (hf:znn o=true):∀ x∈reads o,0≤x∧x<28:=by
 obtain ⟨hI,hd,ha,hb,hN⟩:=zns hf;intro x hx;unfold reads at hx;rw [List.mem_append] at hx;rcases hx with hx|hx
 ·split at hx
  ·rename_i h
   rw [h] at ha;simp [zlz] at ha hx;subst hx;omega
  ·simp at hx
 ·split at hx
  ·rename_i h
   simp only [Bool.and_eq_true] at h;rw [h.1] at hb;simp [zlz] at hb hx;subst hx;omega
  ·simp at hx
theorem ybu {o:BOp} (hf:znn o=true):writes o<28:=by
 obtain ⟨hI,hd,ha,hb,hN⟩:=zns hf;unfold writes
 split
 ·rename_i h
  rw [h] at hd;simp [zlz] at hd;omega
 ·omega
def z38 {α:Type}:List α→Nat→List α→List α
 |l,_,[]=>l
 |l,off,c::cs=>z38 (l.set off c) (off+1) cs
theorem z4a {α:Type}:∀ (cs l:List α) (off:Nat),(z38 l off cs).length=l.length
 |[],_,_=>rfl
 |c::cs,l,off=>by rw [z38,z4a cs];simp
theorem zio {r:Env}:∀ {cs:List CV} {vs:List Value} {l:List CV} {us:List Value} (off:Nat),denL r cs vs→denL r l us→denL r (z38 l off cs) (z38 us off vs)
 |[],vs,l,us,off,h,hl=>by simp only [denL] at h;subst h;exact hl
 |c::cs,vs,l,us,off,h,hl=>by
  simp only [denL] at h;obtain ⟨u,m,hu,hc,hm⟩:=h;subst hu;exact zio (off+1) hm (zin off hl hc)
theorem znf:∀ (vs:List Value) (cs:Array Value) (off k:Nat),((vs.zipIdx k).foldl (fun cs (c,j)=>cs.setIfInBounds (off+j) c) cs).toList=z38 cs.toList (off+k) vs
 |[],cs,off,k=>rfl
 |v::vs,cs,off,k=>by
  simp only [List.zipIdx_cons,List.foldl_cons,z38];rw [znf vs _ off (k+1)];simp [Nat.add_assoc]
def CV.one:CV→Bool
 | .v (.agg _)=>false
 | .v (.tuple _)=>false
 | .v _=>true
 | .any=>false
 | .row _=>false
 |_=>true
theorem zfr {u:Value} (h:∀ cs,u≠ .agg cs):u.cells= #[u]:=by
 unfold Value.cells
 split
 ·rename_i cs;exact absurd rfl (h cs)
 ·rfl
def AV.okCells (S:List Ow):AV→Option (List CV)
 | .p (.c c)=>(match c with
  | .row i=>(match S[i]? with|some (.row ..)=>some [c]|some (.view ..)=>some [c]|_=>none)
  |c=>(match c.one with|true=>some [c]|false=>none))
 | .p (.agg l)=>some l
 | .tup _=>none
theorem z2b {w:World} {base:Nat} {e:TypeId} {size n:Nat} {v:Value} {xs:List Value} (h:w.ownsRow base e size v n xs):∃ A c,v= .slice A n c:=by
 rcases h.2 with ⟨h0,hn⟩|⟨g,cap,cur,hv,_⟩
 ·subst hn;exact ⟨_,_,h0⟩
 ·exact ⟨_,_,hv⟩
theorem zwi {r:Env} {c:CV} {u:Value} (h:c.one=true) (hd:c.den r u):(∀ cs,u≠ .agg cs)∧(∀ cs,u≠ .tuple cs):=by
 cases c with
 |v x=>simp only [CV.den] at hd;subst hd;cases u<;>simp [CV.one] at h<;>exact ⟨nofun,nofun⟩
 |ref i off=>simp only [CV.den] at hd;obtain ⟨b,_,rfl⟩:=hd;exact ⟨nofun,nofun⟩
 |vref i off=>simp only [CV.den] at hd;obtain ⟨b,o,n,c,_,rfl⟩:=hd;exact ⟨nofun,nofun⟩
 |row i=>simp [CV.one] at h
 |sl i off n c=>simp only [CV.den] at hd;obtain ⟨b,_,rfl⟩:=hd;exact ⟨nofun,nofun⟩
 |mp i=>simp only [CV.den] at hd;obtain ⟨b,_,rfl⟩:=hd;exact ⟨nofun,nofun⟩
 |clo f cap=>simp only [CV.den] at hd;obtain ⟨us,rfl,_⟩:=hd;exact ⟨nofun,nofun⟩
 |any=>simp [CV.one] at h
theorem zwa {w0:World} {G:Gs} {S:List Ow} {r:Env} {w:World} (hR:Rel w0 G S r w) {x:AV} {cs:List CV} (h:x.okCells S=some cs) {u:Value} (hd:x.den r u):denL r cs u.cells.toList:=by
 unfold AV.okCells at h
 split at h
 ·rename_i c
  split at h
  ·rename_i i
   split at h
   ·rename_i hi
    injection h with h;subst h;simp only [AV.den,Pc.den,CV.den] at hd;obtain ⟨v,h1,h2,h3⟩:=hR.own i _ hi;rw [hd] at h1;injection h1 with h1;subst h1;obtain ⟨A,c',hs⟩:=z2b h3;subst hs;simp only [Value.cells,denL];exact ⟨_,_,rfl,by simpa only [CV.den] using hd,rfl⟩
   ·rename_i hi
    injection h with h;subst h;simp only [AV.den,Pc.den,CV.den] at hd;obtain ⟨A,c',h1,_⟩:=hR.own i _ hi;rw [hd] at h1;injection h1 with h1;subst h1;simp only [Value.cells,denL];exact ⟨_,_,rfl,by simpa only [CV.den] using hd,rfl⟩
   ·cases h
  ·split at h
   ·rename_i ho
    injection h with h;subst h;simp only [AV.den,Pc.den] at hd;rw [zfr (zwi ho hd).1];simp only [denL];exact ⟨u,[],rfl,hd,rfl⟩
   ·cases h
 ·rename_i l
  injection h with h;subst h;obtain ⟨us,rfl,hl⟩:=hd
  simpa [Value.cells] using hl
 ·cases h
def zl8 (P:Program) (S:List Ow) (f:Fr) (place:Nat→Option (Nat×Nat)):List (Nat×Operand)→List CV→Option (List CV)
 |[],cells=>some cells
 |(i,x)::rest,cells=>match place i with
  |some (off,size)=>(match (f.ev x).okCells S with
   |some cs=>(match Nat.beq cs.length size with|true=>(match Nat.ble (off+size) cells.length with|true=>zl8 P S f place rest (z38 cells off cs)|false=>none)|false=>none)
   |none=>none)
  |none=>none
theorem zl9 {P:Program} {w0:World} {G:Gs} {S:List Ow} {r:Env} {w:World} (hR:Rel w0 G S r w) {f:Fr} {a:Act} (hf:FDen r f a) {place:Nat→Option (Nat×Nat)}:
  ∀ (parts:List (Nat×Operand)) (cells m:List CV) (us:List Value),zl8 P S f place parts cells=some m→denL r cells us→
   ∃ vs:List Value,Instr.fill place us.toArray (parts.map fun p=>(p.1,a.eval p.2))=some vs.toArray∧denL r m vs
 |[],cells,m,us,h,hl=>by injection h with h;subst h;exact ⟨us,rfl,hl⟩
 |(i,x)::rest,cells,m,us,h,hl=>by
  unfold zl8 at h
  split at h
  ·rename_i off size hp
   split at h
   ·rename_i cs hcs
    split at h
    ·rename_i hz
     split at h
     ·rename_i hle
      have hd:=zwa hR hcs (hf.ev x);have hlen:=zik hd;have e1:cs.length=size:=Nat.eq_of_beq_eq_true hz;have e2:off+size≤cells.length:=Nat.le_of_ble_eq_true hle;have e3:=zik hl;obtain ⟨vs,hv,hm⟩:=zl9 hR hf rest _ m (z38 us off (a.eval x).cells.toList) h (zio off hd hl);refine ⟨vs,?_,hm⟩;have hsz:(a.eval x).cells.size=size:=(by rw [← Array.length_toList,hlen,e1]);simp only [List.map_cons,Instr.fill,hp];rw [if_neg (by simp only [Bool.or_eq_true,decide_eq_true_eq,not_or];refine ⟨fun h=>h hsz,by simp;omega⟩)];rw [← hv]
      congr 1
      apply Array.ext';have:=znf (a.eval x).cells.toList us.toArray off 0;simp only [Nat.add_zero] at this;rw [← this]
      congr 1
      rw [← Array.foldl_toList]
      congr 1
      simp
     ·cases h
    ·cases h
   ·cases h
  ·cases h
def zl0 (P:Program) (fs:Array Field) (k:Nat):Option (Nat×Nat):=match fs[k]? with|some f=>(match P.info? f.type with|some i=>some (f.offset,i.size)|none=>none)|none=>none
def za7 (P:Program):List Field→Bool
 |[]=>true
 |f::fs=>match P.info? f.type with|some _=>za7 P fs|none=>false
theorem zto {P:Program} (w:World):∀ fs:List Field,za7 P fs=true→
  ∃ ps:List (Nat×Nat),(fs.mapM fun f=>(do pure (f.offset, ← sizeOf f.type):Sem (Nat×Nat))).run P w= .ok ps w∧∀ k:Nat,ps[k]?=zl0 P fs.toArray k
 |[],_=>⟨[],by simp,fun k=>by simp [zl0]⟩
 |f::fs,h=>by
  unfold za7 at h
  split at h
  ·rename_i i hi
   obtain ⟨ps,h1,h2⟩:=zto w fs h;refine ⟨(f.offset,i.size)::ps,?_,fun k=>?_⟩
   ·simp only [List.mapM_cons,Sem.run_bind,z2r P f.type w hi,Result.andThen_ok,Sem.run_pure,h1]
   ·cases k with
    |zero=>simp [zl0,hi]
    |succ k=>simpa [zl0] using h2 k
  ·cases h
def zee (P:Program) (S:List Ow) (f:Fr) (t:TypeId) (parts:Array (Nat×Operand)) (K:AV→Prop):Prop:=
 match P.underlying t,P.info? t with
 |some (.struct fs),some i=>(match i.zero with
  |some z=>(match za7 P fs.toList with
   |true=>(match zl8 P S f (zl0 P fs) parts.toList (z.cells.toList.map .v) with|some m=>znk i.size m fun m=>K (.p (.agg m))|none=>False)
   |false=>False)
  |none=>False)
 |some (.array _ e),some i=>(match i.zero,P.info? e with
  |some z,some ie=>(match zl8 P S f (fun k=>some (k*ie.size,ie.size)) parts.toList (z.cells.toList.map .v) with|some m=>znk i.size m fun m=>K (.p (.agg m))|none=>False)
  |_,_=>False)
 |_,_=>False
theorem zef {P:Program} {w0:World} {G:Gs} {S:List Ow} {r:Env} {w:World} (hR:Rel w0 G S r w) {f:Fr} {a:Act} (hf:FDen r f a) {t:TypeId} {parts:Array (Nat×Operand)} {K:AV→Prop} (h:zee P S f t parts K):
  ∃ v u,K v∧v.den r u∧∀ w:World,(Instr.build t (parts.map fun (i,x)=>(i,a.eval x))).run P w= .ok u w:=by
 unfold zee at h
 split at h
 ·rename_i fs i hu hi
  split at h
  ·rename_i z hz
   split at h
   ·rename_i hall
    split at h
    ·rename_i m hm
     obtain ⟨vs,hv,hd⟩:=zl9 hR hf parts.toList _ m z.cells.toList hm (zir _);refine ⟨_,.agg vs.toArray,znl.1 h,⟨vs,rfl,hd⟩,fun w=>?_⟩;obtain ⟨ps,h1,h2⟩:=zto w fs.toList hall;have h2':(fun k=>ps.toArray[k]?)=zl0 P fs:=(by funext k;simpa using h2 k);have e1:(parts.map fun (i,x)=>(i,a.eval x)).toList=parts.toList.map fun p=>(p.1,a.eval p.2):=(by simp);simp only [Instr.build,zeroValue,typeInfo,underlying,Sem.run_bind,run_program,Result.andThen_ok,hi,hu,hz,Sem.run_pure,Array.mapM_eq_mapM_toList,Sem.run_map,h1,h2',e1];rw [show z.cells=z.cells.toList.toArray by simp,hv]
     rfl
    ·exact h.elim
   ·exact h.elim
  ·exact h.elim
 ·rename_i n e i hu hi
  split at h
  ·rename_i z ie hz hie
   split at h
   ·rename_i m hm
    obtain ⟨vs,hv,hd⟩:=zl9 hR hf parts.toList _ m z.cells.toList hm (zir _);refine ⟨_,.agg vs.toArray,znl.1 h,⟨vs,rfl,hd⟩,fun w=>?_⟩;have e1:(parts.map fun (i,x)=>(i,a.eval x)).toList=parts.toList.map fun p=>(p.1,a.eval p.2):=(by simp);have e2:=z2r P e w hie;simp only [Instr.build,zeroValue,typeInfo,underlying,Sem.run_bind,run_program,Result.andThen_ok,hi,hu,hz,Sem.run_pure,e1,e2];rw [show z.cells=z.cells.toList.toArray by simp,hv]
    rfl
   ·exact h.elim
  ·exact h.elim
 ·exact h.elim
def qop (P:Program) (w0:World) (G:Gs) (S:List Ow) (f:Fr) (o:Oper) (K:AV→Prop):Prop:=
 match o.op with
 | .move x=>(match f.ev x with| .p (.c c)=>K (.p (.c c))| .p (.agg l)=>K (.p (.agg l))| .tup l=>K (.tup l))
 | .assign x=>(match f.ev x with| .p (.c c)=>K (.p (.c c))| .p (.agg l)=>K (.p (.agg l))| .tup l=>K (.tup l))
 | .pick c x y=>(match f.ev c with
  | .p (.c (.v (.bool b)))=>(match f.ev x with
   | .p (.c (.v (.bool p)))=>(match f.ev y with
    | .p (.c (.v (.bool q)))=>K (one (.bool (bif b then p else q)))
    |v=>(match b with|true=>K (one (.bool p))|false=>K v))
   |u=>(match b with|true=>K u|false=>K (f.ev y)))
  |_=>False)
 | .load t x=>zta P w0 G S t (f.ev x) K
 | .nilCheck x=>(match f.ev x with
  | .p (.c (.ref i off))=>K (.p (.c (.ref i off)))
  | .p (.c (.clo (.func fn) cap))=>K (.p (.c (.clo (.func fn) cap)))
  | .p (.c (.v (.pointer (some p))))=>K (one (.pointer (some p)))
  |_=>QRun P w0 G S f o K)
 | .binOp op _ x y _=>(match f.ev x with
  | .p (.c (.v (.int k a)))=>(match f.ev y with
   | .p (.c (.v (.int k' b)))=>(match op with
    | .shl=>z5f .shl k a b fun u=>K (one u)
    | .shr=>z5f .shr k a b fun u=>K (one u)
    |op=>(match decide (k=k') with|true=>binK op k a b fun u=>K (one u)|false=>False))
   |_=>QRun P w0 G S f o K)
  |_=>QRun P w0 G S f o K)
 | .unOp op _ x=>(match op,f.ev x with
  | .not,.p (.c (.v (.bool a)))=>K (one (.bool (!a)))
  |_,_=>QRun P w0 G S f o K)
 | .convert src dst x=>(match f.ev x with
  | .p (.c (.v (.int _ n)))=>(match P.underlying src with
   |some (.int _)=>(match P.underlying dst with
    |some (.int k)=>∃ m,k.wrap n=m∧K (one (.int k m))
    |_=>QRun P w0 G S f o K)
   |_=>QRun P w0 G S f o K)
  |_=>QRun P w0 G S f o K)
 | .fieldAddr s x k=>(match f.ev x with
  | .p (.c (.ref i off))=>(match zm7 P s k with|some n=>K (.p (.c (.ref i (off+n))))|none=>False)
  | .p (.c (.v (.pointer (some ⟨b,off,none⟩))))=>(match zm7 P s k with|some n=>K (one (.pointer (some ⟨b,off+n,none⟩)))|none=>False)
  |_=>False)
 | .field t x k=>(match f.ev x with| .p (.agg l)=>fldK P t l k K|_=>False)
 | .extract x k=>(match f.ev x with
  | .tup l=>(match l[k]? with|some p=>K (.p p)|none=>False)
  |_=>False)
 | .build t parts=>zee P S f t parts K
 | .makeFunc (.func fn) first cap=>(match first.toList with
  |[]=>(match cap.toList with
   |[]=>K (.p (.c (.clo (.func fn) [])))
   |[x]=>(match f.ev x with| .p (.c c)=>K (.p (.c (.clo (.func fn) [c])))|_=>False)
   |_=>QRun P w0 G S f o K)
  |_=>QRun P w0 G S f o K)
 | .indexAddr t x ix=>(match f.ev x with
  | .p (.c (.v (.slice (some ⟨b,off,none⟩) n _)))=>(match f.ev ix with
   | .p (.c (.v (.int _ k)))=>(match P.underlying t with
    |some (.slice e)=>(0≤k∧k<(n:Int))∧K (one (.pointer (some ⟨b,off+k.toNat*tsz P e,none⟩)))
    |_=>False)
   |_=>False)
  | .p (.c (.row i))=>(match f.ev ix with
   | .p (.c (.v (.int _ k)))=>(match P.underlying t with
    |some (.slice e)=>(match S[i]? with
     |some (.row _ _ n _)=>(0≤k∧k<(n:Int))∧K (.p (.c (.ref i (k.toNat*tsz P e))))
     |some (.view _ n xs)=>(0≤k∧k<(n:Int)∧0<xs.length)∧K (.p (.c (.vref i (k.toNat*tsz P e))))
     |_=>False)
    |_=>False)
   |_=>False)
  | .p (.c (.sl i off n _))=>(match f.ev ix with
   | .p (.c (.v (.int _ k)))=>(match P.underlying t with
    |some (.slice e)=>(0≤k∧k<(n:Int))∧K (.p (.c (.ref i (off+k.toNat*tsz P e))))
    |_=>False)
   |_=>False)
  | .p (.c (.ref i off))=>(match f.ev ix with
   | .p (.c (.v (.int _ k)))=>(match P.underlying t with
    |some (.array n e)=>(0≤k∧k<(n:Int))∧K (.p (.c (.ref i (off+k.toNat*tsz P e))))
    |_=>False)
   |_=>False)
  |_=>QRun P w0 G S f o K)
 | .index t x ix=>(match f.ev x with
  | .p (.agg l)=>(match f.ev ix with
   | .p (.c (.v (.int _ k)))=>(match P.underlying t with
    |some (.array n e)=>(0≤k∧k<(n:Int))∧getK P e l (k.toNat*tsz P e) K
    |_=>False)
   |_=>False)
  |_=>QRun P w0 G S f o K)
 | .call ⟨.builtin .len,args,tys⟩=>(match args.toList with
  |[x]=>(match tys.toList with
   |[t]=>(match P.underlying t with
    |some (.slice _)=>(match f.ev x with
     | .p (.c (.v (.slice _ n _)))=>K (one (.int .i64 n))
     | .p (.c (.sl _ _ n _))=>K (one (.int .i64 n))
     | .p (.c (.row i))=>(match S[i]? with|some (.row _ _ n _)=>K (one (.int .i64 n))|some (.view _ n _)=>K (one (.int .i64 n))|_=>False)
     |_=>False)
    |_=>QRun P w0 G S f o K)
   |_=>False)
  |_=>False)
 |_=>QRun P w0 G S f o K
end Go.Proofs.YtocafomnnkmjfaaGreat
