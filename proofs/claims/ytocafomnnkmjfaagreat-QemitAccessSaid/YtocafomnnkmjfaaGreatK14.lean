import Derived.Test.YtocafomnnkmjfaaGreatK13
namespace Go.Proofs.YtocafomnnkmjfaaGreat
open Go.RowKit
def segA (acc:List BOp) (o:BOp):List BOp:=if o.code=20 then [o] else acc++[o]
def segF (l:List BOp):List BOp:=l.foldl segA []
def ordB (acc:List BOp) (o:BOp):Bool:=(reads o).all (zsp acc)&&(!leaves o.code||zn9 acc)
def run2:Nat→List BOp→List BOp→Option Nat
 |m,_,[]=>some m
 |m,acc,o::l=>match z48 m o l with|some m'=>(if (o.code==20||ordB acc o)=true then run2 m' (segA acc o) l else none)|none=>none
theorem z8r {l:List BOp} {k:Nat} {o:BOp} (h:l[k]?=some o):l.take (k+1)=l.take k++[o]:=by rw [List.take_add_one,h];rfl
theorem z33 {l:List BOp}:∀ (i:Nat) {o:BOp},l[i]?=some o→o.code≠20→seg l i=segF (l.take i)
 |0,o,h,hc=>by simp [seg,segF]
 |k+1,o,h,hc=>by
  have hk:k<l.length:=by
   rcases Nat.lt_or_ge (k+1) l.length with h1|h1
   ·omega
   ·rw [List.getElem?_eq_none h1] at h;cases h
  obtain ⟨p,hp⟩:∃ p,l[k]?=some p:=⟨_,List.getElem?_eq_getElem hk⟩
  have hlen:(l.take k).length=k:=by rw [List.length_take];omega
  have hf:zmn l (k+1)=zmn l k:=by
   show (if _ then _ else _)=_;rw [if_neg (by rw [h];simpa using hc)]
  have hs:segF (l.take (k+1))=segA (segF (l.take k)) p:=(by unfold segF;rw [z8r hp,List.foldl_append];rfl);rw [hs];unfold seg;rw [hf,z8r hp];unfold segA;by_cases hpc:p.code=20
  ·rw [if_pos hpc]
   have hfk:zmn l k=(k:Int):=by
    cases k with
    |zero=>show (if _ then _ else _)=_;rw [if_pos (by rw [hp];simp [hpc])];rfl
    |succ k=>show (if _ then _ else _)=_;rw [if_pos (by rw [hp];simp [hpc])]
   rw [hfk,Int.toNat_natCast,List.drop_append,hlen,Nat.sub_self,List.drop_eq_nil_of_le zO];rfl
  ·rw [if_neg hpc]
   have ih:=z33 k hp hpc;unfold seg at ih;have hle:=zmp l k;rw [List.drop_append_of_le_length (by rw [hlen];omega),ih]
theorem zxk {l:List BOp}:zxi l=true↔∀ i o,l[i]?=some o→(o.code==20||ordB (segF (l.take i)) o)=true:=by
 unfold zxi;rw [List.all_eq_true]
 have key:∀ i o,l[i]?=some o→zxj l i o=(o.code==20||ordB (segF (l.take i)) o):=fun i o ho=>by
  by_cases hc:o.code=20
  ·have h1:(o.code==20)=true:=by simp [hc]
   rw [h1,Bool.true_or];unfold zxj;have e1:reads o=[]:=(by unfold reads;rw [hc];rfl);have e2:leaves o.code=false:=(by rw [hc];rfl);rw [e1,e2];rfl
  ·have h1:(o.code==20)=false:=by simp [hc]
   rw [h1,Bool.false_or];unfold zxj ordB;rw [z33 i ho hc]
 constructor
 ·intro h i o ho
  have hi:i<l.length:=by
   rcases Nat.lt_or_ge i l.length with h1|h1
   ·exact h1
   ·rw [List.getElem?_eq_none h1] at ho;cases ho
  have:=h i (List.mem_range.2 hi);rw [ho] at this;rw [← key i o ho];exact this
 ·intro h i hi
  cases ho:l[i]? with
  |none=>rfl
  |some o=>show zxj l i o=true;rw [key i o ho];exact h i o ho
open Classical in
theorem z2f:∀ (l pre:List BOp) (m:Nat),run2 m (segF pre) l=if (∀ i o,l[i]?=some o→(o.code==20||ordB (segF (pre++l.take i)) o)=true) then z45 m l else none
 |[],pre,m=>by rw [if_pos (by intro i o h;simp at h)];rfl
 |o::l,pre,m=>by
  have ih:=fun m'=>z2f l (pre++[o]) m';have hseg:segF (pre++[o])=segA (segF pre) o:=(by unfold segF;rw [List.foldl_append];rfl);show (match z48 m o l with|some m'=>(if (o.code==20||ordB (segF pre) o)=true then run2 m' (segA (segF pre) o) l else none)|none=>none)=_
  have hiff:(∀ i q,(o::l)[i]?=some q→(q.code==20||ordB (segF (pre++(o::l).take i)) q)=true)↔((o.code==20||ordB (segF pre) o)=true∧∀ i q,l[i]?=some q→(q.code==20||ordB (segF (pre++[o]++l.take i)) q)=true):=by
   constructor
   ·intro h
    refine ⟨by simpa using h 0 o rfl,fun i q hq=>?_⟩;have:=h (i+1) q (by simpa using hq)
    simpa using this
   ·rintro ⟨h1,h2⟩ i q hq
    cases i with
    |zero=>simp at hq;subst hq;simpa using h1
    |succ i=>simpa using h2 i q (by simpa using hq)
  show _=if _ then (match z48 m o l with|some m'=>z45 m' l|none=>none) else none
  cases hst:z48 m o l with
  |none=>simp
  |some m'=>
   show (if _ then run2 m' (segA (segF pre) o) l else none)=if _ then z45 m' l else none
   rw [← hseg,ih m'];by_cases h1:(o.code==20||ordB (segF pre) o)=true
   ·rw [if_pos h1]
    by_cases h2:∀ i q,l[i]?=some q→(q.code==20||ordB (segF (pre++[o]++l.take i)) q)=true
    ·rw [if_pos h2,if_pos (hiff.2 ⟨h1,h2⟩)]
    ·rw [if_neg h2,if_neg (fun h=>h2 (hiff.1 h).2)]
   ·rw [if_neg h1,if_neg (fun h=>h1 (hiff.1 h).1)]
structure CkRel (s:Ck) (m:Nat) (acc:List BOp):Prop where
 marks:s.marks=m
 bits:∀ v:Nat,20≤v→v<28→s.written.testBit v=acc.any fun p=>writes p==(v:Int)
 ch:s.changed= !zn9 acc
theorem z1e {s:Ck} {m:Nat} {acc:List BOp} (h:CkRel s m acc) {o:BOp} (hf:znn o=true):(reads o).all (z02 s)=(reads o).all (zsp acc):=by
 have:∀ v∈reads o,z02 s v=zsp acc v:=fun v hv=>by
  obtain ⟨v0,v1⟩:=z1j hf v hv;unfold z02 zsp;by_cases h20:v<20
  ·simp [h20]
  ·have:=h.bits v.toNat zO zO
   rw [this,show ((v.toNat:Nat):Int)=v by omega]
 rw [Bool.eq_iff_iff,List.all_eq_true,List.all_eq_true];exact ⟨fun h v hv=>by rw [← this v hv];exact h v hv,fun h v hv=>by rw [this v hv];exact h v hv⟩
theorem zgc:∀ (l:List BOp) (s:Ck) (m:Nat) (acc:List BOp),CkRel s m acc→(zf8 s l).map (·.marks)=run2 m acc l
 |[],s,m,acc,h=>by show some s.marks=some m;rw [h.marks]
 |o::l,s,m,acc,h=>by
  have ihl:=zgc l
  show Option.map _ (match zf1 s o l.isEmpty (zlh l) with|some s'=>zf8 s' l|none=>none)=match z48 m o l with|some m'=>(if (o.code==20||ordB acc o)=true then run2 m' (segA acc o) l else none)|none=>none
  by_cases hf':znn o=false
  ·unfold zf1 z48
   rw [hf'];rfl
  have hf:znn o=true:=by simpa using hf'
  by_cases hp':((zjq o.code==l.isEmpty)&& !(o.code==23&& !zlh l))=false
  ·unfold zf1 z48 zyw
   rw [hp',hf,Bool.false_and,Bool.and_false];have:(true&&(zjq o.code==l.isEmpty)&& !(o.code==23&& !zlh l))=false:=(by rw [Bool.true_and];exact hp');rw [this];rfl
  have hp:((zjq o.code==l.isEmpty)&& !(o.code==23&& !zlh l))=true:=by rwa [Bool.not_eq_false] at hp'
  have hsh:z48 m o l=if o.code==20 then (if o.n==(m:Int) then some (m+1) else none) else some m:=by
   unfold z48;rw [if_pos (by rw [hf,Bool.true_and];exact hp)]
  rw [hsh];by_cases hc:o.code=20
  ·have hc':(o.code==20)=true:=by simp [hc]
   have hl:leaves o.code=false:=by rw [hc];rfl
   have hck:zf1 s o l.isEmpty (zlh l)=if o.n==(s.marks:Int) then some ⟨s.marks+1,0,false⟩ else none:=by
    unfold zf1 zyw;rw [hf,hp,hl,hc'];rfl
   rw [hck,h.marks,hc'];simp only [if_true,Bool.true_or];by_cases hn:(o.n==(m:Int))=true
   ·rw [if_pos hn,if_pos hn]
    refine ihl _ _ _ ⟨rfl,fun v v0 v1=>?_,?_⟩
    ·unfold segA
     rw [if_pos hc];have hw:writes o= -1:=(by unfold writes;rw [hc];rfl);have:(writes o==(v:Int))=false:=(by rw [hw,beq_eq_false_iff_ne];omega);simp [this]
    ·unfold segA zn9
     rw [if_pos hc];have hw:writes o= -1:=(by unfold writes;rw [hc];rfl);simp [hw,hc]
   ·rw [if_neg hn,if_neg hn];rfl
  ·have hc':(o.code==20)=false:=by simp [hc]
   rw [hc'];simp only [Bool.false_eq_true,if_false,Bool.false_or]
   have hck:zf1 s o l.isEmpty (zlh l)=if ordB acc o=true then some ⟨s.marks,if 20≤writes o then s.written|||2^(writes o).toNat else s.written,s.changed||(stores o.code||decide (0≤writes o∧writes o<20))⟩ else none:=by
    unfold zf1 zyw ordB;rw [hf,hp,hc',z1e h hf,h.ch]
    cases leaves o.code<;>cases zn9 acc<;>cases (reads o).all (zsp acc)<;>rfl
   rw [hck];by_cases ho:ordB acc o=true
   ·rw [if_pos ho,if_pos ho]
    refine ihl _ _ _ ⟨h.marks,fun v v0 v1=>?_,?_⟩
    ·unfold segA
     rw [if_neg hc,List.any_append, ← h.bits v v0 v1];simp only [List.any_cons,List.any_nil,Bool.or_false]
     split
     ·rename_i hw
      rw [Nat.testBit_or,Nat.testBit_two_pow]
      congr 1
      rw [Bool.eq_iff_iff];simp;omega
     ·rename_i hw
      have:(writes o==(v:Int))=false:=(by rw [beq_eq_false_iff_ne];omega);rw [this,Bool.or_false]
    ·unfold segA
     rw [if_neg hc];show (s.changed||_)= !(List.all (acc++[o]) _);rw [List.all_append,h.ch]
     have h19:writes o≠19:=by
      unfold writes
      split
      ·rename_i hD
       unfold znn at hf;simp only [Bool.and_eq_true] at hf;have hd:=hf.1.1.1.2;rw [hD] at hd;unfold zlz at hd;rw [if_pos rfl,decide_eq_true_eq] at hd;exact hd.2.2
      ·omega
     have e:(stores o.code||decide (0≤writes o∧writes o<20))=(decide (0≤writes o∧writes o≤18)||o.code==18||o.code==19):=by
      unfold stores;rw [Bool.eq_iff_iff];simp;omega
     rw [e];unfold zn9;simp only [List.all_cons,List.all_nil,Bool.and_true,Bool.not_and,Bool.not_not]
   ·rw [if_neg ho,if_neg ho];rfl
theorem z92 (b:Blk):z9s b=z9o b:=by
 unfold z9s z9o
 cases zpo b
 ·rfl
 have h1:=zgc b.ops ⟨0,0,false⟩ 0 [] ⟨rfl,fun v _ _=>by simp,rfl⟩;have h2:=z2f b.ops [] 0;have h3:=zxk (l:=b.ops);rw [show segF []=[] from rfl] at h2;rw [h2] at h1;simp only [List.nil_append] at h1;by_cases ho:zxi b.ops=true
 ·rw [if_pos (h3.1 ho)] at h1
  rw [ho]
  cases hs:zf8 ⟨0,0,false⟩ b.ops with
  |none=>rw [hs] at h1;rw [← h1];rfl
  |some s=>rw [hs] at h1;rw [← h1];rfl
 ·rw [if_neg (fun h=>ho (h3.2 h))] at h1
  have ho':zxi b.ops=false:=by simpa using ho
  rw [ho']
  cases hs:zf8 ⟨0,0,false⟩ b.ops with
  |none=>cases z45 0 b.ops<;>rfl
  |some s=>rw [hs] at h1;cases h1
def z6m (ops:Array Oper) (j:Nat):Option Nat:=(ops[j]?).bind (·.dst)
def z2v (j:Nat) (pol:Bool) (o:Oper):Bool:=match o.guard with
 |some (i,p)=>(match Nat.beq i j with|true=>p==pol|false=>false)
 |none=>false
def z6y (j:Nat) (pol:Bool):List Oper→List Oper×List Oper
 |[]=>([],[])
 |o::l=>match z2v j pol o with|true=>(o::(z6y j pol l).1,(z6y j pol l).2)|false=>([],o::l)
theorem z60 (j:Nat) (pol:Bool):∀ l:List Oper,(z6y j pol l).1++(z6y j pol l).2=l
 |[]=>rfl
 |o::l=>by unfold z6y;split<;>simp [z60 j pol l]
theorem z6z (j:Nat) (pol:Bool):∀ (l:List Oper),∀ o∈(z6y j pol l).1,o.guard=some (j,pol)
 |[],o,h=>by cases h
 |x::l,o,h=>by
  unfold z6y at h
  split at h
  ·rename_i hs
   rcases List.mem_cons.1 h with rfl|h
   ·unfold z2v at hs
    split at hs
    ·rename_i i p hg
     split at hs
     ·rename_i hi
      have:=Nat.eq_of_beq_eq_true hi;rw [hg,this];simp at hs;rw [hs]
     ·cases hs
    ·cases hs
   ·exact z6z j pol l o h
  ·cases h
def zyr (p:Oper) (d:Nat) (pol:Bool):Option Nat:=match p.guard with
 |some _=>none
 |none=>(match p.op with
  | .pick (.tmp c) (.tmp b) (.const (.bool false))=>(match Nat.beq c d with|true=>(match pol with|true=>some b|false=>none)|false=>none)
  | .pick (.tmp c) (.const (.bool true)) (.tmp b)=>(match Nat.beq c d with|true=>(match pol with|false=>some b|true=>none)|false=>none)
  |_=>none)
def cmb (pol x y:Bool):Bool:=match pol with|true=>x&&y|false=>x||y
def zzt:List Oper→Fr→Fr
 |[],f=>f
 |o::l,f=>zzt l (f.put o.dst (.p (.c .any)))
def zzu:List Oper→Fr→(Fr→Prop)→Prop
 |[],f,K=>K f
 |o::l,f,K=>f.putK o.dst (.p (.c .any)) fun f'=>zzu l f' K
theorem zzv:∀ {l:List Oper} {f:Fr} {K:Fr→Prop},zzu l f K↔K (zzt l f)
 |[],_,_=>Iff.rfl
 |o::l,f,K=>by unfold zzu;rw [zze,zzv];rfl
def zi9:List Oper→List Nat
 |[]=>[]
 |o::l=>match o.dst with|some d=>d::zi9 l|none=>zi9 l
def memN (d:Nat):List Nat→Bool
 |[]=>false
 |x::l=>match Nat.beq x d with|true=>true|false=>memN d l
def zwd (ds:List Nat) (f:Fr):Nat→Fr→Prop
 |0,f'=>f'=f
 |_n+1,[]=>False
 |n+1,(d,_)::f'=>match memN d ds with|true=>zwd ds f n f'|false=>False
def za5 (N:Nat):List Oper→Bool
 |[]=>true
 |o::l=>match zi8 N o.dst with|true=>za5 N l|false=>false
def putN:List Oper→Nat
 |[]=>0
 |o::l=>match o.dst with|some _=>putN l+1|none=>putN l
def Ow.bnd (n:Nat):Ow→Bool
 | .cells _ l=>bndL n l
 |_=>true
def sbnd (n:Nat):List Ow→Bool
 |[]=>true
 |o::S=>match o.bnd n with|true=>sbnd n S|false=>false
def zot (G:Gs) (S:List Ow):Bool:=match Nat.ble G.fix.length S.length with|true=>sbnd S.length S|false=>false
section
variable (P:Program) (w0:World) (G:Gs) (N:Nd)
def seqK (d:Nat) (pol:Bool):List Oper→Fr→List Ow→(Fr→List Ow→Prop)→Prop
 |[],f,S,K=>K f S
 |o::l,f,S,K=>match f.get d with
  | .p (.c (.v (.bool y)))=>(match y==pol with|true=>opK P w0 G N o f S fun f' S'=>seqK d pol l f' S' K|false=>False)
  |_=>False
def opsK (ops:Array Oper):Nat→List Oper→Fr→List Ow→(Fr→List Ow→Prop)→Prop
 |_,[],f,S,K=>K f S
 |0,_::_,_,_,_=>False
 |n+1,o::rest,f,S,K=>match o.guard with
  |none=>opK P w0 G N o f S fun f' S'=>opsK ops n rest f' S' K
  |some (j,pol)=>(match z6m ops j with
   |none=>False
   |some d=>(match f.get d with
    | .p (.c (.v (.bool x)))=>(match z6y j pol (o::rest) with
     |(grp,p::rem)=>(match zyr p d pol with
      |some b=>(match za5 N.n grp,zi8 N.n p.dst,memN d (zi9 grp) with
       |true,true,false=>∃ y:Bool,(x=pol→seqK P w0 G N d pol grp ((d,one (.bool pol))::f) S fun f' S'=>zwd (zi9 grp) ((d,one (.bool pol))::f) (putN grp) f'∧S'.take S.length=S∧f'.get b=one (.bool y)∧f.bnd S.length=true∧zot G S=true)∧
        zzu grp f fun f'=>f'.putK p.dst (one (.bool (cmb pol x y))) fun f'=>opsK ops n rem f' S K
       |_,_,_=>False)
      |none=>(x=pol→opK P w0 G N o ((d,one (.bool pol))::f) S fun f' S'=>opsK ops n rest f' S' K)∧
       (x=(!pol)→match zi8 N.n o.dst with|true=>(Fr.putK ((d,one (.bool (!pol)))::f) o.dst (.p (.c .any)) fun f'=>opsK ops n rest f' S K)|false=>False))
     |_=>(x=pol→opK P w0 G N o ((d,one (.bool pol))::f) S fun f' S'=>opsK ops n rest f' S' K)∧
       (x=(!pol)→match zi8 N.n o.dst with|true=>(Fr.putK ((d,one (.bool (!pol)))::f) o.dst (.p (.c .any)) fun f'=>opsK ops n rest f' S K)|false=>False))
    |_=>False))
end
section
variable {P:Program} {w0:World} {G:Gs} {N:Nd} {ops:Array Oper}
theorem ybw {r:Env} {f:Fr} {a:Act} (hf:FDen r f a) {j d:Nat} (hs:z6m ops j=some d) {x:Bool} (hx:f.get d=one (.bool x)):yielded ops a.tmps j=some x:=by
 have h:=hf d;rw [hx] at h;have h:=zi2 h;unfold yielded;unfold z6m at hs;rw [hs]
 have:a.tmps[d]?=some (.bool x):=by
  rw [Array.getD_eq_getD_getElem?] at h
  cases hd:a.tmps[d]? with
  |none=>rw [hd] at h;simp [undef] at h
  |some v=>rw [hd] at h;simp at h;rw [h]
 simp [this]
theorem yal {o:Oper} (h:o.guard=none) (y:Nat→Option Bool):Region.wanted o y=true:=by simp [Region.wanted,h]
theorem yam {o:Oper} {j:Nat} {pol:Bool} (h:o.guard=some (j,pol)) (y:Nat→Option Bool):Region.wanted o y=(y j==some pol):=by simp [Region.wanted,h]
theorem z7g {o:Oper} {rest:List Oper} {Q:Act→World→Prop} {a:Act} {w:World} (hw:Region.wanted o (yielded ops a.tmps)=true) (h:Oper.se P o a w (seL P ops Q rest)):seL P ops Q (o::rest) a w:=by
 unfold seL;rw [if_pos hw];exact h
theorem z7i {o:Oper} {rest:List Oper} {Q:Act→World→Prop} {a:Act} {w:World} (hw:Region.wanted o (yielded ops a.tmps)=false) (h:seL P ops Q rest (a.put o.dst undef) w):seL P ops Q (o::rest) a w:=by
 unfold seL;rw [if_neg (by rw [hw];simp)];exact h
theorem zol (d:Nat) (x:AV) (f:Fr):Fr.get ((d,x)::f) d=x:=by simp [Fr.get]
theorem Good.known {f:Fr} {S:List Ow} {a:Act} {w:World} (h:Good w0 G N f S a w) {d:Nat} {x:AV} (hx:f.get d=x):Good w0 G N ((d,x)::f) S a w:=by
 obtain ⟨r,hR,hf,hN,hd⟩:=h;refine ⟨r,hR,fun k=>?_,hN,hd⟩;simp only [Fr.get]
 split
 ·rename_i hk;have:=Nat.eq_of_beq_eq_true hk;subst this;rw [← hx];exact hf d
 ·exact hf k
theorem z36 {d:Nat} {pol:Bool} {j:Nat} (hs:z6m ops j=some d) {Q:Act→World→Prop} {rest:List Oper}:∀ (l:List Oper) (f:Fr) (S:List Ow) (K:Fr→List Ow→Prop),(∀ o∈l,o.guard=some (j,pol))→seqK P w0 G N d pol l f S K→
  (∀ f' S' a' w',K f' S'→Good w0 G N f' S' a' w'→seL P ops Q rest a' w')→∀ a w,Good w0 G N f S a w→seL P ops Q (l++rest) a w
 |[],f,S,K,_,h,hK,a,w,hg=>hK _ _ _ _ h hg
 |o::l,f,S,K,hgd,h,hK,a,w,hg=>by
  unfold seqK at h
  split at h
  ·rename_i y hy
   split at h
   ·rename_i hyp
    have hyp:y=pol:=(by simpa using hyp);subst hyp;obtain ⟨r,hR,hf,hN,hd⟩:=hg;refine z7g ?_ ((zwx h).out r a w hR hf hN hd _ (fun _ _ _=>True) fun f' S' a' w' hk hg'=>z36 hs l f' S' K (fun o ho=>hgd o (List.mem_cons_of_mem _ ho)) hk hK a' w' hg');rw [yam (hgd o (List.mem_cons_self ..)),ybw hf hs hy];simp
   ·exact h.elim
  ·exact h.elim
theorem zt4 {d:Nat}:∀ {l:List Nat},memN d l=false→d∉l
 |[],_=>by simp
 |x::l,h=>by
  unfold memN at h
  split at h
  ·cases h
  ·rename_i hx
   intro hm;rcases List.mem_cons.1 hm with rfl|hm
   ·simp at hx
   ·exact zt4 h hm
theorem zt3 {d:Nat}:∀ {l:List Nat},memN d l=true→d∈l
 |[],h=>by cases h
 |x::l,h=>by
  unfold memN at h
  split at h
  ·rename_i hx;rw [Nat.eq_of_beq_eq_true hx];exact List.mem_cons_self ..
  ·exact List.mem_cons_of_mem _ (zt3 h)
theorem zwf {ds:List Nat} {f:Fr}:∀ (n:Nat) (f':Fr),zwd ds f n f'→∀ k,k∉ds→f'.get k=f.get k
 |0,f',h,k,_=>by rw [show f'=f from h]
 |n+1,[],h,k,_=>h.elim
 |n+1,(d,x)::f',h,k,hk=>by
  simp only [zwd] at h
  split at h
  ·rename_i hm
   simp only [Fr.get]
   split
   ·rename_i hdk
    have:=Nat.eq_of_beq_eq_true hdk;subst this;exact absurd (zt3 hm) hk
   ·exact zwf n f' h k hk
  ·exact h.elim
theorem zzx:∀ (l:List Oper) (f:Fr) (k:Nat),(zzt l f).get k= .p (.c .any)∨((zzt l f).get k=f.get k∧k∉zi9 l)
 |[],f,k=> .inr ⟨rfl,by simp [zi9]⟩
 |o::l,f,k=>by
  simp only [zzt,zi9];rcases zzx l (f.put o.dst (.p (.c .any))) k with h|⟨h1,h2⟩
  ·exact .inl h
  ·cases ho:o.dst with
   |none=>rw [ho] at h1;simp only [Fr.put] at h1;right;exact ⟨by simpa only [ho,Fr.put] using h1,h2⟩
   |some d=>
    rw [ho] at h1;simp only [Fr.put,Fr.get] at h1
    split at h1
    ·left;simpa only [ho,Fr.put] using h1
    ·rename_i hdk
     right
     refine ⟨by simpa only [ho,Fr.put] using h1,fun hm=>?_⟩;rcases List.mem_cons.1 hm with rfl|hm
     ·simp at hdk
     ·exact h2 hm
theorem zzw:∀ (l:List Oper) (f:Fr) (k:Nat),k∉zi9 l→(zzt l f).get k=f.get k
 |[],f,k,_=>rfl
 |o::l,f,k,h=>by
  simp only [zzt,zi9] at h⊢
  cases ho:o.dst with
  |none=>rw [ho] at h;rw [zzw l _ k h];rfl
  |some d=>
   rw [ho] at h;rw [zzw l _ k (fun hm=>h (List.mem_cons_of_mem _ hm))];simp only [Fr.put,Fr.get]
   split
   ·rename_i hd;exact absurd (Nat.eq_of_beq_eq_true hd).symm (fun e=>h (by rw [e];exact List.mem_cons_self ..))
   ·rfl
def Env.upto (n:Nat) (r:Env):Env:=⟨fun i=>if i<n then r.blk i else none,fun i=>if i<n then r.val i else none⟩
theorem Env.upto_blk (n:Nat) (r:Env):∀ k b,(r.upto n).blk k=some b→r.blk k=some b:=fun k b h=>by
 simp only [Env.upto] at h
 split at h
 ·exact h
 ·cases h
theorem Env.upto_agree (n:Nat) (r:Env):r.agree n (r.upto n):=fun i hi=>by simp [Env.upto,hi]
theorem Ow.holds_agree {n i:Nat} {r r':Env} {w:World} {o:Ow} (h:o.holds r w i) (ha:r.agree n r') (hb:o.bnd n=true) (hi:i<n) (hs:∀ k b,r'.blk k=some b→r.blk k=some b):o.holds r' w i:=by
 cases o with
 |cells t l=>obtain ⟨b,us,h1,h2,h3⟩:=h;exact ⟨b,us,by rw [← (ha i hi).1];exact h1,h2,zid ha _ _ hb h3⟩
 |row e size m xs=>obtain ⟨v,h1,h2,h3⟩:=h;exact ⟨v,by rw [← (ha i hi).2];exact h1,by rw [← (ha i hi).1];exact h2,h3⟩
 |ext φ=>obtain ⟨b,h1,h2⟩:=h;exact ⟨b,by rw [← (ha i hi).1];exact h1,h2⟩
 |view φ n xs=>
  obtain ⟨A,c,h1,h2,h3,h4,h5⟩:=h;refine ⟨A,c,by rw [← (ha i hi).2];exact h1,h2,h3,by rw [← (ha i hi).1];exact h4,fun j u hj=>?_⟩;obtain ⟨b,off,h6,h7,h8,h9⟩:=h5 j u hj;exact ⟨b,off,h6,h7,fun k hk=>h8 k (hs k b hk),h9⟩
 |gone=>trivial
theorem Rel.upto {S S':List Ow} {r:Env} {w:World} (h:Rel w0 G S r w) {n:Nat} (hn:S'.length=n) (_hnS:n≤S.length) (hG:G.fix.length≤n) (hS:∀ (i:Nat) (o:Ow),S'[i]?=some o→o.holds (r.upto n) w i):Rel w0 G S' (r.upto n) w:=by
 refine ⟨h.os,h.tape,h.output,h.size,h.old,hS,fun i j b hi hj=>?_,fun i b hi=>?_,fun i hi=>?_,fun i hi=>?_,fun i g hg=>?_⟩
 ·simp only [Env.upto] at hi hj
  split at hi<;>split at hj<;>first|cases hi|cases hj|exact h.inj i j b hi hj
 ·simp only [Env.upto] at hi
  split at hi
  ·exact h.new i b hi
  ·cases hi
 ·simp only [Env.upto];rw [if_neg zO]
 ·simp only [Env.upto];rw [if_neg zO]
 ·simp only [Env.upto]
  have:i<G.fix.length:=by
   rcases Nat.lt_or_ge i G.fix.length with h1|h1
   ·exact h1
   ·rw [List.getElem?_eq_none h1] at hg;cases hg
  rw [if_pos zO];exact h.first i g hg
theorem za6:∀ (l:List Oper),za5 N.n l=true→∀ {f:Fr} {S:List Ow} {a:Act} {w:World} {j:Nat} {pol x:Bool} {Q:Act→World→Prop} {rest:List Oper} {d:Nat},z6m ops j=some d→(∀ o∈l,o.guard=some (j,pol))→x≠pol→f.get d=one (.bool x)→d∉zi9 l→
  Good w0 G N f S a w→(∀ a',Good w0 G N (zzt l f) S a' w→seL P ops Q rest a' w)→seL P ops Q (l++rest) a w
 |[],_,f,S,a,w,j,pol,x,Q,rest,d,_,_,_,_,_,hg,h=>h a hg
 |o::l,hD,f,S,a,w,j,pol,x,Q,rest,d,hs,hgd,hx,hfx,hnd,hg,h=>by
  simp only [za5] at hD
  split at hD
  ·rename_i ho
   obtain ⟨r,hR,hf,hN,hd⟩:=hg;refine z7i ?_ ?_
   ·rw [yam (hgd o (List.mem_cons_self ..)),ybw hf hs hfx];simpa using hx
   ·have hnd':d∉zi9 l∧∀ e,o.dst=some e→d≠e:=by
     simp only [zi9] at hnd
     cases hod:o.dst with
     |none=>rw [hod] at hnd;exact ⟨hnd,nofun⟩
     |some e=>rw [hod] at hnd;exact ⟨fun h=>hnd (List.mem_cons_of_mem _ h),fun e' he=>by injection he with he;subst he;rintro rfl;exact hnd (List.mem_cons_self ..)⟩
    refine za6 l hD hs (fun o ho=>hgd o (List.mem_cons_of_mem _ ho)) hx (f:=f.put o.dst (.p (.c .any))) ?_ hnd'.1 ⟨r,hR,hf.putAny undef (by rw [hN];exact ho),(zzq a _ _).trans hN,(zzn a _ _).trans hd⟩ h
    cases hod:o.dst with
    |none=>simpa [Fr.put,hod] using hfx
    |some e=>
     have:=hnd'.2 e hod;simp only [Fr.put,Fr.get]
     split
     ·rename_i he;exact absurd (Nat.eq_of_beq_eq_true he).symm this
     ·exact hfx
  ·cases hD
theorem zys {p:Oper} {d b:Nat} {pol x y:Bool} (hp:zyr p d pol=some b) {a:Act} (hd:a.eval (.tmp d)= .bool x) (hb:x=pol→a.eval (.tmp b)= .bool y) (w:World):p.guard=none∧(execOp a.eval p).run P w= .ok (.value (.bool (cmb pol x y))) w:=by
 unfold zyr at hp
 split at hp
 ·cases hp
 ·rename_i hg
  refine ⟨hg,?_⟩
  split at hp
  ·rename_i c b' hop
   split at hp
   ·rename_i hc
    have:=Nat.eq_of_beq_eq_true hc;subst this
    split at hp
    ·injection hp with hp;subst hp
     cases x
     ·have e1:a.eval (.const (.bool false))= .bool false:=rfl
      simp [execOp,hop,hd,asBool,cmb,e1]
     ·simp [execOp,hop,hd,asBool,cmb,hb rfl]
    ·cases hp
   ·cases hp
  ·rename_i c b' hop
   split at hp
   ·rename_i hc
    have:=Nat.eq_of_beq_eq_true hc;subst this
    split at hp
    ·injection hp with hp;subst hp
     cases x
     ·simp [execOp,hop,hd,asBool,cmb,hb rfl]
     ·have e1:a.eval (.const (.bool true))= .bool true:=rfl
      simp [execOp,hop,hd,asBool,cmb,e1]
    ·cases hp
   ·cases hp
  ·cases hp
end
theorem mixed:Tryz.prog.follows .mixedOrders=true:=by kernel_rfl
def foldP (b:Blk):Blk:=⟨b.at_,b.pages,zna b⟩
def copyP (b:Blk):Blk:=⟨b.at_,b.pages,zg4 b⟩
def deadP (b:Blk):Blk:=⟨b.at_,b.pages,zh5 b⟩
def zwg (b:Blk):Blk:=deadP (copyP (foldP b))
def optN:Nat→Blk→Blk
 |0,b=>b
 |n+1,b=>if (zwg b).ops=b.ops then b else optN n (zwg b)
structure PreOk (ops:List BOp) (i W:Nat) (ch:Bool):Prop where
 run:ckL ⟨0,0,false⟩ ops=some ⟨i,W,ch⟩
 all:∀ o∈ops,o.ok∧o.code≠23
 head:(i=0∧ops=[])∨∃ o l,ops=o::l∧o.code=20
theorem PreOk.nil:PreOk [] 0 0 false:=⟨rfl,nofun,.inl ⟨rfl,rfl⟩⟩
theorem zf4 (i W:Nat) (ch:Bool):zf1 ⟨i,W,ch⟩ ⟨20,0,0,0,(i:Int)⟩ false false=some ⟨i+1,0,false⟩:=by
 have h1:znn ⟨20,0,0,0,(i:Int)⟩=true:=rfl;have h2:zyw ⟨i,W,ch⟩ ⟨20,0,0,0,(i:Int)⟩ false false=true:=(by cases ch<;>rfl);unfold zf1;rw [h1,h2];simp
theorem PreOk.mark {ops:List BOp} {i W:Nat} {ch:Bool} (h:PreOk ops i W ch) (hi:i<1000):PreOk (ops++[⟨20,0,0,0,(i:Int)⟩]) (i+1) 0 false:=by
 refine ⟨?_,fun o ho=>?_,.inr ?_⟩
 ·rw [zf0,h.run]
  show (match zf1 _ _ false false with|some s'=>ckL s' []|none=>none)=_;rw [zf4];rfl
 ·rcases List.mem_append.1 ho with ho|ho
  ·exact h.all o ho
  ·simp at ho;subst ho
   exact ⟨⟨zur zU,mid0,mid0,mid0,by unfold word;dsimp only;omega⟩,by dsimp only;omega⟩
 ·rcases h.head with ⟨_,h1⟩|⟨o,l,h1,h2⟩
  ·subst h1;exact ⟨_,[],rfl,rfl⟩
  ·subst h1;exact ⟨o,_,rfl,h2⟩
theorem PreOk.body {ops l:List BOp} {i W:Nat} {ch:Bool} (h:PreOk ops i 0 false) (hb:BodyOk l W ch) (hi:0<i):PreOk (ops++l) i W ch:=by
 refine ⟨?_,fun o ho=>?_,.inr ?_⟩
 ·rw [zf0,h.run];exact hb.run i
 ·rcases List.mem_append.1 ho with ho|ho
  ·exact h.all o ho
  ·have:=hb.all o ho
   refine ⟨this.1,?_⟩;have h2:=this.2;unfold zd7 at h2;rw [decide_eq_true_eq] at h2;omega
 ·rcases h.head with ⟨h0,_⟩|⟨o,l',h1,h2⟩
  ·omega
  ·subst h1;exact ⟨o,_,rfl,h2⟩
structure TailOk (t:List BOp) (ch:Bool):Prop where
 run:∀ (i W:Nat),zf8 ⟨i,W,ch⟩ t=some ⟨i,W,ch⟩
 all:∀ o∈t,o.ok
 ne:t≠[]
structure MadeOk (b:Blk):Prop where
 ok:b.ok
 valid:z9o b=true
 len:b.ops.length≤200
 lp:b.pages.length≤10
def zs5:List BOp→Int→Bool
 |[],_=>false
 |o::l,v=>if memI v (reads o)||(zv5 o&&decide (v<19)) then true else if writes o==v then false else zs5 l v
theorem ybs {o:BOp} (hf:znn o=true):writes o<28:=by
 have:=ybu hf;exact this
section
variable {P:Program} {w0:World} {G:Gs} {N:Nd} {ops:Array Oper}
theorem zwe {n:Nat} {r:Env} {f f':Fr} {grp:List Oper} {d:Nat} {x:Bool} {a:Act} (hfx:f.get d=one (.bool x)) (htop:zwd (zi9 grp) ((d,one (.bool x))::f) (putN grp) f') (hf:FDen r f' a) (hb:f.bnd n=true):FDen (r.upto n) (zzt grp f) a:=by
 intro k;rcases zzx grp f k with h|⟨h1,h2⟩
 ·rw [h];simp [AV.den,Pc.den,CV.den]
 ·rw [h1]
  have e1:=zwf _ _ htop k h2;have e2:=hf k;rw [e1] at e2;simp only [Fr.get] at e2
  split at e2
  ·rename_i hk
   have:=Nat.eq_of_beq_eq_true hk;subst this;rw [hfx];exact AV.den_agree (Env.upto_agree n r) _ _ rfl e2
  ·exact AV.den_agree (Env.upto_agree n r) _ _ (Fr.bnd_get k hb) e2
end
theorem z3y {n:Nat}:∀ {S:List Ow} {i:Nat} {o:Ow},sbnd n S=true→S[i]?=some o→o.bnd n=true
 |[],i,o,_,h=>by simp at h
 |x::S,i,o,hb,h=>by
  simp only [sbnd] at hb
  split at hb
  ·rename_i hx
   cases i with
   |zero=>simp at h;subst h;exact hx
   |succ i=>exact z3y hb (by simpa using h)
  ·cases hb
section
variable {P:Program} {w0:World} {G:Gs} {N:Nd} {ops:Array Oper}
theorem zxa {Q:Act→World→Prop}:∀ (n:Nat) (l:List Oper) (f:Fr) (S:List Ow) (K:Fr→List Ow→Prop),opsK P w0 G N ops n l f S K→(∀ f' S' a' w',K f' S'→Good w0 G N f' S' a' w'→Q a' w')→
  ∀ a w,Good w0 G N f S a w→seL P ops Q l a w
 |_,[],f,S,K,h,hK,a,w,hg=>by cases ‹Nat› <;>exact hK _ _ _ _ h hg
 |0,o::l,f,S,K,h,hK,a,w,hg=>h.elim
 |n+1,o::l,f,S,K,h,hK,a,w,hg=>by
  unfold opsK at h
  have hsplit:∀ {j d:Nat} {pol x:Bool},o.guard=some (j,pol)→z6m ops j=some d→f.get d=one (.bool x)→
    ((x=pol→opK P w0 G N o ((d,one (.bool pol))::f) S fun f' S'=>opsK P w0 G N ops n l f' S' K)∧
     (x=(!pol)→match zi8 N.n o.dst with|true=>(Fr.putK ((d,one (.bool (!pol)))::f) o.dst (.p (.c .any)) fun f'=>opsK P w0 G N ops n l f' S K)|false=>False))→seL P ops Q (o::l) a w:=by
   intro j d pol x hg' hs hfx ⟨h1,h2⟩;by_cases hx:x=pol
   ·obtain ⟨r,hR,hf,hN,hd⟩:=hg.known (d:=d) (x:=one (.bool pol)) (by rw [hfx,hx])
    refine z7g ?_ ((zwx (h1 hx)).out r a w hR hf hN hd _ (fun _ _ _=>True) fun f' S' a' w' hk hgd=>zxa n l f' S' K hk hK a' w' hgd);rw [yam hg',ybw hf hs (zol d _ f)];simp
   ·have hx':x= !pol:=by cases x<;>cases pol<;>simp_all
    have h2:=h2 hx';obtain ⟨r,hR,hf,hN,hd⟩:=hg.known (d:=d) (x:=one (.bool (!pol))) (by rw [hfx,hx'])
    split at h2
    ·rename_i hdst
     refine z7i ?_ (zxa n l _ S K (zze.1 h2) hK _ _ ⟨r,hR,hf.putAny undef (by rw [hN];exact hdst),(zzq a _ _).trans hN,(zzn a _ _).trans hd⟩)
     rw [yam hg',ybw hf hs (zol d _ f)];cases pol<;>simp
    ·exact h2.elim
  split at h
  ·rename_i hgd
   obtain ⟨r,hR,hf,hN,hd⟩:=hg;exact z7g (yal hgd _) ((zwx h).out r a w hR hf hN hd _ (fun _ _ _=>True) fun f' S' a' w' hk hg'=>zxa n l f' S' K hk hK a' w' hg')
  ·rename_i j pol hgd
   split at h
   ·exact h.elim
   ·rename_i d hs
    split at h
    ·rename_i x hfx
     split at h
     ·rename_i grp p rem hspan
      split at h
      ·rename_i b hpick
       split at h
       ·rename_i hD hpd hmem
        have hmem:=zt4 hmem;obtain ⟨y,hy,hrest⟩:=h;rw [zzv,zze] at hrest;have hall:∀ o∈grp,o.guard=some (j,pol):=fun o' ho'=>z6z j pol (o::l) o' (by rw [hspan];exact ho');have happ:grp++p::rem=o::l:=(by have:=z60 j pol (o::l);rw [hspan] at this;exact this);rw [← happ];by_cases hx:x=pol
        ·have h1:=hy hx
         refine z36 hs grp _ S _ hall h1 ?_ a w (hg.known (d:=d) (x:=one (.bool pol)) (by rw [hfx,hx]));rintro f' S' a' w' ⟨htop,htake,hb,hbnd,hgrp⟩ ⟨r',hR',hf',hN',hd'⟩;subst hx
         have hS:S.length≤S'.length:=by
          have:=congrArg List.length htake;simp at this;omega
         have hfd:=zwe (grp:=grp) hfx htop hf' hbnd;have hR2:Rel w0 G S' r' w':=hR';have eb:a'.eval (.tmp b)= .bool y:=(by have:=hf' b;rw [hb] at this;exact zi2 this)
         have ed:a'.eval (.tmp d)= .bool x:=by
          have h2:=hf' d;rw [zwf _ _ htop d hmem,zol] at h2;exact zi2 h2
         obtain ⟨hpg,hprun⟩:=zys (P:=P) hpick (a:=a') ed (fun _=>eb) w';refine z7g (yal hpg _) (ybh hprun ?_);refine zxa n rem _ S K hrest hK _ _ ⟨r'.upto S.length,?_,hfd.put (ziz _ _) (by rw [hN'];exact hpd),(zzq a' _ _).trans hN',(zzn a' _ _).trans hd'⟩;unfold zot at hgrp
         split at hgrp
         ·rename_i hG
          refine hR2.upto rfl hS (Nat.le_of_ble_eq_true hG) fun i o' ho'=>?_
          have hil:i<S.length:=by
           rcases Nat.lt_or_ge i S.length with h1|h1
           ·exact h1
           ·rw [List.getElem?_eq_none h1] at ho';cases ho'
          have ho2:S'[i]?=some o':=(by rw [← htake,List.getElem?_take] at ho';rw [if_pos hil] at ho';exact ho');exact Ow.holds_agree (hR2.own i o' ho2) (Env.upto_agree _ _) (z3y hgrp ho') hil (Env.upto_blk _ _)
         ·cases hgrp
        ·refine za6 grp hD hs hall hx hfx hmem hg fun a' hg'=>?_
         obtain ⟨r',hR',hf',hN',hd'⟩:=hg'
         have ed:a'.eval (.tmp d)= .bool x:=by
          have h2:=hf' d;rw [zzw grp f d hmem,hfx] at h2;exact zi2 h2
         obtain ⟨hpg,hprun⟩:=zys (P:=P) (y:=y) hpick (a:=a') ed (fun e=>absurd e hx) w;refine z7g (yal hpg _) (ybh hprun ?_);exact zxa n rem _ S K hrest hK _ _ ⟨r',hR',hf'.put (ziz _ _) (by rw [hN'];exact hpd),(zzq a' _ _).trans hN',(zzn a' _ _).trans hd'⟩
       ·exact h.elim
      ·exact hsplit hgd hs hfx h
     ·exact hsplit hgd hs hfx h
    ·exact h.elim
end
structure QI where
 op:Int
 d:Int
 a:Int
 b:Int
 imm:Int
structure QI.ok (i:QI):Prop where
 op:0≤i.op∧i.op<64
 d:0≤i.d∧i.d<16
 a:0≤i.a∧i.a<16
 b:0≤i.b∧i.b<16
 imm:word i.imm
def zz3 (op:Int):Int:=
 if 1≤op∧op≤10 then op+2 else if op=11 then 14 else if op=12 then 15 else if op=16 then 3 else if 17≤op∧op≤22 then op-12 else 0
def zhv (x:Int):Int:=x%4294967296
theorem zhw (x:Int):word (zhv x):=by unfold word zhv;omega
def qSet (d n:Int):List BOp:=if d=0 then [] else [⟨1,d,0,0,n⟩]
def zz8 (d:Int):Int:=if d=0 then 20 else d
def zz1 (i:QI):List BOp:=
 (if i.op=10 then [⟨21,0,i.b,0,0⟩] else [])++(if i.d=0 then [] else if 16≤i.op then [⟨1,20,0,0,i.imm⟩,⟨zz3 i.op,i.d,i.a,20,0⟩] else [⟨zz3 i.op,i.d,i.a,i.b,0⟩])
def zz9 (op:Int):Int:=if op=32 then 13 else if op=33 then 7 else if op≤35 then 14 else 15
def qTest (i:QI):List BOp:=
 [⟨zz9 i.op,20,i.d,i.a,0⟩]++(if i.op=35∨i.op=37 then [⟨1,21,0,0,1⟩,⟨7,20,20,21,0⟩] else [])
def qBody (i:QI) (at_:Int):List BOp:=
 if zz3 i.op≠0 then zz1 i
 else if i.op=41 then qSet i.d (zhv (i.imm*1024))
 else if i.op=23 then [⟨16,zz8 i.d,i.a,0,i.imm⟩]
 else if i.op=24 then [⟨17,zz8 i.d,i.a,0,i.imm⟩]
 else if i.op=25 then [⟨18,0,i.a,i.d,i.imm⟩]
 else if i.op=26 then [⟨19,0,i.a,i.d,i.imm⟩]
 else if i.op=27 then [⟨1,21,0,0,i.imm⟩,⟨3,20,i.a,21,0⟩,⟨1,21,0,0,4294967292⟩,⟨5,20,20,21,0⟩]++qSet i.d (zhv (at_+4))
 else if i.op=40 then qSet i.d (zhv (at_+4))
 else if 32≤i.op∧i.op≤37 then qTest i
 else []
def zz7 (i:QI) (at_:Int):Option (List BOp):=
 if zz3 i.op≠0 then none
 else if i.op=41∨(23≤i.op∧i.op≤26) then none
 else if i.op=27 then some [⟨25,0,20,0,0⟩]
 else if i.op=40 then some [⟨24,0,0,0,zhv (at_+4*i.imm)⟩]
 else if 32≤i.op∧i.op≤37 then some [⟨23,0,20,0,zhv (at_+4*i.imm)⟩,⟨24,0,0,0,zhv (at_+4)⟩]
 else some [⟨22,0,0,0,0⟩]
theorem BodyOk.loadG {l:List BOp} {W:Nat} {ch:Bool} (h:BodyOk l W ch) {c d a n:Int} (hc:16≤c∧c≤17) (hd:0≤d∧d<19) (ha:srcI W a) (hn:word n) (hch:ch=false):BodyOk (l++[⟨c,d,a,0,n⟩]) W true:=by
 have ha':=ha
 obtain ⟨a1,a2,a3,a4⟩:=ha
 have hD:hasD c=true:=by unfold hasD;rw [decide_eq_true_eq];omega
 have hA:hasA c=true:=by unfold hasA;rw [decide_eq_true_eq];omega
 have hB:hasB c=false:=by unfold hasB;rw [decide_eq_false_iff_not];omega
 have hNn:hasN c=true:=by unfold hasN;rw [decide_eq_true_eq];omega
 have hI:isOp c=true:=by unfold isOp;rw [decide_eq_true_eq];omega
 have hw:writes ⟨c,d,a,0,n⟩=d:=by unfold writes;rw [if_pos hD]
 refine (h.snoc (o:=⟨c,d,a,0,n⟩) ⟨zur zU,zur zU,zur zU,mid0,hn⟩ (by unfold zd7;rw [decide_eq_true_eq];dsimp only;omega) ?_ (fun _=>hch) (fun v hv=>?_)).is ?_ ?_
 ·unfold znn
  dsimp only;rw [hI,hD,hA,hB,z62 ha',hNn];have:zlz true d=true:=(by unfold zlz;rw [if_pos rfl,decide_eq_true_eq];omega);rw [this];rfl
 ·unfold reads at hv
  dsimp only at hv;rw [hA,hB] at hv;simp at hv;subst hv;exact ha'
 ·unfold zuy;rw [hw,if_neg zO]
 ·unfold zuw
  rw [hw];have:decide (0≤d∧d<20)=true:=(by rw [decide_eq_true_eq];omega);rw [this];simp
def clean (o:BOp):Prop:=writes o≠0∧¬(16≤writes o∧writes o≤18)
structure QBody (l:List BOp) (W:Nat) (ch:Bool):Prop where
 body:BodyOk l W ch
 clean:∀ o∈l,clean o
theorem zgf {c d a b n:Int} (hd:1≤d∧d<16):clean ⟨c,d,a,b,n⟩:=by
 unfold clean writes;dsimp only;split<;>omega
theorem zgh {c d a b n:Int} (hd:20≤d):clean ⟨c,d,a,b,n⟩:=by
 unfold clean writes;dsimp only;split<;>omega
theorem zgg {c d a b n:Int} (hc:18≤c):clean ⟨c,d,a,b,n⟩:=by
 have:hasD c=false:=by unfold hasD;rw [decide_eq_false_iff_not];omega
 unfold clean writes;dsimp only;rw [this];simp
theorem QBody.nil:QBody [] 0 false:=⟨BodyOk.nil,nofun⟩
theorem QBody.of {l:List BOp} {o:BOp} {W W':Nat} {ch ch':Bool} (h:QBody l W ch) (hb:BodyOk (l++[o]) W' ch') (hc:Go.Proofs.YtocafomnnkmjfaaGreat.clean o):QBody (l++[o]) W' ch':=⟨hb,fun p hp=>by
 rcases List.mem_append.1 hp with hp|hp
 ·exact h.clean p hp
 ·simp at hp;subst hp;exact hc⟩
section
variable {l:List BOp} {W:Nat} {ch:Bool} {i:QI}
theorem QBody.set {d n:Int} (h:QBody l W ch) (hd:0≤d∧d<16) (hn:word n):∃ ch',QBody (l++qSet d n) W ch':=by
 unfold qSet
 split
 ·rw [List.append_nil];exact ⟨_,h⟩
 ·exact ⟨true,h.of ((h.body.const ⟨by omega,by omega,by omega⟩ hn).is (if_neg (by omega)) (by have:decide (d<20)=true:=by rw [decide_eq_true_eq];omega
                                                                                              rw [this,Bool.or_true])) (zgf zO)⟩
theorem QBody.load {c d a n:Int} (h:QBody l W false) (hc:16≤c∧c≤17) (hd:0≤d∧d<16) (ha:srcI W a) (hn:word n):∃ W' ch',QBody (l++[⟨c,zz8 d,a,0,n⟩]) W' ch':=by
 unfold zz8
 split
 ·exact ⟨_,_,h.of (h.body.load hc ⟨by omega,by omega⟩ ha hn rfl) (zgh zO)⟩
 ·exact ⟨_,_,h.of (h.body.loadG hc ⟨hd.1,by omega⟩ ha hn rfl) (zgf zO)⟩
theorem QBody.store {c a b n:Int} (h:QBody l W false) (hc:18≤c∧c≤19) (ha:srcI W a) (hb:srcI W b) (hn:word n):QBody (l++[⟨c,0,a,b,n⟩]) W true:=
 h.of (h.body.store hc ha hb hn rfl) (zgg zO)
theorem QBody.guard {a:Int} (h:QBody l W false) (ha:srcI W a):QBody (l++[⟨21,0,a,0,0⟩]) W false:=h.of (h.body.guard ha rfl) (zgg zO)
end
theorem word1:word 1:=by unfold word;omega
structure TailW (t:List BOp) (W:Nat) (ch:Bool):Prop where
 run:∀ i:Nat,∃ W' ch',zf8 ⟨i,W,ch⟩ t=some ⟨i,W',ch'⟩
 all:∀ o∈t,o.ok∧clean o
 ne:t≠[]
def zg5:Bool→List BOp→List BOp→Int→Int
 |_,[],_,_=> -1
 |m,o::r,sk,v=>if writes o=v then (if o.code≠2∨o.a=v then-1 else if m=true∧(20≤v∨20≤o.a) then-1 else if (sk.any fun p=>writes p==o.a)=true then-1 else o.a) else zg5 (m||o.code==20) r (o::sk) v
def zg9 (r:List BOp) (v:Int):Int:=zg5 false r [] v
structure CopyIs (s:Int→Option Int) (r:List BOp):Prop where
 fm:∀ o∈r,o.code=2→0≤o.a
 some_:∀ v w,0≤v→v<28→s v=some w→zg9 r v=w∧0≤w∧w<28
 none_:∀ v,0≤v→v<28→s v=none→zg9 r v<0
 flat:∀ v w,s v=some w→s w=none
section
variable (ro:Option Nat) (P:Program) (w0:World) (G:Gs) (N:Nd)
def zal (K:Exit→Fr→List Ow→Prop):Exit→Act→World→Prop:=fun e a w=>∃ f S,K e f S∧Good w0 G N f S a w
structure Sat (c:Code) (f:Fr) (S:List Ow) (K:Exit→Fr→List Ow→Prop):Prop where
 out:∀ n a w,Good w0 G N f S a w→c.wpIn (zlq ro) n P (zal w0 G N K) a w
structure Ent (f:Fr) (S:List Ow) (f':Fr) (S':List Ow):Prop where
 out:∀ a w,Good w0 G N f S a w→Good w0 G N f' S' a w
def LoopS (vcb:Fr→List Ow→(Exit→Fr→List Ow→Prop)→Prop) (f:Fr) (S:List Ow) (K:Exit→Fr→List Ow→Prop):Prop:=
 ∃ (α:Type) (T:α→Fr) (U:α→List Ow) (m:α→Nat),(∃ x,Ent w0 G N f S (T x) (U x))∧
  ∀ x,vcb (T x) (U x) fun e f' S'=>match e with| .normal=>∃ y,Ent w0 G N f' S' (T y) (U y)∧m y<m x|e=>∃ f2 S2,Ent w0 G N f' S' f2 S2∧K e f2 S2
def vc:Code→Fr→List Ow→(Exit→Fr→List Ow→Prop)→Prop
 | .skip,f,S,K=>K .normal f S
 | .region id ops draw,f,S,K=>(match draw with
  |false=>opsK P w0 G N ops ops.toList.length ops.toList f S (K .normal)
  |true=>Sat ro P w0 G N (.region id ops true) f S K)
 | .seq a b,f,S,K=>vc a f S fun e f' S'=>match e with| .normal=>vc b f' S' K|e=>K e f' S'
 | .cond c x y,f,S,K=>(match f.ev c with
  | .p (.c (.v (.bool t)))=>(t=true→vc x f S K)∧(t=false→vc y f S K)
  |_=>False)
 | .block id body,f,S,K=>vc body f S fun e f' S'=>match e with
  | .exit id'=>(match Nat.beq id' id with|true=>K .normal f' S'|false=>K (.exit id') f' S')
  |e=>K e f' S'
 | .loop body,f,S,K=>LoopS w0 G N (vc body) f S K
 | .exit id,f,S,K=>K (.exit id) f S
 | .ret,f,S,K=>K .ret f S
 |c,f,S,K=>Sat ro P w0 G N c f S K
end
section
variable {ro:Option Nat} {P:Program} {w0:World} {G:Gs} {N:Nd}
theorem yak:∀ (c:Code) (f:Fr) (S:List Ow) (K:Exit→Fr→List Ow→Prop),vc ro P w0 G N c f S K→Sat ro P w0 G N c f S K
 | .skip,f,S,K,h=>⟨fun n a w hg=>wpIn_skip ⟨f,S,h,hg⟩⟩
 | .region id ops draw,f,S,K,h=>by
  cases draw with
  |false=>exact ⟨fun n a w hg=>wpIn_region_list (z30 ro n (zxa _ _ f S _ h (fun f' S' a' w' hk hg'=>⟨f',S',hk,hg'⟩) a w hg))⟩
  |true=>exact h
 | .seq x y,f,S,K,h=>⟨fun n a w hg=>wpIn_seq (wpIn_mono ((yak x f S _ h).out n a w hg) (fun e a' w' ⟨f',S',hk,hg'⟩=>by
   cases e with
   |normal=>exact (yak y f' S' K hk).out n a' w' hg'
   |exit id=>exact ⟨f',S',hk,hg'⟩
   |goto l=>exact ⟨f',S',hk,hg'⟩
   |ret=>exact ⟨f',S',hk,hg'⟩
   |panic ch=>exact ⟨f',S',hk,hg'⟩
   |outgrown=>exact ⟨f',S',hk,hg'⟩))⟩
 | .cond c x y,f,S,K,h=>⟨fun n a w hg=>by
   unfold vc at h
   split at h
   ·rename_i t ht
    obtain ⟨r,hR,hf,hN,hd⟩:=hg;have hc:=hf.ev c;rw [ht] at hc;have hc:=zi2 hc;refine wpIn_cond_split hc (fun e=>(yak x f S K (h.1 e)).out n a w ⟨r,hR,hf,hN,hd⟩) (fun e=>(yak y f S K (h.2 e)).out n a w ⟨r,hR,hf,hN,hd⟩)
   ·exact h.elim⟩
 | .block id c,f,S,K,h=>⟨fun n a w hg=>wpIn_block (wpIn_mono ((yak c f S _ h).out n a w hg) (fun e a' w' ⟨f',S',hk,hg'⟩=>by
   cases e with
   |exit id'=>
    simp only [Exit.inBlock];by_cases hi:id'=id
    ·subst hi;simp only [Nat.beq_refl] at hk;rw [if_pos rfl];exact ⟨f',S',hk,hg'⟩
    ·have hb:Nat.beq id' id=false:=by
      cases h2:Nat.beq id' id
      ·rfl
      ·exact absurd (Nat.eq_of_beq_eq_true h2) hi
     simp only [hb] at hk;rw [if_neg hi];exact ⟨f',S',hk,hg'⟩
   |normal=>exact ⟨f',S',hk,hg'⟩
   |goto l=>exact ⟨f',S',hk,hg'⟩
   |ret=>exact ⟨f',S',hk,hg'⟩
   |panic ch=>exact ⟨f',S',hk,hg'⟩
   |outgrown=>exact ⟨f',S',hk,hg'⟩))⟩
 | .loop c,f,S,K,h=>⟨fun nn a w hg=>by
   obtain ⟨α,T,U,m,⟨x0,h0⟩,hround⟩:=h;intro b k cs hro hb hr
   have key:∀ (n:Nat) (x:α),m x=n→∀ a w,Good w0 G N (T x) (U x) a w→∃ e a' w',zal w0 G N K e a' w'∧ArrivesIn (Machine.fenced P (zlq ro)) P (lone (b.atR a (.code c:: .inLoop c::k)) cs w) b k cs e a' w':=by
    intro n
    induction n using Nat.strongRecOn with
    |_ n ih=>
     intro x hx a w hg;obtain ⟨e,a',w',⟨f',S',hk,hg'⟩,harr⟩:=(yak c (T x) (U x) _ (hround x)).out nn a w hg b (.inLoop c::k) cs hro hb hr
     cases e with
     |normal=>
      obtain ⟨y,hent,hlt⟩:=hk;obtain ⟨e2,a2,w2,hq2,harr2⟩:=ih (m y) zO y rfl a' w' (hent.out a' w' hg');exact ⟨e2,a2,w2,hq2,.of_steps (StepsIn.trans harr (.one (fenced_calm hb hr rfl) stepR_inLoop)) harr2⟩
     |exit id=>obtain ⟨f2,S2,hent,hk2⟩:=hk;exact ⟨_,a',w',⟨f2,S2,hk2,hent.out a' w' hg'⟩,.pass (x:= .inLoop c) rfl (fun _ _=> .inl zS) harr⟩
     |goto l=>obtain ⟨f2,S2,hent,hk2⟩:=hk;exact ⟨_,a',w',⟨f2,S2,hk2,hent.out a' w' hg'⟩,.pass (x:= .inLoop c) rfl (fun _ _=> .inl zS) harr⟩
     |ret=>obtain ⟨f2,S2,hent,hk2⟩:=hk;exact ⟨_,a',w',⟨f2,S2,hk2,hent.out a' w' hg'⟩,.pass (x:= .inLoop c) rfl (fun _ _=> .inl zS) harr⟩
     |panic ch=>obtain ⟨f2,S2,hent,hk2⟩:=hk;exact ⟨_,a',w',⟨f2,S2,hk2,hent.out a' w' hg'⟩,.pass (x:= .inLoop c) rfl (fun _ _=> .inl zS) harr⟩
     |outgrown=>obtain ⟨f2,S2,hent,hk2⟩:=hk;exact ⟨_,a',w',⟨f2,S2,hk2,hent.out a' w' hg'⟩,.pass (x:= .inLoop c) rfl (fun _ _=> .inl zS) harr⟩
   obtain ⟨e,a',w',hq,harr⟩:=key _ x0 rfl a w (h0.out a w hg)
   exact ⟨e,a',w',hq,.of_steps (.one (fenced_calm hb hr rfl) stepR_loop) harr⟩⟩
 | .exit id,f,S,K,h=>⟨fun n a w hg=>wpIn_exit ⟨f,S,h,hg⟩⟩
 | .ret,f,S,K,h=>⟨fun n a w hg=>wpIn_ret ⟨f,S,h,hg⟩⟩
 | .rangeFunc _ _ _ _,f,S,K,h=>h
 | .scope _,f,S,K,h=>h
 | .label _,f,S,K,h=>h
 | .goto _,f,S,K,h=>h
 | .refuse _,f,S,K,h=>h
end
def qAt (F:Int→Option QI) (a:Int):QI:=(F a).getD ⟨0,0,0,0,0⟩
def zz0 (pc:Int) (k:Nat):Int:=zhv (pc+4*k)
def zs1 (F:Int→Option QI) (pc:Int) (n:Nat):Nat→Nat→List BOp
 |0,_=>[]
 |fuel+1,k=>
  ⟨20,0,0,0,(k:Int)⟩::(qBody (qAt F (zz0 pc k)) (zz0 pc k)++
   (match zz7 (qAt F (zz0 pc k)) (zz0 pc k) with
    |some t=>t
    |none=>if k+1=n then [⟨24,0,0,0,zhv (zz0 pc k+4)⟩] else zs1 F pc n fuel (k+1)))
def zs0 (F:Int→Option QI) (pc:Int) (n:Nat):Nat→Nat→Nat
 |0,k=>k
 |fuel+1,k=>
  (match zz7 (qAt F (zz0 pc k)) (zz0 pc k) with
   |some _=>k+1
   |none=>if k+1=n then k+1 else zs0 F pc n fuel (k+1))
theorem zz2 {F:Int→Option QI} (hF:∀ a i,F a=some i→i.ok) (a:Int):(qAt F a).ok:=by
 unfold qAt
 cases h:F a with
 |none=>exact ⟨by constructor<;>decide,by constructor<;>decide,by constructor<;>decide,by constructor<;>decide,by unfold word;constructor<;>decide⟩
 |some i=>exact hF a i h
def sgnW (n:Int) (bits:Nat):Int:=if 2^(bits-1)≤n%2^bits then n%2^bits+(4294967296-2^bits) else n%2^bits
structure QForm where
 is:Bool
 d:Bool
 a:Bool
 b:Bool
 signed:Bool
 bits:Nat
 most:Int
def zz5 (op:Int):QForm:=
 if 1≤op∧op≤12 then ⟨true,true,true,true,false,0,0⟩
 else if 17≤op∧op≤19 then ⟨true,true,true,false,false,18,0⟩
 else if (16≤op∧op≤27)∨(32≤op∧op≤37) then ⟨true,true,true,false,true,18,0⟩
 else if op=40 then ⟨true,true,false,false,true,22,0⟩
 else if op=41 then ⟨true,true,false,false,false,22,0⟩
 else if op=48 then ⟨true,false,false,false,false,18,0⟩
 else if 49≤op∧op≤51 then ⟨true,false,false,false,false,0,0⟩
 else if op=52 then ⟨true,false,true,false,false,0,0⟩
 else if op=53 then ⟨true,true,false,false,false,18,3⟩
 else if op=54 then ⟨true,false,true,false,false,18,4⟩
 else ⟨false,false,false,false,false,0,0⟩
theorem zz6 (op:Int):((zz5 op).bits=0∨(zz5 op).bits=18∨(zz5 op).bits=22)∧0≤(zz5 op).most∧(zz5 op).most≤4∧((zz5 op).signed=true→0<(zz5 op).bits∧(zz5 op).most=0)∧((zz5 op).is=true→1≤op∧op≤54)∧((zz5 op).b=true→(zz5 op).bits=0)∧((zz5 op).bits=22→(zz5 op).a=false)∧(0<(zz5 op).most→(zz5 op).bits=18):=by
 unfold zz5
 repeat' split
 all_goals refine ⟨?_,?_,?_,?_,?_,?_,?_,?_⟩
 all_goals first|omega|(intro h;cases h;done)|(dsimp only;omega)|simp|(intro h;first|cases h|omega|(dsimp only at h⊢;omega))
def regB (n:Int) (used:Bool):Bool:=decide (n=0)||(used&&decide (0<n)&&decide (n<16))
def immB (f:QForm) (n:Int):Bool:=
 if f.bits=0 then decide (n=0) else if f.signed then decide (sgnW n f.bits=n) else if 0<f.most then decide (n≤f.most) else decide (n<2^f.bits)
def z9p (i:QI):Bool:=(zz5 i.op).is&&regB i.d (zz5 i.op).d&&regB i.a (zz5 i.op).a&&regB i.b (zz5 i.op).b&&immB (zz5 i.op) i.imm
def ya0 (i:QI):Int:=i.op*67108864+i.d*4194304+i.a*262144+i.b*16384+i.imm%2^(zz5 i.op).bits
def encQ (i:QI):Option Int:=if z9p i then some (ya0 i) else none
def zl5 (w:Int):QI:=
 ⟨w/67108864,if (zz5 (w/67108864)).d then w/4194304%16 else 0,if (zz5 (w/67108864)).a then w/262144%16 else 0,if (zz5 (w/67108864)).b then w/16384%16 else 0,
  if (zz5 (w/67108864)).signed then sgnW (w%2^(zz5 (w/67108864)).bits) (zz5 (w/67108864)).bits else w%2^(zz5 (w/67108864)).bits⟩
def decQ (w:Int):Option QI:=if encQ (zl5 w)=some w then some (zl5 w) else none
theorem z4u (n:Int):sgnW n 18=if 131072≤n%262144 then n%262144+4294705152 else n%262144:=rfl
theorem z4v (n:Int):sgnW n 22=if 2097152≤n%4194304 then n%4194304+4290772992 else n%4194304:=rfl
theorem z4y (n:Int) {bits:Nat} (h:bits=0∨bits=18∨bits=22) (h0:0<bits):word (sgnW n bits):=by
 unfold word;rcases h with rfl|rfl|rfl
 ·omega
 ·rw [z4u];split<;>omega
 ·rw [z4v];split<;>omega
theorem z4w (n:Int) {bits:Nat} (_h:bits=0∨bits=18∨bits=22) (_h0:0<bits):sgnW (n%2^bits) bits=sgnW n bits:=by
 unfold sgnW;rw [Int.emod_emod_of_dvd n (Int.dvd_refl _)]
theorem ztl (n:Int) {bits:Nat} (h:bits=0∨bits=18∨bits=22):0≤n%2^bits∧n%2^bits<2^bits:=by
 rcases h with rfl|rfl|rfl
 ·exact ⟨by show 0≤n%1;omega,by show n%1<1;omega⟩
 ·exact ⟨by show 0≤n%262144;omega,by show n%262144<262144;omega⟩
 ·exact ⟨by show 0≤n%4194304;omega,by show n%4194304<4194304;omega⟩
theorem zh8 {w:Int} {i:QI} (h:decQ w=some i):i=zl5 w∧encQ i=some w:=by
 unfold decQ at h
 split at h
 ·rename_i he
  injection h with h;subst h;exact ⟨rfl,he⟩
 ·cases h
theorem zia {w:Int} {i:QI} (h:decQ w=some i):z9p i=true∧ya0 i=w:=by
 have h2:=(zh8 h).2;unfold encQ at h2
 split at h2
 ·rename_i hv
  injection h2 with h2;exact ⟨hv,h2⟩
 ·cases h2
theorem z1l {n:Int} {u:Bool} (h:regB n u=true):0≤n∧n<16∧(u=false→n=0):=by
 unfold regB at h
 cases u<;>simp at h<;>(refine ⟨by omega,by omega,fun hu=>?_⟩)<;>first|omega|cases hu
theorem z9q {i:QI} (h:z9p i=true):(zz5 i.op).is=true∧regB i.d (zz5 i.op).d=true∧regB i.a (zz5 i.op).a=true∧regB i.b (zz5 i.op).b=true∧immB (zz5 i.op) i.imm=true:=by
 unfold z9p at h;simp only [Bool.and_eq_true] at h;exact ⟨h.1.1.1.1,h.1.1.1.2,h.1.1.2,h.1.2,h.2⟩
theorem zh9 {w:Int} {i:QI} (_hw:word w) (h:decQ w=some i):i.ok:=by
 obtain ⟨hv,_⟩:=zia h;obtain ⟨he,_⟩:=zh8 h;obtain ⟨h1,h2,h3,h4,h5⟩:=z9q hv;obtain ⟨q1,q2,q3,q4,q5,_⟩:=zz6 i.op;have r2:=z1l h2;have r3:=z1l h3;have r4:=z1l h4;have r1:=q5 h1;refine ⟨by omega,⟨r2.1,r2.2.1⟩,⟨r3.1,r3.2.1⟩,⟨r4.1,r4.2.1⟩,?_⟩;have hop:i.op=w/67108864:=(by rw [he];rfl)
 have himm:i.imm=if (zz5 (w/67108864)).signed then sgnW (w%2^(zz5 (w/67108864)).bits) (zz5 (w/67108864)).bits else w%2^(zz5 (w/67108864)).bits:=by rw [he];rfl
 rw [← hop] at himm;rw [himm]
 split
 ·rename_i hs
  exact z4y _ q1 (q4 hs).1
 ·have:=ztl w q1
  unfold word;rcases q1 with q|q|q
  ·rw [q] at this⊢;have h2:(2:Int)^0=1:=rfl;omega
  ·rw [q] at this⊢;have h2:(2:Int)^18=262144:=rfl;omega
  ·rw [q] at this⊢;have h2:(2:Int)^22=4194304:=rfl;omega
theorem zib {i:QI} (hv:z9p i=true) (him:word i.imm):decQ (ya0 i)=some i∧word (ya0 i):=by
 obtain ⟨h1,h2,h3,h4,h5⟩:=z9q hv;obtain ⟨q1,q2,q2',q4,q5,q6,q7,q8⟩:=zz6 i.op;have r2:=z1l h2;have r3:=z1l h3;have r4:=z1l h4;have r1:=q5 h1;have lo:=ztl i.imm q1;have hw0:ya0 i=i.op*67108864+i.d*4194304+i.a*262144+i.b*16384+i.imm%2^(zz5 i.op).bits:=rfl
 have key:ya0 i/67108864=i.op∧word (ya0 i)∧((zz5 i.op).d=true→ya0 i/4194304%16=i.d)∧((zz5 i.op).a=true→ya0 i/262144%16=i.a)∧((zz5 i.op).b=true→ya0 i/16384%16=i.b)∧ya0 i%2^(zz5 i.op).bits=i.imm%2^(zz5 i.op).bits:=by
  rw [hw0];unfold word;rcases q1 with q|q|q
  ·rw [q] at lo⊢
   have e:(2:Int)^0=1:=rfl;rw [e] at lo⊢;refine ⟨by omega,by omega,fun _=>by omega,fun _=>by omega,fun _=>by omega,by omega⟩
  ·have hb:=r4.2.2 (by cases hb:(zz5 i.op).b with|false=>rfl|true=>rw [q6 hb] at q;cases q)
   rw [q] at lo⊢;have e:(2:Int)^18=262144:=rfl;rw [e] at lo⊢;refine ⟨by omega,by omega,fun _=>by omega,fun _=>by omega,fun h=>?_,by omega⟩;have:=q6 h;omega
  ·have hb:=r4.2.2 (by cases hb:(zz5 i.op).b with|false=>rfl|true=>rw [q6 hb] at q;cases q)
   have ha:=r3.2.2 (q7 q);have ha2:=q7 q;rw [q] at lo⊢;have e:(2:Int)^22=4194304:=rfl;rw [e] at lo⊢;refine ⟨by omega,by omega,fun _=>by omega,fun h=>?_,fun h=>?_,by omega⟩
   ·rw [ha2] at h;cases h
   ·have:=q6 h;omega
 obtain ⟨k1,k2,k3,k4,k5,k6⟩:=key
 have hf:zl5 (ya0 i)=i:=by
  unfold zl5;rw [k1,k6]
  have e1:(if (zz5 i.op).d then ya0 i/4194304%16 else 0)=i.d:=by
   cases hd:(zz5 i.op).d with
   |true=>exact k3 hd
   |false=>exact (r2.2.2 hd).symm
  have e2:(if (zz5 i.op).a then ya0 i/262144%16 else 0)=i.a:=by
   cases hd:(zz5 i.op).a with
   |true=>exact k4 hd
   |false=>exact (r3.2.2 hd).symm
  have e3:(if (zz5 i.op).b then ya0 i/16384%16 else 0)=i.b:=by
   cases hd:(zz5 i.op).b with
   |true=>exact k5 hd
   |false=>exact (r4.2.2 hd).symm
  have e4:(if (zz5 i.op).signed then sgnW (i.imm%2^(zz5 i.op).bits) (zz5 i.op).bits else i.imm%2^(zz5 i.op).bits)=i.imm:=by
   unfold immB at h5
   cases hs:(zz5 i.op).signed with
   |true=>
    have hpos:=(q4 hs).1;rw [hs,if_neg zO] at h5;rw [if_pos rfl,z4w _ q1 hpos]
    simpa using h5
   |false=>
    rw [hs] at h5;rw [if_neg (by decide)];unfold word at him;rcases q1 with q|q|q
    ·rw [q] at h5⊢
     have h0:i.imm=0:=(by simpa using h5);rw [h0];rfl
    ·rw [q,if_neg (by decide),if_neg (by decide)] at h5
     rw [q];have e:(2:Int)^18=262144:=rfl;rw [e] at h5⊢
     split at h5
     ·have:=of_decide_eq_true h5;omega
     ·have:=of_decide_eq_true h5;omega
    ·rw [q,if_neg (by decide),if_neg (by decide)] at h5
     rw [q];have e:(2:Int)^22=4194304:=rfl;rw [e] at h5⊢
     split at h5
     ·have:=of_decide_eq_true h5;omega
     ·have:=of_decide_eq_true h5;omega
  rw [e1,e2,e3,e4]
 refine ⟨?_,k2⟩;unfold decQ;rw [hf];unfold encQ;rw [if_pos hv,if_pos rfl]
end Go.Proofs.YtocafomnnkmjfaaGreat
