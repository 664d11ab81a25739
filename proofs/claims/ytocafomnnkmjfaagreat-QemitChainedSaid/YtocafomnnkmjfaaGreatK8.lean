import Derived.Test.YtocafomnnkmjfaaGreatK7
namespace Go.Proofs.YtocafomnnkmjfaaGreat
open Go.RowKit
def segA (acc:List BOp) (o:BOp):List BOp:=if o.code=20 then [o] else acc++[o]
def segF (l:List BOp):List BOp:=l.foldl segA []
def ordB (acc:List BOp) (o:BOp):Bool:=(reads o).all (zsv acc)&&(!leaves o.code||zof acc)
def run2:Nat→List BOp→List BOp→Option Nat
 |m,_,[]=>some m
 |m,acc,o::l=>match z4z m o l with|some m'=>(if (o.code==20||ordB acc o)=true then run2 m' (segA acc o) l else none)|none=>none
theorem z8j {l:List BOp} {k:Nat} {o:BOp} (h:l[k]?=some o):l.take (k+1)=l.take k++[o]:=by rw [List.take_add_one,h];rfl
theorem z3v {l:List BOp}:∀ (i:Nat) {o:BOp},l[i]?=some o→o.code≠20→seg l i=segF (l.take i)
 |0,o,h,hc=>by simp [seg,segF]
 |k+1,o,h,hc=>by
  have hk:k<l.length:=by
   rcases Nat.lt_or_ge (k+1) l.length with h1|h1
   ·omega
   ·rw [List.getElem?_eq_none h1] at h;cases h
  obtain ⟨p,hp⟩:∃ p,l[k]?=some p:=⟨_,List.getElem?_eq_getElem hk⟩
  have hlen:(l.take k).length=k:=by rw [List.length_take];omega
  have hf:zmt l (k+1)=zmt l k:=by
   show (if _ then _ else _)=_;rw [if_neg (by rw [h];simpa using hc)]
  have hs:segF (l.take (k+1))=segA (segF (l.take k)) p:=(by unfold segF;rw [z8j hp,List.foldl_append];rfl);rw [hs];unfold seg;rw [hf,z8j hp];unfold segA;by_cases hpc:p.code=20
  ·rw [if_pos hpc]
   have hfk:zmt l k=(k:Int):=by
    cases k with
    |zero=>show (if _ then _ else _)=_;rw [if_pos (by rw [hp];simp [hpc])];rfl
    |succ k=>show (if _ then _ else _)=_;rw [if_pos (by rw [hp];simp [hpc])]
   rw [hfk,Int.toNat_natCast,List.drop_append,hlen,Nat.sub_self,List.drop_eq_nil_of_le zO];rfl
  ·rw [if_neg hpc]
   have ih:=z3v k hp hpc;unfold seg at ih;have hle:=zmv l k;rw [List.drop_append_of_le_length (by rw [hlen];omega),ih]
theorem zxd {l:List BOp}:zxb l=true↔∀ i o,l[i]?=some o→(o.code==20||ordB (segF (l.take i)) o)=true:=by
 unfold zxb;rw [List.all_eq_true]
 have key:∀ i o,l[i]?=some o→zxc l i o=(o.code==20||ordB (segF (l.take i)) o):=fun i o ho=>by
  by_cases hc:o.code=20
  ·have h1:(o.code==20)=true:=by simp [hc]
   rw [h1,Bool.true_or];unfold zxc;have e1:reads o=[]:=(by unfold reads;rw [hc];rfl);have e2:leaves o.code=false:=(by rw [hc];rfl);rw [e1,e2];rfl
  ·have h1:(o.code==20)=false:=by simp [hc]
   rw [h1,Bool.false_or];unfold zxc ordB;rw [z3v i ho hc]
 constructor
 ·intro h i o ho
  have hi:i<l.length:=by
   rcases Nat.lt_or_ge i l.length with h1|h1
   ·exact h1
   ·rw [List.getElem?_eq_none h1] at ho;cases ho
  have:=h i (List.mem_range.2 hi);rw [ho] at this;rw [← key i o ho];exact this
 ·intro h i hi
  cases ho:l[i]? with
  |none=>rfl
  |some o=>show zxc l i o=true;rw [key i o ho];exact h i o ho
open Classical in
theorem z17:∀ (l pre:List BOp) (m:Nat),run2 m (segF pre) l=if (∀ i o,l[i]?=some o→(o.code==20||ordB (segF (pre++l.take i)) o)=true) then z4x m l else none
 |[],pre,m=>by rw [if_pos (by intro i o h;simp at h)];rfl
 |o::l,pre,m=>by
  have ih:=fun m'=>z17 l (pre++[o]) m';have hseg:segF (pre++[o])=segA (segF pre) o:=(by unfold segF;rw [List.foldl_append];rfl);show (match z4z m o l with|some m'=>(if (o.code==20||ordB (segF pre) o)=true then run2 m' (segA (segF pre) o) l else none)|none=>none)=_
  have hiff:(∀ i q,(o::l)[i]?=some q→(q.code==20||ordB (segF (pre++(o::l).take i)) q)=true)↔((o.code==20||ordB (segF pre) o)=true∧∀ i q,l[i]?=some q→(q.code==20||ordB (segF (pre++[o]++l.take i)) q)=true):=by
   constructor
   ·intro h
    refine ⟨by simpa using h 0 o rfl,fun i q hq=>?_⟩;have:=h (i+1) q (by simpa using hq)
    simpa using this
   ·rintro ⟨h1,h2⟩ i q hq
    cases i with
    |zero=>simp at hq;subst hq;simpa using h1
    |succ i=>simpa using h2 i q (by simpa using hq)
  show _=if _ then (match z4z m o l with|some m'=>z4x m' l|none=>none) else none
  cases hst:z4z m o l with
  |none=>simp
  |some m'=>
   show (if _ then run2 m' (segA (segF pre) o) l else none)=if _ then z4x m' l else none
   rw [← hseg,ih m'];by_cases h1:(o.code==20||ordB (segF pre) o)=true
   ·rw [if_pos h1]
    by_cases h2:∀ i q,l[i]?=some q→(q.code==20||ordB (segF (pre++[o]++l.take i)) q)=true
    ·rw [if_pos h2,if_pos (hiff.2 ⟨h1,h2⟩)]
    ·rw [if_neg h2,if_neg (fun h=>h2 (hiff.1 h).2)]
   ·rw [if_neg h1,if_neg (fun h=>h1 (hiff.1 h).1)]
structure CkRel (s:Ck) (m:Nat) (acc:List BOp):Prop where
 marks:s.marks=m
 bits:∀ v:Nat,20≤v→v<28→s.written.testBit v=acc.any fun p=>writes p==(v:Int)
 ch:s.changed= !zof acc
theorem z06 {s:Ck} {m:Nat} {acc:List BOp} (h:CkRel s m acc) {o:BOp} (hf:znt o=true):(reads o).all (z0u s)=(reads o).all (zsv acc):=by
 have:∀ v∈reads o,z0u s v=zsv acc v:=fun v hv=>by
  obtain ⟨v0,v1⟩:=z1b hf v hv;unfold z0u zsv;by_cases h20:v<20
  ·simp [h20]
  ·have:=h.bits v.toNat zO zO
   rw [this,show ((v.toNat:Nat):Int)=v by omega]
 rw [Bool.eq_iff_iff,List.all_eq_true,List.all_eq_true];exact ⟨fun h v hv=>by rw [← this v hv];exact h v hv,fun h v hv=>by rw [this v hv];exact h v hv⟩
theorem zgg:∀ (l:List BOp) (s:Ck) (m:Nat) (acc:List BOp),CkRel s m acc→(zga s l).map (·.marks)=run2 m acc l
 |[],s,m,acc,h=>by show some s.marks=some m;rw [h.marks]
 |o::l,s,m,acc,h=>by
  have ihl:=zgg l
  show Option.map _ (match zf3 s o l.isEmpty (zll l) with|some s'=>zga s' l|none=>none)=match z4z m o l with|some m'=>(if (o.code==20||ordB acc o)=true then run2 m' (segA acc o) l else none)|none=>none
  by_cases hf':znt o=false
  ·unfold zf3 z4z
   rw [hf'];rfl
  have hf:znt o=true:=by simpa using hf'
  by_cases hp':((zju o.code==l.isEmpty)&& !(o.code==23&& !zll l))=false
  ·unfold zf3 z4z zyp
   rw [hp',hf,Bool.false_and,Bool.and_false];have:(true&&(zju o.code==l.isEmpty)&& !(o.code==23&& !zll l))=false:=(by rw [Bool.true_and];exact hp');rw [this];rfl
  have hp:((zju o.code==l.isEmpty)&& !(o.code==23&& !zll l))=true:=by rwa [Bool.not_eq_false] at hp'
  have hsh:z4z m o l=if o.code==20 then (if o.n==(m:Int) then some (m+1) else none) else some m:=by
   unfold z4z;rw [if_pos (by rw [hf,Bool.true_and];exact hp)]
  rw [hsh];by_cases hc:o.code=20
  ·have hc':(o.code==20)=true:=by simp [hc]
   have hl:leaves o.code=false:=by rw [hc];rfl
   have hck:zf3 s o l.isEmpty (zll l)=if o.n==(s.marks:Int) then some ⟨s.marks+1,0,false⟩ else none:=by
    unfold zf3 zyp;rw [hf,hp,hl,hc'];rfl
   rw [hck,h.marks,hc'];simp only [if_true,Bool.true_or];by_cases hn:(o.n==(m:Int))=true
   ·rw [if_pos hn,if_pos hn]
    refine ihl _ _ _ ⟨rfl,fun v v0 v1=>?_,?_⟩
    ·unfold segA
     rw [if_pos hc];have hw:writes o= -1:=(by unfold writes;rw [hc];rfl);have:(writes o==(v:Int))=false:=(by rw [hw,beq_eq_false_iff_ne];omega);simp [this]
    ·unfold segA zof
     rw [if_pos hc];have hw:writes o= -1:=(by unfold writes;rw [hc];rfl);simp [hw,hc]
   ·rw [if_neg hn,if_neg hn];rfl
  ·have hc':(o.code==20)=false:=by simp [hc]
   rw [hc'];simp only [Bool.false_eq_true,if_false,Bool.false_or]
   have hck:zf3 s o l.isEmpty (zll l)=if ordB acc o=true then some ⟨s.marks,if 20≤writes o then s.written|||2^(writes o).toNat else s.written,s.changed||(stores o.code||decide (0≤writes o∧writes o<20))⟩ else none:=by
    unfold zf3 zyp ordB;rw [hf,hp,hc',z06 h hf,h.ch]
    cases leaves o.code<;>cases zof acc<;>cases (reads o).all (zsv acc)<;>rfl
   rw [hck];by_cases ho:ordB acc o=true
   ·rw [if_pos ho,if_pos ho]
    refine ihl _ _ _ ⟨h.marks,fun v v0 v1=>?_,?_⟩
    ·unfold segA
     rw [if_neg hc,List.any_append, ← h.bits v v0 v1];simp only [List.any_cons,List.any_nil,Bool.or_false]
     split
     ·rename_i hw
      rw [Nat.testBit_or,Nat.testBit_two_pow]
      congr 1
      rw [Bool.eq_iff_iff];simp;omega
     ·rename_i hw
      have:(writes o==(v:Int))=false:=(by rw [beq_eq_false_iff_ne];omega);rw [this,Bool.or_false]
    ·unfold segA
     rw [if_neg hc];show (s.changed||_)= !(List.all (acc++[o]) _);rw [List.all_append,h.ch]
     have h19:writes o≠19:=by
      unfold writes
      split
      ·rename_i hD
       unfold znt at hf;simp only [Bool.and_eq_true] at hf;have hd:=hf.1.1.1.2;rw [hD] at hd;unfold zl3 at hd;rw [if_pos rfl,decide_eq_true_eq] at hd;exact hd.2.2
      ·omega
     have e:(stores o.code||decide (0≤writes o∧writes o<20))=(decide (0≤writes o∧writes o≤18)||o.code==18||o.code==19):=by
      unfold stores;rw [Bool.eq_iff_iff];simp;omega
     rw [e];unfold zof;simp only [List.all_cons,List.all_nil,Bool.and_true,Bool.not_and,Bool.not_not]
   ·rw [if_neg ho,if_neg ho];rfl
theorem z9u (b:Blk):z9k b=z9g b:=by
 unfold z9k z9g
 cases zpu b
 ·rfl
 have h1:=zgg b.ops ⟨0,0,false⟩ 0 [] ⟨rfl,fun v _ _=>by simp,rfl⟩;have h2:=z17 b.ops [] 0;have h3:=zxd (l:=b.ops);rw [show segF []=[] from rfl] at h2;rw [h2] at h1;simp only [List.nil_append] at h1;by_cases ho:zxb b.ops=true
 ·rw [if_pos (h3.1 ho)] at h1
  rw [ho]
  cases hs:zga ⟨0,0,false⟩ b.ops with
  |none=>rw [hs] at h1;rw [← h1];rfl
  |some s=>rw [hs] at h1;rw [← h1];rfl
 ·rw [if_neg (fun h=>ho (h3.2 h))] at h1
  have ho':zxb b.ops=false:=by simpa using ho
  rw [ho']
  cases hs:zga ⟨0,0,false⟩ b.ops with
  |none=>cases z4x 0 b.ops<;>rfl
  |some s=>rw [hs] at h1;cases h1
theorem mixed:Tryz.prog.follows .mixedOrders=true:=by kernel_rfl
def foldP (b:Blk):Blk:=⟨b.at_,b.pages,zng b⟩
def copyP (b:Blk):Blk:=⟨b.at_,b.pages,zg8 b⟩
def deadP (b:Blk):Blk:=⟨b.at_,b.pages,zh9 b⟩
def zwc (b:Blk):Blk:=deadP (copyP (foldP b))
def optN:Nat→Blk→Blk
 |0,b=>b
 |n+1,b=>if (zwc b).ops=b.ops then b else optN n (zwc b)
structure PreOk (ops:List BOp) (i W:Nat) (ch:Bool):Prop where
 run:ckL ⟨0,0,false⟩ ops=some ⟨i,W,ch⟩
 all:∀ o∈ops,o.ok∧o.code≠23
 head:(i=0∧ops=[])∨∃ o l,ops=o::l∧o.code=20
theorem PreOk.nil:PreOk [] 0 0 false:=⟨rfl,nofun,.inl ⟨rfl,rfl⟩⟩
theorem zf6 (i W:Nat) (ch:Bool):zf3 ⟨i,W,ch⟩ ⟨20,0,0,0,(i:Int)⟩ false false=some ⟨i+1,0,false⟩:=by
 have h1:znt ⟨20,0,0,0,(i:Int)⟩=true:=rfl;have h2:zyp ⟨i,W,ch⟩ ⟨20,0,0,0,(i:Int)⟩ false false=true:=(by cases ch<;>rfl);unfold zf3;rw [h1,h2];simp
theorem PreOk.mark {ops:List BOp} {i W:Nat} {ch:Bool} (h:PreOk ops i W ch) (hi:i<1000):PreOk (ops++[⟨20,0,0,0,(i:Int)⟩]) (i+1) 0 false:=by
 refine ⟨?_,fun o ho=>?_,.inr ?_⟩
 ·rw [zf2,h.run]
  show (match zf3 _ _ false false with|some s'=>ckL s' []|none=>none)=_;rw [zf6];rfl
 ·rcases List.mem_append.1 ho with ho|ho
  ·exact h.all o ho
  ·simp at ho;subst ho
   exact ⟨⟨zux zU,mid0,mid0,mid0,by unfold word;dsimp only;omega⟩,by dsimp only;omega⟩
 ·rcases h.head with ⟨_,h1⟩|⟨o,l,h1,h2⟩
  ·subst h1;exact ⟨_,[],rfl,rfl⟩
  ·subst h1;exact ⟨o,_,rfl,h2⟩
theorem PreOk.body {ops l:List BOp} {i W:Nat} {ch:Bool} (h:PreOk ops i 0 false) (hb:BodyOk l W ch) (hi:0<i):PreOk (ops++l) i W ch:=by
 refine ⟨?_,fun o ho=>?_,.inr ?_⟩
 ·rw [zf2,h.run];exact hb.run i
 ·rcases List.mem_append.1 ho with ho|ho
  ·exact h.all o ho
  ·have:=hb.all o ho
   refine ⟨this.1,?_⟩;have h2:=this.2;unfold zd7 at h2;rw [decide_eq_true_eq] at h2;omega
 ·rcases h.head with ⟨h0,_⟩|⟨o,l',h1,h2⟩
  ·omega
  ·subst h1;exact ⟨o,_,rfl,h2⟩
structure TailOk (t:List BOp) (ch:Bool):Prop where
 run:∀ (i W:Nat),zga ⟨i,W,ch⟩ t=some ⟨i,W,ch⟩
 all:∀ o∈t,o.ok
 ne:t≠[]
structure MadeOk (b:Blk):Prop where
 ok:b.ok
 valid:z9g b=true
 len:b.ops.length≤200
 lp:b.pages.length≤10
def ztb:List BOp→Int→Bool
 |[],_=>false
 |o::l,v=>if memI v (reads o)||(zv1 o&&decide (v<19)) then true else if writes o==v then false else ztb l v
theorem ybj {o:BOp} (hf:znt o=true):writes o<28:=by
 have:=ybl hf;exact this
section
variable {P:Program} {w0:World} {G:Gs} {N:Nd} {o:Oper} {f:Fr} {S:List Ow} {K:Fr→List Ow→Prop}
variable {r:Env} {a:Act} {w:World} {next:Act→World→Prop} {Q:Exit→Act→World→Prop}
theorem zox (_hR:Rel w0 G S r w) (hf:FDen r f a) (hN:a.tmps.size=N.n) (hd:a.defers=N.ds) (hdst:zjc N.n o.dst=true) {v:AV} {u:Value} {S':List Ow} {r':Env} {w':World} (hv:v.den r' u) (hR':Rel w0 G S' r' w') (hle:r.le r'):
  Good w0 G N (f.put o.dst v) S' (a.put o.dst u) w':=
 ⟨r',hR',(hf.mono hle).put hv (by rw [hN];exact hdst),(zzh a _ _).trans hN,(zze a _ _).trans hd⟩
theorem zbd (r:Env) (w:World) (n:Nat) (t:TypeId) {l:List CV} {us:List Value} (h:denL (r.set n (some w.heap.size) none) l us):(Ow.cells t l).holds (r.set n (some w.heap.size) none) (w.alloc (.cells us.toArray t)) n:=
 ⟨w.heap.size,us,by simp [Env.set],heap_alloc_new w _,h⟩
theorem zow (hR:Rel w0 G S r w) (hf:FDen r f a) (hN:a.tmps.size=N.n) (hd:a.defers=N.ds) (hdst:zjc N.n o.dst=true) {t:TypeId} {l:List CV} {us:List Value} (hl:denL r l us):
  Good w0 G N (f.put o.dst (.p (.c (.ref S.length 0)))) (S++[.cells t l]) (a.put o.dst (.pointer (some ⟨w.heap.size,0,none⟩))) (w.alloc (.cells us.toArray t)):=by
 have hle:=hR.le_new (some w.heap.size) none;refine zox hR hf hN hd hdst (r':=r.set S.length (some w.heap.size) none) (zi1 (by simp [Env.set])) (hR.snoc ((Below.refl _ _).alloc (Nat.le_refl _) _) (fun x hx=>by injection hx with hx;subst hx;simp) (zbd r w _ t (zip hle _ _ hl))) hle
theorem zbb {t:TypeId} (hop:o.op= .alloc t) (h:zba P o f S t K) (hdst:zjc N.n o.dst=true) (hR:Rel w0 G S r w) (hf:FDen r f a) (hN:a.tmps.size=N.n) (hd:a.defers=N.ds)
  (hK:∀ f' S' a' w',K f' S'→Good w0 G N f' S' a' w'→next a' w'):Oper.se P o a w next:=by
 unfold zba at h
 split at h
 ·rename_i i hi
  split at h
  ·rename_i z hz
   rw [znr,zs2,znp,zy5] at h
   have hrun:(execOp a.eval o).run P w= .ok (.value (.pointer (some ⟨w.heap.size,0,none⟩))) (w.alloc (.cells z.cells t)):=by
    simp [execOp,hop,Instr.alloc,zeroValue,typeInfo,hi,hz,newVar,newRow]
   exact ya8 hrun (hK _ _ _ _ h (by have:=zow (o:=o) (t:=t) hR hf hN hd hdst (ziv (r:=r) z.cells.toList);simpa using this))
  ·exact h.elim
 ·exact h.elim
theorem zd9 {t:TypeId} {x:Operand} (hop:o.op= .box t x) (h:boxK o f S t (f.ev x) K) (hdst:zjc N.n o.dst=true) (hR:Rel w0 G S r w) (hf:FDen r f a) (hN:a.tmps.size=N.n) (hd:a.defers=N.ds)
  (hK:∀ f' S' a' w',K f' S'→Good w0 G N f' S' a' w'→next a' w'):Oper.se P o a w next:=by
 unfold boxK at h
 split at h
 ·rename_i l hl
  rw [zs2,znp,zy5] at h
  have hrun:(execOp a.eval o).run P w= .ok (.value (.pointer (some ⟨w.heap.size,0,none⟩))) (w.alloc (.cells (a.eval x).cells t)):=by
   simp [execOp,hop,Instr.box,newVar,newRow]
  exact ya8 hrun (hK _ _ _ _ h (by have:=zow (o:=o) (t:=t) hR hf hN hd hdst (zv6 hR hl (hf.ev x));simpa using this))
 ·exact h.elim
theorem z7k {t:TypeId} {x y:Operand} (hop:o.op= .store t x y) (h:z7j P o f S t (f.ev x) (f.ev y) K) (hdst:zjc N.n o.dst=true) (hR:Rel w0 G S r w) (hf:FDen r f a) (hN:a.tmps.size=N.n) (hd:a.defers=N.ds)
  (hK:∀ f' S' a' w',K f' S'→Good w0 G N f' S' a' w'→next a' w'):Oper.se P o a w next:=by
 unfold z7j at h
 split at h
 ·rename_i i off hx
  have hxd:=hf.ev x;rw [hx] at hxd;obtain ⟨b,hb,hu⟩:=zi4 hxd
  split at h
  ·rename_i cs hcs
   have hdc:=zv6 hR hcs (hf.ev y);have hlen:=zio hdc
   split at h
   ·rename_i inf hinf
    split at h
    ·rename_i hsz
     have e1:cs.length=inf.size:=Nat.eq_of_beq_eq_true hsz
     split at h
     ·rename_i hones
      have hone:=zwj hR hones hdc
      have hil:i<S.length:=by
       rcases Nat.lt_or_ge i S.length with h1|h1
       ·exact h1
       ·rw [hR.outB i h1] at hb;cases hb
      have hrun:∀ w',(storeCells ⟨b,off,none⟩ (a.eval y).cells.toList 0).run P w= .ok () w'→(execOp a.eval o).run P w= .ok .skip w':=fun w' h'=>by
       have hz:¬(a.eval y).cells.size≠inf.size:=(by rw [← Array.length_toList,hlen,e1];simp);simp only [execOp,hop,Instr.storeAt,hu,Instr.sureAddr,storeVar,Sem.run_bind,Sem.run_pure,Result.andThen_ok,z2j P t w hinf,if_neg hz,h']
      split at h
      ·rename_i t' l hS
       split at h
       ·rename_i hle
        rw [znr,znp,zy5] at h;obtain ⟨b',us,h1,h2,h3⟩:=hR.own i _ hS;rw [hb] at h1;injection h1 with h1;subst h1;have hll:=zio h3;have e2:=Nat.le_of_ble_eq_true hle;obtain ⟨w',hr,hg,hbl⟩:=z2l (P:=P) (a.eval y).cells.toList (i:=0) (off:=off) h2 hone zO;refine ya7 (hrun w' hr) (hK _ _ _ _ h ?_);refine zox hR hf hN hd hdst (by simp [AV.den,Pc.den,CV.den]) (hR.setBlock hb hg ⟨b,_,hb,hbl,?_⟩ hil) (Env.le.refl r);exact zis _ hdc h3
       ·exact h.elim
      ·rename_i e size n xs hS
       split at h
       ·rename_i us hus
        obtain ⟨hle,h⟩:=h;rw [znp,zy5] at h;have hv:=z9y hus hdc;obtain ⟨v,h1,h2,h3⟩:=hR.own i _ hS;obtain ⟨hxl,h4⟩:=h3;rcases h4 with ⟨hvn,hn0⟩|⟨g,cap,cur,hvg,hg0,hh,hnc,hcm,hcs',htk⟩
        ·rw [hvn,hb] at h2;cases h2
        ·have hgb:g=b:=by rw [hvg,hb] at h2;simpa [Value.ownBlock] using h2
         subst hgb;have hcl:cur.toList.length=cap*size:=(by simpa using hcs');have hnm:n*size≤cap*size:=Nat.mul_le_mul_right size hnc;obtain ⟨w',hr,hg,hbl⟩:=z2l (P:=P) (a.eval y).cells.toList (i:=0) (off:=off) (cs:=cur.toList) (by simpa using hh) hone (by rw [hv];omega);refine ya7 (hrun w' hr) (hK _ _ _ _ h ?_);refine zox hR hf hN hd hdst (by simp [AV.den,Pc.den,CV.den]) (hR.setBlock hb hg ⟨v,h1,h2,by rw [z31];exact hxl,.inr ⟨g,cap,(z3z cur.toList off us).toArray,hvg,hg0,by rw [hbl,hv];simp,hnc,hcm,by simp [z31,hcl],?_⟩⟩ hil) (Env.le.refl r);have hsplit:cur.toList=xs++cur.toList.drop (n*size):=(by rw [← htk];exact (List.take_append_drop _ _).symm);rw [List.toList_toArray,hsplit,z33 us xs off hle _ (Nat.le_refl _),List.take_append_of_le_length (by rw [z31];omega),List.take_of_length_le (by rw [z31];omega)]
       ·exact h.elim
      ·exact h.elim
     ·exact h.elim
    ·exact h.elim
   ·exact h.elim
  ·exact h.elim
 ·exact h.elim
theorem zii (r:Env):∀ us:List Value,denL r (List.replicate us.length .any) us
 |[]=>by simp [denL]
 |u::us=>by simp only [List.length_cons,List.replicate_succ,denL];exact ⟨u,us,rfl,by simp only [CV.den],zii r us⟩
theorem zed {t:TypeId} {n:Nat} {parts:Array (Nat×Operand)} (hop:o.op= .buildSlice t n parts) (h:zec P o f S t n parts K) (hdst:zjc N.n o.dst=true) (hR:Rel w0 G S r w) (hf:FDen r f a) (hN:a.tmps.size=N.n) (hd:a.defers=N.ds)
  (hK:∀ f' S' a' w',K f' S'→Good w0 G N f' S' a' w'→next a' w'):Oper.se P o a w next:=by
 unfold zec at h
 split at h
 ·rename_i e ht
  split at h
  ·rename_i i hi
   split at h
   ·rename_i z hz
    split at h
    ·rename_i hzs
     split at h
     ·rename_i hle
      split at h
      ·rename_i l hl
       rw [znp,zs2,znp,zy5] at h;have e1:z.cells.size=i.size:=Nat.eq_of_beq_eq_true hzs;have e2:n*i.size≤16777216:=Nat.le_of_ble_eq_true hle
       have hlen:∀ zero:Array Value,((Array.range (n*i.size)).map (zero[· %zero.size]!)).toList.length=n*i.size:=fun zero=>by simp
       have hany:∀ zero:Array Value,denL r (List.replicate (n*i.size) .any) ((Array.range (n*i.size)).map (zero[· %zero.size]!)).toList:=fun zero=>by
        have:=zii r ((Array.range (n*i.size)).map (zero[· %zero.size]!)).toList
        rwa [hlen zero] at this
       have hrun:∃ vs:List Value,denL r l vs∧(execOp a.eval o).run P w= .ok (.value (.slice (some ⟨w.heap.size,0,none⟩) n n)) (w.alloc (.cells vs.toArray e)):=by
        have e3:(parts.map fun (i,x)=>(i,a.eval x)).toList=parts.toList.map fun p=>(p.1,a.eval p.2):=(by simp);by_cases h0:n*i.size=0
        ·obtain ⟨vs,hv,hdv⟩:=zmd hR hf parts.toList _ l _ hl (hany #[])
         refine ⟨vs,hdv,?_⟩;simp only [execOp,hop,Instr.buildSlice,underlying,Sem.run_bind,run_program,Result.andThen_ok,ht,Sem.run_pure,z2j P e w hi,e3];rw [if_neg zO,if_pos h0]
         have hv':Instr.fill (fun k=>some (k*i.size,i.size)) ((Array.range (n*i.size)).map ((#[]:Array Value)[· %(#[]:Array Value).size]!)) (parts.toList.map fun p=>(p.1,a.eval p.2))=some vs.toArray:=by
          rw [← hv,Array.toArray_toList]
         simp only [Sem.run_bind,Sem.run_pure,Result.andThen_ok];rw [hv'];simp [newRow]
        ·obtain ⟨vs,hv,hdv⟩:=zmd hR hf parts.toList _ l _ hl (hany z.cells)
         refine ⟨vs,hdv,?_⟩;simp only [execOp,hop,Instr.buildSlice,underlying,Sem.run_bind,run_program,Result.andThen_ok,ht,Sem.run_pure,z2j P e w hi,e3];rw [if_neg zO,if_neg h0];simp only [zeroValue,typeInfo,Sem.run_bind,run_program,Result.andThen_ok,hi,hz,Sem.run_pure]
         have hv':Instr.fill (fun k=>some (k*i.size,i.size)) ((Array.range (n*i.size)).map (z.cells[· %z.cells.size]!)) (parts.toList.map fun p=>(p.1,a.eval p.2))=some vs.toArray:=by
          rw [← hv,Array.toArray_toList]
         rw [hv'];simp [newRow]
       obtain ⟨vs,hdv,hrun⟩:=hrun;refine ya8 hrun (hK _ _ _ _ h ?_);have hle:=hR.le_new (some w.heap.size) none;refine zox hR hf hN hd hdst (r':=r.set S.length (some w.heap.size) none) ?_ (hR.snoc ((Below.refl _ _).alloc (Nat.le_refl _) _) (fun x hx=>by injection hx with hx;subst hx;simp) (zbd r w _ e (zip hle _ _ hdv))) hle;simp only [AV.den,Pc.den,CV.den];exact ⟨w.heap.size,by simp [Env.set],rfl⟩
      ·exact h.elim
     ·exact h.elim
    ·exact h.elim
   ·exact h.elim
  ·exact h.elim
 ·exact h.elim
theorem zc6 {r:Env}:∀ us:List Value,zc1 r (us.map fun c=>AV.of c) us
 |[]=>rfl
 |u::us=>⟨u,us,rfl,AV.of_den r u,zc6 us⟩
theorem zez {fn:Operand} {args:Array Operand} {tys:Array TypeId} (hop:o.op= .call ⟨.value fn,args,tys⟩) (h:zey P w0 G o f S (f.ev fn) args.toList K) (hdst:zjc N.n o.dst=true) (hR:Rel w0 G S r w) (hf:FDen r f a) (hN:a.tmps.size=N.n) (hd:a.defers=N.ds)
  (hK:∀ f' S' a' w',K f' S'→Good w0 G N f' S' a' w'→next a' w'):Oper.se P o a w next:=by
 have hfn:=hf.ev fn;unfold zey at h
 split at h
 ·rename_i fid cap he
  rw [he] at hfn;obtain ⟨us,hu,hcap⟩:=zi0 hfn;rw [zkt] at h;obtain ⟨hok,hc⟩:=h
  have hrun:(execOp a.eval o).run P w= .ok (.enter fid ((args.map a.eval)++us.toArray)) w:=by
   simp [execOp,hop,resolve,Deferred.ofValue,hu,invoke,z19 hok]
  refine ya6 hrun ?_;have:=hc r w ((args.toList.map a.eval)++us) hR (zc2 (zc4 hf _) (zc3 hcap));rw [show ((args.toList.map a.eval)++us).toArray=(args.map a.eval)++us.toArray by apply Array.ext';simp] at this
  refine Calls.mono this fun e w' ⟨v,u,S',r',he,hv,hR',hle,hKv⟩=>⟨u,he,hK _ _ _ _ (zy5.1 hKv) (zox hR hf hN hd hdst hv hR' hle)⟩
 ·rename_i fid first cap he
  rw [he] at hfn;have hu:=zi6 hfn
  split at h
  ·rename_i hfst
   have ef:first= #[]:=Array.ext' hfst;rw [zkt] at h;obtain ⟨hok,hc⟩:=h
   have hrun:(execOp a.eval o).run P w= .ok (.enter fid ((args.map a.eval)++cap)) w:=by
    simp [execOp,hop,resolve,Deferred.ofValue,hu,ef,invoke,z19 hok]
   refine ya6 hrun ?_;have:=hc r w ((args.toList.map a.eval)++cap.toList) hR (zc2 (zc4 hf _) (zc6 _));rw [show ((args.toList.map a.eval)++cap.toList).toArray=(args.map a.eval)++cap by apply Array.ext';simp] at this
   refine Calls.mono this fun e w' ⟨v,u,S',r',he,hv,hR',hle,hKv⟩=>⟨u,he,hK _ _ _ _ (zy5.1 hKv) (zox hR hf hN hd hdst hv hR' hle)⟩
  ·exact h.elim
 ·exact h.elim
theorem z0l (h:match opTy P o.op with|true=>qop P w0 G S f o fun v=>(f.putK o.dst v fun f'=>K f' S)|false=>False) (hdst:zjc N.n o.dst=true) (hR:Rel w0 G S r w) (hf:FDen r f a) (hN:a.tmps.size=N.n) (hd:a.defers=N.ds)
  (hK:∀ f' S' a' w',K f' S'→Good w0 G N f' S' a' w'→next a' w'):Oper.se P o a w next:=by
 split at h
 ·rename_i hty
  obtain ⟨v,u,hKv,hv,hrun⟩:=z0n h hty hR hf;exact ya8 (hrun w (Below.refl _ _)) (hK _ _ _ _ (zy5.1 hKv) (zox hR hf hN hd hdst hv hR (Env.le.refl r)))
 ·exact h.elim
theorem zwp (h:opK P w0 G N o f S K):OpS P w0 G N o f S K:=by
 refine ⟨?_⟩;intro r a w hR hf hN hd next Q hK;unfold opK at h
 split at h
 ·exact h.elim
 ·rename_i hdst
  split at h
  ·rename_i t hop;exact zbb hop h hdst hR hf hN hd hK
  ·rename_i t x hop;exact zd9 hop h hdst hR hf hN hd hK
  ·rename_i t x y hop;exact z7k hop h hdst hR hf hN hd hK
  ·rename_i t n parts hop;exact zed hop h hdst hR hf hN hd hK
  ·rename_i fn args tys hop;exact zez hop h hdst hR hf hN hd hK
  all_goals first|exact z0l h hdst hR hf hN hd hK|exact h.out r a w hR hf hN hd next Q hK
end
structure QI where
 op:Int
 d:Int
 a:Int
 b:Int
 imm:Int
structure QI.ok (i:QI):Prop where
 op:0≤i.op∧i.op<64
 d:0≤i.d∧i.d<16
 a:0≤i.a∧i.a<16
 b:0≤i.b∧i.b<16
 imm:word i.imm
def zzu (op:Int):Int:=
 if 1≤op∧op≤10 then op+2 else if op=11 then 14 else if op=12 then 15 else if op=16 then 3 else if 17≤op∧op≤22 then op-12 else 0
def zhz (x:Int):Int:=x%4294967296
theorem zh0 (x:Int):word (zhz x):=by unfold word zhz;omega
def qSet (d n:Int):List BOp:=if d=0 then [] else [⟨1,d,0,0,n⟩]
def zzz (d:Int):Int:=if d=0 then 20 else d
def zzs (i:QI):List BOp:=
 (if i.op=10 then [⟨21,0,i.b,0,0⟩] else [])++(if i.d=0 then [] else if 16≤i.op then [⟨1,20,0,0,i.imm⟩,⟨zzu i.op,i.d,i.a,20,0⟩] else [⟨zzu i.op,i.d,i.a,i.b,0⟩])
def zz0 (op:Int):Int:=if op=32 then 13 else if op=33 then 7 else if op≤35 then 14 else 15
def qTest (i:QI):List BOp:=
 [⟨zz0 i.op,20,i.d,i.a,0⟩]++(if i.op=35∨i.op=37 then [⟨1,21,0,0,1⟩,⟨7,20,20,21,0⟩] else [])
def qBody (i:QI) (at_:Int):List BOp:=
 if zzu i.op≠0 then zzs i
 else if i.op=41 then qSet i.d (zhz (i.imm*1024))
 else if i.op=23 then [⟨16,zzz i.d,i.a,0,i.imm⟩]
 else if i.op=24 then [⟨17,zzz i.d,i.a,0,i.imm⟩]
 else if i.op=25 then [⟨18,0,i.a,i.d,i.imm⟩]
 else if i.op=26 then [⟨19,0,i.a,i.d,i.imm⟩]
 else if i.op=27 then [⟨1,21,0,0,i.imm⟩,⟨3,20,i.a,21,0⟩,⟨1,21,0,0,4294967292⟩,⟨5,20,20,21,0⟩]++qSet i.d (zhz (at_+4))
 else if i.op=40 then qSet i.d (zhz (at_+4))
 else if 32≤i.op∧i.op≤37 then qTest i
 else []
def zzy (i:QI) (at_:Int):Option (List BOp):=
 if zzu i.op≠0 then none
 else if i.op=41∨(23≤i.op∧i.op≤26) then none
 else if i.op=27 then some [⟨25,0,20,0,0⟩]
 else if i.op=40 then some [⟨24,0,0,0,zhz (at_+4*i.imm)⟩]
 else if 32≤i.op∧i.op≤37 then some [⟨23,0,20,0,zhz (at_+4*i.imm)⟩,⟨24,0,0,0,zhz (at_+4)⟩]
 else some [⟨22,0,0,0,0⟩]
theorem BodyOk.loadG {l:List BOp} {W:Nat} {ch:Bool} (h:BodyOk l W ch) {c d a n:Int} (hc:16≤c∧c≤17) (hd:0≤d∧d<19) (ha:srcI W a) (hn:word n) (hch:ch=false):BodyOk (l++[⟨c,d,a,0,n⟩]) W true:=by
 have ha':=ha
 obtain ⟨a1,a2,a3,a4⟩:=ha
 have hD:hasD c=true:=by unfold hasD;rw [decide_eq_true_eq];omega
 have hA:hasA c=true:=by unfold hasA;rw [decide_eq_true_eq];omega
 have hB:hasB c=false:=by unfold hasB;rw [decide_eq_false_iff_not];omega
 have hNn:hasN c=true:=by unfold hasN;rw [decide_eq_true_eq];omega
 have hI:isOp c=true:=by unfold isOp;rw [decide_eq_true_eq];omega
 have hw:writes ⟨c,d,a,0,n⟩=d:=by unfold writes;rw [if_pos hD]
 refine (h.snoc (o:=⟨c,d,a,0,n⟩) ⟨zux zU,zux zU,zux zU,mid0,hn⟩ (by unfold zd7;rw [decide_eq_true_eq];dsimp only;omega) ?_ (fun _=>hch) (fun v hv=>?_)).is ?_ ?_
 ·unfold znt
  dsimp only;rw [hI,hD,hA,hB,z6u ha',hNn];have:zl3 true d=true:=(by unfold zl3;rw [if_pos rfl,decide_eq_true_eq];omega);rw [this];rfl
 ·unfold reads at hv
  dsimp only at hv;rw [hA,hB] at hv;simp at hv;subst hv;exact ha'
 ·unfold zu5;rw [hw,if_neg zO]
 ·unfold zu2
  rw [hw];have:decide (0≤d∧d<20)=true:=(by rw [decide_eq_true_eq];omega);rw [this];simp
def clean (o:BOp):Prop:=writes o≠0∧¬(16≤writes o∧writes o≤18)
structure QBody (l:List BOp) (W:Nat) (ch:Bool):Prop where
 body:BodyOk l W ch
 clean:∀ o∈l,clean o
theorem zgj {c d a b n:Int} (hd:1≤d∧d<16):clean ⟨c,d,a,b,n⟩:=by
 unfold clean writes;dsimp only;split<;>omega
theorem zgl {c d a b n:Int} (hd:20≤d):clean ⟨c,d,a,b,n⟩:=by
 unfold clean writes;dsimp only;split<;>omega
theorem zgk {c d a b n:Int} (hc:18≤c):clean ⟨c,d,a,b,n⟩:=by
 have:hasD c=false:=by unfold hasD;rw [decide_eq_false_iff_not];omega
 unfold clean writes;dsimp only;rw [this];simp
theorem QBody.nil:QBody [] 0 false:=⟨BodyOk.nil,nofun⟩
theorem QBody.of {l:List BOp} {o:BOp} {W W':Nat} {ch ch':Bool} (h:QBody l W ch) (hb:BodyOk (l++[o]) W' ch') (hc:Go.Proofs.YtocafomnnkmjfaaGreat.clean o):QBody (l++[o]) W' ch':=⟨hb,fun p hp=>by
 rcases List.mem_append.1 hp with hp|hp
 ·exact h.clean p hp
 ·simp at hp;subst hp;exact hc⟩
section
variable {l:List BOp} {W:Nat} {ch:Bool} {i:QI}
theorem QBody.set {d n:Int} (h:QBody l W ch) (hd:0≤d∧d<16) (hn:word n):∃ ch',QBody (l++qSet d n) W ch':=by
 unfold qSet
 split
 ·rw [List.append_nil];exact ⟨_,h⟩
 ·exact ⟨true,h.of ((h.body.const ⟨by omega,by omega,by omega⟩ hn).is (if_neg (by omega)) (by have:decide (d<20)=true:=by rw [decide_eq_true_eq];omega
                                                                                              rw [this,Bool.or_true])) (zgj zO)⟩
theorem QBody.load {c d a n:Int} (h:QBody l W false) (hc:16≤c∧c≤17) (hd:0≤d∧d<16) (ha:srcI W a) (hn:word n):∃ W' ch',QBody (l++[⟨c,zzz d,a,0,n⟩]) W' ch':=by
 unfold zzz
 split
 ·exact ⟨_,_,h.of (h.body.load hc ⟨by omega,by omega⟩ ha hn rfl) (zgl zO)⟩
 ·exact ⟨_,_,h.of (h.body.loadG hc ⟨hd.1,by omega⟩ ha hn rfl) (zgj zO)⟩
theorem QBody.store {c a b n:Int} (h:QBody l W false) (hc:18≤c∧c≤19) (ha:srcI W a) (hb:srcI W b) (hn:word n):QBody (l++[⟨c,0,a,b,n⟩]) W true:=
 h.of (h.body.store hc ha hb hn rfl) (zgk zO)
theorem QBody.guard {a:Int} (h:QBody l W false) (ha:srcI W a):QBody (l++[⟨21,0,a,0,0⟩]) W false:=h.of (h.body.guard ha rfl) (zgk zO)
end
theorem word1:word 1:=by unfold word;omega
structure TailW (t:List BOp) (W:Nat) (ch:Bool):Prop where
 run:∀ i:Nat,∃ W' ch',zga ⟨i,W,ch⟩ t=some ⟨i,W',ch'⟩
 all:∀ o∈t,o.ok∧clean o
 ne:t≠[]
def zg9:Bool→List BOp→List BOp→Int→Int
 |_,[],_,_=> -1
 |m,o::r,sk,v=>if writes o=v then (if o.code≠2∨o.a=v then-1 else if m=true∧(20≤v∨20≤o.a) then-1 else if (sk.any fun p=>writes p==o.a)=true then-1 else o.a) else zg9 (m||o.code==20) r (o::sk) v
def zhd (r:List BOp) (v:Int):Int:=zg9 false r [] v
structure CopyIs (s:Int→Option Int) (r:List BOp):Prop where
 fm:∀ o∈r,o.code=2→0≤o.a
 some_:∀ v w,0≤v→v<28→s v=some w→zhd r v=w∧0≤w∧w<28
 none_:∀ v,0≤v→v<28→s v=none→zhd r v<0
 flat:∀ v w,s v=some w→s w=none
def z6e (ops:Array Oper) (j:Nat):Option Nat:=(ops[j]?).bind (·.dst)
def z2n (j:Nat) (pol:Bool) (o:Oper):Bool:=match o.guard with
 |some (i,p)=>(match Nat.beq i j with|true=>p==pol|false=>false)
 |none=>false
def z6q (j:Nat) (pol:Bool):List Oper→List Oper×List Oper
 |[]=>([],[])
 |o::l=>match z2n j pol o with|true=>(o::(z6q j pol l).1,(z6q j pol l).2)|false=>([],o::l)
theorem z6s (j:Nat) (pol:Bool):∀ l:List Oper,(z6q j pol l).1++(z6q j pol l).2=l
 |[]=>rfl
 |o::l=>by unfold z6q;split<;>simp [z6s j pol l]
theorem z6r (j:Nat) (pol:Bool):∀ (l:List Oper),∀ o∈(z6q j pol l).1,o.guard=some (j,pol)
 |[],o,h=>by cases h
 |x::l,o,h=>by
  unfold z6q at h
  split at h
  ·rename_i hs
   rcases List.mem_cons.1 h with rfl|h
   ·unfold z2n at hs
    split at hs
    ·rename_i i p hg
     split at hs
     ·rename_i hi
      have:=Nat.eq_of_beq_eq_true hi;rw [hg,this];simp at hs;rw [hs]
     ·cases hs
    ·cases hs
   ·exact z6r j pol l o h
  ·cases h
def zyk (p:Oper) (d:Nat) (pol:Bool):Option Nat:=match p.guard with
 |some _=>none
 |none=>(match p.op with
  | .pick (.tmp c) (.tmp b) (.const (.bool false))=>(match Nat.beq c d with|true=>(match pol with|true=>some b|false=>none)|false=>none)
  | .pick (.tmp c) (.const (.bool true)) (.tmp b)=>(match Nat.beq c d with|true=>(match pol with|false=>some b|true=>none)|false=>none)
  |_=>none)
def cmb (pol x y:Bool):Bool:=match pol with|true=>x&&y|false=>x||y
def zzk:List Oper→Fr→Fr
 |[],f=>f
 |o::l,f=>zzk l (f.put o.dst (.p (.c .any)))
def zzl:List Oper→Fr→(Fr→Prop)→Prop
 |[],f,K=>K f
 |o::l,f,K=>f.putK o.dst (.p (.c .any)) fun f'=>zzl l f' K
theorem zzm:∀ {l:List Oper} {f:Fr} {K:Fr→Prop},zzl l f K↔K (zzk l f)
 |[],_,_=>Iff.rfl
 |o::l,f,K=>by unfold zzl;rw [zy5,zzm];rfl
def zjd:List Oper→List Nat
 |[]=>[]
 |o::l=>match o.dst with|some d=>d::zjd l|none=>zjd l
def memN (d:Nat):List Nat→Bool
 |[]=>false
 |x::l=>match Nat.beq x d with|true=>true|false=>memN d l
def zv9 (ds:List Nat) (f:Fr):Nat→Fr→Prop
 |0,f'=>f'=f
 |_n+1,[]=>False
 |n+1,(d,_)::f'=>match memN d ds with|true=>zv9 ds f n f'|false=>False
def za5 (N:Nat):List Oper→Bool
 |[]=>true
 |o::l=>match zjc N o.dst with|true=>za5 N l|false=>false
def putN:List Oper→Nat
 |[]=>0
 |o::l=>match o.dst with|some _=>putN l+1|none=>putN l
def Ow.bnd (n:Nat):Ow→Bool
 | .cells _ l=>bndL n l
 |_=>true
def sbnd (n:Nat):List Ow→Bool
 |[]=>true
 |o::S=>match o.bnd n with|true=>sbnd n S|false=>false
def zoz (G:Gs) (S:List Ow):Bool:=match Nat.ble G.fix.length S.length with|true=>sbnd S.length S|false=>false
section
variable (P:Program) (w0:World) (G:Gs) (N:Nd)
def seqK (d:Nat) (pol:Bool):List Oper→Fr→List Ow→(Fr→List Ow→Prop)→Prop
 |[],f,S,K=>K f S
 |o::l,f,S,K=>match f.get d with
  | .p (.c (.v (.bool y)))=>(match y==pol with|true=>opK P w0 G N o f S fun f' S'=>seqK d pol l f' S' K|false=>False)
  |_=>False
def opsK (ops:Array Oper):Nat→List Oper→Fr→List Ow→(Fr→List Ow→Prop)→Prop
 |_,[],f,S,K=>K f S
 |0,_::_,_,_,_=>False
 |n+1,o::rest,f,S,K=>match o.guard with
  |none=>opK P w0 G N o f S fun f' S'=>opsK ops n rest f' S' K
  |some (j,pol)=>(match z6e ops j with
   |none=>False
   |some d=>(match f.get d with
    | .p (.c (.v (.bool x)))=>(match z6q j pol (o::rest) with
     |(grp,p::rem)=>(match zyk p d pol with
      |some b=>(match za5 N.n grp,zjc N.n p.dst,memN d (zjd grp) with
       |true,true,false=>∃ y:Bool,(x=pol→seqK P w0 G N d pol grp ((d,one (.bool pol))::f) S fun f' S'=>zv9 (zjd grp) ((d,one (.bool pol))::f) (putN grp) f'∧S'.take S.length=S∧f'.get b=one (.bool y)∧f.bnd S.length=true∧zoz G S=true)∧
        zzl grp f fun f'=>f'.putK p.dst (one (.bool (cmb pol x y))) fun f'=>opsK ops n rem f' S K
       |_,_,_=>False)
      |none=>(x=pol→opK P w0 G N o ((d,one (.bool pol))::f) S fun f' S'=>opsK ops n rest f' S' K)∧
       (x=(!pol)→match zjc N.n o.dst with|true=>(Fr.putK ((d,one (.bool (!pol)))::f) o.dst (.p (.c .any)) fun f'=>opsK ops n rest f' S K)|false=>False))
     |_=>(x=pol→opK P w0 G N o ((d,one (.bool pol))::f) S fun f' S'=>opsK ops n rest f' S' K)∧
       (x=(!pol)→match zjc N.n o.dst with|true=>(Fr.putK ((d,one (.bool (!pol)))::f) o.dst (.p (.c .any)) fun f'=>opsK ops n rest f' S K)|false=>False))
    |_=>False))
end
section
variable {P:Program} {w0:World} {G:Gs} {N:Nd} {ops:Array Oper}
theorem ybn {r:Env} {f:Fr} {a:Act} (hf:FDen r f a) {j d:Nat} (hs:z6e ops j=some d) {x:Bool} (hx:f.get d=one (.bool x)):yielded ops a.tmps j=some x:=by
 have h:=hf d;rw [hx] at h;have h:=zi6 h;unfold yielded;unfold z6e at hs;rw [hs]
 have:a.tmps[d]?=some (.bool x):=by
  rw [Array.getD_eq_getD_getElem?] at h
  cases hd:a.tmps[d]? with
  |none=>rw [hd] at h;simp [undef] at h
  |some v=>rw [hd] at h;simp at h;rw [h]
 simp [this]
theorem yad {o:Oper} (h:o.guard=none) (y:Nat→Option Bool):Region.wanted o y=true:=by simp [Region.wanted,h]
theorem yae {o:Oper} {j:Nat} {pol:Bool} (h:o.guard=some (j,pol)) (y:Nat→Option Bool):Region.wanted o y=(y j==some pol):=by simp [Region.wanted,h]
theorem z68 {o:Oper} {rest:List Oper} {Q:Act→World→Prop} {a:Act} {w:World} (hw:Region.wanted o (yielded ops a.tmps)=true) (h:Oper.se P o a w (seL P ops Q rest)):seL P ops Q (o::rest) a w:=by
 unfold seL;rw [if_pos hw];exact h
theorem z7a {o:Oper} {rest:List Oper} {Q:Act→World→Prop} {a:Act} {w:World} (hw:Region.wanted o (yielded ops a.tmps)=false) (h:seL P ops Q rest (a.put o.dst undef) w):seL P ops Q (o::rest) a w:=by
 unfold seL;rw [if_neg (by rw [hw];simp)];exact h
theorem zor (d:Nat) (x:AV) (f:Fr):Fr.get ((d,x)::f) d=x:=by simp [Fr.get]
theorem Good.known {f:Fr} {S:List Ow} {a:Act} {w:World} (h:Good w0 G N f S a w) {d:Nat} {x:AV} (hx:f.get d=x):Good w0 G N ((d,x)::f) S a w:=by
 obtain ⟨r,hR,hf,hN,hd⟩:=h;refine ⟨r,hR,fun k=>?_,hN,hd⟩;simp only [Fr.get]
 split
 ·rename_i hk;have:=Nat.eq_of_beq_eq_true hk;subst this;rw [← hx];exact hf d
 ·exact hf k
theorem z3y {d:Nat} {pol:Bool} {j:Nat} (hs:z6e ops j=some d) {Q:Act→World→Prop} {rest:List Oper}:∀ (l:List Oper) (f:Fr) (S:List Ow) (K:Fr→List Ow→Prop),(∀ o∈l,o.guard=some (j,pol))→seqK P w0 G N d pol l f S K→
  (∀ f' S' a' w',K f' S'→Good w0 G N f' S' a' w'→seL P ops Q rest a' w')→∀ a w,Good w0 G N f S a w→seL P ops Q (l++rest) a w
 |[],f,S,K,_,h,hK,a,w,hg=>hK _ _ _ _ h hg
 |o::l,f,S,K,hgd,h,hK,a,w,hg=>by
  unfold seqK at h
  split at h
  ·rename_i y hy
   split at h
   ·rename_i hyp
    have hyp:y=pol:=(by simpa using hyp);subst hyp;obtain ⟨r,hR,hf,hN,hd⟩:=hg;refine z68 ?_ ((zwp h).out r a w hR hf hN hd _ (fun _ _ _=>True) fun f' S' a' w' hk hg'=>z3y hs l f' S' K (fun o ho=>hgd o (List.mem_cons_of_mem _ ho)) hk hK a' w' hg');rw [yae (hgd o (List.mem_cons_self ..)),ybn hf hs hy];simp
   ·exact h.elim
  ·exact h.elim
theorem zua {d:Nat}:∀ {l:List Nat},memN d l=false→d∉l
 |[],_=>by simp
 |x::l,h=>by
  unfold memN at h
  split at h
  ·cases h
  ·rename_i hx
   intro hm;rcases List.mem_cons.1 hm with rfl|hm
   ·simp at hx
   ·exact zua h hm
theorem zt9 {d:Nat}:∀ {l:List Nat},memN d l=true→d∈l
 |[],h=>by cases h
 |x::l,h=>by
  unfold memN at h
  split at h
  ·rename_i hx;rw [Nat.eq_of_beq_eq_true hx];exact List.mem_cons_self ..
  ·exact List.mem_cons_of_mem _ (zt9 h)
theorem zwb {ds:List Nat} {f:Fr}:∀ (n:Nat) (f':Fr),zv9 ds f n f'→∀ k,k∉ds→f'.get k=f.get k
 |0,f',h,k,_=>by rw [show f'=f from h]
 |n+1,[],h,k,_=>h.elim
 |n+1,(d,x)::f',h,k,hk=>by
  simp only [zv9] at h
  split at h
  ·rename_i hm
   simp only [Fr.get]
   split
   ·rename_i hdk
    have:=Nat.eq_of_beq_eq_true hdk;subst this;exact absurd (zt9 hm) hk
   ·exact zwb n f' h k hk
  ·exact h.elim
theorem zzo:∀ (l:List Oper) (f:Fr) (k:Nat),(zzk l f).get k= .p (.c .any)∨((zzk l f).get k=f.get k∧k∉zjd l)
 |[],f,k=> .inr ⟨rfl,by simp [zjd]⟩
 |o::l,f,k=>by
  simp only [zzk,zjd];rcases zzo l (f.put o.dst (.p (.c .any))) k with h|⟨h1,h2⟩
  ·exact .inl h
  ·cases ho:o.dst with
   |none=>rw [ho] at h1;simp only [Fr.put] at h1;right;exact ⟨by simpa only [ho,Fr.put] using h1,h2⟩
   |some d=>
    rw [ho] at h1;simp only [Fr.put,Fr.get] at h1
    split at h1
    ·left;simpa only [ho,Fr.put] using h1
    ·rename_i hdk
     right
     refine ⟨by simpa only [ho,Fr.put] using h1,fun hm=>?_⟩;rcases List.mem_cons.1 hm with rfl|hm
     ·simp at hdk
     ·exact h2 hm
theorem zzn:∀ (l:List Oper) (f:Fr) (k:Nat),k∉zjd l→(zzk l f).get k=f.get k
 |[],f,k,_=>rfl
 |o::l,f,k,h=>by
  simp only [zzk,zjd] at h⊢
  cases ho:o.dst with
  |none=>rw [ho] at h;rw [zzn l _ k h];rfl
  |some d=>
   rw [ho] at h;rw [zzn l _ k (fun hm=>h (List.mem_cons_of_mem _ hm))];simp only [Fr.put,Fr.get]
   split
   ·rename_i hd;exact absurd (Nat.eq_of_beq_eq_true hd).symm (fun e=>h (by rw [e];exact List.mem_cons_self ..))
   ·rfl
def Env.upto (n:Nat) (r:Env):Env:=⟨fun i=>if i<n then r.blk i else none,fun i=>if i<n then r.val i else none⟩
theorem Env.upto_blk (n:Nat) (r:Env):∀ k b,(r.upto n).blk k=some b→r.blk k=some b:=fun k b h=>by
 simp only [Env.upto] at h
 split at h
 ·exact h
 ·cases h
theorem Env.upto_agree (n:Nat) (r:Env):r.agree n (r.upto n):=fun i hi=>by simp [Env.upto,hi]
theorem Ow.holds_agree {n i:Nat} {r r':Env} {w:World} {o:Ow} (h:o.holds r w i) (ha:r.agree n r') (hb:o.bnd n=true) (hi:i<n) (hs:∀ k b,r'.blk k=some b→r.blk k=some b):o.holds r' w i:=by
 cases o with
 |cells t l=>obtain ⟨b,us,h1,h2,h3⟩:=h;exact ⟨b,us,by rw [← (ha i hi).1];exact h1,h2,zih ha _ _ hb h3⟩
 |row e size m xs=>obtain ⟨v,h1,h2,h3⟩:=h;exact ⟨v,by rw [← (ha i hi).2];exact h1,by rw [← (ha i hi).1];exact h2,h3⟩
 |ext φ=>obtain ⟨b,h1,h2⟩:=h;exact ⟨b,by rw [← (ha i hi).1];exact h1,h2⟩
 |view φ n xs=>
  obtain ⟨A,c,h1,h2,h3,h4,h5⟩:=h;refine ⟨A,c,by rw [← (ha i hi).2];exact h1,h2,h3,by rw [← (ha i hi).1];exact h4,fun j u hj=>?_⟩;obtain ⟨b,off,h6,h7,h8,h9⟩:=h5 j u hj;exact ⟨b,off,h6,h7,fun k hk=>h8 k (hs k b hk),h9⟩
 |gone=>trivial
theorem Rel.upto {S S':List Ow} {r:Env} {w:World} (h:Rel w0 G S r w) {n:Nat} (hn:S'.length=n) (_hnS:n≤S.length) (hG:G.fix.length≤n) (hS:∀ (i:Nat) (o:Ow),S'[i]?=some o→o.holds (r.upto n) w i):Rel w0 G S' (r.upto n) w:=by
 refine ⟨h.os,h.tape,h.output,h.size,h.old,hS,fun i j b hi hj=>?_,fun i b hi=>?_,fun i hi=>?_,fun i hi=>?_,fun i g hg=>?_⟩
 ·simp only [Env.upto] at hi hj
  split at hi<;>split at hj<;>first|cases hi|cases hj|exact h.inj i j b hi hj
 ·simp only [Env.upto] at hi
  split at hi
  ·exact h.new i b hi
  ·cases hi
 ·simp only [Env.upto];rw [if_neg zO]
 ·simp only [Env.upto];rw [if_neg zO]
 ·simp only [Env.upto]
  have:i<G.fix.length:=by
   rcases Nat.lt_or_ge i G.fix.length with h1|h1
   ·exact h1
   ·rw [List.getElem?_eq_none h1] at hg;cases hg
  rw [if_pos zO];exact h.first i g hg
theorem za6:∀ (l:List Oper),za5 N.n l=true→∀ {f:Fr} {S:List Ow} {a:Act} {w:World} {j:Nat} {pol x:Bool} {Q:Act→World→Prop} {rest:List Oper} {d:Nat},z6e ops j=some d→(∀ o∈l,o.guard=some (j,pol))→x≠pol→f.get d=one (.bool x)→d∉zjd l→
  Good w0 G N f S a w→(∀ a',Good w0 G N (zzk l f) S a' w→seL P ops Q rest a' w)→seL P ops Q (l++rest) a w
 |[],_,f,S,a,w,j,pol,x,Q,rest,d,_,_,_,_,_,hg,h=>h a hg
 |o::l,hD,f,S,a,w,j,pol,x,Q,rest,d,hs,hgd,hx,hfx,hnd,hg,h=>by
  simp only [za5] at hD
  split at hD
  ·rename_i ho
   obtain ⟨r,hR,hf,hN,hd⟩:=hg;refine z7a ?_ ?_
   ·rw [yae (hgd o (List.mem_cons_self ..)),ybn hf hs hfx];simpa using hx
   ·have hnd':d∉zjd l∧∀ e,o.dst=some e→d≠e:=by
     simp only [zjd] at hnd
     cases hod:o.dst with
     |none=>rw [hod] at hnd;exact ⟨hnd,nofun⟩
     |some e=>rw [hod] at hnd;exact ⟨fun h=>hnd (List.mem_cons_of_mem _ h),fun e' he=>by injection he with he;subst he;rintro rfl;exact hnd (List.mem_cons_self ..)⟩
    refine za6 l hD hs (fun o ho=>hgd o (List.mem_cons_of_mem _ ho)) hx (f:=f.put o.dst (.p (.c .any))) ?_ hnd'.1 ⟨r,hR,hf.putAny undef (by rw [hN];exact ho),(zzh a _ _).trans hN,(zze a _ _).trans hd⟩ h
    cases hod:o.dst with
    |none=>simpa [Fr.put,hod] using hfx
    |some e=>
     have:=hnd'.2 e hod;simp only [Fr.put,Fr.get]
     split
     ·rename_i he;exact absurd (Nat.eq_of_beq_eq_true he).symm this
     ·exact hfx
  ·cases hD
theorem zyl {p:Oper} {d b:Nat} {pol x y:Bool} (hp:zyk p d pol=some b) {a:Act} (hd:a.eval (.tmp d)= .bool x) (hb:x=pol→a.eval (.tmp b)= .bool y) (w:World):p.guard=none∧(execOp a.eval p).run P w= .ok (.value (.bool (cmb pol x y))) w:=by
 unfold zyk at hp
 split at hp
 ·cases hp
 ·rename_i hg
  refine ⟨hg,?_⟩
  split at hp
  ·rename_i c b' hop
   split at hp
   ·rename_i hc
    have:=Nat.eq_of_beq_eq_true hc;subst this
    split at hp
    ·injection hp with hp;subst hp
     cases x
     ·have e1:a.eval (.const (.bool false))= .bool false:=rfl
      simp [execOp,hop,hd,asBool,cmb,e1]
     ·simp [execOp,hop,hd,asBool,cmb,hb rfl]
    ·cases hp
   ·cases hp
  ·rename_i c b' hop
   split at hp
   ·rename_i hc
    have:=Nat.eq_of_beq_eq_true hc;subst this
    split at hp
    ·injection hp with hp;subst hp
     cases x
     ·simp [execOp,hop,hd,asBool,cmb,hb rfl]
     ·have e1:a.eval (.const (.bool true))= .bool true:=rfl
      simp [execOp,hop,hd,asBool,cmb,e1]
    ·cases hp
   ·cases hp
  ·cases hp
end
def qAt (F:Int→Option QI) (a:Int):QI:=(F a).getD ⟨0,0,0,0,0⟩
def zzr (pc:Int) (k:Nat):Int:=zhz (pc+4*k)
def zs7 (F:Int→Option QI) (pc:Int) (n:Nat):Nat→Nat→List BOp
 |0,_=>[]
 |fuel+1,k=>
  ⟨20,0,0,0,(k:Int)⟩::(qBody (qAt F (zzr pc k)) (zzr pc k)++
   (match zzy (qAt F (zzr pc k)) (zzr pc k) with
    |some t=>t
    |none=>if k+1=n then [⟨24,0,0,0,zhz (zzr pc k+4)⟩] else zs7 F pc n fuel (k+1)))
def zs6 (F:Int→Option QI) (pc:Int) (n:Nat):Nat→Nat→Nat
 |0,k=>k
 |fuel+1,k=>
  (match zzy (qAt F (zzr pc k)) (zzr pc k) with
   |some _=>k+1
   |none=>if k+1=n then k+1 else zs6 F pc n fuel (k+1))
theorem zzt {F:Int→Option QI} (hF:∀ a i,F a=some i→i.ok) (a:Int):(qAt F a).ok:=by
 unfold qAt
 cases h:F a with
 |none=>exact ⟨by constructor<;>decide,by constructor<;>decide,by constructor<;>decide,by constructor<;>decide,by unfold word;constructor<;>decide⟩
 |some i=>exact hF a i h
def sgnW (n:Int) (bits:Nat):Int:=if 2^(bits-1)≤n%2^bits then n%2^bits+(4294967296-2^bits) else n%2^bits
structure QForm where
 is:Bool
 d:Bool
 a:Bool
 b:Bool
 signed:Bool
 bits:Nat
 most:Int
def zzw (op:Int):QForm:=
 if 1≤op∧op≤12 then ⟨true,true,true,true,false,0,0⟩
 else if 17≤op∧op≤19 then ⟨true,true,true,false,false,18,0⟩
 else if (16≤op∧op≤27)∨(32≤op∧op≤37) then ⟨true,true,true,false,true,18,0⟩
 else if op=40 then ⟨true,true,false,false,true,22,0⟩
 else if op=41 then ⟨true,true,false,false,false,22,0⟩
 else if op=48 then ⟨true,false,false,false,false,18,0⟩
 else if 49≤op∧op≤51 then ⟨true,false,false,false,false,0,0⟩
 else if op=52 then ⟨true,false,true,false,false,0,0⟩
 else if op=53 then ⟨true,true,false,false,false,18,3⟩
 else if op=54 then ⟨true,false,true,false,false,18,4⟩
 else ⟨false,false,false,false,false,0,0⟩
theorem zzx (op:Int):((zzw op).bits=0∨(zzw op).bits=18∨(zzw op).bits=22)∧0≤(zzw op).most∧(zzw op).most≤4∧((zzw op).signed=true→0<(zzw op).bits∧(zzw op).most=0)∧((zzw op).is=true→1≤op∧op≤54)∧((zzw op).b=true→(zzw op).bits=0)∧((zzw op).bits=22→(zzw op).a=false)∧(0<(zzw op).most→(zzw op).bits=18):=by
 unfold zzw
 repeat' split
 all_goals refine ⟨?_,?_,?_,?_,?_,?_,?_,?_⟩
 all_goals first|omega|(intro h;cases h;done)|(dsimp only;omega)|simp|(intro h;first|cases h|omega|(dsimp only at h⊢;omega))
def regB (n:Int) (used:Bool):Bool:=decide (n=0)||(used&&decide (0<n)&&decide (n<16))
def immB (f:QForm) (n:Int):Bool:=
 if f.bits=0 then decide (n=0) else if f.signed then decide (sgnW n f.bits=n) else if 0<f.most then decide (n≤f.most) else decide (n<2^f.bits)
def z9h (i:QI):Bool:=(zzw i.op).is&&regB i.d (zzw i.op).d&&regB i.a (zzw i.op).a&&regB i.b (zzw i.op).b&&immB (zzw i.op) i.imm
def yas (i:QI):Int:=i.op*67108864+i.d*4194304+i.a*262144+i.b*16384+i.imm%2^(zzw i.op).bits
def encQ (i:QI):Option Int:=if z9h i then some (yas i) else none
def zl9 (w:Int):QI:=
 ⟨w/67108864,if (zzw (w/67108864)).d then w/4194304%16 else 0,if (zzw (w/67108864)).a then w/262144%16 else 0,if (zzw (w/67108864)).b then w/16384%16 else 0,
  if (zzw (w/67108864)).signed then sgnW (w%2^(zzw (w/67108864)).bits) (zzw (w/67108864)).bits else w%2^(zzw (w/67108864)).bits⟩
def decQ (w:Int):Option QI:=if encQ (zl9 w)=some w then some (zl9 w) else none
theorem z4m (n:Int):sgnW n 18=if 131072≤n%262144 then n%262144+4294705152 else n%262144:=rfl
theorem z4n (n:Int):sgnW n 22=if 2097152≤n%4194304 then n%4194304+4290772992 else n%4194304:=rfl
theorem z4q (n:Int) {bits:Nat} (h:bits=0∨bits=18∨bits=22) (h0:0<bits):word (sgnW n bits):=by
 unfold word;rcases h with rfl|rfl|rfl
 ·omega
 ·rw [z4m];split<;>omega
 ·rw [z4n];split<;>omega
theorem z4o (n:Int) {bits:Nat} (_h:bits=0∨bits=18∨bits=22) (_h0:0<bits):sgnW (n%2^bits) bits=sgnW n bits:=by
 unfold sgnW;rw [Int.emod_emod_of_dvd n (Int.dvd_refl _)]
theorem ztr (n:Int) {bits:Nat} (h:bits=0∨bits=18∨bits=22):0≤n%2^bits∧n%2^bits<2^bits:=by
 rcases h with rfl|rfl|rfl
 ·exact ⟨by show 0≤n%1;omega,by show n%1<1;omega⟩
 ·exact ⟨by show 0≤n%262144;omega,by show n%262144<262144;omega⟩
 ·exact ⟨by show 0≤n%4194304;omega,by show n%4194304<4194304;omega⟩
theorem zic {w:Int} {i:QI} (h:decQ w=some i):i=zl9 w∧encQ i=some w:=by
 unfold decQ at h
 split at h
 ·rename_i he
  injection h with h;subst h;exact ⟨rfl,he⟩
 ·cases h
theorem zie {w:Int} {i:QI} (h:decQ w=some i):z9h i=true∧yas i=w:=by
 have h2:=(zic h).2;unfold encQ at h2
 split at h2
 ·rename_i hv
  injection h2 with h2;exact ⟨hv,h2⟩
 ·cases h2
theorem z1d {n:Int} {u:Bool} (h:regB n u=true):0≤n∧n<16∧(u=false→n=0):=by
 unfold regB at h
 cases u<;>simp at h<;>(refine ⟨by omega,by omega,fun hu=>?_⟩)<;>first|omega|cases hu
theorem z9i {i:QI} (h:z9h i=true):(zzw i.op).is=true∧regB i.d (zzw i.op).d=true∧regB i.a (zzw i.op).a=true∧regB i.b (zzw i.op).b=true∧immB (zzw i.op) i.imm=true:=by
 unfold z9h at h;simp only [Bool.and_eq_true] at h;exact ⟨h.1.1.1.1,h.1.1.1.2,h.1.1.2,h.1.2,h.2⟩
theorem zid {w:Int} {i:QI} (_hw:word w) (h:decQ w=some i):i.ok:=by
 obtain ⟨hv,_⟩:=zie h;obtain ⟨he,_⟩:=zic h;obtain ⟨h1,h2,h3,h4,h5⟩:=z9i hv;obtain ⟨q1,q2,q3,q4,q5,_⟩:=zzx i.op;have r2:=z1d h2;have r3:=z1d h3;have r4:=z1d h4;have r1:=q5 h1;refine ⟨by omega,⟨r2.1,r2.2.1⟩,⟨r3.1,r3.2.1⟩,⟨r4.1,r4.2.1⟩,?_⟩;have hop:i.op=w/67108864:=(by rw [he];rfl)
 have himm:i.imm=if (zzw (w/67108864)).signed then sgnW (w%2^(zzw (w/67108864)).bits) (zzw (w/67108864)).bits else w%2^(zzw (w/67108864)).bits:=by rw [he];rfl
 rw [← hop] at himm;rw [himm]
 split
 ·rename_i hs
  exact z4q _ q1 (q4 hs).1
 ·have:=ztr w q1
  unfold word;rcases q1 with q|q|q
  ·rw [q] at this⊢;have h2:(2:Int)^0=1:=rfl;omega
  ·rw [q] at this⊢;have h2:(2:Int)^18=262144:=rfl;omega
  ·rw [q] at this⊢;have h2:(2:Int)^22=4194304:=rfl;omega
theorem zif {i:QI} (hv:z9h i=true) (him:word i.imm):decQ (yas i)=some i∧word (yas i):=by
 obtain ⟨h1,h2,h3,h4,h5⟩:=z9i hv;obtain ⟨q1,q2,q2',q4,q5,q6,q7,q8⟩:=zzx i.op;have r2:=z1d h2;have r3:=z1d h3;have r4:=z1d h4;have r1:=q5 h1;have lo:=ztr i.imm q1;have hw0:yas i=i.op*67108864+i.d*4194304+i.a*262144+i.b*16384+i.imm%2^(zzw i.op).bits:=rfl
 have key:yas i/67108864=i.op∧word (yas i)∧((zzw i.op).d=true→yas i/4194304%16=i.d)∧((zzw i.op).a=true→yas i/262144%16=i.a)∧((zzw i.op).b=true→yas i/16384%16=i.b)∧yas i%2^(zzw i.op).bits=i.imm%2^(zzw i.op).bits:=by
  rw [hw0];unfold word;rcases q1 with q|q|q
  ·rw [q] at lo⊢
   have e:(2:Int)^0=1:=rfl;rw [e] at lo⊢;refine ⟨by omega,by omega,fun _=>by omega,fun _=>by omega,fun _=>by omega,by omega⟩
  ·have hb:=r4.2.2 (by cases hb:(zzw i.op).b with|false=>rfl|true=>rw [q6 hb] at q;cases q)
   rw [q] at lo⊢;have e:(2:Int)^18=262144:=rfl;rw [e] at lo⊢;refine ⟨by omega,by omega,fun _=>by omega,fun _=>by omega,fun h=>?_,by omega⟩;have:=q6 h;omega
  ·have hb:=r4.2.2 (by cases hb:(zzw i.op).b with|false=>rfl|true=>rw [q6 hb] at q;cases q)
   have ha:=r3.2.2 (q7 q);have ha2:=q7 q;rw [q] at lo⊢;have e:(2:Int)^22=4194304:=rfl;rw [e] at lo⊢;refine ⟨by omega,by omega,fun _=>by omega,fun h=>?_,fun h=>?_,by omega⟩
   ·rw [ha2] at h;cases h
   ·have:=q6 h;omega
 obtain ⟨k1,k2,k3,k4,k5,k6⟩:=key
 have hf:zl9 (yas i)=i:=by
  unfold zl9;rw [k1,k6]
  have e1:(if (zzw i.op).d then yas i/4194304%16 else 0)=i.d:=by
   cases hd:(zzw i.op).d with
   |true=>exact k3 hd
   |false=>exact (r2.2.2 hd).symm
  have e2:(if (zzw i.op).a then yas i/262144%16 else 0)=i.a:=by
   cases hd:(zzw i.op).a with
   |true=>exact k4 hd
   |false=>exact (r3.2.2 hd).symm
  have e3:(if (zzw i.op).b then yas i/16384%16 else 0)=i.b:=by
   cases hd:(zzw i.op).b with
   |true=>exact k5 hd
   |false=>exact (r4.2.2 hd).symm
  have e4:(if (zzw i.op).signed then sgnW (i.imm%2^(zzw i.op).bits) (zzw i.op).bits else i.imm%2^(zzw i.op).bits)=i.imm:=by
   unfold immB at h5
   cases hs:(zzw i.op).signed with
   |true=>
    have hpos:=(q4 hs).1;rw [hs,if_neg zO] at h5;rw [if_pos rfl,z4o _ q1 hpos]
    simpa using h5
   |false=>
    rw [hs] at h5;rw [if_neg (by decide)];unfold word at him;rcases q1 with q|q|q
    ·rw [q] at h5⊢
     have h0:i.imm=0:=(by simpa using h5);rw [h0];rfl
    ·rw [q,if_neg (by decide),if_neg (by decide)] at h5
     rw [q];have e:(2:Int)^18=262144:=rfl;rw [e] at h5⊢
     split at h5
     ·have:=of_decide_eq_true h5;omega
     ·have:=of_decide_eq_true h5;omega
    ·rw [q,if_neg (by decide),if_neg (by decide)] at h5
     rw [q];have e:(2:Int)^22=4194304:=rfl;rw [e] at h5⊢
     split at h5
     ·have:=of_decide_eq_true h5;omega
     ·have:=of_decide_eq_true h5;omega
  rw [e1,e2,e3,e4]
 refine ⟨?_,k2⟩;unfold decQ;rw [hf];unfold encQ;rw [if_pos hv,if_pos rfl]
end Go.Proofs.YtocafomnnkmjfaaGreat
