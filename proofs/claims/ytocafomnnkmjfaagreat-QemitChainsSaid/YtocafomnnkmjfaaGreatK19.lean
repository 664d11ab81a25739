/- Walks: the bytes of a word. -/
import Derived.Test.YtocafomnnkmjfaaGreatK18
set_option maxRecDepth 100000
namespace Go.Proofs.YtocafomnnkmjfaaGreat
open Go.RowKit
def zee (n:Int) (j:Nat):Int:=n/2^(8*j)%256
def zza (n:Int) (j:Nat):List Int:=(List.range j).map (zee n)
def putL (n:Int):List Int:=zza n 4
theorem zzd (n:Int) (j:Nat):zza n (j+1)=zza n j++[zee n j]:=by
 unfold zza;rw [List.range_succ,List.map_append];rfl
theorem zzc (n:Int) (j:Nat):(zza n j).length=j:=by unfold zza;simp
theorem zef (n:Int) (j:Nat):0≤zee n j∧zee n j<256:=by unfold zee;omega
theorem zzb (n:Int) (j:Nat):∀ x∈zza n j,0≤x∧x<256:=fun x hx=>by
 unfold zza at hx;obtain ⟨k,_,rfl⟩:=List.mem_map.1 hx;exact zef n k
theorem zek {n:Int} (h:word n) {j:Nat} (hj:j<4):IntKind.u8.wrap (n.fdiv (2^(min ((8:Int)*j).toNat IntKind.u32.bits)))=zee n j:=by
 have h0:=h.1
 have e:(min ((8:Int)*j).toNat IntKind.u32.bits)=8*j:=by
  show min ((8:Int)*j).toNat 32=8*j;omega
 rw [e,Int.fdiv_eq_ediv_of_nonneg _ (Int.le_of_lt (Int.pow_pos (by omega)))]
 rfl
theorem zzj (n:Int) (w:World) (hn:word n):Calls Tryz.prog 88 #[.int .u32 n,intV 4] w fun e w'=>e= .returned (strV (putL n))∧Below w.heap.size w w':=by
 refine zfe [.int .u32 n,intV 4] Tryz.func88 Tryz.ntmps88 rfl (by simp) ?_;(conv=>whnf);refine ⟨{j:Nat//j≤4},fun x=>[(0,one (.int .u32 n)),(1,one (intV 4)),(5,one (strV (zza n x.1))),(6,one (intV (x.1:Int)))],fun x=>[],fun x=>4-x.1,⟨⟨0,by omega⟩,zj3 rfl Tn trivial⟩,fun x=>?_⟩;obtain ⟨j,hj⟩:=x;dsimp only;have hlen:=zzc n j;have hs:=zzd n j;generalize hl:zza n j=l at hlen hs⊢;(conv=>whnf);refine ⟨decide ((j:Int)<4),fun _=>?_,?_⟩
 ·conv=>whnf
  exact ⟨rfl,rfl,rfl,rfl,rfl⟩
 conv=>whnf
 refine ⟨fun hc=>?_,fun hc=>?_⟩
 ·have hlt:j<4:=by simp [cmb] at hc;omega
  (conv=>whnf);refine ⟨(8:Int)*j,wr64 (by omega),?_⟩;(conv=>whnf);refine ⟨by omega,_,rfl,?_⟩;(conv=>whnf);refine ⟨zee n j,zek hn hlt,?_⟩;(conv=>whnf);refine zz6 0 1 1 [zee n j] rfl rfl rfl rfl rfl rfl rfl ?_;(conv=>whnf);refine zz2 l [zee n j] rfl rfl rfl (by simp;omega) ?_;(conv=>whnf);refine ⟨_,wr64 (by omega),?_⟩;(conv=>whnf);exact ⟨⟨j+1,by omega⟩,zju (aI rfl (aI rfl (aI ((by rw [hs];rfl)) (aI rfl trivial)))) trivial rfl rfl,by show 4-(j+1)<4-j;omega⟩
 ·have hje:j=4:=by simp [cmb] at hc;omega
  subst hje;(conv=>whnf);refine ⟨_,_,zjz,?_⟩;(conv=>whnf)
  exact zmf rfl fun w' hB=>⟨by rw [← hl];rfl,hB⟩
structure KillS (P:Program) (w0:World) (G:Gs) (fid:FuncId) (args:List AV) (f:Fr) (S:List Ow) (K:AV→Fr→List Ow→Prop):Prop where
 ok:fnOk P fid=true
 out:∀ r w us,Rel w0 G S r w→zcz r args us→Calls P fid us.toArray w fun e w'=>∃ u x f2 S2 r2,e= .returned u∧Rel w0 G S2 r2 w'∧(∀ a,FDen r f a→FDen r2 f2 a)∧x.den r2 u∧K x f2 S2
section
variable {P:Program} {w0:World} {G:Gs} {N:Nd} {c d:Code} {f:Fr} {S:List Ow} {Q:Exit→Act→World→Prop}
end
theorem zdw {n k:Nat} (h:k<n):Nat.ble n k=false:=by
 cases e:Nat.ble n k
 ·rfl
 ·exact absurd (Nat.le_of_ble_eq_true e) (by omega)
def MemP.put (M:MemP) (y v:Int):MemP:={M with data:=M.data.set y.toNat v}
def MemP.store (a:Int):Nat→Nat→Int→MemP→MemP
 |_,0,_,M=>M
 |i,k+1,x,M=>MemP.store a (i+1) k (x/256) (M.put ((a+i)%4294967296) (x%256))
def MemP.storeM (M:MemP) (a:Int) (m:Nat) (x:Int):MemP:=match M.bad a 2 0 m with|none=>MemP.store a 0 m x M|some _=>M
theorem z7p (M:MemP) (a x:Int) {i m:Nat} (h:i<m):MemP.store a i (m-i) x M=MemP.store a (i+1) (m-(i+1)) (x/256) (M.put ((a+i)%4294967296) (x%256)):=by
 obtain ⟨k,hk⟩:∃ k,m-i=k+1:=⟨m-i-1,by omega⟩
 rw [hk,show m-(i+1)=k by omega];rfl
theorem zzh {M:MemP} {n p:Nat} (hM:M.ok n p) (y:Int) {v:Int} (hv:0≤v∧v<256):(M.put y v).ok n p:=
 ⟨by show (M.data.set y.toNat v).length=n;rw [List.length_set];exact hM.ld,hM.li,hM.lr,hM.lod,hM.loi,hM.np,hM.pmax,fun z hz=>by
  rcases List.mem_or_eq_of_mem_set hz with h|h
  ·exact hM.db z h
  ·rw [h];exact hv,hM.ib,hM.rb⟩
theorem z7o {n p:Nat} (a:Int):∀ (i k:Nat) (x:Int) {M:MemP},M.ok n p→0≤x→(MemP.store a i k x M).ok n p
 |_,0,_,M,h,_=>h
 |i,k+1,x,M,h,hx=>z7o a (i+1) k (x/256) (zzh h _ (by omega)) (by omega)
theorem z7k {M:MemP} {n p:Nat} (hM:M.ok n p) (a:Int) (m:Nat) {x:Int} (hx:0≤x):(M.storeM a m x).ok n p:=by
 unfold MemP.storeM
 split
 ·exact z7o a 0 m x hM hx
 ·exact hM
theorem z4h (us:List Value) (i:Nat) (u:Value):z3z (us.map CV.v) i [.v u]=(us.set i u).map CV.v:=by
 show (us.map CV.v).set i (.v u)=_;rw [List.map_set]
theorem zze (M:MemP) {y:Int} (v:Int) (h:y.toNat<M.data.length):M.dV.set y.toNat (zei v)=(M.put y v).dV:=z8a h
theorem zug (M:MemP) (n p:Nat) (a:Int) (m:Nat) (x:Int) (w:World) (g:Nat) (gs:List Nat) (hU:ObjsAt w (g::gs) (memS 0 n p M)) (hM:M.ok n p) (ha:word a) (hm:1≤m∧m≤4) (hx:word x):
  Calls Tryz.prog 142 #[.pointer (some ⟨g,0,none⟩),.int .u32 a,.int .i64 (m:Int),.int .u32 x] w fun e w'=>e= .returned (zfv (M.bad a 2 0 m))∧ObjsAt w' (g::gs) (memS 0 n p (M.storeM a m x))∧GrownBys w w' (g::gs):=by
 obtain ⟨g0,g1,g2,g3,g4,g5,hg⟩:=z5w hU;injection hg with hg0 hgs;subst hgs;subst hg0;refine ze9 [.p (.c (.ref 0 0)),one (.int .u32 a),one (.int .i64 (m:Int)),one (.int .u32 x)] [.pointer (some ⟨g,0,none⟩),.int .u32 a,.int .i64 (m:Int),.int .u32 x] Tryz.func142 Tryz.ntmps142 rfl (by simp) hU ⟨_,_,rfl,zit rfl,zc4 [.int .u32 a,.int .i64 (m:Int),.int .u32 x]⟩ ?_;(conv=>whnf);refine ze0 (pre:=[]) (suf:=[one (.int .u32 a),one (.int .i64 (m:Int)),one (.int .i64 2)]) 0 n p M (zfv (M.bad a 2 0 m)) ztt rfl rfl (by kernel_rfl) (fun w' g gs hk hU=>zt1 M n p a 2 m w' g gs hU hM ha (.inr (.inl rfl)) hm) ?_
 cases hbad:M.bad a 2 0 m with
 |some y=>
  conv=>whnf
  refine ⟨fun hc=>absurd hc (by decide),fun _=>?_⟩
  conv=>whnf
  exact zmd rfl rfl ztu (zty n p M) fun w' h1 h2=>⟨rfl,by unfold MemP.storeM;rw [hbad];exact h1,h2⟩
 |none=>
  conv=>whnf
  refine ⟨fun _=>?_,fun hc=>absurd hc (by decide)⟩
  conv=>whnf
  refine ⟨{y:Nat×Int×MemP//y.1≤m∧y.2.2.ok n p∧word y.2.1∧MemP.store a 0 m x M=MemP.store a y.1 (m-y.1) y.2.1 y.2.2},fun y=>[(0,.p (.c (.ref 0 0))),(1,one (.int .u32 a)),(2,one (.int .i64 (m:Int))),(3,one (.int .u32 y.1.2.1)),(8,.p (.c (.ref 6 0))),(9,.p (.c (.ref 7 0))),(10,one (.int .i64 (y.1.1:Int)))],fun y=>memL 0 n p y.1.2.2 [.cells 220 [.v (.int .u32 0),.v (.int .u32 0),.v (.bool false)],.cells 220 [.v (.int .u32 0),.v (.int .u32 0),.v (.bool true)]],fun y=>m-y.1.1,
   ⟨⟨(0,x,M),by show 0≤m;omega,hM,hx,rfl⟩,zj3 rfl Tn Tn⟩,fun y=>?_⟩
  obtain ⟨⟨i,z,Q⟩,hi,hQ,hz,heq⟩:=y;dsimp only at hi hQ hz heq⊢;(conv=>whnf);refine ⟨fun hc=>?_,fun hc=>?_⟩
  ·have hlt:i<m:=by simpa using hc
   have hidx:=z10 (zc8 hbad i (by omega) (by omega));rw [hM.ld] at hidx;have hx0:0≤(a+(i:Int))%4294967296:=(by omega);have hz':0≤z∧z<4294967296:=hz;have hnp:=hM.np;have hlen:n≤(List.map CV.v Q.dV).length:=z79 hQ.ld;(conv=>whnf);refine ⟨(i:Int),by rw [wr32];omega,?_⟩;(conv=>whnf);refine ⟨(a+(i:Int))%4294967296,wr32 _,?_⟩;(conv=>whnf);refine ⟨z%256,rfl,?_⟩;(conv=>whnf);refine ⟨⟨by omega,by omega⟩,?_⟩;(conv=>whnf);rw [show Nat.ble (0+((a+(i:Int))%4294967296).toNat*tsz Tryz.prog 5+[CV.v (Value.int IntKind.u8 (z%256))].length) (List.map CV.v Q.dV).length=true from Nat.ble_eq_true_of_le (by refine Nat.le_trans ?_ hlen;show 0+_*1+1≤n;omega)];(conv=>whnf);rw [show Nat.ble (List.map CV.v Q.dV).length 8=false from zdw (by omega)];(conv=>whnf);refine ⟨by decide,z/256,by rw [Int.tdiv_eq_ediv_of_nonneg hz'.1,wr32];omega,?_⟩;(conv=>whnf);refine ⟨_,wr64 (by omega),?_⟩;(conv=>whnf)
   have hset:z3z (List.map CV.v Q.dV) (0+((a+(i:Int))%4294967296).toNat*tsz Tryz.prog 5) [CV.v (Value.int IntKind.u8 (z%256))]=List.map CV.v (Q.put ((a+(i:Int))%4294967296) (z%256)).dV:=by
    rw [z4h, ← zze Q _ (by rw [hQ.ld];omega)];show List.map CV.v (Q.dV.set (0+((a+(i:Int))%4294967296).toNat*1) _)=_;rw [Nat.zero_add,Nat.mul_one]
   exact ⟨⟨(i+1,z/256,Q.put ((a+(i:Int))%4294967296) (z%256)),by show i+1≤m;omega,zzh hQ _ (by omega),(by show 0≤z/256∧z/256<4294967296;omega),by rw [heq,z7p Q a z hlt]⟩,zj3 rfl Tn (aI sM (aI ((aI rfl (Or.inl hset))) Tn)),by show m-(i+1)<m-i;omega⟩
  ·have hie:i=m:=by simp at hc;omega
   subst hie;rw [Nat.sub_self] at heq;(conv=>whnf);refine ⟨_,_,zjz,?_⟩;(conv=>whnf)
   exact zmd rfl rfl ztu (zty n p Q) fun w' h1 h2=>⟨rfl,by unfold MemP.storeM;rw [hbad];show ObjsAt w' _ (memS 0 n p (MemP.store a 0 i x M));rw [heq];exact h1,h2⟩
def MemP.setI (M:MemP) (i:Nat) (v:Int):MemP:={M with image:=M.image.set i v}
def MemP.syncTo (M:MemP) (b:Nat):Nat→MemP
 |0=>M
 |j+1=>(M.syncTo b j).setI (b+j) (M.get ((b+j:Nat):Int))
theorem z39 {M:MemP} {n p:Nat} (hM:M.ok n p) (i:Nat) {v:Int} (hv:0≤v∧v<256):(M.setI i v).ok n p:=by
 refine ⟨hM.ld,by show (M.image.set i v).length=n;rw [List.length_set];exact hM.li,hM.lr,hM.lod,hM.loi,hM.np,hM.pmax,hM.db,fun x hx=>?_,hM.rb⟩;rcases List.mem_or_eq_of_mem_set hx with h|h
 ·exact hM.ib x h
 ·rw [h];exact hv
theorem z7y {M:MemP} {n p:Nat} (hM:M.ok n p) (b:Nat):∀ j,(M.syncTo b j).ok n p
 |0=>hM
 |j+1=>z39 (z7y hM b j) _ (by
  unfold MemP.get
  cases h:M.data[((b+j:Nat):Int).toNat]? with
  |none=>simp
  |some x=>exact hM.db x (List.mem_of_getElem? h))
theorem z7w (M:MemP) (b:Nat):∀ j,(M.syncTo b j).data=M.data∧(M.syncTo b j).rights=M.rights∧(M.syncTo b j).oldData=M.oldData∧(M.syncTo b j).oldImage=M.oldImage
 |0=>⟨rfl,rfl,rfl,rfl⟩
 |j+1=>z7w M b j
theorem z38 (M:MemP) {i:Nat} (v:Int) (h:i<M.image.length):M.iV.set i (zei v)=(M.setI i v).iV:=z8a h
def MemP.protect (M:MemP) (q:Nat) (x:Int):MemP:={M with rights:=M.rights.set q x}
theorem zy5 {M:MemP} {n p:Nat} (hM:M.ok n p) (q:Nat) {x:Int} (hx:0≤x∧x<8):(M.protect q x).ok n p:=
 ⟨hM.ld,hM.li,by show (M.rights.set q x).length=p;rw [List.length_set];exact hM.lr,hM.lod,hM.loi,hM.np,hM.pmax,hM.db,hM.ib,fun z hz=>by
  rcases List.mem_or_eq_of_mem_set hz with h|h
  ·exact hM.rb z h
  ·rw [h];exact hx⟩
theorem zdu {x:Int} (h:0≤x∧x<8):bits .and .i64 x 7=x:=by
 have:x=0∨x=1∨x=2∨x=3∨x=4∨x=5∨x=6∨x=7:=by omega
 rcases this with rfl|rfl|rfl|rfl|rfl|rfl|rfl|rfl<;>decide
theorem zuc (M:MemP) (n p:Nat) (q:Nat) (x:Int) (w:World) (g:Nat) (gs:List Nat) (hU:ObjsAt w (g::gs) (memS 0 n p M)) (hM:M.ok n p) (hq:q<p) (_hp:p≤4096) (hx:0≤x∧x<8):
  Calls Tryz.prog 54 #[.pointer (some ⟨g,0,none⟩),.int .i64 (q:Int),.int .i64 x] w fun e w'=>e= .returned (.tuple #[])∧ObjsAt w' (g::gs) (memS 0 n p (M.protect q x))∧GrownBys w w' (g::gs):=by
 obtain ⟨g0,g1,g2,g3,g4,g5,hg⟩:=z5w hU;injection hg with hg0 hgs;subst hgs;subst hg0;refine ze9 [.p (.c (.ref 0 0)),one (.int .i64 (q:Int)),one (.int .i64 x)] [.pointer (some ⟨g,0,none⟩),.int .i64 (q:Int),.int .i64 x] Tryz.func54 Tryz.ntmps54 rfl (by simp) hU ⟨_,_,rfl,zit rfl,zc4 [.int .i64 (q:Int),.int .i64 x]⟩ ?_;(conv=>whnf);refine ⟨decide ((q:Int)<(p:Int)),fun _=>?_,?_⟩
 ·conv=>whnf
  exact ⟨rfl,rfl,rfl,rfl,zoq _ _ _ _ _ _ _ _ _⟩
 conv=>whnf
 refine ⟨fun _=>?_,fun hc=>absurd hc (by simp [cmb];omega)⟩
 conv=>whnf
 have h7:bits .and .i64 x 7=x:=zdu hx
 refine ⟨x,h7,?_⟩
 conv=>whnf
 refine ⟨⟨by omega,by omega⟩,?_⟩
 conv=>whnf
 have hlen:p≤(List.map CV.v M.rV).length:=z79 hM.lr
 rw [show Nat.ble (0+(q:Int).toNat*tsz Tryz.prog 3+[CV.v (Value.int IntKind.i64 x)].length) (List.map CV.v M.rV).length=true from Nat.ble_eq_true_of_le (by refine Nat.le_trans ?_ hlen;show 0+_*1+1≤p;omega)]
 conv=>whnf
 have hset:z3z (List.map CV.v M.rV) (0+(q:Int).toNat*tsz Tryz.prog 3) [CV.v (Value.int IntKind.i64 x)]=List.map CV.v (M.protect q x).rV:=by
  rw [z4h];show List.map CV.v (M.rV.set (0+(q:Int).toNat*1) _)=_;rw [Nat.zero_add,Nat.mul_one,Int.toNat_natCast];exact congrArg (List.map CV.v) (z8a (by rw [hM.lr];exact hq))
 cases hble:Nat.ble (List.map CV.v M.rV).length 8 with
 |true=>
  refine znd.2 ?_;(conv=>whnf);rw [hset]
  exact zmd rfl rfl (fun i o h=>h) (zty n p (M.protect q x)) fun w' h1 h2=>⟨rfl,h1,h2⟩
 |false=>
  conv=>whnf
  rw [hset]
  exact zmd rfl rfl (fun i o h=>h) (zty n p (M.protect q x)) fun w' h1 h2=>⟨rfl,h1,h2⟩
section
variable {P:Program} {w0:World} {G:Gs} {S:List Ow} {f:Fr} {o:Oper} {N:Nd} {K:Fr→List Ow→Prop}
theorem zww {x y:Operand} {a b:Int} {tys:Array TypeId} (hop:o.op= .call ⟨.builtin .max,#[x,y],tys⟩) (hx:f.ev x=one (.int .i64 a)) (hy:f.ev y=one (.int .i64 b)) (hdst:zi4 N.n o.dst=true) (hk:K (f.put o.dst (one (.int .i64 (if a<b then b else a)))) S):OpS P w0 G N o f S K:=by
 refine zwr _ hdst (fun r act w hR hf=>⟨_,ziv _ _,?_⟩) hk;have h1:=hf.ev x;have h2:=hf.ev y;rw [hx] at h1;rw [hy] at h2;simp [execOp,hop,resolve,invoke,builtin,ziy h1,ziy h2,Builtin.max_,Builtin.max2]
end
theorem zht {l:List CV} {n:Nat} (h:l.length=n):cut l 0 n=some l:=by
 unfold cut;rw [show Nat.ble (0+n) l.length=true from Nat.ble_eq_true_of_le (by omega)];simp [← h]
abbrev u32L (vs:List Int):List Value:=vs.map (Value.int .u32)
abbrev z95 (vs:List Int):Value:= .agg (u32L vs).toArray
theorem zwh (S:List Ow):∀ vs:List Int,zwb S (List.map CV.v (u32L vs))=true
 |[]=>rfl
 |v::vs=>by
  show (match oneS S (.v (.int .u32 v)) with|true=>zwb S (List.map CV.v (u32L vs))|false=>false)=true;exact zwh S vs
theorem z30:∀ {l m p:List CV},l.length=m.length→z3z (p++l) p.length m=p++m
 |[],[],p,_=>by simp [z3z]
 |a::l,b::m,p,h=>by
  have ih:=z30 (l:=l) (m:=m) (p:=p++[b]) (by simpa using h);show z3z ((p++a::l).set p.length b) (p.length+1) m=_;rw [List.set_append_right _ _ (Nat.le_refl _),Nat.sub_self,List.set_cons_zero];have e:(p++[b]).length=p.length+1:=(by simp);rw [e] at ih
  simpa using ih
 |[],_::_,_,h=>by simp at h
 |_::_,[],_,h=>by simp at h
theorem z32 {l m:List CV} (h:l.length=m.length):z3z l 0 m=m:=z30 (p:=[]) h
theorem z9b:∀ us:List Value,valL (List.map CV.v us)=some us
 |[]=>rfl
 |u::us=>by simp only [List.map_cons,valL,CV.val,z9b us]
theorem z9c (us:List Value):(AV.p (.agg (List.map CV.v us))).val=some (.agg us.toArray):=by
 simp only [AV.val,Pc.val,z9b us]
def zo4 (vs:List Int):List Int:=vs.take 19++List.replicate (vs.length-19) 0
def zo5 (vs:List Int) (j:Nat):List Int:=vs.take 19++List.replicate (j-19) 0++vs.drop j
theorem zo9 {vs:List Int} {j:Nat} (h:19≤j) (hj:j<vs.length):(zo5 vs j).set j 0=zo5 vs (j+1):=by
 unfold zo5;have h1:(vs.take 19++List.replicate (j-19) (0:Int)).length=j:=(by simp;omega);rw [List.set_append_right _ _ (by omega),h1,Nat.sub_self,show vs.drop j=vs[j]::vs.drop (j+1) from List.drop_eq_getElem_cons hj,List.set_cons_zero,show j+1-19=(j-19)+1 by omega,List.replicate_succ'];simp
theorem zo6 {vs:List Int} {j:Nat} (h:19≤j) (hj:j≤vs.length):(zo5 vs j).length=vs.length:=by
 unfold zo5;simp;omega
theorem z5y (c:Int) (w:World):Calls Tryz.prog 141 #[.int .i64 c] w fun e w'=>e= .returned (.int .i64 (z5x c))∧Below w.heap.size w w':=by
 refine zfe [.int .i64 c] Tryz.func141 Tryz.ntmps141 rfl (by simp) ?_
 conv=>whnf
 refine ⟨c==19,fun _=>?_,?_⟩
 ·conv=>whnf
  exact ⟨rfl,rfl,rfl,rfl,rfl⟩
 conv=>whnf
 refine ⟨fun hc=>?_,fun hc=>?_⟩
 ·conv=>whnf
  exact zmf rfl fun w' hB=>⟨by unfold z5x;rw [if_pos (show (c==17||c==19)=true from hc)],hB⟩
 ·conv=>whnf
  exact zmf rfl fun w' hB=>⟨by unfold z5x;rw [if_neg (by rw [show (c==17||c==19)=false from hc];decide)],hB⟩
theorem zpa (vs:List Int) (w:World) (hl:vs.length=28):Calls Tryz.prog 83 #[z95 vs] w fun e w'=>e= .returned (z95 (zo4 vs))∧Below w.heap.size w w':=by
 refine zfe [z95 vs] Tryz.func83 Tryz.ntmps83 rfl (by simp) ?_
 conv=>whnf
 have e0:zo5 vs 19=vs:=by unfold zo5;simp
 refine ⟨{j:Nat//19≤j∧j≤28},fun x=>[(1,.p (.c (.ref 0 0))),(2,.p (.c (.ref 1 0))),(3,one (.int .i64 (x.1:Int)))],fun x=>[.cells 42 (List.map CV.v (u32L (zo5 vs x.1))),.cells 42 (List.map CV.v (u32L (List.replicate 28 0)))],fun x=>28-x.1,
  ⟨⟨19,by omega,by omega⟩,zj3 rfl Tn (aI ((aI rfl (Or.inl (by rw [e0])))) (aI sM trivial))⟩,fun x=>?_⟩
 obtain ⟨j,hj1,hj2⟩:=x
 have hlen:(List.map CV.v (u32L (zo5 vs j))).length=28:=by rw [List.length_map,List.length_map,zo6 hj1 (by omega),hl]
 dsimp only
 conv=>whnf
 refine ⟨fun hc=>?_,fun hc=>?_⟩
 ·have hlt:j<28:=by simp at hc;omega
  (conv=>whnf);refine ⟨⟨by omega,by omega⟩,?_⟩;(conv=>whnf);rw [show Nat.ble (0+(j:Int).toNat*tsz Tryz.prog 41+[CV.v (Value.int IntKind.u32 0)].length) (List.map CV.v (u32L (zo5 vs j))).length=true from Nat.ble_eq_true_of_le (by rw [hlen];show 0+_*1+1≤28;omega)];(conv=>whnf);rw [show Nat.ble (List.map CV.v (u32L (zo5 vs j))).length 8=false from by rw [hlen];rfl];(conv=>whnf);refine ⟨_,wr64 (by omega),?_⟩;(conv=>whnf)
  have hset:z3z (List.map CV.v (u32L (zo5 vs j))) (0+(j:Int).toNat*tsz Tryz.prog 41) [CV.v (Value.int IntKind.u32 0)]=List.map CV.v (u32L (zo5 vs (j+1))):=by
   rw [z4h, ← zo9 hj1 (by omega)];show List.map CV.v ((u32L (zo5 vs j)).set (0+(j:Int).toNat*1) _)=_;rw [Nat.zero_add,Nat.mul_one,Int.toNat_natCast];simp only [List.map_set]
  exact ⟨⟨j+1,by omega,by omega⟩,zj3 rfl Tn (aI ((aI rfl (Or.inl hset))) (aI sM trivial)),by show 28-(j+1)<28-j;omega⟩
 ·have hje:j=28:=by simp at hc;omega
  subst hje;(conv=>whnf);refine ⟨_,_,zjz,?_⟩;(conv=>whnf);rw [show cut (List.map CV.v (u32L (zo5 vs 28))) 0 (Tryz.prog.types[42].size)=some (List.map CV.v (u32L (zo5 vs 28))) from zht hlen];(conv=>whnf);have hl2:(List.map CV.v (u32L (List.replicate 28 0))).length=28:=rfl;rw [show Nat.beq (List.map CV.v (u32L (zo5 vs 28))).length (Tryz.prog.types[42].size)=true from by rw [hlen];rfl,zwh];(conv=>whnf);rw [show Nat.ble (0+(List.map CV.v (u32L (zo5 vs 28))).length) (List.map CV.v (u32L (List.replicate 28 0))).length=true from Nat.ble_eq_true_of_le (by rw [hlen,hl2];omega)];(conv=>whnf);rw [z32 (show (List.map CV.v (u32L (List.replicate 28 0))).length=(List.map CV.v (u32L (zo5 vs 28))).length by rw [hlen,hl2])];(conv=>whnf);rw [show cut (List.map CV.v (u32L (zo5 vs 28))) 0 (Tryz.prog.types[42].size)=some (List.map CV.v (u32L (zo5 vs 28))) from zht hlen];(conv=>whnf)
  refine zmf (z9c _) fun w' hB=>⟨?_,hB⟩
  have:zo5 vs 28=zo4 vs:=by unfold zo5 zo4;rw [List.drop_eq_nil_of_le (by omega),hl];simp
  rw [this]
def getV (vs:List Int) (i:Int):Int:=(vs[i.toNat]?).getD 0
def szN (c:Int):Nat:=if c=17∨c=19 then 1 else 4
structure Ap where
 vs:List Int
 stays:Bool
 mem:MemP
def zbp (o:BOp) (vs:List Int) (M:MemP):Ap:=
 if o.code=1 then ⟨vs.set o.d.toNat o.n,true,M⟩
 else if o.code=2 then ⟨vs.set o.d.toNat (getV vs o.a),true,M⟩
 else if o.code=16∨o.code=17 then (match M.bad ((getV vs o.a+o.n)%4294967296) 1 0 (szN o.code) with
  |none=>⟨vs.set o.d.toNat (M.load ((getV vs o.a+o.n)%4294967296) 0 (szN o.code)),true,M⟩
  |some _=>⟨vs,false,M⟩)
 else if o.code=18∨o.code=19 then ⟨vs,(M.bad ((getV vs o.a+o.n)%4294967296) 2 0 (szN o.code)).isNone,M.storeM ((getV vs o.a+o.n)%4294967296) (szN o.code) (getV vs o.b)⟩
 else if o.code=21 then ⟨vs,getV vs o.a !=0,M⟩
 else if o.code=22 then ⟨vs,false,M⟩
 else if zq1 o.code=true then ⟨vs.set o.d.toNat (yao o.code (getV vs o.a) (getV vs o.b)),true,M⟩
 else ⟨vs,true,M⟩
structure Outc where
 leaves:Bool
 index:Int
 done:Int
 pc:Int
 vars:List Int
def Outc.zero:Outc:=⟨false,0,0,0,List.replicate 28 0⟩
structure EvR where
 out:Outc
 mem:MemP
def ztj (o:BOp) (i:Int):Int:=if o.code=20 then o.n else i
def zkp (ats:List Int):List BOp→Int→List Int→MemP→EvR
 |[],_,_,M=>⟨Outc.zero,M⟩
 |o::l,i,vs,M=>
  if o.code=24∨(o.code=23∧getV vs o.a≠0) then ⟨⟨false,0,ats.length,o.n,zo4 vs⟩,M⟩
  else if o.code=25 then ⟨⟨false,0,ats.length,getV vs o.a,zo4 vs⟩,M⟩
  else if (zbp o vs M).stays=true then zkp ats l (ztj o i) (zbp o vs M).vs (zbp o vs M).mem
  else ⟨⟨true,ztj o i,ztj o i,(ats[(ztj o i).toNat]?).getD 0,zo4 vs⟩,(zbp o vs M).mem⟩
def zkm (b:Blk) (vs:List Int) (M:MemP):EvR:=if z9e b=true then zkp b.at_ b.ops 0 vs M else ⟨Outc.zero,M⟩
structure VarsOk (vs:List Int):Prop where
 len:vs.length=28
 word:∀ x∈vs,word x
theorem zod {vs:List Int} (h:VarsOk vs) (i:Int):word (getV vs i):=by
 unfold getV
 cases hi:vs[i.toNat]? with
 |none=>exact yan
 |some x=>exact h.word x (List.mem_of_getElem? hi)
theorem zoc {vs:List Int} {d v x:Int} (hd:0≤d) (hv:0≤v) (hne:v≠d):getV (vs.set d.toNat x) v=getV vs v:=by
 unfold getV;rw [List.getElem?_set_ne (by omega)]
theorem zob {vs:List Int} (h:VarsOk vs) {d x:Int} (hd:0≤d∧d<28):getV (vs.set d.toNat x) d=x:=by
 unfold getV;rw [List.getElem?_set_self (by rw [h.len];omega)];rfl
theorem z4g {vs:List Int} (h:VarsOk vs) (i:Nat) {x:Int} (hx:Go.Proofs.YtocafomnnkmjfaaGreat.word x):VarsOk (vs.set i x):=⟨by rw [List.length_set];exact h.len,fun y hy=>by
 rcases List.mem_or_eq_of_mem_set hy with h1|h1
 ·exact h.word y h1
 ·rw [h1];exact hx⟩
theorem zbw {o:BOp} {vs:List Int} {M:MemP} (h:VarsOk vs) (hn:word o.n):VarsOk (zbp o vs M).vs:=by
 unfold zbp
 split
 ·exact z4g h _ hn
 split
 ·exact z4g h _ (zod h _)
 split
 ·split
  ·exact z4g h _ (zta M _ _ _)
  ·exact h
 split
 ·exact h
 split
 ·exact h
 split
 ·exact h
 split
 ·exact z4g h _ (yap (zod h _) (zod h _))
 ·exact h
theorem znk {o:BOp} (hf:znh o=true) (hD:hasD o.code=true):0≤o.d∧o.d<28∧writes o=o.d:=by
 have h2:=(zno.1 hf).2.1;rw [hD] at h2;simp [zlv] at h2;refine ⟨by omega,by omega,?_⟩;unfold writes;rw [hD];rfl
theorem zni {o:BOp} (hf:znh o=true):0≤o.a∧o.a<28:=by
 have h:=(zno.1 hf).2.2.1
 cases hA:hasA o.code<;>rw [hA] at h<;>simp [zlv] at h<;>omega
theorem znj {o:BOp} (hf:znh o=true):0≤o.b∧o.b<28:=by
 have h:=(zno.1 hf).2.2.2.1
 cases hB:hasB o.code<;>rw [hB] at h<;>simp [zlv] at h<;>omega
theorem znl {o:BOp} (hf:znh o=true):0≤o.d∧o.d<28:=by
 have h:=(zno.1 hf).2.1
 cases hD:hasD o.code<;>rw [hD] at h<;>simp [zlv] at h<;>omega
theorem zbr {o:BOp} (h:o.code=1) (vs:List Int) (M:MemP):zbp o vs M=⟨vs.set o.d.toNat o.n,true,M⟩:=by unfold zbp;rw [if_pos h]
theorem zbu {o:BOp} (h:o.code=2) (vs:List Int) (M:MemP):zbp o vs M=⟨vs.set o.d.toNat (getV vs o.a),true,M⟩:=by unfold zbp;rw [if_neg (by omega),if_pos h]
theorem zbq {o:BOp} (h:zq1 o.code=true) (vs:List Int) (M:MemP):zbp o vs M=⟨vs.set o.d.toNat (yao o.code (getV vs o.a) (getV vs o.b)),true,M⟩:=by
 have h':3≤o.code∧o.code≤15:=by unfold zq1 at h;simpa using h
 unfold zbp;rw [if_neg (by omega),if_neg (by omega),if_neg (by omega),if_neg (by omega),if_neg (by omega),if_neg (by omega),if_pos h]
theorem zbv {o:BOp} (h:o.code=20∨o.code=23) (vs:List Int) (M:MemP):zbp o vs M=⟨vs,true,M⟩:=by
 have hb:¬zq1 o.code=true:=by unfold zq1;rw [decide_eq_true_eq];omega
 unfold zbp;rw [if_neg (by omega),if_neg (by omega),if_neg (by omega),if_neg (by omega),if_neg (by omega),if_neg (by omega),if_neg hb]
theorem zbs {o:BOp} (h:o.code=21) (vs:List Int) (M:MemP):zbp o vs M=⟨vs,getV vs o.a !=0,M⟩:=by
 unfold zbp;rw [if_neg (by omega),if_neg (by omega),if_neg (by omega),if_neg (by omega),if_pos h]
theorem zkr {ats:List Int} {o:BOp} {l:List BOp} {i:Int} {vs:List Int} {M:MemP} (h1:¬(o.code=24∨(o.code=23∧getV vs o.a≠0))) (h2:o.code≠25) (h3:(zbp o vs M).stays=true):zkp ats (o::l) i vs M=zkp ats l (ztj o i) (zbp o vs M).vs (zbp o vs M).mem:=by
 show (if _ then _ else _)=_;rw [if_neg h1,if_neg h2,if_pos h3]
/-! Fold. -/
/-! Copies. -/
def MemP.zero (p:Nat):MemP:=⟨List.replicate (256*p) 0,List.replicate (256*p) 0,List.replicate (256*p) 0,List.replicate (256*p) 0,List.replicate p 0,[],[],[],[],[]⟩
theorem zui {p:Nat} (hp:p≤4096):(MemP.zero p).ok (256*p) p:=
 ⟨List.length_replicate,List.length_replicate,List.length_replicate,List.length_replicate,List.length_replicate,rfl,hp,fun x hx=>by rw [List.eq_of_mem_replicate hx];omega,fun x hx=>by rw [List.eq_of_mem_replicate hx];omega,fun x hx=>by rw [List.eq_of_mem_replicate hx];omega⟩
theorem ztf (z:Value) (n:Nat):(madeCells #[z] (n*1)).toList=List.replicate n z:=by
 refine List.ext_getElem? fun i=>?_;simp only [madeCells,Array.getElem?_toList,Array.getElem?_map,List.getElem?_replicate,Nat.mul_one]
 by_cases h:i<n<;>simp [h,Nat.mod_one]
theorem ztx (n p:Nat) (M:MemP):sbnd 6 (memS 0 n p M)=true:=by
 simp only [sbnd,Ow.bnd,zd4,bndL,CV.bnd]
 rfl
theorem zum (p:Nat) (w:World) (hp:1≤p∧p≤4096):
  Calls Tryz.prog 58 #[.int .i64 (p:Int),.bool false] w fun e w'=>∃ g gs,e= .returned (.pointer (some ⟨g,0,none⟩))∧NewObjs w w' (g::gs) (memS 0 (256*p) p (MemP.zero p)):=by
 obtain ⟨Z,hZ⟩:∃ Z:List Value,Z=List.replicate (256*p) (zei 0):=⟨_,rfl⟩
 obtain ⟨Y,hY⟩:∃ Y:List Value,Y=List.replicate p (intV 0):=⟨_,rfl⟩
 obtain ⟨n,hn⟩:∃ n,n=256*p:=⟨_,rfl⟩
 have hmZ:(madeCells (Value.int .u8 0).cells (n*1)).toList=Z:=by rw [hZ,hn];exact ztf _ _
 have hmY:(madeCells (Value.int .i64 0).cells (p*1)).toList=Y:=by rw [hY];exact ztf _ _
 have h256:(256:Int)*(p:Int)=(n:Int):=by omega
 have hfb:Fr.bnd 4 [(1,one (.bool false)),(5,one (.int .i64 (p:Int))),(6,.p (.c (.ref 3 0)))]=true:=rfl
 have hsb:sbnd 4 [.cells 5 (Z.map .v),.cells 5 (Z.map .v),.cells 3 (Y.map .v),.cells 115 [.sl 0 0 n n,.v (.slice none 0 0),.sl 1 0 n n,.v (.slice none 0 0),.sl 2 0 p p,.v (.bool false)]]=true:=by
  simp only [sbnd,Ow.bnd,zd4,bndL,CV.bnd];rfl
 refine zfc [.int .i64 (p:Int),.bool false] Tryz.func58 Tryz.ntmps58 rfl (by simp) ?_;refine z3g ?_;(conv=>whnf);refine z3g ?_;(conv=>whnf);refine zwx rfl rfl rfl rfl ?_;rw [if_neg (by omega)];(conv=>whnf);refine zww rfl rfl rfl rfl ?_;rw [if_pos (by omega)];(conv=>whnf);refine z3c (α:=Unit) (fun _=>[(1,one (.bool false)),(5,one (.int .i64 (p:Int))),(6,.p (.c (.ref 3 0)))]) (fun _=>[.cells 5 (Z.map .v),.cells 5 (Z.map .v),.cells 3 (Y.map .v),.cells 115 [.sl 0 0 n n,.v (.slice none 0 0),.sl 1 0 n n,.v (.slice none 0 0),.sl 2 0 p p,.v (.bool false)]]) ?_ fun _=>?_
 ·refine z3l ?_
  refine z2t (.q 0 (.q 1 (.q 3 (.q 4 (.q 6 (.q 8 (.alt 2 (.alt 5 (.alt 7 (.q 9 (.alt 10 (.q 11 .done) .no)) .no) (.alt 7 (.alt 5 (.q 9 (.alt 10 (.q 11 .done) .no)) .no) .no)) (.alt 5 (.alt 2 (.alt 7 (.q 9 (.alt 10 (.q 11 .done) .no)) .no) (.alt 7 (.alt 2 (.q 9 (.alt 10 (.q 11 .done) .no)) .no) .no)) (.alt 7 (.alt 2 (.alt 5 (.q 9 (.alt 10 (.q 11 .done) .no)) .no) (.alt 5 (.alt 2 (.q 9 (.alt 10 (.q 11 .done) .no)) .no) .no)) .no))))))))) mixed (by kernel_rfl) (by kernel_rfl) ?_;(conv=>whnf);refine ⟨(n:Int),by rw [h256];exact wr64 (by omega),?_⟩;(conv=>whnf);refine ⟨(n:Int),by rw [h256];exact wr64 (by omega),?_⟩;(conv=>whnf);refine ⟨?_,?_,?_,trivial⟩
  ·conv=>whnf
   refine zwu 1 n rfl rfl rfl rfl rfl rfl rfl (by omega) (by show 1*n≤_;omega) (by show n≤9223372036854775807;omega) rfl (xs:=Z) hmZ ?_;(conv=>whnf);refine ⟨?_,?_,trivial⟩
   ·conv=>whnf
    refine zwu 1 n rfl rfl rfl rfl rfl rfl rfl (by omega) (by show 1*n≤_;omega) (by show n≤9223372036854775807;omega) rfl (xs:=Z) hmZ ?_;(conv=>whnf);refine ⟨?_,trivial⟩;(conv=>whnf);refine zwu 1 p rfl rfl rfl rfl rfl rfl rfl (by omega) (by show 8*p≤_;omega) (by show p≤9223372036854775807;omega) rfl (xs:=Y) hmY ?_;(conv=>whnf);refine ⟨?_,trivial⟩;(conv=>whnf);exact zb6 () (zj1 [0,1,2,3] Tn (aI ((Exists.intro _ (aI rfl (aI rfl (Or.inl (z1s _ _).symm))))) (aI ((Exists.intro _ (aI rfl (aI rfl (Or.inl (z1s _ _).symm))))) (aI ((Exists.intro _ (aI rfl (aI rfl (Or.inl (z1s _ _).symm))))) (aI ((Exists.intro _ (aI rfl sM))) trivial)))) hfb hsb rfl rfl rfl)
   ·conv=>whnf
    refine zwu 1 p rfl rfl rfl rfl rfl rfl rfl (by omega) (by show 8*p≤_;omega) (by show p≤9223372036854775807;omega) rfl (xs:=Y) hmY ?_;(conv=>whnf);refine ⟨?_,trivial⟩;(conv=>whnf);refine zwu 1 n rfl rfl rfl rfl rfl rfl rfl (by omega) (by show 1*n≤_;omega) (by show n≤9223372036854775807;omega) rfl (xs:=Z) hmZ ?_;(conv=>whnf);refine ⟨?_,trivial⟩;(conv=>whnf);exact zb6 () (zj1 [0,2,1,3] Tn (aI ((Exists.intro _ (aI rfl (aI rfl (Or.inl (z1s _ _).symm))))) (aI ((Exists.intro _ (aI rfl (aI rfl (Or.inl (z1s _ _).symm))))) (aI ((Exists.intro _ (aI rfl (aI rfl (Or.inl (z1s _ _).symm))))) (aI ((Exists.intro _ (aI rfl sM))) trivial)))) hfb hsb rfl rfl rfl)
  ·conv=>whnf
   refine zwu 1 n rfl rfl rfl rfl rfl rfl rfl (by omega) (by show 1*n≤_;omega) (by show n≤9223372036854775807;omega) rfl (xs:=Z) hmZ ?_;(conv=>whnf);refine ⟨?_,?_,trivial⟩
   ·conv=>whnf
    refine zwu 1 n rfl rfl rfl rfl rfl rfl rfl (by omega) (by show 1*n≤_;omega) (by show n≤9223372036854775807;omega) rfl (xs:=Z) hmZ ?_;(conv=>whnf);refine ⟨?_,trivial⟩;(conv=>whnf);refine zwu 1 p rfl rfl rfl rfl rfl rfl rfl (by omega) (by show 8*p≤_;omega) (by show p≤9223372036854775807;omega) rfl (xs:=Y) hmY ?_;(conv=>whnf);refine ⟨?_,trivial⟩;(conv=>whnf);exact zb6 () (zj1 [1,0,2,3] Tn (aI ((Exists.intro _ (aI rfl (aI rfl (Or.inl (z1s _ _).symm))))) (aI ((Exists.intro _ (aI rfl (aI rfl (Or.inl (z1s _ _).symm))))) (aI ((Exists.intro _ (aI rfl (aI rfl (Or.inl (z1s _ _).symm))))) (aI ((Exists.intro _ (aI rfl sM))) trivial)))) hfb hsb rfl rfl rfl)
   ·conv=>whnf
    refine zwu 1 p rfl rfl rfl rfl rfl rfl rfl (by omega) (by show 8*p≤_;omega) (by show p≤9223372036854775807;omega) rfl (xs:=Y) hmY ?_;(conv=>whnf);refine ⟨?_,trivial⟩;(conv=>whnf);refine zwu 1 n rfl rfl rfl rfl rfl rfl rfl (by omega) (by show 1*n≤_;omega) (by show n≤9223372036854775807;omega) rfl (xs:=Z) hmZ ?_;(conv=>whnf);refine ⟨?_,trivial⟩;(conv=>whnf);exact zb6 () (zj1 [2,0,1,3] Tn (aI ((Exists.intro _ (aI rfl (aI rfl (Or.inl (z1s _ _).symm))))) (aI ((Exists.intro _ (aI rfl (aI rfl (Or.inl (z1s _ _).symm))))) (aI ((Exists.intro _ (aI rfl (aI rfl (Or.inl (z1s _ _).symm))))) (aI ((Exists.intro _ (aI rfl sM))) trivial)))) hfb hsb rfl rfl rfl)
  ·conv=>whnf
   refine zwu 1 p rfl rfl rfl rfl rfl rfl rfl (by omega) (by show 8*p≤_;omega) (by show p≤9223372036854775807;omega) rfl (xs:=Y) hmY ?_;(conv=>whnf);refine ⟨?_,?_,trivial⟩
   ·conv=>whnf
    refine zwu 1 n rfl rfl rfl rfl rfl rfl rfl (by omega) (by show 1*n≤_;omega) (by show n≤9223372036854775807;omega) rfl (xs:=Z) hmZ ?_;(conv=>whnf);refine ⟨?_,trivial⟩;(conv=>whnf);refine zwu 1 n rfl rfl rfl rfl rfl rfl rfl (by omega) (by show 1*n≤_;omega) (by show n≤9223372036854775807;omega) rfl (xs:=Z) hmZ ?_;(conv=>whnf);refine ⟨?_,trivial⟩;(conv=>whnf);exact zb6 () (zj1 [1,2,0,3] Tn (aI ((Exists.intro _ (aI rfl (aI rfl (Or.inl (z1s _ _).symm))))) (aI ((Exists.intro _ (aI rfl (aI rfl (Or.inl (z1s _ _).symm))))) (aI ((Exists.intro _ (aI rfl (aI rfl (Or.inl (z1s _ _).symm))))) (aI ((Exists.intro _ (aI rfl sM))) trivial)))) hfb hsb rfl rfl rfl)
   ·conv=>whnf
    refine zwu 1 n rfl rfl rfl rfl rfl rfl rfl (by omega) (by show 1*n≤_;omega) (by show n≤9223372036854775807;omega) rfl (xs:=Z) hmZ ?_;(conv=>whnf);refine ⟨?_,trivial⟩;(conv=>whnf);refine zwu 1 n rfl rfl rfl rfl rfl rfl rfl (by omega) (by show 1*n≤_;omega) (by show n≤9223372036854775807;omega) rfl (xs:=Z) hmZ ?_;(conv=>whnf);refine ⟨?_,trivial⟩;(conv=>whnf);exact zb6 () (zj1 [2,1,0,3] Tn (aI ((Exists.intro _ (aI rfl (aI rfl (Or.inl (z1s _ _).symm))))) (aI ((Exists.intro _ (aI rfl (aI rfl (Or.inl (z1s _ _).symm))))) (aI ((Exists.intro _ (aI rfl (aI rfl (Or.inl (z1s _ _).symm))))) (aI ((Exists.intro _ (aI rfl sM))) trivial)))) hfb hsb rfl rfl rfl)
 refine z3l ?_
 conv=>whnf
 refine ⟨fun _=>?_,fun h=>absurd h (by decide)⟩
 conv=>whnf
 refine ⟨(n:Int),by rw [h256];exact wr64 (by omega),?_⟩
 conv=>whnf
 refine zwu 1 n rfl rfl rfl rfl rfl rfl rfl (by omega) (by show 1*n≤_;omega) (by show n≤9223372036854775807;omega) rfl (xs:=Z) hmZ ?_
 conv=>whnf
 refine ⟨(n:Int),by rw [h256];exact wr64 (by omega),?_⟩
 conv=>whnf
 refine zwu 1 n rfl rfl rfl rfl rfl rfl rfl (by omega) (by show 1*n≤_;omega) (by show n≤9223372036854775807;omega) rfl (xs:=Z) hmZ ?_
 conv=>whnf
 have hd:(MemP.zero p).dV=Z:=by rw [hZ];exact (List.append_nil _).trans List.map_replicate
 have hi:(MemP.zero p).iV=Z:=by rw [hZ];exact (List.append_nil _).trans List.map_replicate
 have hod:(MemP.zero p).odV=Z:=by rw [hZ];exact (List.append_nil _).trans List.map_replicate
 have hoi:(MemP.zero p).oiV=Z:=by rw [hZ];exact (List.append_nil _).trans List.map_replicate
 have hr:(MemP.zero p).rV=Y:=by rw [hY];exact (List.append_nil _).trans List.map_replicate
 rw [← hn]
 refine zb1 (f':=[(4,.p (.c (.ref 0 0)))]) (S':=memS 0 n p (MemP.zero p)) (zj1 [3,0,4,1,5,2] (aI rfl trivial) (aI ((Exists.intro _ (aI rfl sM))) (aI ((Exists.intro _ (aI rfl (aI rfl (Or.inl (by rw [hd];exact (z1s _ _).symm)))))) (aI ((Exists.intro _ (aI rfl (aI rfl (Or.inl (by rw [hi];exact (z1s _ _).symm)))))) (aI ((Exists.intro _ (aI rfl (aI rfl (Or.inl (by rw [hod];exact (z1s _ _).symm)))))) (aI ((Exists.intro _ (aI rfl (aI rfl (Or.inl (by rw [hoi];exact (z1s _ _).symm)))))) (aI ((Exists.intro _ (aI rfl (aI rfl (Or.inl (by rw [hr];exact (z1s _ _).symm)))))) trivial)))))) rfl (ztx n p _) rfl rfl rfl) (zce ?_)
 conv=>whnf
 exact zmc 0 (memS 0 n p (MemP.zero p)) (memS 0 n p (MemP.zero p)) (by simp) (fun i hi=>by rw [Nat.zero_add]) (ztz 0 n p _) (zty n p _) fun w' g gs h=>⟨g,gs,rfl,h⟩
def Agree (m:Nat) (vs us:List Int):Prop:=∀ v:Nat,v<28→m.testBit v=true→getV vs (v:Int)=getV us (v:Int)
structure StepSame (o:BOp) (m:Nat) (vs us:List Int) (M:MemP):Prop where
 a:hasA o.code=true→getV us o.a=getV vs o.a
 stays:(zbp o us M).stays=(zbp o vs M).stays
 mem:(zbp o us M).mem=(zbp o vs M).mem
 agree:(zbp o vs M).stays=true→Agree m (zbp o vs M).vs (zbp o us M).vs
 guests:zvx o=true→zo4 us=zo4 vs
theorem ztn:∀ (l:List BOp) {s s2:Ck},zf4 s l=some s2→s.marks≤s2.marks
 |[],s,s2,h=>by injection h with h;subst h;exact Nat.le_refl _
 |o::l,s,s2,h=>by
  obtain ⟨s1,h1,h2⟩:=zga h;have:=ztn l h2;obtain ⟨_,_,h3,h4⟩:=zf9 h1;by_cases hc:o.code=20
  ·have:=(h3 hc).2;subst this;simp at*;omega
  ·have:s1.marks=s.marks:=by
    have:=h4 hc;rw [this.2]
   omega
def EvAt (n:Nat) (l:List BOp) (i:Int):Prop:=∃ s s2:Ck,zf4 s l=some s2∧s2.marks=n∧0≤i∧i<n
theorem zkk {n:Nat} {o:BOp} {l:List BOp} {i:Int} (h:EvAt n (o::l) i):EvAt n l (ztj o i):=by
 obtain ⟨s,s2,h1,h2,h3,h4⟩:=h;obtain ⟨s1,k1,k2⟩:=zga h1;obtain ⟨_,_,k3,_⟩:=zf9 k1;have hm:=ztn l k2;refine ⟨s1,s2,k2,h2,?_⟩;unfold ztj
 split
 ·rename_i hc
  obtain ⟨e1,e2⟩:=k3 hc;subst e2;have hm:s.marks+1≤s2.marks:=hm;omega
 ·exact ⟨h3,h4⟩
theorem zkj {b:Blk} (hv:z9e b=true):EvAt b.at_.length b.ops 0:=by
 obtain ⟨hh,s,h1,h2⟩:=z9p.1 hv;refine ⟨_,s,h1,h2,by omega,?_⟩;unfold zpi at hh;simp only [Bool.and_eq_true,decide_eq_true_eq] at hh;omega
theorem zi3 {l:List BOp} {j:Nat} {o:BOp} (h:l[j]?=some o):l.drop j=o::l.drop (j+1):=by
 have hj:j<l.length:=by
  rcases Nat.lt_or_ge j l.length with h1|h1
  ·exact h1
  ·rw [List.getElem?_eq_none h1] at h;cases h
 rw [List.drop_eq_getElem_cons hj];rw [List.getElem?_eq_getElem hj] at h;injection h with h;rw [h]
theorem zkq {ats:List Int} {o:BOp} {l:List BOp} {i:Int} {vs:List Int} {M:MemP} (h:o.code=24∨(o.code=23∧getV vs o.a≠0)):zkp ats (o::l) i vs M=⟨⟨false,0,ats.length,o.n,zo4 vs⟩,M⟩:=if_pos h
theorem zkv {ats:List Int} {o:BOp} {l:List BOp} {i:Int} {vs:List Int} {M:MemP} (h:o.code=25):zkp ats (o::l) i vs M=⟨⟨false,0,ats.length,getV vs o.a,zo4 vs⟩,M⟩:=by
 show (if _ then _ else _)=_;rw [if_neg (by omega),if_pos h]
theorem zks {ats:List Int} {o:BOp} {l:List BOp} {i:Int} {vs:List Int} {M:MemP} (h1:¬(o.code=24∨(o.code=23∧getV vs o.a≠0))) (h2:o.code≠25) (h3:(zbp o vs M).stays=false):
  zkp ats (o::l) i vs M=⟨⟨true,ztj o i,ztj o i,(ats[(ztj o i).toNat]?).getD 0,zo4 vs⟩,(zbp o vs M).mem⟩:=by
 show (if _ then _ else _)=_;rw [if_neg h1,if_neg h2,if_neg (by rw [h3];decide)]
theorem zo8 {vs:List Int} (h:VarsOk vs):VarsOk (zo4 vs):=by
 refine ⟨?_,fun x hx=>?_⟩
 ·unfold zo4;simp [h.len]
 ·unfold zo4 at hx
  rcases List.mem_append.1 hx with h1|h1
  ·exact h.word x (List.mem_of_mem_take h1)
  ·rw [List.eq_of_mem_replicate h1];exact yan
theorem zbt {o:BOp} {vs:List Int} {M:MemP} {n p:Nat} (h:M.ok n p) (hv:VarsOk vs):(zbp o vs M).mem.ok n p:=by
 unfold zbp
 split
 ·exact h
 split
 ·exact h
 split
 ·split<;>exact h
 split
 ·exact z7k h _ _ (zod hv _).1
 split
 ·exact h
 split
 ·exact h
 split<;>exact h
/-! Opt. -/
def updR (R:Int→Int) (d x:Int):Int→Int:=if d=0 then R else fun j=>if j=d then x else R j
def z8i (op d a:Int):Bool:=
 if op=32 then decide (d=a) else if op=33 then decide (d≠a) else if op=34 then decide (d<a) else if op=35 then decide (¬d<a) else if op=36 then decide (z5e d<z5e a) else decide (¬z5e d<z5e a)
def z65 (i:QI) (at_:Int) (R:Int→Int) (M:MemP):Option ((Int→Int)×Int×MemP):=
 if i.op=10∧R i.b=0 then none
 else if zzv i.op≠0 then some (updR R i.d (yao (zzv i.op) (R i.a) (if 16≤i.op then i.imm else R i.b)),zhr (at_+4),M)
 else if i.op=41 then some (updR R i.d (zhr (i.imm*1024)),zhr (at_+4),M)
 else if i.op=23 then (match M.bad ((R i.a+i.imm)%4294967296) 1 0 4 with|none=>some (updR R i.d (M.load ((R i.a+i.imm)%4294967296) 0 4),zhr (at_+4),M)|some _=>none)
 else if i.op=24 then (match M.bad ((R i.a+i.imm)%4294967296) 1 0 1 with|none=>some (updR R i.d (M.load ((R i.a+i.imm)%4294967296) 0 1),zhr (at_+4),M)|some _=>none)
 else if i.op=25 then (match M.bad ((R i.a+i.imm)%4294967296) 2 0 4 with|none=>some (R,zhr (at_+4),M.storeM ((R i.a+i.imm)%4294967296) 4 (R i.d))|some _=>none)
 else if i.op=26 then (match M.bad ((R i.a+i.imm)%4294967296) 2 0 1 with|none=>some (R,zhr (at_+4),M.storeM ((R i.a+i.imm)%4294967296) 1 (R i.d))|some _=>none)
 else if i.op=27 then some (updR R i.d (zhr (at_+4)),(R i.a+i.imm)%4294967296/4*4,M)
 else if i.op=40 then some (updR R i.d (zhr (at_+4)),zhr (at_+4*i.imm),M)
 else if 32≤i.op∧i.op≤37 then some (R,if z8i i.op (R i.d) (R i.a)=true then zhr (at_+4*i.imm) else zhr (at_+4),M)
 else none
structure RegOk (vs:List Int) (R:Int→Int):Prop where
 vars:VarsOk vs
 regs:∀ j,0≤j→j<16→getV vs j=R j
 zero:R 0=0
section
variable {ats:List Int} {l:List BOp} {k:Int} {vs:List Int} {M:MemP}
end
section
variable {ats:List Int} {k:Int} {vs:List Int} {R:Int→Int} {M:MemP} {i:QI}
end
structure RunR where
 leaves:Bool
 done:Nat
 pc:Int
 R:Int→Int
 M:MemP
def RunR.out (r:RunR) (vs:List Int):EvR:=⟨⟨r.leaves,if r.leaves=true then (r.done:Int) else 0,r.done,r.pc,zo4 vs⟩,r.M⟩
abbrev z93 (vs:List Int):List CV:=List.map CV.v (u32L vs)
theorem z94 {vs:List Int} (h:VarsOk vs):(z93 vs).length=28:=by simp [h.len]
theorem ybq:(z93 (List.replicate 28 0)).length=28:=rfl
theorem zdj {l:List CV} {n:Nat} (h:l.length=n):Nat.beq l.length n=true:=by rw [h];exact Nat.beq_refl n
theorem zdx {l m:List CV} (h:l.length=m.length):Nat.ble (0+l.length) m.length=true:=Nat.ble_eq_true_of_le (by omega)
theorem z9y {vs:List Int} (h:VarsOk vs) {i:Int} (hi:0≤i∧i<28):(z93 vs)[0+i.toNat*1]?=some (.v (.int .u32 (getV vs i))):=by
 have hlt:i.toNat<vs.length:=by rw [h.len];omega
 unfold getV
 rw [Nat.zero_add,Nat.mul_one,List.getElem?_map,List.getElem?_map,List.getElem?_eq_getElem hlt]
 rfl
theorem z9z {vs:List Int} (h:VarsOk vs) {i:Int} (hi:0≤i∧i<28) (c:CV):Nat.ble (0+i.toNat*1+[c].length) (z93 vs).length=true:=Nat.ble_eq_true_of_le (by rw [z94 h];show 0+_*1+1≤28;omega)
theorem z90 {vs:List Int} (h:VarsOk vs):Nat.ble (z93 vs).length 8=false:=by rw [z94 h];rfl
theorem z91 (vs:List Int) (i:Int) (x:Int):z3z (z93 vs) (0+i.toNat*1) [.v (.int .u32 x)]=z93 (vs.set i.toNat x):=by
 rw [z4h,Nat.zero_add,Nat.mul_one];show _=List.map CV.v (List.map (Value.int .u32) (vs.set i.toNat x));rw [List.map_set (f:=Value.int .u32)]
theorem z97 {vs:List Int} (h:VarsOk vs) (Z:List CV) (hZ:Z.length=28):z3z Z 0 (z93 vs)=z93 vs:=z32 (by rw [hZ,z94 h])
theorem z9d (us:List Value) (x:Value):(AV.tup [.agg (List.map CV.v us),.c (.v x)]).val=some (.tuple #[.agg us.toArray,x]):=by
 simp only [AV.val,zzq,Pc.val,z9b us,CV.val]
theorem ObjsAt.pre {w:World} {gs hs:List Nat} {U V:List Ow} (hl:U.length=gs.length) (hob:zaj U.length U) (h:ObjsAt w (gs++hs) (U++V)):ObjsAt w gs U:=by
 have at_:∀ {i b:Nat},gs[i]?=some b→(gs++hs)[i]?=some b:=fun {i b} hb=>by
  have:i<gs.length:=by
   rcases Nat.lt_or_ge i gs.length with h1|h1
   ·exact h1
   ·rw [List.getElem?_eq_none h1] at hb;cases hb
  rw [List.getElem?_append_left this];exact hb
 have back:∀ i b,i<U.length→(zj7 (gs++hs)).blk i=some b→(zj7 gs).blk i=some b:=fun i b hi hb=>by
  have hb:(gs++hs)[i]?=some b:=hb;rw [List.getElem?_append_left (by omega)] at hb;exact hb
 refine ⟨hl,fun i j b hi hj=>h.nodup i j b (at_ hi) (at_ hj),fun g hg=>h.lt g (List.mem_append.2 (.inl hg)),fun i o ho=>?_⟩
 have hi:i<U.length:=by
  rcases Nat.lt_or_ge i U.length with h1|h1
  ·exact h1
  ·rw [List.getElem?_eq_none h1] at ho;cases ho
 have h1:=h.own i o (by rw [List.getElem?_append_left hi];exact ho);have h2:=hob o (List.mem_of_getElem? ho)
 cases o with
 |cells t l=>
  obtain ⟨b,us,e1,e2,e3⟩:=h1;refine ⟨b,us,back i b hi e1,e2,zil (k:=0) (n:=U.length) (fun j b hj hb=>back j b hj (by rwa [Nat.zero_add] at hb)) h2 ?_⟩
  have:∀ l:List CV,l.map (CV.sh 0)=l:=fun l=>by
   refine (List.map_congr_left fun c _=>?_).trans (List.map_id l)
   cases c<;>simp [CV.sh]
  rw [this];exact e3
 |row=>exact h2.elim
 |ext=>exact h2.elim
 |view=>exact h2.elim
 |gone=>exact h2.elim
theorem GrownBys.trans {w w1 w2:World} {gs gs':List Nat} (h:GrownBys w w1 gs) (k:GrownBys w1 w2 gs') (hn:∀ g∈gs',g∈gs∨w.heap.size≤g):GrownBys w w2 gs:=
 ⟨k.os.trans h.os,k.tape.trans h.tape,k.output.trans h.output,Nat.le_trans h.size k.size,fun b hb hg=>(k.block b (Nat.lt_of_lt_of_le hb h.size) (fun hm=>by
  rcases hn b hm with h1|h1
  ·exact hg h1
  ·omega)).trans (h.block b hb hg)⟩
section
variable {P:Program} {w0:World} {G:Gs} {N:Nd} {f:Fr} {S:List Ow} {Q:Exit→Act→World→Prop}
theorem zcf {id:Nat} (h:AtQ w0 G N .ret f S Q):AtQ w0 G N .ret f S (Exit.inBlock id Q):=⟨fun a w hg=>h.out a w hg⟩
theorem zcg {α:Type} {T:α→Fr} {U:α→List Ow} (h:AtQ w0 G N .ret f S Q):AtQ w0 G N .ret f S (MidQ w0 G N T U Q):=⟨fun a w hg=>h.out a w hg⟩
theorem zci {α:Type} {T:α→Fr} {U:α→List Ow} {m:α→Nat} {n:Nat} (h:AtQ w0 G N .ret f S Q):AtQ w0 G N .ret f S (zam w0 G N T U m n Q):=⟨fun a w hg=>h.out a w hg⟩
theorem zkh {t e:TypeId} (ht:P.underlying t=some (.pointer e)) (p:Addr) (d:Nat) (w:World):(Op.equalIn (d+1) t (.pointer (some p)) (.pointer none)).run P w= .ok false w:=by
 simp [Op.equalIn,run_underlying ht]
theorem zkg {t e:TypeId} (ht:P.underlying t=some (.pointer e)) (p:Addr) (_:Unit) (w:World):(Op.equal t (.pointer (some p)) (.pointer none)).run P w= .ok false w:=zkh ht p 9999 w
theorem z0f {K:AV→Prop} {o:Oper} {t t' e:TypeId} {x y:Operand} {i off:Nat} (hop:o.op= .binOp .eql t x y t') (ht:P.underlying t=some (.pointer e)) (hx:f.ev x= .p (.c (.ref i off))) (hy:f.ev y=one (.pointer none)) (hk:K (one (.bool false))):QRun P w0 G S f o K:=by
 refine ⟨_,hk,fun r a hf=>?_⟩;have h1:=hf.ev x;have h2:=hf.ev y;rw [hx] at h1;rw [hy] at h2;obtain ⟨b,hb,hu⟩:=ziw h1;refine ⟨_,ziv _ _,fun w hR=>?_⟩;have he:(Op.equal t (.pointer (some ⟨b,off,none⟩)) (.pointer none)).run P w= .ok false w:=zkg ht _ () w;simp [execOp,hop,hu,ziy h2,eqGuard,binOp,he]
end
end Go.Proofs.YtocafomnnkmjfaaGreat
