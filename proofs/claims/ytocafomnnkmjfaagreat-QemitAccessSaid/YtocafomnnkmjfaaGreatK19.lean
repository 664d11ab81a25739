import Derived.Test.YtocafomnnkmjfaaGreatK18
set_option maxRecDepth 100000
namespace Go.Proofs.YtocafomnnkmjfaaGreat
open Go.RowKit
def zei (n:Int) (j:Nat):Int:=n/2^(8*j)%256
def zzi (n:Int) (j:Nat):List Int:=(List.range j).map (zei n)
def putL (n:Int):List Int:=zzi n 4
theorem zzl (n:Int) (j:Nat):zzi n (j+1)=zzi n j++[zei n j]:=by
 unfold zzi;rw [List.range_succ,List.map_append];rfl
theorem zzk (n:Int) (j:Nat):(zzi n j).length=j:=by unfold zzi;simp
theorem zej (n:Int) (j:Nat):0≤zei n j∧zei n j<256:=by unfold zei;omega
theorem zzj (n:Int) (j:Nat):∀ x∈zzi n j,0≤x∧x<256:=fun x hx=>by
 unfold zzi at hx;obtain ⟨k,_,rfl⟩:=List.mem_map.1 hx;exact zej n k
theorem zeo {n:Int} (h:word n) {j:Nat} (hj:j<4):IntKind.u8.wrap (n.fdiv (2^(min ((8:Int)*j).toNat IntKind.u32.bits)))=zei n j:=by
 have h0:=h.1
 have e:(min ((8:Int)*j).toNat IntKind.u32.bits)=8*j:=by
  show min ((8:Int)*j).toNat 32=8*j;omega
 rw [e,Int.fdiv_eq_ediv_of_nonneg _ (Int.le_of_lt (Int.pow_pos zO))]
 rfl
theorem zzr (n:Int) (w:World) (hn:word n):Calls Tryz.prog 88 #[.int .u32 n,intV 4] w fun e w'=>e= .returned (strV (putL n))∧Below w.heap.size w w':=by
 refine zfi [.int .u32 n,intV 4] Tryz.func88 Tryz.ntmps88 rfl zS ?_;(conv=>whnf);refine ⟨{j:Nat//j≤4},fun x=>[(0,one (.int .u32 n)),(1,one (intV 4)),(5,one (strV (zzi n x.1))),(6,one (intV (x.1:Int)))],fun x=>[],fun x=>4-x.1,⟨⟨0,by omega⟩,zj7 rfl Tn trivial⟩,fun x=>?_⟩;obtain ⟨j,hj⟩:=x;dsimp only;have hlen:=zzk n j;have hs:=zzl n j;generalize hl:zzi n j=l at hlen hs⊢;(conv=>whnf);refine ⟨decide ((j:Int)<4),fun _=>?_,?_⟩
 ·conv=>whnf
  exact ⟨rfl,rfl,rfl,rfl,rfl⟩
 conv=>whnf
 refine ⟨fun hc=>?_,fun hc=>?_⟩
 ·have hlt:j<4:=by simp [cmb] at hc;omega
  (conv=>whnf);refine ⟨(8:Int)*j,wr64 zO,?_⟩;(conv=>whnf);refine ⟨by omega,_,rfl,?_⟩;(conv=>whnf);refine ⟨zei n j,zeo hn hlt,?_⟩;(conv=>whnf);refine z0e 0 1 1 [zei n j] rfl rfl rfl rfl rfl rfl rfl ?_;(conv=>whnf);refine z0a l [zei n j] rfl rfl rfl zV ?_;(conv=>whnf);refine ⟨_,wr64 zO,?_⟩;(conv=>whnf);exact ⟨⟨j+1,by omega⟩,zjy (aI rfl (aI rfl (aI ((by rw [hs];rfl)) (aI rfl trivial)))) trivial rfl rfl,by show 4-(j+1)<4-j;omega⟩
 ·have hje:j=4:=by simp [cmb] at hc;omega
  subst hje;(conv=>whnf);refine ⟨_,_,zj3,?_⟩;(conv=>whnf)
  exact zmj rfl fun w' hB=>⟨by rw [← hl];rfl,hB⟩
structure KillS (P:Program) (w0:World) (G:Gs) (fid:FuncId) (args:List AV) (f:Fr) (S:List Ow) (K:AV→Fr→List Ow→Prop):Prop where
 ok:fnOk P fid=true
 out:∀ r w us,Rel w0 G S r w→zc1 r args us→Calls P fid us.toArray w fun e w'=>∃ u x f2 S2 r2,e= .returned u∧Rel w0 G S2 r2 w'∧(∀ a,FDen r f a→FDen r2 f2 a)∧x.den r2 u∧K x f2 S2
section
variable {P:Program} {w0:World} {G:Gs} {N:Nd} {c d:Code} {f:Fr} {S:List Ow} {Q:Exit→Act→World→Prop}
end
theorem zdy {n k:Nat} (h:k<n):Nat.ble n k=false:=by
 cases e:Nat.ble n k
 ·rfl
 ·exact absurd (Nat.le_of_ble_eq_true e) zO
def MemP.put (M:MemP) (y v:Int):MemP:={M with data:=M.data.set y.toNat v}
def MemP.store (a:Int):Nat→Nat→Int→MemP→MemP
 |_,0,_,M=>M
 |i,k+1,x,M=>MemP.store a (i+1) k (x/256) (M.put ((a+i)%4294967296) (x%256))
def MemP.storeM (M:MemP) (a:Int) (m:Nat) (x:Int):MemP:=match M.bad a 2 0 m with|none=>MemP.store a 0 m x M|some _=>M
theorem z7z (M:MemP) (a x:Int) {i m:Nat} (h:i<m):MemP.store a i (m-i) x M=MemP.store a (i+1) (m-(i+1)) (x/256) (M.put ((a+i)%4294967296) (x%256)):=by
 obtain ⟨k,hk⟩:∃ k,m-i=k+1:=⟨m-i-1,by omega⟩
 rw [hk,show m-(i+1)=k by omega];rfl
theorem zzp {M:MemP} {n p:Nat} (hM:M.ok n p) (y:Int) {v:Int} (hv:0≤v∧v<256):(M.put y v).ok n p:=
 ⟨by show (M.data.set y.toNat v).length=n;rw [List.length_set];exact hM.ld,hM.li,hM.lr,hM.lod,hM.loi,hM.np,hM.pmax,fun z hz=>by
  rcases List.mem_or_eq_of_mem_set hz with h|h
  ·exact hM.db z h
  ·rw [h];exact hv,hM.ib,hM.rb⟩
theorem z7y {n p:Nat} (a:Int):∀ (i k:Nat) (x:Int) {M:MemP},M.ok n p→0≤x→(MemP.store a i k x M).ok n p
 |_,0,_,M,h,_=>h
 |i,k+1,x,M,h,hx=>z7y a (i+1) k (x/256) (zzp h _ zO) zO
theorem z7u {M:MemP} {n p:Nat} (hM:M.ok n p) (a:Int) (m:Nat) {x:Int} (hx:0≤x):(M.storeM a m x).ok n p:=by
 unfold MemP.storeM
 split
 ·exact z7y a 0 m x hM hx
 ·exact hM
theorem z4p (us:List Value) (i:Nat) (u:Value):z38 (us.map CV.v) i [.v u]=(us.set i u).map CV.v:=by
 show (us.map CV.v).set i (.v u)=_;rw [List.map_set]
theorem zzm (M:MemP) {y:Int} (v:Int) (h:y.toNat<M.data.length):M.dV.set y.toNat (zem v)=(M.put y v).dV:=z8k h
theorem zuo (M:MemP) (n p:Nat) (a:Int) (m:Nat) (x:Int) (w:World) (g:Nat) (gs:List Nat) (hU:ObjsAt w (g::gs) (memS 0 n p M)) (hM:M.ok n p) (ha:word a) (hm:1≤m∧m≤4) (hx:word x):
  Calls Tryz.prog 142 #[.pointer (some ⟨g,0,none⟩),.int .u32 a,.int .i64 (m:Int),.int .u32 x] w fun e w'=>e= .returned (zfz (M.bad a 2 0 m))∧ObjsAt w' (g::gs) (memS 0 n p (M.storeM a m x))∧GrownBys w w' (g::gs):=by
 obtain ⟨g0,g1,g2,g3,g4,g5,hg⟩:=z56 hU;injection hg with hg0 hgs;subst hgs;subst hg0;refine zfd [.p (.c (.ref 0 0)),one (.int .u32 a),one (.int .i64 (m:Int)),one (.int .u32 x)] [.pointer (some ⟨g,0,none⟩),.int .u32 a,.int .i64 (m:Int),.int .u32 x] Tryz.func142 Tryz.ntmps142 rfl zS hU ⟨_,_,rfl,zix rfl,zc6 [.int .u32 a,.int .i64 (m:Int),.int .u32 x]⟩ ?_;(conv=>whnf);refine ze4 (pre:=[]) (suf:=[one (.int .u32 a),one (.int .i64 (m:Int)),one (.int .i64 2)]) 0 n p M (zfz (M.bad a 2 0 m)) zt1 rfl rfl zK (fun w' g gs hk hU=>zt9 M n p a 2 m w' g gs hU hM ha (.inr (.inl rfl)) hm) ?_
 cases hbad:M.bad a 2 0 m with
 |some y=>
  conv=>whnf
  refine ⟨fun hc=>absurd hc (by decide),fun _=>?_⟩
  conv=>whnf
  exact zmh rfl rfl zt2 (zt6 n p M) fun w' h1 h2=>⟨rfl,by unfold MemP.storeM;rw [hbad];exact h1,h2⟩
 |none=>
  conv=>whnf
  refine ⟨fun _=>?_,fun hc=>absurd hc (by decide)⟩
  conv=>whnf
  refine ⟨{y:Nat×Int×MemP//y.1≤m∧y.2.2.ok n p∧word y.2.1∧MemP.store a 0 m x M=MemP.store a y.1 (m-y.1) y.2.1 y.2.2},fun y=>[(0,.p (.c (.ref 0 0))),(1,one (.int .u32 a)),(2,one (.int .i64 (m:Int))),(3,one (.int .u32 y.1.2.1)),(8,.p (.c (.ref 6 0))),(9,.p (.c (.ref 7 0))),(10,one (.int .i64 (y.1.1:Int)))],fun y=>memL 0 n p y.1.2.2 [.cells 220 [.v (.int .u32 0),.v (.int .u32 0),.v (.bool false)],.cells 220 [.v (.int .u32 0),.v (.int .u32 0),.v (.bool true)]],fun y=>m-y.1.1,
   ⟨⟨(0,x,M),by show 0≤m;omega,hM,hx,rfl⟩,zj7 rfl Tn Tn⟩,fun y=>?_⟩
  obtain ⟨⟨i,z,Q⟩,hi,hQ,hz,heq⟩:=y;dsimp only at hi hQ hz heq⊢;(conv=>whnf);refine ⟨fun hc=>?_,fun hc=>?_⟩
  ·have hlt:i<m:=by simpa using hc
   have hidx:=z18 (zda hbad i zO zO);rw [hM.ld] at hidx;have hx0:0≤(a+(i:Int))%4294967296:=(by omega);have hz':0≤z∧z<4294967296:=hz;have hnp:=hM.np;have hlen:n≤(List.map CV.v Q.dV).length:=z8j hQ.ld;(conv=>whnf);refine ⟨(i:Int),by rw [wr32];omega,?_⟩;(conv=>whnf);refine ⟨(a+(i:Int))%4294967296,wr32 _,?_⟩;(conv=>whnf);refine ⟨z%256,rfl,?_⟩;(conv=>whnf);refine ⟨⟨by omega,by omega⟩,?_⟩;(conv=>whnf);rw [show Nat.ble (0+((a+(i:Int))%4294967296).toNat*tsz Tryz.prog 5+[CV.v (Value.int IntKind.u8 (z%256))].length) (List.map CV.v Q.dV).length=true from Nat.ble_eq_true_of_le (by refine Nat.le_trans ?_ hlen;show 0+_*1+1≤n;omega)];(conv=>whnf);rw [show Nat.ble (List.map CV.v Q.dV).length 8=false from zdy zO];(conv=>whnf);refine ⟨by decide,z/256,by rw [Int.tdiv_eq_ediv_of_nonneg hz'.1,wr32];omega,?_⟩;(conv=>whnf);refine ⟨_,wr64 zO,?_⟩;(conv=>whnf)
   have hset:z38 (List.map CV.v Q.dV) (0+((a+(i:Int))%4294967296).toNat*tsz Tryz.prog 5) [CV.v (Value.int IntKind.u8 (z%256))]=List.map CV.v (Q.put ((a+(i:Int))%4294967296) (z%256)).dV:=by
    rw [z4p, ← zzm Q _ (by rw [hQ.ld];omega)];show List.map CV.v (Q.dV.set (0+((a+(i:Int))%4294967296).toNat*1) _)=_;rw [Nat.zero_add,Nat.mul_one]
   exact ⟨⟨(i+1,z/256,Q.put ((a+(i:Int))%4294967296) (z%256)),by show i+1≤m;omega,zzp hQ _ zO,(by show 0≤z/256∧z/256<4294967296;omega),by rw [heq,z7z Q a z hlt]⟩,zj7 rfl Tn (aI sM (aI ((aI rfl (Or.inl hset))) Tn)),by show m-(i+1)<m-i;omega⟩
  ·have hie:i=m:=by simp at hc;omega
   subst hie;rw [Nat.sub_self] at heq;(conv=>whnf);refine ⟨_,_,zj3,?_⟩;(conv=>whnf)
   exact zmh rfl rfl zt2 (zt6 n p Q) fun w' h1 h2=>⟨rfl,by unfold MemP.storeM;rw [hbad];show ObjsAt w' _ (memS 0 n p (MemP.store a 0 i x M));rw [heq];exact h1,h2⟩
def MemP.setI (M:MemP) (i:Nat) (v:Int):MemP:={M with image:=M.image.set i v}
def MemP.syncTo (M:MemP) (b:Nat):Nat→MemP
 |0=>M
 |j+1=>(M.syncTo b j).setI (b+j) (M.get ((b+j:Nat):Int))
theorem z4h {M:MemP} {n p:Nat} (hM:M.ok n p) (i:Nat) {v:Int} (hv:0≤v∧v<256):(M.setI i v).ok n p:=by
 refine ⟨hM.ld,by show (M.image.set i v).length=n;rw [List.length_set];exact hM.li,hM.lr,hM.lod,hM.loi,hM.np,hM.pmax,hM.db,fun x hx=>?_,hM.rb⟩;rcases List.mem_or_eq_of_mem_set hx with h|h
 ·exact hM.ib x h
 ·rw [h];exact hv
theorem z8b {M:MemP} {n p:Nat} (hM:M.ok n p) (b:Nat):∀ j,(M.syncTo b j).ok n p
 |0=>hM
 |j+1=>z4h (z8b hM b j) _ (by
  unfold MemP.get
  cases h:M.data[((b+j:Nat):Int).toNat]? with
  |none=>simp
  |some x=>exact hM.db x (List.mem_of_getElem? h))
theorem z79 (M:MemP) (b:Nat):∀ j,(M.syncTo b j).data=M.data∧(M.syncTo b j).rights=M.rights∧(M.syncTo b j).oldData=M.oldData∧(M.syncTo b j).oldImage=M.oldImage
 |0=>⟨rfl,rfl,rfl,rfl⟩
 |j+1=>z79 M b j
theorem z4g (M:MemP) {i:Nat} (v:Int) (h:i<M.image.length):M.iV.set i (zem v)=(M.setI i v).iV:=z8k h
def MemP.protect (M:MemP) (q:Nat) (x:Int):MemP:={M with rights:=M.rights.set q x}
theorem zzd {M:MemP} {n p:Nat} (hM:M.ok n p) (q:Nat) {x:Int} (hx:0≤x∧x<8):(M.protect q x).ok n p:=
 ⟨hM.ld,hM.li,by show (M.rights.set q x).length=p;rw [List.length_set];exact hM.lr,hM.lod,hM.loi,hM.np,hM.pmax,hM.db,hM.ib,fun z hz=>by
  rcases List.mem_or_eq_of_mem_set hz with h|h
  ·exact hM.rb z h
  ·rw [h];exact hx⟩
theorem zdw {x:Int} (h:0≤x∧x<8):bits .and .i64 x 7=x:=by
 have:x=0∨x=1∨x=2∨x=3∨x=4∨x=5∨x=6∨x=7:=by omega
 rcases this with rfl|rfl|rfl|rfl|rfl|rfl|rfl|rfl<;>decide
theorem zuk (M:MemP) (n p:Nat) (q:Nat) (x:Int) (w:World) (g:Nat) (gs:List Nat) (hU:ObjsAt w (g::gs) (memS 0 n p M)) (hM:M.ok n p) (hq:q<p) (_hp:p≤4096) (hx:0≤x∧x<8):
  Calls Tryz.prog 54 #[.pointer (some ⟨g,0,none⟩),.int .i64 (q:Int),.int .i64 x] w fun e w'=>e= .returned (.tuple #[])∧ObjsAt w' (g::gs) (memS 0 n p (M.protect q x))∧GrownBys w w' (g::gs):=by
 obtain ⟨g0,g1,g2,g3,g4,g5,hg⟩:=z56 hU;injection hg with hg0 hgs;subst hgs;subst hg0;refine zfd [.p (.c (.ref 0 0)),one (.int .i64 (q:Int)),one (.int .i64 x)] [.pointer (some ⟨g,0,none⟩),.int .i64 (q:Int),.int .i64 x] Tryz.func54 Tryz.ntmps54 rfl zS hU ⟨_,_,rfl,zix rfl,zc6 [.int .i64 (q:Int),.int .i64 x]⟩ ?_;(conv=>whnf);refine ⟨decide ((q:Int)<(p:Int)),fun _=>?_,?_⟩
 ·conv=>whnf
  exact ⟨rfl,rfl,rfl,rfl,zow _ _ _ _ _ _ _ _ _⟩
 conv=>whnf
 refine ⟨fun _=>?_,fun hc=>absurd hc (by simp [cmb];omega)⟩
 conv=>whnf
 have h7:bits .and .i64 x 7=x:=zdw hx
 refine ⟨x,h7,?_⟩
 conv=>whnf
 refine ⟨⟨by omega,by omega⟩,?_⟩
 conv=>whnf
 have hlen:p≤(List.map CV.v M.rV).length:=z8j hM.lr
 rw [show Nat.ble (0+(q:Int).toNat*tsz Tryz.prog 3+[CV.v (Value.int IntKind.i64 x)].length) (List.map CV.v M.rV).length=true from Nat.ble_eq_true_of_le (by refine Nat.le_trans ?_ hlen;show 0+_*1+1≤p;omega)]
 conv=>whnf
 have hset:z38 (List.map CV.v M.rV) (0+(q:Int).toNat*tsz Tryz.prog 3) [CV.v (Value.int IntKind.i64 x)]=List.map CV.v (M.protect q x).rV:=by
  rw [z4p];show List.map CV.v (M.rV.set (0+(q:Int).toNat*1) _)=_;rw [Nat.zero_add,Nat.mul_one,Int.toNat_natCast];exact congrArg (List.map CV.v) (z8k (by rw [hM.lr];exact hq))
 cases hble:Nat.ble (List.map CV.v M.rV).length 8 with
 |true=>
  refine znj.2 ?_;(conv=>whnf);rw [hset]
  exact zmh rfl rfl (fun i o h=>h) (zt6 n p (M.protect q x)) fun w' h1 h2=>⟨rfl,h1,h2⟩
 |false=>
  conv=>whnf
  rw [hset]
  exact zmh rfl rfl (fun i o h=>h) (zt6 n p (M.protect q x)) fun w' h1 h2=>⟨rfl,h1,h2⟩
section
variable {P:Program} {w0:World} {G:Gs} {S:List Ow} {f:Fr} {o:Oper} {N:Nd} {K:Fr→List Ow→Prop}
theorem zw4 {x y:Operand} {a b:Int} {tys:Array TypeId} (hop:o.op= .call ⟨.builtin .max,#[x,y],tys⟩) (hx:f.ev x=one (.int .i64 a)) (hy:f.ev y=one (.int .i64 b)) (hdst:zi8 N.n o.dst=true) (hk:K (f.put o.dst (one (.int .i64 (if a<b then b else a)))) S):OpS P w0 G N o f S K:=by
 refine zwz _ hdst (fun r act w hR hf=>⟨_,ziz _ _,?_⟩) hk;have h1:=hf.ev x;have h2:=hf.ev y;rw [hx] at h1;rw [hy] at h2;simp [execOp,hop,resolve,invoke,builtin,zi2 h1,zi2 h2,Builtin.max_,Builtin.max2]
end
theorem zhx {l:List CV} {n:Nat} (h:l.length=n):cut l 0 n=some l:=by
 unfold cut;rw [show Nat.ble (0+n) l.length=true from Nat.ble_eq_true_of_le zO];simp [← h]
abbrev u32L (vs:List Int):List Value:=vs.map (Value.int .u32)
abbrev yaf (vs:List Int):Value:= .agg (u32L vs).toArray
theorem zwp (S:List Ow):∀ vs:List Int,zwj S (List.map CV.v (u32L vs))=true
 |[]=>rfl
 |v::vs=>by
  show (match oneS S (.v (.int .u32 v)) with|true=>zwj S (List.map CV.v (u32L vs))|false=>false)=true;exact zwp S vs
theorem z39:∀ {l m p:List CV},l.length=m.length→z38 (p++l) p.length m=p++m
 |[],[],p,_=>by simp [z38]
 |a::l,b::m,p,h=>by
  have ih:=z39 (l:=l) (m:=m) (p:=p++[b]) (by simpa using h);show z38 ((p++a::l).set p.length b) (p.length+1) m=_;rw [List.set_append_right _ _ (Nat.le_refl _),Nat.sub_self,List.set_cons_zero];have e:(p++[b]).length=p.length+1:=(by simp);rw [e] at ih
  simpa using ih
 |[],_::_,_,h=>by simp at h
 |_::_,[],_,h=>by simp at h
theorem z4b {l m:List CV} (h:l.length=m.length):z38 l 0 m=m:=z39 (p:=[]) h
theorem z9l:∀ us:List Value,valL (List.map CV.v us)=some us
 |[]=>rfl
 |u::us=>by simp only [List.map_cons,valL,CV.val,z9l us]
theorem z9m (us:List Value):(AV.p (.agg (List.map CV.v us))).val=some (.agg us.toArray):=by
 simp only [AV.val,Pc.val,z9l us]
def zpa (vs:List Int):List Int:=vs.take 19++List.replicate (vs.length-19) 0
def zpb (vs:List Int) (j:Nat):List Int:=vs.take 19++List.replicate (j-19) 0++vs.drop j
theorem zpf {vs:List Int} {j:Nat} (h:19≤j) (hj:j<vs.length):(zpb vs j).set j 0=zpb vs (j+1):=by
 unfold zpb;have h1:(vs.take 19++List.replicate (j-19) (0:Int)).length=j:=(by simp;omega);rw [List.set_append_right _ _ zO,h1,Nat.sub_self,show vs.drop j=vs[j]::vs.drop (j+1) from List.drop_eq_getElem_cons hj,List.set_cons_zero,show j+1-19=(j-19)+1 by omega,List.replicate_succ'];simp
theorem zpc {vs:List Int} {j:Nat} (h:19≤j) (hj:j≤vs.length):(zpb vs j).length=vs.length:=by
 unfold zpb;simp;omega
theorem z58 (c:Int) (w:World):Calls Tryz.prog 141 #[.int .i64 c] w fun e w'=>e= .returned (.int .i64 (z57 c))∧Below w.heap.size w w':=by
 refine zfi [.int .i64 c] Tryz.func141 Tryz.ntmps141 rfl zS ?_
 conv=>whnf
 refine ⟨c==19,fun _=>?_,?_⟩
 ·conv=>whnf
  exact ⟨rfl,rfl,rfl,rfl,rfl⟩
 conv=>whnf
 refine ⟨fun hc=>?_,fun hc=>?_⟩
 ·conv=>whnf
  exact zmj rfl fun w' hB=>⟨by unfold z57;rw [if_pos (show (c==17||c==19)=true from hc)],hB⟩
 ·conv=>whnf
  exact zmj rfl fun w' hB=>⟨by unfold z57;rw [if_neg (by rw [show (c==17||c==19)=false from hc];decide)],hB⟩
theorem zpg (vs:List Int) (w:World) (hl:vs.length=28):Calls Tryz.prog 83 #[yaf vs] w fun e w'=>e= .returned (yaf (zpa vs))∧Below w.heap.size w w':=by
 refine zfi [yaf vs] Tryz.func83 Tryz.ntmps83 rfl zS ?_
 conv=>whnf
 have e0:zpb vs 19=vs:=by unfold zpb;simp
 refine ⟨{j:Nat//19≤j∧j≤28},fun x=>[(1,.p (.c (.ref 0 0))),(2,.p (.c (.ref 1 0))),(3,one (.int .i64 (x.1:Int)))],fun x=>[.cells 42 (List.map CV.v (u32L (zpb vs x.1))),.cells 42 (List.map CV.v (u32L (List.replicate 28 0)))],fun x=>28-x.1,
  ⟨⟨19,by omega,by omega⟩,zj7 rfl Tn (aI ((aI rfl (Or.inl (by rw [e0])))) (aI sM trivial))⟩,fun x=>?_⟩
 obtain ⟨j,hj1,hj2⟩:=x
 have hlen:(List.map CV.v (u32L (zpb vs j))).length=28:=by rw [List.length_map,List.length_map,zpc hj1 zO,hl]
 dsimp only
 conv=>whnf
 refine ⟨fun hc=>?_,fun hc=>?_⟩
 ·have hlt:j<28:=by simp at hc;omega
  (conv=>whnf);refine ⟨⟨by omega,by omega⟩,?_⟩;(conv=>whnf);rw [show Nat.ble (0+(j:Int).toNat*tsz Tryz.prog 41+[CV.v (Value.int IntKind.u32 0)].length) (List.map CV.v (u32L (zpb vs j))).length=true from Nat.ble_eq_true_of_le (by rw [hlen];show 0+_*1+1≤28;omega)];(conv=>whnf);rw [show Nat.ble (List.map CV.v (u32L (zpb vs j))).length 8=false from by rw [hlen];rfl];(conv=>whnf);refine ⟨_,wr64 zO,?_⟩;(conv=>whnf)
  have hset:z38 (List.map CV.v (u32L (zpb vs j))) (0+(j:Int).toNat*tsz Tryz.prog 41) [CV.v (Value.int IntKind.u32 0)]=List.map CV.v (u32L (zpb vs (j+1))):=by
   rw [z4p, ← zpf hj1 zO];show List.map CV.v ((u32L (zpb vs j)).set (0+(j:Int).toNat*1) _)=_;rw [Nat.zero_add,Nat.mul_one,Int.toNat_natCast];simp only [List.map_set]
  exact ⟨⟨j+1,by omega,by omega⟩,zj7 rfl Tn (aI ((aI rfl (Or.inl hset))) (aI sM trivial)),by show 28-(j+1)<28-j;omega⟩
 ·have hje:j=28:=by simp at hc;omega
  subst hje;(conv=>whnf);refine ⟨_,_,zj3,?_⟩;(conv=>whnf);rw [show cut (List.map CV.v (u32L (zpb vs 28))) 0 (Tryz.prog.types[42].size)=some (List.map CV.v (u32L (zpb vs 28))) from zhx hlen];(conv=>whnf);have hl2:(List.map CV.v (u32L (List.replicate 28 0))).length=28:=rfl;rw [show Nat.beq (List.map CV.v (u32L (zpb vs 28))).length (Tryz.prog.types[42].size)=true from by rw [hlen];rfl,zwp];(conv=>whnf);rw [show Nat.ble (0+(List.map CV.v (u32L (zpb vs 28))).length) (List.map CV.v (u32L (List.replicate 28 0))).length=true from Nat.ble_eq_true_of_le (by rw [hlen,hl2];omega)];(conv=>whnf);rw [z4b (show (List.map CV.v (u32L (List.replicate 28 0))).length=(List.map CV.v (u32L (zpb vs 28))).length by rw [hlen,hl2])];(conv=>whnf);rw [show cut (List.map CV.v (u32L (zpb vs 28))) 0 (Tryz.prog.types[42].size)=some (List.map CV.v (u32L (zpb vs 28))) from zhx hlen];(conv=>whnf)
  refine zmj (z9m _) fun w' hB=>⟨?_,hB⟩
  have:zpb vs 28=zpa vs:=by unfold zpb zpa;rw [List.drop_eq_nil_of_le zO,hl];simp
  rw [this]
def getV (vs:List Int) (i:Int):Int:=(vs[i.toNat]?).getD 0
def szN (c:Int):Nat:=if c=17∨c=19 then 1 else 4
structure Ap where
 vs:List Int
 stays:Bool
 mem:MemP
def zbr (o:BOp) (vs:List Int) (M:MemP):Ap:=
 if o.code=1 then ⟨vs.set o.d.toNat o.n,true,M⟩
 else if o.code=2 then ⟨vs.set o.d.toNat (getV vs o.a),true,M⟩
 else if o.code=16∨o.code=17 then (match M.bad ((getV vs o.a+o.n)%4294967296) 1 0 (szN o.code) with
  |none=>⟨vs.set o.d.toNat (M.load ((getV vs o.a+o.n)%4294967296) 0 (szN o.code)),true,M⟩
  |some _=>⟨vs,false,M⟩)
 else if o.code=18∨o.code=19 then ⟨vs,(M.bad ((getV vs o.a+o.n)%4294967296) 2 0 (szN o.code)).isNone,M.storeM ((getV vs o.a+o.n)%4294967296) (szN o.code) (getV vs o.b)⟩
 else if o.code=21 then ⟨vs,getV vs o.a !=0,M⟩
 else if o.code=22 then ⟨vs,false,M⟩
 else if zq9 o.code=true then ⟨vs.set o.d.toNat (yay o.code (getV vs o.a) (getV vs o.b)),true,M⟩
 else ⟨vs,true,M⟩
structure Outc where
 leaves:Bool
 index:Int
 done:Int
 pc:Int
 vars:List Int
def Outc.zero:Outc:=⟨false,0,0,0,List.replicate 28 0⟩
structure EvR where
 out:Outc
 mem:MemP
def ztr (o:BOp) (i:Int):Int:=if o.code=20 then o.n else i
def zkt (ats:List Int):List BOp→Int→List Int→MemP→EvR
 |[],_,_,M=>⟨Outc.zero,M⟩
 |o::l,i,vs,M=>
  if o.code=24∨(o.code=23∧getV vs o.a≠0) then ⟨⟨false,0,ats.length,o.n,zpa vs⟩,M⟩
  else if o.code=25 then ⟨⟨false,0,ats.length,getV vs o.a,zpa vs⟩,M⟩
  else if (zbr o vs M).stays=true then zkt ats l (ztr o i) (zbr o vs M).vs (zbr o vs M).mem
  else ⟨⟨true,ztr o i,ztr o i,(ats[(ztr o i).toNat]?).getD 0,zpa vs⟩,(zbr o vs M).mem⟩
def zkq (b:Blk) (vs:List Int) (M:MemP):EvR:=if z9o b=true then zkt b.at_ b.ops 0 vs M else ⟨Outc.zero,M⟩
structure VarsOk (vs:List Int):Prop where
 len:vs.length=28
 word:∀ x∈vs,word x
theorem zoj {vs:List Int} (h:VarsOk vs) (i:Int):word (getV vs i):=by
 unfold getV
 cases hi:vs[i.toNat]? with
 |none=>exact yax
 |some x=>exact h.word x (List.mem_of_getElem? hi)
theorem zoi {vs:List Int} {d v x:Int} (hd:0≤d) (hv:0≤v) (hne:v≠d):getV (vs.set d.toNat x) v=getV vs v:=by
 unfold getV;rw [List.getElem?_set_ne zO]
theorem zoh {vs:List Int} (h:VarsOk vs) {d x:Int} (hd:0≤d∧d<28):getV (vs.set d.toNat x) d=x:=by
 unfold getV;rw [List.getElem?_set_self (by rw [h.len];omega)];rfl
theorem z4o {vs:List Int} (h:VarsOk vs) (i:Nat) {x:Int} (hx:Go.Proofs.YtocafomnnkmjfaaGreat.word x):VarsOk (vs.set i x):=⟨by rw [List.length_set];exact h.len,fun y hy=>by
 rcases List.mem_or_eq_of_mem_set hy with h1|h1
 ·exact h.word y h1
 ·rw [h1];exact hx⟩
theorem zby {o:BOp} {vs:List Int} {M:MemP} (h:VarsOk vs) (hn:word o.n):VarsOk (zbr o vs M).vs:=by
 unfold zbr
 split
 ·exact z4o h _ hn
 split
 ·exact z4o h _ (zoj h _)
 split
 ·split
  ·exact z4o h _ (zti M _ _ _)
  ·exact h
 split
 ·exact h
 split
 ·exact h
 split
 ·exact h
 split
 ·exact z4o h _ (yaz (zoj h _) (zoj h _))
 ·exact h
theorem znq {o:BOp} (hf:znn o=true) (hD:hasD o.code=true):0≤o.d∧o.d<28∧writes o=o.d:=by
 have h2:=(znu.1 hf).2.1;rw [hD] at h2;simp [zlz] at h2;refine ⟨by omega,by omega,?_⟩;unfold writes;rw [hD];rfl
theorem zno {o:BOp} (hf:znn o=true):0≤o.a∧o.a<28:=by
 have h:=(znu.1 hf).2.2.1
 cases hA:hasA o.code<;>rw [hA] at h<;>simp [zlz] at h<;>omega
theorem znp {o:BOp} (hf:znn o=true):0≤o.b∧o.b<28:=by
 have h:=(znu.1 hf).2.2.2.1
 cases hB:hasB o.code<;>rw [hB] at h<;>simp [zlz] at h<;>omega
theorem znr {o:BOp} (hf:znn o=true):0≤o.d∧o.d<28:=by
 have h:=(znu.1 hf).2.1
 cases hD:hasD o.code<;>rw [hD] at h<;>simp [zlz] at h<;>omega
theorem zbt {o:BOp} (h:o.code=1) (vs:List Int) (M:MemP):zbr o vs M=⟨vs.set o.d.toNat o.n,true,M⟩:=by unfold zbr;rw [if_pos h]
theorem zbw {o:BOp} (h:o.code=2) (vs:List Int) (M:MemP):zbr o vs M=⟨vs.set o.d.toNat (getV vs o.a),true,M⟩:=by unfold zbr;rw [if_neg zO,if_pos h]
theorem zbs {o:BOp} (h:zq9 o.code=true) (vs:List Int) (M:MemP):zbr o vs M=⟨vs.set o.d.toNat (yay o.code (getV vs o.a) (getV vs o.b)),true,M⟩:=by
 have h':3≤o.code∧o.code≤15:=by unfold zq9 at h;simpa using h
 unfold zbr;rw [if_neg zO,if_neg zO,if_neg zO,if_neg zO,if_neg zO,if_neg zO,if_pos h]
theorem zbx {o:BOp} (h:o.code=20∨o.code=23) (vs:List Int) (M:MemP):zbr o vs M=⟨vs,true,M⟩:=by
 have hb:¬zq9 o.code=true:=by unfold zq9;rw [decide_eq_true_eq];omega
 unfold zbr;rw [if_neg zO,if_neg zO,if_neg zO,if_neg zO,if_neg zO,if_neg zO,if_neg hb]
theorem zbu {o:BOp} (h:o.code=21) (vs:List Int) (M:MemP):zbr o vs M=⟨vs,getV vs o.a !=0,M⟩:=by
 unfold zbr;rw [if_neg zO,if_neg zO,if_neg zO,if_neg zO,if_pos h]
theorem zkv {ats:List Int} {o:BOp} {l:List BOp} {i:Int} {vs:List Int} {M:MemP} (h1:¬(o.code=24∨(o.code=23∧getV vs o.a≠0))) (h2:o.code≠25) (h3:(zbr o vs M).stays=true):zkt ats (o::l) i vs M=zkt ats l (ztr o i) (zbr o vs M).vs (zbr o vs M).mem:=by
 show (if _ then _ else _)=_;rw [if_neg h1,if_neg h2,if_pos h3]
def MemP.zero (p:Nat):MemP:=⟨List.replicate (256*p) 0,List.replicate (256*p) 0,List.replicate (256*p) 0,List.replicate (256*p) 0,List.replicate p 0,[],[],[],[],[]⟩
theorem zuq {p:Nat} (hp:p≤4096):(MemP.zero p).ok (256*p) p:=
 ⟨List.length_replicate,List.length_replicate,List.length_replicate,List.length_replicate,List.length_replicate,rfl,hp,fun x hx=>by rw [List.eq_of_mem_replicate hx];omega,fun x hx=>by rw [List.eq_of_mem_replicate hx];omega,fun x hx=>by rw [List.eq_of_mem_replicate hx];omega⟩
theorem ztn (z:Value) (n:Nat):(madeCells #[z] (n*1)).toList=List.replicate n z:=by
 refine List.ext_getElem? fun i=>?_;simp only [madeCells,Array.getElem?_toList,Array.getElem?_map,List.getElem?_replicate,Nat.mul_one]
 by_cases h:i<n<;>simp [h,Nat.mod_one]
theorem zt5 (n p:Nat) (M:MemP):sbnd 6 (memS 0 n p M)=true:=by
 simp only [sbnd,Ow.bnd,zd6,bndL,CV.bnd]
 rfl
theorem zuu (p:Nat) (w:World) (hp:1≤p∧p≤4096):
  Calls Tryz.prog 58 #[.int .i64 (p:Int),.bool false] w fun e w'=>∃ g gs,e= .returned (.pointer (some ⟨g,0,none⟩))∧NewObjs w w' (g::gs) (memS 0 (256*p) p (MemP.zero p)):=by
 obtain ⟨Z,hZ⟩:∃ Z:List Value,Z=List.replicate (256*p) (zem 0):=⟨_,rfl⟩
 obtain ⟨Y,hY⟩:∃ Y:List Value,Y=List.replicate p (intV 0):=⟨_,rfl⟩
 obtain ⟨n,hn⟩:∃ n,n=256*p:=⟨_,rfl⟩
 have hmZ:(madeCells (Value.int .u8 0).cells (n*1)).toList=Z:=by rw [hZ,hn];exact ztn _ _
 have hmY:(madeCells (Value.int .i64 0).cells (p*1)).toList=Y:=by rw [hY];exact ztn _ _
 have h256:(256:Int)*(p:Int)=(n:Int):=by omega
 have hfb:Fr.bnd 4 [(1,one (.bool false)),(5,one (.int .i64 (p:Int))),(6,.p (.c (.ref 3 0)))]=true:=rfl
 have hsb:sbnd 4 [.cells 5 (Z.map .v),.cells 5 (Z.map .v),.cells 3 (Y.map .v),.cells 115 [.sl 0 0 n n,.v (.slice none 0 0),.sl 1 0 n n,.v (.slice none 0 0),.sl 2 0 p p,.v (.bool false)]]=true:=by
  simp only [sbnd,Ow.bnd,zd6,bndL,CV.bnd];rfl
 refine zfg [.int .i64 (p:Int),.bool false] Tryz.func58 Tryz.ntmps58 rfl zS ?_;refine z3o ?_;(conv=>whnf);refine z3o ?_;(conv=>whnf);refine zw5 rfl rfl rfl rfl ?_;rw [if_neg zO];(conv=>whnf);refine zw4 rfl rfl rfl rfl ?_;rw [if_pos zO];(conv=>whnf);refine z3k (α:=Unit) (fun _=>[(1,one (.bool false)),(5,one (.int .i64 (p:Int))),(6,.p (.c (.ref 3 0)))]) (fun _=>[.cells 5 (Z.map .v),.cells 5 (Z.map .v),.cells 3 (Y.map .v),.cells 115 [.sl 0 0 n n,.v (.slice none 0 0),.sl 1 0 n n,.v (.slice none 0 0),.sl 2 0 p p,.v (.bool false)]]) ?_ fun _=>?_
 ·refine z3t ?_
  refine z23 (.q 0 (.q 1 (.q 3 (.q 4 (.q 6 (.q 8 (.alt 2 (.alt 5 (.alt 7 (.q 9 (.alt 10 (.q 11 .done) .no)) .no) (.alt 7 (.alt 5 (.q 9 (.alt 10 (.q 11 .done) .no)) .no) .no)) (.alt 5 (.alt 2 (.alt 7 (.q 9 (.alt 10 (.q 11 .done) .no)) .no) (.alt 7 (.alt 2 (.q 9 (.alt 10 (.q 11 .done) .no)) .no) .no)) (.alt 7 (.alt 2 (.alt 5 (.q 9 (.alt 10 (.q 11 .done) .no)) .no) (.alt 5 (.alt 2 (.q 9 (.alt 10 (.q 11 .done) .no)) .no) .no)) .no))))))))) mixed zK zK ?_;(conv=>whnf);refine ⟨(n:Int),by rw [h256];exact wr64 zO,?_⟩;(conv=>whnf);refine ⟨(n:Int),by rw [h256];exact wr64 zO,?_⟩;(conv=>whnf);refine ⟨?_,?_,?_,trivial⟩
  ·conv=>whnf
   refine zw2 1 n rfl rfl rfl rfl rfl rfl rfl zO (by show 1*n≤_;omega) (by show n≤9223372036854775807;omega) rfl (xs:=Z) hmZ ?_;(conv=>whnf);refine ⟨?_,?_,trivial⟩
   ·conv=>whnf
    refine zw2 1 n rfl rfl rfl rfl rfl rfl rfl zO (by show 1*n≤_;omega) (by show n≤9223372036854775807;omega) rfl (xs:=Z) hmZ ?_;(conv=>whnf);refine ⟨?_,trivial⟩;(conv=>whnf);refine zw2 1 p rfl rfl rfl rfl rfl rfl rfl zO (by show 8*p≤_;omega) (by show p≤9223372036854775807;omega) rfl (xs:=Y) hmY ?_;(conv=>whnf);refine ⟨?_,trivial⟩;(conv=>whnf);exact zb8 () (zj5 [0,1,2,3] Tn (aI ((Exists.intro _ (aI rfl (aI rfl (Or.inl (z10 _ _).symm))))) (aI ((Exists.intro _ (aI rfl (aI rfl (Or.inl (z10 _ _).symm))))) (aI ((Exists.intro _ (aI rfl (aI rfl (Or.inl (z10 _ _).symm))))) (aI ((Exists.intro _ (aI rfl sM))) trivial)))) hfb hsb rfl rfl rfl)
   ·conv=>whnf
    refine zw2 1 p rfl rfl rfl rfl rfl rfl rfl zO (by show 8*p≤_;omega) (by show p≤9223372036854775807;omega) rfl (xs:=Y) hmY ?_;(conv=>whnf);refine ⟨?_,trivial⟩;(conv=>whnf);refine zw2 1 n rfl rfl rfl rfl rfl rfl rfl zO (by show 1*n≤_;omega) (by show n≤9223372036854775807;omega) rfl (xs:=Z) hmZ ?_;(conv=>whnf);refine ⟨?_,trivial⟩;(conv=>whnf);exact zb8 () (zj5 [0,2,1,3] Tn (aI ((Exists.intro _ (aI rfl (aI rfl (Or.inl (z10 _ _).symm))))) (aI ((Exists.intro _ (aI rfl (aI rfl (Or.inl (z10 _ _).symm))))) (aI ((Exists.intro _ (aI rfl (aI rfl (Or.inl (z10 _ _).symm))))) (aI ((Exists.intro _ (aI rfl sM))) trivial)))) hfb hsb rfl rfl rfl)
  ·conv=>whnf
   refine zw2 1 n rfl rfl rfl rfl rfl rfl rfl zO (by show 1*n≤_;omega) (by show n≤9223372036854775807;omega) rfl (xs:=Z) hmZ ?_;(conv=>whnf);refine ⟨?_,?_,trivial⟩
   ·conv=>whnf
    refine zw2 1 n rfl rfl rfl rfl rfl rfl rfl zO (by show 1*n≤_;omega) (by show n≤9223372036854775807;omega) rfl (xs:=Z) hmZ ?_;(conv=>whnf);refine ⟨?_,trivial⟩;(conv=>whnf);refine zw2 1 p rfl rfl rfl rfl rfl rfl rfl zO (by show 8*p≤_;omega) (by show p≤9223372036854775807;omega) rfl (xs:=Y) hmY ?_;(conv=>whnf);refine ⟨?_,trivial⟩;(conv=>whnf);exact zb8 () (zj5 [1,0,2,3] Tn (aI ((Exists.intro _ (aI rfl (aI rfl (Or.inl (z10 _ _).symm))))) (aI ((Exists.intro _ (aI rfl (aI rfl (Or.inl (z10 _ _).symm))))) (aI ((Exists.intro _ (aI rfl (aI rfl (Or.inl (z10 _ _).symm))))) (aI ((Exists.intro _ (aI rfl sM))) trivial)))) hfb hsb rfl rfl rfl)
   ·conv=>whnf
    refine zw2 1 p rfl rfl rfl rfl rfl rfl rfl zO (by show 8*p≤_;omega) (by show p≤9223372036854775807;omega) rfl (xs:=Y) hmY ?_;(conv=>whnf);refine ⟨?_,trivial⟩;(conv=>whnf);refine zw2 1 n rfl rfl rfl rfl rfl rfl rfl zO (by show 1*n≤_;omega) (by show n≤9223372036854775807;omega) rfl (xs:=Z) hmZ ?_;(conv=>whnf);refine ⟨?_,trivial⟩;(conv=>whnf);exact zb8 () (zj5 [2,0,1,3] Tn (aI ((Exists.intro _ (aI rfl (aI rfl (Or.inl (z10 _ _).symm))))) (aI ((Exists.intro _ (aI rfl (aI rfl (Or.inl (z10 _ _).symm))))) (aI ((Exists.intro _ (aI rfl (aI rfl (Or.inl (z10 _ _).symm))))) (aI ((Exists.intro _ (aI rfl sM))) trivial)))) hfb hsb rfl rfl rfl)
  ·conv=>whnf
   refine zw2 1 p rfl rfl rfl rfl rfl rfl rfl zO (by show 8*p≤_;omega) (by show p≤9223372036854775807;omega) rfl (xs:=Y) hmY ?_;(conv=>whnf);refine ⟨?_,?_,trivial⟩
   ·conv=>whnf
    refine zw2 1 n rfl rfl rfl rfl rfl rfl rfl zO (by show 1*n≤_;omega) (by show n≤9223372036854775807;omega) rfl (xs:=Z) hmZ ?_;(conv=>whnf);refine ⟨?_,trivial⟩;(conv=>whnf);refine zw2 1 n rfl rfl rfl rfl rfl rfl rfl zO (by show 1*n≤_;omega) (by show n≤9223372036854775807;omega) rfl (xs:=Z) hmZ ?_;(conv=>whnf);refine ⟨?_,trivial⟩;(conv=>whnf);exact zb8 () (zj5 [1,2,0,3] Tn (aI ((Exists.intro _ (aI rfl (aI rfl (Or.inl (z10 _ _).symm))))) (aI ((Exists.intro _ (aI rfl (aI rfl (Or.inl (z10 _ _).symm))))) (aI ((Exists.intro _ (aI rfl (aI rfl (Or.inl (z10 _ _).symm))))) (aI ((Exists.intro _ (aI rfl sM))) trivial)))) hfb hsb rfl rfl rfl)
   ·conv=>whnf
    refine zw2 1 n rfl rfl rfl rfl rfl rfl rfl zO (by show 1*n≤_;omega) (by show n≤9223372036854775807;omega) rfl (xs:=Z) hmZ ?_;(conv=>whnf);refine ⟨?_,trivial⟩;(conv=>whnf);refine zw2 1 n rfl rfl rfl rfl rfl rfl rfl zO (by show 1*n≤_;omega) (by show n≤9223372036854775807;omega) rfl (xs:=Z) hmZ ?_;(conv=>whnf);refine ⟨?_,trivial⟩;(conv=>whnf);exact zb8 () (zj5 [2,1,0,3] Tn (aI ((Exists.intro _ (aI rfl (aI rfl (Or.inl (z10 _ _).symm))))) (aI ((Exists.intro _ (aI rfl (aI rfl (Or.inl (z10 _ _).symm))))) (aI ((Exists.intro _ (aI rfl (aI rfl (Or.inl (z10 _ _).symm))))) (aI ((Exists.intro _ (aI rfl sM))) trivial)))) hfb hsb rfl rfl rfl)
 refine z3t ?_
 conv=>whnf
 refine ⟨fun _=>?_,fun h=>absurd h (by decide)⟩
 conv=>whnf
 refine ⟨(n:Int),by rw [h256];exact wr64 zO,?_⟩
 conv=>whnf
 refine zw2 1 n rfl rfl rfl rfl rfl rfl rfl zO (by show 1*n≤_;omega) (by show n≤9223372036854775807;omega) rfl (xs:=Z) hmZ ?_
 conv=>whnf
 refine ⟨(n:Int),by rw [h256];exact wr64 zO,?_⟩
 conv=>whnf
 refine zw2 1 n rfl rfl rfl rfl rfl rfl rfl zO (by show 1*n≤_;omega) (by show n≤9223372036854775807;omega) rfl (xs:=Z) hmZ ?_
 conv=>whnf
 have hd:(MemP.zero p).dV=Z:=by rw [hZ];exact (List.append_nil _).trans List.map_replicate
 have hi:(MemP.zero p).iV=Z:=by rw [hZ];exact (List.append_nil _).trans List.map_replicate
 have hod:(MemP.zero p).odV=Z:=by rw [hZ];exact (List.append_nil _).trans List.map_replicate
 have hoi:(MemP.zero p).oiV=Z:=by rw [hZ];exact (List.append_nil _).trans List.map_replicate
 have hr:(MemP.zero p).rV=Y:=by rw [hY];exact (List.append_nil _).trans List.map_replicate
 rw [← hn]
 refine zb3 (f':=[(4,.p (.c (.ref 0 0)))]) (S':=memS 0 n p (MemP.zero p)) (zj5 [3,0,4,1,5,2] (aI rfl trivial) (aI ((Exists.intro _ (aI rfl sM))) (aI ((Exists.intro _ (aI rfl (aI rfl (Or.inl (by rw [hd];exact (z10 _ _).symm)))))) (aI ((Exists.intro _ (aI rfl (aI rfl (Or.inl (by rw [hi];exact (z10 _ _).symm)))))) (aI ((Exists.intro _ (aI rfl (aI rfl (Or.inl (by rw [hod];exact (z10 _ _).symm)))))) (aI ((Exists.intro _ (aI rfl (aI rfl (Or.inl (by rw [hoi];exact (z10 _ _).symm)))))) (aI ((Exists.intro _ (aI rfl (aI rfl (Or.inl (by rw [hr];exact (z10 _ _).symm)))))) trivial)))))) rfl (zt5 n p _) rfl rfl rfl) (zcg ?_)
 conv=>whnf
 exact zmg 0 (memS 0 n p (MemP.zero p)) (memS 0 n p (MemP.zero p)) zS (fun i hi=>by rw [Nat.zero_add]) (zt7 0 n p _) (zt6 n p _) fun w' g gs h=>⟨g,gs,rfl,h⟩
def Agree (m:Nat) (vs us:List Int):Prop:=∀ v:Nat,v<28→m.testBit v=true→getV vs (v:Int)=getV us (v:Int)
structure StepSame (o:BOp) (m:Nat) (vs us:List Int) (M:MemP):Prop where
 a:hasA o.code=true→getV us o.a=getV vs o.a
 stays:(zbr o us M).stays=(zbr o vs M).stays
 mem:(zbr o us M).mem=(zbr o vs M).mem
 agree:(zbr o vs M).stays=true→Agree m (zbr o vs M).vs (zbr o us M).vs
 guests:zv5 o=true→zpa us=zpa vs
theorem ztv:∀ (l:List BOp) {s s2:Ck},zf8 s l=some s2→s.marks≤s2.marks
 |[],s,s2,h=>by injection h with h;subst h;exact Nat.le_refl _
 |o::l,s,s2,h=>by
  obtain ⟨s1,h1,h2⟩:=zge h;have:=ztv l h2;obtain ⟨_,_,h3,h4⟩:=zgd h1;by_cases hc:o.code=20
  ·have:=(h3 hc).2;subst this;simp at*;omega
  ·have:s1.marks=s.marks:=by
    have:=h4 hc;rw [this.2]
   omega
def EvAt (n:Nat) (l:List BOp) (i:Int):Prop:=∃ s s2:Ck,zf8 s l=some s2∧s2.marks=n∧0≤i∧i<n
theorem zko {n:Nat} {o:BOp} {l:List BOp} {i:Int} (h:EvAt n (o::l) i):EvAt n l (ztr o i):=by
 obtain ⟨s,s2,h1,h2,h3,h4⟩:=h;obtain ⟨s1,k1,k2⟩:=zge h1;obtain ⟨_,_,k3,_⟩:=zgd k1;have hm:=ztv l k2;refine ⟨s1,s2,k2,h2,?_⟩;unfold ztr
 split
 ·rename_i hc
  obtain ⟨e1,e2⟩:=k3 hc;subst e2;have hm:s.marks+1≤s2.marks:=hm;omega
 ·exact ⟨h3,h4⟩
theorem zkn {b:Blk} (hv:z9o b=true):EvAt b.at_.length b.ops 0:=by
 obtain ⟨hh,s,h1,h2⟩:=z9z.1 hv;refine ⟨_,s,h1,h2,by omega,?_⟩;unfold zpo at hh;simp only [Bool.and_eq_true,decide_eq_true_eq] at hh;omega
theorem zi7 {l:List BOp} {j:Nat} {o:BOp} (h:l[j]?=some o):l.drop j=o::l.drop (j+1):=by
 have hj:j<l.length:=by
  rcases Nat.lt_or_ge j l.length with h1|h1
  ·exact h1
  ·rw [List.getElem?_eq_none h1] at h;cases h
 rw [List.drop_eq_getElem_cons hj];rw [List.getElem?_eq_getElem hj] at h;injection h with h;rw [h]
theorem zku {ats:List Int} {o:BOp} {l:List BOp} {i:Int} {vs:List Int} {M:MemP} (h:o.code=24∨(o.code=23∧getV vs o.a≠0)):zkt ats (o::l) i vs M=⟨⟨false,0,ats.length,o.n,zpa vs⟩,M⟩:=if_pos h
theorem zkz {ats:List Int} {o:BOp} {l:List BOp} {i:Int} {vs:List Int} {M:MemP} (h:o.code=25):zkt ats (o::l) i vs M=⟨⟨false,0,ats.length,getV vs o.a,zpa vs⟩,M⟩:=by
 show (if _ then _ else _)=_;rw [if_neg zO,if_pos h]
theorem zkw {ats:List Int} {o:BOp} {l:List BOp} {i:Int} {vs:List Int} {M:MemP} (h1:¬(o.code=24∨(o.code=23∧getV vs o.a≠0))) (h2:o.code≠25) (h3:(zbr o vs M).stays=false):
  zkt ats (o::l) i vs M=⟨⟨true,ztr o i,ztr o i,(ats[(ztr o i).toNat]?).getD 0,zpa vs⟩,(zbr o vs M).mem⟩:=by
 show (if _ then _ else _)=_;rw [if_neg h1,if_neg h2,if_neg (by rw [h3];decide)]
theorem zpe {vs:List Int} (h:VarsOk vs):VarsOk (zpa vs):=by
 refine ⟨?_,fun x hx=>?_⟩
 ·unfold zpa;simp [h.len]
 ·unfold zpa at hx
  rcases List.mem_append.1 hx with h1|h1
  ·exact h.word x (List.mem_of_mem_take h1)
  ·rw [List.eq_of_mem_replicate h1];exact yax
theorem zbv {o:BOp} {vs:List Int} {M:MemP} {n p:Nat} (h:M.ok n p) (hv:VarsOk vs):(zbr o vs M).mem.ok n p:=by
 unfold zbr
 split
 ·exact h
 split
 ·exact h
 split
 ·split<;>exact h
 split
 ·exact z7u h _ _ (zoj hv _).1
 split
 ·exact h
 split
 ·exact h
 split<;>exact h
def updR (R:Int→Int) (d x:Int):Int→Int:=if d=0 then R else fun j=>if j=d then x else R j
def z8s (op d a:Int):Bool:=
 if op=32 then decide (d=a) else if op=33 then decide (d≠a) else if op=34 then decide (d<a) else if op=35 then decide (¬d<a) else if op=36 then decide (z5m d<z5m a) else decide (¬z5m d<z5m a)
def z7d (i:QI) (at_:Int) (R:Int→Int) (M:MemP):Option ((Int→Int)×Int×MemP):=
 if i.op=10∧R i.b=0 then none
 else if zz3 i.op≠0 then some (updR R i.d (yay (zz3 i.op) (R i.a) (if 16≤i.op then i.imm else R i.b)),zhv (at_+4),M)
 else if i.op=41 then some (updR R i.d (zhv (i.imm*1024)),zhv (at_+4),M)
 else if i.op=23 then (match M.bad ((R i.a+i.imm)%4294967296) 1 0 4 with|none=>some (updR R i.d (M.load ((R i.a+i.imm)%4294967296) 0 4),zhv (at_+4),M)|some _=>none)
 else if i.op=24 then (match M.bad ((R i.a+i.imm)%4294967296) 1 0 1 with|none=>some (updR R i.d (M.load ((R i.a+i.imm)%4294967296) 0 1),zhv (at_+4),M)|some _=>none)
 else if i.op=25 then (match M.bad ((R i.a+i.imm)%4294967296) 2 0 4 with|none=>some (R,zhv (at_+4),M.storeM ((R i.a+i.imm)%4294967296) 4 (R i.d))|some _=>none)
 else if i.op=26 then (match M.bad ((R i.a+i.imm)%4294967296) 2 0 1 with|none=>some (R,zhv (at_+4),M.storeM ((R i.a+i.imm)%4294967296) 1 (R i.d))|some _=>none)
 else if i.op=27 then some (updR R i.d (zhv (at_+4)),(R i.a+i.imm)%4294967296/4*4,M)
 else if i.op=40 then some (updR R i.d (zhv (at_+4)),zhv (at_+4*i.imm),M)
 else if 32≤i.op∧i.op≤37 then some (R,if z8s i.op (R i.d) (R i.a)=true then zhv (at_+4*i.imm) else zhv (at_+4),M)
 else none
structure RegOk (vs:List Int) (R:Int→Int):Prop where
 vars:VarsOk vs
 regs:∀ j,0≤j→j<16→getV vs j=R j
 zero:R 0=0
section
variable {ats:List Int} {l:List BOp} {k:Int} {vs:List Int} {M:MemP}
end
section
variable {ats:List Int} {k:Int} {vs:List Int} {R:Int→Int} {M:MemP} {i:QI}
end
structure RunR where
 leaves:Bool
 done:Nat
 pc:Int
 R:Int→Int
 M:MemP
def RunR.out (r:RunR) (vs:List Int):EvR:=⟨⟨r.leaves,if r.leaves=true then (r.done:Int) else 0,r.done,r.pc,zpa vs⟩,r.M⟩
abbrev yad (vs:List Int):List CV:=List.map CV.v (u32L vs)
theorem yae {vs:List Int} (h:VarsOk vs):(yad vs).length=28:=by simp [h.len]
theorem yb0:(yad (List.replicate 28 0)).length=28:=rfl
theorem zdl {l:List CV} {n:Nat} (h:l.length=n):Nat.beq l.length n=true:=by rw [h];exact Nat.beq_refl n
theorem zdz {l m:List CV} (h:l.length=m.length):Nat.ble (0+l.length) m.length=true:=Nat.ble_eq_true_of_le zO
theorem z98 {vs:List Int} (h:VarsOk vs) {i:Int} (hi:0≤i∧i<28):(yad vs)[0+i.toNat*1]?=some (.v (.int .u32 (getV vs i))):=by
 have hlt:i.toNat<vs.length:=by rw [h.len];omega
 unfold getV
 rw [Nat.zero_add,Nat.mul_one,List.getElem?_map,List.getElem?_map,List.getElem?_eq_getElem hlt]
 rfl
theorem z99 {vs:List Int} (h:VarsOk vs) {i:Int} (hi:0≤i∧i<28) (c:CV):Nat.ble (0+i.toNat*1+[c].length) (yad vs).length=true:=Nat.ble_eq_true_of_le (by rw [yae h];show 0+_*1+1≤28;omega)
theorem yaa {vs:List Int} (h:VarsOk vs):Nat.ble (yad vs).length 8=false:=by rw [yae h];rfl
theorem yab (vs:List Int) (i:Int) (x:Int):z38 (yad vs) (0+i.toNat*1) [.v (.int .u32 x)]=yad (vs.set i.toNat x):=by
 rw [z4p,Nat.zero_add,Nat.mul_one];show _=List.map CV.v (List.map (Value.int .u32) (vs.set i.toNat x));rw [List.map_set (f:=Value.int .u32)]
theorem yah {vs:List Int} (h:VarsOk vs) (Z:List CV) (hZ:Z.length=28):z38 Z 0 (yad vs)=yad vs:=z4b (by rw [hZ,yae h])
theorem z9n (us:List Value) (x:Value):(AV.tup [.agg (List.map CV.v us),.c (.v x)]).val=some (.tuple #[.agg us.toArray,x]):=by
 simp only [AV.val,zzy,Pc.val,z9l us,CV.val]
theorem ObjsAt.pre {w:World} {gs hs:List Nat} {U V:List Ow} (hl:U.length=gs.length) (hob:zaj U.length U) (h:ObjsAt w (gs++hs) (U++V)):ObjsAt w gs U:=by
 have at_:∀ {i b:Nat},gs[i]?=some b→(gs++hs)[i]?=some b:=fun {i b} hb=>by
  have:i<gs.length:=by
   rcases Nat.lt_or_ge i gs.length with h1|h1
   ·exact h1
   ·rw [List.getElem?_eq_none h1] at hb;cases hb
  rw [List.getElem?_append_left this];exact hb
 have back:∀ i b,i<U.length→(zkb (gs++hs)).blk i=some b→(zkb gs).blk i=some b:=fun i b hi hb=>by
  have hb:(gs++hs)[i]?=some b:=hb;rw [List.getElem?_append_left zO] at hb;exact hb
 refine ⟨hl,fun i j b hi hj=>h.nodup i j b (at_ hi) (at_ hj),fun g hg=>h.lt g (List.mem_append.2 (.inl hg)),fun i o ho=>?_⟩
 have hi:i<U.length:=by
  rcases Nat.lt_or_ge i U.length with h1|h1
  ·exact h1
  ·rw [List.getElem?_eq_none h1] at ho;cases ho
 have h1:=h.own i o (by rw [List.getElem?_append_left hi];exact ho);have h2:=hob o (List.mem_of_getElem? ho)
 cases o with
 |cells t l=>
  obtain ⟨b,us,e1,e2,e3⟩:=h1;refine ⟨b,us,back i b hi e1,e2,zip (k:=0) (n:=U.length) (fun j b hj hb=>back j b hj (by rwa [Nat.zero_add] at hb)) h2 ?_⟩
  have:∀ l:List CV,l.map (CV.sh 0)=l:=fun l=>by
   refine (List.map_congr_left fun c _=>?_).trans (List.map_id l)
   cases c<;>simp [CV.sh]
  rw [this];exact e3
 |row=>exact h2.elim
 |ext=>exact h2.elim
 |view=>exact h2.elim
 |gone=>exact h2.elim
theorem GrownBys.trans {w w1 w2:World} {gs gs':List Nat} (h:GrownBys w w1 gs) (k:GrownBys w1 w2 gs') (hn:∀ g∈gs',g∈gs∨w.heap.size≤g):GrownBys w w2 gs:=
 ⟨k.os.trans h.os,k.tape.trans h.tape,k.output.trans h.output,Nat.le_trans h.size k.size,fun b hb hg=>(k.block b (Nat.lt_of_lt_of_le hb h.size) (fun hm=>by
  rcases hn b hm with h1|h1
  ·exact hg h1
  ·omega)).trans (h.block b hb hg)⟩
section
variable {P:Program} {w0:World} {G:Gs} {N:Nd} {f:Fr} {S:List Ow} {Q:Exit→Act→World→Prop}
theorem zch {id:Nat} (h:AtQ w0 G N .ret f S Q):AtQ w0 G N .ret f S (Exit.inBlock id Q):=⟨fun a w hg=>h.out a w hg⟩
theorem zci {α:Type} {T:α→Fr} {U:α→List Ow} (h:AtQ w0 G N .ret f S Q):AtQ w0 G N .ret f S (MidQ w0 G N T U Q):=⟨fun a w hg=>h.out a w hg⟩
theorem zck {α:Type} {T:α→Fr} {U:α→List Ow} {m:α→Nat} {n:Nat} (h:AtQ w0 G N .ret f S Q):AtQ w0 G N .ret f S (zam w0 G N T U m n Q):=⟨fun a w hg=>h.out a w hg⟩
theorem zkl {t e:TypeId} (ht:P.underlying t=some (.pointer e)) (p:Addr) (d:Nat) (w:World):(Op.equalIn (d+1) t (.pointer (some p)) (.pointer none)).run P w= .ok false w:=by
 simp [Op.equalIn,run_underlying ht]
theorem zkk {t e:TypeId} (ht:P.underlying t=some (.pointer e)) (p:Addr) (_:Unit) (w:World):(Op.equal t (.pointer (some p)) (.pointer none)).run P w= .ok false w:=zkl ht p 9999 w
theorem z0n {K:AV→Prop} {o:Oper} {t t' e:TypeId} {x y:Operand} {i off:Nat} (hop:o.op= .binOp .eql t x y t') (ht:P.underlying t=some (.pointer e)) (hx:f.ev x= .p (.c (.ref i off))) (hy:f.ev y=one (.pointer none)) (hk:K (one (.bool false))):QRun P w0 G S f o K:=by
 refine ⟨_,hk,fun r a hf=>?_⟩;have h1:=hf.ev x;have h2:=hf.ev y;rw [hx] at h1;rw [hy] at h2;obtain ⟨b,hb,hu⟩:=zi0 h1;refine ⟨_,ziz _ _,fun w hR=>?_⟩;have he:(Op.equal t (.pointer (some ⟨b,off,none⟩)) (.pointer none)).run P w= .ok false w:=zkk ht _ () w;simp [execOp,hop,hu,zi2 h2,eqGuard,binOp,he]
end
end Go.Proofs.YtocafomnnkmjfaaGreat
