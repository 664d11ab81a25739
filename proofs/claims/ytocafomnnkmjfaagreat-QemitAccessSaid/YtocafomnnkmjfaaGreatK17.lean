import Derived.Test.YtocafomnnkmjfaaGreatK16
set_option maxRecDepth 100000
set_option maxHeartbeats 1000000
namespace Go.Proofs.YtocafomnnkmjfaaGreat
open Go.RowKit
def zeq (l:List Int):ByteArray:=l.foldl (fun r n=>r.push (UInt8.ofNat n.toNat)) ByteArray.empty
def strV (l:List Int):Value:= .string (zeq l)
theorem zev:∀ (l:List Int) (s:ByteArray),(l.foldl (fun r n=>r.push (UInt8.ofNat n.toNat)) s).data.toList=s.data.toList++l.map fun n=>UInt8.ofNat n.toNat
 |[],s=>by simp
 |n::l,s=>by
  rw [List.foldl_cons,zev l];simp [ByteArray.push]
theorem zet (l:List Int):(zeq l).data.toList=l.map fun n=>UInt8.ofNat n.toNat:=by
 have:=zev l ByteArray.empty;rw [show ByteArray.empty.data.toList=[] from rfl,List.nil_append] at this;exact this
theorem zeu (l:List Int):(zeq l).size=l.length:=by
 show (zeq l).data.size=_;rw [← Array.length_toList,zet,List.length_map]
theorem zes {l:List Int} {i:Nat} {b:Int} (h:l[i]?=some b):(zeq l)[i]?=some (UInt8.ofNat b.toNat):=by
 have h1:(zeq l).data.toList[i]?=some (UInt8.ofNat b.toNat):=by rw [zet,List.getElem?_map,h];rfl
 have h2:(zeq l).data[i]?=some (UInt8.ofNat b.toNat):=by simpa using h1
 have hi:i<(zeq l).size:=by
  rw [zeu];rcases Nat.lt_or_ge i l.length with h3|h3
  ·exact h3
  ·rw [List.getElem?_eq_none h3] at h;cases h
 rw [getElem?_pos (zeq l) i hi];have h3:i<(zeq l).data.size:=hi;rw [Array.getElem?_eq_getElem h3] at h2;exact h2
section
variable {P:Program} {w0:World} {G:Gs} {S:List Ow} {f:Fr} {o:Oper} {K:AV→Prop}
theorem z0k {x:Operand} {t:TypeId} (l:List Int) (hop:o.op= .call ⟨.builtin .len,#[x],#[t]⟩) (ht:P.underlying t=some .string) (hx:f.ev x=one (strV l)) (hk:K (one (.int .i64 (l.length:Int)))):QRun P w0 G S f o K:=by
 refine ⟨_,hk,fun r a hf=>?_⟩;have h1:=hf.ev x;rw [hx] at h1;refine ⟨_,rfl,fun w hR=>?_⟩;simp [execOp,hop,resolve,invoke,builtin,zi2 h1,strV,zeu,Builtin.len_,run_underlying ht,goInt]
theorem z0j {x ix:Operand} {t:TypeId} (l:List Int) (k:IntKind) (i:Nat) (b:Int) (hop:o.op= .index t x ix) (ht:P.underlying t=some .string) (hx:f.ev x=one (strV l)) (hi:f.ev ix=one (.int k (i:Int))) (hb:l[i]?=some b) (hr:0≤b∧b<256) (hk:K (one (.int .u8 b))):QRun P w0 G S f o K:=by
 refine ⟨_,hk,fun r a hf=>?_⟩;have h1:=hf.ev x;have h2:=hf.ev ix;rw [hx] at h1;rw [hi] at h2;refine ⟨_,rfl,fun w hR=>?_⟩;have hg:=zes hb;have hbb:(UInt8.ofNat b.toNat).toNat=b.toNat:=(by simp;omega);simp [execOp,hop,zi2 h1,zi2 h2,strV,Instr.index,run_underlying ht,hg,asIntOf,hbb];omega
theorem z0e {x:Operand} {src dst e:TypeId} {te:TypeId} (i n c:Nat) (l:List Int) (hop:o.op= .convert src dst x) (hs:P.underlying src=some (.slice e)) (he:P.underlying e=some (.int .u8)) (hd:P.underlying dst=some .string) (hx:f.ev x= .p (.c (.sl i 0 n c))) (hi:S[i]?=some (.cells te ((l.map (Value.int .u8)).map .v))) (hn:l.length=n) (hk:K (one (strV l))):QRun P w0 G S f o K:=by
 refine ⟨_,hk,fun r a hf=>?_⟩;have h1:=hf.ev x;rw [hx] at h1;obtain ⟨b,hb,hu⟩:=zi1 h1;refine ⟨_,rfl,fun w hR=>?_⟩;obtain ⟨b',us,e1,e2,e3⟩:=hR.own i _ hi;rw [hb] at e1;injection e1 with e1;subst e1;obtain rfl:=zis e3
 have hl:(loadCells ⟨b,0,none⟩ n).run P w= .ok (l.map (Value.int .u8)).toArray w:=by
  unfold loadCells;have:=z2p (P:=P) (w:=w) (b:=b) (off:=0) n 0 #[] (l.map (Value.int .u8)) (by simp [hn]) (fun j u hj=>by simpa [World.cell?,e2] using hj)
  simpa using this
 simp [execOp,hop,hu,run_convert_bytes_string w src dst e _ n c hs he hd,run_bytesToString w _ n c l hl,strV,zeq]
end
theorem zw2 {P:Program} {w0:World} {G:Gs} {N:Nd} {o:Oper} {f:Fr} {S:List Ow} {K:Fr→List Ow→Prop} {t e:TypeId} {i:TypeInfo} {z:Value} {x y:Operand} (size n:Nat) (hop:o.op= .makeSlice t x y) (ht:P.underlying t=some (.slice e)) (hi:P.info? e=some i) (hz:i.zero=some z) (hsize:i.size=size)
  (hx:f.ev x=one (.int .i64 (n:Int))) (hy:f.ev y=one (.int .i64 (n:Int))) (hn:n*size≤16777216) (hb:i.bytes*n≤281474976710656) (hm:n≤maxLen) (hdst:zi8 N.n o.dst=true) {xs:List Value} (hxs:(madeCells z.cells (n*size)).toList=xs)
  (hk:K (f.put o.dst (.p (.c (.sl S.length 0 n n)))) (S++[.cells e (xs.map .v)])):OpS P w0 G N o f S K:=by
 refine ⟨fun r a w hR hf hN hd next Q hK=>?_⟩;have h1:=hf.ev x;have h2:=hf.ev y;rw [hx] at h1;rw [hy] at h2;have hrun:=run_makeSlice (P:=P) (w:=w) t e i z ht hi hz .i64 .i64 (n:Int) (n:Int) zO (Int.le_refl _) (by rw [hsize,Int.toNat_natCast];exact hn) (by have:=Int.ofNat_le.2 hb;simpa using this) (by have:=Int.ofNat_le.2 hm;exact this);rw [Int.toNat_natCast,hsize] at hrun
 have hex:(execOp a.eval o).run P w= .ok (.value (.slice (some ⟨w.heap.size,0,none⟩) n n)) (w.alloc (.cells (madeCells z.cells (n*size)) e)):=by
  simp [execOp,hop,zi2 h1,zi2 h2,hrun]
 have hB:Below w.heap.size w (w.alloc (.cells (madeCells z.cells (n*size)) e)):=Below.alloc (Below.refl _ _) (Nat.le_refl _) _;have hle:=hR.le_new (some w.heap.size) none;refine ybh hex (hK _ _ _ _ hk (zor hR hf hN hd hdst (r':=r.set S.length (some w.heap.size) none) ?_ (hR.snoc hB (fun x hx=>by injection hx with hx;subst hx;exact ⟨Nat.le_refl _,by show w.heap.size<(w.heap.push _).size;simp⟩) ⟨w.heap.size,xs,by simp [Env.set],by show (w.heap.push _)[w.heap.size]?=_;simp [← hxs],zir xs⟩) hle));simp only [AV.den,Pc.den,CV.den];exact ⟨w.heap.size,by simp [Env.set],rfl⟩
structure ReplSt (a g:List Int) (n:Nat) where
 i:Nat
 l:List BOp
 hl:l.length=n
 hi:i≤n
 ok:MadeOk ⟨a,g,l⟩
structure TurnOk (b:Blk):Prop where
 ok:b.ok
 l1:b.at_.length≤1000
 l2:b.pages.length≤1000
 l3:b.ops.length≤1000
structure MemP where
 data:List Int
 image:List Int
 oldData:List Int
 oldImage:List Int
 rights:List Int
 td:List Value:=[]
 ti:List Value:=[]
 tod:List Value:=[]
 toi:List Value:=[]
 tr:List Value:=[]
abbrev zem (x:Int):Value:= .int .u8 x
abbrev intV (x:Int):Value:= .int .i64 x
def MemP.dV (M:MemP):List Value:=M.data.map zem++M.td
def MemP.iV (M:MemP):List Value:=M.image.map zem++M.ti
def MemP.odV (M:MemP):List Value:=M.oldData.map zem++M.tod
def MemP.oiV (M:MemP):List Value:=M.oldImage.map zem++M.toi
def MemP.rV (M:MemP):List Value:=M.rights.map intV++M.tr
abbrev memS (k n p:Nat) (M:MemP):List Ow:=
 [.cells 115 [.sl (k+1) 0 n (n+M.td.length),.sl (k+2) 0 n (n+M.ti.length),.sl (k+3) 0 n (n+M.tod.length),.sl (k+4) 0 n (n+M.toi.length),.sl (k+5) 0 p (p+M.tr.length),.v (.bool false)],
  .cells 5 (M.dV.map .v),.cells 5 (M.iV.map .v),.cells 5 (M.odV.map .v),.cells 5 (M.oiV.map .v),.cells 3 (M.rV.map .v)]
structure MemP.ok (M:MemP) (n p:Nat):Prop where
 ld:M.data.length=n
 li:M.image.length=n
 lr:M.rights.length=p
 lod:M.oldData.length=n
 loi:M.oldImage.length=n
 np:n=256*p
 pmax:p≤4096
 db:∀ x∈M.data,0≤x∧x<256
 ib:∀ x∈M.image,0≤x∧x<256
 rb:∀ x∈M.rights,0≤x∧x<8
theorem z42 (k:Nat) (us:List Value):(us.map CV.v).map (CV.sh k)=us.map CV.v:=by
 rw [List.map_map];rfl
theorem zt7 (k n p:Nat) (M:MemP):ShAll k (memS 0 n p M) (memS k n p M):=by
 refine ⟨⟨rfl,?_⟩,⟨rfl,(z42 k _).symm⟩,⟨rfl,(z42 k _).symm⟩,⟨rfl,(z42 k _).symm⟩,⟨rfl,(z42 k _).symm⟩,⟨rfl,(z42 k _).symm⟩,trivial⟩;simp [CV.sh]
theorem zvx (n:Nat) (us:List Value):∀ c∈us.map CV.v,c.ob n=true:=fun c hc=>by
 obtain ⟨u,_,rfl⟩:=List.mem_map.1 hc;rfl
theorem zt6 (n p:Nat) (M:MemP):zaj 6 (memS 0 n p M):=by
 intro o ho;simp only [memS,List.mem_cons,List.not_mem_nil,or_false] at ho;rcases ho with rfl|rfl|rfl|rfl|rfl|rfl
 ·intro c hc
  simp only [List.mem_cons,List.not_mem_nil,or_false] at hc
  rcases hc with rfl|rfl|rfl|rfl|rfl|rfl<;>rfl
 ·exact zvx 6 _
 ·exact zvx 6 _
 ·exact zvx 6 _
 ·exact zvx 6 _
 ·exact zvx 6 _
theorem z56 {w:World} {gs:List Nat} {n p:Nat} {M:MemP} (h:ObjsAt w gs (memS 0 n p M)):∃ g0 g1 g2 g3 g4 g5,gs=[g0,g1,g2,g3,g4,g5]:=by
 have:=h.len
 match gs,this with
 |[g0,g1,g2,g3,g4,g5],_=>exact ⟨g0,g1,g2,g3,g4,g5,rfl⟩
theorem z74 {U T:List Ow}:∀ (i:Nat) (o:Ow),U[i]?=some o→(U++T)[i]?=some o:=fun i o h=>by
 have hi:i<U.length:=by
  rcases Nat.lt_or_ge i U.length with h1|h1
  ·exact h1
  ·rw [List.getElem?_eq_none h1] at h;cases h
 rw [List.getElem?_append_left hi];exact h
theorem zzh {S V:List Ow} {k:Nat} (h:∀ i,i<V.length→S[k+i]?=V[i]?):putS S k V=S:=by
 rcases Nat.eq_zero_or_pos V.length with h0|hpos
 ·rw [List.eq_nil_of_length_eq_zero h0];rfl
 have hlen:k+V.length≤S.length:=by
  have h1:=h (V.length-1) zO;rw [List.getElem?_eq_getElem (by omega:V.length-1<V.length)] at h1;rcases Nat.lt_or_ge (k+(V.length-1)) S.length with h3|h3
  ·omega
  ·rw [List.getElem?_eq_none h3] at h1;cases h1
 refine List.ext_getElem? fun j=>?_;rw [zzf _ _ _ _ hlen]
 split
 ·rename_i hj
  rw [← h (j-k) zO,show k+(j-k)=j by omega]
 ·rfl
section
variable {w0:World} {G:Gs} {fid:FuncId} {S:List Ow} {K:AV→List Ow→Prop} {pre suf:List AV} {xs ys:List Value} {P:Program}
theorem ze5 (k n p:Nat) (M M':MemP) (X:Value) (hS:∀ i,i<6→S[k+i]?=(memS k n p M)[i]?) (hx:avals pre=some xs) (hy:avals suf=some ys) (hok:fnOk P fid=true)
  (h:∀ w g gs,OldKeeps w0 G w (g::gs)→ObjsAt w (g::gs) (memS 0 n p M)→Calls P fid (xs++ .pointer (some ⟨g,0,none⟩)::ys).toArray w fun e w'=>e= .returned X∧ObjsAt w' (g::gs) (memS 0 n p M')∧GrownBys w w' (g::gs))
  (hK:K (AV.of X) (putS S k (memS k n p M'))):CallS P w0 G fid (pre++ .p (.c (.ref k 0))::suf) S K:=
 ze8 (α:=Unit) k (memS 0 n p M) (memS k n p M) (fun _=>memS 0 n p M') (fun _=>memS k n p M') (fun _=>X) (fun _=>True) zS (zt7 k n p M) (zt6 n p M) hS hx hy hok (fun _ _=>zt7 k n p M') (fun _ _=>zt6 n p M') (fun _ _=>rfl)
  (fun w g gs hk hU=>(h w g gs hk hU).mono fun e w' ⟨h1,h2,h3⟩=>⟨(),trivial,h1,h2,h3⟩) (fun _ _=>hK)
theorem ze4 (k n p:Nat) (M:MemP) (X:Value) (hS:∀ i,i<6→S[k+i]?=(memS k n p M)[i]?) (hx:avals pre=some xs) (hy:avals suf=some ys) (hok:fnOk P fid=true)
  (h:∀ w g gs,OldKeeps w0 G w (g::gs)→ObjsAt w (g::gs) (memS 0 n p M)→Calls P fid (xs++ .pointer (some ⟨g,0,none⟩)::ys).toArray w fun e w'=>e= .returned X∧ObjsAt w' (g::gs) (memS 0 n p M)∧GrownBys w w' (g::gs))
  (hK:K (AV.of X) S):CallS P w0 G fid (pre++ .p (.c (.ref k 0))::suf) S K:=
 ze5 k n p M M X hS hx hy hok h (by rw [zzh (fun i hi=>hS i hi)];exact hK)
end
theorem zue (M:MemP) (n p:Nat) (a:Int) (w:World) (g:Nat) (gs:List Nat) (hU:ObjsAt w (g::gs) (memS 0 n p M)) (_hM:M.ok n p) (ha:word a):
  Calls Tryz.prog 106 #[.pointer (some ⟨g,0,none⟩),.int .u32 a] w fun e w'=>e= .returned (.bool (decide (a<(n:Int))))∧ObjsAt w' (g::gs) (memS 0 n p M)∧GrownBys w w' (g::gs):=by
 obtain ⟨g0,g1,g2,g3,g4,g5,hg⟩:=z56 hU;injection hg with hg0 hgs;subst hgs;subst hg0;refine zfd [.p (.c (.ref 0 0)),one (.int .u32 a)] [.pointer (some ⟨g,0,none⟩),.int .u32 a] Tryz.func106 Tryz.ntmps106 rfl zS hU ⟨_,_,rfl,zix rfl,zc6 [.int .u32 a]⟩ ?_;(conv=>whnf);refine ⟨a,wr64 (by unfold word at ha;omega),?_⟩;(conv=>whnf)
 exact zmh rfl rfl (fun i o h=>h) (zt6 n p M) fun w' h1 h2=>⟨rfl,h1,h2⟩
theorem zd6 (n:Nat):∀ us:List Value,bndL n (us.map CV.v)=true
 |[]=>rfl
 |u::us=>by simp only [List.map_cons,bndL,CV.bnd];exact zd6 n us
theorem zow (g g1 g2 g3 g4 g5 n p:Nat) (M:MemP):zot ⟨[g,g1,g2,g3,g4,g5],[]⟩ (memS 0 n p M)=true:=by
 show sbnd 6 (memS 0 n p M)=true;simp only [sbnd,Ow.bnd,zd6,bndL,CV.bnd]
 rfl
theorem z8i {l:List Int} {f:Int→Value} {t:List Value} {i:Nat} {x:Int} (h:l[i]?=some x):((l.map f++t).map CV.v)[i]?=some (.v (f x)):=by
 have hi:i<l.length:=by
  rcases Nat.lt_or_ge i l.length with h1|h1
  ·exact h1
  ·rw [List.getElem?_eq_none h1] at h;cases h
 rw [List.getElem?_map,List.getElem?_append_left (by simpa using hi),List.getElem?_map,h];rfl
theorem z8j {l:List Int} {f:Int→Value} {t:List Value} {n:Nat} (h:l.length=n):n≤((l.map f++t).map CV.v).length:=by simp [h]
theorem z8k {l:List Int} {f:Int→Value} {t:List Value} {i:Nat} {x:Int} (h:i<l.length):(l.map f++t).set i (f x)=(l.set i x).map f++t:=by
 rw [List.set_append_left _ _ (by simpa using h),List.map_set]
def MemP.right (M:MemP) (a r:Int):Bool:=decide (a<(M.data.length:Int))&&(((M.rights[(a/256).toNat]?).getD 0)/r%2==1)
theorem zum (M:MemP) (n p:Nat) (a r:Int) (w:World) (g:Nat) (gs:List Nat) (hU:ObjsAt w (g::gs) (memS 0 n p M)) (hM:M.ok n p) (ha:word a) (hr:r=1∨r=2∨r=4):
  Calls Tryz.prog 208 #[.pointer (some ⟨g,0,none⟩),.int .u32 a,.int .i64 r] w fun e w'=>e= .returned (.bool (M.right a r))∧ObjsAt w' (g::gs) (memS 0 n p M)∧GrownBys w w' (g::gs):=by
 obtain ⟨g0,g1,g2,g3,g4,g5,hg⟩:=z56 hU;injection hg with hg0 hgs;subst hgs;subst hg0;refine zfd [.p (.c (.ref 0 0)),one (.int .u32 a),one (.int .i64 r)] [.pointer (some ⟨g,0,none⟩),.int .u32 a,.int .i64 r] Tryz.func208 Tryz.ntmps208 rfl zS hU ⟨_,_,rfl,zix rfl,zc6 [.int .u32 a,.int .i64 r]⟩ ?_;(conv=>whnf);refine ze4 (pre:=[]) (suf:=[one (.int .u32 a)]) 0 n p M (.bool (decide (a<(n:Int)))) (fun i hi=>by rw [Nat.zero_add]) rfl rfl zK (fun w' g gs hk hU=>zue M n p a w' g gs hU hM ha) ?_;(conv=>whnf);have hw:0≤a∧a<4294967296:=ha;refine ⟨((M.rights[(a/256).toNat]?).getD 0)/r%2==1,fun hin=>?_,?_⟩
 ·have hlt:a<(n:Int):=by simpa using hin
  have hnp:=hM.np
  have hq:(a/256).toNat<p:=by omega
  obtain ⟨x,hx⟩:∃ x,M.rights[(a/256).toNat]?=some x:=⟨_,List.getElem?_eq_getElem (by rw [hM.lr];exact hq)⟩
  have hxb:=hM.rb x (List.mem_of_getElem? hx);have hget:(M.rV.map CV.v)[(a/256).toNat]?=some (.v (intV x)):=(by exact z8i hx);rw [hx];(conv=>whnf);refine ⟨by decide,a/256,by rw [Int.tdiv_eq_ediv_of_nonneg hw.1,wr32];omega,?_⟩;(conv=>whnf);refine ⟨⟨by omega,by omega⟩,?_⟩;(conv=>whnf);rw [show (List.map CV.v M.rV)[0+(a/256).toNat*tsz Tryz.prog 3]?=some (.v (intV x)) by show (List.map CV.v M.rV)[0+(a/256).toNat*1]?=_;rw [Nat.zero_add,Nat.mul_one];exact hget];(conv=>whnf);have hr0:0<r:=(by omega);have hd0:0≤x/r:=Int.ediv_nonneg hxb.1 zO;have hd1:x/r≤x:=Int.ediv_le_self _ hxb.1;refine ⟨by omega,x/r,by rw [Int.tdiv_eq_ediv_of_nonneg hxb.1];exact wr64 zO,?_⟩;(conv=>whnf);refine ⟨by decide,x/r%2,Int.tmod_eq_emod_of_nonneg hd0,?_⟩;(conv=>whnf);exact ⟨rfl,rfl,rfl,rfl,zow _ _ _ _ _ _ _ _ _⟩
 conv=>whnf
 refine zmh rfl rfl (fun i o h=>h) (zt6 n p M) fun w' h1 h2=>⟨?_,h1,h2⟩
 unfold MemP.right;rw [hM.ld];rfl
theorem CV.den_det {r:Env} {n:Nat}:∀ {c:CV} {u z:Value},c.ob n=true→c.den r u→c.den r z→u=z
 | .v x,u,z,_,h1,h2=>by simp only [CV.den] at h1 h2;rw [h1,h2]
 | .ref i off,u,z,_,h1,h2=>by
  simp only [CV.den] at h1 h2;obtain ⟨b,e1,rfl⟩:=h1;obtain ⟨b',e2,rfl⟩:=h2;rw [e1] at e2;injection e2 with e2;rw [e2]
 | .sl i off m c,u,z,_,h1,h2=>by
  simp only [CV.den] at h1 h2;obtain ⟨b,e1,rfl⟩:=h1;obtain ⟨b',e2,rfl⟩:=h2;rw [e1] at e2;injection e2 with e2;rw [e2]
 | .any,_,_,hb,_,_=>by cases hb
 | .vref ..,_,_,hb,_,_=>by cases hb
 | .row ..,_,_,hb,_,_=>by cases hb
 | .mp ..,_,_,hb,_,_=>by cases hb
 | .clo ..,_,_,hb,_,_=>by cases hb
theorem zih {r:Env} {n:Nat}:∀ {l:List CV} {us vs:List Value},(∀ c∈l,c.ob n=true)→denL r l us→denL r l vs→us=vs
 |[],us,vs,_,h1,h2=>by simp only [denL] at h1 h2;rw [h1,h2]
 |c::l,us,vs,hb,h1,h2=>by
  simp only [denL] at h1 h2;obtain ⟨u,us',rfl,d1,d2⟩:=h1;obtain ⟨v,vs',rfl,k1,k2⟩:=h2;rw [CV.den_det (hb c zS) d1 k1,zih (fun x hx=>hb x (by simp [hx])) d2 k2]
theorem zv3 {w w':World} {gs:List Nat} {U:List Ow} {n:Nat} (hob:zaj n U) (h:ObjsAt w gs U) (h':ObjsAt w' gs U):∀ g∈gs,w'.heap[g]?=w.heap[g]?:=by
 intro g hg;obtain ⟨i,hi⟩:=List.getElem?_of_mem hg
 have hlt:i<U.length:=by
  rw [h.len];rcases Nat.lt_or_ge i gs.length with h1|h1
  ·exact h1
  ·rw [List.getElem?_eq_none h1] at hi;cases hi
 have ho:=List.getElem?_eq_getElem hlt;have k1:=h.own i _ ho;have k2:=h'.own i _ ho;have hb:=hob _ (List.getElem_mem hlt)
 cases hu:U[i] with
 |cells t l=>
  rw [hu] at k1 k2 hb;obtain ⟨b,us,e1,e2,e3⟩:=k1;obtain ⟨b',us',e4,e5,e6⟩:=k2;have e1:gs[i]?=some b:=e1;have e4:gs[i]?=some b':=e4;rw [hi] at e1 e4;injection e1 with e1;injection e4 with e4;subst e1;subst e4;rw [e2,e5,zih hb e3 e6]
 |row=>rw [hu] at hb;exact hb.elim
 |ext=>rw [hu] at hb;exact hb.elim
 |view=>rw [hu] at hb;exact hb.elim
 |gone=>rw [hu] at hb;exact hb.elim
theorem zvy {w w':World} {gs:List Nat} {U:List Ow} {n:Nat} (hob:zaj n U) (h:ObjsAt w gs U) (h':ObjsAt w' gs U) (hg:GrownBys w w' gs):Below w.heap.size w w':=
 ⟨hg.os,hg.tape,hg.output,hg.size,fun k hk=>by
  by_cases hm:k∈gs
  ·exact zv3 hob h h' k hm
  ·exact hg.block k hk hm⟩
theorem QRun.useD {P:Program} {w0:World} {G:Gs} {S:List Ow} {f:Fr} {o:Oper} {K:AV→Prop} (h:QRun P w0 G S f o K) {r:Env} {D:World→Prop} (hD:∀ w,D w→Rel w0 G S r w) {w1:World} (_:D w1) {a:Act} (hf:FDen r f a):
  ∃ v u,K v∧v.den r u∧∀ w:World,D w→(execOp a.eval o).run P w= .ok (.value u) w:=by
 obtain ⟨v,hK,hr⟩:=h.out;obtain ⟨u,hd,hrun⟩:=hr r a hf;exact ⟨v,u,hK,hd,fun w hw=>hrun w (hD w hw)⟩
theorem z0u {P:Program} {w0:World} {G:Gs} {S:List Ow} {f:Fr} {o:Oper} {K:AV→Prop} (h:qop P w0 G S f o K) (hty:opTy P o.op=true) (hS0:S=[]) {r:Env} {D:World→Prop} (hD:∀ w,D w→Rel w0 G S r w) {w1:World} (hw1:D w1) {a:Act} (hf:FDen r f a):
  ∃ v u,K v∧v.den r u∧∀ w:World,D w→(execOp a.eval o).run P w= .ok (.value u) w:=by
 have hR:=hD w1 hw1;unfold qop at h
 split at h
 ·
  rename_i x hop;have hx:=hf.ev x;refine ⟨f.ev x,a.eval x,?_,hx,fun w _=>by simp [execOp,hop]⟩
  split at h<;>(rename_i he;rw [he];exact h)
 ·rename_i x hop
  have hx:=hf.ev x;refine ⟨f.ev x,a.eval x,?_,hx,fun w _=>by simp [execOp,hop]⟩
  split at h<;>(rename_i he;rw [he];exact h)
 ·
  rename_i c x y hop;have hc:=hf.ev c;have hx:=hf.ev x;have hy:=hf.ev y
  split at h
  ·rename_i b eb
   rw [eb] at hc;have e1:=zi2 hc
   have hrun:∀ w:World,(execOp a.eval o).run P w= .ok (.value (if b then a.eval x else a.eval y)) w:=fun w=>by simp [execOp,hop,e1,asBool]
   split at h
   ·rename_i p ep
    rw [ep] at hx;have e2:=zi2 hx
    split at h
    ·rename_i q eq
     rw [eq] at hy;have e3:=zi2 hy;refine ⟨_,_,h,ziz r _,fun w _=>?_⟩;rw [hrun w,e2,e3]
     cases b<;>rfl
    ·cases b with
     |true=>exact ⟨_,_,h,ziz r _,fun w _=>by rw [hrun w,e2];rfl⟩
     |false=>exact ⟨_,_,h,hy,fun w _=>by rw [hrun w];rfl⟩
   ·cases b with
    |true=>exact ⟨_,_,h,hx,fun w _=>by rw [hrun w];rfl⟩
    |false=>exact ⟨_,_,h,hy,fun w _=>by rw [hrun w];rfl⟩
  ·exact h.elim
 ·
  rename_i t x hop;have hx:=hf.ev x;subst hS0;unfold zta at h
  split at h
  ·simp at h
  ·simp at h
  ·rename_i b off he
   rw [he] at hx;have hu:=zi2 hx;obtain ⟨v,u,hK,hd,hrun⟩:=zwb h r;exact ⟨v,u,hK,hd,fun w hw=>by simp [execOp,hop,hu,hrun [] r w (hD w hw)]⟩
  ·exact h.elim
 ·
  rename_i x hop;have hx:=hf.ev x
  split at h
  ·rename_i i off he
   rw [he] at hx;refine ⟨_,_,h,hx,fun w _=>?_⟩;obtain ⟨b,hb,hu⟩:=zi0 hx;simp [execOp,hop,hu]
  ·rename_i fn cap he
   rw [he] at hx;refine ⟨_,_,h,hx,fun w _=>?_⟩;obtain ⟨us,hu,_⟩:=ziw hx;simp [execOp,hop,hu]
  ·rename_i p he
   rw [he] at hx;refine ⟨_,_,h,hx,fun w _=>?_⟩;have hu:=zi2 hx;simp [execOp,hop,hu]
  ·exact QRun.useD h hD hw1 hf
 ·
  rename_i op t x y t' hop;have hx:=hf.ev x;have hy:=hf.ev y
  split at h
  ·rename_i k p ep
   rw [ep] at hx;have e1:=zi2 hx
   split at h
   ·rename_i k' q eq
    rw [eq] at hy;have e2:=zi2 hy
    have hg:∀ w:World,(eqGuard op t x y (.int k p) (.int k' q)).run P w= .ok () w:=fun w=>by
     unfold eqGuard;cases op<;>simp
    split at h
    ·obtain ⟨u,hK,hrun⟩:=z5g (P:=P) (t:=t) (k':=k') h
     exact ⟨_,u,hK,ziz r u,fun w _=>by simp [execOp,hop,e1,e2,hg w,hrun w]⟩
    ·obtain ⟨u,hK,hrun⟩:=z5g (P:=P) (t:=t) (k':=k') h
     exact ⟨_,u,hK,ziz r u,fun w _=>by simp [execOp,hop,e1,e2,hg w,hrun w]⟩
    ·split at h
     ·rename_i hk
      have hk:=of_decide_eq_true hk;subst hk;obtain ⟨u,hK,hrun⟩:=zdo (P:=P) (t:=t) h;exact ⟨_,u,hK,ziz r u,fun w _=>by simp [execOp,hop,e1,e2,hg w,hrun w]⟩
     ·exact h.elim
   ·exact QRun.useD h hD hw1 hf
  ·exact QRun.useD h hD hw1 hf
 ·
  rename_i op t x hop;have hx:=hf.ev x
  split at h
  ·rename_i p ep
   rw [ep] at hx;have e1:=zi2 hx;exact ⟨_,_,h,ziz r _,fun w _=>by simp [execOp,hop,e1,Op.unary]⟩
  ·exact QRun.useD h hD hw1 hf
 ·
  rename_i src dst x hop;have hx:=hf.ev x
  split at h
  ·rename_i k n ep
   rw [ep] at hx;have e1:=zi2 hx
   split at h
   ·rename_i q0 hq0
    split at h
    ·rename_i q hq
     obtain ⟨m,hm,hK⟩:=h;exact ⟨_,_,hK,ziz r _,fun w _=>by simp [execOp,hop,e1,convert,underlying,hq0,hq,Conv.intToInt,hm]⟩
    ·exact QRun.useD h hD hw1 hf
   ·exact QRun.useD h hD hw1 hf
  ·exact QRun.useD h hD hw1 hf
 ·
  rename_i s x k hop;have hx:=hf.ev x
  split at h
  ·rename_i i off he
   rw [he] at hx;obtain ⟨b,hb,hu⟩:=zi0 hx
   split at h
   ·rename_i n hn
    exact ⟨_,_,h,zix hb,fun w _=>by simp [execOp,hop,hu,z2i hn]⟩
   ·exact h.elim
  ·rename_i b off he
   rw [he] at hx;have hu:=zi2 hx
   split at h
   ·rename_i n hn
    exact ⟨_,_,h,ziz r _,fun w _=>by simp [execOp,hop,hu,z2i hn]⟩
   ·exact h.elim
  ·exact h.elim
 ·
  rename_i t x k hop;have hx:=hf.ev x
  split at h
  ·rename_i l he
   rw [he] at hx;obtain ⟨us,hu,hl⟩:=ziv hx;unfold fldK at h
   split at h
   ·rename_i fs hs
    split at h
    ·rename_i fl hfl
     obtain ⟨v,u,hK,hd,hrun⟩:=z2q h hl;exact ⟨v,u,hK,hd,fun w _=>by simp [execOp,hop,hu,Instr.field,underlying,hs,hfl,asAgg,hrun w]⟩
    ·exact h.elim
   ·exact h.elim
  ·exact h.elim
 ·
  rename_i x k hop;have hx:=hf.ev x
  split at h
  ·rename_i l he
   rw [he] at hx;obtain ⟨us,hu,hl⟩:=hx
   split at h
   ·rename_i p hp
    obtain ⟨u,h1,h2⟩:=zym hl hp;exact ⟨_,u,h,h2,fun w _=>by simp [execOp,hop,hu,Instr.extract,h1]⟩
   ·exact h.elim
  ·exact h.elim
 ·
  rename_i t parts hop;obtain ⟨v,u,hK,hd,hrun⟩:=zef hR hf h;exact ⟨v,u,hK,hd,fun w _=>by simp only [execOp,hop,Sem.run_bind,hrun w,Result.andThen_ok,Sem.run_pure]⟩
 ·
  rename_i fn first cap hop
  split at h
  ·rename_i hfirst
   have ef:first= #[]:=Array.ext' hfirst
   split at h
   ·rename_i hcap
    have ec:cap= #[]:=Array.ext' hcap;exact ⟨_,.func (.func fn) #[] #[],h,by simp [AV.den,Pc.den,CV.den,denL],fun w _=>by simp [execOp,hop,Instr.makeFunc,ef,ec]⟩
   ·rename_i x hcap
    have ec:cap= #[x]:=Array.ext' hcap;have hx:=hf.ev x
    split at h
    ·rename_i c he
     rw [he] at hx;refine ⟨_,.func (.func fn) #[] #[a.eval x],h,?_,fun w _=>by simp [execOp,hop,Instr.makeFunc,ef,ec]⟩;simp only [AV.den,Pc.den,CV.den,denL];exact ⟨[a.eval x],rfl,_,_,rfl,hx,rfl⟩
    ·exact h.elim
   ·exact QRun.useD h hD hw1 hf
  ·exact QRun.useD h hD hw1 hf
 ·
  rename_i t x ix hop;rw [hop] at hty;have hx:=hf.ev x;have hi:=hf.ev ix
  split at h
  ·rename_i b off n c he
   rw [he] at hx;have hu:=zi2 hx
   split at h
   ·rename_i q k hk
    rw [hk] at hi;have hu2:=zi2 hi
    split at h
    ·rename_i e ht
     simp only [opTy,ht] at hty;obtain ⟨i,hie⟩:=Option.isSome_iff_exists.1 hty;obtain ⟨⟨h0,h1⟩,hK⟩:=h;refine ⟨_,_,hK,ziz r _,fun w _=>?_⟩;simp only [execOp,hop,hu,hu2,Sem.run_bind,z2l ht hie h0 h1,Result.andThen_ok,Sem.run_pure,z9a hie]
    ·exact h.elim
   ·exact h.elim
  ·rename_i i he
   rw [he] at hx
   split at h
   ·rename_i q k hk
    rw [hk] at hi;have hu2:=zi2 hi
    split at h
    ·rename_i e ht
     simp only [opTy,ht] at hty;obtain ⟨i',hie⟩:=Option.isSome_iff_exists.1 hty
     split at h
     ·rename_i e' size n xs hS
      obtain ⟨⟨h0,h1⟩,hK⟩:=h;obtain ⟨v,hv1,hv2,hv3⟩:=hR.own i _ hS;have hux:r.val i=some (a.eval x):=(by simpa only [AV.den,Pc.den,CV.den] using hx);rw [hux] at hv1;injection hv1 with hv1;rcases hv3.2 with ⟨hn,hz⟩|⟨g,cap,cur,hv,_⟩
      ·omega
      ·rw [← hv1] at hv hv2
       have hb:r.blk i=some g:=(by rw [← hv2,hv];rfl);refine ⟨_,_,hK,zix hb,fun w _=>?_⟩;simp only [execOp,hop,hv,hu2,Sem.run_bind,z2l ht hie h0 h1,Result.andThen_ok,Sem.run_pure,z9a hie,Nat.zero_add]
     ·rename_i n xs hS
      obtain ⟨⟨h0,h1,hpos⟩,hK⟩:=h;obtain ⟨A,c,hv1,hv2,hv3,hv4,hv5⟩:=hR.own i _ hS;have hux:r.val i=some (a.eval x):=(by simpa only [AV.den,Pc.den,CV.den] using hx);obtain ⟨b,off,hA,_⟩:=hv5 0 xs[0] (by simp [hpos]);subst hA;rw [hux] at hv1;injection hv1 with hv1;refine ⟨_,.pointer (some ⟨b,off+k.toNat*i'.size,none⟩),hK,?_,fun w _=>?_⟩
      ·simp only [AV.den,Pc.den,CV.den]
       exact ⟨b,off,n,c,by rw [hux,hv1],by rw [z9a hie]⟩
      ·simp only [execOp,hop,hv1,hu2,Sem.run_bind,z2l ht hie h0 h1,Result.andThen_ok,Sem.run_pure]
     ·exact h.elim
    ·exact h.elim
   ·exact h.elim
  ·rename_i i off n c he
   rw [he] at hx;have hux:∃ b,r.blk i=some b∧a.eval x= .slice (some ⟨b,off,none⟩) n c:=(by simpa only [AV.den,Pc.den,CV.den] using hx);obtain ⟨b,hb,hu⟩:=hux
   split at h
   ·rename_i q k hk
    rw [hk] at hi;have hu2:=zi2 hi
    split at h
    ·rename_i e ht
     simp only [opTy,ht] at hty;obtain ⟨i',hie⟩:=Option.isSome_iff_exists.1 hty;obtain ⟨⟨h0,h1⟩,hK⟩:=h;refine ⟨_,_,hK,zix hb,fun w _=>?_⟩;simp only [execOp,hop,hu,hu2,Sem.run_bind,z2l ht hie h0 h1,Result.andThen_ok,Sem.run_pure,z9a hie]
    ·exact h.elim
   ·exact h.elim
  ·rename_i i off he
   rw [he] at hx;obtain ⟨b,hb,hu⟩:=zi0 hx
   split at h
   ·rename_i q k hk
    rw [hk] at hi;have hu2:=zi2 hi
    split at h
    ·rename_i n e ht
     simp only [opTy,ht] at hty;obtain ⟨i',hie⟩:=Option.isSome_iff_exists.1 hty;obtain ⟨⟨h0,h1⟩,hK⟩:=h;refine ⟨_,_,hK,zix hb,fun w _=>?_⟩;simp only [execOp,hop,hu,hu2,Sem.run_bind,z2k ht hie h0 h1,Result.andThen_ok,Sem.run_pure,z9a hie]
    ·exact h.elim
   ·exact h.elim
  ·exact QRun.useD h hD hw1 hf
 ·
  rename_i t x ix hop;rw [hop] at hty;have hx:=hf.ev x;have hi:=hf.ev ix
  split at h
  ·rename_i l he
   rw [he] at hx;obtain ⟨us,hu,hl⟩:=ziv hx
   split at h
   ·rename_i q k hk
    rw [hk] at hi;have hu2:=zi2 hi
    split at h
    ·rename_i n e ht
     simp only [opTy,ht] at hty;obtain ⟨i',hie⟩:=Option.isSome_iff_exists.1 hty;obtain ⟨⟨h0,h1⟩,hK⟩:=h;obtain ⟨v,u,hK',hd,hrun⟩:=z2q hK hl;refine ⟨v,u,hK',hd,fun w _=>?_⟩;have e3:=hrun w;rw [z9a hie] at e3;simp [execOp,hop,hu,hu2,Instr.index,asIntOf,underlying,ht,h0,h1,z2r P e w hie,e3]
    ·exact h.elim
   ·exact h.elim
  ·exact QRun.useD h hD hw1 hf
 ·
  rename_i args tys hop
  split at h
  ·rename_i x hargs
   have ea:args= #[x]:=Array.ext' hargs
   split at h
   ·rename_i t htys
    have et:tys= #[t]:=Array.ext' htys
    split at h
    ·rename_i e ht
     have hx:=hf.ev x
     split at h
     ·rename_i A n c he
      rw [he] at hx;have hu:=zi2 hx;exact ⟨_,_,h,ziz r _,fun w _=>by simp [execOp,hop,ea,et,resolve,invoke,builtin,Builtin.len_,underlying,ht,hu,goInt]⟩
     ·rename_i i off n c he
      rw [he] at hx;have hux:∃ b,r.blk i=some b∧a.eval x= .slice (some ⟨b,off,none⟩) n c:=(by simpa only [AV.den,Pc.den,CV.den] using hx);obtain ⟨b,hb,hu⟩:=hux;exact ⟨_,_,h,ziz r _,fun w _=>by simp [execOp,hop,ea,et,resolve,invoke,builtin,Builtin.len_,underlying,ht,hu,goInt]⟩
     ·rename_i i he
      rw [he] at hx
      split at h
      ·rename_i e' size n xs hS
       obtain ⟨v,hv1,hv2,hv3⟩:=hR.own i _ hS;have hux:r.val i=some (a.eval x):=(by simpa only [AV.den,Pc.den,CV.den] using hx);rw [hux] at hv1;injection hv1 with hv1;obtain ⟨A,c,hv⟩:=z2b hv3;rw [← hv1] at hv;exact ⟨_,_,h,ziz r _,fun w _=>by simp [execOp,hop,ea,et,resolve,invoke,builtin,Builtin.len_,underlying,ht,hv,goInt]⟩
      ·rename_i n xs hS
       obtain ⟨A,c,hv1,_⟩:=hR.own i _ hS;have hux:r.val i=some (a.eval x):=(by simpa only [AV.den,Pc.den,CV.den] using hx);rw [hux] at hv1;injection hv1 with hv1;exact ⟨_,_,h,ziz r _,fun w _=>by simp [execOp,hop,ea,et,resolve,invoke,builtin,Builtin.len_,underlying,ht,hv1,goInt]⟩
      ·exact h.elim
     ·exact h.elim
    ·exact QRun.useD h hD hw1 hf
   ·exact h.elim
  ·exact h.elim
 ·exact QRun.useD h hD hw1 hf
theorem z10 (σ:Nat→Nat):∀ us:List Value,renL σ (us.map CV.v)=us.map CV.v
 |[]=>rfl
 |u::us=>by simp only [List.map_cons,renL,CV.ren,z10 σ us]
structure NewObjs (w w':World) (gs:List Nat) (U:List Ow):Prop where
 at_:ObjsAt w' gs U
 fresh:∀ g∈gs,w.heap.size≤g
 below:Below w.heap.size w w'
def zka (r:Env) (n:Nat) (gs:List Nat):Env:=⟨fun i=>if i<n then r.blk i else gs[i-n]?,r.val⟩
theorem Rel.newObjs {w0:World} {G:Gs} {S U V:List Ow} {r:Env} {w w':World} {gs:List Nat} (hR:Rel w0 G S r w) (h:NewObjs w w' gs U) (hsh:ShAll S.length U V) (hob:zaj U.length U):Rel w0 G (S++V) (zka r S.length gs) w'∧r.le (zka r S.length gs):=by
 have hVl:=hsh.length;have hUl:=h.at_.len
 have hfrom:∀ i b,i<U.length→(zkb gs).blk i=some b→(zka r S.length gs).blk (S.length+i)=some b:=fun i b _ hb=>by
  show (if S.length+i<S.length then _ else gs[S.length+i-S.length]?)=some b;rw [if_neg zO,show S.length+i-S.length=i by omega];exact hb
 refine hR.snocs h.below V (zka r S.length gs) (fun i hi=>⟨if_pos hi,rfl⟩) (fun i x hi hx=>?_) (fun i j x hi hj hx hy=>?_) (fun i hi=>?_) (fun j o hj=>?_)
 ·have hx:(if i<S.length then r.blk i else gs[i-S.length]?)=some x:=hx
  rw [if_neg zO] at hx;have hm:=List.mem_of_getElem? hx;exact ⟨h.fresh x hm,h.at_.lt x hm⟩
 ·have hx:(if i<S.length then r.blk i else gs[i-S.length]?)=some x:=hx
  have hy:(if j<S.length then r.blk j else gs[j-S.length]?)=some x:=hy;rw [if_neg zO] at hx hy;have:=h.at_.nodup _ _ x hx hy;omega
 ·have hlt:¬i<S.length:=by omega
  refine ⟨?_,hR.outV i zO⟩;show (if i<S.length then r.blk i else gs[i-S.length]?)=none;rw [if_neg hlt,List.getElem?_eq_none zO]
 ·obtain ⟨o',h1,h2⟩:=hsh.get' j hj
  have h3:=h.at_.own j o' h1;have h4:=hob o' (List.mem_of_getElem? h1)
  have hjl:j<U.length:=by
   rcases Nat.lt_or_ge j U.length with h5|h5
   ·exact h5
   ·rw [List.getElem?_eq_none h5] at h1;cases h1
  cases o' with
  |cells t l=>
   cases o with
   |cells t' l'=>
    obtain ⟨rfl,rfl⟩:=h2;obtain ⟨b,us,e1,e2,e3⟩:=h3;exact ⟨b,us,hfrom j b hjl e1,e2,z41 (n:=U.length) hfrom h4 e3⟩
   |row=>exact h2.elim
   |ext=>exact h2.elim
   |view=>exact h2.elim
   |gone=>exact h2.elim
  |row=>exact h4.elim
  |ext=>exact h4.elim
  |view=>exact h4.elim
  |gone=>exact h4.elim
theorem ze7 {P:Program} {w0:World} {G:Gs} {fid:FuncId} {args:List AV} {xs:List Value} {S:List Ow} {K:AV→List Ow→Prop} (U V:List Ow) (hx:avals args=some xs) (hok:fnOk P fid=true) (hsh:ShAll S.length U V) (hob:zaj U.length U)
  (h:∀ r w,Rel w0 G S r w→Calls P fid xs.toArray w fun e w'=>∃ g gs,e= .returned (.pointer (some ⟨g,0,none⟩))∧NewObjs w w' (g::gs) U) (hK:K (.p (.c (.ref S.length 0))) (S++V)):CallS P w0 G fid args S K:=by
 refine ⟨hok,fun r w us hR hd=>?_⟩;obtain rfl:=zcs hx hd;refine (h r w hR).mono fun e w' ⟨g,gs,he,hn⟩=>?_;obtain ⟨h1,h2⟩:=hR.newObjs hn hsh hob;refine ⟨_,_,_,_,he,zix ?_,h1,h2,hK⟩;show (if S.length<S.length then r.blk S.length else (g::gs)[S.length-S.length]?)=some g;rw [if_neg zO,Nat.sub_self];rfl
theorem zmg {w0:World} {S:List Ow} {R:Ending→World→Prop} (k:Nat) (U V:List Ow) (hpos:0<U.length) (hS:∀ i,i<U.length→S[k+i]?=V[i]?) (hsh:ShAll k U V) (hob:zaj U.length U)
  (h:∀ w g gs,NewObjs w0 w (g::gs) U→R (.returned (.pointer (some ⟨g,0,none⟩))) w):Fin w0 Gs.nil S (.p (.c (.ref k 0))) R:=by
 refine ⟨fun r w u hR hd=>?_⟩;obtain ⟨g,hg,rfl⟩:=zi0 hd
 have hnew:∀ i b,r.blk i=some b→w0.heap.size≤b:=fun i b hb=>by
  rcases Nat.lt_or_ge b w0.heap.size with h1|h1
  ·exact absurd ((hR.new i b hb).2 h1) zS
  ·exact h1
 have hown:∀ i,i<U.length→∃ b t l,U[i]?=some (.cells t l)∧r.blk (k+i)=some b∧∃ us:List Value,w.heap[b]?=some (.cells us.toArray t (0,0))∧denL r (l.map (CV.sh k)) us:=fun i hi=>by
  have hu:=List.getElem?_eq_getElem hi;obtain ⟨o',h1,h2⟩:=hsh.get i hu;have h3:=hR.own (k+i) o' (by rw [hS i hi,h1]);have h4:=hob _ (List.getElem_mem hi)
  cases ho:U[i] with
  |cells t l=>
   rw [ho] at h2 hu
   cases o' with
   |cells t' l'=>
    obtain ⟨rfl,rfl⟩:=h2;obtain ⟨b,us,e1,e2,e3⟩:=h3;exact ⟨b,t,l,hu,e1,us,e2,e3⟩
   |row=>exact h2.elim
   |ext=>exact h2.elim
   |view=>exact h2.elim
   |gone=>exact h2.elim
  |row=>rw [ho] at h4;exact h4.elim
  |ext=>rw [ho] at h4;exact h4.elim
  |view=>rw [ho] at h4;exact h4.elim
  |gone=>rw [ho] at h4;exact h4.elim
 obtain ⟨gs,hgl,hgs⟩:∃ gs:List Nat,gs.length=U.length∧∀ i,i<U.length→gs[i]?=r.blk (k+i):=by
  refine ⟨(List.range U.length).map fun i=>(r.blk (k+i)).getD 0,by simp,fun i hi=>?_⟩;obtain ⟨b,_,_,_,hb,_⟩:=hown i hi;rw [List.getElem?_map,List.getElem?_range hi,hb];simp [hb]
 have hto:∀ i b,i<U.length→r.blk (k+i)=some b→(zkb gs).blk i=some b:=fun i b hi hb=>by
  show gs[i]?=some b;rw [hgs i hi];exact hb
 have hin:∀ (i b:Nat),gs[i]?=some b→i<U.length∧r.blk (k+i)=some b:=fun i b hb=>by
  have hi:i<U.length:=by
   rcases Nat.lt_or_ge i U.length with h1|h1
   ·exact h1
   ·rw [List.getElem?_eq_none zO] at hb;cases hb
  exact ⟨hi,by rw [← hgs i hi];exact hb⟩
 have hmem:∀ b,b∈gs→∃ i,i<U.length∧r.blk (k+i)=some b:=fun b hb=>by
  obtain ⟨i,hi⟩:=List.getElem?_of_mem hb;exact ⟨i,hin i b hi⟩
 have hU:NewObjs w0 w gs U:=by
  refine ⟨⟨hgl.symm,fun i j b hi hj=>?_,fun b hb=>?_,fun i o ho=>?_⟩,fun b hb=>?_,hR.toBelow⟩
  ·have:=hR.inj _ _ b (hin i b hi).2 (hin j b hj).2
   omega
  ·obtain ⟨i,_,hi⟩:=hmem b hb
   exact (hR.new _ b hi).1
  ·have hi:i<U.length:=by
    rcases Nat.lt_or_ge i U.length with h1|h1
    ·exact h1
    ·rw [List.getElem?_eq_none h1] at ho;cases ho
   obtain ⟨b,t,l,e1,e2,us,e3,e4⟩:=hown i hi;rw [ho] at e1;injection e1 with e1;subst e1;exact ⟨b,us,hto i b hi e2,e3,zip (n:=U.length) hto (hob _ (List.mem_of_getElem? ho)) e4⟩
  ·obtain ⟨i,_,hi⟩:=hmem b hb
   exact hnew _ b hi
 cases gs with
 |nil=>simp at hgl;omega
 |cons g' gs=>
  have:=hto 0 g hpos (by simpa using hg);have:g'=g:=(by injection this);subst this;exact h w g' gs hU
theorem ObjsAt.later {w w':World} {gs:List Nat} {U:List Ow} (hob:zaj U.length U) (h:ObjsAt w gs U) (hs:w.heap.size≤w'.heap.size) (hk:∀ g∈gs,w'.heap[g]?=w.heap[g]?):ObjsAt w' gs U:=
 ⟨h.len,h.nodup,fun g hg=>Nat.lt_of_lt_of_le (h.lt g hg) hs,fun i o ho=>by
  have h1:=h.own i o ho;have h2:=hob o (List.mem_of_getElem? ho)
  cases o with
  |cells t l=>
   obtain ⟨b,us,e1,e2,e3⟩:=h1;exact ⟨b,us,e1,by rw [hk b (List.mem_of_getElem? (show gs[i]?=some b from e1))];exact e2,e3⟩
  |row=>exact h2.elim
  |ext=>exact h2.elim
  |view=>exact h2.elim
  |gone=>exact h2.elim⟩
theorem ObjsAt.below {w w':World} {gs:List Nat} {U:List Ow} (hob:zaj U.length U) (h:ObjsAt w gs U) (hB:Below w.heap.size w w'):ObjsAt w' gs U:=
 h.later hob hB.size fun g hg=>hB.block g (h.lt g hg)
def zo4 (P:Program) (w0:World) (G:Gs) (N:Nd) (ops:Array Oper):List Oper→Fr→List Ow→(Fr→List Ow→Prop)→Prop
 |[],f,S,K=>K f S
 |o::l,f,S,K=>match o.guard with
  |none=>opK P w0 G N o f S fun f' S'=>zo4 P w0 G N ops l f' S' K
  |some (j,pol)=>(match z6m ops j with
   |none=>False
   |some d=>(match f.get d with
    | .p (.c (.v (.bool x)))=>(x=pol→opK P w0 G N o ((d,one (.bool pol))::f) S fun f' S'=>zo4 P w0 G N ops l f' S' K)∧
      (x=(!pol)→match zi8 N.n o.dst with|true=>(Fr.putK ((d,one (.bool (!pol)))::f) o.dst (one undef) fun f'=>zo4 P w0 G N ops l f' S K)|false=>False)
    | .p (.c (.v (.tuple _)))=>(match zi8 N.n o.dst with|true=>(f.putK o.dst (one undef) fun f'=>zo4 P w0 G N ops l f' S K)|false=>False)
    |_=>False))
section
variable {P:Program} {w0:World} {G:Gs} {N:Nd} {c d:Code} {f:Fr} {S:List Ow} {Q:Exit→Act→World→Prop}
theorem zo5 {ops:Array Oper} {Q:Act→World→Prop}:∀ (l:List Oper) (f:Fr) (S:List Ow) (K:Fr→List Ow→Prop),zo4 P w0 G N ops l f S K→(∀ f' S' a' w',K f' S'→Good w0 G N f' S' a' w'→Q a' w')→
  ∀ a w,Good w0 G N f S a w→seL P ops Q l a w
 |[],f,S,K,h,hK,a,w,hg=>hK _ _ _ _ h hg
 |o::l,f,S,K,h,hK,a,w,hg=>by
  unfold zo4 at h
  split at h
  ·rename_i hgd
   obtain ⟨r,hR,hf,hN,hd⟩:=hg;exact z7g (yal hgd _) ((zwx h).out r a w hR hf hN hd _ (fun _ _ _=>True) fun f' S' a' w' hk hg'=>zo5 l f' S' K hk hK a' w' hg')
  ·rename_i j pol hgd
   split at h
   ·exact h.elim
   ·rename_i d hs
    split at h
    ·rename_i x hfx
     obtain ⟨h1,h2⟩:=h;by_cases hx:x=pol
     ·obtain ⟨r,hR,hf,hN,hd⟩:=hg.known (d:=d) (x:=one (.bool pol)) (by rw [hfx,hx])
      refine z7g ?_ ((zwx (h1 hx)).out r a w hR hf hN hd _ (fun _ _ _=>True) fun f' S' a' w' hk hgd=>zo5 l f' S' K hk hK a' w' hgd);rw [yam hgd,ybw hf hs (zol d _ f)];simp
     ·have hx':x= !pol:=by cases x<;>cases pol<;>simp_all
      have h2:=h2 hx';obtain ⟨r,hR,hf,hN,hd⟩:=hg.known (d:=d) (x:=one (.bool (!pol))) (by rw [hfx,hx'])
      split at h2
      ·rename_i hdst
       refine z7i ?_ (zo5 l _ S K (zze.1 h2) hK _ _ ⟨r,hR,hf.put (ziz _ _) (by rw [hN];exact hdst),(zzq a _ _).trans hN,(zzn a _ _).trans hd⟩)
       rw [yam hgd,ybw hf hs (zol d _ f)];cases pol<;>simp
      ·exact h2.elim
    ·rename_i vs hfx
     obtain ⟨r,hR,hf,hN,hd⟩:=hg;have hgu:zo0 ops f o=some false:=(by unfold zo0;rw [hgd];dsimp only;rw [hs];dsimp only;rw [hfx]);have hw:=zo1 hf hgu
     split at h
     ·rename_i hdst
      exact z7i hw (zo5 l _ S K (zze.1 h) hK _ _ ⟨r,hR,hf.put (ziz _ _) (by rw [hN];exact hdst),(zzq a _ _).trans hN,(zzn a _ _).trans hd⟩)
     ·exact h.elim
    ·exact h.elim
theorem zb5 {fn:Func} {N:Nat} {R:Ending→World→Prop} (h:resK P w0 G S f fn.results.toList fun v=>Fin w0 G S v R):AtQ w0 G ⟨N,[]⟩ .normal f S (bodyPostM Fence.wide 10 P fn R):=by
 refine ⟨fun a w ⟨r,hR,hf,hN,hd⟩=>?_⟩;obtain ⟨v,u,hK,hdn,hrun⟩:=z11 h hR hf;show LeavesInM _ _ _ _ _ _ a.defers _ _;rw [show a.defers=[] from hd];exact ⟨u,hrun,hK.out r w u hR hdn⟩
end
section
variable (ro:Option Nat) (P:Program) (w0:World) (G:Gs) (N:Nd)
def vcN:Code→Fr→List Ow→(Exit→Fr→List Ow→Prop)→Prop
 | .skip,f,S,K=>K .normal f S
 | .region id ops draw,f,S,K=>(match draw with
  |false=>zo4 P w0 G N ops ops.toList f S (K .normal)
  |true=>Sat ro P w0 G N (.region id ops true) f S K)
 | .seq a b,f,S,K=>vcN a f S fun e f' S'=>match e with| .normal=>vcN b f' S' K|e=>K e f' S'
 | .cond c x y,f,S,K=>(match f.ev c with
  | .p (.c (.v (.bool t)))=>(t=true→vcN x f S K)∧(t=false→vcN y f S K)
  |_=>False)
 | .block id body,f,S,K=>vcN body f S fun e f' S'=>match e with
  | .exit id'=>(match Nat.beq id' id with|true=>K .normal f' S'|false=>K (.exit id') f' S')
  |e=>K e f' S'
 | .exit id,f,S,K=>K (.exit id) f S
 | .ret,f,S,K=>K .ret f S
 |c,f,S,K=>Sat ro P w0 G N c f S K
end
section
variable {ro:Option Nat} {P:Program} {w0:World} {G:Gs} {N:Nd}
theorem yaj:∀ (c:Code) (f:Fr) (S:List Ow) (K:Exit→Fr→List Ow→Prop),vcN ro P w0 G N c f S K→Sat ro P w0 G N c f S K
 | .skip,f,S,K,h=>⟨fun n a w hg=>wpIn_skip ⟨f,S,h,hg⟩⟩
 | .region id ops draw,f,S,K,h=>by
  cases draw with
  |false=>exact ⟨fun n a w hg=>wpIn_region_list (z30 ro n (zo5 _ f S _ h (fun f' S' a' w' hk hg'=>⟨f',S',hk,hg'⟩) a w hg))⟩
  |true=>exact h
 | .seq x y,f,S,K,h=>⟨fun n a w hg=>wpIn_seq (wpIn_mono ((yaj x f S _ h).out n a w hg) (fun e a' w' ⟨f',S',hk,hg'⟩=>by
   cases e with
   |normal=>exact (yaj y f' S' K hk).out n a' w' hg'
   |exit id=>exact ⟨f',S',hk,hg'⟩
   |goto l=>exact ⟨f',S',hk,hg'⟩
   |ret=>exact ⟨f',S',hk,hg'⟩
   |panic ch=>exact ⟨f',S',hk,hg'⟩
   |outgrown=>exact ⟨f',S',hk,hg'⟩))⟩
 | .cond c x y,f,S,K,h=>⟨fun n a w hg=>by
   unfold vcN at h
   split at h
   ·rename_i t ht
    obtain ⟨r,hR,hf,hN,hd⟩:=hg;have hc:=hf.ev c;rw [ht] at hc;have hc:=zi2 hc;refine wpIn_cond_split hc (fun e=>(yaj x f S K (h.1 e)).out n a w ⟨r,hR,hf,hN,hd⟩) (fun e=>(yaj y f S K (h.2 e)).out n a w ⟨r,hR,hf,hN,hd⟩)
   ·exact h.elim⟩
 | .block id c,f,S,K,h=>⟨fun n a w hg=>wpIn_block (wpIn_mono ((yaj c f S _ h).out n a w hg) (fun e a' w' ⟨f',S',hk,hg'⟩=>by
   cases e with
   |exit id'=>
    simp only [Exit.inBlock];by_cases hi:id'=id
    ·subst hi;simp only [Nat.beq_refl] at hk;rw [if_pos rfl];exact ⟨f',S',hk,hg'⟩
    ·have hb:Nat.beq id' id=false:=by
      cases h2:Nat.beq id' id
      ·rfl
      ·exact absurd (Nat.eq_of_beq_eq_true h2) hi
     simp only [hb] at hk;rw [if_neg hi];exact ⟨f',S',hk,hg'⟩
   |normal=>exact ⟨f',S',hk,hg'⟩
   |goto l=>exact ⟨f',S',hk,hg'⟩
   |ret=>exact ⟨f',S',hk,hg'⟩
   |panic ch=>exact ⟨f',S',hk,hg'⟩
   |outgrown=>exact ⟨f',S',hk,hg'⟩))⟩
 | .loop c,f,S,K,h=>h
 | .exit id,f,S,K,h=>⟨fun n a w hg=>wpIn_exit ⟨f,S,h,hg⟩⟩
 | .ret,f,S,K,h=>⟨fun n a w hg=>wpIn_ret ⟨f,S,h,hg⟩⟩
 | .rangeFunc _ _ _ _,f,S,K,h=>h
 | .scope _,f,S,K,h=>h
 | .label _,f,S,K,h=>h
 | .goto _,f,S,K,h=>h
 | .refuse _,f,S,K,h=>h
end
section
variable {P:Program} {w0:World} {G:Gs} {N:Nd} {c d:Code} {f:Fr} {S:List Ow} {Q:Exit→Act→World→Prop}
theorem z3u (h:vcN none P w0 G N c f S fun e f S=>AtQ w0 G N e f S Q):SatQ P w0 G N c f S Q:=
 ⟨fun a w hg=>wpIn_mono ((yaj (ro:=none) c f S _ h).out 10 a w hg) fun _e a' w' ⟨_f',_S',hk,hg'⟩=>hk.out a' w' hg'⟩
theorem z3q (h:vcN none P w0 G N c f S fun e f S=>match e with| .normal=>SatQ P w0 G N d f S Q|e=>AtQ w0 G N e f S Q):SatQ P w0 G N (.seq c d) f S Q:=
 ⟨fun a w hg=>wpIn_seq (wpIn_mono ((yaj (ro:=none) c f S _ h).out 10 a w hg) fun e a' w' ⟨f',S',hk,hg'⟩=>by
  cases e with
  |normal=>exact hk.out a' w' hg'
  |exit id=>exact hk.out a' w' hg'
  |goto l=>exact hk.out a' w' hg'
  |ret=>exact hk.out a' w' hg'
  |panic ch=>exact hk.out a' w' hg'
  |outgrown=>exact hk.out a' w' hg')⟩
end
theorem zd8 {P:Program} {fn:Func} {w0:World} {G:Gs} {N:Nat} {R:Ending→World→Prop} {e:Exit} {f:Fr} {S:List Ow} (h:RetK P w0 G fn.results.toList R e f S):AtQ w0 G ⟨N,[]⟩ e f S (bodyPostM Fence.wide 10 P fn R):=by
 cases e with
 |normal=>exact zb5 h
 |ret=>exact zcg h
 |exit id=>exact h.elim
 |goto l=>exact h.elim
 |panic ch=>exact h.elim
 |outgrown=>exact h.elim
theorem zfj {P:Program} {fid:FuncId} {fn:Func} {c:Code} {N:Nat} {w0:World} (xs:List Value) (hf:P.funcs[fid]?=some fn) (hN:fn.ntmps=N) (hb:fn.body=some c) (hle:xs.length≤N) {R:Ending→World→Prop}
  (h:vcN none P w0 Gs.nil ⟨N,[]⟩ c (zb1 (xs.map fun x=>AV.of x) 0) [] (RetK P w0 Gs.nil fn.results.toList R)):Calls P fid xs.toArray w0 R:=
 zfg xs hf hN hb hle ⟨fun a w hg=>wpIn_mono ((yaj (ro:=none) c _ _ _ h).out 10 a w hg) fun _e a' w' ⟨_f',_S',hk,hg'⟩=>(zd8 hk).out a' w' hg'⟩
def Pc.plB:Pc→Bool
 | .c x=>x.fx (fun _=>false)
 | .agg l=>fxL (fun _=>false) l
def pplL:List Pc→Bool
 |[]=>true
 |c::l=>match c.plB with|true=>pplL l|false=>false
def AV.plB:AV→Bool
 | .p x=>x.plB
 | .tup l=>pplL l
def plF:Fr→Fr
 |[]=>[]
 |(d,x)::f=>match x.plB with|true=>(d,x)::plF f|false=>(d,.p (.c .any))::plF f
theorem Pc.den_pl {r r':Env}:∀ {c:Pc} {u:Value},c.plB=true→c.den r u→c.den r' u
 | .c x,u,hp,hd=>CV.den_fx (ok:=fun _=>false) (fun i b hi=>by cases hi) hp hd
 | .agg l,u,hp,hd=>by obtain ⟨us,hu,hl⟩:=hd;exact ⟨us,hu,zij (ok:=fun _=>false) (fun i b hi=>by cases hi) hp hl⟩
theorem zyp {r r':Env}:∀ {l:List Pc} {us:List Value},pplL l=true→zyk r l us→zyk r' l us
 |[],us,_,hd=>hd
 |c::l,us,hp,hd=>by
  unfold pplL at hp
  split at hp
  ·rename_i hc
   obtain ⟨u,l',hu,h1,h2⟩:=hd;exact ⟨u,l',hu,Pc.den_pl hc h1,zyp hp h2⟩
  ·cases hp
theorem AV.den_pl {r r':Env}:∀ {x:AV} {u:Value},x.plB=true→x.den r u→x.den r' u
 | .p x,u,hp,hd=>Pc.den_pl hp hd
 | .tup l,u,hp,hd=>by obtain ⟨us,hu,hl⟩:=hd;exact ⟨us,hu,zyp hp hl⟩
theorem zyv {r r':Env} {f:Fr} {a:Act} (hf:FDen r f a):FDen r' (plF f) a:=by
 have key:∀ f:Fr,∀ k u,(f.get k).den r u→((plF f).get k).den r' u:=by
  intro f
  induction f with
  |nil=>intro k u _;simp [plF,Fr.get,AV.den,Pc.den,CV.den]
  |cons p f ih=>
   obtain ⟨d,x⟩:=p;intro k u h;unfold plF
   cases hx:x.plB<;>cases hk:Nat.beq d k<;>simp only [Fr.get,hk] at h⊢
   ·exact ih k u h
   ·simp [AV.den,Pc.den,CV.den]
   ·exact ih k u h
   ·exact AV.den_pl hx h
 exact fun k=>key f k _ (hf k)
structure Jmp (P:Program) (w0:World) (G:Gs) (fid:FuncId) (args:List AV) (S:List Ow) (K:Value→World→Prop):Prop where
 ok:fnOk P fid=true
 out:∀ r w us,Rel w0 G S r w→zc1 r args us→Calls P fid us.toArray w fun e w'=>∃ u,e= .returned u∧K u w'
def jmpK (P:Program) (w0:World) (G:Gs) (o:Oper) (f:Fr) (S:List Ow) (K:Value→World→Prop):Prop:=
 match o.op with
 | .call ⟨.value fn,args,_⟩=>(match f.ev fn with
  | .p (.c (.clo (.func fid) cap))=>evL f args.toList fun vs=>Jmp P w0 G fid (vs++cap.map fun c=> .p (.c c)) S K
  | .p (.c (.v (.func (.func fid) first cap)))=>(match first.toList with
   |[]=>evL f args.toList fun vs=>Jmp P w0 G fid (vs++cap.toList.map fun c=>AV.of c) S K
   |_=>False)
  |_=>False)
 |_=>False
section
variable {P:Program} {w0:World} {G:Gs} {N:Nd} {c d:Code} {f:Fr} {S:List Ow} {Q:Exit→Act→World→Prop}
theorem zr3 {o:Oper} {K:Value→World→Prop} (h:jmpK P w0 G o f S K) {r:Env} {w:World} (hR:Rel w0 G S r w) {a:Act} (hf:FDen r f a) {next:Act→World→Prop} (hK:∀ u w',K u w'→next (a.put o.dst u) w'):Oper.se P o a w next:=by
 unfold jmpK at h
 split at h
 ·rename_i fn args tys hop
  have hfn:=hf.ev fn
  split at h
  ·rename_i fid cap he
   rw [he] at hfn;obtain ⟨us,hu,hcap⟩:=ziw hfn;rw [zkp] at h;obtain ⟨hok,hc⟩:=h
   have hrun:(execOp a.eval o).run P w= .ok (.enter fid ((args.map a.eval)++us.toArray)) w:=by
    simp [execOp,hop,resolve,Deferred.ofValue,hu,invoke,z2h hok]
   refine ybf hrun ?_;have:=hc r w ((args.toList.map a.eval)++us) hR (zc2 (zc4 hf _) (zc3 hcap));rw [show ((args.toList.map a.eval)++us).toArray=(args.map a.eval)++us.toArray by apply Array.ext';simp] at this
   exact Calls.mono this fun e w' ⟨u,he,hk⟩=>⟨u,he,hK u w' hk⟩
  ·rename_i fid first cap he
   rw [he] at hfn;have hu:=zi2 hfn
   split at h
   ·rename_i hfst
    have ef:first= #[]:=Array.ext' hfst;rw [zkp] at h;obtain ⟨hok,hc⟩:=h
    have hrun:(execOp a.eval o).run P w= .ok (.enter fid ((args.map a.eval)++cap)) w:=by
     simp [execOp,hop,resolve,Deferred.ofValue,hu,ef,invoke,z2h hok]
    refine ybf hrun ?_;have:=hc r w ((args.toList.map a.eval)++cap.toList) hR (zc2 (zc4 hf _) (zc6 _));rw [show ((args.toList.map a.eval)++cap.toList).toArray=(args.map a.eval)++cap by apply Array.ext';simp] at this
    exact Calls.mono this fun e w' ⟨u,he,hk⟩=>⟨u,he,hK u w' hk⟩
   ·exact h.elim
  ·exact h.elim
 ·exact h.elim
theorem z3f {id:Nat} {ops:Array Oper} (k:Nat) {o:Oper} (hk:ops.toList.drop k=o::ops.toList.drop (k+1)) (hg:o.guard=none) (hdst:zi8 N.n o.dst=true)
  (h:zo4 P w0 G N ops (ops.toList.take k) f S fun f1 S1=>jmpK P w0 G o f1 S1 fun u w'=>zo4 P w' Gs.nil N ops (ops.toList.drop (k+1)) ((plF f1).put o.dst (AV.of u)) [] fun f2 S2=>AtQ w' Gs.nil N .normal f2 S2 Q):SatQ P w0 G N (.region id ops false) f S Q:=
 ⟨fun a w hgd=>wpIn_region_list (ybc none 10 k (zo5 (Q:=fun a w=>∃ f1 S1,(jmpK P w0 G o f1 S1 fun u w'=>zo4 P w' Gs.nil N ops (ops.toList.drop (k+1)) ((plF f1).put o.dst (AV.of u)) [] fun f2 S2=>AtQ w' Gs.nil N .normal f2 S2 Q)∧Good w0 G N f1 S1 a w) _ f S _ h (fun f' S' a' w' hk' hg'=>⟨f',S',hk',hg'⟩) a w hgd) (by
  rintro a w ⟨f1,S1,hj,r,hR,hf,hN,hd⟩;rw [hk];unfold wpListIn;rw [if_pos (yal hg _)];refine z32 none 10 (next:=fun a w=>wpListIn (zlq none) 10 P ops Q (ops.toList.drop (k+1)) a w) (zr3 hj hR hf fun u w' hq=>?_) (fun a w h=>h)
  exact z30 none 10 (zo5 _ _ _ _ hq (fun f' S' a' w' hk' hg'=>hk'.out a' w' hg') _ _ ⟨Env.none,z1w w',(zyv hf).put (AV.of_den _ _) (by rw [hN];exact hdst),(zzq a _ _).trans hN,(zzn a _ _).trans hd⟩)))⟩
def zan {α:Type} (N:Nd) (T:α→Fr) (J:α→World→Prop) (m:α→Nat) (n:Nat) (Q:Exit→Act→World→Prop):Exit→Act→World→Prop:=fun e a w=>match e with
 | .normal=>∃ y,FDen Env.none (T y) a∧a.tmps.size=N.n∧a.defers=N.ds∧J y w∧m y<n
 |e=>Q e a w
theorem z3i {α:Type} (T:α→Fr) (J:α→World→Prop) (m:α→Nat) (x0:α) (h0:∀ r w,Rel w0 G S r w→(∀ a,FDen r f a→FDen Env.none (T x0) a)∧J x0 w) (hround:∀ x w,J x w→SatQ P w Gs.nil N c (T x) [] (zan N T J m (m x) Q)):SatQ P w0 G N (.loop c) f S Q:=by
 refine ⟨fun a w hg=>?_⟩;intro b k cs hro hb hr
 have key:∀ (n:Nat) (x:α),m x=n→∀ a w,J x w→FDen Env.none (T x) a→a.tmps.size=N.n→a.defers=N.ds→∃ e a' w',Q e a' w'∧ArrivesIn (Machine.fenced P Fence.wide) P (lone (b.atR a (.code c:: .inLoop c::k)) cs w) b k cs e a' w':=by
  intro n
  induction n using Nat.strongRecOn with
  |_ n ih=>
   intro x hx a w hJ hf hN hd;obtain ⟨e,a',w',hq,harr⟩:=(hround x w hJ).out a w ⟨Env.none,z1w w,hf,hN,hd⟩ b (.inLoop c::k) cs hro hb hr
   cases e with
   |normal=>
    obtain ⟨y,hf',hN',hd',hJ',hlt⟩:=hq;obtain ⟨e2,a2,w2,hq2,harr2⟩:=ih (m y) zO y rfl a' w' hJ' hf' hN' hd';exact ⟨e2,a2,w2,hq2,.of_steps (StepsIn.trans harr (.one (fenced_calm hb hr rfl) stepR_inLoop)) harr2⟩
   |exit id=>exact ⟨_,a',w',hq,.pass (x:= .inLoop c) rfl (fun _ _=> .inl zS) harr⟩
   |goto l=>exact ⟨_,a',w',hq,.pass (x:= .inLoop c) rfl (fun _ _=> .inl zS) harr⟩
   |ret=>exact ⟨_,a',w',hq,.pass (x:= .inLoop c) rfl (fun _ _=> .inl zS) harr⟩
   |panic ch=>exact ⟨_,a',w',hq,.pass (x:= .inLoop c) rfl (fun _ _=> .inl zS) harr⟩
   |outgrown=>exact ⟨_,a',w',hq,.pass (x:= .inLoop c) rfl (fun _ _=> .inl zS) harr⟩
 obtain ⟨r,hR,hf,hN,hd⟩:=hg;obtain ⟨h1,h2⟩:=h0 r w hR;obtain ⟨e,a',w',hq,harr⟩:=key _ x0 rfl a w h2 (h1 a hf) hN hd;exact ⟨e,a',w',hq,.of_steps (.one (fenced_calm hb hr rfl) stepR_loop) harr⟩
theorem zcc {α:Type} {T:α→Fr} {J:α→World→Prop} {m:α→Nat} {n:Nat} (y:α) (hf:FLe (plF f) (T y)) (hJ:∀ r w,Rel w0 G S r w→J y w) (hm:m y<n):AtQ w0 G N .normal f S (zan N T J m n Q):=
 ⟨fun _a w ⟨r,hR,hfd,hN,hd⟩=>⟨y,hf.den (zyv hfd),hN,hd,hJ r w hR,hm⟩⟩
theorem zcf {α:Type} {T:α→Fr} {J:α→World→Prop} {m:α→Nat} {n:Nat} {id:Nat} (h:AtQ w0 G N (.exit id) f S Q):AtQ w0 G N (.exit id) f S (zan N T J m n Q):=⟨fun a w hg=>h.out a w hg⟩
end
theorem z4t (n:Int):sgnW n 12=if 2048≤n%4096 then n%4096+4294963200 else n%4096:=rfl
theorem z5k (n:Int) (b:Nat) (w:World) (hn:word n) (hb:sbits b):Calls Tryz.prog 86 #[.int .u32 n,.int .i64 (b:Int)] w fun e w'=>e= .returned (.int .u32 (sgnW n b))∧Below w.heap.size w w':=by
 have hn2:=hn;obtain ⟨h0,h1⟩:=hn
 have key:∀ (B H:Int),n.tmod B=n%B→(IntKind.u32.wrap (1*2^(min (b:Int).toNat IntKind.u32.bits))=B)→(IntKind.i64.wrap ((b:Int)-1)=(b:Int)-1)→(IntKind.u32.wrap (1*2^(min ((b:Int)-1).toNat IntKind.u32.bits))=H)→(1≤(b:Int)∧(b:Int)<32)→B≠0→
   (∀ x:Int,x=n%B→sgnW n b=if H≤x then IntKind.u32.wrap (x-B) else x)→Calls Tryz.prog 86 #[.int .u32 n,.int .i64 (b:Int)] w fun e w'=>e= .returned (.int .u32 (sgnW n b))∧Below w.heap.size w w':=by
  intro B H hm hB hb1 hH hbr hB0 hs;refine zfi [.int .u32 n,.int .i64 (b:Int)] Tryz.func86 Tryz.ntmps86 rfl zS ?_;(conv=>whnf);refine ⟨fun hc=>absurd hc zV,fun _=>?_⟩;(conv=>whnf);refine ⟨fun hc=>absurd hc zV,fun _=>?_⟩;(conv=>whnf);refine ⟨by omega,B,hB,?_⟩;(conv=>whnf);refine ⟨hB0,n%B,hm,?_⟩;(conv=>whnf);refine ⟨_,hb1,?_⟩;(conv=>whnf);refine ⟨by omega,H,hH,?_⟩;(conv=>whnf);refine ⟨fun hc=>?_,fun hc=>?_⟩
  ·conv=>whnf
   refine ⟨by omega,B,hB,?_⟩;(conv=>whnf);refine ⟨_,rfl,?_⟩;(conv=>whnf)
   refine zmj rfl fun w' hB=>⟨?_,hB⟩
   have:H≤n%B:=(by simpa using hc);rw [hs _ rfl,if_pos this]
  ·conv=>whnf
   refine zmj rfl fun w' hB=>⟨?_,hB⟩
   have:¬H≤n%B:=(by simpa using hc);rw [hs _ rfl,if_neg this]
 rcases hb with rfl|rfl|rfl
 ·refine key 4096 2048 (Int.tmod_eq_emod_of_nonneg h0) (by decide) (by decide) (by decide) zO zO fun x hx=>?_
  rw [z4t, ← hx];split
  ·rw [wr32];omega
  ·rfl
 ·refine key 262144 131072 (Int.tmod_eq_emod_of_nonneg h0) (by decide) (by decide) (by decide) zO zO fun x hx=>?_
  rw [z4u, ← hx];split
  ·rw [wr32];omega
  ·rfl
 ·refine key 4194304 2097152 (Int.tmod_eq_emod_of_nonneg h0) (by decide) (by decide) (by decide) zO zO fun x hx=>?_
  rw [z4v, ← hx];split
  ·rw [wr32];omega
  ·rfl
theorem z4x (n:Int) {b:Nat} (hb:sbits b):word (sgnW n b):=by
 rcases hb with rfl|rfl|rfl
 ·rw [z4t];unfold word;split<;>omega
 ·exact z4y n (.inr (.inl rfl)) zO
 ·exact z4y n (.inr (.inr rfl)) zO
theorem zmx (n:Int) (b:Nat) (w:World) (hn:word n) (hb:sbits b):Calls Tryz.prog 154 #[.int .u32 n,.int .i64 (b:Int)] w fun e w'=>e= .returned (.bool (decide (sgnW n b=n)))∧Below w.heap.size w w':=by
 refine zfi [.int .u32 n,.int .i64 (b:Int)] Tryz.func154 Tryz.ntmps154 rfl zS ?_
 conv=>whnf
 refine ze2 rfl zK (fun r w' _=>z5k n b w' hn hb) ?_
 conv=>whnf
 exact zmj rfl fun w' hB=>⟨rfl,hB⟩
theorem ybl {n:Int} (h:word n):IntKind.i32.wrap n=z5m n:=by
 unfold word at h
 have e:IntKind.i32.wrap n=if (true&&decide (n%4294967296≥2147483648))=true then n%4294967296-4294967296 else n%4294967296:=rfl
 rw [e];unfold z5m;have hm:n%4294967296=n:=(by omega);rw [hm];by_cases hc:2147483648≤n
 ·rw [if_pos hc,if_pos zV]
 ·rw [if_neg hc,if_neg zV]
theorem z5l (n:Int) (b:Nat) (w:World) (hn:word n) (hb:b=18∨b=22):Calls Tryz.prog 194 #[.int .u32 n,.int .i64 (b:Int)] w fun e w'=>e= .returned (.int .u32 (sgnW n b))∧Below w.heap.size w w':=by
 have key:∀ (k:Int),(IntKind.i64.wrap (32-(b:Int))=k)→0≤k→(1≤(b:Int)∧(b:Int)<32)→
   (IntKind.u32.wrap ((IntKind.i32.wrap (IntKind.u32.wrap (n*2^(min k.toNat IntKind.u32.bits)))).fdiv (2^(min k.toNat IntKind.i32.bits)))=sgnW n b)→Calls Tryz.prog 194 #[.int .u32 n,.int .i64 (b:Int)] w fun e w'=>e= .returned (.int .u32 (sgnW n b))∧Below w.heap.size w w':=by
  intro k hk hk0 hbr hs;refine zfi [.int .u32 n,.int .i64 (b:Int)] Tryz.func194 Tryz.ntmps194 rfl zS ?_;(conv=>whnf);refine ⟨fun hc=>absurd hc zV,fun _=>?_⟩;(conv=>whnf);refine ⟨fun hc=>absurd hc zV,fun _=>?_⟩;(conv=>whnf);refine ⟨k,hk,?_⟩;(conv=>whnf);refine ⟨hk0,_,rfl,?_⟩;(conv=>whnf);refine ⟨_,rfl,?_⟩;(conv=>whnf);refine ⟨k,hk,?_⟩;(conv=>whnf);refine ⟨hk0,_,rfl,?_⟩;(conv=>whnf);refine ⟨_,rfl,?_⟩;(conv=>whnf)
  exact zmj rfl fun w' hB=>⟨by rw [← hs],hB⟩
 rcases hb with rfl|rfl
 ·refine key 14 (by decide) zO zO ?_
  rw [show (min (14:Int).toNat IntKind.u32.bits)=14 from rfl,show (min (14:Int).toNat IntKind.i32.bits)=14 from rfl,show (2:Int)^14=16384 from rfl,wr32,wr32,ybl (by unfold word;omega),Int.fdiv_eq_ediv_of_nonneg _ zO];exact z4z n hn
 ·refine key 10 (by decide) zO zO ?_
  rw [show (min (10:Int).toNat IntKind.u32.bits)=10 from rfl,show (min (10:Int).toNat IntKind.i32.bits)=10 from rfl,show (2:Int)^10=1024 from rfl,wr32,wr32,ybl (by unfold word;omega),Int.fdiv_eq_ediv_of_nonneg _ zO];exact z40 n hn
theorem zmz (n:Int) (b:Nat) (w:World) (hn:word n) (hb:b=18∨b=22):Calls Tryz.prog 170 #[.int .u32 n,.int .i64 (b:Int)] w fun e w'=>e= .returned (.bool (decide (sgnW n b=n)))∧Below w.heap.size w w':=by
 refine zfi [.int .u32 n,.int .i64 (b:Int)] Tryz.func170 Tryz.ntmps170 rfl zS ?_
 conv=>whnf
 refine ze2 rfl zK (fun r w' _=>z5l n b w' hn hb) ?_
 conv=>whnf
 exact zmj rfl fun w' hB=>⟨rfl,hB⟩
def CV.up (k:Nat):CV→CV
 | .v x=> .v x
 | .ref i o=> .ref (k+i) o
 | .vref i o=> .vref (k+i) o
 | .row i=> .row (k+i)
 | .sl i o n c=> .sl (k+i) o n c
 | .mp i=> .mp (k+i)
 | .clo _ _=> .any
 | .any=> .any
def Ow.up (k:Nat):Ow→Ow
 | .cells t l=> .cells t (l.map (CV.up k))
 | .row e size n xs=> .row e size n xs
 | .ext φ=> .ext φ
 |_=> .gone
end Go.Proofs.YtocafomnnkmjfaaGreat
