import Derived.Test.YtocafomnnkmjfaaGreatK19
set_option maxRecDepth 100000
set_option maxHeartbeats 1000000
namespace Go.Proofs.YtocafomnnkmjfaaGreat
open Go.RowKit
theorem zuh (M:MemP) (n p:Nat) (w:World) (g:Nat) (gs:List Nat) (hU:ObjsAt w (g::gs) (memS 0 n p M)):
  Calls Tryz.prog 49 #[.pointer (some ⟨g,0,none⟩)] w fun e w'=>e= .returned (intV (p:Int))∧ObjsAt w' (g::gs) (memS 0 n p M)∧GrownBys w w' (g::gs):=by
 obtain ⟨g0,g1,g2,g3,g4,g5,hg⟩:=z56 hU;injection hg with hg0 hgs;subst hgs;subst hg0;refine zfd [.p (.c (.ref 0 0))] [.pointer (some ⟨g,0,none⟩)] Tryz.func49 Tryz.ntmps49 rfl zS hU ⟨_,_,rfl,zix rfl,rfl⟩ ?_;(conv=>whnf)
 exact zmh rfl rfl (fun i o h=>h) (zt6 n p M) fun w' h1 h2=>⟨rfl,h1,h2⟩
def MemP.rightsAt (M:MemP) (q:Nat):Int:=(M.rights[q]?).getD 0
theorem zun (M:MemP) (n p:Nat) (q:Nat) (w:World) (g:Nat) (gs:List Nat) (hU:ObjsAt w (g::gs) (memS 0 n p M)) (hM:M.ok n p) (hq:q<p):
  Calls Tryz.prog 52 #[.pointer (some ⟨g,0,none⟩),intV (q:Int)] w fun e w'=>e= .returned (intV (M.rightsAt q))∧ObjsAt w' (g::gs) (memS 0 n p M)∧GrownBys w w' (g::gs):=by
 obtain ⟨g0,g1,g2,g3,g4,g5,hg⟩:=z56 hU;injection hg with hg0 hgs;subst hgs;subst hg0;refine zfd [.p (.c (.ref 0 0)),one (intV (q:Int))] [.pointer (some ⟨g,0,none⟩),intV (q:Int)] Tryz.func52 Tryz.ntmps52 rfl zS hU ⟨_,_,rfl,zix rfl,zc6 [intV (q:Int)]⟩ ?_;(conv=>whnf);refine ⟨decide ((q:Int)≥(p:Int)),fun _=>?_,?_⟩
 ·conv=>whnf
  exact ⟨rfl,rfl,rfl,rfl,zow _ _ _ _ _ _ _ _ _⟩
 conv=>whnf
 refine ⟨fun hc=>absurd hc (by simp [cmb];omega),fun _=>?_⟩
 conv=>whnf
 (refine ⟨⟨by omega,by omega⟩,?_⟩;(conv=>whnf))
 have hget:(List.map CV.v M.rV)[0+(q:Int).toNat*tsz Tryz.prog 3]?=some (.v (intV (M.rightsAt q))):=by
  show (List.map CV.v M.rV)[0+(q:Int).toNat*1]?=_
  obtain ⟨y,hy⟩:∃ y,M.rights[q]?=some y:=⟨_,List.getElem?_eq_getElem (by rw [hM.lr];omega)⟩
  rw [Nat.zero_add,Nat.mul_one,Int.toNat_natCast];unfold MemP.rightsAt;rw [hy];exact z8i hy
 rw [hget]
 conv=>whnf
 exact zmh rfl rfl (fun i o h=>h) (zt6 n p M) fun w' h1 h2=>⟨rfl,h1,h2⟩
def MemP.page (M:MemP) (q:Nat):List Int:=(M.data.drop (256*q)).take 256
theorem zyc {M:MemP} {n p q:Nat} (hM:M.ok n p) (hq:q<p):(M.page q).length=256:=by
 have:=hM.np;unfold MemP.page;rw [List.length_take,List.length_drop,hM.ld];omega
theorem z0d {P:Program} {w0:World} {G:Gs} {S:List Ow} {f:Fr} {o:Oper} {K:AV→Prop} {x:Operand} {src dst e:TypeId} {te:TypeId} {L:List CV} (i off n c:Nat) (m:List Int) (hop:o.op= .convert src dst x) (hs:P.underlying src=some (.slice e)) (he:P.underlying e=some (.int .u8)) (hd:P.underlying dst=some .string) (hx:f.ev x= .p (.c (.sl i off n c))) (hi:S[i]?=some (.cells te L)) (hm:(L.drop off).take n=(m.map (Value.int .u8)).map .v) (hn:m.length=n) (hk:K (one (strV m))):QRun P w0 G S f o K:=by
 refine ⟨_,hk,fun r a hf=>?_⟩;have h1:=hf.ev x;rw [hx] at h1;obtain ⟨b,hb,hu⟩:=zi1 h1;refine ⟨_,rfl,fun w hR=>?_⟩;obtain ⟨b',us,e1,e2,e3⟩:=hR.own i _ hi;rw [hb] at e1;injection e1 with e1;subst e1;have e4:=ziq n (zii off e3);rw [hm] at e4;have e5:=zis e4
 have hl:(loadCells ⟨b,off,none⟩ n).run P w= .ok (m.map (Value.int .u8)).toArray w:=by
  unfold loadCells
  have:=z2p (P:=P) (w:=w) (b:=b) (off:=off) n 0 #[] (m.map (Value.int .u8)) (by simp [hn]) (fun j u hj=>by
   rw [← e5,List.getElem?_take] at hj
   split at hj
   ·rw [List.getElem?_drop] at hj
    simpa [World.cell?,e2] using hj
   ·simp at hj)
  simpa using this
 simp [execOp,hop,hu,run_convert_bytes_string w src dst e _ n c hs he hd,run_bytesToString w _ n c m hl,strV,zeq]
theorem zyb {M:MemP} {n p q:Nat} (hM:M.ok n p) (hq:q<p):((M.dV.map CV.v).drop (256*q)).take 256=((M.page q).map (Value.int .u8)).map .v:=by
 have hnp:=hM.np;unfold MemP.dV MemP.page;rw [← List.map_drop, ← List.map_take,List.drop_append_of_le_length (by simp [hM.ld];omega),List.take_append_of_le_length (by simp [hM.ld];omega), ← List.map_drop, ← List.map_take]
theorem zug (M:MemP) (n p:Nat) (q:Nat) (w:World) (g:Nat) (gs:List Nat) (hU:ObjsAt w (g::gs) (memS 0 n p M)) (hM:M.ok n p) (hq:q<p):
  Calls Tryz.prog 80 #[.pointer (some ⟨g,0,none⟩),intV (q:Int)] w fun e w'=>e= .returned (strV (M.page q))∧ObjsAt w' (g::gs) (memS 0 n p M)∧GrownBys w w' (g::gs):=by
 obtain ⟨g0,g1,g2,g3,g4,g5,hg⟩:=z56 hU;injection hg with hg0 hgs;subst hgs;subst hg0;have hnp:=hM.np;have hpm:=hM.pmax;refine zfd [.p (.c (.ref 0 0)),one (intV (q:Int))] [.pointer (some ⟨g,0,none⟩),intV (q:Int)] Tryz.func80 Tryz.ntmps80 rfl zS hU ⟨_,_,rfl,zix rfl,zc6 [intV (q:Int)]⟩ ?_;(conv=>whnf);refine ⟨decide ((q:Int)≥(p:Int)),fun _=>?_,?_⟩
 ·conv=>whnf
  exact ⟨rfl,rfl,rfl,rfl,zow _ _ _ _ _ _ _ _ _⟩
 conv=>whnf
 refine ⟨fun hc=>absurd hc (by simp [cmb];omega),fun _=>?_⟩
 conv=>whnf
 refine ⟨(256*q:Nat),by rw [show (256:Int)*(q:Int)=((256*q:Nat):Int) by omega];exact wr64 zO,?_⟩
 conv=>whnf
 refine ⟨(256*q:Nat),by rw [show (256:Int)*(q:Int)=((256*q:Nat):Int) by omega];exact wr64 zO,?_⟩
 conv=>whnf
 refine ⟨(256*q+256:Nat),by rw [show ((256*q:Nat):Int)+(256:Int)=((256*q+256:Nat):Int) by omega];exact wr64 zO,?_⟩
 conv=>whnf
 refine zwy (z0q (size:=1) 1 0 n (n+M.td.length) (256*q) (256*q+256) rfl rfl rfl rfl rfl (.inr ⟨_,_,rfl,rfl⟩) (.inr ⟨_,_,rfl,rfl⟩) zO zO zO ?_) rfl
 conv=>whnf
 refine z0d (m:=M.page q) 1 (0+256*q*1) (256*q+256-256*q) (n+M.td.length-256*q) rfl rfl rfl rfl rfl rfl (by rw [show 0+256*q*1=256*q by omega,show 256*q+256-256*q=256 by omega];exact zyb hM hq) (by rw [zyc hM hq];omega) ?_
 conv=>whnf
 exact zmh rfl rfl (fun i o h=>h) (zt6 n p M) fun w' h1 h2=>⟨rfl,h1,h2⟩
def MemP.fetchV (M:MemP) (a:Int):Value:=if M.right a 4=true then valV (M.code a) 0 true else valV 0 a false
theorem zud (M:MemP) (n p:Nat) (a:Int) (w:World) (g:Nat) (gs:List Nat) (hU:ObjsAt w (g::gs) (memS 0 n p M)) (hM:M.ok n p) (ha:word a):
  Calls Tryz.prog 191 #[.pointer (some ⟨g,0,none⟩),.int .u32 a] w fun e w'=>e= .returned (M.fetchV a)∧ObjsAt w' (g::gs) (memS 0 n p M)∧GrownBys w w' (g::gs):=by
 obtain ⟨g0,g1,g2,g3,g4,g5,hg⟩:=z56 hU;injection hg with hg0 hgs;subst hgs;subst hg0;refine zfd [.p (.c (.ref 0 0)),one (.int .u32 a)] [.pointer (some ⟨g,0,none⟩),.int .u32 a] Tryz.func191 Tryz.ntmps191 rfl zS hU ⟨_,_,rfl,zix rfl,zc6 [.int .u32 a]⟩ ?_;(conv=>whnf);refine ze4 (pre:=[]) (suf:=[one (.int .u32 a),one (intV 4)]) 0 n p M (.bool (M.right a 4)) (fun i hi=>zt1 i hi) rfl rfl zK (fun w' g gs hk hU=>zum M n p a 4 w' g gs hU hM ha (.inr (.inr rfl))) ?_;unfold MemP.fetchV
 cases hr:M.right a 4 with
 |false=>
  refine kB ?_
  conv=>whnf
  exact zmh rfl rfl (fun i o h=>z74 i o h) (zt6 n p M) fun w' h1 h2=>⟨rfl,h1,h2⟩
 |true=>
  have hlt:=z18 hr;rw [hM.ld] at hlt
  have hcb:0≤M.code a∧M.code a<256:=by
   unfold MemP.code
   cases h:M.image[a.toNat]? with
   |none=>simp
   |some x=>exact hM.ib x (List.mem_of_getElem? h)
  refine kB ?_;(conv=>whnf);refine ze4 (pre:=[]) (suf:=[one (.int .u32 a)]) 0 n p M (.int .u8 (M.code a)) (fun i hi=>zt1 i hi) rfl rfl zK (fun w' g gs hk hU=>zua M n p a w' g gs hU hM ha hlt) ?_;(conv=>whnf);refine ⟨M.code a,by rw [wr32];omega,?_⟩;(conv=>whnf)
  exact zmh rfl rfl (fun i o h=>z74 i o h) (zt6 n p M) fun w' h1 h2=>⟨rfl,h1,h2⟩
def MemP.syncM (M:MemP) (a:Int):MemP:=if a<(M.data.length:Int) then M.syncTo (a/256*256).toNat 256 else M
theorem z78 {M:MemP} {n p:Nat} (hM:M.ok n p) (a:Int):(M.syncM a).ok n p:=by
 unfold MemP.syncM;split
 ·exact z8b hM _ _
 ·exact hM
theorem zup (M:MemP) (n p:Nat) (a:Int) (w:World) (g:Nat) (gs:List Nat) (hU:ObjsAt w (g::gs) (memS 0 n p M)) (hM:M.ok n p) (ha:word a):
  Calls Tryz.prog 90 #[.pointer (some ⟨g,0,none⟩),.int .u32 a] w fun e w'=>e= .returned (.bool (decide (a<(n:Int))))∧ObjsAt w' (g::gs) (memS 0 n p (M.syncM a))∧GrownBys w w' (g::gs):=by
 obtain ⟨g0,g1,g2,g3,g4,g5,hg⟩:=z56 hU;injection hg with hg0 hgs;subst hgs;subst hg0;have hnp:=hM.np;have hpm:=hM.pmax;have ha':=ha;obtain ⟨ha0,ha1⟩:=ha;refine zfd [.p (.c (.ref 0 0)),one (.int .u32 a)] [.pointer (some ⟨g,0,none⟩),.int .u32 a] Tryz.func90 Tryz.ntmps90 rfl zS hU ⟨_,_,rfl,zix rfl,zc6 [.int .u32 a]⟩ ?_;(conv=>whnf);refine ze4 (pre:=[]) (suf:=[one (.int .u32 a)]) 0 n p M (.bool (decide (a<(n:Int)))) (fun i hi=>by rw [Nat.zero_add]) rfl rfl zK (fun w' g gs hk hU=>zue M n p a w' g gs hU hM ha') ?_;(conv=>whnf);refine ⟨true,fun _=>?_,?_⟩
 ·conv=>whnf
  exact ⟨rfl,rfl,rfl,rfl,zow _ _ _ _ _ _ _ _ _⟩
 unfold MemP.syncM;rw [hM.ld];by_cases hlt:a<(n:Int)
 ·rw [if_pos hlt,show cmb true (decide (a<(n:Int))) true=true by simp [cmb,hlt]]
  obtain ⟨b,hb⟩:∃ b:Nat,(a/256*256).toNat=b:=⟨_,rfl⟩
  rw [hb];have hb2:(b:Int)=a/256*256:=(by omega);have hbn:b+256≤n:=(by omega);refine kB ?_;(conv=>whnf);refine ⟨a,wr64 zO,?_⟩;(conv=>whnf);refine ⟨by decide,a/256,by rw [Int.tdiv_eq_ediv_of_nonneg ha0];exact wr64 zO,?_⟩;(conv=>whnf);refine ⟨(b:Int),by rw [hb2];exact wr64 zO,?_⟩;(conv=>whnf)
  refine ⟨{j:Nat//j≤256},fun x=>[(0,.p (.c (.ref 0 0))),(5,one (.bool (decide (a<(n:Int))))),(6,one (intV (b:Int))),(7,one (intV ((b+x.1:Nat):Int)))],fun x=>memS 0 n p (M.syncTo b x.1),fun x=>256-x.1,
   ⟨⟨0,by omega⟩,zj7 rfl Tn Tn⟩,fun x=>?_⟩
  obtain ⟨j,hj⟩:=x;dsimp only;(conv=>whnf);refine ⟨(b+256:Nat),by rw [show (b:Int)+256=((b+256:Nat):Int) by omega];exact wr64 zO,?_⟩;(conv=>whnf);refine ⟨fun hc=>?_,fun hc=>?_⟩
  ·have hlt2:j<256:=by simp at hc;omega
   have hQ:=z8b hM b j;obtain ⟨hd,_⟩:=z79 M b j;have hnext:M.syncTo b (j+1)=(M.syncTo b j).setI (b+j) (M.get ((b+j:Nat):Int)):=rfl;generalize M.syncTo b j=Q at hQ hnext hd⊢;have hlenQ:n≤(List.map CV.v Q.iV).length:=z8j hQ.li;have hgb:=zok hQ (x:=((b+j:Nat):Int)) zO zO;have hge:Q.get ((b+j:Nat):Int)=M.get ((b+j:Nat):Int):=(by unfold MemP.get;rw [hd]);rw [hge] at hgb;(conv=>whnf);refine z27 13 mixed zK ?_;(conv=>whnf)
   (refine ⟨⟨by omega,by omega⟩,?_⟩;(conv=>whnf))
   rw [show (List.map CV.v Q.dV)[0+((b+j:Nat):Int).toNat*tsz Tryz.prog 5]?=some (.v (zem (M.get ((b+j:Nat):Int)))) by show (List.map CV.v Q.dV)[0+((b+j:Nat):Int).toNat*1]?=_;rw [Nat.zero_add,Nat.mul_one];exact hgb.1];(conv=>whnf)
   (refine ⟨⟨by omega,by omega⟩,?_⟩;(conv=>whnf))
   rw [show Nat.ble (0+((b+j:Nat):Int).toNat*tsz Tryz.prog 5+[CV.v (zem (M.get ((b+j:Nat):Int)))].length) (List.map CV.v Q.iV).length=true from Nat.ble_eq_true_of_le (by refine Nat.le_trans ?_ hlenQ;show 0+_*1+1≤n;omega)];(conv=>whnf);rw [show Nat.ble (List.map CV.v Q.iV).length 8=false from zdy zO];(conv=>whnf);refine ⟨((b+(j+1):Nat):Int),by rw [show ((b+j:Nat):Int)+1=((b+(j+1):Nat):Int) by omega];exact wr64 zO,?_⟩;(conv=>whnf)
   have hset:z38 (List.map CV.v Q.iV) (0+((b+j:Nat):Int).toNat*tsz Tryz.prog 5) [CV.v (zem (M.get ((b+j:Nat):Int)))]=List.map CV.v (M.syncTo b (j+1)).iV:=by
    rw [z4p,hnext];show List.map CV.v (Q.iV.set (0+((b+j:Nat):Int).toNat*1) _)=List.map CV.v ((Q.setI (b+j) _).iV);rw [Nat.zero_add,Nat.mul_one,Int.toNat_natCast, ← z4g Q _ (by rw [hQ.li];omega)]
   exact ⟨⟨j+1,by omega⟩,zj7 rfl Tn (aI ((aI rfl (Or.inl (by rw [hnext];rfl)))) (aI ((aI rfl (Or.inl (by rw [hnext];rfl)))) (aI ((aI rfl (Or.inl hset))) (aI ((aI rfl (Or.inl (by rw [hnext];rfl)))) (aI ((aI rfl (Or.inl (by rw [hnext];rfl)))) (aI ((aI rfl (Or.inl (by rw [hnext];rfl)))) trivial)))))),by show 256-(j+1)<256-j;omega⟩
  ·have hje:j=256:=by simp at hc;omega
   subst hje;(conv=>whnf);refine ⟨_,_,zj3,?_⟩;(conv=>whnf)
   exact zmh rfl rfl (fun i o h=>h) (zt6 n p _) fun w' h1 h2=>⟨rfl,h1,h2⟩
 ·rw [if_neg hlt,show cmb true (decide (a<(n:Int))) true=false by simp [cmb,hlt]]
  refine kB ?_
  conv=>whnf
  exact zmh rfl rfl (fun i o h=>h) (zt6 n p M) fun w' h1 h2=>⟨rfl,h1,h2⟩
structure Slt where
 d:Nat
 c:Nat
 od:Bool
 oc:Bool
 cd:Nat
 cc:Nat
 r:Int
abbrev ptrV (b:Nat):Value:= .pointer (some ⟨b,0,none⟩)
abbrev slotL (s:Slt):List Value:=[ptrV s.d,ptrV s.c,.bool s.od,.bool s.oc,ptrV s.cd,ptrV s.cc,intV s.r]
def z6t (l:List Slt):List Value:=l.flatMap slotL
structure PageAt (w:World) (b:Nat) (us:List Int):Prop where
 at_:w.heap[b]?=some (.cells (us.map zem).toArray 177 (0,0))
 len:us.length=256
 byte:∀ x∈us,0≤x∧x<256
structure MemAt2 (w:World) (B m sb:Nat) (l:List Slt) (img:Nat→List Int):Prop where
 hm:w.heap[m]?=some (.cells #[.slice (some ⟨sb,0,none⟩) l.length l.length,.bool false] 174 (0,0))
 hs:w.heap[sb]?=some (.cells (z6t l).toArray 179 (0,0))
 Bm:B≤m
 Bs:B≤sb
 dp:∀ s∈l,(∃ us,PageAt w s.d us)∧B≤s.d
 cp:∀ k s,l[k]?=some s→PageAt w s.c (img k)∧B≤s.c
 sep:∀ s∈l,∀ s'∈l,s.od=true→s.d≠s'.c
theorem PageAt.later {w w':World} {b:Nat} {us:List Int} (h:PageAt w b us) (hb:w'.heap[b]?=w.heap[b]?):PageAt w' b us:=⟨hb.trans h.at_,h.len,h.byte⟩
theorem zpt {w:World} {b:Nat} {o:Obj} (h:w.heap[b]?=some o):b<w.heap.size:=by
 rcases Nat.lt_or_ge b w.heap.size with h1|h1
 ·exact h1
 ·rw [Array.getElem?_eq_none h1] at h;cases h
theorem MemAt2.later {w w':World} {B m sb:Nat} {l:List Slt} {img:Nat→List Int} (h:MemAt2 w B m sb l img) (hB:Below w.heap.size w w'):MemAt2 w' B m sb l img:=by
 have key:∀ {b:Nat} {o:Obj},w.heap[b]?=some o→w'.heap[b]?=w.heap[b]?:=fun hb=>hB.block _ (zpt hb)
 exact ⟨(key h.hm).trans h.hm,(key h.hs).trans h.hs,h.Bm,h.Bs,fun s hs=>by obtain ⟨⟨us,hu⟩,hb⟩:=h.dp s hs;exact ⟨⟨us,hu.later (key hu.at_)⟩,hb⟩,
  fun k s hk=>by obtain ⟨hu,hb⟩:=h.cp k s hk;exact ⟨hu.later (key hu.at_),hb⟩,h.sep⟩
theorem zd1 {w:World} {b:Nat} {us:List Value} {t:TypeId} (h:w.heap[b]?=some (.cells us.toArray t (0,0))) {off:Nat} {x:Value} (hx:us[off]?=some x):zac w Gs.nil b off [x]:=
 zfs (zpt h) zS (by simp [World.cell?,h,hx])
section
variable {w:World} {B m sb:Nat} {l:List Slt} {img:Nat→List Int}
end
structure JmpG (P:Program) (w0:World) (G:Gs) (fid:FuncId) (args:List AV) (f:Fr) (S:List Ow) (K:AV→World→Gs→Fr→List Ow→Prop):Prop where
 ok:fnOk P fid=true
 out:∀ r w us,Rel w0 G S r w→zc1 r args us→Calls P fid us.toArray w fun e w'=>∃ u x w2 G2 f2 S2 r2,e= .returned u∧Rel w2 G2 S2 r2 w'∧(∀ a,FDen r f a→FDen r2 f2 a)∧x.den r2 u∧K x w2 G2 f2 S2
def zr1 (P:Program) (w0:World) (G:Gs) (o:Oper) (f:Fr) (S:List Ow) (K:AV→World→Gs→Fr→List Ow→Prop):Prop:=
 match o.op with
 | .call ⟨.value fn,args,_⟩=>(match f.ev fn with
  | .p (.c (.clo (.func fid) []))=>evL f args.toList fun vs=>JmpG P w0 G fid vs f S K
  |_=>False)
 |_=>False
section
variable {P:Program} {w0:World} {G:Gs} {N:Nd} {c d:Code} {f:Fr} {S:List Ow} {Q:Exit→Act→World→Prop}
theorem zr2 {o:Oper} {K:AV→World→Gs→Fr→List Ow→Prop} (h:zr1 P w0 G o f S K) {r:Env} {w:World} (hR:Rel w0 G S r w) {a:Act} (hf:FDen r f a) {next:Act→World→Prop} (hK:∀ u x w2 G2 f2 S2 r2 w',Rel w2 G2 S2 r2 w'→FDen r2 f2 a→x.den r2 u→K x w2 G2 f2 S2→next (a.put o.dst u) w'):Oper.se P o a w next:=by
 unfold zr1 at h
 split at h
 ·rename_i fn args tys hop
  have hfn:=hf.ev fn
  split at h
  ·rename_i fid he
   rw [he] at hfn;obtain ⟨us,hu,hcap⟩:=ziw hfn;simp only [denL] at hcap;subst hcap;rw [zkp] at h;obtain ⟨hok,hc⟩:=h
   have hrun:(execOp a.eval o).run P w= .ok (.enter fid (args.map a.eval)) w:=by
    simp [execOp,hop,resolve,Deferred.ofValue,hu,invoke,z2h hok]
   refine ybf hrun ?_;have:=hc r w (args.toList.map a.eval) hR (zc4 hf _);rw [show (args.toList.map a.eval).toArray=args.map a.eval by apply Array.ext';simp] at this
   exact Calls.mono this fun e w' ⟨u,x,w2,G2,f2,S2,r2,he,h1,h2,h3,hk⟩=>⟨u,he,hK u x w2 G2 f2 S2 r2 w' h1 (h2 a hf) h3 hk⟩
  ·exact h.elim
 ·exact h.elim
theorem z3g {id:Nat} {ops:Array Oper} (k:Nat) {o:Oper} (hk:ops.toList.drop k=o::ops.toList.drop (k+1)) (hg:o.guard=none) (hdst:zi8 N.n o.dst=true)
  (h:zo4 P w0 G N ops (ops.toList.take k) f S fun f1 S1=>zr1 P w0 G o f1 S1 fun x w2 G2 f2 S2=>zo4 P w2 G2 N ops (ops.toList.drop (k+1)) (f2.put o.dst x) S2 fun f3 S3=>AtQ w2 G2 N .normal f3 S3 Q):SatQ P w0 G N (.region id ops false) f S Q:=
 ⟨fun a w hgd=>wpIn_region_list (ybc none 10 k (zo5 (Q:=fun a w=>∃ f1 S1,(zr1 P w0 G o f1 S1 fun x w2 G2 f2 S2=>zo4 P w2 G2 N ops (ops.toList.drop (k+1)) (f2.put o.dst x) S2 fun f3 S3=>AtQ w2 G2 N .normal f3 S3 Q)∧Good w0 G N f1 S1 a w) _ f S _ h (fun f' S' a' w' hk' hg'=>⟨f',S',hk',hg'⟩) a w hgd) (by
  rintro a w ⟨f1,S1,hj,r,hR,hf,hN,hd⟩;rw [hk];unfold wpListIn;rw [if_pos (yal hg _)];refine z32 none 10 (next:=fun a w=>wpListIn (zlq none) 10 P ops Q (ops.toList.drop (k+1)) a w) (zr2 hj hR hf fun u x w2 G2 f2 S2 r2 w' h1 h2 h3 hq=>?_) (fun a w h=>h)
  exact z30 none 10 (zo5 _ _ _ _ hq (fun f' S' a' w' hk' hg'=>hk'.out a' w' hg') _ _ ⟨r2,h1,h2.put h3 (by rw [hN];exact hdst),(zzq a _ _).trans hN,(zzn a _ _).trans hd⟩)))⟩
end
structure JmpJ (P:Program) (W:World) (G:Gs) (J:World→Prop) (fid:FuncId) (args:List AV) (K:Value→(World→Prop)→Prop):Prop where
 ok:fnOk P fid=true
 out:∃ (α:Type) (val:α→Value) (J':α→World→Prop),(∀ w us,Held W G w→J w→zc1 Env.none args us→Calls P fid us.toArray w fun e w'=>∃ y,e= .returned (val y)∧Held W G w'∧J' y w')∧∀ y,K (val y) (J' y)
theorem JmpJ.one {P:Program} {W:World} {G:Gs} {J:World→Prop} {fid:FuncId} {args:List AV} {K:Value→(World→Prop)→Prop} (ok:fnOk P fid=true) (x:Value) (J':World→Prop) (h:∀ w us,Held W G w→J w→zc1 Env.none args us→Calls P fid us.toArray w fun e w'=>e= .returned x∧Held W G w'∧J' w') (hK:K x J'):JmpJ P W G J fid args K:=
 ⟨ok,Unit,fun _=>x,fun _=>J',fun w us h1 h2 h3=>(h w us h1 h2 h3).mono fun _e _w' ⟨k1,k2,k3⟩=>⟨(),k1,k2,k3⟩,fun _=>hK⟩
theorem JmpJ.prop {P:Program} {W:World} {G:Gs} {J:World→Prop} {fid:FuncId} {args:List AV} {K:Value→(World→Prop)→Prop} (ok:fnOk P fid=true) (X:Value→Prop) (J':Value→World→Prop) (h:∀ w us,Held W G w→J w→zc1 Env.none args us→Calls P fid us.toArray w fun e w'=>∃ x,e= .returned x∧X x∧Held W G w'∧J' x w') (hK:∀ x,X x→K x (J' x)):JmpJ P W G J fid args K:=
 ⟨ok,{x//X x},fun x=>x.1,fun x=>J' x.1,fun w us h1 h2 h3=>(h w us h1 h2 h3).mono fun _e _w' ⟨x,k1,k2,k3,k4⟩=>⟨⟨x,k2⟩,k1,k3,k4⟩,fun x=>hK x.1 x.2⟩
section
variable (P:Program) (W:World) (G:Gs) (N:Nd)
def zew (f:Fr) (J:World→Prop) (o:Oper) (K:AV→(World→Prop)→Prop):Prop:=
 match o.op with
 | .call ⟨.value fn,args,_⟩=>(match f.ev fn with
  | .p (.c (.clo (.func fid) []))=>evL f args.toList fun vs=>JmpJ P W G J fid vs fun x J'=>K (AV.of x) J'
  | .p (.c (.v (.func (.func fid) first cap)))=>(match first.toList with
   |[]=>evL f args.toList fun vs=>JmpJ P W G J fid (vs++cap.toList.map fun c=>AV.of c) fun x J'=>K (AV.of x) J'
   |_=>False)
  |_=>False)
 |_=>False
def zra (o:Oper):Bool:=match o.op with| .call ⟨.value _,_,_⟩=>true|_=>false
def zms (f:Fr) (o:Oper) (K:AV→Prop):Prop:=
 match o.op with
 | .extract x k=>(match f.ev x with
  | .tup l=>(match l[k]? with|some p=>K (.p p)|none=>False)
  |_=>zml P W G f [] o K)
 |_=>zml P W G f [] o K
structure AllocJ (J:World→Prop) (p:Nat) (x:Obj) (w':World):Prop where
 out:∃ w,J w∧Held W G w∧w.heap.size=p∧Below w.heap.size w w'∧w'.heap[p]?=some x
structure StoreJ (J:World→Prop) (b:Nat) (x:Obj) (w':World):Prop where
 out:∃ w,J w∧Held W G w∧w.grownBy w' (some b)∧w'.heap[b]?=some x
def za8 (t:TypeId) (J:World→Prop) (K:AV→(World→Prop)→Prop):Prop:=
 match P.info? t with
 |some i=>(match i.zero with
  |some z=>∀ p,W.heap.size≤p→K (one (.pointer (some ⟨p,0,none⟩))) (AllocJ W G J p (.cells z.cells t (0,0)))
  |none=>False)
 |none=>False
def z7p (t:TypeId) (x y:AV) (J:World→Prop) (K:AV→(World→Prop)→Prop):Prop:=
 match x with
 | .p (.c (.v (.pointer (some ⟨b,off,none⟩))))=>(match y.okCells [] with
  |some cs=>(match P.info? t with
   |some inf=>∃ us cur t',(W.heap.size≤b∨b∈G)∧cs=us.map CV.v∧us.length=inf.size∧zwj [] cs=true∧off+us.length≤cur.length∧(∀ w,Held W G w→J w→w.heap[b]?=some (.cells cur.toArray t' (0,0)))∧K (.p (.c .any)) (StoreJ W G J b (.cells (z38 cur off us).toArray t' (0,0)))
   |none=>False)
  |none=>False)
 |_=>False
def zea (t:TypeId) (n:Nat) (parts:Array (Nat×Operand)) (f:Fr) (J:World→Prop) (K:AV→(World→Prop)→Prop):Prop:=
 ∃ (us:List Value) (e:TypeId) (i:TypeInfo) (z:Value),P.underlying t=some (.slice e)∧P.info? e=some i∧i.zero=some z∧n*i.size≤16777216∧zl8 P [] f (fun k=>some (k*i.size,i.size)) parts.toList (List.replicate (n*i.size) .any)=some (us.map .v)∧∀ p,W.heap.size≤p→K (one (.slice (some ⟨p,0,none⟩) n n)) (AllocJ W G J p (.cells us.toArray e (0,0)))
def z7b (f:Fr) (J:World→Prop) (o:Oper) (K:AV→(World→Prop)→Prop):Prop:=
 match zra o with
 |true=>zew P W G f J o K
 |false=>(match o.op with
  | .alloc t=>za8 P W G t J K
  | .store t x y=>z7p P W G t (f.ev x) (f.ev y) J K
  | .buildSlice t n parts=>zea P W G t n parts f J K
  |_=>zms P W G f o fun v=>K v J)
def trJ (ops:Array Oper) (l:List Oper):Tr→Fr→(World→Prop)→(Fr→(World→Prop)→Prop)→Prop
 | .done,f,J,K=>K f J
 | .no,_,_,_=>True
 | .q i t,f,J,K=>(match l[i]? with
  |none=>False
  |some o=>(match zi8 N.n o.dst with
   |false=>False
   |true=>(match zoz ops f o with
    |some true=>zms P W G f o fun v=>f.putK o.dst v fun f'=>trJ ops l t f' J K
    |some false=>f.putK o.dst (.p (.c .any)) fun f'=>trJ ops l t f' J K
    |none=>False)))
 | .alt i t more,f,J,K=>(match l[i]? with
  |none=>False
  |some o=>(match zi8 N.n o.dst with
   |false=>False
   |true=>(match zoz ops f o with
    |some true=>z7b P W G f J o fun v J'=>f.putK o.dst v fun f'=>trJ ops l t f' J' K
    |_=>False)))∧trJ ops l more f J K
def seqJ (ops:Array Oper):List Oper→Fr→(World→Prop)→(Fr→(World→Prop)→Prop)→Prop
 |[],f,J,K=>K f J
 |o::l,f,J,K=>(match zi8 N.n o.dst with
  |false=>False
  |true=>(match zoz ops f o with
   |some true=>z7b P W G f J o fun v J'=>f.putK o.dst v fun f'=>seqJ ops l f' J' K
   |some false=>f.putK o.dst (.p (.c .any)) fun f'=>seqJ ops l f' J K
   |none=>False))
end
structure GoodJ (W:World) (G:Gs) (N:Nd) (f:Fr) (J:World→Prop) (a:Act) (w:World):Prop where
 held:Held W G w
 j:J w
 den:FDen Env.none f a
 size:a.tmps.size=N.n
 defers:a.defers=N.ds
section
variable {P:Program} {W:World} {gs:List Nat} {N:Nd} {ops:Array Oper} {l:List Oper}
theorem zex {f:Fr} {J:World→Prop} {o:Oper} {K:AV→(World→Prop)→Prop} (h:zew P W ⟨[],gs⟩ f J o K) {a:Act} {w:World} (hg:GoodJ W ⟨[],gs⟩ N f J a w) {next:Act→World→Prop} (hK:∀ v J' u w',K v J'→v.den Env.none u→Held W ⟨[],gs⟩ w'→J' w'→next (a.put o.dst u) w'):Oper.se P o a w next:=by
 unfold zew at h
 split at h
 ·rename_i fn args tys hop
  have hfn:=hg.den.ev fn
  split at h
  ·rename_i fid he
   rw [he] at hfn;obtain ⟨us,hu,hcap⟩:=ziw hfn;simp only [denL] at hcap;subst hcap;rw [zkp] at h;obtain ⟨hok,α,val,J',hc,hk⟩:=h
   have hrun:(execOp a.eval o).run P w= .ok (.enter fid (args.map a.eval)) w:=by
    simp [execOp,hop,resolve,Deferred.ofValue,hu,invoke,z2h hok]
   refine ybf hrun ?_;have:=hc w (args.toList.map a.eval) hg.held hg.j (zc4 hg.den _);rw [show (args.toList.map a.eval).toArray=args.map a.eval by apply Array.ext';simp] at this
   exact Calls.mono this fun e w' ⟨y,he,h1,h2⟩=>⟨val y,he,hK _ _ _ _ (hk y) (AV.of_den _ (val y)) h1 h2⟩
  ·rename_i fid first cap he
   rw [he] at hfn;have hu:=zi2 hfn
   split at h
   ·rename_i hfst
    have ef:first= #[]:=Array.ext' hfst;rw [zkp] at h;obtain ⟨hok,α,val,J',hc,hk⟩:=h
    have hrun:(execOp a.eval o).run P w= .ok (.enter fid ((args.map a.eval)++cap)) w:=by
     simp [execOp,hop,resolve,Deferred.ofValue,hu,ef,invoke,z2h hok]
    refine ybf hrun ?_;have:=hc w ((args.toList.map a.eval)++cap.toList) hg.held hg.j (zc2 (zc4 hg.den _) (zc6 _));rw [show ((args.toList.map a.eval)++cap.toList).toArray=(args.map a.eval)++cap by apply Array.ext';simp] at this
    exact Calls.mono this fun e w' ⟨y,he,h1,h2⟩=>⟨val y,he,hK _ _ _ _ (hk y) (AV.of_den _ (val y)) h1 h2⟩
   ·exact h.elim
  ·exact h.elim
 ·exact h.elim
theorem zp0 {w:World} (h:Held W ⟨[],gs⟩ w):Rel W ⟨[],gs⟩ [] Env.none w:=h.rel
theorem zmt {f:Fr} {J:World→Prop} {o:Oper} {K:AV→Prop} (h:zms P W ⟨[],gs⟩ f o K) {a:Act} {w:World} (hg:GoodJ W ⟨[],gs⟩ N f J a w):
  ∃ v u,K v∧v.den Env.none u∧∀ w',Held W ⟨[],gs⟩ w'→(execOp a.eval o).run P w'= .ok (.value u) w':=by
 unfold zms at h
 split at h
 ·rename_i x k hop
  split at h
  ·rename_i l hx
   split at h
   ·rename_i p hp
    have hxd:=hg.den.ev x;rw [hx] at hxd;obtain ⟨us,hu,hl⟩:=hxd;obtain ⟨u,h1,h2⟩:=zym hl hp;exact ⟨_,u,h,h2,fun w _=>by simp [execOp,hop,hu,Instr.extract,h1]⟩
   ·exact h.elim
  ·exact zmm h (zp0 hg.held) hg.den
 ·exact zmm h (zp0 hg.held) hg.den
theorem za9 {f:Fr} {J:World→Prop} {o:Oper} {t:TypeId} {K:AV→(World→Prop)→Prop} (hop:o.op= .alloc t) (h:za8 P W ⟨[],gs⟩ t J K) {a:Act} {w:World} (hg:GoodJ W ⟨[],gs⟩ N f J a w) {next:Act→World→Prop} (hK:∀ v J' u w',K v J'→v.den Env.none u→Held W ⟨[],gs⟩ w'→J' w'→next (a.put o.dst u) w'):Oper.se P o a w next:=by
 unfold za8 at h
 split at h
 ·rename_i i hi
  split at h
  ·rename_i z hz
   have hrun:(execOp a.eval o).run P w= .ok (.value (.pointer (some ⟨w.heap.size,0,none⟩))) (w.alloc (.cells z.cells t)):=by
    simp [execOp,hop,Instr.alloc,zeroValue,typeInfo,hi,hz,newVar,newRow]
   have hB:Below w.heap.size w (w.alloc (.cells z.cells t)):=Below.alloc (Below.refl _ _) (Nat.le_refl _) _;have hz:=hg.held.size;exact ybh hrun (hK _ _ _ _ (h _ hz) (ziz _ _) ⟨hB.os.trans hg.held.os,hB.tape.trans hg.held.tape,hB.output.trans hg.held.output,Nat.le_trans hz hB.size,fun k hk hn=>(hB.block k zO).trans (hg.held.old k hk hn)⟩ ⟨⟨w,hg.j,hg.held,rfl,hB,heap_alloc_new w _⟩⟩)
  ·exact h.elim
 ·exact h.elim
theorem z7q {f:Fr} {J:World→Prop} {o:Oper} {t:TypeId} {x y:Operand} {K:AV→(World→Prop)→Prop} (hop:o.op= .store t x y) (h:z7p P W ⟨[],gs⟩ t (f.ev x) (f.ev y) J K) {a:Act} {w:World} (hg:GoodJ W ⟨[],gs⟩ N f J a w) {next:Act→World→Prop} (hK:∀ v J' u w',K v J'→v.den Env.none u→Held W ⟨[],gs⟩ w'→J' w'→next (a.put o.dst u) w'):Oper.se P o a w next:=by
 unfold z7p at h
 split at h
 ·rename_i b off hx
  have hxd:=hg.den.ev x;rw [hx] at hxd;have hu:a.eval x= .pointer (some ⟨b,off,none⟩):=hxd
  split at h
  ·rename_i cs hcs
   have hdc:=zwa (zp0 hg.held) hcs (hg.den.ev y)
   split at h
   ·rename_i inf hinf
    obtain ⟨us,cur,t',hb,rfl,hl,hones,hle,hcur,hk⟩:=h;have hone:=zwn (zp0 hg.held) hones hdc;have hus:(a.eval y).cells.toList=us:=zis hdc;rw [hus] at hone;obtain ⟨w',hr,hgr,hbl⟩:=z2t (P:=P) us (i:=0) (off:=off) (hcur w hg.held hg.j) hone zO
    have hrun:(execOp a.eval o).run P w= .ok .skip w':=by
     have hz:¬(a.eval y).cells.size≠inf.size:=(by rw [← Array.length_toList,hus,hl];simp);rw [← hus] at hr;simp only [execOp,hop,Instr.storeAt,hu,Instr.sureAddr,storeVar,Sem.run_bind,Sem.run_pure,Result.andThen_ok,z2r P t w hinf,if_neg hz,hr]
    have hz:=hg.held.size;refine ybg hrun (hK _ _ _ _ hk (by simp [AV.den,Pc.den,CV.den]) ⟨hgr.os.trans hg.held.os,hgr.tape.trans hg.held.tape,hgr.output.trans hg.held.output,Nat.le_trans hz hgr.size,fun k hk hn=>(hgr.block k zO fun e=>?_).trans (hg.held.old k hk hn)⟩ ⟨⟨w,hg.j,hg.held,hgr,by rw [Nat.add_zero] at hbl;exact hbl⟩⟩);injection e with e;subst e;exact hb.elim (fun h=>by omega) hn
   ·exact h.elim
  ·exact h.elim
 ·exact h.elim
theorem zeb {f:Fr} {J:World→Prop} {o:Oper} {t:TypeId} {n:Nat} {parts:Array (Nat×Operand)} {K:AV→(World→Prop)→Prop} (hop:o.op= .buildSlice t n parts) (h:zea P W ⟨[],gs⟩ t n parts f J K) {a:Act} {w:World} (hg:GoodJ W ⟨[],gs⟩ N f J a w) {next:Act→World→Prop} (hK:∀ v J' u w',K v J'→v.den Env.none u→Held W ⟨[],gs⟩ w'→J' w'→next (a.put o.dst u) w'):Oper.se P o a w next:=by
 obtain ⟨us,e,i,z,ht,hi,hz,hle,hl,hk⟩:=h
 have hany:∀ zero:Array Value,denL Env.none (List.replicate (n*i.size) .any) ((Array.range (n*i.size)).map (zero[· %zero.size]!)).toList:=fun zero=>by
  have:=zie Env.none ((Array.range (n*i.size)).map (zero[· %zero.size]!)).toList
  rwa [show ((Array.range (n*i.size)).map (zero[· %zero.size]!)).toList.length=n*i.size by simp] at this
 have e3:(parts.map fun (i,x)=>(i,a.eval x)).toList=parts.toList.map fun p=>(p.1,a.eval p.2):=by simp
 have fl:∀ zero:Array Value,Instr.fill (fun k=>some (k*i.size,i.size)) ((Array.range (n*i.size)).map (zero[· %zero.size]!)) (parts.toList.map fun p=>(p.1,a.eval p.2))=some us.toArray:=fun zero=>by
  obtain ⟨vs,hv,hdv⟩:=zl9 (zp0 hg.held) hg.den parts.toList _ _ _ hl (hany zero);rw [Array.toArray_toList] at hv;rw [hv,zis hdv]
 have hrun:(execOp a.eval o).run P w= .ok (.value (.slice (some ⟨w.heap.size,0,none⟩) n n)) (w.alloc (.cells us.toArray e)):=by
  simp only [execOp,hop,Instr.buildSlice,underlying,Sem.run_bind,run_program,Result.andThen_ok,ht,Sem.run_pure,z2r P e w hi,e3];rw [if_neg zO];by_cases h0:n*i.size=0
  ·rw [if_pos h0]
   simp only [Sem.run_bind,Sem.run_pure,Result.andThen_ok];rw [fl #[]];simp [newRow]
  ·rw [if_neg h0]
   simp only [zeroValue,typeInfo,Sem.run_bind,run_program,Result.andThen_ok,hi,hz,Sem.run_pure];rw [fl z.cells];simp [newRow]
 have hB:Below w.heap.size w (w.alloc (.cells us.toArray e)):=Below.alloc (Below.refl _ _) (Nat.le_refl _) _;have hz:=hg.held.size;exact ybh hrun (hK _ _ _ _ (hk _ hz) (ziz _ _) ⟨hB.os.trans hg.held.os,hB.tape.trans hg.held.tape,hB.output.trans hg.held.output,Nat.le_trans hz hB.size,fun k hk hn=>(hB.block k zO).trans (hg.held.old k hk hn)⟩ ⟨⟨w,hg.j,hg.held,rfl,hB,heap_alloc_new w _⟩⟩)
theorem z7c {f:Fr} {J:World→Prop} {o:Oper} {K:AV→(World→Prop)→Prop} (h:z7b P W ⟨[],gs⟩ f J o K) {a:Act} {w:World} (hg:GoodJ W ⟨[],gs⟩ N f J a w) {next:Act→World→Prop} (hK:∀ v J' u w',K v J'→v.den Env.none u→Held W ⟨[],gs⟩ w'→J' w'→next (a.put o.dst u) w'):Oper.se P o a w next:=by
 unfold z7b at h
 split at h
 ·exact zex h hg hK
 ·split at h
  ·rename_i t hop;exact za9 hop h hg hK
  ·rename_i t x y hop;exact z7q hop h hg hK
  ·rename_i t n parts hop;exact zeb hop h hg hK
  ·obtain ⟨v,u,hk,hd,hrun⟩:=zmt h hg
   unfold Oper.se;rw [hrun w hg.held];exact hK v J u w hk hd hg.held hg.j
theorem z86 (hl:∀ i:Nat,l[i]?=ops[i]?) (hns:Region.noSelect ops=true) {K:Fr→(World→Prop)→Prop} {Q:Exit→Act→World→Prop} (hQ0:∀ c a w,¬Q (.panic c) a w) (hQ:∀ f J a w,K f J→GoodJ W ⟨[],gs⟩ N f J a w→Q .normal a w):
  ∀ (t:Tr) (inner:Bool) (listed:Array Bool) (f:Fr) (J:World→Prop) (n:Nat),t.ok ops inner listed=true→t.depth≤n→trJ P W ⟨[],gs⟩ N ops l t f J K→∀ a w,GoodJ W ⟨[],gs⟩ N f J a w→
   (inner=false→wpAnyH P .any ops Q (Held W ⟨[],gs⟩) n listed a w)∧
   (∀ m,n=m+1→∀ i∈t.alts,wpOp P ops Q i (fun a' w'=>Held W ⟨[],gs⟩ w'∧wpAnyH P .any ops Q (Held W ⟨[],gs⟩) m (listed.setIfInBounds i true) a' w') a w)
 | .done,inner,listed,f,J,n,hB,_,h,a,w,hg=>by
  refine ⟨fun _=>wpAnyH_done (by simp [Tr.ok] at hB;exact hB.2) (hQ f J a w h hg) _,fun m _ i hi=>by cases hi⟩
 | .no,inner,listed,f,J,n,hB,_,h,a,w,hg=>by
  refine ⟨fun he=>?_,fun m _ i hi=>by cases hi⟩;simp [Tr.ok] at hB;rw [hB] at he;cases he
 | .q i t,inner,listed,f,J,n,hB,hn,h,a,w,hg=>by
  refine ⟨fun _=>?_,fun m _ i hi=>by cases hi⟩;simp only [Tr.ok,Bool.and_eq_true] at hB;obtain ⟨⟨⟨_,hB1⟩,hB2⟩,hB3⟩:=hB;simp only [Tr.depth] at hn
  obtain ⟨n,rfl⟩:∃ k,n=k+1:=⟨n-1,by omega⟩
  unfold trJ at h
  split at h
  ·exact h.elim
  ·rename_i o ho
   rw [hl] at ho
   split at h
   ·exact h.elim
   ·rename_i hdst
    split at h
    ·rename_i hgd
     have hw:=zo3 hg.den hgd;obtain ⟨v,u,hK,hden,hrun⟩:=zmt h hg;have hK:=zze.1 hK;refine wpAnyH_take (v:=u) ho hns hB1 hB2 (fun c a w h=>absurd h (hQ0 c _ w)) (.inl ⟨hw,hrun⟩) hg.held ?_;exact (z86 hl hns hQ0 hQ t false _ _ J n hB3 zO hK _ w ⟨hg.held,hg.j,hg.den.put hden (by rw [hg.size];exact hdst),(zzq a _ _).trans hg.size,(zzn a _ _).trans hg.defers⟩).1 rfl
    ·rename_i hgd
     have hw:=zo3 hg.den hgd;have hK:=zze.1 h;refine wpAnyH_take (v:=undef) ho hns hB1 hB2 (fun c a w h=>absurd h (hQ0 c _ w)) (.inr ⟨hw,rfl⟩) hg.held ?_;exact (z86 hl hns hQ0 hQ t false _ _ J n hB3 zO hK _ w ⟨hg.held,hg.j,hg.den.putAny _ (by rw [hg.size];exact hdst),(zzq a _ _).trans hg.size,(zzn a _ _).trans hg.defers⟩).1 rfl
    ·exact h.elim
 | .alt i t more,inner,listed,f,J,n,hB,hn,h,a,w,hg=>by
  simp only [Tr.ok,Bool.and_eq_true] at hB;obtain ⟨⟨hB1,hB2⟩,hB3⟩:=hB;simp only [Tr.depth] at hn;unfold trJ at h;obtain ⟨h1,h2⟩:=h
  have all:∀ m,n=m+1→∀ j∈(Tr.alt i t more).alts,wpOp P ops Q j (fun a' w'=>Held W ⟨[],gs⟩ w'∧wpAnyH P .any ops Q (Held W ⟨[],gs⟩) m (listed.setIfInBounds j true) a' w') a w:=by
   intro m hm j hj;simp only [Tr.alts,List.mem_cons] at hj;rcases hj with rfl|hj
   ·split at h1
    ·exact h1.elim
    ·rename_i o ho
     rw [hl] at ho
     split at h1
     ·exact h1.elim
     ·rename_i hdst
      split at h1
      ·rename_i hgd
       have hw:=zo3 hg.den hgd;unfold wpOp;simp only [ho,hw,if_true];refine .inl (z31 (z7c h1 hg (next:=fun a' w'=>Held W ⟨[],gs⟩ w'∧wpAnyH P .any ops Q (Held W ⟨[],gs⟩) m (listed.setIfInBounds j true) a' w') fun v J' u w' hk hv hh hj'=>?_) fun _ _ h=>h);exact ⟨hh,(z86 hl hns hQ0 hQ t false _ _ J' m hB2 zO (zze.1 hk) _ w' ⟨hh,hj',hg.den.put hv (by rw [hg.size];exact hdst),(zzq a _ _).trans hg.size,(zzn a _ _).trans hg.defers⟩).1 rfl⟩
      ·exact h1.elim
   ·exact (z86 hl hns hQ0 hQ more true listed f J n hB3 zO h2 a w hg).2 m hm j hj
  refine ⟨fun he=>?_,all⟩
  obtain ⟨m,rfl⟩:∃ k,n=k+1:=⟨n-1,by omega⟩
  have hr:Region.ready .any ops listed=(Tr.alt i t more).alts:=by
   rw [he] at hB1
   simpa [Tr.alts] using hB1
  exact wpAnyH_all hr (by simp [Tr.alts]) (all m rfl)
theorem z35 {K:Fr→(World→Prop)→Prop} {Q:Act→World→Prop} (hQ:∀ f J a w,K f J→GoodJ W ⟨[],gs⟩ N f J a w→Q a w):∀ (l:List Oper) (f:Fr) (J:World→Prop),seqJ P W ⟨[],gs⟩ N ops l f J K→∀ a w,GoodJ W ⟨[],gs⟩ N f J a w→seL P ops Q l a w
 |[],f,J,h,a,w,hg=>hQ f J a w h hg
 |o::l,f,J,h,a,w,hg=>by
  unfold seqJ at h
  split at h
  ·exact h.elim
  ·rename_i hdst
   split at h
   ·rename_i hgd
    refine z7g (zo3 hg.den hgd) (z7c h hg fun v J' u w' hk hv hh hj'=>?_);exact z35 hQ l _ J' (zze.1 hk) _ w' ⟨hh,hj',hg.den.put hv (by rw [hg.size];exact hdst),(zzq a _ _).trans hg.size,(zzn a _ _).trans hg.defers⟩
   ·rename_i hgd
    refine z7i (zo3 hg.den hgd) ?_;exact z35 hQ l _ J (zze.1 h) _ w ⟨hg.held,hg.j,hg.den.putAny _ (by rw [hg.size];exact hdst),(zzq a _ _).trans hg.size,(zzn a _ _).trans hg.defers⟩
   ·exact h.elim
theorem zpw {w:World} (h:Below W.heap.size W w):Held W ⟨[],gs⟩ w:=⟨h.os,h.tape,h.output,h.size,fun k hk _=>h.block k hk⟩
theorem z3s {id:Nat} {l:List Oper} {f:Fr} {S:List Ow} {Q:Exit→Act→World→Prop} (gs:List Nat) (t:Tr) (J0:World→Prop) (hJ:∀ w,Below W.heap.size W w→J0 w) (hm:P.follows .mixedOrders=true) (hns:Region.noSelect l.toArray=true) (hB:(t.ok l.toArray false (Array.replicate l.toArray.size false)&&Nat.ble t.depth l.length)=true)
  (h:trJ P W ⟨[],gs⟩ N l.toArray l t (zyz f) J0 fun f' J'=>∀ w',Held W ⟨[],gs⟩ w'→J' w'→AtQ w' Gs.nil N .normal f' [] Q):SatQ P W Gs.nil N (.region id l.toArray true) f S Q:=by
 refine ⟨fun a w ⟨r,hR,hf,hN,hd⟩=>wpIn_wide.2 ?_⟩;simp only [Bool.and_eq_true] at hB;have hb:=hR.drew.toBelow;refine Code.wp_mono (Q:=fun e a w=>match e with| .normal=>Q .normal a w|_=>False) (fun e a w h=>by cases e<;>first|exact h|exact h.elim) (wp_region_held (S:=Held W ⟨[],gs⟩) hm ?_);have:=(z86 (P:=P) (W:=W) (N:=N) (Q:=fun e a w=>match e with| .normal=>Q .normal a w|_=>False) (fun i=>by simp) hns (fun c a w h=>h) (fun f' J' a' w' hk hg=>(hk w' hg.held hg.j).out a' w' ⟨Env.none,z1w w',hg.den,hg.size,hg.defers⟩) t false _ (zyz f) J0 l.length hB.1 (Nat.le_of_ble_eq_true hB.2) h a w.drew ⟨zpw hb,hJ _ hb,zy0 hf,hN,hd⟩).1 rfl
 simpa using this
theorem z3p {id:Nat} {ops:Array Oper} {f:Fr} {S:List Ow} {Q:Exit→Act→World→Prop} (gs:List Nat) (J0:World→Prop) (hJ:∀ w,Below W.heap.size W w→J0 w)
  (h:seqJ P W ⟨[],gs⟩ N ops ops.toList (zyz f) J0 fun f' J'=>∀ w',Held W ⟨[],gs⟩ w'→J' w'→AtQ w' Gs.nil N .normal f' [] Q):SatQ P W Gs.nil N (.region id ops false) f S Q:=
 ⟨fun a w ⟨_r,hR,hf,hN,hd⟩=>wpIn_region_list (z30 none 10 (z35 (fun _f' _J' a' w' hk hg=>(hk w' hg.held hg.j).out a' w' ⟨Env.none,z1w w',hg.den,hg.size,hg.defers⟩) _ (zyz f) J0 h a w ⟨zpw hR.toBelow,hJ _ hR.toBelow,zy0 hf,hN,hd⟩))⟩
end
def zfy (ops:Array Oper):List Nat→Array Bool→Bool
 |[],_=>true
 |i::qs,listed=>Region.free .any ops listed i&&(Region.ready .any ops listed).contains i&&zfy ops qs (listed.setIfInBounds i true)
def zfx:List Nat→Array Bool→Array Bool
 |[],listed=>listed
 |i::qs,listed=>zfx qs (listed.setIfInBounds i true)
section
variable (P:Program) (W:World) (G:Gs) (N:Nd)
def chK (ops:Array Oper) (l:List Oper):List Nat→Fr→List Ow→(Fr→List Ow→Prop)→Prop
 |[],f,T,K=>K f T
 |i::qs,f,T,K=>(match l[i]? with
  |none=>False
  |some o=>(match zi8 N.n o.dst with
   |false=>False
   |true=>(match zoz ops f o with
    |some true=>zml P W G f T o fun v=>f.putK o.dst v fun f'=>chK ops l qs f' T K
    |_=>False)))
end
section
variable {P:Program} {W:World} {G:Gs} {N:Nd} {ops:Array Oper} {l:List Oper} {α:Type}
theorem zfw (hl:∀ i:Nat,l[i]?=ops[i]?) (hns:Region.noSelect ops=true) {K:Fr→List Ow→Prop} {Q:Exit→Act→World→Prop} (hQ0:∀ c a w,¬Q (.panic c) a w) {m:Nat}:
  ∀ (qs:List Nat) (listed:Array Bool) (f:Fr) (T:List Ow),zfy ops qs listed=true→chK P W G N ops l qs f T K→(∀ f' a w,K f' T→Good W G N f' T a w→wpAnyH P .any ops Q (Held W G) m (zfx qs listed) a w)→
   ∀ a w,Good W G N f T a w→wpAnyH P .any ops Q (Held W G) (qs.length+m) listed a w
 |[],listed,f,T,_,h,hK,a,w,hg=>by
  rw [List.length_nil,Nat.zero_add];exact hK f a w h hg
 |i::qs,listed,f,T,hB,h,hK,a,w,hg=>by
  simp only [zfy,Bool.and_eq_true] at hB;obtain ⟨⟨hB1,hB2⟩,hB3⟩:=hB;rw [List.length_cons,show qs.length+1+m=(qs.length+m)+1 by omega];unfold chK at h
  split at h
  ·exact h.elim
  ·rename_i o ho
   rw [hl] at ho
   split at h
   ·exact h.elim
   ·rename_i hdst
    obtain ⟨r,hR,hf,hN,hd⟩:=hg
    split at h
    ·rename_i hgd
     have hw:=zo3 hf hgd;obtain ⟨v,u,hK1,hden,hrun⟩:=zmm h hR hf;have hK1:=zze.1 hK1;refine wpAnyH_take (v:=u) ho hns hB1 hB2 (fun c a w h=>absurd h (hQ0 c _ w)) (.inl ⟨hw,hrun⟩) hR.held ?_;exact zfw hl hns hQ0 qs _ _ T hB3 hK1 hK _ w ⟨r,hR,hf.put hden (by rw [hN];exact hdst),(zzq a _ _).trans hN,(zzn a _ _).trans hd⟩
    ·exact h.elim
theorem z24 {id:Nat} {f:Fr} {S:List Ow} {K:Exit→Fr→List Ow→Prop} (qs:List Nat) (listed:α→Array Bool) (nx:α→Nx α) (left:α→Nat) (T:α→Fr) (U:α→List Ow) (x0:α) (hm:P.follows .mixedOrders=true) (hns:Region.noSelect l.toArray=true)
  (h0:(zfy l.toArray qs (Array.replicate l.toArray.size false)&&zke (listed x0).toList (zfx qs (Array.replicate l.toArray.size false)).toList&&Nat.ble (qs.length+left x0) l.length)=true) (hB:∀ x,dagB l.toArray listed nx left x=true)
  (h:chK P W G N l.toArray l qs f S fun f' S'=>Ent W G N f' S' (T x0) (U x0)) (hnode:∀ x,zvl P W G N l.toArray l T U (K .normal) x (nx x)):Sat none P W G N (.region id l.toArray true) f S K:=by
 refine ⟨fun n a w ⟨r,hR,hf,hN,hd⟩=>wpIn_wide.2 ?_⟩;simp only [Bool.and_eq_true] at h0;obtain ⟨⟨h1,h2⟩,h3⟩:=h0;have h3:=Nat.le_of_ble_eq_true h3;refine Code.wp_mono (Q:=fun e a w=>match e with| .normal=>zal W G N K .normal a w|_=>False) (fun e a w h=>by cases e<;>first|exact h|exact h.elim) (wp_region_held (S:=Held W G) hm ?_)
 have:=zfw (P:=P) (W:=W) (N:=N) (Q:=fun e a w=>match e with| .normal=>zal W G N K .normal a w|_=>False) (m:=l.length-qs.length) (fun i=>by simp) hns (fun c a w h=>h) qs (Array.replicate l.toArray.size false) f S h1 h (fun f' a' w' hK hg=>by
  have:=zh4 (P:=P) (W:=W) (N:=N) (ops:=l.toArray) (l:=l) (Q:=fun e a w=>match e with| .normal=>zal W G N K .normal a w|_=>False) (fun i=>by simp) hns (fun c a w h=>h) (fun f T a w hk hg=>⟨f,T,hk,hg⟩) hB hnode (l.length-qs.length) x0 a' w' zO (hK.out a' w' hg)
  rwa [show listed x0=zfx qs (Array.replicate l.toArray.size false) from Array.ext' (zkf h2)] at this) a w.drew ⟨r,hR.drew,hf,hN,hd⟩
 rw [show qs.length+(l.length-qs.length)=l.length by omega] at this
 simpa using this
theorem zvn {T:α→Fr} {U:α→List Ow} {K:Fr→List Ow→Prop} {x:α}:zvl P W G N ops l T U K x (.alts []):=fun p hp=>by cases hp
theorem zvm {T:α→Fr} {U:α→List Ow} {K:Fr→List Ow→Prop} {x:α} {i:Nat} {y:α} {m:List (Nat×α)} (h:altK P W G N ops l T U x i y) (hm:zvl P W G N ops l T U K x (.alts m)):zvl P W G N ops l T U K x (.alts ((i,y)::m)):=fun p hp=>by
 rcases List.mem_cons.1 hp with rfl|hp
 ·exact h
 ·exact hm p hp
end
def z2c (S:List Ow):Bool:=S.all fun o=>match o with| .row .. =>true| .gone=>true|_=>false
theorem zj1 {w0:World} {N:Nd} {f:Fr} {A:List Ow} (d:Nat) (e:TypeId) (size:Nat) (hf:f.bnd A.length=true) (hA:z2c A=true):
  Ent w0 Gs.nil N ((d,.p (.c (.sl A.length 0 0 0)))::f) (A++[.cells e []]) ((d,.p (.c (.row A.length)))::f) (A++[.row e size 0 []]):=⟨fun a w ⟨r,hR,hd,hN,hdf⟩=>by
 have h1:=hd d;rw [zol] at h1;obtain ⟨b,hb,hu⟩:=zi1 h1;obtain ⟨b',us,e1,e2,e3⟩:=hR.own A.length (.cells e []) zS;rw [hb] at e1;injection e1 with e1;subst e1;obtain rfl:us=[]:=e3
 obtain ⟨v,hv⟩:∃ v:Value,v= .slice (some ⟨b,0,none⟩) 0 0:=⟨_,rfl⟩
 have hlen:(A++[Ow.cells e []]).length=A.length+1:=by simp
 refine ⟨⟨r.blk,fun i=>if i=A.length then some v else r.val i⟩,⟨hR.os,hR.tape,hR.output,hR.size,hR.old,fun i o ho=>?_,hR.inj,hR.new,fun i hi=>hR.outB i (by simp at hi⊢;omega),fun i hi=>?_,hR.first⟩,fun k=>?_,hN,hdf⟩
 ·rcases zon ho with ⟨hi,ho⟩|⟨rfl,rfl⟩
  ·have h2:=hR.own i o (by rw [List.getElem?_append_left hi];exact ho)
   have h3:=List.all_eq_true.1 hA o (List.mem_of_getElem? ho)
   cases o with
   |row e' s' n' xs'=>
    obtain ⟨v',f1,f2,f3⟩:=h2;exact ⟨v',by show (if i=A.length then some v else r.val i)=some v';rw [if_neg zO];exact f1,f2,f3⟩
   |gone=>trivial
   |cells=>cases h3
   |ext=>cases h3
   |view=>cases h3
  ·refine ⟨v,by show (if A.length=A.length then some v else _)=some v;rw [if_pos rfl],by rw [hv];exact hb.symm,by simp,.inr ⟨b,0,#[],hv,Nat.zero_le _,e2,Nat.le_refl _,Nat.zero_le _,by simp,by simp⟩⟩
 ·show (if i=A.length then some v else r.val i)=none
  have:A.length+1≤i:=(by simpa using hi);rw [if_neg zO];exact hR.outV i (by rw [hlen];exact this)
 ·have hag:r.agree A.length ⟨r.blk,fun i=>if i=A.length then some v else r.val i⟩:=fun i hi=>⟨rfl,by show r.val i=(if i=A.length then some v else r.val i);rw [if_neg zO]⟩
  have h4:=hd k;simp only [Fr.get] at h4⊢
  split
  ·rename_i hk
   have hk:d=k:=Nat.eq_of_beq_eq_true hk;subst hk;show (if A.length=A.length then some v else _)=some _;rw [if_pos rfl,hv,hu]
  ·rename_i hk
   rw [hk] at h4
   exact AV.den_agree hag _ _ (Fr.bnd_get k hf) h4⟩
theorem zkx {ats:List Int} {n p:Nat}:∀ (l:List BOp) (i:Int) (vs:List Int) (M:MemP),VarsOk vs→M.ok n p→(∀ o∈l,o.ok)→(zkt ats l i vs M).out.vars.length=28∧(zkt ats l i vs M).mem.ok n p
 |[],i,vs,M,hv,hM,_=>⟨rfl,hM⟩
 |o::l,i,vs,M,hv,hM,ho=>by
  have hg:=(zpe hv).len;have hoo:=ho o zS;have hol:∀ p∈l,p.ok:=fun p hp=>ho p (by simp [hp]);have hA:=zbv (o:=o) hM hv;by_cases h1:o.code=24∨(o.code=23∧getV vs o.a≠0)
  ·rw [zku h1];exact ⟨hg,hM⟩
  by_cases h2:o.code=25
  ·rw [zkz h2];exact ⟨hg,hM⟩
  cases h3:(zbr o vs M).stays with
  |true=>rw [zkv h1 h2 h3];exact zkx l _ _ _ (zby hv hoo.n) hA hol
  |false=>rw [zkw h1 h2 h3];exact ⟨hg,hA⟩
theorem zkr {b:Blk} {n p:Nat} {vs:List Int} {M:MemP} (hb:b.ok) (hv:VarsOk vs) (hM:M.ok n p):(zkq b vs M).out.vars.length=28∧(zkq b vs M).mem.ok n p:=by
 unfold zkq
 split
 ·exact zkx b.ops 0 vs M hv hM hb.ops
 ·exact ⟨rfl,hM⟩
structure OptOk (b:Blk) (l:List BOp):Prop where
 valid:z9o ⟨b.at_,b.pages,l⟩=true
 ok:(⟨b.at_,b.pages,l⟩:Blk).ok
 same:∀ vs M,VarsOk vs→zkq ⟨b.at_,b.pages,l⟩ vs M=zkq b vs M
end Go.Proofs.YtocafomnnkmjfaaGreat
