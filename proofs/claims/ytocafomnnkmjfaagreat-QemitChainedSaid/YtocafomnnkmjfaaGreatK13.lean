import Derived.Test.YtocafomnnkmjfaaGreatK12
set_option maxRecDepth 100000
set_option maxHeartbeats 1000000
namespace Go.Proofs.YtocafomnnkmjfaaGreat
open Go.RowKit
theorem zer (l m:List Int):zeq (l++m)=zeq l++zeq m:=by
 have h:(zeq (l++m)).data=(zeq l++zeq m).data:=by
  apply Array.ext';rw [zet,List.map_append,ByteArray.data_append,Array.toList_append,zet,zet]
 exact ByteArray.ext h
section
variable {P:Program} {w0:World} {G:Gs} {N:Nd} {S:List Ow} {f:Fr} {o:Oper}
theorem zwq {K:Fr→List Ow→Prop} (h:QRun P w0 G S f o fun v=>K (f.put o.dst v) S) (hdst:zjc N.n o.dst=true):OpS P w0 G N o f S K:=
 ⟨fun r a w hR hf hN hd next Q hK=>by
  obtain ⟨v,u,hk,hv,hrun⟩:=h.use hR hf
  exact ya8 (hrun w (Below.refl _ _)) (hK _ _ _ _ hk ⟨r,hR,hf.put hv (by rw [hN];exact hdst),(zzh a _ _).trans hN,(zze a _ _).trans hd⟩)⟩
theorem zz1 {K:AV→Prop} {t t':TypeId} {x y:Operand} (l m:List Int) (hop:o.op= .binOp .add t x y t') (hx:f.ev x=one (strV l)) (hy:f.ev y=one (strV m)) (hlen:l.length+m.length≤9223372036854775807) (hk:K (one (strV (l++m)))):QRun P w0 G S f o K:=by
 refine ⟨_,hk,fun r a hf=>?_⟩;have h1:=hf.ev x;have h2:=hf.ev y;rw [hx] at h1;rw [hy] at h2;refine ⟨_,rfl,fun w hR=>?_⟩
 have hb:¬((((zeq l).size+(zeq m).size:Nat):Int)>IntKind.i64.max):=by
  rw [zeu,zeu];show ¬(_>(9223372036854775807:Int));omega
 have hb':¬(IntKind.i64.max<((zeq l).size:Int)+((zeq m).size:Int)):=by omega
 simp [execOp,hop,zi6 h1,zi6 h2,strV,binOp,Op.stringOp,eqGuard,zer]
 rw [zeu,zeu];omega
theorem z0i {K:AV→Prop} {t e:TypeId} {x:Operand} {lo hi:Option Operand} {inf:TypeInfo} (i off n c l h size:Nat) (hop:o.op= .slice t x lo hi none) (ht:P.underlying t=some (.slice e)) (hif:P.info? e=some inf) (hsz:inf.size=size) (hx:f.ev x= .p (.c (.sl i off n c)))
  (hl:(lo=none∧l=0)∨∃ y q,lo=some y∧f.ev y=one (.int q (l:Int))) (hh:(hi=none∧h=n)∨∃ y q,hi=some y∧f.ev y=one (.int q (h:Int))) (hlh:l≤h) (hhc:h≤c) (hlc:l<c) (hk:K (.p (.c (.sl i (off+l*size) (h-l) (c-l))))):QRun P w0 G S f o K:=by
 refine ⟨_,hk,fun r a hf=>?_⟩;have h1:=hf.ev x;rw [hx] at h1;obtain ⟨b,hb,hu⟩:=zi5 h1;refine ⟨.slice (some ⟨b,off+l*size,none⟩) (h-l) (c-l),?_,fun w hR=>?_⟩
 ·simp only [AV.den,Pc.den,CV.den];exact ⟨b,hb,rfl⟩
 ·have hrun:=z2k ht hif (some ⟨b,off,none⟩) n c l h (lo.map a.eval) (hi.map a.eval) (by
   rcases hl with ⟨rfl,rfl⟩|⟨y,q,rfl,hy⟩
   ·exact .inl ⟨rfl,rfl⟩
   ·have h2:=hf.ev y;rw [hy] at h2;exact .inr ⟨q,by simp [zi6 h2]⟩) (by
   rcases hh with ⟨rfl,rfl⟩|⟨y,q,rfl,hy⟩
   ·exact .inl ⟨rfl,rfl⟩
   ·have h2:=hf.ev y;rw [hy] at h2;exact .inr ⟨q,by simp [zi6 h2]⟩) hlh hhc w
  rw [if_neg zO] at hrun;simp [execOp,hop,hu,hrun,za0,hsz]
end
theorem zfi {P:Program} {N:Nat} {c:Code} {fn:Func} {R:Ending→World→Prop} {fid:FuncId} {w:World} {G:Gs} {S0:List Ow} {r0:Env} (avs:List AV) (args:List Value) (hf:P.funcs[fid]?=some fn) (hN:fn.ntmps=N) (hb:fn.body=some c) (hle:args.length≤N) (hR:Rel w G S0 r0 w) (hargs:zc1 r0 avs args)
  (h:SatQ P w G ⟨N,[]⟩ c (zb1 avs 0) S0 (bodyPostM Fence.wide 10 P fn R)):Calls P fid args.toArray w R:=by
 refine callsIn_wide.1 (callsIn_of_wp_marks (n:=10) hf hb trivial (h.out _ w ⟨r0,hR,fun i=>?_,by simp;omega,rfl⟩));refine zb2 (r:=r0) avs args 0 hargs (fun j u hj=>?_) i;rw [Nat.zero_add,Array.getD_eq_getD_getElem?,Array.getElem?_append_left (by simp;rcases Nat.lt_or_ge j args.length with h1|h1;exact h1;rw [List.getElem?_eq_none h1] at hj;cases hj)];have:args.toArray[j]?=some u:=(by simpa using hj);rw [this];rfl
theorem z3b {P:Program} {w0:World} {G:Gs} {N:Nd} {c:Code} {f:Fr} {S:List Ow} {Q:Exit→Act→World→Prop} {α:Type} (T:α→Fr) (J:α→World→Prop) (m:α→Nat) (x0:α) (hf:FLe (plF f) (T x0)) (hJ:∀ r w,Rel w0 G S r w→J x0 w) (hround:∀ x w,J x w→SatQ P w Gs.nil N c (T x) [] (zan N T J m (m x) Q)):SatQ P w0 G N (.loop c) f S Q:=
 z3a T J m x0 (fun r w hR=>⟨fun _a hf'=>hf.den (zyo hf'),hJ r w hR⟩) hround
section
variable {P:Program} {w0:World} {G:Gs} {N:Nd} {S:List Ow} {f:Fr} {o:Oper}
theorem zz9 {K:AV→Prop} {t e:TypeId} {x ix:Operand} {q:IntKind} {i:TypeInfo} (b off n size:Nat) (k:Int) (hop:o.op= .indexAddr t x ix) (ht:P.underlying t=some (.array n e)) (hi:P.info? e=some i) (hsz:i.size=size) (hx:f.ev x=one (.pointer (some ⟨b,off,none⟩))) (hix:f.ev ix=one (.int q k)) (h0:0≤k) (h1:k<(n:Int)) (hk:K (one (.pointer (some ⟨b,off+k.toNat*size,none⟩)))):QRun P w0 G S f o K:=by
 refine ⟨_,hk,fun r a hf=>?_⟩;have h2:=hf.ev x;have h3:=hf.ev ix;rw [hx] at h2;rw [hix] at h3;refine ⟨_,zi3 _ _,fun w hR=>?_⟩;have:=z2c ht hi (b:=b) (off:=off) (q:=q) h0 h1 w;simp [execOp,hop,zi6 h2,zi6 h3,this,hsz]
end
section
variable {P:Program} {w0:World} {G:Gs} {N:Nd} {c d:Code} {f:Fr} {S:List Ow} {Q:Exit→Act→World→Prop} {α:Type}
def MidW (N:Nd) (T:α→Fr) (J:α→World→Prop) (Q:Exit→Act→World→Prop):Exit→Act→World→Prop:=fun e a w=>match e with
 | .normal=>∃ y,FDen Env.none (T y) a∧a.tmps.size=N.n∧a.defers=N.ds∧J y w
 |e=>Q e a w
theorem z3d (T:α→Fr) (J:α→World→Prop) (hc:SatQ P w0 G N c f S (MidW N T J Q)) (hd:∀ y w,J y w→SatQ P w Gs.nil N d (T y) [] Q):SatQ P w0 G N (.seq c d) f S Q:=
 ⟨fun a w hg=>wpIn_seq (wpIn_mono (hc.out a w hg) fun e a' w' hq=>by
  cases e with
  |normal=>
   obtain ⟨y,hf,hN,hds,hJ⟩:=hq;exact (hd y w' hJ).out a' w' ⟨Env.none,z1o w',hf,hN,hds⟩
  |exit id=>exact hq
  |goto l=>exact hq
  |ret=>exact hq
  |panic ch=>exact hq
  |outgrown=>exact hq)⟩
theorem zca {T:α→Fr} {J:α→World→Prop} (y:α) (hf:FLe (plF f) (T y)) (hJ:∀ r w,Rel w0 G S r w→J y w):AtQ w0 G N .normal f S (MidW N T J Q):=
 ⟨fun _a w ⟨r,hR,hfd,hN,hds⟩=>⟨y,hf.den (zyo hfd),hN,hds,hJ r w hR⟩⟩
theorem zcj {T:α→Fr} {J:α→World→Prop} (h:AtQ w0 G N .ret f S Q):AtQ w0 G N .ret f S (MidW N T J Q):=⟨fun a w hg=>h.out a w hg⟩
end
structure BlkAt (w:World) (b:Blk) (A1 A2 A3:Option Addr):Prop where
 at_:SlAt w w.heap.size A1 (b.at_.map (.int .u32))
 pages:SlAt w w.heap.size A2 (b.pages.map (.int .i64))
 ops:OpsAt w w.heap.size A3 b.ops
theorem BlkAt.later {w w':World} {b:Blk} {A1 A2 A3:Option Addr} (h:BlkAt w b A1 A2 A3) (hB:Below w.heap.size w w'):BlkAt w' b A1 A2 A3:=⟨z59 h.at_ hB,z59 h.pages hB,z59 h.ops hB⟩
theorem zda {M:MemP} {a r:Int}:∀ {i k:Nat},M.bad a r i k=none→∀ j,i≤j→j<i+k→M.right ((a+j)%4294967296) r=true
 |i,0,_,j,h1,h2=>by omega
 |i,k+1,h,j,h1,h2=>by
  unfold MemP.bad at h
  split at h
  ·rename_i hr
   by_cases e:j=i
   ·rw [e];exact hr
   ·exact zda h j zO zO
  ·cases h
theorem z10 {M:MemP} {a r:Int} (h:M.right a r=true):a<(M.data.length:Int):=by
 unfold MemP.right at h;simp only [Bool.and_eq_true,decide_eq_true_eq] at h;exact h.1
def MemP.get (M:MemP) (x:Int):Int:=(M.data[x.toNat]?).getD 0
def MemP.load (M:MemP) (a:Int):Nat→Nat→Int
 |_,0=>0
 |i,k+1=>(M.load a (i+1) k*256+M.get ((a+i)%4294967296))%4294967296
def MemP.loadV (M:MemP) (a:Int) (m:Nat):Value:=match M.bad a 1 0 m with|none=>valV (M.load a 0 m) 0 true|some y=>valV 0 y false
theorem ztl (M:MemP) (a:Int) {i m:Nat} (h:i<m):M.load a i (m-i)=(M.load a (i+1) (m-(i+1))*256+M.get ((a+i)%4294967296))%4294967296:=by
 obtain ⟨k,hk⟩:∃ k,m-i=k+1:=⟨m-i-1,by omega⟩
 rw [hk,show m-(i+1)=k by omega];rfl
theorem zto (M:MemP) (a:Int) (i k:Nat):word (M.load a i k):=by
 cases k with
 |zero=>exact yap
 |succ k=>exact yau _
theorem zoq {M:MemP} {n p:Nat} (hM:M.ok n p) {x:Int} (h0:0≤x) (hx:x<(n:Int)):(M.dV.map CV.v)[x.toNat]?=some (.v (zem (M.get x)))∧0≤M.get x∧M.get x<256:=by
 obtain ⟨y,hy⟩:∃ y,M.data[x.toNat]?=some y:=⟨_,List.getElem?_eq_getElem (by rw [hM.ld];omega)⟩
 have hb:=hM.db y (List.mem_of_getElem? hy);unfold MemP.get;rw [hy];exact ⟨z8a hy,hb⟩
theorem zul (M:MemP) (n p:Nat) (a:Int) (m:Nat) (w:World) (g:Nat) (gs:List Nat) (hU:ObjsAt w (g::gs) (memS 0 n p M)) (hM:M.ok n p) (ha:word a) (hm:1≤m∧m≤4):
  Calls Tryz.prog 140 #[.pointer (some ⟨g,0,none⟩),.int .u32 a,.int .i64 (m:Int)] w fun e w'=>e= .returned (M.loadV a m)∧ObjsAt w' (g::gs) (memS 0 n p M)∧GrownBys w w' (g::gs):=by
 obtain ⟨g0,g1,g2,g3,g4,g5,hg⟩:=z5w hU;injection hg with hg0 hgs;subst hgs;subst hg0;refine zfe [.p (.c (.ref 0 0)),one (.int .u32 a),one (.int .i64 (m:Int))] [.pointer (some ⟨g,0,none⟩),.int .u32 a,.int .i64 (m:Int)] Tryz.func140 Tryz.ntmps140 rfl zS hU ⟨_,_,rfl,zi1 rfl,zc6 [.int .u32 a,.int .i64 (m:Int)]⟩ ?_;(conv=>whnf);refine ze4 (pre:=[]) (suf:=[one (.int .u32 a),one (.int .i64 (m:Int)),one (.int .i64 1)]) 0 n p M (zf1 (M.bad a 1 0 m)) zt7 rfl rfl zK (fun w' g gs hk hU=>zuf M n p a 1 m w' g gs hU hM ha (.inl rfl) hm) ?_
 cases hbad:M.bad a 1 0 m with
 |some y=>
  conv=>whnf
  refine ⟨fun hc=>absurd hc (by decide),fun _=>?_⟩
  conv=>whnf
  exact zmn rfl rfl zt8 (zuc n p M) fun w' h1 h2=>⟨by unfold MemP.loadV;rw [hbad];rfl,h1,h2⟩
 |none=>
  (conv=>whnf);refine ⟨fun _=>?_,fun hc=>absurd hc (by decide)⟩;(conv=>whnf);refine ⟨_,wr64 zO,?_⟩;(conv=>whnf);have e0:M.load a m (m-m)=0:=(by rw [Nat.sub_self];rfl)
  refine ⟨{i:Nat//i≤m},fun x=>[(0,.p (.c (.ref 0 0))),(1,one (.int .u32 a)),(6,.p (.c (.ref 6 0))),(7,.p (.c (.ref 7 0))),(8,one (.int .i64 ((x.1:Int)-1)))],fun x=>memL 0 n p M [.cells 220 [.v (.int .u32 0),.v (.int .u32 0),.v (.bool false)],.cells 220 [.v (.int .u32 (M.load a x.1 (m-x.1))),.v (.int .u32 0),.v (.bool true)]],fun x=>x.1,
   ⟨⟨m,by omega⟩,zkb rfl Tn (aI sM (aI sM (aI sM (aI sM (aI sM (aI sM (aI sM (aI ((aI rfl (Or.inl (by rw [e0])))) trivial))))))))⟩,fun x=>?_⟩
  obtain ⟨i,hi⟩:=x;dsimp only;(conv=>whnf);refine ⟨fun hc=>?_,fun hc=>?_⟩
  ·have hpos:0<i:=by simp at hc;omega
   obtain ⟨k,rfl⟩:∃ k,i=k+1:=⟨i-1,by omega⟩
   have hk:k<m:=(by omega);have hx:=z10 (zda hbad k zO zO);rw [hM.ld] at hx;have hx0:0≤(a+(k:Int))%4294967296:=(by omega);obtain ⟨hget,hb0,hb1⟩:=zoq hM hx0 hx;have hst:=ztl M a hk;have hlw:word (M.load a (k+1) (m-(k+1))):=zto M a _ _;rw [show (((k+1:Nat):Int)-1)=(k:Int) by omega];have hl0:0≤M.load a (k+1) (m-(k+1)):=hlw.1;(conv=>whnf);refine z2x 16 mixed zK ?_;(conv=>whnf);refine ⟨_,wr32 _,?_⟩;(conv=>whnf);refine ⟨(k:Int),by rw [wr32];omega,?_⟩;(conv=>whnf);refine ⟨(a+(k:Int))%4294967296,wr32 _,?_⟩;(conv=>whnf);refine ⟨⟨by omega,by omega⟩,?_⟩;(conv=>whnf);rw [show (List.map CV.v M.dV)[0+((a+(k:Int))%4294967296).toNat*tsz Tryz.prog 5]?=some (.v (zem (M.get ((a+k)%4294967296)))) by show (List.map CV.v M.dV)[0+((a+(k:Int))%4294967296).toNat*1]?=_;rw [Nat.zero_add,Nat.mul_one];exact hget];(conv=>whnf);refine ⟨M.get ((a+k)%4294967296),by rw [wr32];omega,?_⟩;(conv=>whnf);refine ⟨M.load a k (m-k),by rw [wr32,hst];omega,?_⟩;(conv=>whnf);refine ⟨_,wr64 zO,?_⟩;(conv=>whnf);exact ⟨⟨k,by omega⟩,zkb rfl Tn Tn,by show k<k+1;omega⟩
  ·have hi0:i=0:=by simp at hc;omega
   subst hi0;(conv=>whnf);refine ⟨_,_,zj7,?_⟩;(conv=>whnf)
   exact zmn rfl rfl zt8 (zuc n p M) fun w' h1 h2=>⟨by unfold MemP.loadV;rw [hbad];rfl,h1,h2⟩
inductive K5 where
 |k0|k1|k2|k3|k4
inductive KSt where
 |l0|l1|l2|l3
 |c (k:K5) (a b c d:Bool)
 |s1|s2|s3|s4
def K5.ge:K5→Nat→Bool
 | .k0,_=>false
 | .k1,i=>Nat.beq i 0
 | .k2,i=>Nat.blt i 2
 | .k3,i=>Nat.blt i 3
 | .k4,_=>true
def K5.left:K5→Nat
 | .k0=>4
 | .k1=>3
 | .k2=>2
 | .k3=>1
 | .k4=>0
def KSt.listed:KSt→Array Bool
 | .l0=> #[false,false,false,false,false,false,false,false,false,false,false,false,false,false,false,false]
 | .l1=> #[true,false,false,false,false,false,false,false,false,false,false,false,false,false,false,false]
 | .l2=> #[true,false,true,false,false,false,false,false,false,false,false,false,false,false,false,false]
 | .l3=> #[true,false,true,false,true,false,false,false,false,false,false,false,false,false,false,false]
 | .c k a b e d=> #[true,k.ge 0,true,k.ge 1,true,k.ge 2,true,k.ge 3,a,b,e,d,false,false,false,false]
 | .s1=> #[true,true,true,true,true,true,true,true,true,true,true,true,true,false,false,false]
 | .s2=> #[true,true,true,true,true,true,true,true,true,true,true,true,true,true,false,false]
 | .s3=> #[true,true,true,true,true,true,true,true,true,true,true,true,true,true,true,false]
 | .s4=> #[true,true,true,true,true,true,true,true,true,true,true,true,true,true,true,true]
def KSt.calls (a b e d:Bool):K5→List (Nat×KSt)
 | .k0=>[(1,.c .k1 a b e d)]
 | .k1=>[(3,.c .k2 a b e d)]
 | .k2=>[(5,.c .k3 a b e d)]
 | .k3=>[(7,.c .k4 a b e d)]
 | .k4=>[]
def KSt.box (i:Nat) (y:KSt):Bool→List (Nat×KSt)
 |false=>[(i,y)]
 |true=>[]
def KSt.last:K5→Bool→Bool→Bool→Bool→List (Nat×KSt)
 | .k4,true,true,true,true=>[(12,.s1)]
 |_,_,_,_,_=>[]
def KSt.nx:KSt→Nx KSt
 | .l0=> .q 0 .l1
 | .l1=> .q 2 .l2
 | .l2=> .q 4 .l3
 | .l3=> .q 6 (.c .k0 false false false false)
 | .c k a b e d=> .alts (KSt.calls a b e d k++(KSt.box 8 (.c k true b e d) a++(KSt.box 9 (.c k a true e d) b++(KSt.box 10 (.c k a b true d) e++(KSt.box 11 (.c k a b e true) d++KSt.last k a b e d)))))
 | .s1=> .alts [(13,.s2)]
 | .s2=> .alts [(14,.s3)]
 | .s3=> .alts [(15,.s4)]
 | .s4=> .done
def bleft:Bool→Nat
 |true=>0
 |false=>1
def KSt.left:KSt→Nat
 | .l0=>16
 | .l1=>15
 | .l2=>14
 | .l3=>13
 | .c k a b e d=>4+k.left+bleft a+bleft b+bleft e+bleft d
 | .s1=>3
 | .s2=>2
 | .s3=>1
 | .s4=>0
section
variable (P:Program) (W:World) (G:Gs) (N:Nd) {α:Type}
def altK (ops:Array Oper) (l:List Oper) (T:α→Fr) (U:α→List Ow) (x:α) (i:Nat) (y:α):Prop:=
 match l[i]? with
 |none=>False
 |some o=>(match zo5 ops (T x) o with
  |some true=>opK P W G N o (T x) (U x) fun f' S'=>Ent W G N f' S' (T y) (U y)
  |_=>False)
end
section
variable {P:Program} {W:World} {G:Gs} {N:Nd} {l:List Oper} {T:KSt→Fr} {U:KSt→List Ow}
end
theorem zkk {P:Program} {d:Nat} {xs ys:Array Value} {f:Field} {fs:List Field} {w:World} {a b:Value} (hn:f.name≠ "_") (h1:(part f.type xs f.offset).run P w= .ok a w) (h2:(part f.type ys f.offset).run P w= .ok b w) (h3:(Op.equalIn d f.type a b).run P w= .ok true w):(Op.eqFields d xs ys (f::fs)).run P w=(Op.eqFields d xs ys fs).run P w:=by
 simp only [Op.eqFields,hn,ne_eq,not_false_eq_true,if_true,Sem.run_bind,h1,h2,h3,Result.andThen_ok,Bool.not_true,Bool.false_eq_true,if_false]
structure FOk (f:QForm):Prop where
 bits:f.bits=0∨f.bits=18∨f.bits=22
 most:0≤f.most∧f.most≤4
 sgn:f.signed=true→0<f.bits∧f.most=0
theorem zns (op:Int):FOk (zzw op):=by
 obtain ⟨h1,h2,h3,h4,_⟩:=zzx op;exact ⟨h1,⟨h2,h3⟩,h4⟩
theorem shl1 {b:Nat} (h:b=18∨b=22):IntKind.u32.wrap (1*2^(min (b:Int).toNat IntKind.u32.bits))=2^b:=by
 rcases h with rfl|rfl<;>rfl
theorem zg7 {b:Nat} (h:b=18∨b=22):IntKind.u64.wrap (b:Int)=(b:Int):=by
 rcases h with rfl|rfl<;>rfl
theorem z9t (i:QI) (w:World) (h:0≤i.op∧i.op<64) (hi:word i.imm):Calls Tryz.prog 96 #[qiV i] w fun e w'=>e= .returned (.bool (z9h i))∧Below w.heap.size w w':=by
 refine zfk [qiV i] Tryz.func96 Tryz.ntmps96 rfl zS ?_;(conv=>whnf);refine ze2 rfl zK (fun r w' _=>zv4 i.op w' h) ?_;have hf:=zns i.op;unfold z9h;generalize zzw i.op=f at hf;(conv=>whnf)
 have e1:∀ (n:Int) (u:Bool),regB n u=true∨regB n u=false:=fun n u=>by cases regB n u<;>simp
 refine ⟨fun h1=>?_,fun h1=>?_⟩
 ·conv=>whnf
  refine zmp rfl fun w' hB=>⟨?_,hB⟩
  have:f.is=false:=by simpa using h1
  rw [this];rfl
 have his:f.is=true:=(by simpa using h1);(conv=>whnf);refine ze2 rfl zK (fun r w' _=>z1f i.d f.d w') ?_;(conv=>whnf);refine ze2 rfl zK (fun r w' _=>z1f i.a f.a w') ?_;(conv=>whnf);refine ze2 rfl zK (fun r w' _=>z1f i.b f.b w') ?_;rw [his];generalize regB i.d f.d=x1;generalize regB i.a f.a=x2;generalize regB i.b f.b=x3
 cases x1<;>cases x2<;>cases x3<;>((conv=>whnf);refine kA ?_)
 all_goals first|exact zmp rfl fun w' hB=>⟨rfl,hB⟩|skip
 obtain ⟨is,fd,fa,fb,fs,fbits,fmost⟩:=f;obtain ⟨hb,hm,hs⟩:=hf;dsimp only at hb hm hs his⊢;rcases hb with rfl|hb
 ·refine kA ?_
  conv=>whnf
  exact zmp rfl fun w' hB=>⟨rfl,hB⟩
 have hb0:¬fbits=0:=by omega
 refine ⟨fun hc=>absurd hc zV,fun _=>?_⟩
 conv=>whnf
 cases fs with
 |true=>
  refine kA ?_;(conv=>whnf);refine ze2 rfl zK (fun r w' _=>zm3 i.imm fbits w' hi (.inr hb)) ?_;(conv=>whnf)
  refine zmp rfl fun w' hB=>⟨?_,hB⟩
  simp [immB,hb0]
 |false=>
  refine kA ?_;(conv=>whnf);refine ⟨fun hc=>?_,fun hc=>?_⟩
  ·conv=>whnf
   refine zmp rfl fun w' hB=>⟨?_,hB⟩
   have:0<fmost:=(by simpa using hc);simp [immB,hb0,this]
  ·conv=>whnf
   refine ⟨_,zg7 hb,?_⟩;(conv=>whnf);refine ⟨by omega,_,shl1 hb,?_⟩;(conv=>whnf)
   refine zmp rfl fun w' hB=>⟨?_,hB⟩
   have:¬0<fmost:=(by simpa using hc);simp [immB,hb0,this]
def zei (n:Int) (j:Nat):Int:=n/2^(8*j)%256
def zy9 (n:Int) (j:Nat):List Int:=(List.range j).map (zei n)
def putL (n:Int):List Int:=zy9 n 4
theorem zzc (n:Int) (j:Nat):zy9 n (j+1)=zy9 n j++[zei n j]:=by
 unfold zy9;rw [List.range_succ,List.map_append];rfl
theorem zzb (n:Int) (j:Nat):(zy9 n j).length=j:=by unfold zy9;simp
theorem zej (n:Int) (j:Nat):0≤zei n j∧zei n j<256:=by unfold zei;omega
theorem zza (n:Int) (j:Nat):∀ x∈zy9 n j,0≤x∧x<256:=fun x hx=>by
 unfold zy9 at hx;obtain ⟨k,_,rfl⟩:=List.mem_map.1 hx;exact zej n k
theorem zeo {n:Int} (h:word n) {j:Nat} (hj:j<4):IntKind.u8.wrap (n.fdiv (2^(min ((8:Int)*j).toNat IntKind.u32.bits)))=zei n j:=by
 have h0:=h.1
 have e:(min ((8:Int)*j).toNat IntKind.u32.bits)=8*j:=by
  show min ((8:Int)*j).toNat 32=8*j;omega
 rw [e,Int.fdiv_eq_ediv_of_nonneg _ (Int.le_of_lt (Int.pow_pos zO))]
 rfl
theorem zzi (n:Int) (w:World) (hn:word n):Calls Tryz.prog 88 #[.int .u32 n,intV 4] w fun e w'=>e= .returned (strV (putL n))∧Below w.heap.size w w':=by
 refine zfj [.int .u32 n,intV 4] Tryz.func88 Tryz.ntmps88 rfl zS ?_;(conv=>whnf);refine ⟨{j:Nat//j≤4},fun x=>[(0,one (.int .u32 n)),(1,one (intV 4)),(5,one (strV (zy9 n x.1))),(6,one (intV (x.1:Int)))],fun x=>[],fun x=>4-x.1,⟨⟨0,by omega⟩,zkb rfl Tn trivial⟩,fun x=>?_⟩;obtain ⟨j,hj⟩:=x;dsimp only;have hlen:=zzb n j;have hs:=zzc n j;generalize hl:zy9 n j=l at hlen hs⊢;(conv=>whnf);refine ⟨decide ((j:Int)<4),fun _=>?_,?_⟩
 ·conv=>whnf
  exact ⟨rfl,rfl,rfl,rfl,rfl⟩
 conv=>whnf
 refine ⟨fun hc=>?_,fun hc=>?_⟩
 ·have hlt:j<4:=by simp [cmb] at hc;omega
  (conv=>whnf);refine ⟨(8:Int)*j,wr64 zO,?_⟩;(conv=>whnf);refine ⟨by omega,_,rfl,?_⟩;(conv=>whnf);refine ⟨zei n j,zeo hn hlt,?_⟩;(conv=>whnf);refine zz5 0 1 1 [zei n j] rfl rfl rfl rfl rfl rfl rfl ?_;(conv=>whnf);refine zz1 l [zei n j] rfl rfl rfl zV ?_;(conv=>whnf);refine ⟨_,wr64 zO,?_⟩;(conv=>whnf);exact ⟨⟨j+1,by omega⟩,zj2 (aI rfl (aI rfl (aI ((by rw [hs];rfl)) (aI rfl trivial)))) trivial rfl rfl,by show 4-(j+1)<4-j;omega⟩
 ·have hje:j=4:=by simp [cmb] at hc;omega
  subst hje;(conv=>whnf);refine ⟨_,_,zj7,?_⟩;(conv=>whnf)
  exact zmp rfl fun w' hB=>⟨by rw [← hl];rfl,hB⟩
structure KillS (P:Program) (w0:World) (G:Gs) (fid:FuncId) (args:List AV) (f:Fr) (S:List Ow) (K:AV→Fr→List Ow→Prop):Prop where
 ok:fnOk P fid=true
 out:∀ r w us,Rel w0 G S r w→zc1 r args us→Calls P fid us.toArray w fun e w'=>∃ u x f2 S2 r2,e= .returned u∧Rel w0 G S2 r2 w'∧(∀ a,FDen r f a→FDen r2 f2 a)∧x.den r2 u∧K x f2 S2
section
variable {P:Program} {w0:World} {G:Gs} {N:Nd} {c d:Code} {f:Fr} {S:List Ow} {Q:Exit→Act→World→Prop}
end
theorem zdy {n k:Nat} (h:k<n):Nat.ble n k=false:=by
 cases e:Nat.ble n k
 ·rfl
 ·exact absurd (Nat.le_of_ble_eq_true e) zO
def MemP.put (M:MemP) (y v:Int):MemP:={M with data:=M.data.set y.toNat v}
def MemP.store (a:Int):Nat→Nat→Int→MemP→MemP
 |_,0,_,M=>M
 |i,k+1,x,M=>MemP.store a (i+1) k (x/256) (M.put ((a+i)%4294967296) (x%256))
def MemP.storeM (M:MemP) (a:Int) (m:Nat) (x:Int):MemP:=match M.bad a 2 0 m with|none=>MemP.store a 0 m x M|some _=>M
theorem z7r (M:MemP) (a x:Int) {i m:Nat} (h:i<m):MemP.store a i (m-i) x M=MemP.store a (i+1) (m-(i+1)) (x/256) (M.put ((a+i)%4294967296) (x%256)):=by
 obtain ⟨k,hk⟩:∃ k,m-i=k+1:=⟨m-i-1,by omega⟩
 rw [hk,show m-(i+1)=k by omega];rfl
theorem zzg {M:MemP} {n p:Nat} (hM:M.ok n p) (y:Int) {v:Int} (hv:0≤v∧v<256):(M.put y v).ok n p:=
 ⟨by show (M.data.set y.toNat v).length=n;rw [List.length_set];exact hM.ld,hM.li,hM.lr,hM.lod,hM.loi,hM.np,hM.pmax,fun z hz=>by
  rcases List.mem_or_eq_of_mem_set hz with h|h
  ·exact hM.db z h
  ·rw [h];exact hv,hM.ib,hM.rb⟩
theorem z7q {n p:Nat} (a:Int):∀ (i k:Nat) (x:Int) {M:MemP},M.ok n p→0≤x→(MemP.store a i k x M).ok n p
 |_,0,_,M,h,_=>h
 |i,k+1,x,M,h,hx=>z7q a (i+1) k (x/256) (zzg h _ zO) zO
theorem z7m {M:MemP} {n p:Nat} (hM:M.ok n p) (a:Int) (m:Nat) {x:Int} (hx:0≤x):(M.storeM a m x).ok n p:=by
 unfold MemP.storeM
 split
 ·exact z7q a 0 m x hM hx
 ·exact hM
theorem z4h (us:List Value) (i:Nat) (u:Value):z3z (us.map CV.v) i [.v u]=(us.set i u).map CV.v:=by
 show (us.map CV.v).set i (.v u)=_;rw [List.map_set]
theorem zzd (M:MemP) {y:Int} (v:Int) (h:y.toNat<M.data.length):M.dV.set y.toNat (zem v)=(M.put y v).dV:=z8c h
theorem zuu (M:MemP) (n p:Nat) (a:Int) (m:Nat) (x:Int) (w:World) (g:Nat) (gs:List Nat) (hU:ObjsAt w (g::gs) (memS 0 n p M)) (hM:M.ok n p) (ha:word a) (hm:1≤m∧m≤4) (hx:word x):
  Calls Tryz.prog 142 #[.pointer (some ⟨g,0,none⟩),.int .u32 a,.int .i64 (m:Int),.int .u32 x] w fun e w'=>e= .returned (zf1 (M.bad a 2 0 m))∧ObjsAt w' (g::gs) (memS 0 n p (M.storeM a m x))∧GrownBys w w' (g::gs):=by
 obtain ⟨g0,g1,g2,g3,g4,g5,hg⟩:=z5w hU;injection hg with hg0 hgs;subst hgs;subst hg0;refine zfe [.p (.c (.ref 0 0)),one (.int .u32 a),one (.int .i64 (m:Int)),one (.int .u32 x)] [.pointer (some ⟨g,0,none⟩),.int .u32 a,.int .i64 (m:Int),.int .u32 x] Tryz.func142 Tryz.ntmps142 rfl zS hU ⟨_,_,rfl,zi1 rfl,zc6 [.int .u32 a,.int .i64 (m:Int),.int .u32 x]⟩ ?_;(conv=>whnf);refine ze4 (pre:=[]) (suf:=[one (.int .u32 a),one (.int .i64 (m:Int)),one (.int .i64 2)]) 0 n p M (zf1 (M.bad a 2 0 m)) zt7 rfl rfl zK (fun w' g gs hk hU=>zuf M n p a 2 m w' g gs hU hM ha (.inr (.inl rfl)) hm) ?_
 cases hbad:M.bad a 2 0 m with
 |some y=>
  conv=>whnf
  refine ⟨fun hc=>absurd hc (by decide),fun _=>?_⟩
  conv=>whnf
  exact zmn rfl rfl zt8 (zuc n p M) fun w' h1 h2=>⟨rfl,by unfold MemP.storeM;rw [hbad];exact h1,h2⟩
 |none=>
  conv=>whnf
  refine ⟨fun _=>?_,fun hc=>absurd hc (by decide)⟩
  conv=>whnf
  refine ⟨{y:Nat×Int×MemP//y.1≤m∧y.2.2.ok n p∧word y.2.1∧MemP.store a 0 m x M=MemP.store a y.1 (m-y.1) y.2.1 y.2.2},fun y=>[(0,.p (.c (.ref 0 0))),(1,one (.int .u32 a)),(2,one (.int .i64 (m:Int))),(3,one (.int .u32 y.1.2.1)),(8,.p (.c (.ref 6 0))),(9,.p (.c (.ref 7 0))),(10,one (.int .i64 (y.1.1:Int)))],fun y=>memL 0 n p y.1.2.2 [.cells 220 [.v (.int .u32 0),.v (.int .u32 0),.v (.bool false)],.cells 220 [.v (.int .u32 0),.v (.int .u32 0),.v (.bool true)]],fun y=>m-y.1.1,
   ⟨⟨(0,x,M),by show 0≤m;omega,hM,hx,rfl⟩,zkb rfl Tn Tn⟩,fun y=>?_⟩
  obtain ⟨⟨i,z,Q⟩,hi,hQ,hz,heq⟩:=y;dsimp only at hi hQ hz heq⊢;(conv=>whnf);refine ⟨fun hc=>?_,fun hc=>?_⟩
  ·have hlt:i<m:=by simpa using hc
   have hidx:=z10 (zda hbad i zO zO);rw [hM.ld] at hidx;have hx0:0≤(a+(i:Int))%4294967296:=(by omega);have hz':0≤z∧z<4294967296:=hz;have hnp:=hM.np;have hlen:n≤(List.map CV.v Q.dV).length:=z8b hQ.ld;(conv=>whnf);refine ⟨(i:Int),by rw [wr32];omega,?_⟩;(conv=>whnf);refine ⟨(a+(i:Int))%4294967296,wr32 _,?_⟩;(conv=>whnf);refine ⟨z%256,rfl,?_⟩;(conv=>whnf);refine ⟨⟨by omega,by omega⟩,?_⟩;(conv=>whnf);rw [show Nat.ble (0+((a+(i:Int))%4294967296).toNat*tsz Tryz.prog 5+[CV.v (Value.int IntKind.u8 (z%256))].length) (List.map CV.v Q.dV).length=true from Nat.ble_eq_true_of_le (by refine Nat.le_trans ?_ hlen;show 0+_*1+1≤n;omega)];(conv=>whnf);rw [show Nat.ble (List.map CV.v Q.dV).length 8=false from zdy zO];(conv=>whnf);refine ⟨by decide,z/256,by rw [Int.tdiv_eq_ediv_of_nonneg hz'.1,wr32];omega,?_⟩;(conv=>whnf);refine ⟨_,wr64 zO,?_⟩;(conv=>whnf)
   have hset:z3z (List.map CV.v Q.dV) (0+((a+(i:Int))%4294967296).toNat*tsz Tryz.prog 5) [CV.v (Value.int IntKind.u8 (z%256))]=List.map CV.v (Q.put ((a+(i:Int))%4294967296) (z%256)).dV:=by
    rw [z4h, ← zzd Q _ (by rw [hQ.ld];omega)];show List.map CV.v (Q.dV.set (0+((a+(i:Int))%4294967296).toNat*1) _)=_;rw [Nat.zero_add,Nat.mul_one]
   exact ⟨⟨(i+1,z/256,Q.put ((a+(i:Int))%4294967296) (z%256)),by show i+1≤m;omega,zzg hQ _ zO,(by show 0≤z/256∧z/256<4294967296;omega),by rw [heq,z7r Q a z hlt]⟩,zkb rfl Tn (aI sM (aI ((aI rfl (Or.inl hset))) Tn)),by show m-(i+1)<m-i;omega⟩
  ·have hie:i=m:=by simp at hc;omega
   subst hie;rw [Nat.sub_self] at heq;(conv=>whnf);refine ⟨_,_,zj7,?_⟩;(conv=>whnf)
   exact zmn rfl rfl zt8 (zuc n p Q) fun w' h1 h2=>⟨rfl,by unfold MemP.storeM;rw [hbad];show ObjsAt w' _ (memS 0 n p (MemP.store a 0 i x M));rw [heq];exact h1,h2⟩
def MemP.setI (M:MemP) (i:Nat) (v:Int):MemP:={M with image:=M.image.set i v}
def MemP.syncTo (M:MemP) (b:Nat):Nat→MemP
 |0=>M
 |j+1=>(M.syncTo b j).setI (b+j) (M.get ((b+j:Nat):Int))
theorem z39 {M:MemP} {n p:Nat} (hM:M.ok n p) (i:Nat) {v:Int} (hv:0≤v∧v<256):(M.setI i v).ok n p:=by
 refine ⟨hM.ld,by show (M.image.set i v).length=n;rw [List.length_set];exact hM.li,hM.lr,hM.lod,hM.loi,hM.np,hM.pmax,hM.db,fun x hx=>?_,hM.rb⟩;rcases List.mem_or_eq_of_mem_set hx with h|h
 ·exact hM.ib x h
 ·rw [h];exact hv
theorem z71 {M:MemP} {n p:Nat} (hM:M.ok n p) (b:Nat):∀ j,(M.syncTo b j).ok n p
 |0=>hM
 |j+1=>z39 (z71 hM b j) _ (by
  unfold MemP.get
  cases h:M.data[((b+j:Nat):Int).toNat]? with
  |none=>simp
  |some x=>exact hM.db x (List.mem_of_getElem? h))
theorem z7y (M:MemP) (b:Nat):∀ j,(M.syncTo b j).data=M.data∧(M.syncTo b j).rights=M.rights∧(M.syncTo b j).oldData=M.oldData∧(M.syncTo b j).oldImage=M.oldImage
 |0=>⟨rfl,rfl,rfl,rfl⟩
 |j+1=>z7y M b j
theorem z38 (M:MemP) {i:Nat} (v:Int) (h:i<M.image.length):M.iV.set i (zem v)=(M.setI i v).iV:=z8c h
end Go.Proofs.YtocafomnnkmjfaaGreat
