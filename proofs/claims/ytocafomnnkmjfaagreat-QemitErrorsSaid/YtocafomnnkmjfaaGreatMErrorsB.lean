import Derived.Test.YtocafomnnkmjfaaGreatMErrorsA
set_option maxRecDepth 100000
namespace Go.Proofs.YtocafomnnkmjfaaGreat
open Go.RowKit
theorem yel (W i:Nat) {t:Nat} (h:t<8):z33 (zsf i (List.map CV.v (wrC W))) t [CV.v (Value.bool true)]=(wrC (W|||2^(20+t))).map .v:=by
 have e:∀ j,(W|||2^(20+t)).testBit j=(W.testBit j||decide (20+t=j)):=fun j=>by rw [Nat.testBit_or,Nat.testBit_two_pow]
 simp only [wrC,e]
 rcases t with _|_|_|_|_|_|_|_|t<;>first|(exfalso;omega)|(simp [z33,zsf,CV.kill,CV.names])
theorem ycz (A:Option Addr) (m c:Nat) (xs:List Int) (k:Int) (g:Nat) (w:World) (hs:zao w ⟨[g],[]⟩ A (xs.map (.int .i64))) (hl:xs.length=m) (hm:0≤m) (hk:0≤k∧k<900000)
  (hg:w.heap[g]?=some (.cells (mkC A m c k).toArray 125 (0,0))):
  Calls Tryz.prog 61 #[.pointer (some ⟨g,0,none⟩)] w fun e w'=>∃ v n ys us',(∃ (l:List BOp) (W:Nat) (ch:Bool) (k':Int),BodyOk l W ch∧n=l.length∧ys=l.flatMap opC∧l.length≤10∧us'=mkC A m c k'∧0≤k'∧k'≤k+200)∧e= .returned v∧w'.ownsRow w.heap.size 61 5 v n ys∧w'.heap[g]?=some (.cells us'.toArray 125 (0,0))∧w.grownBy w' (some g):=by
 refine zfd [] Tryz.func61 Tryz.ntmps61 rfl zS hg ?_
 refine z3k ?_
 conv=>whnf
 refine z3k ?_
 conv=>whnf
 refine z3k ?_
 conv=>whnf
 refine z3k ?_
 conv=>whnf
 refine yca 0 rfl hs hl hm zO zO fun n0 n00 n01=>?_
 conv=>whnf
 refine ⟨Ins1 (k+1),fun x=>[(0,.p (.c (.ref 0 0))),(3,.p (.c (.row 2))),(4,.p (.c (.ref 1 0))),(5,one (.int .i64 x.n))],
  fun x=>[.cells 125 ((mkC A m c x.k).map .v),.cells 191 ((wrC x.W).map .v),.row 61 5 x.l.length (x.l.flatMap opC)],
  fun x=>x.n.toNat,⟨⟨n0,[],0,k+1,by omega,BodyOk.nil,by simp;omega,by omega⟩,zj6 (yco 3 61 5 rfl) (zj5 rfl Tn (aI sM (aI ((aI rfl (Or.inl zS))) (aI ((aI rfl (aI rfl (aI rfl rfl)))) trivial))))⟩,fun x=>?_⟩
 ·obtain ⟨n,l,W,k1,hn,hb,hll,hk1⟩:=x
  dsimp only;(conv=>whnf);refine ⟨fun hc=>?_,fun hc=>?_⟩
  ·have hpos:0<n:=by simpa using hc
   (conv=>whnf);refine yca 0 rfl hs hl hm zO zO fun t t0 t1=>?_;(conv=>whnf);refine yb9 0 W rfl rfl hs hl hm zO fun a ha=>?_;(conv=>whnf);refine yca 0 rfl hs hl hm zO zO fun s s0 s1=>?_;(conv=>whnf);refine ⟨fun _=>?_,fun _=>?_⟩
   ·conv=>whnf
    refine ⟨_,wr64 zO,?_⟩;(conv=>whnf);refine ycc 0 rfl hs hl hm zO fun z hz=>?_;(conv=>whnf);refine zbi rfl ?_ rfl;(conv=>whnf);refine ⟨by omega,?_⟩;(conv=>whnf);refine ⟨fun _=>?_,fun hf=>absurd hf zV⟩;(conv=>whnf);refine ⟨⟨by omega,by omega⟩,?_⟩;(conv=>whnf);rw [show 0+t.toNat*tsz Tryz.prog 4=t.toNat from (Nat.zero_add _).trans (Nat.mul_one _),show Nat.ble (t.toNat+[CV.v (Value.bool true)].length) (zsf 2 (List.map CV.v (wrC W))).length=true from Nat.ble_eq_true_of_le (by show t.toNat+1≤8;omega),yel W 2 zO];(conv=>whnf);refine ⟨_,wr64 zO,?_⟩;(conv=>whnf);exact ⟨⟨n-1,l++[⟨1,20+t,0,0,z⟩],W|||2^(20+t).toNat,k1+1+1+1+2,by omega,(hb.const (d:=20+t) ⟨by omega,by omega,by omega⟩ hz).is (if_pos zO) zV,by simp;omega,by omega⟩,zjw Tn (aI sM (aI ((aI rfl (Or.inl (congrArg (fun z=>List.map CV.v (wrC (Nat.lor W (2^z)))) (show 20+t.toNat=(20+t).toNat by omega))))) (aI ((aI rfl (aI rfl (aI zS (by simp [opC]))))) trivial))) rfl rfl,by show (n-1).toNat<n.toNat;omega⟩
   (conv=>whnf);refine ⟨fun _=>?_,fun _=>?_⟩
   ·conv=>whnf
    refine yca 0 rfl hs hl hm zO zO fun q q0 q1=>?_;(conv=>whnf);refine ⟨_,wr64 zO,?_⟩;(conv=>whnf);refine ⟨_,wr64 zO,?_⟩;(conv=>whnf);refine ycc 0 rfl hs hl hm zO fun z hz=>?_;(conv=>whnf);refine zbi rfl ?_ rfl;(conv=>whnf);refine ⟨by omega,?_⟩;(conv=>whnf);refine ⟨fun _=>?_,fun hf=>absurd hf zV⟩;(conv=>whnf);refine ⟨⟨by omega,by omega⟩,?_⟩;(conv=>whnf);rw [show 0+t.toNat*tsz Tryz.prog 4=t.toNat from (Nat.zero_add _).trans (Nat.mul_one _),show Nat.ble (t.toNat+[CV.v (Value.bool true)].length) (zsf 2 (List.map CV.v (wrC W))).length=true from Nat.ble_eq_true_of_le (by show t.toNat+1≤8;omega),yel W 2 zO];(conv=>whnf);refine ⟨_,wr64 zO,?_⟩;(conv=>whnf);exact ⟨⟨n-1,l++[⟨16+q,20+t,a,0,z⟩],W|||2^(20+t).toNat,k1+1+1+1+1+2,by omega,hb.load (d:=20+t) ⟨by omega,by omega⟩ ⟨by omega,by omega⟩ ha hz rfl,by simp;omega,by omega⟩,zjw Tn (aI sM (aI ((aI rfl (Or.inl (congrArg (fun z=>List.map CV.v (wrC (Nat.lor W (2^z)))) (show 20+t.toNat=(20+t).toNat by omega))))) (aI ((aI rfl (aI rfl (aI zS (by simp [opC]))))) trivial))) rfl rfl,by show (n-1).toNat<n.toNat;omega⟩
   (conv=>whnf);refine ⟨fun _=>?_,fun _=>?_⟩
   ·conv=>whnf
    refine zbi rfl ?_ rfl;(conv=>whnf);refine ⟨by omega,?_⟩;(conv=>whnf);refine ⟨fun hf=>absurd hf (by decide),fun _=>?_⟩;(conv=>whnf);refine ⟨_,wr64 zO,?_⟩;(conv=>whnf);exact ⟨⟨n-1,l++[⟨21,0,a,0,0⟩],W,k1+1+1+1,by omega,hb.guard ha rfl,by simp;omega,by omega⟩,zjw Tn (aI sM (aI sM (aI ((aI rfl (aI rfl (aI zS (by simp [opC]))))) trivial))) rfl rfl,by show (n-1).toNat<n.toNat;omega⟩
   (conv=>whnf);refine yb9 0 W rfl rfl hs hl hm zO fun b hb'=>?_;(conv=>whnf);refine yca 0 rfl hs hl hm zO zO fun q q0 q1=>?_;(conv=>whnf);refine ⟨_,wr64 zO,?_⟩;(conv=>whnf);refine ⟨_,wr64 zO,?_⟩;(conv=>whnf);refine zbi rfl ?_ rfl;(conv=>whnf)
   ·refine ⟨by omega,?_⟩
    (conv=>whnf);refine ⟨fun _=>?_,fun hf=>absurd hf zV⟩;(conv=>whnf);refine ⟨⟨by omega,by omega⟩,?_⟩;(conv=>whnf);rw [show 0+t.toNat*tsz Tryz.prog 4=t.toNat from (Nat.zero_add _).trans (Nat.mul_one _),show Nat.ble (t.toNat+[CV.v (Value.bool true)].length) (zsf 2 (List.map CV.v (wrC W))).length=true from Nat.ble_eq_true_of_le (by show t.toNat+1≤8;omega),yel W 2 zO];(conv=>whnf);refine ⟨_,wr64 zO,?_⟩;(conv=>whnf);exact ⟨⟨n-1,l++[⟨3+q,20+t,a,b,0⟩],W|||2^(20+t).toNat,k1+1+1+1+1+1,by omega,(hb.bin (c:=3+q) (d:=20+t) ⟨by omega,by omega⟩ ⟨by omega,by omega,by omega⟩ ha hb').is (if_pos zO) zV,by simp;omega,by omega⟩,zjw Tn (aI sM (aI ((aI rfl (Or.inl (congrArg (fun z=>List.map CV.v (wrC (Nat.lor W (2^z)))) (show 20+t.toNat=(20+t).toNat by omega))))) (aI ((aI rfl (aI rfl (aI zS (by simp [opC]))))) trivial))) rfl rfl,by show (n-1).toNat<n.toNat;omega⟩
  ·conv=>whnf
   refine ⟨_,_,zj1,?_⟩;(conv=>whnf)
   refine z29 (α:=Ins2 k) (fun y=>[(0,.p (.c (.ref 0 0))),(3,.p (.c (.row 2))),(4,.p (.c (.ref 1 0)))])
    (fun y=>[.cells 125 ((mkC A m c y.k).map .v),.cells 191 ((wrC y.W).map .v),.row 61 5 y.l.length (y.l.flatMap opC)]) ?_ fun y=>?_
   ·conv=>whnf
    refine yca 0 rfl hs hl hm zO zO fun s s0 s1=>?_;(conv=>whnf);refine ⟨fun _=>?_,fun _=>?_⟩
    ·conv=>whnf
     refine yb9 0 W rfl rfl hs hl hm zO fun a ha=>?_;(conv=>whnf);refine yb9 0 W rfl rfl hs hl hm zO fun b hb'=>?_;(conv=>whnf);refine yca 0 rfl hs hl hm zO zO fun q q0 q1=>?_;(conv=>whnf);refine ⟨_,wr64 zO,?_⟩;(conv=>whnf);refine ycc 0 rfl hs hl hm zO fun z hz=>?_;(conv=>whnf);refine zbi rfl ?_ rfl;(conv=>whnf);refine ⟨by omega,?_⟩;(conv=>whnf);exact ⟨⟨l++[⟨18+q,0,a,b,z⟩],W,true,k1+1+1+1+1+2,hb.store (c:=18+q) ⟨by omega,by omega⟩ ha hb' hz rfl,by simp;omega,by omega⟩,zjw Tn (aI sM (aI sM (aI ((aI rfl (aI rfl (aI zS (by simp [opC]))))) trivial))) rfl rfl⟩
    ·conv=>whnf
     exact ⟨⟨l,W,false,k1+1,hb,by omega,by omega⟩,zjw Tn (aI sM (aI sM (aI ((aI rfl (aI rfl (aI rfl rfl)))) trivial))) rfl rfl⟩
   obtain ⟨l2,W2,ch2,k2,hb2,hl2,hk2⟩:=y;dsimp only;refine z3k ?_;(conv=>whnf);refine yca 0 rfl hs hl hm zO zO fun n2 n20 n21=>?_;(conv=>whnf)
   refine ⟨Ins3 (k2+1) W2,fun x=>[(0,.p (.c (.ref 0 0))),(3,.p (.c (.row 2))),(4,.p (.c (.ref 1 0))),(11,one (.int .i64 x.n))],
    fun x=>[.cells 125 ((mkC A m c x.k).map .v),.cells 191 ((wrC W2).map .v),.row 61 5 x.l.length (x.l.flatMap opC)],
    fun x=>x.n.toNat,⟨⟨n2,l2,ch2,k2+1,by omega,hb2,by omega,by omega⟩,zj5 rfl Tn (aI sM (aI sM (aI ((aI rfl (aI rfl (aI rfl rfl)))) trivial)))⟩,fun x=>?_⟩
   obtain ⟨n,l,ch,k1,hn,hb,hll,hk1⟩:=x;dsimp only;(conv=>whnf);refine ⟨fun hc=>?_,fun hc=>?_⟩
   ·have hpos:0<n:=by simpa using hc
    (conv=>whnf);refine yca 0 rfl hs hl hm zO zO fun t t0 t1=>?_;(conv=>whnf);refine yb9 0 W2 rfl rfl hs hl hm zO fun a ha=>?_;(conv=>whnf);refine yca 0 rfl hs hl hm zO zO fun s s0 s1=>?_;(conv=>whnf);refine ⟨fun _=>?_,fun _=>?_⟩
    ·conv=>whnf
     refine ycc 0 rfl hs hl hm zO fun z hz=>?_;(conv=>whnf);refine zbi rfl ?_ rfl;(conv=>whnf)
     (refine ⟨by omega,?_⟩;(conv=>whnf);refine ⟨_,wr64 zO,?_⟩;(conv=>whnf);exact ⟨⟨n-1,l++[⟨1,t,0,0,z⟩],ch||decide (t<20),k1+1+1+1+2,by omega,(hb.const (d:=t) ⟨by omega,by omega,by omega⟩ hz).is (if_neg zO) rfl,by simp;omega,by omega⟩,zjw Tn (aI sM (aI sM (aI ((aI rfl (aI rfl (aI zS (by simp [opC]))))) trivial))) rfl rfl,by show (n-1).toNat<n.toNat;omega⟩)
    (conv=>whnf);refine ⟨fun _=>?_,fun _=>?_⟩
    ·conv=>whnf
     refine zbi rfl ?_ rfl;(conv=>whnf)
     (refine ⟨by omega,?_⟩;(conv=>whnf);refine ⟨_,wr64 zO,?_⟩;(conv=>whnf);exact ⟨⟨n-1,l++[⟨2,t,a,0,0⟩],ch||decide (t<20),k1+1+1+1,by omega,(hb.move (d:=t) ⟨by omega,by omega,by omega⟩ ha).is (if_neg zO) rfl,by simp;omega,by omega⟩,zjw Tn (aI sM (aI sM (aI ((aI rfl (aI rfl (aI zS (by simp [opC]))))) trivial))) rfl rfl,by show (n-1).toNat<n.toNat;omega⟩)
    (conv=>whnf);refine yb9 0 W2 rfl rfl hs hl hm zO fun b hb'=>?_;(conv=>whnf);refine yca 0 rfl hs hl hm zO zO fun q q0 q1=>?_;(conv=>whnf);refine ⟨_,wr64 zO,?_⟩;(conv=>whnf);refine zbi rfl ?_ rfl;(conv=>whnf)
    (refine ⟨by omega,?_⟩;(conv=>whnf);refine ⟨_,wr64 zO,?_⟩;(conv=>whnf);exact ⟨⟨n-1,l++[⟨3+q,t,a,b,0⟩],ch||decide (t<20),k1+1+1+1+1+1,by omega,(hb.bin (c:=3+q) (d:=t) ⟨by omega,by omega⟩ ⟨by omega,by omega,by omega⟩ ha hb').is (if_neg zO) rfl,by simp;omega,by omega⟩,zjw Tn (aI sM (aI sM (aI ((aI rfl (aI rfl (aI zS (by simp [opC]))))) trivial))) rfl rfl,by show (n-1).toNat<n.toNat;omega⟩)
   ·conv=>whnf
    refine ⟨_,_,zj1,?_⟩;(conv=>whnf);refine z3p ?_;(conv=>whnf);refine zcg ?_;(conv=>whnf)
    exact ycr (us:=mkC A m c k1) rfl rfl zO fun w' v e1 e2 e3=>⟨v,_,_,_,⟨l,W2,ch,k1,hb,rfl,rfl,by omega,rfl,by omega,by omega⟩,rfl,e3,e1,e2⟩
theorem yb7 {w0:World} {G:Gs} {S:List Ow} {K:AV→List Ow→Prop} (i:Nat) {A:Option Addr} {m c:Nat} {xs:List Int} {k:Int} (hi:S[i]?=some (.cells 125 ((mkC A m c k).map .v))) (hs:zao w0 G A (xs.map (.int .i64))) (hl:xs.length=m) (hm:0≤m) (hk:0≤k∧k<900000)
  (hK:∀ (l:List BOp) (W:Nat) (ch:Bool) (k':Int),BodyOk l W ch→l.length≤10→0≤k'→k'≤k+200→K (.p (.c (.row S.length))) (S.set i (.cells 125 ((mkC A m c k').map .v))++[.row 61 5 l.length (l.flatMap opC)])):CallS Tryz.prog w0 G 61 [.p (.c (.ref i 0))] S K:=by
 refine yb8 61 5 (fun n ys us'=>∃ (l:List BOp) (W:Nat) (ch:Bool) (k':Int),BodyOk l W ch∧n=l.length∧ys=l.flatMap opC∧l.length≤10∧us'=mkC A m c k'∧0≤k'∧k'≤k+200) i hi (xs:=[]) rfl zK (fun w g ho hg=>ycz A m c xs k g w (ho A _ hs) hl hm hk hg) ?_;rintro n ys us' ⟨l,W,ch,k',hb,rfl,rfl,hll,rfl,h0,h1⟩;exact hK l W ch k' hb hll h0 h1
theorem ydi (l:List BOp):∀ u∈l.flatMap opC,u.oneCell'=true:=fun u hu=>by
 obtain ⟨o,_,ho⟩:=List.mem_flatMap.1 hu;exact yc7 u ho
theorem yc2 (A:Option Addr) (m c:Nat) (xs:List Int) (w:World) (hs:SlAt w w.heap.size A (xs.map (.int .i64))) (hl:xs.length=m) (hm:0≤m):
  Calls Tryz.prog 14 #[.slice A m c] w fun e w'=>∃ b v1 v2 v3,MadeOk b∧e= .returned (.agg #[v1,v2,v3])∧Rows3 w.heap.size w' v1 v2 v3 b∧Below w.heap.size w w':=by
 have hs0:zao w Gs.nil A (xs.map (.int .i64)):=fun j u hj=>by
  obtain ⟨b,off,e1,e2,e3⟩:=hs j u hj;exact ⟨b,off,e1,e2,by simp,e3⟩
 refine zfe [.slice A m c] Tryz.func14 Tryz.ntmps14 rfl zS ?_
 refine z3k ?_
 conv=>whnf
 refine z3k ?_
 conv=>whnf
 refine z3k ?_
 conv=>whnf
 refine yca 1 rfl hs0 hl hm zO zO fun z z0 z1=>?_
 conv=>whnf
 refine ⟨1+z,wr64 zO,?_⟩
 conv=>whnf
 refine z3k ?_
 conv=>whnf
 refine yca 1 rfl hs0 hl hm zO zO fun y y0 y1=>?_
 conv=>whnf
 refine ⟨y,by rw [wr32];omega,?_⟩
 conv=>whnf
 refine ⟨y*8,by rw [wr32];omega,?_⟩
 conv=>whnf
 refine z3k ?_
 conv=>whnf
 refine ⟨by omega,y*8/256,by rw [Int.tdiv_eq_ediv_of_nonneg zO,wr32];omega,?_⟩
 conv=>whnf
 refine ⟨y*8/256,wr64 zO,?_⟩
 conv=>whnf
 obtain ⟨n,hn,hn0,hn1⟩:∃ n,n=1+z∧1≤n∧n≤12:=⟨_,rfl,by omega,by omega⟩
 rw [← hn]
 obtain ⟨at0,hat,hat0,hat1⟩:∃ a,a=y*8∧0≤a∧a<4096:=⟨_,rfl,by omega,by omega⟩
 rw [← hat]
 obtain ⟨p,hp,hp0,hp1⟩:∃ p,p=at0/256∧0≤p∧p<4096:=⟨_,rfl,by omega,by omega⟩
 rw [← hp];clear hn hat hp;refine z3a ?_;refine z3k ?_;(conv=>whnf);refine z26 ?_
 refine z3d (α:=MadeSt n 2) (fun x=>[(2,.p (.c (.ref 0 0))),(3,.p (.c (.ref 1 0))),(4,one (.int .i64 n)),(5,one (.int .u32 at0)),(6,.p (.c (.ref 3 0))),(7,one (.int .i64 (x.i:Int)))])
  (fun x=>[.cells 28 [.v (.slice none 0 0),.v (.slice none 0 0),.v (.slice none 0 0)],.cells 125 ((mkC A m c x.k).map .v),.cells 3 [.v (.int .i64 p)],.cells 28 [.row 4,.sl 2 0 1 1,.row 5],.row 41 1 x.ats.length (x.ats.map (.int .u32)),.row 61 5 x.ops.length (x.ops.flatMap opC)])
  (fun x=>(n-x.i).toNat) ⟨0,[],[],0,false,2,by omega,nofun,rfl,PreOk.nil,by simp,by omega⟩
  (zj6 (ycn 3 0 41 1 rfl rfl (f':=[(2,.p (.c (.ref 0 0))),(3,.p (.c (.ref 1 0))),(4,one (.int .i64 n)),(5,one (.int .u32 at0)),(6,.p (.c (.ref 3 0))),(7,one (.int .i64 0))]) Tn) (zj6 (ycn 3 2 61 5 rfl rfl (f':=[(2,.p (.c (.ref 0 0))),(3,.p (.c (.ref 1 0))),(4,one (.int .i64 n)),(5,one (.int .u32 at0)),(6,.p (.c (.ref 3 0))),(7,one (.int .i64 0))]) Tn) (zj5 rfl Tn (aI sM (aI sM (aI sM (aI sM (aI ((aI rfl (aI rfl (aI rfl rfl)))) (aI ((aI rfl (aI rfl (aI rfl rfl)))) trivial))))))))) fun x=>?_
 obtain ⟨i,ats,ops,W,ch,k,hi,hats,hatl,pre,hlen,hk⟩:=x;dsimp only;refine z3k ?_;(conv=>whnf);refine ⟨fun hc=>?_,fun hc=>?_⟩
 ·have hlt:(i:Int)<n:=by simpa using hc
  conv=>whnf
  refine z3g (α:={y:MadeSt n 2//y.i=i+1}) (fun y=>[(2,.p (.c (.ref 0 0))),(3,.p (.c (.ref 1 0))),(4,one (.int .i64 n)),(5,one (.int .u32 at0)),(6,.p (.c (.ref 3 0))),(7,one (.int .i64 (i:Int)))])
   (fun y=>[.cells 28 [.v (.slice none 0 0),.v (.slice none 0 0),.v (.slice none 0 0)],.cells 125 ((mkC A m c y.1.k).map .v),.cells 3 [.v (.int .i64 p)],.cells 28 [.row 4,.sl 2 0 1 1,.row 5],.row 41 1 y.1.ats.length (y.1.ats.map (.int .u32)),.row 61 5 y.1.ops.length (y.1.ops.flatMap opC)]) ?_ fun y=>?_
  ·refine z26 ?_
   refine z3k ?_;(conv=>whnf);refine ⟨_,wr64 zO,?_⟩;(conv=>whnf);refine ⟨_,wr32 _,?_⟩;(conv=>whnf);refine ⟨_,wr32 _,?_⟩;(conv=>whnf);refine zbi rfl ?_ rfl;(conv=>whnf);refine ⟨by omega,?_⟩;(conv=>whnf);refine z3k ?_;(conv=>whnf);refine ⟨(i:Int),by rw [wr32];omega,?_⟩;(conv=>whnf);refine zbi rfl ?_ rfl;(conv=>whnf);refine ⟨by omega,?_⟩;(conv=>whnf)
   obtain ⟨ats2,hats2⟩:∃ l,l=ats++[(at0+4*(i:Int)%4294967296)%4294967296]:=⟨_,rfl⟩
   have hatsw:∀ x∈ats2,word x:=by
    intro x hx;rw [hats2] at hx;rcases List.mem_append.1 hx with hx|hx
    ·exact hats x hx
    ·simp at hx;subst hx;exact yay _
   have hatsl:ats2.length=i+1:=(by rw [hats2];simp [hatl]);have pre2:=pre.mark zO
   refine z3g (α:={y:Int×Bool//k≤y.1∧y.1≤k+1}) (fun y=>[(2,.p (.c (.ref 0 0))),(3,.p (.c (.ref 1 0))),(4,one (.int .i64 n)),(5,one (.int .u32 at0)),(6,.p (.c (.ref 3 0))),(7,one (.int .i64 (i:Int))),(55,one (.bool y.1.2))])
    (fun y=>[.cells 28 [.v (.slice none 0 0),.v (.slice none 0 0),.v (.slice none 0 0)],.cells 125 ((mkC A m c y.1.1).map .v),.cells 3 [.v (.int .i64 p)],.cells 28 [.row 4,.sl 2 0 1 1,.row 5],.row 41 1 ats2.length (ats2.map (.int .u32)),.row 61 5 (ops++[(⟨20,0,0,0,(i:Int)⟩:BOp)]).length ((ops++[(⟨20,0,0,0,(i:Int)⟩:BOp)]).flatMap opC)]) ?_ fun y=>?_
   ·refine yd3 ?_
    (conv=>whnf);refine ⟨_,wr64 zO,?_⟩;(conv=>whnf);by_cases hlast:(i:Int)<n-1
    ·rw [decide_eq_true hlast]
     (conv=>whnf);exact zb8 ⟨(k,true),by dsimp only;omega⟩ (zjw Tn (aI sM (aI sM (aI sM (aI sM (aI ((aI rfl (aI rfl (aI (by rw [hats2];simp) (by rw [hats2];simp))))) (aI ((aI rfl (aI rfl (aI zS (by simp [opC]))))) trivial)))))) rfl rfl)
    ·rw [decide_eq_false hlast]
     (conv=>whnf);refine yca 1 rfl hs0 hl hm zO zO fun q q0 q1=>?_;(conv=>whnf);exact zb8 ⟨(k+1,decide (q>0)),by dsimp only;omega⟩ (zjw Tn (aI sM (aI sM (aI sM (aI sM (aI ((aI rfl (aI rfl (aI (by rw [hats2];simp) (by rw [hats2];simp))))) (aI ((aI rfl (aI rfl (aI zS (by simp [opC]))))) trivial)))))) rfl rfl)
   obtain ⟨⟨k2,bd⟩,hk2⟩:=y;dsimp only at hk2⊢;refine z3p ?_;(conv=>whnf);refine ⟨fun _=>?_,fun _=>?_⟩
   ·conv=>whnf
    refine yd1 (.q 0 (.q 2 (.alt 1 (.alt 3 (.alt 4 (.q 5 (.alt 6 .done .no)) .no) .no) (.alt 3 (.alt 1 (.alt 4 (.q 5 (.alt 6 .done .no)) .no) .no) .no)))) mixed zK zK ?_;(conv=>whnf);refine ⟨?_,?_,trivial⟩
    ·conv=>whnf
     refine ⟨?_,trivial⟩;(conv=>whnf);refine yb7 1 rfl hs0 hl hm zO fun l W' ch' k' hb hll h0 h1=>?_;(conv=>whnf);refine ⟨?_,trivial⟩;(conv=>whnf);refine zbi rfl ?_ rfl;(conv=>whnf);refine ⟨rfl,ydi l,?_⟩;(conv=>whnf);refine ⟨by simp;omega,?_⟩;(conv=>whnf);refine ⟨?_,trivial⟩;(conv=>whnf);refine zb4 ?_;exact zb8 ⟨⟨i+1,ats2,(ops++[(⟨20,0,0,0,(i:Int)⟩:BOp)])++l,W',ch',k',by omega,hatsw,hatsl,pre2.body hb zO,by simp;omega,by omega⟩,rfl⟩ (zjw Tn (aI sM (aI sM (aI sM (aI sM (aI ((aI rfl (aI rfl (aI rfl rfl)))) (aI ((aI rfl (aI rfl (aI zV (by simp [opC]))))) trivial)))))) rfl rfl)
    ·conv=>whnf
     refine yb7 1 rfl hs0 hl hm zO fun l W' ch' k' hb hll h0 h1=>?_;(conv=>whnf);refine ⟨?_,trivial⟩;(conv=>whnf);refine ⟨?_,trivial⟩;(conv=>whnf);refine zbi rfl ?_ rfl;(conv=>whnf);refine ⟨rfl,ydi l,?_⟩;(conv=>whnf);refine ⟨by simp;omega,?_⟩;(conv=>whnf);refine ⟨?_,trivial⟩;(conv=>whnf);refine zb4 ?_;exact zb8 ⟨⟨i+1,ats2,(ops++[(⟨20,0,0,0,(i:Int)⟩:BOp)])++l,W',ch',k',by omega,hatsw,hatsl,pre2.body hb zO,by simp;omega,by omega⟩,rfl⟩ (zjw Tn (aI sM (aI sM (aI sM (aI sM (aI ((aI rfl (aI rfl (aI rfl rfl)))) (aI ((aI rfl (aI rfl (aI zV (by simp [opC]))))) trivial)))))) rfl rfl)
   ·conv=>whnf
    refine zb4 ?_;exact zb8 ⟨⟨i+1,ats2,_,0,false,k2,by omega,hatsw,hatsl,pre2,by simp;omega,by omega⟩,rfl⟩ (zj5 rfl Tn (aI sM (aI sM (aI sM (aI sM (aI ((aI rfl (aI rfl (aI rfl rfl)))) (aI ((aI rfl (aI rfl (aI rfl rfl)))) trivial)))))))
  obtain ⟨y,hy⟩:=y;dsimp only;refine z3p ?_;(conv=>whnf);refine ⟨_,wr64 zO,?_⟩;(conv=>whnf);exact zcb y (zj5 rfl (aI rfl (aI rfl (aI rfl (aI rfl (aI rfl (aI ((by show one _=one _;rw [hy];rfl)) trivial)))))) (aI sM (aI sM (aI sM (aI sM (aI ((aI rfl (aI rfl (aI rfl rfl)))) (aI ((aI rfl (aI rfl (aI rfl rfl)))) trivial))))))) (by rw [hy];omega)
 ·have hlt:(i:Int)=n:=by simp at hc;omega
  (conv=>whnf);refine zce (zb6 (zcd ?_));refine z3k ?_;(conv=>whnf);refine yca 1 rfl hs0 hl hm zO zO fun q q0 q1=>?_;(conv=>whnf);refine ⟨q,by rw [wr32];omega,?_⟩;(conv=>whnf);refine ⟨q*4,by rw [wr32];omega,?_⟩;(conv=>whnf);have hnx:word (q*4):=(by unfold word;omega)
  refine z3g (α:={y:List Int×List BOp//MadeOk ⟨y.1,[p],y.2⟩}) (fun y=>[(2,.p (.c (.ref 0 0))),(6,.p (.c (.ref 3 0)))])
   (fun y=>[.cells 28 [.v (.slice none 0 0),.v (.slice none 0 0),.v (.slice none 0 0)],.gone,.cells 3 [.v (.int .i64 p)],.cells 28 [.row 4,.sl 2 0 1 1,.row 5],.row 41 1 y.1.1.length (y.1.1.map (.int .u32)),.row 61 5 y.1.2.length (y.1.2.flatMap opC)]) ?_ fun y=>?_
  ·refine z3k ?_
   (conv=>whnf);refine yca 1 rfl hs0 hl hm zO zO fun s s0 s1=>?_;(conv=>whnf);refine z26 ?_;refine z3k ?_;(conv=>whnf);refine z27 rfl (fun _=>?_) (fun _=>?_)
   ·refine z3p ?_
    (conv=>whnf);refine ⟨(i:Int),by rw [wr32];omega,?_⟩;(conv=>whnf);refine zbi rfl ?_ rfl;(conv=>whnf);refine ⟨by omega,?_⟩;(conv=>whnf);refine ⟨_,wr64 zO,?_⟩;(conv=>whnf);refine ⟨_,wr32 _,?_⟩;(conv=>whnf);refine ⟨_,wr32 _,?_⟩;(conv=>whnf);refine zbi rfl ?_ rfl;(conv=>whnf);refine ⟨by omega,?_⟩;(conv=>whnf);refine zb4 ?_
    exact zb8 ⟨(ats++[(at0+4*n%4294967296)%4294967296],(ops++[(⟨20,0,0,0,(i:Int)⟩:BOp)])++[⟨22,0,0,0,0⟩]),yc3 (pre.mark zO) yd9 zO (fun x hx=>by
     rcases List.mem_append.1 hx with hx|hx
     ·exact hats x hx
     ·simp at hx;subst hx;exact yay _) (by simp [hatl]) zO ⟨hp0,hp1⟩ zV⟩ (zjw Tn (aI sM (aI (Ttb7) (aI sM (aI sM (aI ((aI rfl (aI rfl (aI zS zS)))) (aI ((aI rfl (aI rfl (aI zS (by simp [opC,hlt]))))) trivial)))))) rfl rfl)
   ·refine z3k ?_
    (conv=>whnf);refine z27 rfl (fun _=>?_) (fun _=>?_)
    ·refine z3p ?_
     refine yd1 (.q 0 (.q 2 (.alt 1 (.alt 3 (.q 4 (.alt 5 (.alt 6 (.q 7 (.alt 8 .done .no)) .no) .no)) .no) (.alt 3 (.q 4 (.alt 1 (.alt 5 (.alt 6 (.q 7 (.alt 8 .done .no)) .no) .no) (.alt 5 (.alt 1 (.alt 6 (.q 7 (.alt 8 .done .no)) .no) .no) .no))) .no)))) mixed zK zK ?_;(conv=>whnf);refine ⟨?_,?_,trivial⟩
     ·conv=>whnf
      refine ⟨?_,trivial⟩;(conv=>whnf);refine yca 1 rfl hs0 hl hm zO zO fun a a0 a1=>?_;(conv=>whnf);refine ⟨?_,trivial⟩;(conv=>whnf);refine ⟨?_,trivial⟩;(conv=>whnf);refine zbi rfl ?_ rfl;(conv=>whnf);refine ⟨by omega,?_⟩;(conv=>whnf);refine ⟨?_,trivial⟩;(conv=>whnf);refine zb4 ?_;exact zb8 ⟨(ats,ops++[⟨25,0,a,0,0⟩]),yc3 pre (yea ⟨a0,a1⟩ ch) zO hats hatl zO ⟨hp0,hp1⟩ zV⟩ (zjw Tn (aI sM (aI (Ttb7) (aI sM (aI sM (aI ((aI rfl (aI rfl (aI rfl rfl)))) (aI ((aI rfl (aI rfl (aI zS (by simp [opC]))))) trivial)))))) rfl rfl)
     ·conv=>whnf
      refine yca 1 rfl hs0 hl hm zO zO fun a a0 a1=>?_;(conv=>whnf);refine ⟨?_,?_,trivial⟩
      ·conv=>whnf
       refine ⟨?_,trivial⟩;(conv=>whnf);refine ⟨?_,trivial⟩;(conv=>whnf);refine zbi rfl ?_ rfl;(conv=>whnf);refine ⟨by omega,?_⟩;(conv=>whnf);refine ⟨?_,trivial⟩;(conv=>whnf);refine zb4 ?_;exact zb8 ⟨(ats,ops++[⟨25,0,a,0,0⟩]),yc3 pre (yea ⟨a0,a1⟩ ch) zO hats hatl zO ⟨hp0,hp1⟩ zV⟩ (zjw Tn (aI sM (aI (Ttb7) (aI sM (aI sM (aI ((aI rfl (aI rfl (aI rfl rfl)))) (aI ((aI rfl (aI rfl (aI zS (by simp [opC]))))) trivial)))))) rfl rfl)
      ·conv=>whnf
       refine ⟨?_,trivial⟩;(conv=>whnf);refine ⟨?_,trivial⟩;(conv=>whnf);refine zbi rfl ?_ rfl;(conv=>whnf);refine ⟨by omega,?_⟩;(conv=>whnf);refine ⟨?_,trivial⟩;(conv=>whnf);refine zb4 ?_;exact zb8 ⟨(ats,ops++[⟨25,0,a,0,0⟩]),yc3 pre (yea ⟨a0,a1⟩ ch) zO hats hatl zO ⟨hp0,hp1⟩ zV⟩ (zjw Tn (aI sM (aI (Ttb7) (aI sM (aI sM (aI ((aI rfl (aI rfl (aI rfl rfl)))) (aI ((aI rfl (aI rfl (aI zS (by simp [opC]))))) trivial)))))) rfl rfl)
    ·refine z3g (α:=Bool) (fun y=>[(2,.p (.c (.ref 0 0))),(3,.p (.c (.ref 1 0))),(4,one (.int .i64 n)),(5,one (.int .u32 at0)),(6,.p (.c (.ref 3 0))),(8,one (.int .u32 (q*4))),(106,one (.bool y))]) (fun y=>[.cells 28 [.v (.slice none 0 0),.v (.slice none 0 0),.v (.slice none 0 0)],.cells 125 ((mkC A m c (k+1+1)).map .v),.cells 3 [.v (.int .i64 p)],.cells 28 [.row 4,.sl 2 0 1 1,.row 5],.row 41 1 ats.length (ats.map (.int .u32)),.row 61 5 ops.length (ops.flatMap opC)]) ?_ fun y=>?_
     ·refine z3k ?_
      (conv=>whnf);refine z27 rfl (fun h=>?_) (fun h=>?_)
      ·refine z3n ?_
       exact zb8 true (zj5 rfl (aI rfl (aI rfl (aI rfl (aI rfl (aI rfl (aI rfl (aI ((by show one _=one _;rw [h])) trivial))))))) (aI sM (aI sM (aI sM (aI sM (aI ((aI rfl (aI rfl (aI rfl rfl)))) (aI ((aI rfl (aI rfl (aI rfl rfl)))) trivial)))))))
      ·refine z3p ?_
       (conv=>whnf);exact zb8 (s==3) (zj5 rfl Tn (aI sM (aI sM (aI sM (aI sM (aI ((aI rfl (aI rfl (aI rfl rfl)))) (aI ((aI rfl (aI rfl (aI rfl rfl)))) trivial)))))))
     refine z27 rfl (fun _=>?_) (fun _=>?_)
     ·refine z3p ?_
      refine yd1 (.q 0 (.q 2 (.q 4 (.q 6 (.q 7 (.q 8 (.q 9 (.q 10 (.q 11 (.alt 1 (.alt 3 (.q 5 (.alt 12 (.alt 13 (.q 14 (.alt 15 .done .no)) .no) .no)) .no) (.alt 3 (.q 5 (.alt 1 (.alt 12 (.alt 13 (.q 14 (.alt 15 .done .no)) .no) .no) (.alt 12 (.alt 1 (.alt 13 (.q 14 (.alt 15 .done .no)) .no) .no) .no))) .no))))))))))) mixed zK zK ?_;(conv=>whnf);refine ⟨_,wr64 zO,?_⟩;(conv=>whnf);refine ⟨_,wr32 _,?_⟩;(conv=>whnf);refine ⟨_,wr32 _,?_⟩;(conv=>whnf);refine ⟨?_,?_,trivial⟩
      ·conv=>whnf
       refine ⟨?_,trivial⟩;(conv=>whnf);refine yca 1 rfl hs0 hl hm zO zO fun a a0 a1=>?_;(conv=>whnf);refine ⟨?_,trivial⟩;(conv=>whnf);refine ⟨?_,trivial⟩;(conv=>whnf);refine zbi rfl ?_ rfl;(conv=>whnf);refine ⟨by omega,?_⟩;(conv=>whnf);refine ⟨?_,trivial⟩;(conv=>whnf);refine zb4 ?_;exact zb8 ⟨(ats,ops++[⟨23,0,a,0,q*4⟩,⟨24,0,0,0,(at0+4*n%4294967296)%4294967296⟩]),yc3 pre (yd8 ⟨a0,a1⟩ hnx (yay _) ch) zO hats hatl zO ⟨hp0,hp1⟩ zV⟩ (zjw Tn (aI sM (aI (Ttb7) (aI sM (aI sM (aI ((aI rfl (aI rfl (aI rfl rfl)))) (aI ((aI rfl (aI rfl (aI zS (by simp [opC]))))) trivial)))))) rfl rfl)
      ·conv=>whnf
       refine yca 1 rfl hs0 hl hm zO zO fun a a0 a1=>?_;(conv=>whnf);refine ⟨?_,?_,trivial⟩
       ·conv=>whnf
        refine ⟨?_,trivial⟩;(conv=>whnf);refine ⟨?_,trivial⟩;(conv=>whnf);refine zbi rfl ?_ rfl;(conv=>whnf);refine ⟨by omega,?_⟩;(conv=>whnf);refine ⟨?_,trivial⟩;(conv=>whnf);refine zb4 ?_;exact zb8 ⟨(ats,ops++[⟨23,0,a,0,q*4⟩,⟨24,0,0,0,(at0+4*n%4294967296)%4294967296⟩]),yc3 pre (yd8 ⟨a0,a1⟩ hnx (yay _) ch) zO hats hatl zO ⟨hp0,hp1⟩ zV⟩ (zjw Tn (aI sM (aI (Ttb7) (aI sM (aI sM (aI ((aI rfl (aI rfl (aI rfl rfl)))) (aI ((aI rfl (aI rfl (aI zS (by simp [opC]))))) trivial)))))) rfl rfl)
       ·conv=>whnf
        refine ⟨?_,trivial⟩;(conv=>whnf);refine ⟨?_,trivial⟩;(conv=>whnf);refine zbi rfl ?_ rfl;(conv=>whnf);refine ⟨by omega,?_⟩;(conv=>whnf);refine ⟨?_,trivial⟩;(conv=>whnf);refine zb4 ?_;exact zb8 ⟨(ats,ops++[⟨23,0,a,0,q*4⟩,⟨24,0,0,0,(at0+4*n%4294967296)%4294967296⟩]),yc3 pre (yd8 ⟨a0,a1⟩ hnx (yay _) ch) zO hats hatl zO ⟨hp0,hp1⟩ zV⟩ (zjw Tn (aI sM (aI (Ttb7) (aI sM (aI sM (aI ((aI rfl (aI rfl (aI rfl rfl)))) (aI ((aI rfl (aI rfl (aI zS (by simp [opC]))))) trivial)))))) rfl rfl)
     ·refine z3p ?_
      (conv=>whnf);refine zbi rfl ?_ rfl;(conv=>whnf);refine ⟨by omega,?_⟩;(conv=>whnf);refine zb4 ?_;exact zb8 ⟨(ats,ops++[⟨24,0,0,0,q*4⟩]),yc3 pre (yd7 hnx ch) zO hats hatl zO ⟨hp0,hp1⟩ zV⟩ (zjw Tn (aI sM (aI (Ttb7) (aI sM (aI sM (aI ((aI rfl (aI rfl (aI rfl rfl)))) (aI ((aI rfl (aI rfl (aI zS (by simp [opC]))))) trivial)))))) rfl rfl)
  obtain ⟨⟨ats2,ops2⟩,hy⟩:=y;dsimp only at hy⊢;refine z3p ?_;(conv=>whnf);refine zcg ?_;(conv=>whnf)
  refine ycs 4 2 5 ⟨ats2,[p],ops2⟩ zO zO zO (.inl ⟨rfl,rfl⟩) (.inr ⟨rfl,rfl,rfl,by show (1:Nat)≤maxLen;decide⟩) (.inl ⟨rfl,rfl⟩) fun w' v1 v2 v3 h3 hB=>⟨_,v1,v2,v3,hy,rfl,h3,hB⟩
theorem yci {l:List BOp} {i k n:Nat} {o:BOp} (h:l[i]?=some o) (hk:k=i*5) (hn:n=5):cut (List.map CV.v (List.flatMap opC l)) k n=some ((opC o).map .v):=by
 subst hk;subst hn
 have hlt:i<l.length:=by
  rcases Nat.lt_or_ge i l.length with h1|h1
  ·exact h1
  ·rw [List.getElem?_eq_none h1] at h;cases h
 unfold cut;have:Nat.ble (i*5+5) (List.map CV.v (List.flatMap opC l)).length=true:=Nat.ble_eq_true_of_le (by rw [List.length_map,ydh];omega);rw [this];show some (((List.flatMap opC l).map CV.v).drop (i*5) |>.take 5)=_;rw [← List.map_drop, ← List.map_take,zxb h]
theorem ydk {l:List BOp} {i k:Nat} (o:BOp) (hk:k=i*5) (h:i<l.length):z33 (l.flatMap opC) k (opC o)=(l.set i o).flatMap opC:=by subst hk;exact ydj o h
theorem ydb {P:Program} {w0:World} {G:Gs} {N:Nd} {o:Oper} {f:Fr} {S:List Ow} {K:Fr→List Ow→Prop} {t e:TypeId} {i:TypeInfo} {x y:Operand} {q:IntKind} {A:Option Addr} {n c:Nat} (h:Nat) (hop:o.op= .slice t x none (some y) none) (ht:P.underlying t=some (.slice e)) (hif:P.info? e=some i) (hx:f.ev x=one (.slice A n c))
  (hy:f.ev y=one (.int q (h:Int))) (hhc:h≤c) (hdst:zi6 N.n o.dst=true) (hk:K (f.put o.dst (one (.slice A h c))) S):OpS P w0 G N o f S K:=by
 refine ydc 0 h i.size hop ht hif rfl hx (.inl ⟨rfl,rfl⟩) (.inr ⟨y,q,rfl,hy⟩) (Nat.zero_le _) hhc hdst ?_
 have hA:(if c=0 then A else A.map (·.add (0*i.size)))=A:=by
  split
  ·rfl
  ·cases A with
   |none=>rfl
   |some p=>simp [Addr.add]
 rw [hA];exact hk
theorem ydq (b:Blk) (A1 A2 A3:Option Addr) (c1 c2 c3:Nat) (w:World) (hb:b.ok) (h1:SlAt w w.heap.size A1 (b.at_.map (.int .u32))) (h2:SlAt w w.heap.size A2 (b.pages.map (.int .i64))) (h3:OpsAt w w.heap.size A3 b.ops):
  Calls Tryz.prog 65 #[.agg #[.slice A1 b.at_.length c1,.slice A2 b.pages.length c2,.slice A3 b.ops.length c3]] w fun e w'=>∃ v1 v2 v3,e= .returned (.agg #[v1,v2,v3])∧Rows3 w.heap.size w' v1 v2 v3 b∧Below w.heap.size w w':=by
 have old:∀ {A:Option Addr} {xs:List Value},SlAt w w.heap.size A xs→zao w Gs.nil A xs:=fun h j u hj=>by
  obtain ⟨bb,off,e1,e2,e3⟩:=h j u hj;exact ⟨bb,off,e1,e2,by simp,e3⟩
 have hl1:=hb.lat
 have hl2:=hb.lpages;have hl3:=hb.lops;refine zfg [.agg #[.slice A1 b.at_.length c1,.slice A2 b.pages.length c2,.slice A3 b.ops.length c3]] Tryz.func65 Tryz.ntmps65 rfl zS ?_;(conv=>whnf);refine zbi rfl ?_ rfl;(conv=>whnf);refine ⟨b.at_.map (.int .u32),old h1,(List.length_map _).trans (Nat.mul_one _).symm,fun u hu=>by obtain ⟨x,_,rfl⟩:=List.mem_map.1 hu;rfl,by omega,?_⟩;(conv=>whnf);refine zbi rfl ?_ rfl;(conv=>whnf);refine ⟨b.pages.map (.int .i64),old h2,(List.length_map _).trans (Nat.mul_one _).symm,fun u hu=>by obtain ⟨x,_,rfl⟩:=List.mem_map.1 hu;rfl,by omega,?_⟩;(conv=>whnf);refine zbi rfl ?_ rfl;(conv=>whnf);refine ⟨b.ops.flatMap opC,old h3,ydh _,ydi _,by omega,?_⟩;(conv=>whnf)
 exact ycs 3 4 5 b zO zO zO (.inl ⟨rfl,rfl⟩) (.inl ⟨rfl,rfl⟩) (.inl ⟨rfl,rfl⟩) fun w' v1 v2 v3 h3 hB=>⟨v1,v2,v3,rfl,h3,hB⟩
end Go.Proofs.YtocafomnnkmjfaaGreat
