import Derived.ProofKit
import Derived.OpenShut
import Derived.ShutString
import Derived.ChangeOld
import Derived.Below
import Derived.Lib.SmallJoins
import Derived.Deep.Strs
import Derived.Test.YtocafomnnkmjfaaGreatK33
import Derived.Test.YtocafomnnkmjfaaGreatMChainedA
set_option maxRecDepth 100000
set_option maxHeartbeats 4000000
namespace Go.Proofs.YtocafomnnkmjfaaGreat
open Go.RowKit
theorem ycb {w0:World} {G:Gs} {S:List Ow} {K:AV→List Ow→Prop} (i:Nat) {A:Option Addr} {m c:Nat} {xs:List Int} {k:Int} (hi:S[i]?=some (.cells 125 ((mkC A m c k).map .v))) (hs:zao w0 G A (xs.map (.int .i64))) (hl:xs.length=m) (hm:0≤m) (hk:0≤k∧k<900000)
  (hK:∀ (l:List BOp) (W:Nat) (ch:Bool) (k':Int),BodyOk l W ch→l.length≤10→0≤k'→k'≤k+200→K (.p (.c (.row S.length))) (S.set i (.cells 125 ((mkC A m c k').map .v))++[.row 61 5 l.length (l.flatMap opC)])):CallS Tryz.prog w0 G 61 [.p (.c (.ref i 0))] S K:=by
 refine ycc 61 5 (fun n ys us'=>∃ (l:List BOp) (W:Nat) (ch:Bool) (k':Int),BodyOk l W ch∧n=l.length∧ys=l.flatMap opC∧l.length≤10∧us'=mkC A m c k'∧0≤k'∧k'≤k+200) i hi (xs:=[]) rfl zK (fun w g ho hg=>yds A m c xs k g w (ho A _ hs) hl hm hk hg) ?_;rintro n ys us' ⟨l,W,ch,k',hb,rfl,rfl,hll,rfl,h0,h1⟩;exact hK l W ch k' hb hll h0 h1
theorem yec (l:List BOp):∀ u∈l.flatMap opC,u.oneCell'=true:=fun u hu=>by
 obtain ⟨o,_,ho⟩:=List.mem_flatMap.1 hu;exact yd6 u ho
theorem ydy (A:Option Addr) (m c:Nat) (xs:List Int) (w:World) (hs:SlAt w w.heap.size A (xs.map (.int .i64))) (hl:xs.length=m) (hm:0≤m):
  Calls Tryz.prog 14 #[.slice A m c] w fun e w'=>∃ b v1 v2 v3,MadeOk b∧e= .returned (.agg #[v1,v2,v3])∧Rows3 w.heap.size w' v1 v2 v3 b∧Below w.heap.size w w':=by
 have hs0:zao w Gs.nil A (xs.map (.int .i64)):=fun j u hj=>by
  obtain ⟨b,off,e1,e2,e3⟩:=hs j u hj;exact ⟨b,off,e1,e2,by simp,e3⟩
 refine zfh [.slice A m c] Tryz.func14 Tryz.ntmps14 rfl zS ?_
 refine z3g ?_
 conv=>whnf
 refine z3g ?_
 conv=>whnf
 refine z3g ?_
 conv=>whnf
 refine yce 1 rfl hs0 hl hm zO zO fun z z0 z1=>?_
 conv=>whnf
 refine ⟨1+z,wr64 zO,?_⟩
 conv=>whnf
 refine z3g ?_
 conv=>whnf
 refine yce 1 rfl hs0 hl hm zO zO fun y y0 y1=>?_
 conv=>whnf
 refine ⟨y,by rw [wr32];omega,?_⟩
 conv=>whnf
 refine ⟨y*8,by rw [wr32];omega,?_⟩
 conv=>whnf
 refine z3g ?_
 conv=>whnf
 refine ⟨by omega,y*8/256,by rw [Int.tdiv_eq_ediv_of_nonneg zO,wr32];omega,?_⟩
 conv=>whnf
 refine ⟨y*8/256,wr64 zO,?_⟩
 conv=>whnf
 obtain ⟨n,hn,hn0,hn1⟩:∃ n,n=1+z∧1≤n∧n≤12:=⟨_,rfl,by omega,by omega⟩
 rw [← hn]
 obtain ⟨at0,hat,hat0,hat1⟩:∃ a,a=y*8∧0≤a∧a<4096:=⟨_,rfl,by omega,by omega⟩
 rw [← hat]
 obtain ⟨p,hp,hp0,hp1⟩:∃ p,p=at0/256∧0≤p∧p<4096:=⟨_,rfl,by omega,by omega⟩
 rw [← hp];clear hn hat hp;refine z25 ?_;refine z3g ?_;(conv=>whnf);refine z21 ?_
 refine z29 (α:=MadeSt n 2) (fun x=>[(2,.p (.c (.ref 0 0))),(3,.p (.c (.ref 1 0))),(4,one (.int .i64 n)),(5,one (.int .u32 at0)),(6,.p (.c (.ref 3 0))),(7,one (.int .i64 (x.i:Int)))])
  (fun x=>[.cells 28 [.v (.slice none 0 0),.v (.slice none 0 0),.v (.slice none 0 0)],.cells 125 ((mkC A m c x.k).map .v),.cells 3 [.v (.int .i64 p)],.cells 28 [.row 4,.sl 2 0 1 1,.row 5],.row 41 1 x.ats.length (x.ats.map (.int .u32)),.row 61 5 x.ops.length (x.ops.flatMap opC)])
  (fun x=>(n-x.i).toNat) ⟨0,[],[],0,false,2,by omega,nofun,rfl,PreOk.nil,by simp,by omega⟩
  (zkc (yde 3 0 41 1 rfl rfl (f':=[(2,.p (.c (.ref 0 0))),(3,.p (.c (.ref 1 0))),(4,one (.int .i64 n)),(5,one (.int .u32 at0)),(6,.p (.c (.ref 3 0))),(7,one (.int .i64 0))]) Tn) (zkc (yde 3 2 61 5 rfl rfl (f':=[(2,.p (.c (.ref 0 0))),(3,.p (.c (.ref 1 0))),(4,one (.int .i64 n)),(5,one (.int .u32 at0)),(6,.p (.c (.ref 3 0))),(7,one (.int .i64 0))]) Tn) (zkb rfl Tn (aI sM (aI sM (aI sM (aI sM (aI ((aI rfl (aI rfl (aI rfl rfl)))) (aI ((aI rfl (aI rfl (aI rfl rfl)))) trivial))))))))) fun x=>?_
 obtain ⟨i,ats,ops,W,ch,k,hi,hats,hatl,pre,hlen,hk⟩:=x;dsimp only;refine z3g ?_;(conv=>whnf);refine ⟨fun hc=>?_,fun hc=>?_⟩
 ·have hlt:(i:Int)<n:=by simpa using hc
  conv=>whnf
  refine z3c (α:={y:MadeSt n 2//y.i=i+1}) (fun y=>[(2,.p (.c (.ref 0 0))),(3,.p (.c (.ref 1 0))),(4,one (.int .i64 n)),(5,one (.int .u32 at0)),(6,.p (.c (.ref 3 0))),(7,one (.int .i64 (i:Int)))])
   (fun y=>[.cells 28 [.v (.slice none 0 0),.v (.slice none 0 0),.v (.slice none 0 0)],.cells 125 ((mkC A m c y.1.k).map .v),.cells 3 [.v (.int .i64 p)],.cells 28 [.row 4,.sl 2 0 1 1,.row 5],.row 41 1 y.1.ats.length (y.1.ats.map (.int .u32)),.row 61 5 y.1.ops.length (y.1.ops.flatMap opC)]) ?_ fun y=>?_
  ·refine z21 ?_
   refine z3g ?_;(conv=>whnf);refine ⟨_,wr64 zO,?_⟩;(conv=>whnf);refine ⟨_,wr32 _,?_⟩;(conv=>whnf);refine ⟨_,wr32 _,?_⟩;(conv=>whnf);refine zbi rfl ?_ rfl;(conv=>whnf);refine ⟨by omega,?_⟩;(conv=>whnf);refine z3g ?_;(conv=>whnf);refine ⟨(i:Int),by rw [wr32];omega,?_⟩;(conv=>whnf);refine zbi rfl ?_ rfl;(conv=>whnf);refine ⟨by omega,?_⟩;(conv=>whnf)
   obtain ⟨ats2,hats2⟩:∃ l,l=ats++[(at0+4*(i:Int)%4294967296)%4294967296]:=⟨_,rfl⟩
   have hatsw:∀ x∈ats2,word x:=by
    intro x hx;rw [hats2] at hx;rcases List.mem_append.1 hx with hx|hx
    ·exact hats x hx
    ·simp at hx;subst hx;exact yau _
   have hatsl:ats2.length=i+1:=(by rw [hats2];simp [hatl]);have pre2:=pre.mark zO
   refine z3c (α:={y:Int×Bool//k≤y.1∧y.1≤k+1}) (fun y=>[(2,.p (.c (.ref 0 0))),(3,.p (.c (.ref 1 0))),(4,one (.int .i64 n)),(5,one (.int .u32 at0)),(6,.p (.c (.ref 3 0))),(7,one (.int .i64 (i:Int))),(55,one (.bool y.1.2))])
    (fun y=>[.cells 28 [.v (.slice none 0 0),.v (.slice none 0 0),.v (.slice none 0 0)],.cells 125 ((mkC A m c y.1.1).map .v),.cells 3 [.v (.int .i64 p)],.cells 28 [.row 4,.sl 2 0 1 1,.row 5],.row 41 1 ats2.length (ats2.map (.int .u32)),.row 61 5 (ops++[(⟨20,0,0,0,(i:Int)⟩:BOp)]).length ((ops++[(⟨20,0,0,0,(i:Int)⟩:BOp)]).flatMap opC)]) ?_ fun y=>?_
   ·refine yen ?_
    (conv=>whnf);refine ⟨_,wr64 zO,?_⟩;(conv=>whnf);by_cases hlast:(i:Int)<n-1
    ·rw [decide_eq_true hlast]
     (conv=>whnf);exact zb8 ⟨(k,true),by dsimp only;omega⟩ (zj2 Tn (aI sM (aI sM (aI sM (aI sM (aI ((aI rfl (aI rfl (aI (by rw [hats2];simp) (by rw [hats2];simp))))) (aI ((aI rfl (aI rfl (aI zS (by simp [opC]))))) trivial)))))) rfl rfl)
    ·rw [decide_eq_false hlast]
     (conv=>whnf);refine yce 1 rfl hs0 hl hm zO zO fun q q0 q1=>?_;(conv=>whnf);exact zb8 ⟨(k+1,decide (q>0)),by dsimp only;omega⟩ (zj2 Tn (aI sM (aI sM (aI sM (aI sM (aI ((aI rfl (aI rfl (aI (by rw [hats2];simp) (by rw [hats2];simp))))) (aI ((aI rfl (aI rfl (aI zS (by simp [opC]))))) trivial)))))) rfl rfl)
   obtain ⟨⟨k2,bd⟩,hk2⟩:=y;dsimp only at hk2⊢;refine z3l ?_;(conv=>whnf);refine ⟨fun _=>?_,fun _=>?_⟩
   ·conv=>whnf
    refine yem (.q 0 (.q 2 (.alt 1 (.alt 3 (.alt 4 (.q 5 (.alt 6 .done .no)) .no) .no) (.alt 3 (.alt 1 (.alt 4 (.q 5 (.alt 6 .done .no)) .no) .no) .no)))) mixed zK zK ?_;(conv=>whnf);refine ⟨?_,?_,trivial⟩
    ·conv=>whnf
     refine ⟨?_,trivial⟩;(conv=>whnf);refine ycb 1 rfl hs0 hl hm zO fun l W' ch' k' hb hll h0 h1=>?_;(conv=>whnf);refine ⟨?_,trivial⟩;(conv=>whnf);refine zbi rfl ?_ rfl;(conv=>whnf);refine ⟨rfl,yec l,?_⟩;(conv=>whnf);refine ⟨by simp;omega,?_⟩;(conv=>whnf);refine ⟨?_,trivial⟩;(conv=>whnf);refine zb4 ?_;exact zb8 ⟨⟨i+1,ats2,(ops++[(⟨20,0,0,0,(i:Int)⟩:BOp)])++l,W',ch',k',by omega,hatsw,hatsl,pre2.body hb zO,by simp;omega,by omega⟩,rfl⟩ (zj2 Tn (aI sM (aI sM (aI sM (aI sM (aI ((aI rfl (aI rfl (aI rfl rfl)))) (aI ((aI rfl (aI rfl (aI zV (by simp [opC]))))) trivial)))))) rfl rfl)
    ·conv=>whnf
     refine ycb 1 rfl hs0 hl hm zO fun l W' ch' k' hb hll h0 h1=>?_;(conv=>whnf);refine ⟨?_,trivial⟩;(conv=>whnf);refine ⟨?_,trivial⟩;(conv=>whnf);refine zbi rfl ?_ rfl;(conv=>whnf);refine ⟨rfl,yec l,?_⟩;(conv=>whnf);refine ⟨by simp;omega,?_⟩;(conv=>whnf);refine ⟨?_,trivial⟩;(conv=>whnf);refine zb4 ?_;exact zb8 ⟨⟨i+1,ats2,(ops++[(⟨20,0,0,0,(i:Int)⟩:BOp)])++l,W',ch',k',by omega,hatsw,hatsl,pre2.body hb zO,by simp;omega,by omega⟩,rfl⟩ (zj2 Tn (aI sM (aI sM (aI sM (aI sM (aI ((aI rfl (aI rfl (aI rfl rfl)))) (aI ((aI rfl (aI rfl (aI zV (by simp [opC]))))) trivial)))))) rfl rfl)
   ·conv=>whnf
    refine zb4 ?_;exact zb8 ⟨⟨i+1,ats2,_,0,false,k2,by omega,hatsw,hatsl,pre2,by simp;omega,by omega⟩,rfl⟩ (zkb rfl Tn (aI sM (aI sM (aI sM (aI sM (aI ((aI rfl (aI rfl (aI rfl rfl)))) (aI ((aI rfl (aI rfl (aI rfl rfl)))) trivial)))))))
  obtain ⟨y,hy⟩:=y;dsimp only;refine z3l ?_;(conv=>whnf);refine ⟨_,wr64 zO,?_⟩;(conv=>whnf);exact zcb y (zkb rfl (aI rfl (aI rfl (aI rfl (aI rfl (aI rfl (aI ((by show one _=one _;rw [hy];rfl)) trivial)))))) (aI sM (aI sM (aI sM (aI sM (aI ((aI rfl (aI rfl (aI rfl rfl)))) (aI ((aI rfl (aI rfl (aI rfl rfl)))) trivial))))))) (by rw [hy];omega)
 ·have hlt:(i:Int)=n:=by simp at hc;omega
  (conv=>whnf);refine zce (zb6 (zcd ?_));refine z3g ?_;(conv=>whnf);refine yce 1 rfl hs0 hl hm zO zO fun q q0 q1=>?_;(conv=>whnf);refine ⟨q,by rw [wr32];omega,?_⟩;(conv=>whnf);refine ⟨q*4,by rw [wr32];omega,?_⟩;(conv=>whnf);have hnx:word (q*4):=(by unfold word;omega)
  refine z3c (α:={y:List Int×List BOp//MadeOk ⟨y.1,[p],y.2⟩}) (fun y=>[(2,.p (.c (.ref 0 0))),(6,.p (.c (.ref 3 0)))])
   (fun y=>[.cells 28 [.v (.slice none 0 0),.v (.slice none 0 0),.v (.slice none 0 0)],.gone,.cells 3 [.v (.int .i64 p)],.cells 28 [.row 4,.sl 2 0 1 1,.row 5],.row 41 1 y.1.1.length (y.1.1.map (.int .u32)),.row 61 5 y.1.2.length (y.1.2.flatMap opC)]) ?_ fun y=>?_
  ·refine z3g ?_
   (conv=>whnf);refine yce 1 rfl hs0 hl hm zO zO fun s s0 s1=>?_;(conv=>whnf);refine z21 ?_;refine z3g ?_;(conv=>whnf);refine z23 rfl (fun _=>?_) (fun _=>?_)
   ·refine z3l ?_
    (conv=>whnf);refine ⟨(i:Int),by rw [wr32];omega,?_⟩;(conv=>whnf);refine zbi rfl ?_ rfl;(conv=>whnf);refine ⟨by omega,?_⟩;(conv=>whnf);refine ⟨_,wr64 zO,?_⟩;(conv=>whnf);refine ⟨_,wr32 _,?_⟩;(conv=>whnf);refine ⟨_,wr32 _,?_⟩;(conv=>whnf);refine zbi rfl ?_ rfl;(conv=>whnf);refine ⟨by omega,?_⟩;(conv=>whnf);refine zb4 ?_
    exact zb8 ⟨(ats++[(at0+4*n%4294967296)%4294967296],(ops++[(⟨20,0,0,0,(i:Int)⟩:BOp)])++[⟨22,0,0,0,0⟩]),yd0 (pre.mark zO) yew zO (fun x hx=>by
     rcases List.mem_append.1 hx with hx|hx
     ·exact hats x hx
     ·simp at hx;subst hx;exact yau _) (by simp [hatl]) zO ⟨hp0,hp1⟩ zV⟩ (zj2 Tn (aI sM (aI (Ttb6) (aI sM (aI sM (aI ((aI rfl (aI rfl (aI zS zS)))) (aI ((aI rfl (aI rfl (aI zS (by simp [opC,hlt]))))) trivial)))))) rfl rfl)
   ·refine z3g ?_
    (conv=>whnf);refine z23 rfl (fun _=>?_) (fun _=>?_)
    ·refine z3l ?_
     refine yem (.q 0 (.q 2 (.alt 1 (.alt 3 (.q 4 (.alt 5 (.alt 6 (.q 7 (.alt 8 .done .no)) .no) .no)) .no) (.alt 3 (.q 4 (.alt 1 (.alt 5 (.alt 6 (.q 7 (.alt 8 .done .no)) .no) .no) (.alt 5 (.alt 1 (.alt 6 (.q 7 (.alt 8 .done .no)) .no) .no) .no))) .no)))) mixed zK zK ?_;(conv=>whnf);refine ⟨?_,?_,trivial⟩
     ·conv=>whnf
      refine ⟨?_,trivial⟩;(conv=>whnf);refine yce 1 rfl hs0 hl hm zO zO fun a a0 a1=>?_;(conv=>whnf);refine ⟨?_,trivial⟩;(conv=>whnf);refine ⟨?_,trivial⟩;(conv=>whnf);refine zbi rfl ?_ rfl;(conv=>whnf);refine ⟨by omega,?_⟩;(conv=>whnf);refine ⟨?_,trivial⟩;(conv=>whnf);refine zb4 ?_;exact zb8 ⟨(ats,ops++[⟨25,0,a,0,0⟩]),yd0 pre (yex ⟨a0,a1⟩ ch) zO hats hatl zO ⟨hp0,hp1⟩ zV⟩ (zj2 Tn (aI sM (aI (Ttb6) (aI sM (aI sM (aI ((aI rfl (aI rfl (aI rfl rfl)))) (aI ((aI rfl (aI rfl (aI zS (by simp [opC]))))) trivial)))))) rfl rfl)
     ·conv=>whnf
      refine yce 1 rfl hs0 hl hm zO zO fun a a0 a1=>?_;(conv=>whnf);refine ⟨?_,?_,trivial⟩
      ·conv=>whnf
       refine ⟨?_,trivial⟩;(conv=>whnf);refine ⟨?_,trivial⟩;(conv=>whnf);refine zbi rfl ?_ rfl;(conv=>whnf);refine ⟨by omega,?_⟩;(conv=>whnf);refine ⟨?_,trivial⟩;(conv=>whnf);refine zb4 ?_;exact zb8 ⟨(ats,ops++[⟨25,0,a,0,0⟩]),yd0 pre (yex ⟨a0,a1⟩ ch) zO hats hatl zO ⟨hp0,hp1⟩ zV⟩ (zj2 Tn (aI sM (aI (Ttb6) (aI sM (aI sM (aI ((aI rfl (aI rfl (aI rfl rfl)))) (aI ((aI rfl (aI rfl (aI zS (by simp [opC]))))) trivial)))))) rfl rfl)
      ·conv=>whnf
       refine ⟨?_,trivial⟩;(conv=>whnf);refine ⟨?_,trivial⟩;(conv=>whnf);refine zbi rfl ?_ rfl;(conv=>whnf);refine ⟨by omega,?_⟩;(conv=>whnf);refine ⟨?_,trivial⟩;(conv=>whnf);refine zb4 ?_;exact zb8 ⟨(ats,ops++[⟨25,0,a,0,0⟩]),yd0 pre (yex ⟨a0,a1⟩ ch) zO hats hatl zO ⟨hp0,hp1⟩ zV⟩ (zj2 Tn (aI sM (aI (Ttb6) (aI sM (aI sM (aI ((aI rfl (aI rfl (aI rfl rfl)))) (aI ((aI rfl (aI rfl (aI zS (by simp [opC]))))) trivial)))))) rfl rfl)
    ·refine z3c (α:=Bool) (fun y=>[(2,.p (.c (.ref 0 0))),(3,.p (.c (.ref 1 0))),(4,one (.int .i64 n)),(5,one (.int .u32 at0)),(6,.p (.c (.ref 3 0))),(8,one (.int .u32 (q*4))),(106,one (.bool y))]) (fun y=>[.cells 28 [.v (.slice none 0 0),.v (.slice none 0 0),.v (.slice none 0 0)],.cells 125 ((mkC A m c (k+1+1)).map .v),.cells 3 [.v (.int .i64 p)],.cells 28 [.row 4,.sl 2 0 1 1,.row 5],.row 41 1 ats.length (ats.map (.int .u32)),.row 61 5 ops.length (ops.flatMap opC)]) ?_ fun y=>?_
     ·refine z3g ?_
      (conv=>whnf);refine z23 rfl (fun h=>?_) (fun h=>?_)
      ·refine z3j ?_
       exact zb8 true (zkb rfl (aI rfl (aI rfl (aI rfl (aI rfl (aI rfl (aI rfl (aI ((by show one _=one _;rw [h])) trivial))))))) (aI sM (aI sM (aI sM (aI sM (aI ((aI rfl (aI rfl (aI rfl rfl)))) (aI ((aI rfl (aI rfl (aI rfl rfl)))) trivial)))))))
      ·refine z3l ?_
       (conv=>whnf);exact zb8 (s==3) (zkb rfl Tn (aI sM (aI sM (aI sM (aI sM (aI ((aI rfl (aI rfl (aI rfl rfl)))) (aI ((aI rfl (aI rfl (aI rfl rfl)))) trivial)))))))
     refine z23 rfl (fun _=>?_) (fun _=>?_)
     ·refine z3l ?_
      refine yem (.q 0 (.q 2 (.q 4 (.q 6 (.q 7 (.q 8 (.q 9 (.q 10 (.q 11 (.alt 1 (.alt 3 (.q 5 (.alt 12 (.alt 13 (.q 14 (.alt 15 .done .no)) .no) .no)) .no) (.alt 3 (.q 5 (.alt 1 (.alt 12 (.alt 13 (.q 14 (.alt 15 .done .no)) .no) .no) (.alt 12 (.alt 1 (.alt 13 (.q 14 (.alt 15 .done .no)) .no) .no) .no))) .no))))))))))) mixed zK zK ?_;(conv=>whnf);refine ⟨_,wr64 zO,?_⟩;(conv=>whnf);refine ⟨_,wr32 _,?_⟩;(conv=>whnf);refine ⟨_,wr32 _,?_⟩;(conv=>whnf);refine ⟨?_,?_,trivial⟩
      ·conv=>whnf
       refine ⟨?_,trivial⟩;(conv=>whnf);refine yce 1 rfl hs0 hl hm zO zO fun a a0 a1=>?_;(conv=>whnf);refine ⟨?_,trivial⟩;(conv=>whnf);refine ⟨?_,trivial⟩;(conv=>whnf);refine zbi rfl ?_ rfl;(conv=>whnf);refine ⟨by omega,?_⟩;(conv=>whnf);refine ⟨?_,trivial⟩;(conv=>whnf);refine zb4 ?_;exact zb8 ⟨(ats,ops++[⟨23,0,a,0,q*4⟩,⟨24,0,0,0,(at0+4*n%4294967296)%4294967296⟩]),yd0 pre (yev ⟨a0,a1⟩ hnx (yau _) ch) zO hats hatl zO ⟨hp0,hp1⟩ zV⟩ (zj2 Tn (aI sM (aI (Ttb6) (aI sM (aI sM (aI ((aI rfl (aI rfl (aI rfl rfl)))) (aI ((aI rfl (aI rfl (aI zS (by simp [opC]))))) trivial)))))) rfl rfl)
      ·conv=>whnf
       refine yce 1 rfl hs0 hl hm zO zO fun a a0 a1=>?_;(conv=>whnf);refine ⟨?_,?_,trivial⟩
       ·conv=>whnf
        refine ⟨?_,trivial⟩;(conv=>whnf);refine ⟨?_,trivial⟩;(conv=>whnf);refine zbi rfl ?_ rfl;(conv=>whnf);refine ⟨by omega,?_⟩;(conv=>whnf);refine ⟨?_,trivial⟩;(conv=>whnf);refine zb4 ?_;exact zb8 ⟨(ats,ops++[⟨23,0,a,0,q*4⟩,⟨24,0,0,0,(at0+4*n%4294967296)%4294967296⟩]),yd0 pre (yev ⟨a0,a1⟩ hnx (yau _) ch) zO hats hatl zO ⟨hp0,hp1⟩ zV⟩ (zj2 Tn (aI sM (aI (Ttb6) (aI sM (aI sM (aI ((aI rfl (aI rfl (aI rfl rfl)))) (aI ((aI rfl (aI rfl (aI zS (by simp [opC]))))) trivial)))))) rfl rfl)
       ·conv=>whnf
        refine ⟨?_,trivial⟩;(conv=>whnf);refine ⟨?_,trivial⟩;(conv=>whnf);refine zbi rfl ?_ rfl;(conv=>whnf);refine ⟨by omega,?_⟩;(conv=>whnf);refine ⟨?_,trivial⟩;(conv=>whnf);refine zb4 ?_;exact zb8 ⟨(ats,ops++[⟨23,0,a,0,q*4⟩,⟨24,0,0,0,(at0+4*n%4294967296)%4294967296⟩]),yd0 pre (yev ⟨a0,a1⟩ hnx (yau _) ch) zO hats hatl zO ⟨hp0,hp1⟩ zV⟩ (zj2 Tn (aI sM (aI (Ttb6) (aI sM (aI sM (aI ((aI rfl (aI rfl (aI rfl rfl)))) (aI ((aI rfl (aI rfl (aI zS (by simp [opC]))))) trivial)))))) rfl rfl)
     ·refine z3l ?_
      (conv=>whnf);refine zbi rfl ?_ rfl;(conv=>whnf);refine ⟨by omega,?_⟩;(conv=>whnf);refine zb4 ?_;exact zb8 ⟨(ats,ops++[⟨24,0,0,0,q*4⟩]),yd0 pre (yeu hnx ch) zO hats hatl zO ⟨hp0,hp1⟩ zV⟩ (zj2 Tn (aI sM (aI (Ttb6) (aI sM (aI sM (aI ((aI rfl (aI rfl (aI rfl rfl)))) (aI ((aI rfl (aI rfl (aI zS (by simp [opC]))))) trivial)))))) rfl rfl)
  obtain ⟨⟨ats2,ops2⟩,hy⟩:=y;dsimp only at hy⊢;refine z3l ?_;(conv=>whnf);refine zcg ?_;(conv=>whnf)
  refine ydh 4 2 5 ⟨ats2,[p],ops2⟩ zO zO zO (.inl ⟨rfl,rfl⟩) (.inr ⟨rfl,rfl,rfl,by show (1:Nat)≤maxLen;decide⟩) (.inl ⟨rfl,rfl⟩) fun w' v1 v2 v3 h3 hB=>⟨_,v1,v2,v3,hy,rfl,h3,hB⟩
open Go.ChangeShapes Go.WideShapes Go.ChangeAt Go.RowKit
theorem ownK:ownKnob Tryz.prog.godebug=none:=by kernel_rfl
theorem ydx:laidOutB Tryz.prog=true:=by kernel_rfl
theorem ycj {w:World} {b o:Nat} {u:Value} (h:w.cell? ⟨b,o,none⟩=some u):b<w.heap.size:=by
 rcases Nat.lt_or_ge b w.heap.size with h1|h1
 ·exact h1
 ·simp [World.cell?,Array.getElem?_eq_none h1] at h
theorem ydt {n:Int} (h:(Lit.int .i64 n).wf=true): -9223372036854775808≤n∧n<9223372036854775808:=by
 simp [Lit.wf,IntKind.min,IntKind.max,IntKind.signed,IntKind.bits] at h;omega
theorem yd8 {H:Type} {enc:TypeId×Value→H} {W:World} {fuel n:Nat} {t e:TypeId} {k:IntKind} {cs:List Value} {x:DataW H×List MemPlace} (ht:Tryz.prog.underlying t=some (.array n e)) (he:Tryz.prog.underlying e=some (.int k)) (hc:Tryz.prog.cellsOf e=1) (hct:Tryz.prog.cellsOf t=n)
  (h:DataW.trod enc Tryz.prog W 0 (fun _=>true) true fuel t cs=some x):∃ zs:List Int,cs=zs.map (Value.int k)∧zs.length=n∧∀ z∈zs,(Lit.int k z).wf=true:=by
 obtain ⟨xs,m,_,_,hl,hlen,hel⟩:=DataW.trod_array ht h;rw [hct] at hl
 have get:∀ i (hi:i<n),∃ z,cs[i]?=some (.int k z)∧(Lit.int k z).wf=true:=fun i hi=>by
  have:=hel i hi;rw [hc,List.getElem?_eq_getElem zO] at this;obtain ⟨z,e1,_,e3⟩:=DataW.trod_int he this;refine ⟨z,?_,e3⟩;have h0:((cs.drop (i*1)).take 1)[0]?=some (.int k z):=(by rw [e1];rfl);rw [List.getElem?_take,if_pos zO,List.getElem?_drop] at h0
  simpa using h0
 refine ⟨(List.range n).map fun i=>intOf (cs.getD i undef),?_,by simp,fun z hz=>?_⟩
 ·refine List.ext_getElem? fun i=>?_
  rw [List.getElem?_map,List.getElem?_map];rcases Nat.lt_or_ge i n with hi|hi
  ·obtain ⟨z,e1,_⟩:=get i hi
   rw [List.getElem?_range hi,e1];simp [List.getD_eq_getElem?_getD,e1,intOf]
  ·rw [List.getElem?_eq_none zO,List.getElem?_eq_none (by simpa using hi)];rfl
 ·obtain ⟨i,hi,rfl⟩:=List.mem_map.1 hz
  have hi:i<n:=by simpa using hi
  obtain ⟨z,e1,e2⟩:=get i hi
  simpa [List.getD_eq_getElem?_getD,e1,intOf] using e2
theorem yd4 (n m:Int) (hm:0<m):(n.tmod m+m).tmod m=n%m∧ -m<n.tmod m∧n.tmod m<m:=by
 have h1:=Int.tmod_lt_of_pos n hm;have h2: -m<n.tmod m:=(by have:=Int.lt_tmod_of_pos n hm;omega);refine ⟨?_,h2,h1⟩;rw [Int.tmod_eq_emod_of_nonneg zO,Int.add_emod_right];have:n=m*n.tdiv m+n.tmod m:=(Int.mul_tdiv_add_tmod n m).symm
 conv=>rhs;rw [this]
 rw [Int.mul_add_emod_self_left]
theorem yd3 (n m:Int) (w:World) (hm:0<m∧m<4611686018427387904):Calls Tryz.prog 20 #[intV n,intV m] w fun e w'=>e= .returned (intV (n%m))∧Below w.heap.size w w':=by
 obtain ⟨h1,h2,h3⟩:=yd4 n m hm.1
 refine zfk [intV n,intV m] Tryz.func20 Tryz.ntmps20 rfl zS ?_
 conv=>whnf
 refine ⟨by omega,_,rfl,?_⟩
 conv=>whnf
 refine ⟨n.tmod m+m,wr64 zO,?_⟩
 conv=>whnf
 refine ⟨by omega,_,h1,?_⟩
 conv=>whnf
 exact zmp rfl fun w' hB=>⟨rfl,hB⟩
section
variable {P:Program} {w0:World} {G:Gs} {N:Nd} {c d:Code} {f:Fr} {S:List Ow} {Q:Exit→Act→World→Prop} {α:Type}
theorem yb6 {T:α→Fr} {J:α→World→Prop} {id:Nat} (h:AtQ w0 G N (.exit id) f S Q):AtQ w0 G N (.exit id) f S (MidW N T J Q):=⟨fun a w hg=>h.out a w hg⟩
end
theorem yca {P:Program} {w0:World} {G:Gs} {fid:FuncId} {args:List AV} {xs:List Value} {S:List Ow} {K:AV→List Ow→Prop} (post:Value→Prop) (hx:avals args=some xs) (hok:fnOk P fid=true)
  (h:∀ r w,Rel w0 G S r w→Calls P fid xs.toArray w fun e w'=>∃ v,e= .returned v∧post v∧Below w.heap.size w w') (hK:∀ v,post v→K (AV.of v) S):CallS P w0 G fid args S K:=by
 refine ⟨hok,fun r w us hR hd=>?_⟩;obtain rfl:=zcs hx hd
 exact (h r w hR).mono fun e w' ⟨v,he,hp,hB⟩=>⟨_,v,S,r,he,AV.of_den r v,hR.below hB,Env.le.refl r,hK v hp⟩
theorem yd9 {H:Type} {enc:TypeId×Value→H} {W:World} {r:Reach} {b0:Nat} {v:Value} {d:DataW H} {p:List MemPlace} (hv:Value.okWide Tryz.prog W r b0 23 v) (h:DataW.Trod enc Tryz.prog W 0 (fun _=>true) true 23 v d p):
  ∃ a b c e:Int,v= .agg #[intV a,intV b,intV c,intV e]∧(-9223372036854775808≤a∧a<9223372036854775808)∧(-9223372036854775808≤b∧b<9223372036854775808)∧(-9223372036854775808≤c∧c<9223372036854775808)∧(-9223372036854775808≤e∧e<9223372036854775808):=by
 simp only [Value.okWide,Tryz.underlying23] at hv;obtain ⟨cs,rfl,hsz,_⟩:=hv;obtain ⟨fuel,hf⟩:=h;obtain ⟨zs,e,l,w⟩:=yd8 (k:= .i64) Tryz.underlying23 Tryz.underlying3 zK zK hf;have e:cs.toList=zs.map (Value.int .i64):=e
 match zs,l with
 |[z0,z1,z2,z3],_=>
  refine ⟨z0,z1,z2,z3,?_,ydt (w _ zS),ydt (w _ zS),ydt (w _ zS),ydt (w _ zS)⟩;show Value.agg cs=Value.agg ([z0,z1,z2,z3].map (Value.int .i64)).toArray;rw [← e]
theorem yea {H:Type} {enc:TypeId×Value→H} {W:World} {a:Option Addr} {len cap:Nat} {d:DataW H} {p:List MemPlace} (h:DataW.Trod enc Tryz.prog W 0 (fun _=>true) true 22 (.slice a len cap) d p):
  ∃ xs:List Int,SlAt W W.heap.size a (xs.map (.int .i64))∧xs.length=len∧len≤cap:=by
 obtain ⟨fuel,hf⟩:=h;rcases open_ints Tryz.underlying22 Tryz.underlying3 zK hf with ⟨hcs,_⟩|⟨x,l,c,zs,hcs,_,hl,hm,hz,_,hcell,hwz⟩
 ·simp [Value.cells] at hcs
  obtain ⟨rfl,rfl,rfl⟩:=hcs;exact ⟨[],SlAt.nil,rfl,Nat.le_refl _⟩
 ·simp [Value.cells] at hcs
  obtain ⟨rfl,rfl,rfl⟩:=hcs;have hz:zs.length=cap:=(by simpa using hz);refine ⟨zs.take len,fun j u hj=>?_,by rw [List.length_take];omega,hl⟩;rw [List.getElem?_map,List.getElem?_take] at hj
  split at hj
  ·rename_i hjl
   have hjz:j<zs.length:=(by omega);have hc:=hcell j hjz;obtain ⟨b,off,spot⟩:=x
   have hsp:spot=none:=by
    have h0:=hcell 0 zO
    simpa [Addr.add] using World.cell?_spot h0
   subst hsp;rw [za0] at hc;rw [List.getElem?_eq_getElem hjz] at hj;have hg:zs.getD j 0=zs[j]:=(by rw [List.getD_eq_getElem?_getD,List.getElem?_eq_getElem hjz];rfl);rw [hg] at hc;injection hj with hj;subst hj;exact ⟨b,off,rfl,ycj hc,hc⟩
  ·cases hj
theorem ycf {w0:World} {G:Gs} {S:List Ow} {K:AV→List Ow→Prop} (is:List QI) (j n c:Nat) {t:TypeId} (hj:S[j]?=some (.cells t ((is.flatMap iqL).map .v))) (hn:is.length=n) (hv:∀ i∈is,z9h i=true∧i.ok) (hlen:n≤1000000000) (hK:K (AV.of (strV (z8p is))) S):CallS Tryz.prog w0 G 75 [.p (.c (.sl j 0 n c))] S K:=by
 subst hn;refine ⟨by kernel_rfl,fun r w us hR hd=>?_⟩;obtain ⟨u,l,rfl,d1,d2⟩:=hd;obtain rfl:l=[]:=d2;obtain ⟨q,hq,rfl⟩:=zi5 d1;obtain ⟨q',vs,e1,e2,e3⟩:=hR.own j _ hj;rw [hq] at e1;injection e1 with e1;subst e1;obtain rfl:=ziw e3
 refine (z8s is hv _ c hlen w (SlAt.mk_ (zpz e2) fun i u hi=>by simp [World.cell?,e2,hi])).mono fun e w' ⟨he,hB⟩=>⟨_,_,_,r,he,AV.of_den r _,hR.below hB,Env.le.refl r,hK⟩
def sysI:QI:=⟨48,0,0,0,0⟩
def unL:List Int:=putL (yas sysI)
theorem ye0 (i:QI):z8p [i]=putL (yas i):=by
 show yax [yas i]=_;unfold yax;simp
def yck (a b:Int):QI:=⟨40,0,0,0,yaq 10 ((b-a)%4294967296) 2⟩
def ycn (a b:Int):Option (List Int):=if (b-a)%4294967296%4=0∧z9h (yck a b)=true then some (putL (yas (yck a b))) else none
abbrev yco (x:Option (List Int)):Value:= .tuple #[strV (x.getD []),intV (if x.isSome then 0 else 13)]
theorem ycm (a b:Int):word (yck a b).imm:=by
 show word (yaq 10 _ 2);unfold yaq;simp only [show ¬(10:Int)=3 by decide,show ¬(10:Int)=4 by decide,show ¬(10:Int)=5 by decide,show ¬(10:Int)=6 by decide,show ¬(10:Int)=7 by decide,show ¬(10:Int)=8 by decide,show ¬(10:Int)=9 by decide,if_false,if_true];exact yau _
theorem ycl (a b:Int):(yck a b).ok:=⟨(show (0:Int)≤40∧(40:Int)<64 by omega),r00,r00,r00,ycm a b⟩
theorem yct (a b:Int) (w:World):Calls Tryz.prog 39 #[.int .u32 a,.int .u32 b] w fun e w'=>e= .returned (yco (ycn a b))∧Below w.heap.size w w':=by
 refine zfh [.int .u32 a,.int .u32 b] Tryz.func39 Tryz.ntmps39 rfl zS ?_;refine z3i ?_;(conv=>whnf);refine z3i ?_;(conv=>whnf);refine ⟨(b-a)%4294967296,wr32 _,?_⟩;(conv=>whnf);refine ze2 rfl zK (fun r w' hR=>yd7 ((b-a)%4294967296) 2 w' (yau _) (by unfold word;omega)) ?_;(conv=>whnf);refine z25 ?_;refine z3i ?_;(conv=>whnf);refine ⟨(b-a)%4294967296,wr32 _,?_⟩;(conv=>whnf);refine ⟨by decide,(b-a)%4294967296%4,Int.tmod_eq_emod_of_nonneg (yau _).1,?_⟩;(conv=>whnf);refine ⟨fun h1=>?_,fun h1=>?_⟩
 ·have h1:(b-a)%4294967296%4=0:=by simpa using h1
  refine kB ?_;refine ze2 rfl zK (fun r w' hR=>z9v (yck a b) w' (ycl a b).op (ycm a b)) ?_;refine kB ?_
  cases hv:z9h (yck a b) with
  |false=>
   have hno:ycn a b=none:=(by unfold ycn;rw [if_neg (by rw [hv];exact fun h=>Bool.noConfusion h.2)]);refine z23 (t:=true) rfl (fun _=>?_) nT;refine z3i ?_;(conv=>whnf);refine z3m ?_;(conv=>whnf);refine zcl (zcg ?_);(conv=>whnf)
   exact zmp rfl fun w2 hB=>⟨by rw [hno];rfl,hB⟩
  |true=>
   have hyes:ycn a b=some (putL (yas (yck a b))):=(by unfold ycn;rw [if_pos ⟨h1,hv⟩]);refine z23 (t:=false) rfl nF (fun _=>z3j (zcd ?_));refine z3i ?_;(conv=>whnf);refine ycf [yck a b] 1 1 1 rfl rfl (fun i hi=>by rw [List.mem_singleton.1 hi];exact ⟨hv,ycl a b⟩) (by decide) ?_;rw [ye0];(conv=>whnf);refine z3m ?_;(conv=>whnf);refine zcg ?_;(conv=>whnf)
   exact zmp rfl fun w2 hB=>⟨by rw [hyes];rfl,hB⟩
 ·have h1:¬(b-a)%4294967296%4=0:=by simpa using h1
  refine kB ?_;have hno:ycn a b=none:=(by unfold ycn;rw [if_neg (fun h=>h1 h.1)]);refine z23 (t:=true) rfl (fun _=>?_) nT;refine z3i ?_;(conv=>whnf);refine z3m ?_;(conv=>whnf);refine zcl (zcg ?_);(conv=>whnf)
  exact zmp rfl fun w2 hB=>⟨by rw [hno];rfl,hB⟩
section
variable {w:World}
theorem ydd {b:Blk} {A1 A2 A3:Option Addr} {c1 c2 c3:Nat} (hb:b.ok) (hv:z9g b=true) (hBA:BlkAt w b A1 A2 A3) {a:List Int} (ha:a.length=28) (hva:za2 a=true) (hal:∀ v,0≤v→v<28→ -1000≤getV a v∧getV a v≤1000) {G:Nat} {gm:MemP} {g0:Nat} {gs0:List Nat} (hG:1≤G∧G≤16) (hU:ObjsAt w (g0::gs0) (memS 0 (256*G) G gm)):
  Calls Tryz.prog 17 #[blkV b A1 A2 A3 c1 c2 c3,.agg (alL a).toArray,pV g0] w fun e w'=>∃ A cp,e= .returned (.tuple #[codV (yag b a (256*(G:Int)) (256*(G:Int)) 0) A cp,.bool true])∧SlAt w' w'.heap.size A ((z5q 0 (yag b a (256*(G:Int)) (256*(G:Int)) 0)).flatMap z5k)∧Below w.heap.size w w':=by
 obtain ⟨l,hle⟩:∃ l,l=yag b a (256*(G:Int)) (256*(G:Int)) 0:=⟨_,rfl⟩
 have hw:=yah (b:=b) (a:=a) (ctx:=256*(G:Int)) (size:=256*(G:Int)) (pred:=0) hv;have h8:=yam b a (256*(G:Int)) (256*(G:Int)) 0;have hbo:=yak (ctx:=256*(G:Int)) (size:=256*(G:Int)) (a:=a) hb hv yap;obtain ⟨hll,hlo⟩:=z9q hv;have htl:=z8o l;have hsc:=z5s l 0;have hbo':BuiltOk (z5q 0 (yag b a (256*(G:Int)) (256*(G:Int)) 0)) ((4*(yag b a (256*(G:Int)) (256*(G:Int)) 0).length:Nat):Int):=(by rw [show ((4*(yag b a (256*(G:Int)) (256*(G:Int)) 0).length:Nat):Int)=4*((yag b a (256*(G:Int)) (256*(G:Int)) 0).length:Int) by omega];exact hbo);refine zfh [blkV b A1 A2 A3 c1 c2 c3,.agg (alL a).toArray,pV g0] Tryz.func17 Tryz.ntmps17 rfl zS ?_;refine z3i ?_;(conv=>whnf);refine z3f fun r w1 hR=>?_;obtain ⟨p3,us,e1,e2,e3⟩:=hR.own 0 _ rfl;obtain rfl:=ziw (us:=[.slice A1 b.at_.length c1,.slice A2 b.pages.length c2,.slice A3 b.ops.length c3]) e3;obtain ⟨p4,us,f1,f2,f3⟩:=hR.own 1 _ rfl;obtain rfl:=ziw (us:=alL a) f3;obtain ⟨p6,us,g1,g2,g3⟩:=hR.own 2 _ rfl;obtain rfl:=ziw (us:=[strV [],.slice none 0 0]) g3;have hfp6:=zoi hR g1;have hB1:=hR.toBelow;refine ⟨z6d [(2,pV g0),(3,pV p3),(4,pV p4),(6,pV p6)],fun a' hf=>z6m ⟨z6k hf rfl,z6i hf 3 rfl e1,z6i hf 4 rfl f1,z6i hf 6 rfl g1,trivial⟩,?_⟩;clear hR e3 f3 g3 e1 f1 g1;have hU1:=zvw (zuc (256*G) G gm) hU hB1;have hBA1:=hBA.later hB1;refine z3i ?_;(conv=>whnf);refine ze3 rfl zK hU1 (fun w' hU=>zun gm (256*G) G w' g0 gs0 hU) ?_;(conv=>whnf);refine ⟨256*(G:Int),wr64 zO,?_⟩;(conv=>whnf);refine z25 (z27 5 rfl rfl rfl ?_);(conv=>whnf);refine ⟨_,zd0 e2,rfl,?_⟩;(conv=>whnf);refine ⟨alL a,zd0 f2,by rw [List.length_map,ha];rfl,?_⟩;(conv=>whnf);refine ⟨256*(G:Int),by rw [wr32];omega,?_⟩;(conv=>whnf);refine ⟨by kernel_rfl,fun r w2 us' hR hd=>?_⟩;obtain rfl:=zcs (xs:=[blkV b A1 A2 A3 c1 c2 c3,.agg (alL a).toArray,.int .u32 (256*(G:Int)),.int .i64 (256*(G:Int))]) (zct _ _ _ a) hd;have hB2:=hR.toBelow;have hBA2:=hBA1.later hB2;refine (zjn b A1 A2 A3 c1 c2 c3 a (256*(G:Int)) (256*(G:Int)) hb hv hBA2.pages hBA2.ops ha hva (by unfold word;omega) zO hal).mono fun e w3 ⟨⟨A,cp,he,hsl⟩,hB3⟩=>?_;rw [← hle] at he hsl;have hB13:=zdg hB2 hB3 hB2.size;refine ⟨_,AV.of (.tuple #[codV l A cp,.int .i64 0]),w3,Gs.nil,[(3,one (pV p3)),(6,one (pV p6))],[],Env.none,he,z1o w3,fun a hf=>zn1 ⟨z6j hf 3 rfl,z6j hf 6 rfl,trivial⟩,AV.of_den _ _,?_⟩;clear hR hd hBA2 hB2 hB3 he;(conv=>whnf);refine zcd ?_;refine z3f fun r w4 hR=>?_;obtain ⟨p9,us,y1,y2,y3⟩:=hR.own 0 _ rfl;obtain rfl:=ziw (us:=[strV (z8n l),.slice A (z5q 0 l).length cp]) y3;have hfp9:=zoi hR y1;have hB4:=hR.toBelow;refine ⟨z6d [(3,pV p3),(6,pV p6),(9,pV p9),(10,.int .i64 0)],fun a' hf=>z6m ⟨z6k hf rfl,z6k hf rfl,z6i hf 9 rfl y1,z6k hf rfl,trivial⟩,?_⟩;clear hR y1 y3;have hB14:=zdg hB13 hB4 hB13.size;have e24:=(hB14.block p3 (zpz e2)).trans e2;have g24:=(hB14.block p6 (zpz g2)).trans g2;have hsl4:SlAt w4 w4.heap.size A ((z5q 0 l).flatMap z5k):=(hsl.below hB4 (Nat.le_refl _)).more hB4.size;have hp6:w.heap.size≤p6:=hfp6
 have h96:p9≠p6:=fun e=>by have:=hfp9;have:=zpz g2;have:=hB13.size;omega
 have hnA:∀ b' off',A=some ⟨b',off',none⟩→b'∉[p6]:=fun b' off' e hm=>by
  rw [List.mem_singleton] at hm;subst hm;obtain ⟨idx,hix,_⟩:=z5n l 0 6 (zq1 ⟨1,0,0,0,0⟩) ⟨1,0,0,0,0⟩ (by rw [hle];rfl) rfl;obtain ⟨b2,o2,e2',h2,hc⟩:=hsl4 (idx*6+0) _ (znc _ idx _ hix 0 zO);rw [e] at e2';injection e2' with e2';injection e2' with e3 e4;subst e3;have hc:w4.cell? ⟨b',o2+(idx*6+0),none⟩=some (.int .i64 (4*((0+6:Nat):Int))):=hc;unfold World.cell? at hc;rw [g24] at hc
  match o2+(idx*6+0),hc with
  |0,hc=>exact absurd hc (by simp [strV])
  |1,hc=>exact absurd hc zS
  |n+2,hc=>exact absurd hc zS
 refine z3n 6 0 p6 rfl ⟨[p6],[]⟩ [.cells coT [.v (strV []),.v (.slice none 0 0)]] fun r w5 hR5=>?_;have hB5:=hR5.toBelow;have g25:=(hB5.block p6 (zpz g24)).trans g24;have e25:=(hB5.block p3 (zpz e24)).trans e24;have y25:=(hB5.block p9 (zpz y2)).trans y2;have hsl5:SlAt w5 w5.heap.size A ((z5q 0 l).flatMap z5k):=(hsl4.below hB5 (Nat.le_refl _)).more hB5.size;have hB15:=zdg hB14 hB5 hB14.size
 have n9:p9∉Gs.flat ⟨[p6],[]⟩:=fun hm=>by
  rcases znb.1 hm with hm|hm
  ·exact h96 (List.mem_singleton.1 hm)
  ·cases hm
 have n3:p3∉Gs.flat ⟨[p6],[]⟩:=fun hm=>by
  rcases znb.1 hm with hm|hm
  ·have:=List.mem_singleton.1 hm
   subst this;rw [e24] at g24;simp at g24
  ·cases hm
 refine ⟨_,z1p (zvy g25),rfl,?_⟩;refine z3i ?_;refine z2t (.q 0 (.q 1 (.q 2 (.q 3 (.alt 4 (.alt 5 (.q 6 .done) .no) .no))))) mixed zK zK ?_;(conv=>whnf);refine ⟨_,zfq (zd0 y25) n9,rfl,?_⟩;(conv=>whnf);refine ⟨_,zfq (zd0 e25) n3,rfl,?_⟩;(conv=>whnf);refine ⟨_,zfq (zd0 y25) n9,rfl,?_⟩;(conv=>whnf);refine ⟨?_,trivial⟩;refine ze2 (x:= .bool true) (xs:=[blkV b A1 A2 A3 c1 c2 c3,codV l A cp,.int .i64 0]) rfl zK (fun r w' hR=>zeh (z8n l) (z5q 0 l) (z6a hR hsl5 hnA) (by rw [htl,hle];omega) hlo.2 (by rw [hle] at hsc⊢;omega) (by rw [htl,hle];exact hbo')) ?_;(conv=>whnf);refine ⟨?_,trivial⟩;(conv=>whnf);refine z3m ?_;(conv=>whnf);refine zcg ?_;(conv=>whnf);refine ⟨fun r2 w9 u hR hd=>?_⟩;rw [AV.val_den (x:= .tuple #[codV l A cp,.bool true]) rfl hd];have hgr:=hR.growns;have hz1:=hB1.size;have hz5:=hB15.size;refine ⟨A,cp,by rw [hle],by rw [← hle];exact z6a hR hsl5 hnA,hgr.os.trans (hB15.os.trans hB1.os),hgr.tape.trans (hB15.tape.trans hB1.tape),hgr.output.trans (hB15.output.trans hB1.output),Nat.le_trans hz1 (Nat.le_trans hz5 hgr.size),fun k hk=>(hgr.block k zO fun hm=>by rw [List.mem_singleton] at hm;omega).trans ((hB15.block k zO).trans (hB1.block k hk))⟩
end
abbrev ydl (n0 n1 n2 n3:Int):Value:= .agg #[intV n0,intV n1,intV n2,intV n3]
theorem yfe (x:Int):0≤IntKind.u8.wrap x∧IntKind.u8.wrap x<256:=by
 show 0≤x%256∧x%256<256;omega
section
variable {w:World}
theorem yd2 (n0 n1 n2 n3:Int):Calls Tryz.prog 16 #[ydl n0 n1 n2 n3] w fun e w'=>∃ (G g:Nat) (gs:List Nat) (M:MemP),e= .returned (pV g)∧(1≤G∧G≤4)∧M.ok (256*G) G∧ObjsAt w' (g::gs) (memS 0 (256*G) G M)∧(∀ b∈g::gs,w.heap.size≤b)∧Below w.heap.size w w':=by
 obtain ⟨G,hG⟩:∃ G:Nat,(G:Int)=1+n0%4:=⟨(1+n0%4).toNat,by omega⟩
 have hG4:1≤G∧G≤4:=(by omega);refine zfh [ydl n0 n1 n2 n3] Tryz.func16 Tryz.ntmps16 rfl zS ?_;refine z3i ?_;(conv=>whnf);refine z3f fun r w1 hR=>?_;obtain ⟨p1,us,e1,e2,e3⟩:=hR.own 0 _ rfl;obtain rfl:=ziw (us:=[intV n0,intV n1,intV n2,intV n3]) e3;have hB1:=hR.toBelow;have hp1:=zoi hR e1;refine ⟨z6d [(1,pV p1)],fun a' hf=>z6m ⟨z6i hf 1 rfl e1,trivial⟩,?_⟩;clear hR e3 e1;refine z3i ?_;(conv=>whnf);refine zz9 (size:=1) p1 0 4 0 rfl rfl rfl rfl rfl rfl zO zO ?_;(conv=>whnf);refine ⟨_,zd1 e2 rfl,?_⟩;(conv=>whnf);refine ze2 (x:=intV (n0%4)) rfl zK (fun r w' hR=>yd3 n0 4 w' zO) ?_;(conv=>whnf);refine ⟨(G:Int),by rw [hG];exact wr64 zO,?_⟩;(conv=>whnf);refine z25 (z26 1 rfl rfl rfl ?_);(conv=>whnf);refine ⟨by kernel_rfl,fun r w2 us' hR hd=>?_⟩;obtain rfl:=zcs (xs:=[intV (G:Int),.bool false]) rfl hd;have hB2:=hR.toBelow
 refine (zu0 G w2 zO).mono fun e w3 ⟨g,gs,he,hn⟩=>⟨_,he,?_⟩
 have hB3:=zdg (zdg hB1 hB2 hB1.size) hn.below (Nat.le_trans hB1.size hB2.size);have hz3:=Nat.le_trans hB1.size hB2.size;have hfr:=hn.fresh;have hU3:=hn.at_;have hM0:(MemP.zero G).ok (256*G) G:=zuw zO;have e23:w3.heap[p1]?=some (.cells ([intV n0,intV n1,intV n2,intV n3]:List Value).toArray 23 (0,0)):=((hn.below.block p1 (Nat.lt_of_lt_of_le (zpz e2) hB2.size)).trans (hB2.block p1 (zpz e2))).trans e2
 have hpn:p1∉g::gs:=fun hm=>by
  have:=hfr p1 hm;have:=zpz e2;have:=hB2.size;omega
 have hfw:∀ b∈g::gs,w.heap.size≤b:=fun b hb=>by have:=hfr b hb;omega
 clear hn hfr hB1 hB2 hR hd e2;(conv=>whnf);refine zcd ?_;refine z25 ?_;refine z3i ?_;(conv=>whnf);refine z21 ?_;refine z3b (fun j:{j:Nat//j≤G}=>[(1,one (pV p1)),(3,one (intV (G:Int))),(4,one (pV g)),(5,one (intV (j.1:Int)))]) (fun j w'=>∃ M:MemP,M.ok (256*G) G∧ObjsAt w' (g::gs) (memS 0 (256*G) G M)∧Held w3 ⟨[],g::gs⟩ w') (fun j=>G-j.1) ⟨0,by omega⟩ Tn (fun r w' hR=>⟨_,hM0,zvw (zuc _ _ _) hU3 hR.toBelow,zp4 hR.toBelow⟩) (fun j w' hJ=>?_);obtain ⟨j,hj⟩:=j;dsimp only at hJ⊢;obtain ⟨M,hM,hU4,hh4⟩:=hJ;have e24:=(zp0 hh4 (zpz e23) hpn).trans e23;refine z25 ?_;refine z3i ?_;(conv=>whnf);refine z23 rfl (fun hc=>z3j (zcd ?_)) (fun hc=>?_)
 ·have hlt:j<G:=by have:=of_decide_eq_true hc;omega
  refine z3d (α:=Unit) (fun _=>[(1,one (pV p1)),(3,one (intV (G:Int))),(4,one (pV g)),(5,one (intV (j:Int)))]) (fun _ w2=>∃ M:MemP,M.ok (256*G) G∧ObjsAt w2 (g::gs) (memS 0 (256*G) G M)∧Held w3 ⟨[],g::gs⟩ w2) ?_ fun _ w2 hl=>?_
  ·refine z21 ?_
   refine z3i ?_;(conv=>whnf);refine z3d (α:={x:Int//0≤x∧x<4}) (fun x=>[(1,one (pV p1)),(3,one (intV (G:Int))),(4,one (pV g)),(5,one (intV (j:Int))),(6,one (intV x.1))]) (fun _ w2=>Below w'.heap.size w' w2) ?_ fun x w5 hB5=>?_
   ·refine z3i ?_
    (conv=>whnf);refine zz9 (size:=1) p1 0 4 1 rfl rfl rfl rfl rfl rfl zO zO ?_;(conv=>whnf);refine ⟨_,zd1 e24 rfl,?_⟩;(conv=>whnf);refine ⟨((j+1:Nat):Int),by rw [show (j:Int)+1=((j+1:Nat):Int) by omega];exact wr64 zO,?_⟩;(conv=>whnf);refine ⟨by omega,_,rfl,?_⟩;(conv=>whnf);refine ze2 (x:=intV (_%4)) rfl zK (fun r w' hR=>yd3 _ 4 w' zO) ?_;(conv=>whnf);refine z23 rfl (fun hc=>?_) (fun hc=>?_)
    ·refine z3m ?_
     (conv=>whnf);refine zz9 (size:=1) p1 0 4 1 rfl rfl rfl rfl rfl rfl zO zO ?_;(conv=>whnf);refine ⟨_,zd1 e24 rfl,?_⟩;(conv=>whnf);refine ze2 (x:=intV (n1%4)) rfl zK (fun r w' hR=>yd3 n1 4 w' zO) ?_;(conv=>whnf);exact zca ⟨n1%4,by omega⟩ Tn fun r w3 hR=>hR.toBelow
    ·exact z3j (zca ⟨3,by omega⟩ Tn fun r w3 hR=>hR.toBelow)
   ·obtain ⟨x,hx⟩:=x
    dsimp only;have hU5:=zvw (zuc _ _ _) hU4 hB5;have hh5:=zp7 (gs1:=[]) hh4 (zp4 hB5) nofun;refine z25 (z26 3 rfl rfl rfl ?_);(conv=>whnf);refine ⟨by kernel_rfl,fun r w6 us' hR hd=>?_⟩;obtain rfl:=zcs (xs:=[pV g,intV (j:Int),intV x]) rfl hd;have hU6:=zvw (zuc _ _ _) hU5 hR.toBelow;have hh6:=zp7 (gs1:=[]) hh5 (zp4 hR.toBelow) nofun
    refine (zuq M (256*G) G j x w6 g gs hU6 hM hlt zO zO).mono fun e w7 ⟨he,hU7,hg7⟩=>⟨_,he,?_⟩
    have hh7:=zp7 hh6 (zp5 hg7) fun b hb=> .inl hb;have hM7:=zy4 hM j (x:=x) zO;generalize M.protect j x=M7 at hM7 hU7;clear hR hd hU6 hh6 hg7 hU5 hh5;(conv=>whnf);refine zcd ?_;refine z3i ?_;(conv=>whnf);refine z21 ?_;refine z3b (fun q:{q:Nat//q≤37}=>[(1,one (pV p1)),(3,one (intV (G:Int))),(4,one (pV g)),(5,one (intV (j:Int))),(7,one (intV (7*(q.1:Int))))]) (fun _ w2=>∃ M:MemP,M.ok (256*G) G∧ObjsAt w2 (g::gs) (memS 0 (256*G) G M)∧Held w3 ⟨[],g::gs⟩ w2) (fun q=>37-q.1) ⟨0,by omega⟩ Tn (fun r w'' hR=>⟨M7,hM7,zvw (zuc _ _ _) hU7 hR.toBelow,zp7 (gs1:=[]) hh7 (zp4 hR.toBelow) nofun⟩) (fun q w8 hJ2=>?_);obtain ⟨q,hq⟩:=q;dsimp only at hJ2⊢;obtain ⟨M8,hM8,hU8,hh8⟩:=hJ2;have e28:=(zp0 hh8 (zpz e23) hpn).trans e23;refine z25 ?_;refine z3i ?_;(conv=>whnf);refine z23 rfl (fun hc=>z3j (zcd ?_)) (fun hc=>?_)
    ·have hlt:q<37:=by have:=of_decide_eq_true hc;omega
     refine z3d (α:=Unit) (fun _=>[(1,one (pV p1)),(3,one (intV (G:Int))),(4,one (pV g)),(5,one (intV (j:Int))),(7,one (intV (7*(q:Int))))]) (fun _ w2=>∃ M:MemP,M.ok (256*G) G∧ObjsAt w2 (g::gs) (memS 0 (256*G) G M)∧Held w3 ⟨[],g::gs⟩ w2) ?_ fun _ w2 hl=>?_
     ·refine z21 ?_
      refine z26 16 rfl rfl rfl ?_;(conv=>whnf);refine ⟨256*(j:Int),wr64 zO,?_⟩;(conv=>whnf);refine ⟨256*(j:Int)+7*(q:Int),wr64 zO,?_⟩;(conv=>whnf);refine ⟨256*(j:Int)+7*(q:Int),by rw [wr32];omega,?_⟩;(conv=>whnf);refine zz9 (size:=1) p1 0 4 2 rfl rfl rfl rfl rfl rfl zO zO ?_;(conv=>whnf);refine ⟨_,zd1 e28 rfl,?_⟩;(conv=>whnf);refine ⟨7*(q:Int)+(j:Int),wr64 zO,?_⟩;(conv=>whnf);refine ⟨7*(q:Int)+(j:Int)+1,wr64 zO,?_⟩;(conv=>whnf);refine ⟨_,rfl,?_⟩;(conv=>whnf);generalize hy:IntKind.u8.wrap (IntKind.i64.wrap (n2*(7*(q:Int)+(j:Int)+1)))=y;have hyr:0≤y∧y<256:=(by rw [← hy];exact yfe _);clear hy;refine ⟨y,rfl,?_⟩;(conv=>whnf);refine zz5 0 1 1 [y] rfl rfl rfl rfl rfl rfl rfl ?_;(conv=>whnf);refine ⟨by kernel_rfl,fun r w9 us' hR hd=>?_⟩;obtain rfl:=zcs (xs:=[pV g,.int .u32 (256*(j:Int)+7*(q:Int)),strV [y]]) rfl hd;have hU9:=zvw (zuc _ _ _) hU8 hR.toBelow;have hh9:=zp7 (gs1:=[]) hh8 (zp4 hR.toBelow) nofun
      have hbl:∀ x∈[y],0≤x∧x<256:=fun x hx=>by rw [List.mem_singleton.1 hx];exact hyr
      refine (zup M8 (256*G) G (256*(j:Int)+7*(q:Int)) [y] w9 g gs hU9 hM8 (by unfold word;omega) hbl (show 1≤1000000 by decide) zO).mono fun e w10 ⟨he,hU10,hg10⟩=>⟨_,he,?_⟩
      have hh10:=zp7 hh9 (zp5 hg10) fun b hb=> .inl hb;have hM10:=zyy hM8 (256*(j:Int)+7*(q:Int)) hbl [y].length (Nat.le_refl _);generalize M8.pokeAt (256*(j:Int)+7*(q:Int)) [y] [y].length=M10 at hM10 hU10;clear hR hd hU9 hh9 hg10;(conv=>whnf);exact zb4 (zca () Tn fun r w3 hR=>⟨M10,hM10,zvw (zuc _ _ _) hU10 hR.toBelow,zp7 (gs1:=[]) hh10 (zp4 hR.toBelow) nofun⟩)
     ·obtain ⟨M9,hM9,hU9,hh9⟩:=hl
      refine z3m ?_;(conv=>whnf);refine ⟨7*((q+1:Nat):Int),by rw [show 7*(q:Int)+7=7*((q+1:Nat):Int) by omega];exact wr64 zO,?_⟩;(conv=>whnf);exact zcc ⟨q+1,by omega⟩ Tn (fun r w3 hR=>⟨M9,hM9,zvw (zuc _ _ _) hU9 hR.toBelow,zp7 (gs1:=[]) hh9 (zp4 hR.toBelow) nofun⟩) (by show 37-(q+1)<37-q;omega)
    ·refine z3m ?_
     (conv=>whnf);exact zb7 (zcf (zb6 (zb4 (zca () Tn fun r w3 hR=>⟨M8,hM8,zvw (zuc _ _ _) hU8 hR.toBelow,zp7 (gs1:=[]) hh8 (zp4 hR.toBelow) nofun⟩))))
  ·obtain ⟨M8,hM8,hU8,hh8⟩:=hl
   refine z3m ?_;(conv=>whnf);refine ⟨((j+1:Nat):Int),by rw [show (j:Int)+1=((j+1:Nat):Int) by omega];exact wr64 zO,?_⟩;(conv=>whnf);exact zcc ⟨j+1,by omega⟩ Tn (fun r w3 hR=>⟨M8,hM8,zvw (zuc _ _ _) hU8 hR.toBelow,zp7 (gs1:=[]) hh8 (zp4 hR.toBelow) nofun⟩) (by show G-(j+1)<G-j;omega)
 ·refine z3m ?_
  (conv=>whnf);refine zb7 (zcf (zb6 (zcd ?_)));refine z3i ?_;(conv=>whnf);refine z3m ?_;(conv=>whnf);refine zcg ?_;(conv=>whnf)
  refine zmp rfl fun w9 hB9=>⟨G,g,gs,M,rfl,hG4,hM,zvw (zuc _ _ _) hU4 hB9,hfw,?_⟩
  exact zdj (zdi hB3 hh4 hfw) hB9
end
theorem yb2 {a:List Int} (hl:a.length=28) {v x:Int} (hv:0≤v∧v<28) (u:Int) (hu:0≤u):getV (a.set v.toNat x) u=if u=v then x else getV a u:=by
 unfold getV;rw [List.getElem?_set];by_cases h:u=v
 ·subst h
  rw [if_pos rfl,if_pos zO,if_pos rfl];rfl
 ·rw [if_neg zO,if_neg h]
theorem AlR.give {a:List Int} {r:Nat} (h:AlR a r) {v:Int} (hv:0≤v∧v<28) (h19:v≠19):AlR (a.set v.toNat (r:Int)) (r+1):=by
 have hg:=fun u hu=>yb2 (x:=(r:Int)) h.len hv u hu;refine ⟨by rw [List.length_set];exact h.len,fun u h0 h1=>?_,?_,fun u t u0 u1 t0 t1 hu he=>?_⟩
 ·rw [hg u h0]
  have:=h.lo u h0 h1
  split<;>omega
 ·rw [hg 19 zO,if_neg zO];exact h.pc
 ·rw [hg u u0] at hu he
  rw [hg t t0] at he;have h1:=h.lo u u0 u1;have h2:=h.lo t t0 t1;by_cases c1:u=v
  ·by_cases c2:t=v
   ·omega
   ·rw [if_pos c1,if_neg c2] at he;omega
  ·rw [if_neg c1] at hu he
   by_cases c2:t=v
   ·rw [if_pos c2] at he;omega
   ·rw [if_neg c2] at he
    exact h.inj u t u0 u1 t0 t1 hu he
theorem yfa (n0 n1 n2 n3:Int) (vs:List Int):zoz Gs.nil [Ow.cells 23 [.v (intV n0),.v (intV n1),.v (intV n2),.v (intV n3)],Ow.cells 42 (z95 (List.replicate 28 0)),Ow.cells 42 (z95 vs)]=true:=by
 show sbnd 3 _=true;simp only [sbnd,Ow.bnd,zd6]
 rfl
section
variable {w:World}
theorem yfb (n0 n1 n2 n3:Int):Calls Tryz.prog 19 #[ydl n0 n1 n2 n3] w fun e w'=>∃ vs,VarsOk vs∧e= .returned (z97 vs)∧Below w.heap.size w w':=by
 refine zfh [ydl n0 n1 n2 n3] Tryz.func19 Tryz.ntmps19 rfl zS ?_;refine z3i ?_;(conv=>whnf);refine z3i ?_;(conv=>whnf);refine z3c (α:={vs:List Int//VarsOk vs}) (fun _=>[(1,.p (.c (.ref 0 0))),(2,.p (.c (.ref 1 0))),(3,.p (.c (.ref 2 0)))]) (fun x=>[.cells 23 [.v (intV n0),.v (intV n1),.v (intV n2),.v (intV n3)],.cells 42 (z95 (List.replicate 28 0)),.cells 42 (z95 x.1)]) ?_ fun x=>?_
 ·refine z3i ?_
  (conv=>whnf);refine z21 ?_;refine z29 (α:={x:Nat×List Int//x.1≤19∧VarsOk x.2}) (fun x=>[(1,.p (.c (.ref 0 0))),(2,.p (.c (.ref 1 0))),(3,.p (.c (.ref 2 0))),(4,one (intV (x.1.1:Int)))]) (fun x=>[.cells 23 [.v (intV n0),.v (intV n1),.v (intV n2),.v (intV n3)],.cells 42 (z95 (List.replicate 28 0)),.cells 42 (z95 x.1.2)]) (fun x=>19-x.1.1) ⟨(0,List.replicate 28 0),by omega,yaa⟩ (zkb rfl Tn Tn) (fun x=>?_);obtain ⟨⟨j,vs⟩,hj,hvs⟩:=x;dsimp only at hj hvs⊢;have hlen:=z96 hvs;refine z3i ?_;(conv=>whnf);refine ⟨fun hc=>?_,fun hc=>?_⟩
  ·have hlt:j<19:=by simp at hc;omega
   (conv=>whnf);refine z25 (z21 ?_);refine z3i ?_;(conv=>whnf)
   (refine ⟨⟨by omega,by omega⟩,?_⟩;(conv=>whnf))
   (refine ⟨⟨by omega,by omega⟩,?_⟩;(conv=>whnf))
   refine ⟨_,rfl,?_⟩;(conv=>whnf);refine ⟨_,rfl,?_⟩;(conv=>whnf);refine ⟨_,rfl,?_⟩;(conv=>whnf);refine ⟨_,wr32 _,?_⟩;generalize hx:(IntKind.u32.wrap (IntKind.i64.wrap (n2+IntKind.i64.wrap ((j:Int)*n3)))*2654435761)%4294967296=x;have hxw:word x:=(by rw [← hx];exact yau _);clear hx;have hx0:=hxw.1;(conv=>whnf);refine z3m ?_;(conv=>whnf);refine ⟨by decide,x%16,Int.tmod_eq_emod_of_nonneg hx0,?_⟩;(conv=>whnf);refine ⟨by decide,x%5,Int.tmod_eq_emod_of_nonneg hx0,?_⟩;(conv=>whnf);refine ⟨_,wr32 _,?_⟩;(conv=>whnf);refine ⟨by decide,x/8,by rw [Int.tdiv_eq_ediv_of_nonneg hx0,wr32];unfold word at hxw;omega,?_⟩;(conv=>whnf);refine ⟨by decide,x/8%8,Int.tmod_eq_emod_of_nonneg zO,?_⟩;(conv=>whnf);refine ⟨_,wr32 _,?_⟩;(conv=>whnf);refine ⟨by decide,x%1024,Int.tmod_eq_emod_of_nonneg hx0,?_⟩;(conv=>whnf);refine ⟨by decide,x/256,Int.fdiv_eq_ediv_of_nonneg _ (by decide),?_⟩;(conv=>whnf);refine ⟨x/256,wr64 (by unfold word at hxw;omega),?_⟩;(conv=>whnf);refine ⟨by decide,x/256%5,Int.tmod_eq_emod_of_nonneg zO,?_⟩;have hk:x/256%5=0∨x/256%5=1∨x/256%5=2∨x/256%5=3∨x/256%5=4:=(by omega);have hble:∀ y:Value,Nat.ble (0+((j:Nat):Int).toNat*tsz Tryz.prog 41+[CV.v y].length) (z95 vs).length=true:=fun y=>Nat.ble_eq_true_of_le (by rw [hlen];show 0+j*1+1≤28;omega);have hble8:Nat.ble (z95 vs).length 8=false:=zdy (by rw [hlen];decide)
   have hset:∀ y:Int,z3z (z95 vs) (0+((j:Nat):Int).toNat*tsz Tryz.prog 41) [CV.v (Value.int .u32 y)]=z95 (vs.set j y):=fun y=>by
    rw [z4h];show List.map CV.v ((u32L vs).set (0+j*1) _)=_;rw [Nat.zero_add,Nat.mul_one];show List.map CV.v ((List.map (Value.int .u32) vs).set j _)=List.map CV.v (List.map (Value.int .u32) (vs.set j y));simp only [List.map_set]
   rcases hk with hk|hk|hk|hk|hk<;>rw [hk]
   all_goals
    conv=>whnf
    (refine ⟨⟨by omega,by omega⟩,?_⟩;(conv=>whnf))
    (refine ⟨⟨by omega,by omega⟩,?_⟩;(conv=>whnf))
    rw [hble];(conv=>whnf);rw [hble8];(conv=>whnf);refine zcm ?_;refine z3m ?_;(conv=>whnf);refine ⟨((j+1:Nat):Int),by rw [show (j:Int)+1=((j+1:Nat):Int) by omega];exact wr64 zO,?_⟩;(conv=>whnf);exact zcb ⟨(j+1,vs.set j _),by omega,z4g hvs j (by first|exact yau _|exact hxw|exact yap|(unfold word at hxw⊢;omega))⟩ (zj2 Tn (aI sM (aI sM (aI ((aI rfl (Or.inl (hset _)))) trivial))) rfl (yfa _ _ _ _ _)) (by show 19-(j+1)<19-j;omega)
  ·conv=>whnf
   refine zce (zb6 (zb8 ⟨vs,hvs⟩ (zkb rfl Tn Tn)))
 obtain ⟨vs,hvs⟩:=x;dsimp only;have hlen:=z96 hvs;refine z3i ?_;(conv=>whnf);rw [show cut (z95 vs) 0 (Tryz.prog.types[42].size)=some (z95 vs) from zh1 hlen];(conv=>whnf);rw [show Nat.beq (z95 vs).length (Tryz.prog.types[42].size)=true from by rw [hlen];rfl,zwl];(conv=>whnf);rw [show Nat.ble (0+(z95 vs).length) (z95 (List.replicate 28 0)).length=true from Nat.ble_eq_true_of_le (by rw [hlen];decide)];(conv=>whnf);rw [z32 (show (z95 (List.replicate 28 0)).length=(z95 vs).length by rw [hlen];rfl)];refine z3m ?_;(conv=>whnf);refine zcg ?_;(conv=>whnf);rw [show cut (z95 vs) 0 (Tryz.prog.types[42].size)=some (z95 vs) from zh1 hlen];(conv=>whnf)
 exact zmp (z9e _) fun w2 hB=>⟨vs,hvs,rfl,hB⟩
end
end Go.Proofs.YtocafomnnkmjfaaGreat
