import Derived.ProofKit
import Derived.OpenShut
import Derived.ShutString
import Derived.ChangeOld
import Derived.Below
import Derived.Lib.SmallJoins
import Derived.Deep.Strs
import Derived.Test.YtocafomnnkmjfaaGreatK38
import Derived.Test.YtocafomnnkmjfaaGreatMSitesA
set_option maxRecDepth 100000
set_option maxHeartbeats 4000000
namespace Go.Proofs.YtocafomnnkmjfaaGreat
open Go.RowKit
theorem ydb {w0:World} {G:Gs} {S:List Ow} {K:AV→List Ow→Prop} (i:Nat) {A:Option Addr} {m c:Nat} {xs:List Int} {k:Int} (hi:S[i]?=some (.cells 125 ((mkC A m c k).map .v))) (hs:zao w0 G A (xs.map (.int .i64))) (hl:xs.length=m) (hm:0≤m) (hk:0≤k∧k<900000)
  (hK:∀ (l:List BOp) (W:Nat) (ch:Bool) (k':Int),BodyOk l W ch→l.length≤10→0≤k'→k'≤k+200→K (.p (.c (.row S.length))) (S.set i (.cells 125 ((mkC A m c k').map .v))++[.row 61 5 l.length (l.flatMap opC)])):CallS Tryz.prog w0 G 61 [.p (.c (.ref i 0))] S K:=by
 refine ydc 61 5 (fun n ys us'=>∃ (l:List BOp) (W:Nat) (ch:Bool) (k':Int),BodyOk l W ch∧n=l.length∧ys=l.flatMap opC∧l.length≤10∧us'=mkC A m c k'∧0≤k'∧k'≤k+200) i hi (xs:=[]) rfl zK (fun w g ho hg=>yd9 A m c xs k g w (ho A _ hs) hl hm hk hg) ?_;rintro n ys us' ⟨l,W,ch,k',hb,rfl,rfl,hll,rfl,h0,h1⟩;exact hK l W ch k' hb hll h0 h1
theorem yep (l:List BOp):∀ u∈l.flatMap opC,u.oneCell'=true:=fun u hu=>by
 obtain ⟨o,_,ho⟩:=List.mem_flatMap.1 hu;exact yel u ho
theorem yeg (A:Option Addr) (m c:Nat) (xs:List Int) (w:World) (hs:SlAt w w.heap.size A (xs.map (.int .i64))) (hl:xs.length=m) (hm:0≤m):
  Calls Tryz.prog 14 #[.slice A m c] w fun e w'=>∃ b v1 v2 v3,MadeOk b∧e= .returned (.agg #[v1,v2,v3])∧Rows3 w.heap.size w' v1 v2 v3 b∧Below w.heap.size w w':=by
 have hs0:zao w Gs.nil A (xs.map (.int .i64)):=fun j u hj=>by
  obtain ⟨b,off,e1,e2,e3⟩:=hs j u hj;exact ⟨b,off,e1,e2,by simp,e3⟩
 refine zfg [.slice A m c] Tryz.func14 Tryz.ntmps14 rfl zS ?_
 refine z3n ?_
 conv=>whnf
 refine z3n ?_
 conv=>whnf
 refine z3n ?_
 conv=>whnf
 refine yde 1 rfl hs0 hl hm zO zO fun z z0 z1=>?_
 conv=>whnf
 refine ⟨1+z,wr64 zO,?_⟩
 conv=>whnf
 refine z3n ?_
 conv=>whnf
 refine yde 1 rfl hs0 hl hm zO zO fun y y0 y1=>?_
 conv=>whnf
 refine ⟨y,by rw [wr32];omega,?_⟩
 conv=>whnf
 refine ⟨y*8,by rw [wr32];omega,?_⟩
 conv=>whnf
 refine z3n ?_
 conv=>whnf
 refine ⟨by omega,y*8/256,by rw [Int.tdiv_eq_ediv_of_nonneg zO,wr32];omega,?_⟩
 conv=>whnf
 refine ⟨y*8/256,wr64 zO,?_⟩
 conv=>whnf
 obtain ⟨n,hn,hn0,hn1⟩:∃ n,n=1+z∧1≤n∧n≤12:=⟨_,rfl,by omega,by omega⟩
 rw [← hn]
 obtain ⟨at0,hat,hat0,hat1⟩:∃ a,a=y*8∧0≤a∧a<4096:=⟨_,rfl,by omega,by omega⟩
 rw [← hat]
 obtain ⟨p,hp,hp0,hp1⟩:∃ p,p=at0/256∧0≤p∧p<4096:=⟨_,rfl,by omega,by omega⟩
 rw [← hp];clear hn hat hp;refine z3d ?_;refine z3n ?_;(conv=>whnf);refine z3a ?_
 refine z3g (α:=MadeSt n 2) (fun x=>[(2,.p (.c (.ref 0 0))),(3,.p (.c (.ref 1 0))),(4,one (.int .i64 n)),(5,one (.int .u32 at0)),(6,.p (.c (.ref 3 0))),(7,one (.int .i64 (x.i:Int)))])
  (fun x=>[.cells 28 [.v (.slice none 0 0),.v (.slice none 0 0),.v (.slice none 0 0)],.cells 125 ((mkC A m c x.k).map .v),.cells 3 [.v (.int .i64 p)],.cells 28 [.row 4,.sl 2 0 1 1,.row 5],.row 41 1 x.ats.length (x.ats.map (.int .u32)),.row 61 5 x.ops.length (x.ops.flatMap opC)])
  (fun x=>(n-x.i).toNat) ⟨0,[],[],0,false,2,by omega,nofun,rfl,PreOk.nil,by simp,by omega⟩
  (zj8 (ydz 3 0 41 1 rfl rfl (f':=[(2,.p (.c (.ref 0 0))),(3,.p (.c (.ref 1 0))),(4,one (.int .i64 n)),(5,one (.int .u32 at0)),(6,.p (.c (.ref 3 0))),(7,one (.int .i64 0))]) Tn) (zj8 (ydz 3 2 61 5 rfl rfl (f':=[(2,.p (.c (.ref 0 0))),(3,.p (.c (.ref 1 0))),(4,one (.int .i64 n)),(5,one (.int .u32 at0)),(6,.p (.c (.ref 3 0))),(7,one (.int .i64 0))]) Tn) (zj7 rfl Tn (aI sM (aI sM (aI sM (aI sM (aI ((aI rfl (aI rfl (aI rfl rfl)))) (aI ((aI rfl (aI rfl (aI rfl rfl)))) trivial))))))))) fun x=>?_
 obtain ⟨i,ats,ops,W,ch,k,hi,hats,hatl,pre,hlen,hk⟩:=x;dsimp only;refine z3n ?_;(conv=>whnf);refine ⟨fun hc=>?_,fun hc=>?_⟩
 ·have hlt:(i:Int)<n:=by simpa using hc
  conv=>whnf
  refine z3j (α:={y:MadeSt n 2//y.i=i+1}) (fun y=>[(2,.p (.c (.ref 0 0))),(3,.p (.c (.ref 1 0))),(4,one (.int .i64 n)),(5,one (.int .u32 at0)),(6,.p (.c (.ref 3 0))),(7,one (.int .i64 (i:Int)))])
   (fun y=>[.cells 28 [.v (.slice none 0 0),.v (.slice none 0 0),.v (.slice none 0 0)],.cells 125 ((mkC A m c y.1.k).map .v),.cells 3 [.v (.int .i64 p)],.cells 28 [.row 4,.sl 2 0 1 1,.row 5],.row 41 1 y.1.ats.length (y.1.ats.map (.int .u32)),.row 61 5 y.1.ops.length (y.1.ops.flatMap opC)]) ?_ fun y=>?_
  ·refine z3a ?_
   refine z3n ?_;(conv=>whnf);refine ⟨_,wr64 zO,?_⟩;(conv=>whnf);refine ⟨_,wr32 _,?_⟩;(conv=>whnf);refine ⟨_,wr32 _,?_⟩;(conv=>whnf);refine zbi rfl ?_ rfl;(conv=>whnf);refine ⟨by omega,?_⟩;(conv=>whnf);refine z3n ?_;(conv=>whnf);refine ⟨(i:Int),by rw [wr32];omega,?_⟩;(conv=>whnf);refine zbi rfl ?_ rfl;(conv=>whnf);refine ⟨by omega,?_⟩;(conv=>whnf)
   obtain ⟨ats2,hats2⟩:∃ l,l=ats++[(at0+4*(i:Int)%4294967296)%4294967296]:=⟨_,rfl⟩
   have hatsw:∀ x∈ats2,word x:=by
    intro x hx;rw [hats2] at hx;rcases List.mem_append.1 hx with hx|hx
    ·exact hats x hx
    ·simp at hx;subst hx;exact ya1 _
   have hatsl:ats2.length=i+1:=(by rw [hats2];simp [hatl]);have pre2:=pre.mark zO
   refine z3j (α:={y:Int×Bool//k≤y.1∧y.1≤k+1}) (fun y=>[(2,.p (.c (.ref 0 0))),(3,.p (.c (.ref 1 0))),(4,one (.int .i64 n)),(5,one (.int .u32 at0)),(6,.p (.c (.ref 3 0))),(7,one (.int .i64 (i:Int))),(55,one (.bool y.1.2))])
    (fun y=>[.cells 28 [.v (.slice none 0 0),.v (.slice none 0 0),.v (.slice none 0 0)],.cells 125 ((mkC A m c y.1.1).map .v),.cells 3 [.v (.int .i64 p)],.cells 28 [.row 4,.sl 2 0 1 1,.row 5],.row 41 1 ats2.length (ats2.map (.int .u32)),.row 61 5 (ops++[(⟨20,0,0,0,(i:Int)⟩:BOp)]).length ((ops++[(⟨20,0,0,0,(i:Int)⟩:BOp)]).flatMap opC)]) ?_ fun y=>?_
   ·refine ye0 ?_
    (conv=>whnf);refine ⟨_,wr64 zO,?_⟩;(conv=>whnf);by_cases hlast:(i:Int)<n-1
    ·rw [decide_eq_true hlast]
     (conv=>whnf);exact zb8 ⟨(k,true),by dsimp only;omega⟩ (zjy Tn (aI sM (aI sM (aI sM (aI sM (aI ((aI rfl (aI rfl (aI (by rw [hats2];simp) (by rw [hats2];simp))))) (aI ((aI rfl (aI rfl (aI zS (by simp [opC]))))) trivial)))))) rfl rfl)
    ·rw [decide_eq_false hlast]
     (conv=>whnf);refine yde 1 rfl hs0 hl hm zO zO fun q q0 q1=>?_;(conv=>whnf);exact zb8 ⟨(k+1,decide (q>0)),by dsimp only;omega⟩ (zjy Tn (aI sM (aI sM (aI sM (aI sM (aI ((aI rfl (aI rfl (aI (by rw [hats2];simp) (by rw [hats2];simp))))) (aI ((aI rfl (aI rfl (aI zS (by simp [opC]))))) trivial)))))) rfl rfl)
   obtain ⟨⟨k2,bd⟩,hk2⟩:=y;dsimp only at hk2⊢;refine z3s ?_;(conv=>whnf);refine ⟨fun _=>?_,fun _=>?_⟩
   ·conv=>whnf
    refine yez (.q 0 (.q 2 (.alt 1 (.alt 3 (.alt 4 (.q 5 (.alt 6 .done .no)) .no) .no) (.alt 3 (.alt 1 (.alt 4 (.q 5 (.alt 6 .done .no)) .no) .no) .no)))) mixed zK zK ?_;(conv=>whnf);refine ⟨?_,?_,trivial⟩
    ·conv=>whnf
     refine ⟨?_,trivial⟩;(conv=>whnf);refine ydb 1 rfl hs0 hl hm zO fun l W' ch' k' hb hll h0 h1=>?_;(conv=>whnf);refine ⟨?_,trivial⟩;(conv=>whnf);refine zbi rfl ?_ rfl;(conv=>whnf);refine ⟨rfl,yep l,?_⟩;(conv=>whnf);refine ⟨by simp;omega,?_⟩;(conv=>whnf);refine ⟨?_,trivial⟩;(conv=>whnf);refine zb4 ?_;exact zb8 ⟨⟨i+1,ats2,(ops++[(⟨20,0,0,0,(i:Int)⟩:BOp)])++l,W',ch',k',by omega,hatsw,hatsl,pre2.body hb zO,by simp;omega,by omega⟩,rfl⟩ (zjy Tn (aI sM (aI sM (aI sM (aI sM (aI ((aI rfl (aI rfl (aI rfl rfl)))) (aI ((aI rfl (aI rfl (aI zV (by simp [opC]))))) trivial)))))) rfl rfl)
    ·conv=>whnf
     refine ydb 1 rfl hs0 hl hm zO fun l W' ch' k' hb hll h0 h1=>?_;(conv=>whnf);refine ⟨?_,trivial⟩;(conv=>whnf);refine ⟨?_,trivial⟩;(conv=>whnf);refine zbi rfl ?_ rfl;(conv=>whnf);refine ⟨rfl,yep l,?_⟩;(conv=>whnf);refine ⟨by simp;omega,?_⟩;(conv=>whnf);refine ⟨?_,trivial⟩;(conv=>whnf);refine zb4 ?_;exact zb8 ⟨⟨i+1,ats2,(ops++[(⟨20,0,0,0,(i:Int)⟩:BOp)])++l,W',ch',k',by omega,hatsw,hatsl,pre2.body hb zO,by simp;omega,by omega⟩,rfl⟩ (zjy Tn (aI sM (aI sM (aI sM (aI sM (aI ((aI rfl (aI rfl (aI rfl rfl)))) (aI ((aI rfl (aI rfl (aI zV (by simp [opC]))))) trivial)))))) rfl rfl)
   ·conv=>whnf
    refine zb4 ?_;exact zb8 ⟨⟨i+1,ats2,_,0,false,k2,by omega,hatsw,hatsl,pre2,by simp;omega,by omega⟩,rfl⟩ (zj7 rfl Tn (aI sM (aI sM (aI sM (aI sM (aI ((aI rfl (aI rfl (aI rfl rfl)))) (aI ((aI rfl (aI rfl (aI rfl rfl)))) trivial)))))))
  obtain ⟨y,hy⟩:=y;dsimp only;refine z3s ?_;(conv=>whnf);refine ⟨_,wr64 zO,?_⟩;(conv=>whnf);exact zcb y (zj7 rfl (aI rfl (aI rfl (aI rfl (aI rfl (aI rfl (aI ((by show one _=one _;rw [hy];rfl)) trivial)))))) (aI sM (aI sM (aI sM (aI sM (aI ((aI rfl (aI rfl (aI rfl rfl)))) (aI ((aI rfl (aI rfl (aI rfl rfl)))) trivial))))))) (by rw [hy];omega)
 ·have hlt:(i:Int)=n:=by simp at hc;omega
  (conv=>whnf);refine zce (zb6 (zcd ?_));refine z3n ?_;(conv=>whnf);refine yde 1 rfl hs0 hl hm zO zO fun q q0 q1=>?_;(conv=>whnf);refine ⟨q,by rw [wr32];omega,?_⟩;(conv=>whnf);refine ⟨q*4,by rw [wr32];omega,?_⟩;(conv=>whnf);have hnx:word (q*4):=(by unfold word;omega)
  refine z3j (α:={y:List Int×List BOp//MadeOk ⟨y.1,[p],y.2⟩}) (fun y=>[(2,.p (.c (.ref 0 0))),(6,.p (.c (.ref 3 0)))])
   (fun y=>[.cells 28 [.v (.slice none 0 0),.v (.slice none 0 0),.v (.slice none 0 0)],.gone,.cells 3 [.v (.int .i64 p)],.cells 28 [.row 4,.sl 2 0 1 1,.row 5],.row 41 1 y.1.1.length (y.1.1.map (.int .u32)),.row 61 5 y.1.2.length (y.1.2.flatMap opC)]) ?_ fun y=>?_
  ·refine z3n ?_
   (conv=>whnf);refine yde 1 rfl hs0 hl hm zO zO fun s s0 s1=>?_;(conv=>whnf);refine z3a ?_;refine z3n ?_;(conv=>whnf);refine z3b rfl (fun _=>?_) (fun _=>?_)
   ·refine z3s ?_
    (conv=>whnf);refine ⟨(i:Int),by rw [wr32];omega,?_⟩;(conv=>whnf);refine zbi rfl ?_ rfl;(conv=>whnf);refine ⟨by omega,?_⟩;(conv=>whnf);refine ⟨_,wr64 zO,?_⟩;(conv=>whnf);refine ⟨_,wr32 _,?_⟩;(conv=>whnf);refine ⟨_,wr32 _,?_⟩;(conv=>whnf);refine zbi rfl ?_ rfl;(conv=>whnf);refine ⟨by omega,?_⟩;(conv=>whnf);refine zb4 ?_
    exact zb8 ⟨(ats++[(at0+4*n%4294967296)%4294967296],(ops++[(⟨20,0,0,0,(i:Int)⟩:BOp)])++[⟨22,0,0,0,0⟩]),yei (pre.mark zO) yfa zO (fun x hx=>by
     rcases List.mem_append.1 hx with hx|hx
     ·exact hats x hx
     ·simp at hx;subst hx;exact ya1 _) (by simp [hatl]) zO ⟨hp0,hp1⟩ zV⟩ (zjy Tn (aI sM (aI (Ttb7) (aI sM (aI sM (aI ((aI rfl (aI rfl (aI zS zS)))) (aI ((aI rfl (aI rfl (aI zS (by simp [opC,hlt]))))) trivial)))))) rfl rfl)
   ·refine z3n ?_
    (conv=>whnf);refine z3b rfl (fun _=>?_) (fun _=>?_)
    ·refine z3s ?_
     refine yez (.q 0 (.q 2 (.alt 1 (.alt 3 (.q 4 (.alt 5 (.alt 6 (.q 7 (.alt 8 .done .no)) .no) .no)) .no) (.alt 3 (.q 4 (.alt 1 (.alt 5 (.alt 6 (.q 7 (.alt 8 .done .no)) .no) .no) (.alt 5 (.alt 1 (.alt 6 (.q 7 (.alt 8 .done .no)) .no) .no) .no))) .no)))) mixed zK zK ?_;(conv=>whnf);refine ⟨?_,?_,trivial⟩
     ·conv=>whnf
      refine ⟨?_,trivial⟩;(conv=>whnf);refine yde 1 rfl hs0 hl hm zO zO fun a a0 a1=>?_;(conv=>whnf);refine ⟨?_,trivial⟩;(conv=>whnf);refine ⟨?_,trivial⟩;(conv=>whnf);refine zbi rfl ?_ rfl;(conv=>whnf);refine ⟨by omega,?_⟩;(conv=>whnf);refine ⟨?_,trivial⟩;(conv=>whnf);refine zb4 ?_;exact zb8 ⟨(ats,ops++[⟨25,0,a,0,0⟩]),yei pre (yfb ⟨a0,a1⟩ ch) zO hats hatl zO ⟨hp0,hp1⟩ zV⟩ (zjy Tn (aI sM (aI (Ttb7) (aI sM (aI sM (aI ((aI rfl (aI rfl (aI rfl rfl)))) (aI ((aI rfl (aI rfl (aI zS (by simp [opC]))))) trivial)))))) rfl rfl)
     ·conv=>whnf
      refine yde 1 rfl hs0 hl hm zO zO fun a a0 a1=>?_;(conv=>whnf);refine ⟨?_,?_,trivial⟩
      ·conv=>whnf
       refine ⟨?_,trivial⟩;(conv=>whnf);refine ⟨?_,trivial⟩;(conv=>whnf);refine zbi rfl ?_ rfl;(conv=>whnf);refine ⟨by omega,?_⟩;(conv=>whnf);refine ⟨?_,trivial⟩;(conv=>whnf);refine zb4 ?_;exact zb8 ⟨(ats,ops++[⟨25,0,a,0,0⟩]),yei pre (yfb ⟨a0,a1⟩ ch) zO hats hatl zO ⟨hp0,hp1⟩ zV⟩ (zjy Tn (aI sM (aI (Ttb7) (aI sM (aI sM (aI ((aI rfl (aI rfl (aI rfl rfl)))) (aI ((aI rfl (aI rfl (aI zS (by simp [opC]))))) trivial)))))) rfl rfl)
      ·conv=>whnf
       refine ⟨?_,trivial⟩;(conv=>whnf);refine ⟨?_,trivial⟩;(conv=>whnf);refine zbi rfl ?_ rfl;(conv=>whnf);refine ⟨by omega,?_⟩;(conv=>whnf);refine ⟨?_,trivial⟩;(conv=>whnf);refine zb4 ?_;exact zb8 ⟨(ats,ops++[⟨25,0,a,0,0⟩]),yei pre (yfb ⟨a0,a1⟩ ch) zO hats hatl zO ⟨hp0,hp1⟩ zV⟩ (zjy Tn (aI sM (aI (Ttb7) (aI sM (aI sM (aI ((aI rfl (aI rfl (aI rfl rfl)))) (aI ((aI rfl (aI rfl (aI zS (by simp [opC]))))) trivial)))))) rfl rfl)
    ·refine z3j (α:=Bool) (fun y=>[(2,.p (.c (.ref 0 0))),(3,.p (.c (.ref 1 0))),(4,one (.int .i64 n)),(5,one (.int .u32 at0)),(6,.p (.c (.ref 3 0))),(8,one (.int .u32 (q*4))),(106,one (.bool y))]) (fun y=>[.cells 28 [.v (.slice none 0 0),.v (.slice none 0 0),.v (.slice none 0 0)],.cells 125 ((mkC A m c (k+1+1)).map .v),.cells 3 [.v (.int .i64 p)],.cells 28 [.row 4,.sl 2 0 1 1,.row 5],.row 41 1 ats.length (ats.map (.int .u32)),.row 61 5 ops.length (ops.flatMap opC)]) ?_ fun y=>?_
     ·refine z3n ?_
      (conv=>whnf);refine z3b rfl (fun h=>?_) (fun h=>?_)
      ·refine z3q ?_
       exact zb8 true (zj7 rfl (aI rfl (aI rfl (aI rfl (aI rfl (aI rfl (aI rfl (aI ((by show one _=one _;rw [h])) trivial))))))) (aI sM (aI sM (aI sM (aI sM (aI ((aI rfl (aI rfl (aI rfl rfl)))) (aI ((aI rfl (aI rfl (aI rfl rfl)))) trivial)))))))
      ·refine z3s ?_
       (conv=>whnf);exact zb8 (s==3) (zj7 rfl Tn (aI sM (aI sM (aI sM (aI sM (aI ((aI rfl (aI rfl (aI rfl rfl)))) (aI ((aI rfl (aI rfl (aI rfl rfl)))) trivial)))))))
     refine z3b rfl (fun _=>?_) (fun _=>?_)
     ·refine z3s ?_
      refine yez (.q 0 (.q 2 (.q 4 (.q 6 (.q 7 (.q 8 (.q 9 (.q 10 (.q 11 (.alt 1 (.alt 3 (.q 5 (.alt 12 (.alt 13 (.q 14 (.alt 15 .done .no)) .no) .no)) .no) (.alt 3 (.q 5 (.alt 1 (.alt 12 (.alt 13 (.q 14 (.alt 15 .done .no)) .no) .no) (.alt 12 (.alt 1 (.alt 13 (.q 14 (.alt 15 .done .no)) .no) .no) .no))) .no))))))))))) mixed zK zK ?_;(conv=>whnf);refine ⟨_,wr64 zO,?_⟩;(conv=>whnf);refine ⟨_,wr32 _,?_⟩;(conv=>whnf);refine ⟨_,wr32 _,?_⟩;(conv=>whnf);refine ⟨?_,?_,trivial⟩
      ·conv=>whnf
       refine ⟨?_,trivial⟩;(conv=>whnf);refine yde 1 rfl hs0 hl hm zO zO fun a a0 a1=>?_;(conv=>whnf);refine ⟨?_,trivial⟩;(conv=>whnf);refine ⟨?_,trivial⟩;(conv=>whnf);refine zbi rfl ?_ rfl;(conv=>whnf);refine ⟨by omega,?_⟩;(conv=>whnf);refine ⟨?_,trivial⟩;(conv=>whnf);refine zb4 ?_;exact zb8 ⟨(ats,ops++[⟨23,0,a,0,q*4⟩,⟨24,0,0,0,(at0+4*n%4294967296)%4294967296⟩]),yei pre (ye9 ⟨a0,a1⟩ hnx (ya1 _) ch) zO hats hatl zO ⟨hp0,hp1⟩ zV⟩ (zjy Tn (aI sM (aI (Ttb7) (aI sM (aI sM (aI ((aI rfl (aI rfl (aI rfl rfl)))) (aI ((aI rfl (aI rfl (aI zS (by simp [opC]))))) trivial)))))) rfl rfl)
      ·conv=>whnf
       refine yde 1 rfl hs0 hl hm zO zO fun a a0 a1=>?_;(conv=>whnf);refine ⟨?_,?_,trivial⟩
       ·conv=>whnf
        refine ⟨?_,trivial⟩;(conv=>whnf);refine ⟨?_,trivial⟩;(conv=>whnf);refine zbi rfl ?_ rfl;(conv=>whnf);refine ⟨by omega,?_⟩;(conv=>whnf);refine ⟨?_,trivial⟩;(conv=>whnf);refine zb4 ?_;exact zb8 ⟨(ats,ops++[⟨23,0,a,0,q*4⟩,⟨24,0,0,0,(at0+4*n%4294967296)%4294967296⟩]),yei pre (ye9 ⟨a0,a1⟩ hnx (ya1 _) ch) zO hats hatl zO ⟨hp0,hp1⟩ zV⟩ (zjy Tn (aI sM (aI (Ttb7) (aI sM (aI sM (aI ((aI rfl (aI rfl (aI rfl rfl)))) (aI ((aI rfl (aI rfl (aI zS (by simp [opC]))))) trivial)))))) rfl rfl)
       ·conv=>whnf
        refine ⟨?_,trivial⟩;(conv=>whnf);refine ⟨?_,trivial⟩;(conv=>whnf);refine zbi rfl ?_ rfl;(conv=>whnf);refine ⟨by omega,?_⟩;(conv=>whnf);refine ⟨?_,trivial⟩;(conv=>whnf);refine zb4 ?_;exact zb8 ⟨(ats,ops++[⟨23,0,a,0,q*4⟩,⟨24,0,0,0,(at0+4*n%4294967296)%4294967296⟩]),yei pre (ye9 ⟨a0,a1⟩ hnx (ya1 _) ch) zO hats hatl zO ⟨hp0,hp1⟩ zV⟩ (zjy Tn (aI sM (aI (Ttb7) (aI sM (aI sM (aI ((aI rfl (aI rfl (aI rfl rfl)))) (aI ((aI rfl (aI rfl (aI zS (by simp [opC]))))) trivial)))))) rfl rfl)
     ·refine z3s ?_
      (conv=>whnf);refine zbi rfl ?_ rfl;(conv=>whnf);refine ⟨by omega,?_⟩;(conv=>whnf);refine zb4 ?_;exact zb8 ⟨(ats,ops++[⟨24,0,0,0,q*4⟩]),yei pre (ye8 hnx ch) zO hats hatl zO ⟨hp0,hp1⟩ zV⟩ (zjy Tn (aI sM (aI (Ttb7) (aI sM (aI sM (aI ((aI rfl (aI rfl (aI rfl rfl)))) (aI ((aI rfl (aI rfl (aI zS (by simp [opC]))))) trivial)))))) rfl rfl)
  obtain ⟨⟨ats2,ops2⟩,hy⟩:=y;dsimp only at hy⊢;refine z3s ?_;(conv=>whnf);refine zcg ?_;(conv=>whnf)
  refine yd2 4 2 5 ⟨ats2,[p],ops2⟩ zO zO zO (.inl ⟨rfl,rfl⟩) (.inr ⟨rfl,rfl,rfl,by show (1:Nat)≤maxLen;decide⟩) (.inl ⟨rfl,rfl⟩) fun w' v1 v2 v3 h3 hB=>⟨_,v1,v2,v3,hy,rfl,h3,hB⟩
open Go.ChangeShapes Go.WideShapes Go.ChangeAt Go.RowKit
theorem ownK:ownKnob Tryz.prog.godebug=none:=by kernel_rfl
theorem yce:laidOutB Tryz.prog=true:=by kernel_rfl
theorem ydh {w:World} {b o:Nat} {u:Value} (h:w.cell? ⟨b,o,none⟩=some u):b<w.heap.size:=by
 rcases Nat.lt_or_ge b w.heap.size with h1|h1
 ·exact h1
 ·simp [World.cell?,Array.getElem?_eq_none h1] at h
theorem yec {n:Int} (h:(Lit.int .i64 n).wf=true): -9223372036854775808≤n∧n<9223372036854775808:=by
 simp [Lit.wf,IntKind.min,IntKind.max,IntKind.signed,IntKind.bits] at h;omega
theorem yem {H:Type} {enc:TypeId×Value→H} {W:World} {fuel n:Nat} {t e:TypeId} {k:IntKind} {cs:List Value} {x:DataW H×List MemPlace} (ht:Tryz.prog.underlying t=some (.array n e)) (he:Tryz.prog.underlying e=some (.int k)) (hc:Tryz.prog.cellsOf e=1) (hct:Tryz.prog.cellsOf t=n)
  (h:DataW.trod enc Tryz.prog W 0 (fun _=>true) true fuel t cs=some x):∃ zs:List Int,cs=zs.map (Value.int k)∧zs.length=n∧∀ z∈zs,(Lit.int k z).wf=true:=by
 obtain ⟨xs,m,_,_,hl,hlen,hel⟩:=DataW.trod_array ht h;rw [hct] at hl
 have get:∀ i (hi:i<n),∃ z,cs[i]?=some (.int k z)∧(Lit.int k z).wf=true:=fun i hi=>by
  have:=hel i hi;rw [hc,List.getElem?_eq_getElem zO] at this;obtain ⟨z,e1,_,e3⟩:=DataW.trod_int he this;refine ⟨z,?_,e3⟩;have h0:((cs.drop (i*1)).take 1)[0]?=some (.int k z):=(by rw [e1];rfl);rw [List.getElem?_take,if_pos zO,List.getElem?_drop] at h0
  simpa using h0
 refine ⟨(List.range n).map fun i=>intOf (cs.getD i undef),?_,by simp,fun z hz=>?_⟩
 ·refine List.ext_getElem? fun i=>?_
  rw [List.getElem?_map,List.getElem?_map];rcases Nat.lt_or_ge i n with hi|hi
  ·obtain ⟨z,e1,_⟩:=get i hi
   rw [List.getElem?_range hi,e1];simp [List.getD_eq_getElem?_getD,e1,intOf]
  ·rw [List.getElem?_eq_none zO,List.getElem?_eq_none (by simpa using hi)];rfl
 ·obtain ⟨i,hi,rfl⟩:=List.mem_map.1 hz
  have hi:i<n:=by simpa using hi
  obtain ⟨z,e1,e2⟩:=get i hi
  simpa [List.getD_eq_getElem?_getD,e1,intOf] using e2
theorem ych (n m:Int) (hm:0<m):(n.tmod m+m).tmod m=n%m∧ -m<n.tmod m∧n.tmod m<m:=by
 have h1:=Int.tmod_lt_of_pos n hm;have h2: -m<n.tmod m:=(by have:=Int.lt_tmod_of_pos n hm;omega);refine ⟨?_,h2,h1⟩;rw [Int.tmod_eq_emod_of_nonneg zO,Int.add_emod_right];have:n=m*n.tdiv m+n.tmod m:=(Int.mul_tdiv_add_tmod n m).symm
 conv=>rhs;rw [this]
 rw [Int.mul_add_emod_self_left]
theorem ycg (n m:Int) (w:World) (hm:0<m∧m<4611686018427387904):Calls Tryz.prog 20 #[intV n,intV m] w fun e w'=>e= .returned (intV (n%m))∧Below w.heap.size w w':=by
 obtain ⟨h1,h2,h3⟩:=ych n m hm.1
 refine zfj [intV n,intV m] Tryz.func20 Tryz.ntmps20 rfl zS ?_
 conv=>whnf
 refine ⟨by omega,_,rfl,?_⟩
 conv=>whnf
 refine ⟨n.tmod m+m,wr64 zO,?_⟩
 conv=>whnf
 refine ⟨by omega,_,h1,?_⟩
 conv=>whnf
 exact zmj rfl fun w' hB=>⟨rfl,hB⟩
theorem yda {P:Program} {w0:World} {G:Gs} {fid:FuncId} {args:List AV} {xs:List Value} {S:List Ow} {K:AV→List Ow→Prop} (post:Value→Prop) (hx:avals args=some xs) (hok:fnOk P fid=true)
  (h:∀ r w,Rel w0 G S r w→Calls P fid xs.toArray w fun e w'=>∃ v,e= .returned v∧post v∧Below w.heap.size w w') (hK:∀ v,post v→K (AV.of v) S):CallS P w0 G fid args S K:=by
 refine ⟨hok,fun r w us hR hd=>?_⟩;obtain rfl:=zcs hx hd
 exact (h r w hR).mono fun e w' ⟨v,he,hp,hB⟩=>⟨_,v,S,r,he,AV.of_den r v,hR.below hB,Env.le.refl r,hK v hp⟩
theorem yen {H:Type} {enc:TypeId×Value→H} {W:World} {r:Reach} {b0:Nat} {v:Value} {d:DataW H} {p:List MemPlace} (hv:Value.okWide Tryz.prog W r b0 23 v) (h:DataW.Trod enc Tryz.prog W 0 (fun _=>true) true 23 v d p):
  ∃ a b c e:Int,v= .agg #[intV a,intV b,intV c,intV e]∧(-9223372036854775808≤a∧a<9223372036854775808)∧(-9223372036854775808≤b∧b<9223372036854775808)∧(-9223372036854775808≤c∧c<9223372036854775808)∧(-9223372036854775808≤e∧e<9223372036854775808):=by
 simp only [Value.okWide,Tryz.underlying23] at hv;obtain ⟨cs,rfl,hsz,_⟩:=hv;obtain ⟨fuel,hf⟩:=h;obtain ⟨zs,e,l,w⟩:=yem (k:= .i64) Tryz.underlying23 Tryz.underlying3 zK zK hf;have e:cs.toList=zs.map (Value.int .i64):=e
 match zs,l with
 |[z0,z1,z2,z3],_=>
  refine ⟨z0,z1,z2,z3,?_,yec (w _ zS),yec (w _ zS),yec (w _ zS),yec (w _ zS)⟩;show Value.agg cs=Value.agg ([z0,z1,z2,z3].map (Value.int .i64)).toArray;rw [← e]
theorem yeo {H:Type} {enc:TypeId×Value→H} {W:World} {a:Option Addr} {len cap:Nat} {d:DataW H} {p:List MemPlace} (h:DataW.Trod enc Tryz.prog W 0 (fun _=>true) true 22 (.slice a len cap) d p):
  ∃ xs:List Int,SlAt W W.heap.size a (xs.map (.int .i64))∧xs.length=len∧len≤cap:=by
 obtain ⟨fuel,hf⟩:=h;rcases open_ints Tryz.underlying22 Tryz.underlying3 zK hf with ⟨hcs,_⟩|⟨x,l,c,zs,hcs,_,hl,hm,hz,_,hcell,hwz⟩
 ·simp [Value.cells] at hcs
  obtain ⟨rfl,rfl,rfl⟩:=hcs;exact ⟨[],SlAt.nil,rfl,Nat.le_refl _⟩
 ·simp [Value.cells] at hcs
  obtain ⟨rfl,rfl,rfl⟩:=hcs;have hz:zs.length=cap:=(by simpa using hz);refine ⟨zs.take len,fun j u hj=>?_,by rw [List.length_take];omega,hl⟩;rw [List.getElem?_map,List.getElem?_take] at hj
  split at hj
  ·rename_i hjl
   have hjz:j<zs.length:=(by omega);have hc:=hcell j hjz;obtain ⟨b,off,spot⟩:=x
   have hsp:spot=none:=by
    have h0:=hcell 0 zO
    simpa [Addr.add] using World.cell?_spot h0
   subst hsp;rw [za0] at hc;rw [List.getElem?_eq_getElem hjz] at hj;have hg:zs.getD j 0=zs[j]:=(by rw [List.getD_eq_getElem?_getD,List.getElem?_eq_getElem hjz];rfl);rw [hg] at hc;injection hj with hj;subst hj;exact ⟨b,off,rfl,ydh hc,hc⟩
  ·cases hj
theorem yb6 {w0:World} {G:Gs} {S:List Ow} {K:AV→List Ow→Prop} (is:List QI) (j n c:Nat) {t:TypeId} (hj:S[j]?=some (.cells t ((is.flatMap iqL).map .v))) (hn:is.length=n) (hv:∀ i∈is,z9o i=true∧i.ok) (hlen:n≤1000000000) (hK:K (AV.of (strV (z8w is))) S):CallS Tryz.prog w0 G 75 [.p (.c (.sl j 0 n c))] S K:=by
 subst hn;refine ⟨by kernel_rfl,fun r w us hR hd=>?_⟩;obtain ⟨u,l,rfl,d1,d2⟩:=hd;obtain rfl:l=[]:=d2;obtain ⟨q,hq,rfl⟩:=zi1 d1;obtain ⟨q',vs,e1,e2,e3⟩:=hR.own j _ hj;rw [hq] at e1;injection e1 with e1;subst e1;obtain rfl:=zis e3
 refine (z8z is hv _ c hlen w (SlAt.mk_ (zpt e2) fun i u hi=>by simp [World.cell?,e2,hi])).mono fun e w' ⟨he,hB⟩=>⟨_,_,_,r,he,AV.of_den r _,hR.below hB,Env.le.refl r,hK⟩
def sysI:QI:=⟨48,0,0,0,0⟩
theorem ye7:z9o sysI=true∧sysI.ok:=⟨rfl,⟨(show (0:Int)≤48∧(48:Int)<64 by omega),r00,r00,r00,yaw⟩⟩
def unL:List Int:=putL (yaz sysI)
theorem yb7 {d n:Int} (hd:r16 d) (hn:word n):∀ i∈zgz d n,z9o i=true∧i.ok:=fun i hi=>by
 have h:=zgw hd hn;rw [zgv] at h;exact h ⟨i,none⟩ (List.mem_map.2 ⟨i,hi,rfl⟩)
theorem yck (x:Int) (hx:word x) (w:World):Calls Tryz.prog 36 #[.int .u32 x] w fun e w'=>e= .returned (strV (z8w (zgz 11 x)))∧Below w.heap.size w w':=by
 refine zfg [.int .u32 x] Tryz.func36 Tryz.ntmps36 rfl zS ?_
 refine z3p ?_
 conv=>whnf
 refine z3p ?_
 conv=>whnf
 refine ze2 rfl zK (fun r w' hR=>zg0 11 x w' hx) ?_
 conv=>whnf
 refine z3p ?_
 conv=>whnf
 refine zwx (z0o 0 0 2 rfl rfl rfl rfl ?_) rfl
 conv=>whnf
 refine yb6 (zgz 11 x) 0 2 2 rfl rfl (yb7 rlit hx) (by decide) ?_
 conv=>whnf
 refine z3t ?_
 conv=>whnf
 refine zcg ?_
 conv=>whnf
 exact zmj rfl fun w2 hB=>⟨rfl,hB⟩
theorem yfk (w:World):Calls Tryz.prog 35 #[] w fun e w'=>e= .returned (strV unL)∧Below w.heap.size w w':=by
 refine zfg [] Tryz.func35 Tryz.ntmps35 rfl zS ?_;refine z3p ?_;(conv=>whnf);refine z3p ?_;(conv=>whnf);refine ze2 rfl zK (fun r w' hR=>zjo sysI w' ye7.2.op ye7.2.imm) ?_;rw [show encQ sysI=some (yaz sysI) from if_pos ye7.1];(conv=>whnf);refine z3p ?_;(conv=>whnf);refine ze2 rfl zK (fun r w' hR=>zzq (yaz sysI) w' (zib ye7.1 ye7.2.imm).2) ?_;(conv=>whnf);refine z3t ?_;(conv=>whnf);refine zcg ?_;(conv=>whnf)
 exact zmj rfl fun w2 hB=>⟨rfl,hB⟩
section
variable {w:World}
theorem yb9 {b:Blk} {A1 A2 A3:Option Addr} {c1 c2 c3:Nat} (hb:b.ok) (hv:z9n b=true) (hBA:BlkAt w b A1 A2 A3) {a:List Int} (ha:a.length=28) (hva:za2 a=true) (hal:∀ v,0≤v→v<28→ -1000≤getV a v∧getV a v≤1000) {G:Nat} {gm:MemP} {g0:Nat} {gs0:List Nat} (hG:1≤G∧G≤16) (hU:ObjsAt w (g0::gs0) (memS 0 (256*G) G gm)):
  Calls Tryz.prog 17 #[blkV b A1 A2 A3 c1 c2 c3,.agg (alL a).toArray,pV g0] w fun e w'=>∃ A cp,e= .returned (.tuple #[codV (yan b a (256*(G:Int)) (256*(G:Int)) 0) A cp,.bool true])∧SlAt w' w'.heap.size A ((z5x 0 (yan b a (256*(G:Int)) (256*(G:Int)) 0)).flatMap z5r)∧Below w.heap.size w w':=by
 obtain ⟨l,hle⟩:∃ l,l=yan b a (256*(G:Int)) (256*(G:Int)) 0:=⟨_,rfl⟩
 have hw:=yao (b:=b) (a:=a) (ctx:=256*(G:Int)) (size:=256*(G:Int)) (pred:=0) hv;have h8:=yat b a (256*(G:Int)) (256*(G:Int)) 0;have hbo:=yar (ctx:=256*(G:Int)) (size:=256*(G:Int)) (a:=a) hb hv yaw;obtain ⟨hll,hlo⟩:=z9x hv;have htl:=z8v l;have hsc:=z5z l 0;have hbo':BuiltOk (z5x 0 (yan b a (256*(G:Int)) (256*(G:Int)) 0)) ((4*(yan b a (256*(G:Int)) (256*(G:Int)) 0).length:Nat):Int):=(by rw [show ((4*(yan b a (256*(G:Int)) (256*(G:Int)) 0).length:Nat):Int)=4*((yan b a (256*(G:Int)) (256*(G:Int)) 0).length:Int) by omega];exact hbo);refine zfg [blkV b A1 A2 A3 c1 c2 c3,.agg (alL a).toArray,pV g0] Tryz.func17 Tryz.ntmps17 rfl zS ?_;refine z3p ?_;(conv=>whnf);refine z3m fun r w1 hR=>?_;obtain ⟨p3,us,e1,e2,e3⟩:=hR.own 0 _ rfl;obtain rfl:=zis (us:=[.slice A1 b.at_.length c1,.slice A2 b.pages.length c2,.slice A3 b.ops.length c3]) e3;obtain ⟨p4,us,f1,f2,f3⟩:=hR.own 1 _ rfl;obtain rfl:=zis (us:=alL a) f3;obtain ⟨p6,us,g1,g2,g3⟩:=hR.own 2 _ rfl;obtain rfl:=zis (us:=[strV [],.slice none 0 0]) g3;have hfp6:=zoc hR g1;have hB1:=hR.toBelow;refine ⟨z6k [(2,pV g0),(3,pV p3),(4,pV p4),(6,pV p6)],fun a' hf=>z6t ⟨z6r hf rfl,z6p hf 3 rfl e1,z6p hf 4 rfl f1,z6p hf 6 rfl g1,trivial⟩,?_⟩;clear hR e3 f3 g3 e1 f1 g1;have hU1:=zvz (zt4 (256*G) G gm) hU hB1;have hBA1:=hBA.later hB1;refine z3p ?_;(conv=>whnf);refine ze3 rfl zK hU1 (fun w' hU=>zuf gm (256*G) G w' g0 gs0 hU) ?_;(conv=>whnf);refine ⟨256*(G:Int),wr64 zO,?_⟩;(conv=>whnf);refine z3d (z3f 5 rfl rfl rfl ?_);(conv=>whnf);refine ⟨_,zd0 e2,rfl,?_⟩;(conv=>whnf);refine ⟨alL a,zd0 f2,by rw [List.length_map,ha];rfl,?_⟩;(conv=>whnf);refine ⟨256*(G:Int),by rw [wr32];omega,?_⟩;(conv=>whnf);refine ⟨by kernel_rfl,fun r w2 us' hR hd=>?_⟩;obtain rfl:=zcs (xs:=[blkV b A1 A2 A3 c1 c2 c3,.agg (alL a).toArray,.int .u32 (256*(G:Int)),.int .i64 (256*(G:Int))]) (zct _ _ _ a) hd;have hB2:=hR.toBelow;have hBA2:=hBA1.later hB2;refine (zjj b A1 A2 A3 c1 c2 c3 a (256*(G:Int)) (256*(G:Int)) hb hv hBA2.pages hBA2.ops ha hva (by unfold word;omega) zO hal).mono fun e w3 ⟨⟨A,cp,he,hsl⟩,hB3⟩=>?_;rw [← hle] at he hsl;have hB13:=zdg hB2 hB3 hB2.size;refine ⟨_,AV.of (.tuple #[codV l A cp,.int .i64 0]),w3,Gs.nil,[(3,one (pV p3)),(6,one (pV p6))],[],Env.none,he,z1v w3,fun a hf=>znv ⟨z6q hf 3 rfl,z6q hf 6 rfl,trivial⟩,AV.of_den _ _,?_⟩;clear hR hd hBA2 hB2 hB3 he;(conv=>whnf);refine zcd ?_;refine z3m fun r w4 hR=>?_;obtain ⟨p9,us,y1,y2,y3⟩:=hR.own 0 _ rfl;obtain rfl:=zis (us:=[strV (z8u l),.slice A (z5x 0 l).length cp]) y3;have hfp9:=zoc hR y1;have hB4:=hR.toBelow;refine ⟨z6k [(3,pV p3),(6,pV p6),(9,pV p9),(10,.int .i64 0)],fun a' hf=>z6t ⟨z6r hf rfl,z6r hf rfl,z6p hf 9 rfl y1,z6r hf rfl,trivial⟩,?_⟩;clear hR y1 y3;have hB14:=zdg hB13 hB4 hB13.size;have e24:=(hB14.block p3 (zpt e2)).trans e2;have g24:=(hB14.block p6 (zpt g2)).trans g2;have hsl4:SlAt w4 w4.heap.size A ((z5x 0 l).flatMap z5r):=(hsl.below hB4 (Nat.le_refl _)).more hB4.size;have hp6:w.heap.size≤p6:=hfp6
 have h96:p9≠p6:=fun e=>by have:=hfp9;have:=zpt g2;have:=hB13.size;omega
 have hnA:∀ b' off',A=some ⟨b',off',none⟩→b'∉[p6]:=fun b' off' e hm=>by
  rw [List.mem_singleton] at hm;subst hm;obtain ⟨idx,hix,_⟩:=z5u l 0 6 (zqv ⟨1,0,0,0,0⟩) ⟨1,0,0,0,0⟩ (by rw [hle];rfl) rfl;obtain ⟨b2,o2,e2',h2,hc⟩:=hsl4 (idx*6+0) _ (zm6 _ idx _ hix 0 zO);rw [e] at e2';injection e2' with e2';injection e2' with e3 e4;subst e3;have hc:w4.cell? ⟨b',o2+(idx*6+0),none⟩=some (.int .i64 (4*((0+6:Nat):Int))):=hc;unfold World.cell? at hc;rw [g24] at hc
  match o2+(idx*6+0),hc with
  |0,hc=>exact absurd hc (by simp [strV])
  |1,hc=>exact absurd hc zS
  |n+2,hc=>exact absurd hc zS
 refine z3u 6 0 p6 rfl ⟨[p6],[]⟩ [.cells coT [.v (strV []),.v (.slice none 0 0)]] fun r w5 hR5=>?_;have hB5:=hR5.toBelow;have g25:=(hB5.block p6 (zpt g24)).trans g24;have e25:=(hB5.block p3 (zpt e24)).trans e24;have y25:=(hB5.block p9 (zpt y2)).trans y2;have hsl5:SlAt w5 w5.heap.size A ((z5x 0 l).flatMap z5r):=(hsl4.below hB5 (Nat.le_refl _)).more hB5.size;have hB15:=zdg hB14 hB5 hB14.size
 have n9:p9∉Gs.flat ⟨[p6],[]⟩:=fun hm=>by
  rcases zm5.1 hm with hm|hm
  ·exact h96 (List.mem_singleton.1 hm)
  ·cases hm
 have n3:p3∉Gs.flat ⟨[p6],[]⟩:=fun hm=>by
  rcases zm5.1 hm with hm|hm
  ·have:=List.mem_singleton.1 hm
   subst this;rw [e24] at g24;simp at g24
  ·cases hm
 refine ⟨_,z1w (zv1 g25),rfl,?_⟩;refine z3p ?_;refine z21 (.q 0 (.q 1 (.q 2 (.q 3 (.alt 4 (.alt 5 (.q 6 .done) .no) .no))))) mixed zK zK ?_;(conv=>whnf);refine ⟨_,zfo (zd0 y25) n9,rfl,?_⟩;(conv=>whnf);refine ⟨_,zfo (zd0 e25) n3,rfl,?_⟩;(conv=>whnf);refine ⟨_,zfo (zd0 y25) n9,rfl,?_⟩;(conv=>whnf);refine ⟨?_,trivial⟩;refine ze2 (x:= .bool true) (xs:=[blkV b A1 A2 A3 c1 c2 c3,codV l A cp,.int .i64 0]) rfl zK (fun r w' hR=>zeh (z8u l) (z5x 0 l) (z6h hR hsl5 hnA) (by rw [htl,hle];omega) hlo.2 (by rw [hle] at hsc⊢;omega) (by rw [htl,hle];exact hbo')) ?_;(conv=>whnf);refine ⟨?_,trivial⟩;(conv=>whnf);refine z3t ?_;(conv=>whnf);refine zcg ?_;(conv=>whnf);refine ⟨fun r2 w9 u hR hd=>?_⟩;rw [AV.val_den (x:= .tuple #[codV l A cp,.bool true]) rfl hd];have hgr:=hR.growns;have hz1:=hB1.size;have hz5:=hB15.size;refine ⟨A,cp,by rw [hle],by rw [← hle];exact z6h hR hsl5 hnA,hgr.os.trans (hB15.os.trans hB1.os),hgr.tape.trans (hB15.tape.trans hB1.tape),hgr.output.trans (hB15.output.trans hB1.output),Nat.le_trans hz1 (Nat.le_trans hz5 hgr.size),fun k hk=>(hgr.block k zO fun hm=>by rw [List.mem_singleton] at hm;omega).trans ((hB15.block k zO).trans (hB1.block k hk))⟩
end
abbrev ycb (n0 n1 n2 n3:Int):Value:= .agg #[intV n0,intV n1,intV n2,intV n3]
theorem yc3 (x:Int):0≤IntKind.u8.wrap x∧IntKind.u8.wrap x<256:=by
 show 0≤x%256∧x%256<256;omega
section
variable {w:World}
theorem ycf (n0 n1 n2 n3:Int):Calls Tryz.prog 16 #[ycb n0 n1 n2 n3] w fun e w'=>∃ (G g:Nat) (gs:List Nat) (M:MemP),e= .returned (pV g)∧(1≤G∧G≤4)∧M.ok (256*G) G∧ObjsAt w' (g::gs) (memS 0 (256*G) G M)∧(∀ b∈g::gs,w.heap.size≤b)∧Below w.heap.size w w':=by
 obtain ⟨G,hG⟩:∃ G:Nat,(G:Int)=1+n0%4:=⟨(1+n0%4).toNat,by omega⟩
 have hG4:1≤G∧G≤4:=(by omega);refine zfg [ycb n0 n1 n2 n3] Tryz.func16 Tryz.ntmps16 rfl zS ?_;refine z3p ?_;(conv=>whnf);refine z3m fun r w1 hR=>?_;obtain ⟨p1,us,e1,e2,e3⟩:=hR.own 0 _ rfl;obtain rfl:=zis (us:=[intV n0,intV n1,intV n2,intV n3]) e3;have hB1:=hR.toBelow;have hp1:=zoc hR e1;refine ⟨z6k [(1,pV p1)],fun a' hf=>z6t ⟨z6p hf 1 rfl e1,trivial⟩,?_⟩;clear hR e3 e1;refine z3p ?_;(conv=>whnf);refine z0h (size:=1) p1 0 4 0 rfl rfl rfl rfl rfl rfl zO zO ?_;(conv=>whnf);refine ⟨_,zd1 e2 rfl,?_⟩;(conv=>whnf);refine ze2 (x:=intV (n0%4)) rfl zK (fun r w' hR=>ycg n0 4 w' zO) ?_;(conv=>whnf);refine ⟨(G:Int),by rw [hG];exact wr64 zO,?_⟩;(conv=>whnf);refine z3d (z3e 1 rfl rfl rfl ?_);(conv=>whnf);refine ⟨by kernel_rfl,fun r w2 us' hR hd=>?_⟩;obtain rfl:=zcs (xs:=[intV (G:Int),.bool false]) rfl hd;have hB2:=hR.toBelow
 refine (zus G w2 zO).mono fun e w3 ⟨g,gs,he,hn⟩=>⟨_,he,?_⟩
 have hB3:=zdg (zdg hB1 hB2 hB1.size) hn.below (Nat.le_trans hB1.size hB2.size);have hz3:=Nat.le_trans hB1.size hB2.size;have hfr:=hn.fresh;have hU3:=hn.at_;have hM0:(MemP.zero G).ok (256*G) G:=zuo zO;have e23:w3.heap[p1]?=some (.cells ([intV n0,intV n1,intV n2,intV n3]:List Value).toArray 23 (0,0)):=((hn.below.block p1 (Nat.lt_of_lt_of_le (zpt e2) hB2.size)).trans (hB2.block p1 (zpt e2))).trans e2
 have hpn:p1∉g::gs:=fun hm=>by
  have:=hfr p1 hm;have:=zpt e2;have:=hB2.size;omega
 have hfw:∀ b∈g::gs,w.heap.size≤b:=fun b hb=>by have:=hfr b hb;omega
 clear hn hfr hB1 hB2 hR hd e2;(conv=>whnf);refine zcd ?_;refine z3d ?_;refine z3p ?_;(conv=>whnf);refine z3a ?_;refine z3i (fun j:{j:Nat//j≤G}=>[(1,one (pV p1)),(3,one (intV (G:Int))),(4,one (pV g)),(5,one (intV (j.1:Int)))]) (fun j w'=>∃ M:MemP,M.ok (256*G) G∧ObjsAt w' (g::gs) (memS 0 (256*G) G M)∧Held w3 ⟨[],g::gs⟩ w') (fun j=>G-j.1) ⟨0,by omega⟩ Tn (fun r w' hR=>⟨_,hM0,zvz (zt4 _ _ _) hU3 hR.toBelow,zpy hR.toBelow⟩) (fun j w' hJ=>?_);obtain ⟨j,hj⟩:=j;dsimp only at hJ⊢;obtain ⟨M,hM,hU4,hh4⟩:=hJ;have e24:=(zpu hh4 (zpt e23) hpn).trans e23;refine z3d ?_;refine z3p ?_;(conv=>whnf);refine z3b rfl (fun hc=>z3q (zcd ?_)) (fun hc=>?_)
 ·have hlt:j<G:=by have:=of_decide_eq_true hc;omega
  refine z3k (α:=Unit) (fun _=>[(1,one (pV p1)),(3,one (intV (G:Int))),(4,one (pV g)),(5,one (intV (j:Int)))]) (fun _ w2=>∃ M:MemP,M.ok (256*G) G∧ObjsAt w2 (g::gs) (memS 0 (256*G) G M)∧Held w3 ⟨[],g::gs⟩ w2) ?_ fun _ w2 hl=>?_
  ·refine z3a ?_
   refine z3p ?_;(conv=>whnf);refine z3k (α:={x:Int//0≤x∧x<4}) (fun x=>[(1,one (pV p1)),(3,one (intV (G:Int))),(4,one (pV g)),(5,one (intV (j:Int))),(6,one (intV x.1))]) (fun _ w2=>Below w'.heap.size w' w2) ?_ fun x w5 hB5=>?_
   ·refine z3p ?_
    (conv=>whnf);refine z0h (size:=1) p1 0 4 1 rfl rfl rfl rfl rfl rfl zO zO ?_;(conv=>whnf);refine ⟨_,zd1 e24 rfl,?_⟩;(conv=>whnf);refine ⟨((j+1:Nat):Int),by rw [show (j:Int)+1=((j+1:Nat):Int) by omega];exact wr64 zO,?_⟩;(conv=>whnf);refine ⟨by omega,_,rfl,?_⟩;(conv=>whnf);refine ze2 (x:=intV (_%4)) rfl zK (fun r w' hR=>ycg _ 4 w' zO) ?_;(conv=>whnf);refine z3b rfl (fun hc=>?_) (fun hc=>?_)
    ·refine z3t ?_
     (conv=>whnf);refine z0h (size:=1) p1 0 4 1 rfl rfl rfl rfl rfl rfl zO zO ?_;(conv=>whnf);refine ⟨_,zd1 e24 rfl,?_⟩;(conv=>whnf);refine ze2 (x:=intV (n1%4)) rfl zK (fun r w' hR=>ycg n1 4 w' zO) ?_;(conv=>whnf);exact zca ⟨n1%4,by omega⟩ Tn fun r w3 hR=>hR.toBelow
    ·exact z3q (zca ⟨3,by omega⟩ Tn fun r w3 hR=>hR.toBelow)
   ·obtain ⟨x,hx⟩:=x
    dsimp only;have hU5:=zvz (zt4 _ _ _) hU4 hB5;have hh5:=zp1 (gs1:=[]) hh4 (zpy hB5) nofun;refine z3d (z3e 3 rfl rfl rfl ?_);(conv=>whnf);refine ⟨by kernel_rfl,fun r w6 us' hR hd=>?_⟩;obtain rfl:=zcs (xs:=[pV g,intV (j:Int),intV x]) rfl hd;have hU6:=zvz (zt4 _ _ _) hU5 hR.toBelow;have hh6:=zp1 (gs1:=[]) hh5 (zpy hR.toBelow) nofun
    refine (zui M (256*G) G j x w6 g gs hU6 hM hlt zO zO).mono fun e w7 ⟨he,hU7,hg7⟩=>⟨_,he,?_⟩
    have hh7:=zp1 hh6 (zpz hg7) fun b hb=> .inl hb;have hM7:=zzc hM j (x:=x) zO;generalize M.protect j x=M7 at hM7 hU7;clear hR hd hU6 hh6 hg7 hU5 hh5;(conv=>whnf);refine zcd ?_;refine z3p ?_;(conv=>whnf);refine z3a ?_;refine z3i (fun q:{q:Nat//q≤37}=>[(1,one (pV p1)),(3,one (intV (G:Int))),(4,one (pV g)),(5,one (intV (j:Int))),(7,one (intV (7*(q.1:Int))))]) (fun _ w2=>∃ M:MemP,M.ok (256*G) G∧ObjsAt w2 (g::gs) (memS 0 (256*G) G M)∧Held w3 ⟨[],g::gs⟩ w2) (fun q=>37-q.1) ⟨0,by omega⟩ Tn (fun r w'' hR=>⟨M7,hM7,zvz (zt4 _ _ _) hU7 hR.toBelow,zp1 (gs1:=[]) hh7 (zpy hR.toBelow) nofun⟩) (fun q w8 hJ2=>?_);obtain ⟨q,hq⟩:=q;dsimp only at hJ2⊢;obtain ⟨M8,hM8,hU8,hh8⟩:=hJ2;have e28:=(zpu hh8 (zpt e23) hpn).trans e23;refine z3d ?_;refine z3p ?_;(conv=>whnf);refine z3b rfl (fun hc=>z3q (zcd ?_)) (fun hc=>?_)
    ·have hlt:q<37:=by have:=of_decide_eq_true hc;omega
     refine z3k (α:=Unit) (fun _=>[(1,one (pV p1)),(3,one (intV (G:Int))),(4,one (pV g)),(5,one (intV (j:Int))),(7,one (intV (7*(q:Int))))]) (fun _ w2=>∃ M:MemP,M.ok (256*G) G∧ObjsAt w2 (g::gs) (memS 0 (256*G) G M)∧Held w3 ⟨[],g::gs⟩ w2) ?_ fun _ w2 hl=>?_
     ·refine z3a ?_
      refine z3e 16 rfl rfl rfl ?_;(conv=>whnf);refine ⟨256*(j:Int),wr64 zO,?_⟩;(conv=>whnf);refine ⟨256*(j:Int)+7*(q:Int),wr64 zO,?_⟩;(conv=>whnf);refine ⟨256*(j:Int)+7*(q:Int),by rw [wr32];omega,?_⟩;(conv=>whnf);refine z0h (size:=1) p1 0 4 2 rfl rfl rfl rfl rfl rfl zO zO ?_;(conv=>whnf);refine ⟨_,zd1 e28 rfl,?_⟩;(conv=>whnf);refine ⟨7*(q:Int)+(j:Int),wr64 zO,?_⟩;(conv=>whnf);refine ⟨7*(q:Int)+(j:Int)+1,wr64 zO,?_⟩;(conv=>whnf);refine ⟨_,rfl,?_⟩;(conv=>whnf);generalize hy:IntKind.u8.wrap (IntKind.i64.wrap (n2*(7*(q:Int)+(j:Int)+1)))=y;have hyr:0≤y∧y<256:=(by rw [← hy];exact yc3 _);clear hy;refine ⟨y,rfl,?_⟩;(conv=>whnf);refine z0d 0 1 1 [y] rfl rfl rfl rfl rfl rfl rfl ?_;(conv=>whnf);refine ⟨by kernel_rfl,fun r w9 us' hR hd=>?_⟩;obtain rfl:=zcs (xs:=[pV g,.int .u32 (256*(j:Int)+7*(q:Int)),strV [y]]) rfl hd;have hU9:=zvz (zt4 _ _ _) hU8 hR.toBelow;have hh9:=zp1 (gs1:=[]) hh8 (zpy hR.toBelow) nofun
      have hbl:∀ x∈[y],0≤x∧x<256:=fun x hx=>by rw [List.mem_singleton.1 hx];exact hyr
      refine (zuh M8 (256*G) G (256*(j:Int)+7*(q:Int)) [y] w9 g gs hU9 hM8 (by unfold word;omega) hbl (show 1≤1000000 by decide) zO).mono fun e w10 ⟨he,hU10,hg10⟩=>⟨_,he,?_⟩
      have hh10:=zp1 hh9 (zpz hg10) fun b hb=> .inl hb;have hM10:=zy4 hM8 (256*(j:Int)+7*(q:Int)) hbl [y].length (Nat.le_refl _);generalize M8.pokeAt (256*(j:Int)+7*(q:Int)) [y] [y].length=M10 at hM10 hU10;clear hR hd hU9 hh9 hg10;(conv=>whnf);exact zb4 (zca () Tn fun r w3 hR=>⟨M10,hM10,zvz (zt4 _ _ _) hU10 hR.toBelow,zp1 (gs1:=[]) hh10 (zpy hR.toBelow) nofun⟩)
     ·obtain ⟨M9,hM9,hU9,hh9⟩:=hl
      refine z3t ?_;(conv=>whnf);refine ⟨7*((q+1:Nat):Int),by rw [show 7*(q:Int)+7=7*((q+1:Nat):Int) by omega];exact wr64 zO,?_⟩;(conv=>whnf);exact zcc ⟨q+1,by omega⟩ Tn (fun r w3 hR=>⟨M9,hM9,zvz (zt4 _ _ _) hU9 hR.toBelow,zp1 (gs1:=[]) hh9 (zpy hR.toBelow) nofun⟩) (by show 37-(q+1)<37-q;omega)
    ·refine z3t ?_
     (conv=>whnf);exact zb7 (zcf (zb6 (zb4 (zca () Tn fun r w3 hR=>⟨M8,hM8,zvz (zt4 _ _ _) hU8 hR.toBelow,zp1 (gs1:=[]) hh8 (zpy hR.toBelow) nofun⟩))))
  ·obtain ⟨M8,hM8,hU8,hh8⟩:=hl
   refine z3t ?_;(conv=>whnf);refine ⟨((j+1:Nat):Int),by rw [show (j:Int)+1=((j+1:Nat):Int) by omega];exact wr64 zO,?_⟩;(conv=>whnf);exact zcc ⟨j+1,by omega⟩ Tn (fun r w3 hR=>⟨M8,hM8,zvz (zt4 _ _ _) hU8 hR.toBelow,zp1 (gs1:=[]) hh8 (zpy hR.toBelow) nofun⟩) (by show G-(j+1)<G-j;omega)
 ·refine z3t ?_
  (conv=>whnf);refine zb7 (zcf (zb6 (zcd ?_)));refine z3p ?_;(conv=>whnf);refine z3t ?_;(conv=>whnf);refine zcg ?_;(conv=>whnf)
  refine zmj rfl fun w9 hB9=>⟨G,g,gs,M,rfl,hG4,hM,zvz (zt4 _ _ _) hU4 hB9,hfw,?_⟩
  exact zdj (zdi hB3 hh4 hfw) hB9
end
theorem yb4 {a:List Int} (hl:a.length=28) {v x:Int} (hv:0≤v∧v<28) (u:Int) (hu:0≤u):getV (a.set v.toNat x) u=if u=v then x else getV a u:=by
 unfold getV;rw [List.getElem?_set];by_cases h:u=v
 ·subst h
  rw [if_pos rfl,if_pos zO,if_pos rfl];rfl
 ·rw [if_neg zO,if_neg h]
theorem AlR.give {a:List Int} {r:Nat} (h:AlR a r) {v:Int} (hv:0≤v∧v<28) (h19:v≠19):AlR (a.set v.toNat (r:Int)) (r+1):=by
 have hg:=fun u hu=>yb4 (x:=(r:Int)) h.len hv u hu;refine ⟨by rw [List.length_set];exact h.len,fun u h0 h1=>?_,?_,fun u t u0 u1 t0 t1 hu he=>?_⟩
 ·rw [hg u h0]
  have:=h.lo u h0 h1
  split<;>omega
 ·rw [hg 19 zO,if_neg zO];exact h.pc
 ·rw [hg u u0] at hu he
  rw [hg t t0] at he;have h1:=h.lo u u0 u1;have h2:=h.lo t t0 t1;by_cases c1:u=v
  ·by_cases c2:t=v
   ·omega
   ·rw [if_pos c1,if_neg c2] at he;omega
  ·rw [if_neg c1] at hu he
   by_cases c2:t=v
   ·rw [if_pos c2] at he;omega
   ·rw [if_neg c2] at he
    exact h.inj u t u0 u1 t0 t1 hu he
theorem yea {a:List Int} (ha:a.length=28) {v:Int} (hv:0≤v∧v<28):(List.map CV.v (alL a))[0+v.toNat*tsz Tryz.prog 3]?=some (.v (.int .i64 (getV a v))):=by
 show (List.map CV.v (alL a))[0+v.toNat*1]?=_;rw [Nat.zero_add,Nat.mul_one,List.getElem?_map,List.getElem?_map];unfold getV;rw [List.getElem?_eq_getElem zO];rfl
theorem yeb {a:List Int} {v x:Int}:z36 (List.map CV.v (alL a)) (0+v.toNat*tsz Tryz.prog 3) [CV.v (Value.int .i64 x)]=List.map CV.v (alL (a.set v.toNat x)):=by
 rw [z4o];show List.map CV.v ((alL a).set (0+v.toNat*1) _)=_;rw [Nat.zero_add,Nat.mul_one];unfold alL;simp only [List.map_set]
section
variable {w:World}
end
structure UsOk (u:List Int):Prop where
 len:u.length=28
 pc:getV u 19=0
theorem UsOk.set {u:List Int} (h:UsOk u) {v x:Int} (hv:0≤v∧v<28) (h19:v≠19):UsOk (u.set v.toNat x):=⟨by rw [List.length_set];exact h.len,by rw [yb4 h.len hv 19 zO,if_neg zO];exact h.pc⟩
section
variable {w:World}
end
end Go.Proofs.YtocafomnnkmjfaaGreat
