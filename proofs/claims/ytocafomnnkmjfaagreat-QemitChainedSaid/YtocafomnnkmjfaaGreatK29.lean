import Derived.Test.YtocafomnnkmjfaaGreatK19
import Derived.Test.YtocafomnnkmjfaaGreatK28
set_option maxRecDepth 100000
set_option maxHeartbeats 4000000
namespace Go.Proofs.YtocafomnnkmjfaaGreat
open Go.RowKit
theorem zv0 {w:World} {c:Nat} {gs:List Nat} {o:Ow} {U V:List Ow} (h:ObjsAt w (c::gs) (o::V)) (hsh:ShAll 1 U V) (hob:zaj gs.length U):ObjsAt w gs U:=by
 have hl:=h.len;have hl2:=hsh.length;simp only [List.length_cons] at hl;refine ⟨by omega,fun i j b hi hj=>?_,fun b hb=>h.lt b (List.mem_cons_of_mem _ hb),fun i x hx=>?_⟩
 ·have:=h.nodup (i+1) (j+1) b hi hj
  omega
 ·obtain ⟨o',h1,h2⟩:=hsh.get i hx
  have h3:=h.own (i+1) o' h1;have h4:=hob _ (List.mem_of_getElem? hx)
  cases x with
  |cells t l=>
   cases o' with
   |cells t' l'=>
    obtain ⟨rfl,rfl⟩:=h2;obtain ⟨b,us,e1,e2,e3⟩:=h3;exact ⟨b,us,e1,e2,zit (k:=1) (n:=gs.length) (r:=zkf (c::gs)) (fun i b _ hb=>by rw [Nat.add_comm] at hb;exact hb) h4 e3⟩
   |row=>exact h2.elim
   |ext=>exact h2.elim
   |view=>exact h2.elim
   |gone=>exact h2.elim
  |row=>exact h4.elim
  |ext=>exact h4.elim
  |view=>exact h4.elim
  |gone=>exact h4.elim
theorem zvv {w:World} {c:Nat} {gs:List Nat} {U V:List Ow} {t:TypeId} {l:List CV} {us:List Value} (hc:w.heap[c]?=some (.cells us.toArray t (0,0))) (hn:c∉gs) (h:ObjsAt w gs U) (hsh:ShAll 1 U V) (hob:zaj gs.length U) (hd:denL (zkf (c::gs)) l us):ObjsAt w (c::gs) (.cells t l::V):=by
 have hl:=h.len;have hl2:=hsh.length;refine ⟨by simp only [List.length_cons];omega,fun i j b hi hj=>?_,fun b hb=>?_,fun i x hx=>?_⟩
 ·match i,j with
  |0,0=>rfl
  |0,j+1=>
   have hi:c=b:=(by simpa using hi);subst hi;exact absurd (List.mem_of_getElem? (show gs[j]?=some c from hj)) hn
  |i+1,0=>
   have hj:c=b:=(by simpa using hj);subst hj;exact absurd (List.mem_of_getElem? (show gs[i]?=some c from hi)) hn
  |i+1,j+1=>rw [h.nodup i j b hi hj]
 ·rcases List.mem_cons.1 hb with rfl|hb
  ·exact zpz hc
  ·exact h.lt b hb
 ·match i with
  |0=>
   have hx:some _=some x:=hx;injection hx with hx;subst hx;exact ⟨c,us,rfl,hc,hd⟩
  |i+1=>
   obtain ⟨o',h1,h2⟩:=hsh.get' i (show V[i]?=some x from hx);have h3:=h.own i o' h1;have h4:=hob _ (List.mem_of_getElem? h1)
   cases o' with
   |cells t' l'=>
    cases x with
    |cells t2 l2=>
     obtain ⟨rfl,rfl⟩:=h2;obtain ⟨b,us2,e1,e2,e3⟩:=h3;exact ⟨b,us2,e1,e2,z4t (k:=1) (n:=gs.length) (r':=zkf gs) (fun i b _ hb=>by rw [Nat.add_comm];exact hb) h4 e3⟩
    |row=>exact h2.elim
    |ext=>exact h2.elim
    |view=>exact h2.elim
    |gone=>exact h2.elim
   |row=>exact h4.elim
   |ext=>exact h4.elim
   |view=>exact h4.elim
   |gone=>exact h4.elim
theorem zue (n p:Nat) (M:MemP):ShAll 1 (memS 0 n p M) (memS 1 n p M):=zud 1 n p M
theorem zhp {w:World} {c:Nat} {gs:List Nat} {us:List Value} {n p:Nat} {M:MemP} (h:ObjsAt w (c::gs) (cpuU 0 us n p M)):∃ m ms,gs=m::ms∧w.heap[c]?=some (.cells (us++[pV m]).toArray cpuT (0,0))∧ObjsAt w (m::ms) (memS 0 n p M)∧c∉m::ms:=by
 have hl:gs.length=6:=(by have:=h.len;simp only [List.length_cons,List.length_nil] at this;omega);have hm:=zv0 (U:=memS 0 n p M) h (zue n p M) (by rw [hl];exact zuc n p M);obtain ⟨b,us2,e1,e2,e3⟩:=h.own 0 _ rfl;injection e1 with e1;subst e1;obtain ⟨ws,rfl,d⟩:=ziy e3;obtain ⟨u,l,rfl,d1,d2⟩:=d;obtain rfl:l=[]:=d2
 have hc:c∉gs:=fun hm=>by
  obtain ⟨i,hi⟩:=List.getElem?_of_mem hm;exact absurd (h.nodup 0 (i+1) c rfl hi) zO
 match gs,hl with
 |m::ms,hl=>
  obtain ⟨b,hb,hu⟩:=zi4 (show AV.den _ (.p (.c (.ref 1 0))) u from d1);have hb:some m=some b:=hb;injection hb with hb;subst hb;subst hu;exact ⟨m,ms,rfl,e2,hm,hc⟩
theorem zhl {w:World} {c m:Nat} {ms:List Nat} {us:List Value} {n p:Nat} {M:MemP} (hc:w.heap[c]?=some (.cells (us++[pV m]).toArray cpuT (0,0))) (hm:ObjsAt w (m::ms) (memS 0 n p M)) (hn:c∉m::ms):ObjsAt w (c::m::ms) (cpuU 0 us n p M):=by
 have hl:(m::ms).length=6:=by have:=hm.len;simp only [List.length_cons,List.length_nil] at this⊢;omega
 exact zvv hc hn hm (zue n p M) (by rw [hl];exact zuc n p M) (zix ⟨_,_,rfl,zi1 rfl,rfl⟩)
theorem zp5 {w w':World} {gs:List Nat} (h:GrownBys w w' gs):Held w ⟨[],gs⟩ w':=⟨h.os,h.tape,h.output,h.size,fun k hk hn=>h.block k hk fun hm=>hn (.inr hm)⟩
section
variable {W:World} {m:Nat} {ms:List Nat} {n p:Nat} {M M':MemP}
theorem zr0 {fid:FuncId} {args:List AV} {us:List Value} (v:Value) (M':MemP) {K:Value→(World→Prop)→Prop} (hu:avals args=some us) (hok:fnOk Tryz.prog fid=true)
  (hc:∀ w,ObjsAt w (m::ms) (memS 0 n p M)→Calls Tryz.prog fid (pV m::us).toArray w fun e w'=>e= .returned v∧ObjsAt w' (m::ms) (memS 0 n p M')∧GrownBys w w' (m::ms)) (hK:K v fun w=>ObjsAt w (m::ms) (memS 0 n p M')):JmpJ Tryz.prog W ⟨[],m::ms⟩ (fun w=>ObjsAt w (m::ms) (memS 0 n p M)) fid (one (pV m)::args) K:=by
 refine .one hok v _ (fun w us' hh hj hd=>?_) hK;obtain ⟨u1,l1,rfl,d1,d2⟩:=hd;obtain rfl:=zi6 d1;obtain rfl:=zcs hu d2
 exact (hc w hj).mono fun e w' ⟨he,h1,h2⟩=>⟨he,zp7 hh (zp5 h2) fun b hb=> .inl hb,h1⟩
theorem zrw {gs:List Nat} {J:World→Prop} {fid:FuncId} {args:List AV} {us:List Value} (v:Value) {K:Value→(World→Prop)→Prop} (hu:avals args=some us) (hok:fnOk Tryz.prog fid=true)
  (hJ:∀ w w',J w→Below w.heap.size w w'→J w') (hc:∀ w,Held W ⟨[],gs⟩ w→J w→Calls Tryz.prog fid us.toArray w fun e w'=>e= .returned v∧Below w.heap.size w w') (hK:K v J):JmpJ Tryz.prog W ⟨[],gs⟩ J fid args K:=by
 refine .one hok v _ (fun w us' hh hj hd=>?_) hK;obtain rfl:=zcs hu hd
 exact (hc w hh hj).mono fun e w' ⟨he,hB⟩=>⟨he,zp7 (gs1:=[]) hh (zp4 hB) nofun,hJ w w' hj hB⟩
theorem zt5 (w w':World) (h:ObjsAt w (m::ms) (memS 0 n p M)) (hB:Below w.heap.size w w'):ObjsAt w' (m::ms) (memS 0 n p M):=zvw (zuc n p M) h hB
end
section
variable {w w':World} {h c m:Nat} {ms:List Nat} {us:List Value} {n p:Nat} {M M':MemP} {base ctx size:Int}
theorem HoAt.turn (ho:HoAt w h c m ms us n p M base ctx size) (hh:Held w ⟨[],m::ms⟩ w') (hm:ObjsAt w' (m::ms) (memS 0 n p M')):HoAt w' h c m ms us n p M' base ctx size:=
 ⟨(zp0 hh (zpz ho.host) ho.hm).trans ho.host,(zp0 hh (zpz ho.cpu) ho.cm).trans ho.cpu,ho.ul,hm,ho.hc,ho.hm,ho.cm⟩
theorem HoAt.ptrH (ho:HoAt w h c m ms us n p M base ctx size):zac w (Gs.flat ⟨[],m::ms⟩) c (0+24) [pV m]:=
 zp3 ho.cpu ho.cm (by rw [List.getElem?_append_right (by rw [ho.ul];exact Nat.le_refl _),ho.ul];rfl)
theorem zqq (f j:Nat) (M:MemP):zqn f (j+1) M=(zqn f j M).syncM ((256*(f+j):Nat):Int):=rfl
theorem zx8 (ho:HoAt w h c m ms us n p M base ctx size) (hM:M.ok n p) (hn8:8<n) (G:Nat) (hG:size=256*(G:Int)) (hGp:G<p) (off:Int) (ha:word (base+off)) (hof:word off) (l:List Int) (hbl:∀ x∈l,0≤x∧x<256) (hlen:l.length≤1000000):
  Calls Tryz.prog 37 #[pV h,intV off,strV l] w fun e w'=>e= .returned (.tuple #[])∧HoAt w' h c m ms us n p (zqn (G+1) (p-(G+1)) (M.pokeAt (base+off) l l.length)) base ctx size∧Held w ⟨[],m::ms⟩ w':=by
 have hpm:=hM.pmax;have hM1:(M.pokeAt (base+off) l l.length).ok n p:=zyy hM _ hbl _ (Nat.le_refl _);refine zfh [pV h,intV off,strV l] Tryz.func37 Tryz.ntmps37 rfl zS ?_;refine z25 ?_;refine z3k (m::ms) (.q 0 (.q 1 (.q 2 (.q 3 (.q 4 (.q 5 (.q 6 (.q 7 (.q 8 (.q 9 (.q 10 (.q 11 (.q 12 (.q 13 (.q 14 (.alt 15 .done .no)))))))))))))))) (fun w=>ObjsAt w (m::ms) (memS 0 n p M)) (fun w hB=>zvw (zuc n p M) ho.mem hB) mixed zK zK ?_;(conv=>whnf);refine ⟨_,zp3 ho.host ho.hm (k:=0+0) rfl,?_⟩;(conv=>whnf);refine ⟨_,ho.ptrH,?_⟩;(conv=>whnf);refine ⟨_,zp3 ho.host ho.hm (k:=0+1) rfl,?_⟩;(conv=>whnf);refine ⟨off,by rw [wr32];unfold word at hof;omega,?_⟩;(conv=>whnf);refine ⟨base+off,by rw [wr32];unfold word at ha;omega,?_⟩;(conv=>whnf);refine ⟨?_,trivial⟩;refine zr0 (.tuple #[]) (M.pokeAt (base+off) l l.length) (us:=[.int .u32 (base+off),strV l]) rfl zK (fun w hU=>zup M n p (base+off) l w m ms hU hM ha hbl hlen hn8) ?_;(conv=>whnf);intro w1 hh1 hj1;refine zcd ?_;have ho1:=ho.turn hh1 hj1;clear hj1;refine z3i ?_;(conv=>whnf);refine ⟨_,zd1 (off:=0+3) ho1.host rfl,?_⟩;(conv=>whnf);refine ⟨by decide,(G:Int),by rw [hG,Int.tdiv_eq_ediv_of_nonneg zO,wr64 zO];omega,?_⟩;(conv=>whnf);refine ⟨((G+1:Nat):Int),by rw [show (G:Int)+1=((G+1:Nat):Int) by omega];exact wr64 zO,?_⟩;(conv=>whnf);refine z21 ?_;refine z3b (fun j:{j:Nat//j≤p-(G+1)}=>[(0,one (pV h)),(6,one (.int .i64 ((G+1+j.1:Nat):Int)))]) (fun j w'=>HoAt w' h c m ms us n p (zqn (G+1) j.1 (M.pokeAt (base+off) l l.length)) base ctx size∧Held w ⟨[],m::ms⟩ w') (fun j=>p-(G+1)-j.1) ⟨0,by omega⟩ Tn (fun r w' hR=>⟨ho1.later hR.toBelow,zp7 (gs1:=[]) hh1 (zp4 hR.toBelow) nofun⟩) (fun j w' hJ=>?_);obtain ⟨j,hj⟩:=j;dsimp only at hJ⊢;obtain ⟨ho2,hh2⟩:=hJ;have hMj:=zqp (G+1) hM1 j;have hs:=zqq (G+1) j (M.pokeAt (base+off) l l.length);generalize hMe:zqn (G+1) j (M.pokeAt (base+off) l l.length)=Mj at ho2 hMj hs;refine z25 ?_;refine z3i ?_;(conv=>whnf);refine ⟨_,zd1 (off:=0+0) ho2.host rfl,?_⟩;(conv=>whnf);refine ⟨_,ho2.ptr,?_⟩;(conv=>whnf);refine ze3 rfl zK ho2.mem (fun w' hU=>zun Mj n p w' m ms hU) ?_;(conv=>whnf);refine z23 rfl (fun hc=>z3j (zcd ?_)) (fun hc=>?_)
 ·have hlt:G+1+j<p:=by have:=of_decide_eq_true hc;omega
  refine z3d (α:=Unit) (fun _=>[(0,one (pV h)),(6,one (.int .i64 ((G+1+j:Nat):Int)))]) (fun _ w2=>HoAt w2 h c m ms us n p (zqn (G+1) (j+1) (M.pokeAt (base+off) l l.length)) base ctx size∧Held w ⟨[],m::ms⟩ w2) ?_ fun _ w2 hl=>?_
  ·refine z21 ?_
   refine z3h (m::ms) (fun w=>ObjsAt w (m::ms) (memS 0 n p Mj)) (fun w hB=>zvw (zuc n p Mj) ho2.mem hB) ?_;(conv=>whnf);refine ⟨_,zp3 ho2.host ho2.hm (k:=0+0) rfl,?_⟩;(conv=>whnf);refine ⟨_,ho2.ptrH,?_⟩;(conv=>whnf);refine ⟨((256*(G+1+j):Nat):Int),by rw [show (256:Int)*((G+1+j:Nat):Int)=((256*(G+1+j):Nat):Int) by omega];exact wr64 zO,?_⟩;(conv=>whnf);refine ⟨((256*(G+1+j):Nat):Int),by rw [wr32];omega,?_⟩;(conv=>whnf);refine zr0 (.bool (decide (((256*(G+1+j):Nat):Int)<(n:Int)))) (Mj.syncM ((256*(G+1+j):Nat):Int)) (us:=[.int .u32 ((256*(G+1+j):Nat):Int)]) rfl zK (fun w hU=>zuv Mj n p _ w m ms hU hMj (by unfold word;omega)) ?_;(conv=>whnf);intro w3 hh3 hj3;refine zb4 (zca () Tn fun r w4 hR=>?_);rw [hs];exact ⟨(ho2.turn hh3 hj3).later hR.toBelow,zp7 (gs1:=[]) (zp7 hh2 hh3 fun b hb=> .inl hb) (zp4 hR.toBelow) nofun⟩
  ·refine z3m ?_
   (conv=>whnf);refine ⟨((G+1+(j+1):Nat):Int),by rw [show ((G+1+j:Nat):Int)+1=((G+1+(j+1):Nat):Int) by omega];exact wr64 zO,?_⟩;(conv=>whnf);exact zcc ⟨j+1,by omega⟩ Tn (fun r w3 hR=>⟨hl.1.later hR.toBelow,zp7 (gs1:=[]) hl.2 (zp4 hR.toBelow) nofun⟩) (by show p-(G+1)-(j+1)<p-(G+1)-j;omega)
 ·have hje:j=p-(G+1):=by have:=of_decide_eq_false hc;omega
  subst hje;refine z3m ?_;(conv=>whnf);refine zb7 (zcf (zb6 (zb5 ?_)));(conv=>whnf)
  exact zmp rfl fun w2 hB=>⟨rfl,by rw [hMe];exact ho2.later hB,zp7 (gs1:=[]) hh2 (zp4 hB) nofun⟩
end
end Go.Proofs.YtocafomnnkmjfaaGreat
namespace Go.Proofs
open Go.Shelf Go.Lib
def Tryz.laysWS_ren:Go.Shelf.Ren:=⟨fun|166=>131|169=>133|240=>174|276=>207|n=>n,fun|20=>20|37=>113|70=>209|72=>211|75=>213|80=>85|127=>254|164=>272|n=>n,fun n=>n⟩
theorem Tryz.laysWS:Lays.n166 Tryz.prog Tryz.laysWS_ren where
 mixed:=by kernel_rfl
 f166:=Tryz.func131.trans (congrArg some (by kernel_rfl))
 f240:=Tryz.func174.trans (congrArg some (by kernel_rfl))
 f276:=Tryz.func207.trans (congrArg some (by kernel_rfl))
 t0:=Tryz.underlying0
 a0:=Tryz.isAgg0
 z0:=Tryz.sizeOf0
 v0:=Tryz.zeroValue0
 t3:=Tryz.underlying3
 a3:=Tryz.isAgg3
 z3:=Tryz.sizeOf3
 v3:=Tryz.zeroValue3
 t4:=Tryz.underlying4
 a4:=Tryz.isAgg4
 z4:=Tryz.sizeOf4
 v4:=Tryz.zeroValue4
 t9:=Tryz.underlying9
 a9:=Tryz.isAgg9
 z9:=Tryz.sizeOf9
 v9:=Tryz.zeroValue9
 t20:=Tryz.underlying20
 a20:=Tryz.isAgg20
 z20:=Tryz.sizeOf20
 v20:=Tryz.zeroValue20
 t37:=Tryz.underlying113
 a37:=Tryz.isAgg113
 z37:=Tryz.sizeOf113
 v37:=Tryz.zeroValue113
 t70:=Tryz.underlying209
 a70:=Tryz.isAgg209
 z70:=Tryz.sizeOf209
 v70:=Tryz.zeroValue209
 t72:=Tryz.underlying211
 a72:=Tryz.isAgg211
 z72:=Tryz.sizeOf211
 v72:=Tryz.zeroValue211
 t75:=Tryz.underlying213
 a75:=Tryz.isAgg213
 z75:=Tryz.sizeOf213
 v75:=Tryz.zeroValue213
 t164:=Tryz.underlying272
 a164:=Tryz.isAgg272
 z164:=Tryz.sizeOf272
 v164:=Tryz.zeroValue272
theorem Tryz.laysBS:Lays.n169 Tryz.prog Tryz.laysWS_ren where
 mixed:=by kernel_rfl
 f169:=Tryz.func133.trans (congrArg some (by kernel_rfl))
 t0:=Tryz.underlying0
 a0:=Tryz.isAgg0
 z0:=Tryz.sizeOf0
 v0:=Tryz.zeroValue0
 t3:=Tryz.underlying3
 a3:=Tryz.isAgg3
 z3:=Tryz.sizeOf3
 v3:=Tryz.zeroValue3
 t9:=Tryz.underlying9
 a9:=Tryz.isAgg9
 z9:=Tryz.sizeOf9
 v9:=Tryz.zeroValue9
 t37:=Tryz.underlying113
 a37:=Tryz.isAgg113
 z37:=Tryz.sizeOf113
 v37:=Tryz.zeroValue113
 t70:=Tryz.underlying209
 a70:=Tryz.isAgg209
 z70:=Tryz.sizeOf209
 v70:=Tryz.zeroValue209
 t72:=Tryz.underlying211
 a72:=Tryz.isAgg211
 z72:=Tryz.sizeOf211
 v72:=Tryz.zeroValue211
 t127:=Tryz.underlying254
 a127:=Tryz.isAgg254
 z127:=Tryz.sizeOf254
 v127:=Tryz.zeroValue254
theorem Tryz.extraB:Builder.Extra Tryz.prog Tryz.laysWS_ren where
 sizeBuilder:=by kernel_rfl
 liesBuilder:=by kernel_rfl
 t5:=Tryz.underlying5
 a5:=Tryz.isAgg5
 z5:=Tryz.sizeOf5
 v5:=Tryz.zeroValue5
 infoByte:=by kernel_rfl
 cellsByte:=by kernel_rfl
 sizeByte:=by kernel_rfl
 neB5:=by decide
end Go.Proofs
namespace Go.Proofs.YtocafomnnkmjfaaGreat
open Go.RowKit
abbrev zab (w:World) (B b:Nat) (l:List Int):Prop:=Lib.IsBuilder 211 5 B b (l.map (Value.int .u8)) w
theorem zen {x:Int} (h:0≤x∧x<256):(((UInt8.ofNat x.toNat).toNat:Nat):Int)=x:=by
 have h2:(UInt8.ofNat x.toNat).toNat=x.toNat:=by simp;omega
 rw [h2];omega
theorem zfo (l:List Int) (hl:∀ x∈l,0≤x∧x<256):(l.map fun n=>UInt8.ofNat n.toNat).map (fun b=>Value.int .u8 (b.toNat:Nat))=l.map (Value.int .u8):=by
 rw [List.map_map];refine List.map_congr_left fun x hx=>?_;show Value.int .u8 (((UInt8.ofNat x.toNat).toNat:Nat):Int)=Value.int .u8 x;rw [zen (hl x hx)]
theorem z7t (l:List Int) (hl:∀ x∈l,0≤x∧x<256):Lib.strCells (zeq l)=l.map (Value.int .u8):=by
 unfold Lib.strCells;rw [zet];exact zfo l hl
theorem ybh (w:World) (B b:Nat) (l m:List Int) (hm:∀ x∈m,0≤x∧x<256) (h:zab w B b l) (hlen:l.length+m.length≤140737488355328) (hB:B≤w.heap.size):
  Calls Tryz.prog 131 #[pV b,strV m] w fun e w'=>e= .returned (.tuple #[.int .i64 (m.length:Int),.nilIface])∧zab w' B b (l++m)∧Below B w w':=by
 refine (Any.Builder_WriteString Tryz.laysWS Tryz.extraB B b (l.map (Value.int .u8)) (zeq m) w h (by rw [List.length_map,zeu];exact hlen) hB).mono fun e w' ⟨h1,h2,h3⟩=>⟨?_,.inr ?_,h3⟩
 ·rw [h1,zeu]
 ·rw [z7t m hm, ← List.map_append] at h2
  exact h2
theorem zeg (w:World) (B b:Nat) (l:List Int) (hl:∀ x∈l,0≤x∧x<256) (h:zab w B b l) (hB:B≤w.heap.size):
  Calls Tryz.prog 133 #[pV b] w fun e w'=>e= .returned (strV l)∧Below B w w':=by
 have h2:Lib.IsBuilder (Tryz.laysWS_ren.t 72) (Tryz.laysWS_ren.t 5) B b (Lib.byteCells (l.map fun n=>UInt8.ofNat n.toNat)) w:=by
  unfold Lib.byteCells;rw [zfo l hl];exact h
 refine (Any.Builder_String_any Tryz.laysBS Tryz.extraB B b _ w h2 hB).mono fun e w' ⟨h1,h3⟩=>⟨?_,h3⟩
 rw [h1];show Ending.returned (.string ⟨_⟩)= .returned (.string (zeq l));rw [← zet]
theorem zdx {w w':World} {B b:Nat} {l:List Int} (h:zab w B b l) (hB:Below w.heap.size w w'):zab w' B b l:=by
 have key:∀ p,Lib.BuilderAt 211 5 B b p (l.map (Value.int .u8)) w→Lib.BuilderAt 211 5 B b p (l.map (Value.int .u8)) w':=fun p ⟨h1,v,h2,h3,h4⟩=>by
  refine ⟨h1,v,(hB.block b (zpz h2)).trans h2,⟨h3.1,h3.2.imp id fun ⟨g,cap,cur,f1,f2,f3,f4⟩=>⟨g,cap,cur,f1,f2,(hB.block g (zpz f3)).trans f3,f4⟩⟩,h4⟩
 exact h.imp (key _) (key _)
theorem zzj (n:Int) (w:World) (hn:word n):Calls Tryz.prog 132 #[.int .u32 n,intV 4] w fun e w'=>e= .returned (strV (putL n))∧Below w.heap.size w w':=by
 refine zfh [.int .u32 n,intV 4] Tryz.func132 Tryz.ntmps132 rfl zS ?_
 refine z3i ?_
 conv=>whnf
 refine z3m ?_
 conv=>whnf
 refine ⟨zei n 0,by have:=zeo hn (j:=0) zO;simpa using this,?_⟩
 conv=>whnf
 refine ⟨by omega,_,rfl,?_⟩
 conv=>whnf
 refine ⟨zei n 1,zeo hn (j:=1) zO,?_⟩
 conv=>whnf
 refine ⟨by omega,_,rfl,?_⟩
 conv=>whnf
 refine ⟨zei n 2,zeo hn (j:=2) zO,?_⟩
 conv=>whnf
 refine ⟨by omega,_,rfl,?_⟩
 conv=>whnf
 refine ⟨zei n 3,zeo hn (j:=3) zO,?_⟩
 conv=>whnf
 refine zwx rfl rfl rfl rfl ?_
 conv=>whnf
 refine zww rfl rfl rfl rfl ?_
 conv=>whnf
 refine zwq (z0i (size:=1) 0 0 4 4 0 4 rfl rfl rfl rfl rfl (.inl ⟨rfl,rfl⟩) (.inr ⟨_,_,rfl,rfl⟩) zO zO zO ?_) rfl
 conv=>whnf
 refine zz5 0 4 4 (putL n) rfl rfl rfl rfl rfl rfl rfl ?_
 conv=>whnf
 refine zcg ?_
 conv=>whnf
 exact zmp rfl fun w2 hB=>⟨rfl,hB⟩
theorem zm9:∀ (l:List QI) (k:Nat) (i:QI),l[k]?=some i→∀ j,j<5→(l.flatMap iqL)[k*5+j]?=(iqL i)[j]?
 |[],k,i,h,_,_=>by simp at h
 |q::l,0,i,h,j,hj=>by
  simp at h;subst h;rw [List.flatMap_cons,List.getElem?_append_left (by show _<5;omega),Nat.zero_mul,Nat.zero_add]
 |q::l,k+1,i,h,j,hj=>by
  rw [List.flatMap_cons,List.getElem?_append_right (by show 5≤_;omega),show (k+1)*5+j-(iqL q).length=k*5+j by show _-5=_;omega];exact zm9 l k i (by simpa using h) j hj
theorem zfr {w:World} {A:Option Addr} {k:Nat} {l:List QI} {i:QI} (h:SlAt w w.heap.size A (l.flatMap iqL)) (hk:l[k]?=some i):∃ bb off,A=some ⟨bb,off,none⟩∧zac w Gs.nil bb (off+(k:Int).toNat*5) (iqL i):=by
 have hlt:k<l.length:=by
  rcases Nat.lt_or_ge k l.length with h1|h1
  ·exact h1
  ·rw [List.getElem?_eq_none h1] at hk;cases hk
 obtain ⟨bb,off,rfl,hb,hc⟩:=SlAt.open_ h (by rw [zrd];omega);refine ⟨bb,off,rfl,hb,(fun hm=>by rcases hm with hm|hm<;>cases hm),fun j u hj=>?_⟩
 have hj5:j<5:=by
  rcases Nat.lt_or_ge j 5 with h1|h1
  ·exact h1
  ·rw [List.getElem?_eq_none (by exact h1)] at hj;cases hj
 have:=hc (k*5+j) u ((zm9 l k i hk j hj5).trans hj)
 simpa [Nat.add_assoc] using this
theorem zjr {i:QI} (w:World) (hv:z9h i=true) (hi:i.ok):Calls Tryz.prog 130 #[qiV i] w fun e w'=>e= .returned (.tuple #[.int .u32 (yas i),intV 0])∧Below w.heap.size w w':=by
 have h:=zjt i w hi.op hi.imm;rw [show encQ i=some (yas i) from if_pos hv] at h;exact h
theorem ya1 (l:List Int) (x:Int):yax (l++[x])=yax l++putL x:=by
 unfold yax;rw [List.flatMap_append];simp
abbrev z8p (l:List QI):List Int:=yax (l.map yas)
theorem z8q {l:List QI} {j:Nat} {i:QI} (h:l[j]?=some i):z8p (l.take (j+1))=z8p (l.take j)++putL (yas i):=by
 rw [List.take_add_one,h];show yax ((l.take j++[i]).map yas)=_;rw [List.map_append];exact ya1 _ _
theorem z8s (is:List QI) (hv:∀ i∈is,z9h i=true∧i.ok) (A:Option Addr) (c:Nat) (hn:is.length≤1000000000) (w:World) (hs:SlAt w w.heap.size A (is.flatMap iqL)):
  Calls Tryz.prog 75 #[.slice A is.length c] w fun e w'=>e= .returned (strV (z8p is))∧Below w.heap.size w w':=by
 refine zfh [.slice A is.length c] Tryz.func75 Tryz.ntmps75 rfl zS ?_;refine z3i ?_;(conv=>whnf);refine z3i ?_;(conv=>whnf);refine z3f fun r w1 hR=>?_;obtain ⟨pb,us,e1,e2,e3⟩:=hR.own 0 _ rfl;obtain rfl:=ziw (us:=[.pointer none,.slice none 0 0]) e3;have hB1:=hR.toBelow;have hfr:w.heap.size≤pb:=zoi hR e1;refine ⟨z6d [(0,.slice A is.length c),(3,pV pb)],fun a' hf=>z6m ⟨z6k hf rfl,z6i hf 3 rfl e1,trivial⟩,?_⟩;have h0:zab w1 w.heap.size pb []:= .inl ⟨hfr,_,e2,⟨rfl,.inl ⟨rfl,rfl⟩⟩,nofun⟩;clear hR e3;refine z25 ?_;refine z3i ?_;(conv=>whnf);refine z21 ?_;refine z3b (fun j:{j:Nat//j≤is.length}=>[(3,one (pV pb)),(8,one (.slice A is.length c)),(9,one (.int .i64 (is.length:Int))),(10,one (.int .i64 (j.1:Int)))]) (fun j w'=>zab w' w.heap.size pb (z8p (is.take j.1))∧Below w.heap.size w w') (fun j=>is.length-j.1) ⟨0,by omega⟩ Tn (fun r w' hR=>⟨zdx h0 hR.toBelow,zdj hB1 hR.toBelow⟩) (fun j w' hJ=>?_);obtain ⟨j,hj⟩:=j;dsimp only at hJ⊢;obtain ⟨hb,hB2⟩:=hJ;refine z3i ?_;(conv=>whnf);refine z3i ?_;(conv=>whnf);refine ⟨fun hc=>?_,fun hc=>?_⟩
 ·have hlt:j<is.length:=by simpa using hc
  obtain ⟨i,hi⟩:∃ i,is[j]?=some i:=⟨_,List.getElem?_eq_getElem hlt⟩
  obtain ⟨hvi,hoi⟩:=hv i (List.mem_of_getElem? hi);have hs2:SlAt w' w'.heap.size A (is.flatMap iqL):=(hs.below hB2 (Nat.le_refl _)).more hB2.size;obtain ⟨bb,off,hA,hcl⟩:=zfr hs2 hi;have hww:=(zif hvi hoi.imm).2;(conv=>whnf);refine z3d (α:=Unit) (fun _=>[(3,one (pV pb)),(8,one (.slice A is.length c)),(9,one (.int .i64 (is.length:Int))),(10,one (.int .i64 (j:Int)))]) (fun _ w2=>zab w2 w.heap.size pb (z8p (is.take (j+1)))∧Below w.heap.size w w2) ?_ fun _ w2 hl=>?_
  ·refine z21 ?_
   rw [hA];refine z3i ?_;(conv=>whnf)
   (refine ⟨⟨by omega,by omega⟩,?_⟩;(conv=>whnf))
   refine ⟨iqL i,hcl,rfl,?_⟩;(conv=>whnf);refine z3i ?_;(conv=>whnf);refine ze2 rfl zK (fun r w' hR=>zjr w' hvi hoi) ?_;(conv=>whnf);refine z26 2 rfl rfl rfl ?_;(conv=>whnf);refine ze2 rfl zK (fun r w' hR=>zzj (yas i) w' hww) ?_;(conv=>whnf);refine ⟨by kernel_rfl,fun r w2 us' hR hd=>?_⟩;obtain rfl:=zcs (xs:=[pV pb,strV (putL (yas i))]) rfl hd;have hz:=Nat.le_trans hB2.size hR.toBelow.size
   refine (ybh w2 w.heap.size pb _ (putL (yas i)) (zza _ _) (zdx hb hR.toBelow) ?_ hz).mono fun e w3 ⟨he,hb3,hB3⟩=>⟨_,he,?_⟩
   ·rw [show (z8p (is.take j)).length=4*(is.take j).length by rw [ya0,List.length_map],List.length_take,show (putL (yas i)).length=4 from zzb _ _]
    omega
   ·conv=>whnf
    refine zb4 (zca () Tn fun r w4 hR4=>?_);rw [z8q hi];exact ⟨zdx hb3 hR4.toBelow,zdg (zdg (zdg hB2 hR.toBelow hB2.size) hB3 (Nat.le_refl _)) hR4.toBelow (Nat.le_trans hz hB3.size)⟩
  ·refine z3m ?_
   (conv=>whnf);refine ⟨((j+1:Nat):Int),by rw [show (j:Int)+1=((j+1:Nat):Int) by omega];exact wr64 zO,?_⟩;(conv=>whnf);exact zcc ⟨j+1,by omega⟩ Tn (fun r w3 hR=>⟨zdx hl.1 hR.toBelow,zdg hl.2 hR.toBelow hl.2.size⟩) (by show is.length-(j+1)<is.length-j;omega)
 ·have hj:j=is.length:=by simp at hc;omega
  subst hj;rw [List.take_length] at hb;(conv=>whnf);refine zcf (zb6 (zcd ?_));refine z25 ?_;refine z26 0 rfl rfl rfl ?_;(conv=>whnf);refine ⟨by kernel_rfl,fun r w2 us' hR hd=>?_⟩;obtain rfl:=zcs (xs:=[pV pb]) rfl hd;have hz:=Nat.le_trans hB2.size hR.toBelow.size
  refine (zeg w2 w.heap.size pb _ (yaz _) (zdx hb hR.toBelow) hz).mono fun e w3 ⟨he,hB3⟩=>⟨_,he,?_⟩
  (conv=>whnf);refine zcd ?_;refine z3m ?_;(conv=>whnf);refine zcg ?_;(conv=>whnf)
  exact zmp rfl fun w4 hB4=>⟨rfl,zdg (zdg (zdg hB2 hR.toBelow hB2.size) hB3 (Nat.le_refl _)) hB4 (Nat.le_trans hz hB3.size)⟩
def zty:List BOp→Int→Int
 |[],k=>k
 |o::l,k=>zty l (ztx o k)
theorem ztz:∀ (l:List BOp) (o:BOp) (k:Int),zty (l++[o]) k=ztx o (zty l k)
 |[],_,_=>rfl
 |p::l,o,k=>ztz l o (ztx p k)
theorem zgs (E:Em):∀ (l:List BOp) (o:BOp) (k:Int),zgo E k (l++[o])=zgo E k l++zn2 E (ztx o (zty l k)) o
 |[],o,k=>by
  show zn2 E (ztx o k) o++[]=[]++zn2 E (ztx o k) o;rw [List.append_nil,List.nil_append]
 |p::l,o,k=>by
  show zn2 E (ztx p k) p++zgo E (ztx p k) (l++[o])=(zn2 E (ztx p k) p++zgo E (ztx p k) l)++zn2 E (ztx o (zty l (ztx p k))) o;rw [zgs E l o,List.append_assoc]
def EmX.op (X:EmX) (E:Em) (o:BOp):EmX:={X.app (zn2 E (ztx o X.index) o) with index:=ztx o X.index}
def EmX.opsTo (X:EmX) (E:Em) (l:List BOp):EmX:={X.app (zgo E X.index l) with index:=zty l X.index}
theorem zq6 (X:EmX) (l m:List It) (k k2:Int):({({X.app l with index:=k}:EmX).app m with index:=k2}:EmX)={X.app (l++m) with index:=k2}:=by
 rw [← zbj];rfl
theorem zw3 (X:EmX) (E:Em):X.opsTo E []=X:=by
 unfold EmX.opsTo;show {X.app [] with index:=X.index}=X;rw [zbn]
theorem zw5 (X:EmX) (E:Em) (l:List BOp) (o:BOp):(X.opsTo E l).op E o=X.opsTo E (l++[o]):=by
 unfold EmX.op EmX.opsTo;rw [zgs,ztz];exact zq6 X _ _ _ _
theorem zwy (X:EmX) (E:Em) (o:BOp) (h:o.code≠20):X.op E o=X.app (zn2 E X.index o):=by
 unfold EmX.op ztx;rw [if_neg h];rfl
theorem zwo {o:BOp} (ho:o.ok) (hf:znt o=true):OpF o:=⟨ho.n,znx hf,znu hf,znv hf⟩
section
variable {w:World} {g:Nat} {vC vS:Value} {X:EmX} {E:Em}
theorem zl2 {a fid:Nat} (h:some (a:Int)=some (fid:Int)):fid=a:=by injection h with h;omega
theorem z1w (h:EmAt w g vC vS X) (hp:EmP E X.index 0 X) (hpr:E.pred=0) (hz:0≤E.size∧E.size≤1048576) (hw:word X.written) (o:BOp) (ho:OpF o) (fid:Nat) (hf:zxg o.code=some (fid:Int)):
  Calls Tryz.prog fid #[pV g,opV o] w fun e w'=>e= .returned (.tuple #[])∧EmTo w w' g vC vS (X.op E o):=by
 by_cases h1:o.code=1
 ·rw [h1] at hf
  obtain rfl:=zl2 (a:=119) hf;rw [zwy X E o zO];unfold zn2;rw [if_pos h1];exact z4j h hp o ho
 by_cases h2:o.code=2
 ·rw [h2] at hf
  obtain rfl:=zl2 (a:=120) hf;rw [zwy X E o zO];unfold zn2;rw [if_neg h1,if_pos h2];exact zuy h hp o ho
 by_cases h3:o.code=12
 ·rw [h3] at hf
  obtain rfl:=zl2 (a:=121) hf;rw [zwy X E o zO];unfold zn2;rw [if_neg h1,if_neg h2,if_pos h3];exact zi7 h hp o ho
 by_cases h4:o.code=13
 ·rw [h4] at hf
  obtain rfl:=zl2 (a:=122) hf;rw [zwy X E o zO];unfold zn2;rw [if_neg h1,if_neg h2,if_neg h3,if_pos h4];exact zkq h hp o ho
 by_cases h5:3≤o.code∧o.code≤15
 ·unfold zxg at hf
  simp only [show ¬o.code=1 by omega,show ¬o.code=2 by omega,show ¬o.code=12 by omega,show ¬o.code=13 by omega,show ¬o.code=16 by omega,show ¬o.code=17 by omega,show ¬o.code=18 by omega,show ¬o.code=19 by omega,show ¬o.code=20 by omega,show ¬o.code=21 by omega,show ¬o.code=22 by omega,show ¬o.code=23 by omega,show ¬o.code=24 by omega,show ¬o.code=25 by omega,if_false] at hf
  cases hf
 by_cases h6:16≤o.code∧o.code≤19
 ·have hc:o.code=16∨o.code=17∨o.code=18∨o.code=19:=by omega
  have hf2:zxg o.code=some ((123:Nat):Int):=by
   rcases hc with hc|hc|hc|hc<;>(rw [hc];rfl)
  rw [hf2] at hf;obtain rfl:=zl2 hf;rw [zwy X E o zO];unfold zn2;rw [if_neg h1,if_neg h2,if_neg h3,if_neg h4,if_neg h5,if_pos h6];exact zau h hp hz o ho h6
 by_cases h7:o.code=21
 ·rw [h7] at hf
  obtain rfl:=zl2 (a:=125) hf;rw [zwy X E o zO];unfold zn2;rw [if_neg h1,if_neg h2,if_neg h3,if_neg h4,if_neg h5,if_neg h6,if_pos h7];exact zo8 h hp o ho
 by_cases h8:o.code=22
 ·rw [h8] at hf
  obtain rfl:=zl2 (a:=126) hf;rw [zwy X E o zO];unfold zn2;rw [if_neg h1,if_neg h2,if_neg h3,if_neg h4,if_neg h5,if_neg h6,if_neg h7,if_pos h8];exact z6n h hp o
 by_cases h9:o.code=23
 ·rw [h9] at hf
  obtain rfl:=zl2 (a:=127) hf;rw [zwy X E o zO];unfold zn2;rw [if_neg h1,if_neg h2,if_neg h3,if_neg h4,if_neg h5,if_neg h6,if_neg h7,if_neg h8,if_pos h9];exact zlk h hp hw o ho
 by_cases h10:o.code=24
 ·rw [h10] at hf
  obtain rfl:=zl2 (a:=128) hf;rw [zwy X E o zO];unfold zn2;rw [if_neg h1,if_neg h2,if_neg h3,if_neg h4,if_neg h5,if_neg h6,if_neg h7,if_neg h8,if_neg h9,if_pos h10];exact zlq h hp (by decide) hw o
 by_cases h11:o.code=25
 ·rw [h11] at hf
  obtain rfl:=zl2 (a:=129) hf;rw [zwy X E o zO];unfold zn2;rw [if_neg h1,if_neg h2,if_neg h3,if_neg h4,if_neg h5,if_neg h6,if_neg h7,if_neg h8,if_neg h9,if_neg h10,if_pos h11];exact zlo h hp hpr hw o ho
 by_cases h12:o.code=20
 ·rw [h12] at hf
  obtain rfl:=zl2 (a:=124) hf
  have e:X.op E o={X with index:=o.n}:=by
   unfold EmX.op ztx;rw [if_pos h12]
   have:zn2 E o.n o=[]:=by
    unfold zn2;rw [if_neg h1,if_neg h2,if_neg h3,if_neg h4,if_neg h5,if_neg h6,if_neg h7,if_neg h8,if_neg h9,if_neg h10,if_neg h11]
   rw [this,zbn]
  rw [e];exact zt0 h o ho.n
 ·unfold zxg at hf
  simp only [h1,h2,h3,h4,show ¬o.code=16 by omega,show ¬o.code=17 by omega,show ¬o.code=18 by omega,show ¬o.code=19 by omega,h12,h7,h8,h9,h10,h11,if_false] at hf
  cases hf
end
theorem zj1 {E:Em}:∀ j,j≤19→AllIt (zjz E j)
 |0,_=>AllIt.nil
 |j+1,h=>by
  refine AllIt.app (zj1 j zO) ?_;unfold ent1
  split
  ·exact AllIt.one (zrn (.inr (.inl ⟨by omega,by omega⟩)) (z1e _) rlit (z94 (v:=(j:Int)) zO).1 (z94 (v:=(j:Int)) zO).2 none)
  ·exact AllIt.nil
theorem zjy (E:Em) {ctx n:Int} (hc:word ctx) (hn:0≤n∧n≤64):AllIt (entE E ctx n):=by
 have w1:∀ x:Int,0≤x∧x<131072→word x∧zm1 x=true:=fun x hx=>⟨by unfold word;omega,zm4 hx⟩
 refine AllIt.app (zg0 rlit hc) (AllIt.app ?_ (zj1 19 (Nat.le_refl _)));refine AllIt.cons (zrn (.inr (.inl zO)) rlit rlit (w1 112 zO).1 (w1 112 zO).2 none) ?_;refine AllIt.cons (zrn (.inr (.inl zO)) rlit rlit (w1 116 zO).1 (w1 116 zO).2 none) ?_;refine AllIt.cons (zrn (.inl rfl) rlit rlit (w1 n zO).1 (w1 n zO).2 none) ?_;refine AllIt.cons (zrn (.inr (.inr zO)) rlit rlit (w1 2 zO).1 (w1 2 zO).2 none) ?_;refine AllIt.cons (z7e _) ?_;exact AllIt.one (zrn (.inr (.inl zO)) rlit rlit (w1 112 zO).1 (w1 112 zO).2 none)
theorem zgr {E:Em} (hs:0≤E.size∧E.size≤1048576) (hp:word E.pred):∀ (l:List BOp) (k:Int),(∀ o∈l,o.ok∧znt o=true)→AllIt (zgo E k l)
 |[],_,_=>AllIt.nil
 |o::l,_,h=>AllIt.app (zn4 _ (h o (List.mem_cons_self ..)).1 (h o (List.mem_cons_self ..)).2 hs hp) (zgr hs hp l _ fun p hp=>h p (List.mem_cons_of_mem _ hp))
theorem z9q {b:Blk} (hv:z9g b=true):(1≤b.at_.length∧b.at_.length≤64)∧1≤b.ops.length∧b.ops.length≤2000:=by
 have h:=(z9r.1 hv).1;unfold zpu at h;simp only [Bool.and_eq_true,decide_eq_true_eq] at h;exact ⟨h.1.1.2,h.1.2⟩
theorem yai {b:Blk} {a:List Int} {ctx size pred:Int} (hb:b.ok) (hv:z9g b=true) (hc:word ctx) (hs:0≤size∧size≤1048576) (hp:word pred):AllIt (yag b a ctx size pred):=
 AllIt.app (zjy _ hc (zs1 hb hv)) (zgr hs hp _ _ fun o ho=>⟨hb.ops o ho,z9o hv o ho⟩)
theorem yah {b:Blk} {a:List Int} {ctx size pred:Int} (hv:z9g b=true):(yag b a ctx size pred).length≤29+25*b.ops.length:=by
 obtain ⟨_,s,hs,_⟩:=z9r.1 hv;have h1:=zgq (E:=emE b a size pred) b.ops _ _ 0 hs;have h2:=zjx (E:=emE b a size pred) ctx (lenE b);unfold yag;rw [List.length_append];omega
theorem zgp (E:Em):∀ (l:List BOp) (k:Int),(zgo E k l).length≤27*l.length
 |[],_=>Nat.le_refl _
 |o::l,k=>by
  have h1:=(zn3 (E:=E) (ztx o k) o).1;have h2:=zgp E l (ztx o k);show (zn2 E (ztx o k) o++zgo E (ztx o k) l).length≤_;rw [List.length_append,List.length_cons];omega
def emX1 (b:Blk) (a:List Int) (ctx size:Int):EmX:={(emX0 a size).app (entE (emE b a size 0) ctx (lenE b)) with live:=(ztc a 19:Nat),written:=(ybd b.ops:Nat)}
theorem zjh (b:Blk) (a:List Int) (ctx size:Int) (hal:∀ v,0≤v→v<28→ -1000≤getV a v∧getV a v≤1000):EmOk (emE b a size 0) 0 (emX1 b a ctx size):=⟨rfl,rfl,rfl,rfl,rfl,hal⟩
theorem zjg (b:Blk) (a:List Int) (ctx size:Int):(emX1 b a ctx size).code.length≤27∧(emX1 b a ctx size).sites.length≤27:=by
 have h:=zjx (E:=emE b a size 0) ctx (lenE b)
 constructor
 ·show ([]++(entE _ ctx (lenE b)).map (fun it:It=>it.i)).length≤27
  rw [List.nil_append,List.length_map];exact h
 ·show ([]++z5q 0 _).length≤27
  rw [List.nil_append];exact Nat.le_trans (z5u _ _) h
theorem zw4 {E:Em} {X:EmX} (hok:EmOk E X.index X) (hc:X.code.length≤27∧X.sites.length≤27) {l:List BOp} (hl:l.length≤2000):EmP E (X.opsTo E l).index 0 (X.opsTo E l):=by
 have h:=zgp E l X.index;refine ⟨⟨hok.a,hok.size,hok.live,hok.written,rfl,hok.al⟩,?_,?_⟩
 ·show (X.code++(zgo E X.index l).map (·.i)).length≤_
  rw [List.length_append,List.length_map];omega
 ·show (X.sites++z5q X.code.length (zgo E X.index l)).length≤_
  have:=z5u X.code.length (zgo E X.index l);rw [List.length_append];omega
theorem yal (b:Blk) (a:List Int) (ctx size:Int):((emX1 b a ctx size).opsTo (emE b a size 0) b.ops).code=(yag b a ctx size 0).map (·.i)∧((emX1 b a ctx size).opsTo (emE b a size 0) b.ops).sites=z5q 0 (yag b a ctx size 0):=by
 constructor
 ·show ([]++(entE _ ctx (lenE b)).map (fun it:It=>it.i))++(zgo (emE b a size 0) 0 b.ops).map (fun it:It=>it.i)=(yag b a ctx size 0).map (fun it:It=>it.i)
  unfold yag;rw [List.nil_append,List.map_append]
 ·show ([]++z5q 0 (entE _ ctx (lenE b)))++z5q ([]++(entE _ ctx (lenE b)).map (fun it:It=>it.i)).length (zgo (emE b a size 0) 0 b.ops)=z5q 0 (yag b a ctx size 0)
  unfold yag;rw [z5r,List.nil_append,List.nil_append,List.length_map,Nat.zero_add]
theorem z8r (l:List It):z8p (l.map (·.i))=z8n l:=by
 unfold z8n;show yax ((l.map (fun it:It=>it.i)).map yas)=_;rw [List.map_map];rfl
theorem zxh {k:Int} {fid:Nat} (h:zxg k=some (fid:Int)):fnOk Tryz.prog fid=true:=by
 by_cases hk:k=1∨k=2∨k=12∨k=13∨(16≤k∧k≤25)
 ·have h3:((zxg k).getD 0).toNat=fid:=by rw [h];exact Int.toNat_natCast _
  have:k=1∨k=2∨k=12∨k=13∨k=16∨k=17∨k=18∨k=19∨k=20∨k=21∨k=22∨k=23∨k=24∨k=25:=(by omega);subst h3;clear h hk
  rcases this with rfl|rfl|rfl|rfl|rfl|rfl|rfl|rfl|rfl|rfl|rfl|rfl|rfl|rfl<;>(show fnOk Tryz.prog _=true;kernel_rfl)
 ·unfold zxg at h
  simp only [show ¬k=1 by omega,show ¬k=2 by omega,show ¬k=12 by omega,show ¬k=13 by omega,show ¬k=16 by omega,show ¬k=17 by omega,show ¬k=18 by omega,show ¬k=19 by omega,show ¬k=20 by omega,show ¬k=21 by omega,show ¬k=22 by omega,show ¬k=23 by omega,show ¬k=24 by omega,show ¬k=25 by omega,if_false] at h
  cases h
theorem zxi {k:Int} (h:isOp k=true) (hp:zyr k=none):∃ fid:Nat,zxg k=some (fid:Int):=by
 unfold isOp at h;have h:=of_decide_eq_true h
 have hn:¬((3≤k∧k≤11)∨k=14∨k=15):=fun hh=>by
  unfold zyr at hp;rw [if_pos hh] at hp;cases hp
 have:k=1∨k=2∨k=12∨k=13∨k=16∨k=17∨k=18∨k=19∨k=20∨k=21∨k=22∨k=23∨k=24∨k=25:=by omega
 rcases this with rfl|rfl|rfl|rfl|rfl|rfl|rfl|rfl|rfl|rfl|rfl|rfl|rfl|rfl<;>exact ⟨_,rfl⟩
theorem zn9 (E:Em) (X:EmX) (o:BOp) (h:(zyr o.code).isSome=true):X.op E o=X.app (rdE E o.a 10++(rdE E o.b 11++([i3 ((zyr o.code).getD 0) (tgE E o.d) (rrE E o.a 10) (rrE E o.b 11)]++dnE E o.d))):=by
 have hc:(3≤o.code∧o.code≤11)∨o.code=14∨o.code=15:=by
  rcases Classical.em ((3≤o.code∧o.code≤11)∨o.code=14∨o.code=15) with h1|h1
  ·exact h1
  ·unfold zyr at h
   rw [if_neg h1] at h;cases h
 rw [zwy X E o zO];unfold zn2 zyr;rw [if_neg zO,if_neg zO,if_neg zO,if_neg zO,if_pos zO,if_pos hc]
 rfl
abbrev coT:TypeId:=37
theorem ztw {w w':World} {S:List Ow} {r:Env} {R:Value→Option (DataW Unit×List MemPlace)} {cd:Int→DataW Unit} {n:Nat} {m:Int→Option Int} (hR:Rel w Gs.nil S r w') (i:Nat) (hi:S[i]?=some (ztv R cd n m)):∃ b,r.blk i=some b∧IMap R cd w' b n m∧w.heap.size≤b:=by
 obtain ⟨b,hb,hmap,_⟩:=hR.own i _ hi;exact ⟨b,hb,hmap,zoi hR hb⟩
theorem z6g {r:Env} {f:Fr} {a:Act} (hf:FDen r f a) (d:Nat) {i b:Nat} (h:f.get d= .p (.c (.mp i))) (hb:r.blk i=some b):a.tmps.getD d undef= .map (some b):=by
 have h1:=hf d;rw [h] at h1;obtain ⟨b',hb',hu⟩:=zi2 h1;rw [hb] at hb';injection hb' with hb';subst hb';exact hu
def zae (l:List It) (e:Ending) (w':World):Prop:=∃ A c,e= .returned (.tuple #[.agg #[strV (z8n l),.slice A (z5q 0 l).length c],.int .i64 0])∧SlAt w' w'.heap.size A ((z5q 0 l).flatMap z5k)
theorem zcr (L:List Value) (x:Value) (_hx:AV.of x=one x):avals [.p (.agg (L.map .v)),one x]=some [.agg L.toArray,x]:=by
 simp only [avals,AV.val,Pc.val,z9d L,CV.val]
theorem zme {P:Program} {S:List Ow} {f:Fr} {place:Nat→Option (Nat×Nat)} {x y:Operand} {L:List Value} {c c1 c2 c3 c4 c5:CV} {Z:List CV} (hL:(L.map CV.v).length=28) (hp0:place 0=some (0,28)) (hp1:place 1=some (28,1)) (hx:(f.ev x).okCells S=some (L.map .v)) (hy:(f.ev y).okCells S=some [c]) (hZ:∃ Z1 z,Z=Z1++[z,c1,c2,c3,c4,c5]∧Z1.length=28):zmc P S f place [(0,x),(1,y)] Z=some (L.map .v++[c,c1,c2,c3,c4,c5]):=by
 obtain ⟨Z1,z,rfl,hl⟩:=hZ
 have h0:z3z (Z1++[z,c1,c2,c3,c4,c5]) 0 (L.map .v)=L.map .v++[z,c1,c2,c3,c4,c5]:=by
  rw [z33 (L.map .v) Z1 0 zO 28 zO [z,c1,c2,c3,c4,c5],z32 zO]
 have h1:Nat.beq (L.map CV.v).length 28=true:=zdl hL;have h2:Nat.ble (0+28) (Z1++[z,c1,c2,c3,c4,c5]).length=true:=Nat.ble_eq_true_of_le zV;have h3:Nat.ble (28+1) (L.map CV.v++[z,c1,c2,c3,c4,c5]).length=true:=Nat.ble_eq_true_of_le (by rw [List.length_append];simp only [List.length_cons,List.length_nil];omega);simp only [zmc,hp0,hp1,hx,hy,h1,h2,h0,h3,show Nat.beq [c].length 1=true from rfl];show some (List.set (L.map CV.v++[z,c1,c2,c3,c4,c5]) 28 c)=_;rw [List.set_append_right _ _ zO,hL]
 rfl
theorem zvy {w:World} {b:Nat} {us:List Value} {t:TypeId} (h:w.heap[b]?=some (.cells us.toArray t (0,0))):ObjsAt w [b] [.cells t (us.map .v)]:=by
 refine ⟨rfl,fun i j x hi hj=>?_,fun g hg=>?_,fun i o ho=>?_⟩
 ·match i,j with
  |0,0=>rfl
  |0,j+1=>simp at hj
  |i+1,_=>simp at hi
 ·obtain rfl:=List.mem_singleton.1 hg
  exact zpz h
 ·match i with
  |0=>
   have ho:some _=some o:=ho;injection ho with ho;subst ho;exact ⟨b,us,rfl,h,ziv us⟩
  |i+1=>simp at ho
theorem zjf {w w':World} {g B:Nat} {vC vS:Value} {X':EmX} (h:EmTo w w' g vC vS X') (hG:∀ b∈emG g vC vS,B≤b) (hB:B≤w.heap.size):Below B w w':=
 ⟨h.held.os,h.held.tape,h.held.output,h.held.size,fun k hk=>h.blk zO fun hm=>by have:=hG _ hm;omega⟩
theorem zfq {w:World} {G:Gs} {b off:Nat} {xs:List Value} (h:zac w Gs.nil b off xs) (hb:b∉G):zac w G b off xs:=⟨h.1,hb,h.2.2⟩
theorem z6a {w0 w:World} {gs:List Nat} {S:List Ow} {r:Env} (hR:Rel w0 ⟨gs,[]⟩ S r w) {A:Option Addr} {xs:List Value} (h:SlAt w0 w0.heap.size A xs) (hn:∀ b off,A=some ⟨b,off,none⟩→b∉gs):SlAt w w.heap.size A xs:=fun j u hj=>by
 obtain ⟨b,off,eA,hb,hc⟩:=h j u hj
 exact ⟨b,off,eA,Nat.lt_of_lt_of_le hb hR.size,(World.cell?_of_block (hR.old b hb fun hm=>by
  rcases hm with hm|hm
  ·exact hn b off eA hm
  ·cases hm)).trans hc⟩
section
variable {w:World}
theorem zjn (b:Blk) (A1 A2 A3:Option Addr) (c1 c2 c3:Nat) (a:List Int) (ctx size:Int) (hb:b.ok) (hv:z9g b=true) (h2:SlAt w w.heap.size A2 (b.pages.map (.int .i64))) (h3:OpsAt w w.heap.size A3 b.ops) (ha:a.length=28) (hva:za2 a=true) (hctx:word ctx) (hs:0≤size∧size≤1048576) (hal:∀ v,0≤v→v<28→ -1000≤getV a v∧getV a v≤1000):
  Calls Tryz.prog 25 #[.agg #[.slice A1 b.at_.length c1,.slice A2 b.pages.length c2,.slice A3 b.ops.length c3],.agg (alL a).toArray,.int .u32 ctx,.int .i64 size] w fun e w'=>zae (yag b a ctx size 0) e w'∧Below w.heap.size w w':=by
 obtain ⟨⟨hl1,hl2⟩,hl3,hl4⟩:=z9q hv
 have hne:b.ops≠[]:=fun e=>by rw [e] at hl3;exact absurd hl3 (by decide)
 have hfm:=z9o hv;refine zfh [.agg #[.slice A1 b.at_.length c1,.slice A2 b.pages.length c2,.slice A3 b.ops.length c3],.agg (alL a).toArray,.int .u32 ctx,.int .i64 size] Tryz.func25 Tryz.ntmps25 rfl zS ?_;refine z3i ?_;(conv=>whnf);refine z25 ?_;refine z3i ?_;(conv=>whnf);refine ze2 rfl zK (fun r w' hR=>(z9p A1 A2 A3 c1 c2 c3 b w' hb ((h2.below hR.toBelow (Nat.le_refl _)).more hR.toBelow.size) ((SlAt.below h3 hR.toBelow (Nat.le_refl _)).more hR.toBelow.size))) ?_;rw [hv];(conv=>whnf);refine z23 rfl nF (fun _=>z3j (zcd ?_));have hcl:(List.map CV.v (alL a)).length=28:=(by rw [List.length_map,List.length_map];exact ha);refine z25 ?_;refine z3i ?_;(conv=>whnf);erw [zh1 hcl];(conv=>whnf);refine ze2 (zcr (alL a) (.int .i64 9) rfl) zK (fun r w' hR=>by have:=z9w a ha w';rw [hva] at this;exact this) ?_;refine kB ?_;rw [show decide (size<0)=false from decide_eq_false zO];refine kA ?_;rw [show decide (size>1048576)=false from decide_eq_false zO];refine z23 rfl nF (fun _=>z3j (zcd ?_));refine z3i ?_;(conv=>whnf);erw [zh1 hcl];(conv=>whnf);refine zmf ((alL a).map .v++[.v (.int .i64 size),.v (.slice none 0 0),.v (.slice none 0 0),.v (.int .u32 0),.v (.int .i64 0),.v (.int .u32 0)]) (zme hcl rfl rfl rfl rfl ⟨List.replicate 28 (.v (.int .i64 0)),_,rfl,rfl⟩) ?_;(conv=>whnf);refine z3f fun r w1 hR=>?_;obtain ⟨g,us,e1,e2,e3⟩:=hR.own 3 _ rfl;obtain rfl:=ziw (us:=alL a++[.int .i64 size,.slice none 0 0,.slice none 0 0,.int .u32 0,.int .i64 0,.int .u32 0]) (by rw [List.map_append];exact e3);obtain ⟨pb,us0,f1,f2,f3⟩:=hR.own 0 _ rfl;obtain rfl:=ziw (us:=[.slice A1 b.at_.length c1,.slice A2 b.pages.length c2,.slice A3 b.ops.length c3]) f3;obtain ⟨p8,us8,g1,g2,g3⟩:=hR.own 2 _ rfl;obtain rfl:=ziw (us:=[.string ⟨#[]⟩,.slice none 0 0]) g3;have hB1:=hR.toBelow;have hgw:=zoi hR e1
 have hpg:pb≠g:=fun e=>by subst e;exact absurd (hR.inj 0 3 _ f1 e1) (by decide)
 have h8g:p8≠g:=fun e=>by subst e;exact absurd (hR.inj 2 3 _ g1 e1) (by decide)
 have h8w:=zoi hR g1;refine ⟨z6d [(2,.int .u32 ctx),(4,pV pb),(8,pV p8),(10,pV g)],fun a' hf=>z6m ⟨z6k hf rfl,z6i hf 4 rfl f1,z6i hf 8 rfl g1,z6i hf 10 rfl e1,trivial⟩,?_⟩
 have h1:EmAt w1 g (.slice none 0 0) (.slice none 0 0) (emX0 a size):=⟨e2,ha,⟨rfl,.inl ⟨rfl,rfl⟩⟩,⟨rfl,.inl ⟨rfl,rfl⟩⟩,nofun,nofun,nofun⟩
 have hG1:∀ x∈emG g (.slice none 0 0) (.slice none 0 0),x=g:=fun x hx=>by
  rcases zuh.1 hx with h|h|h
  ·exact h
  ·cases h
  ·cases h
 have hz1:=hB1.size;clear hR e3 f3 g3;refine z25 (z26 3 rfl rfl rfl ?_);(conv=>whnf);refine ⟨_,zd0 f2,rfl,?_⟩;(conv=>whnf);refine ⟨by kernel_rfl,fun r w2 us' hR hd=>?_⟩;obtain rfl:=zcs (xs:=[pV g,.agg #[.slice A1 b.at_.length c1,.slice A2 b.pages.length c2,.slice A3 b.ops.length c3],.int .u32 ctx]) rfl hd;have hB2:=hR.toBelow;have hbw:Below w.heap.size w w2:=zdg hB1 hB2 hz1
 refine (zkd (emE b a size 0) a size w.heap.size (fun x hx=>by rw [hG1 x hx];exact hgw) hbw.size (h1.later hB2) hal rfl b A1 A2 A3 c1 c2 c3 ctx hctx (SlAt.below h3 hbw (Nat.le_refl _)) hne hb.lops hb.lat (zs1 hb hv).1 (fun o ho=>?_)).mono fun e w3 ⟨he,hl0⟩=>⟨_,he,?_⟩
 ·exact ybj (hfm o ho)
 have hl:EmTo w1 w3 g (.slice none 0 0) (.slice none 0 0) (emX1 b a ctx size):=hl0.early hB2;clear hl0 hR hd hbw hB2;(conv=>whnf);refine zcd ?_;obtain ⟨vC,vS,h2',hG2⟩:=hl.out;have hbw3:Below w.heap.size w w3:=zdg hB1 (zjf hl (fun x hx=>by rw [hG1 x hx];exact hgw) hz1) (Nat.le_refl _);have e8:w3.heap[p8]?=some (.cells ([.string ⟨#[]⟩,.slice none 0 0]:List Value).toArray coT (0,0)):=hl.blkO g2 fun hm=>h8g (hG1 _ hm);have eb:w3.heap[pb]?=some (.cells ([.slice A1 b.at_.length c1,.slice A2 b.pages.length c2,.slice A3 b.ops.length c3]:List Value).toArray 28 (0,0)):=hl.blkO f2 fun hm=>hpg (hG1 _ hm)
 have h8n:p8∉emG g vC vS:=fun hm=>by
  rcases hG2 _ hm with h|h
  ·exact h8g (hG1 _ h)
  ·have:=zpz g2;omega
 have hGw:∀ x∈emG g vC vS,w.heap.size≤x:=fun x hx=>by
  rcases hG2 _ hx with h|h
  ·rw [hG1 _ h];exact hgw
  ·omega
 clear hl e2 f2 g2 h1;have hz3:=hbw3.size;refine z3i ?_;(conv=>whnf);refine ze6 (R:=i64R) (cd:=i64D) (n:=11) (m:=zyr) rfl zK (fun r w' hR=>zyu w') ?_;(conv=>whnf);refine ze6 (R:=zne) (cd:=fnCd) (n:=14) (m:=zxg) rfl zK (fun r w' hR=>zxj w') ?_;(conv=>whnf);refine z3f fun r w4 hR=>?_;obtain ⟨b1,q1,m1,z1⟩:=ztw hR 0 rfl;obtain ⟨b2,q2,m2,z2⟩:=ztw hR 1 rfl;refine ⟨z6d [(4,pV pb),(8,pV p8),(10,pV g),(11,.map (some b1)),(12,.map (some b2))],fun a' hf=>z6m ⟨z6k hf rfl,z6k hf rfl,z6k hf rfl,z6g hf 11 rfl q1,z6g hf 12 rfl q2,trivial⟩,?_⟩;have hB4:=hR.toBelow;have h4:=h2'.later hB4
 have n1:b1∉emG g vC vS:=fun hm=>by have:=h2'.lts _ hm;omega
 have n2:b2∉emG g vC vS:=fun hm=>by have:=h2'.lts _ hm;omega
 replace e8:=(hB4.block p8 (zpz e8)).trans e8
 replace eb:=(hB4.block pb (zpz eb)).trans eb
 replace hbw3:=zdg hbw3 hB4 hz3
 replace hz3:=hbw3.size
 clear hR q1 q2 h2' z1 z2 hB4;have hp1:=zjh b a ctx size hal;have hlen1:=zjg b a ctx size;have hops:OpsAt w4 w.heap.size A3 b.ops:=SlAt.below h3 hbw3 (Nat.le_refl _)
 have hwx:word (emX1 b a ctx size).written:=by
  have:=ybf b.ops fun o ho=>ybj (hfm o ho);show word ((ybd b.ops:Nat):Int);unfold word;omega
 have hE:EmTo w4 w4 g vC vS ((emX1 b a ctx size).opsTo (emE b a size 0) (b.ops.take 0)):=by
  rw [List.take_zero,zw3];exact EmTo.refl h4 (Below.refl _ _)
 generalize hX:emX1 b a ctx size=X1 at*;generalize hEE:emE b a size 0=E at*;have hEz:0≤E.size∧E.size≤1048576:=(by rw [← hEE];exact hs);have hEp:E.pred=0:=(by rw [← hEE];rfl);refine z25 ?_;refine z3i ?_;(conv=>whnf);refine ⟨_,zd1 (off:=0+2) eb rfl,?_⟩;(conv=>whnf);refine z21 ?_;refine z3b (fun j:{j:Nat//j≤b.ops.length}=>[(8,one (pV p8)),(10,one (pV g)),(11,one (.map (some b1))),(12,one (.map (some b2))),(46,one (.slice A3 b.ops.length c3)),(47,one (.int .i64 (b.ops.length:Int))),(48,one (.int .i64 (j.1:Int)))]) (fun j w'=>EmTo w4 w' g vC vS (X1.opsTo E (b.ops.take j.1))) (fun j=>b.ops.length-j.1) ⟨0,by omega⟩ Tn (fun r w' hR=>hE.later hR.toBelow) (fun j w' hJ=>?_);obtain ⟨j,hj⟩:=j;dsimp only at hJ⊢;refine z3i ?_;(conv=>whnf);refine z3i ?_;(conv=>whnf);refine ⟨fun hc=>?_,fun hc=>?_⟩
 ·have hlt:j<b.ops.length:=by simpa using hc
  obtain ⟨o,ho⟩:∃ o,b.ops[j]?=some o:=⟨_,List.getElem?_eq_getElem hlt⟩
  have hom:=List.mem_of_getElem? ho;have hok:=hb.ops o hom;have hoF:=zwo hok (hfm o hom);have ho2:=zjm hJ hGw hz3 hops;have hp:=zw4 (E:=E) (X:=X1) (by rw [hp1.index];exact hp1) hlen1 (l:=b.ops.take j) (by rw [List.length_take];omega);have hwJ:word (X1.opsTo E (b.ops.take j)).written:=hwx
  have hnx:X1.opsTo E (b.ops.take (j+1))=(X1.opsTo E (b.ops.take j)).op E o:=by
   rw [zw5,List.take_add_one,ho];rfl
  generalize X1.opsTo E (b.ops.take j)=XJ at hJ hp hwJ hnx;(conv=>whnf);refine z3d (α:=Unit) (fun _=>[(8,one (pV p8)),(10,one (pV g)),(11,one (.map (some b1))),(12,one (.map (some b2))),(46,one (.slice A3 b.ops.length c3)),(47,one (.int .i64 (b.ops.length:Int))),(48,one (.int .i64 (j:Int)))]) (fun _ w2=>EmTo w4 w2 g vC vS (XJ.op E o)) ?_ fun _ w2 hl=>?_
  ·refine z21 ?_
   obtain ⟨bb,off,hA3,hcl⟩:∃ bb off,A3=some ⟨bb,off,none⟩∧zac w' Gs.nil bb (off+(j:Int).toNat*5) (opC o):=by
    obtain ⟨bb,off,rfl,_⟩:=OpsAt.open_ ho2 hl3;exact ⟨bb,off,rfl,zfv ho2 (fun hm=>by rcases hm with hm|hm<;>cases hm) ho⟩
   rw [hA3];obtain ⟨vC5,vS5,h5',hn5,k5⟩:=hJ.now2;refine z3i ?_;(conv=>whnf)
   (refine ⟨⟨by omega,by omega⟩,?_⟩;(conv=>whnf))
   refine ⟨opC o,hcl,rfl,?_⟩;(conv=>whnf);refine z3f fun r w5 hR=>?_;obtain ⟨po,us,e1,e2,e3⟩:=hR.own 0 _ rfl;obtain rfl:=ziw (us:=opC o) e3;have hB5:=hR.toBelow;have hpo:=zoh h5' (zoi hR e1);refine ⟨z6d [(8,pV p8),(10,pV g),(11,.map (some b1)),(12,.map (some b2)),(14,pV po),(46,.slice (some ⟨bb,off,none⟩) b.ops.length c3),(47,.int .i64 (b.ops.length:Int)),(48,.int .i64 (j:Int))],fun a' hf=>z6m ⟨z6k hf rfl,z6k hf rfl,z6k hf rfl,z6k hf rfl,z6i hf 14 rfl e1,z6k hf rfl,z6k hf rfl,z6k hf rfl,trivial⟩,?_⟩;have h5:=h5'.later hB5;have hl5:=hJ.later hB5;clear hR e3 h5';refine z25 ?_;refine z3i ?_;(conv=>whnf);refine ⟨_,zd1 (off:=0+0) e2 rfl,?_⟩;(conv=>whnf);refine z0d rfl o.code rfl (m1.block (hl5.blk m1.lt n1)) (fun hm=>by rcases hm with hm|hm<;>cases hm) rfl (yaf hok.code) ?_;(conv=>whnf);refine z3i ?_;(conv=>whnf);refine z23 rfl (fun hc=>?_) (fun hc=>?_)
   ·have hfp:=zn9 E XJ o hc
    refine z25 ?_;refine z3k (emG g vC5 vS5) (.q 0 (.q 1 (.q 2 (.q 4 (.q 5 (.q 6 (.alt 3 (.alt 7 (.q 8 (.q 9 .done)) .no) .no))))))) (fun w=>EmTo w5 w g vC5 vS5 XJ) (fun w hB=>EmTo.refl h5 hB) mixed zK zK ?_;(conv=>whnf);refine ⟨_,zp3 e2 hpo (k:=0+2) (x:= .int .i64 o.a) rfl,?_⟩;(conv=>whnf);refine ⟨_,zp3 e2 hpo (k:=0+3) (x:= .int .i64 o.b) rfl,?_⟩;(conv=>whnf);refine ⟨?_,trivial⟩;refine zr4 hp (by decide) o.a 10 hoF.a fun hp=>?_;(conv=>whnf);refine ⟨?_,trivial⟩;refine zr4 hp (by decide) o.b 11 hoF.b fun hp=>?_;(conv=>whnf);intro w6 _ hl;refine zcd ?_;refine z25 ?_;obtain ⟨vC6,vS6,h6,hn6,k6⟩:=hl.now2;have hb6:=hl.blkO e2 hpo;have hn6':=hn6 po (zpz e2) hpo;refine z3h (emG g vC6 vS6) (fun w=>EmTo w6 w g vC6 vS6 _) (fun w hB=>EmTo.refl h6 hB) ?_;(conv=>whnf);refine ⟨_,zp3 hb6 hn6' (k:=0+1) (x:= .int .i64 o.d) rfl,?_⟩;(conv=>whnf);refine zr5 hp o.d hoF.d ?_;(conv=>whnf);refine zr6 hp (by decide) ((zyr o.code).getD 0) (tgE E o.d) (rrE E o.a 10) (rrE E o.b 11) fun hp=>?_;(conv=>whnf);intro w7 _ hl7
    replace hl:=k6 _ _ hl7
    clear hl7 h6 k6 hb6 hn6 hn6';refine zcd ?_;refine z25 (z26 3 rfl rfl rfl ?_);(conv=>whnf);refine ⟨_,zd1 (off:=0+1) (hl.blkO e2 hpo) rfl,?_⟩;(conv=>whnf);refine zsc hl hp (by decide) o.d hoF.d fun hp w8 hl=>?_;(conv=>whnf);refine zcd ?_;refine z3m ?_;(conv=>whnf);refine zb7 (zb6 (zca () Tn fun r w9 hR=>?_));rw [hfp];simp only [zbj,List.append_assoc,List.cons_append,List.nil_append] at hl⊢;exact (k5 _ _ (hl.early hB5)).later hR.toBelow
   ·have hpn:zyr o.code=none:=by
     cases h:zyr o.code with
     |none=>rfl
     |some x=>rw [h] at hc;cases hc
    obtain ⟨fid,hf⟩:=zxi (zny (hfm o hom)).1 hpn;refine z3j (zcd ?_);refine z26 6 rfl rfl rfl ?_;(conv=>whnf);refine ⟨_,zd1 (off:=0+0) e2 rfl,?_⟩;(conv=>whnf);refine z0c rfl o.code (fid:Int) rfl (m2.block (hl5.blk m2.lt n2)) (fun hm=>by rcases hm with hm|hm<;>cases hm) rfl (yaf hok.code) hf ?_;(conv=>whnf);refine ⟨_,zd0 e2,rfl,?_⟩;(conv=>whnf);refine zsd (.tuple #[]) hl5 (us:=[opV o]) rfl (zxh hf) (fun w vC1 vS1 k1=>z1w k1 hp hEp hEz hwJ o hoF fid hf) fun w8 hl=>?_;(conv=>whnf);refine zb4 (zca () Tn fun r w9 hR=>?_);exact hl.later hR.toBelow
  ·refine z3m ?_
   (conv=>whnf);refine ⟨((j+1:Nat):Int),by rw [show (j:Int)+1=((j+1:Nat):Int) by omega];exact wr64 zO,?_⟩;(conv=>whnf);exact zcc ⟨j+1,by omega⟩ Tn (fun r w3 hR=>by dsimp only;rw [hnx];exact hl.later hR.toBelow) (by show b.ops.length-(j+1)<b.ops.length-j;omega)
 ·have hj:j=b.ops.length:=by simp at hc;omega
  subst hj;rw [List.take_length] at hJ;(conv=>whnf);refine zcf (zb6 (zcd ?_));obtain ⟨vC5,vS5,h5,hn5,_⟩:=hJ.now2;have hw:=yal b a ctx size;rw [hX,hEE] at hw;have e85:=hJ.blkO e8 h8n;have h85:=hn5 p8 (zpz e8) h8n;have hbw5:Below w.heap.size w w':=zdg hbw3 (zjf hJ hGw hz3) (Nat.le_refl _);generalize X1.opsTo E b.ops=XF at h5 hw;obtain ⟨AC,cC,rfl⟩:=z13 h5.code;obtain ⟨AS,cS,rfl⟩:=z13 h5.sites;have hwok:=yai (pred:=0) (a:=a) hb hv hctx hs yap;have hwl:=yah (a:=a) (ctx:=ctx) (size:=size) (pred:=0) hv
  have hvI:∀ i∈XF.code,z9h i=true∧i.ok:=fun i hi=>by
   rw [hw.1] at hi;obtain ⟨it,h1,rfl⟩:=List.mem_map.1 hi;exact hwok it h1
  have hlI:XF.code.length≤1000000000:=by rw [hw.1,List.length_map];omega
  have hnC:∀ x off,AC=some ⟨x,off,none⟩→x∉[p8]:=fun x off hx hm=>by
   subst hx;rw [List.mem_singleton] at hm;subst hm;exact h85 (zuh.2 (.inr (.inl rfl)))
  have hnS:∀ x off,AS=some ⟨x,off,none⟩→x∉[p8]:=fun x off hx hm=>by
   subst hx;rw [List.mem_singleton] at hm;subst hm;exact h85 (zuh.2 (.inr (.inr rfl)))
  have hg8:g∉(⟨[p8],[]⟩:Gs):=fun hm=>by
   rcases hm with hm|hm
   ·rw [List.mem_singleton] at hm
    exact h85 (zuh.2 (.inl hm.symm))
   ·cases hm
  refine z25 ?_;refine z3n 8 0 p8 rfl ⟨[p8],[]⟩ [.cells coT [.v (.string ⟨#[]⟩),.v (.slice none 0 0)]] fun r2 w6 hR2=>?_;have hB6:=hR2.toBelow;have h6:=h5.later hB6;have e86:=(hB6.block p8 (zpz e85)).trans e85;refine ⟨_,z1p (zvy e86),rfl,?_⟩;have hsC:=SlAt.of_own h6.code;have hsS:=SlAt.of_own h6.sites;have hbw6:=zdg hbw5 hB6 hbw5.size;clear hR2 hB6 e85 h5 hJ;refine z3m ?_;refine z2t (.q 0 (.q 1 (.q 2 (.q 3 (.q 5 (.q 6 (.q 7 (.q 8 (.alt 4 (.q 9 (.alt 10 (.q 11 .done) .no)) .no))))))))) mixed zK zK ?_;(conv=>whnf);refine ⟨_,zfq (zjj h6 (k:=1) (x:= .slice AC XF.code.length cC) rfl) (fun hm=>hg8 (znb.1 hm)),?_⟩;(conv=>whnf);refine ⟨_,zfq (zjj h6 (k:=2) (x:= .slice AS XF.sites.length cS) rfl) (fun hm=>hg8 (znb.1 hm)),?_⟩;(conv=>whnf);refine ⟨?_,trivial⟩;refine ze2 rfl zK (fun r w' hR=>z8s XF.code hvI AC cC hlI w' (z6a hR hsC hnC)) ?_;(conv=>whnf);refine ⟨?_,trivial⟩;(conv=>whnf);refine zcd ?_;refine z3m ?_;(conv=>whnf);refine zcg ?_;(conv=>whnf);refine ⟨fun r w9 u hR hd=>?_⟩;rw [AV.val_den (x:= .tuple #[.agg #[strV (z8p XF.code),.slice AS XF.sites.length cS],.int .i64 0]) rfl hd];have hsl:=z6a hR hsS hnS;rw [hw.1,z8r,hw.2];rw [hw.2] at hsl;refine ⟨⟨AS,cS,rfl,hsl⟩,zdg hbw6 (B1:=w.heap.size) ?_ (Nat.le_refl _)⟩;have hgr:=hR.growns
  exact ⟨hgr.os,hgr.tape,hgr.output,hgr.size,fun k hk=>hgr.block k (Nat.lt_of_lt_of_le hk hbw6.size) fun hm=>by
   rw [List.mem_singleton] at hm;omega⟩
end
end Go.Proofs.YtocafomnnkmjfaaGreat
