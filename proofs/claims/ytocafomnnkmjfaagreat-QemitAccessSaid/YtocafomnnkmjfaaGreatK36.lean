import Derived.Test.YtocafomnnkmjfaaGreatK35
set_option maxRecDepth 100000
set_option maxHeartbeats 2000000
namespace Go.Proofs.YtocafomnnkmjfaaGreat
open Go.RowKit
theorem z88:(Tryz.prog.fieldsOf 93).toList=[fld "Kind" 3 0 0,fld "Info" 41 1 8]:=by kernel_rfl
theorem z87 (a b:Int) (w:World):(Op.equalIn 10000 93 (.agg #[.int .i64 a,.int .u32 b]) (.agg #[.int .i64 a,.int .u32 b])).run Tryz.prog w= .ok true w:=by
 rw [run_equalIn_agg _ _ _ _ _ zK zK,z88];have p0:(part 3 #[.int .i64 a,.int .u32 b] 0).run Tryz.prog w= .ok (.int .i64 a) w:=run_part_plain w zK rfl;have p1:(part 41 #[.int .i64 a,.int .u32 b] 1).run Tryz.prog w= .ok (.int .u32 b) w:=run_part_plain w zK rfl;have e0:(Op.equalIn 9999 3 (.int .i64 a) (.int .i64 a)).run Tryz.prog w= .ok (a==a) w:=run_equalIn_int w 9998 _ _ _ a a Tryz.underlying3;have e1:(Op.equalIn 9999 41 (.int .u32 b) (.int .u32 b)).run Tryz.prog w= .ok (b==b) w:=run_equalIn_int w 9998 _ _ _ b b Tryz.underlying41
 rw [zkg (f:=fld "Kind" 3 0 0) (by simp [fld]) p0 p0 (e0.trans (by rw [beq_self_eq_true]))]
 rw [zkg (f:=fld "Info" 41 1 8) (by simp [fld]) p1 p1 (e1.trans (by rw [beq_self_eq_true]))]
 simp only [Op.eqFields,Sem.run_pure]
theorem z0g {w0:World} {G:Gs} {S:List Ow} {f:Fr} {o:Oper} {K:AV→Prop} {x y:Operand} {t':TypeId} (a b:Int) (hop:o.op= .binOp .eql 93 x y t') (hx:f.ev x= .p (.agg [.v (.int .i64 a),.v (.int .u32 b)])) (hy:f.ev y= .p (.agg [.v (.int .i64 a),.v (.int .u32 b)])) (hk:K (one (.bool true))):QRun Tryz.prog w0 G S f o K:=by
 refine ⟨_,hk,fun r c hf=>?_⟩;have h1:=hf.ev x;have h2:=hf.ev y;rw [hx] at h1;rw [hy] at h2;have e1:=AV.val_den (z9m [.int .i64 a,.int .u32 b]) h1;have e2:=AV.val_den (z9m [.int .i64 a,.int .u32 b]) h2;refine ⟨_,ziz _ _,fun w hR=>?_⟩;have hg:=run_eqGuard_agg (P:=Tryz.prog) w .eql 93 x y #[.int .i64 a,.int .u32 b] #[.int .i64 a,.int .u32 b] zK
 have hb:(binOp .eql 93 (.agg #[.int .i64 a,.int .u32 b]) (.agg #[.int .i64 a,.int .u32 b])).run Tryz.prog w= .ok (.bool true) w:=by
  rw [run_eql_struct,z87 a b];rfl
 simp [execOp,hop,e1,e2,hg,hb]
theorem z5v:∀ (l:List It) (n k:Nat) (it:It) (sk:Sk),l[k]?=some it→it.s=some sk→∃ idx,(z5y n l)[idx]?=some (z5t (n+k) sk)∧∀ (i:Nat) (s:SiteP),i<idx→(z5y n l)[i]?=some s→s.off<4*((n+k:Nat):Int)
 |[],n,k,it,sk,h,_=>by simp at h
 |x::l,n,0,it,sk,h,hs=>by
  have h:x=it:=(by simpa using h);subst h;refine ⟨0,?_,fun i s hi=>absurd hi (Nat.not_lt_zero i)⟩;unfold z5y;rw [hs];rfl
 |x::l,n,k+1,it,sk,h,hs=>by
  obtain ⟨idx,h1,h2⟩:=z5v l (n+1) k it sk (by simpa using h) hs;rw [show n+1+k=n+(k+1) by omega] at h1 h2;unfold z5y
  cases hx:x.s with
  |none=>exact ⟨idx,h1,h2⟩
  |some s0=>
   refine ⟨idx+1,h1,fun i s hi h3=>?_⟩
   match i with
   |0=>
    have h3:z5t n s0=s:=(by simpa using h3);subst h3;show 4*(n:Int)<_;omega
   |i+1=>exact h2 i s zO (by simpa using h3)
section
variable {w:World} {h c m:Nat} {ms:List Nat} {n p:Nat} {M:MemP} {base ctx size:Int}
theorem z7o (s:St) (hs:s.ok) (hdue:s.due=0) (hst:s.steps≤1000000) (ho:HoAt w h c m ms (stL s []) n p M base ctx size) (hM:M.ok n p) (k:Nat) (hk:k<100000) {R':Int→Int} {pc':Int} {M':MemP} (hit:zrk (z07 M.fet) k s.R s.pc M=some (R',pc',M')) {i:QI} (hi:z07 M.fet pc'=some i) (hstop:(i.op=48∧i.imm=0)∨(z7d i pc' R' M'=none∧23≤i.op∧i.op≤26))
  (tx:List Int) (l:List SiteP) (A:Option Addr) (cp:Nat) (hsl:SlAt w w.heap.size A (l.flatMap z5s)) (hA:∀ b off,A=some ⟨b,off,none⟩→b∉c::m::ms) (hll:l.length≤1000000) (idx:Nat) (si:SiteP) (hix:l[idx]?=some si) (hlt:∀ (j:Nat) (x:SiteP),j<idx→l[j]?=some x→x.off<si.off) (hoff:pc'=base+si.off) (hso:0≤si.off∧si.off<1000000) (hkind:(si.kind=3→i.op≠48)∧(i.op≠48→si.kind=3)):
  Calls Tryz.prog 30 #[pV h,.agg #[strV tx,.slice A l.length cp]] w fun e w'=>e= .returned (.tuple #[z5u si,.bool true])∧HoAt w' h c m ms (stL (stAt s (R',pc',M') k) []) n p M' base ctx size∧Held w ⟨[],c::m::ms⟩ w':=by
 refine zfg [pV h,.agg #[strV tx,.slice A l.length cp]] Tryz.func30 Tryz.ntmps30 rfl zS ?_;refine z3q ?_;(conv=>whnf);refine z3n fun r w1 hR=>?_;obtain ⟨px,us,e1,e2,e3⟩:=hR.own 0 _ rfl;obtain rfl:=zis (us:=[strV tx,.slice A l.length cp]) e3;obtain ⟨p4,us,f1,f2,f3⟩:=hR.own 1 _ rfl;obtain rfl:=zis (us:=[.int .i64 0,.int .i64 0,.int .i64 0,.int .u32 0,.int .u32 0,.int .i64 0]) f3;have hB1:=hR.toBelow;have hpx:=zoc hR e1;have hp4:=zoc hR f1;refine ⟨z6l [(0,pV h),(3,pV px),(4,pV p4)],fun a' hf=>z6u ⟨z6s hf rfl,z6q hf 3 rfl e1,z6q hf 4 rfl f1,trivial⟩,?_⟩
 have hne:px≠p4:=fun e=>by subst e;exact absurd (hR.inj 0 1 _ e1 f1) (by decide)
 have hfar:∀ b,w.heap.size≤b→b∉c::m::ms:=fun b hb hm=>by
  rcases List.mem_cons.1 hm with rfl|hm
  ·have:=zpt ho.cpu;omega
  ·have:=ho.mem.lt b hm;omega
 have hhn:h∉c::m::ms:=fun hm=>(List.mem_cons.1 hm).elim (fun e=>ho.hc e) ho.hm;have ho1:=ho.later hB1;clear hR e3 f3;refine z3e (z3f 4 rfl rfl rfl ?_);(conv=>whnf);refine ⟨_,zd1 (off:=0+0) ho1.host rfl,?_⟩;(conv=>whnf);refine ⟨by kernel_rfl,fun r w2 us' hR hd=>?_⟩;obtain rfl:=zcs (xs:=[pV c,.int .i64 100000]) rfl hd;have hB2:=hR.toBelow;have ho2:=ho1.later hB2
 refine (z2u s hs hdue hst ho2.cp hM k 100000 zO zO hit hi hstop).mono fun e w3 ⟨⟨inf,he,hinf⟩,hC3,hh3⟩=>⟨_,he,?_⟩
 have hh13:=zp1 (zpy (gs:=c::m::ms) hB2) hh3 fun b hb=> .inl hb
 have ho3:HoAt w3 h c m ms (stL (stAt s (R',pc',M') k) []) n p M' base ctx size:=⟨(zpu hh3 (zpt ho2.host) hhn).trans ho2.host,hC3.cpu,hC3.ul,hC3.mem,ho.hc,ho.hm,hC3.cm⟩
 have e23:=(zpu hh13 (zpt e2) (hfar px hpx)).trans e2;have f23:=(zpu hh13 (zpt f2) (hfar p4 hp4)).trans f2
 have hsl3:SlAt w3 w3.heap.size A (l.flatMap z5s):=fun j u hj=>by
  obtain ⟨b,off,eA,hb,hc⟩:=hsl j u hj;have hz1:=hB1.size;exact ⟨b,off,eA,Nat.lt_of_lt_of_le hb (Nat.le_trans hz1 hh13.size),(World.cell?_of_block ((zpu hh13 (by show b<_;omega) (hA b off eA)).trans (hB1.block b hb))).trans hc⟩
 clear hR hd hB2 ho1 ho2 hC3 hh3 e2 f2;generalize hkk:(if i.op=48 then (4:Int) else 5)=kk;(conv=>whnf);refine zcd ?_;refine z3n fun r w4 hR=>?_;obtain ⟨p6,us,g1,g2,g3⟩:=hR.own 0 _ rfl;obtain rfl:=zis (us:=[.int .i64 kk,.int .u32 inf]) g3;have hB4:=hR.toBelow;have hp6:=zoc hR g1;refine ⟨z6l [(0,pV h),(3,pV px),(4,pV p4),(6,pV p6)],fun a' hf=>z6u ⟨z6s hf rfl,z6s hf rfl,z6s hf rfl,z6q hf 6 rfl g1,trivial⟩,?_⟩;have ho4:=ho3.later hB4;have hsl4:SlAt w4 w4.heap.size A (l.flatMap z5s):=(hsl3.below hB4 (Nat.le_refl _)).more hB4.size;have e24:=(hB4.block px (zpt e23)).trans e23;have f24:=(hB4.block p4 (zpt f23)).trans f23;have hh14:=zp1 (gs1:=[]) hh13 (zpy hB4) nofun
 have h64:p6≠p4:=fun e=>by subst e;have:=zpt f23;omega
 clear hR g3 g1 hsl3 e23 f23 ho3 hB4 hh13;refine z3q ?_;refine z25 mixed zK ?_;(conv=>whnf);refine ⟨[strV tx,.slice A l.length cp],zd0 e24,rfl,?_⟩;(conv=>whnf);refine ⟨_,zd1 (off:=0+0) ho4.host rfl,?_⟩;(conv=>whnf);refine ⟨_,zd1 (off:=0+0+0) ho4.cpu (x:= .int .u32 pc') rfl,?_⟩;(conv=>whnf);refine ⟨_,zd1 (off:=0+1) ho4.host rfl,?_⟩;(conv=>whnf);refine ⟨si.off,by rw [hoff,wr32];omega,?_⟩;(conv=>whnf);refine ⟨si.off,wr64 zO,?_⟩;(conv=>whnf);refine z0c rfl zK (fun r w' hR=>zmk l (strV tx) A cp hll si.off idx ⟨si,hix,rfl⟩ (fun j x hj hx=>by have:=hlt j x hj hx;omega) w' ((hsl4.below hR.toBelow (Nat.le_refl _)).more hR.toBelow.size)) ?_;(conv=>whnf);refine z3e ?_;refine z3q ?_;(conv=>whnf);refine z3c rfl (fun hc=>absurd (of_decide_eq_true hc) zO) (fun _=>z3r (zcd ?_))
 have hil:idx<l.length:=by
  rcases Nat.lt_or_ge idx l.length with h1|h1
  ·exact h1
  ·rw [List.getElem?_eq_none h1] at hix;cases hix
 obtain ⟨bb,of2,rfl,hcl⟩:=zfv hsl4 hix
 refine z3q ?_
 conv=>whnf
 refine ⟨_,zd1 (off:=0+1) e24 rfl,?_⟩
 conv=>whnf
 (refine ⟨⟨by omega,by omega⟩,?_⟩;(conv=>whnf))
 refine ⟨z5s si,hcl,rfl,?_⟩;(conv=>whnf);refine z3n fun r w5 hR=>?_;obtain ⟨p8,us,b1,b2,b3⟩:=hR.own 0 _ rfl;obtain rfl:=zis (us:=z5s si) b3;have hB5:=hR.toBelow;have hp8:=zoc hR b1;refine ⟨z6l [(0,pV h),(4,pV p4),(6,pV p6),(8,pV p8)],fun a' hf=>z6u ⟨z6s hf rfl,z6s hf rfl,z6s hf rfl,z6q hf 8 rfl b1,trivial⟩,?_⟩;have ho5:=ho4.later hB5;have f25:=(hB5.block p4 (zpt f24)).trans f24;have g25:=(hB5.block p6 (zpt g2)).trans g2;have hh15:=zp1 (gs1:=[]) hh14 (zpy hB5) nofun
 have h84:p8≠p4:=fun e=>by subst e;have:=zpt f24;omega
 have n64:p6∉Gs.flat ⟨[p4],[]⟩:=fun hm=>by
  rcases zm5.1 hm with hm|hm
  ·exact h64 (List.mem_singleton.1 hm)
  ·cases hm
 have n84:p8∉Gs.flat ⟨[p4],[]⟩:=fun hm=>by
  rcases zm5.1 hm with hm|hm
  ·exact h84 (List.mem_singleton.1 hm)
  ·cases hm
 have b25:=b2;clear hR b3 b1 hsl4 e24 f24 ho4 hh14 hcl hB5
 have hfin:∀ (r:Env) (w6 w9:World) (S:List Ow),HoAt w6 h c m ms (stL (stAt s (R',pc',M') k) []) n p M' base ctx size→Held w1 ⟨[],c::m::ms⟩ w6→Rel w6 ⟨[p4],[]⟩ S r w9→HoAt w9 h c m ms (stL (stAt s (R',pc',M') k) []) n p M' base ctx size∧Held w ⟨[],c::m::ms⟩ w9:=fun r w6 w9 S ho6 hh16 hR=>by
  have hgr:=hR.growns;have h4c:p4∉c::m::ms:=hfar p4 hp4;have hz1:=hB1.size;have hz6:=hh16.size;refine ⟨⟨(hgr.block h (zpt ho6.host) fun hm=>?_).trans ho6.host,(hgr.block c (zpt ho6.cpu) fun hm=>h4c (by rw [← List.mem_singleton.1 hm];exact List.mem_cons_self ..)).trans ho6.cpu,ho6.ul,ObjsAt.later (zt6 n p M') ho6.mem hgr.size fun b hb=>hgr.block b (ho6.mem.lt b hb) fun hm=>h4c (by rw [← List.mem_singleton.1 hm];exact List.mem_cons_of_mem _ hb),ho6.hc,ho6.hm,ho6.cm⟩,?_⟩
  ·rw [List.mem_singleton] at hm
   have:=zpt ho.host;omega
  ·exact ⟨hgr.os.trans (hh16.os.trans hB1.os),hgr.tape.trans (hh16.tape.trans hB1.tape),hgr.output.trans (hh16.output.trans hB1.output),Nat.le_trans hz1 (Nat.le_trans hz6 hgr.size),fun b hb hn=>(hgr.block b zO fun hm=>by rw [List.mem_singleton] at hm;omega).trans ((zpu hh16 zO fun hm=>hn (.inr hm)).trans (hB1.block b hb))⟩
 refine z3e ?_;refine z3q ?_;(conv=>whnf);refine ⟨_,zd1 (off:=0+1) b2 rfl,?_⟩;(conv=>whnf);refine z3c rfl (fun hc=>?_) (fun hc=>?_)
 ·have hk3:si.kind=3:=of_decide_eq_true hc
  have hk5:kk=5:=by rw [← hkk,if_neg (hkind.1 hk3)]
  subst hk5
  ·refine z3e ?_
   refine z3v 4 0 p4 rfl ⟨[p4],[]⟩ [.cells siT [.v (.int .i64 0),.v (.int .i64 0),.v (.int .i64 0),.v (.int .u32 0),.v (.int .u32 0),.v (.int .i64 0)]] fun r w6 hR6=>?_;have hB6:=hR6.toBelow;have f26:=(hB6.block p4 (zpt f25)).trans f25;have g26:=(hB6.block p6 (zpt g25)).trans g25;have b26:=(hB6.block p8 (zpt b25)).trans b25;have ho6:=ho5.later hB6;have hh16:=zp1 (gs1:=[]) hh15 (zpy hB6) nofun;refine ⟨_,z1x (zv2 f26),rfl,?_⟩;refine z3u ?_;refine z23 (.q 0 (.q 1 (.q 2 (.q 3 (.alt 4 (.q 5 .done) .no))))) mixed zK zK ?_;(conv=>whnf);refine ⟨z5s si,zfo (zd0 b26) n84,rfl,?_⟩;(conv=>whnf);refine ⟨_,zd2 (off:=0+0) g26 n64 rfl,?_⟩;(conv=>whnf);refine ⟨?_,trivial⟩;(conv=>whnf);refine zcd ?_;refine z3u ?_;(conv=>whnf);refine zcl (zcg ?_);(conv=>whnf);refine ⟨fun r2 w9 u hR hd=>?_⟩;rw [AV.val_den (x:= .tuple #[z5u si,.bool true]) rfl hd];obtain ⟨q1,q2⟩:=hfin r2 w6 w9 _ ho6 hh16 hR;exact ⟨rfl,q1,q2⟩
 ·have hk3:¬si.kind=3:=of_decide_eq_false hc
  have h48:i.op=48:=Classical.byContradiction fun h=>hk3 (hkind.2 h);have hk4:kk=4:=(by rw [← hkk,if_pos h48]);have hi0:=hinf h48;subst hk4;subst hi0;refine z3r (zcd ?_)
  ·refine z3e ?_
   refine z3v 4 0 p4 rfl ⟨[p4],[]⟩ [.cells siT [.v (.int .i64 0),.v (.int .i64 0),.v (.int .i64 0),.v (.int .u32 0),.v (.int .u32 0),.v (.int .i64 0)]] fun r w6 hR6=>?_;have hB6:=hR6.toBelow;have f26:=(hB6.block p4 (zpt f25)).trans f25;have g26:=(hB6.block p6 (zpt g25)).trans g25;have b26:=(hB6.block p8 (zpt b25)).trans b25;have ho6:=ho5.later hB6;have hh16:=zp1 (gs1:=[]) hh15 (zpy hB6) nofun;refine ⟨_,z1x (zv2 f26),rfl,?_⟩;refine z3u ?_;refine z23 (.q 0 (.q 1 (.q 2 (.q 3 (.alt 4 (.q 5 .done) .no))))) mixed zK zK ?_;(conv=>whnf);refine ⟨z5s si,zfo (zd0 b26) n84,rfl,?_⟩;(conv=>whnf);refine ⟨[.int .i64 4,.int .u32 0],zfo (zd0 g26) n64,rfl,?_⟩;(conv=>whnf);refine z0g 4 0 rfl rfl rfl ?_;(conv=>whnf);refine ⟨?_,trivial⟩;(conv=>whnf);refine zcd ?_;refine z3u ?_;(conv=>whnf);refine zcg ?_;(conv=>whnf);refine ⟨fun r2 w9 u hR hd=>?_⟩;rw [AV.val_den (x:= .tuple #[z5u si,.bool true]) rfl hd];obtain ⟨q1,q2⟩:=hfin r2 w6 w9 _ ho6 hh16 hR;exact ⟨rfl,q1,q2⟩
end
theorem zs9 (a:List Int):∀ (j v:Nat),(zs6 a j).testBit v=true↔v<j∧0≤getV a (v:Int)
 |0,v=>by show (0:Nat).testBit v=true↔_;rw [Nat.zero_testBit];simp
 |j+1,v=>by
  have ih:=zs9 a j v;show (if 0≤getV a (j:Int) then zs6 a j|||2^j else zs6 a j).testBit v=true↔_;by_cases hv:v=j
  ·subst hv
   by_cases h0:0≤getV a (v:Int)
   ·rw [if_pos h0,Nat.testBit_or,Nat.testBit_two_pow_self,Bool.or_true]
    exact ⟨fun _=>⟨by omega,h0⟩,fun _=>rfl⟩
   ·rw [if_neg h0,ih]
    exact ⟨fun h=>absurd h.1 zO,fun h=>absurd h.2 h0⟩
  ·have e:(if 0≤getV a (j:Int) then zs6 a j|||2^j else zs6 a j).testBit v=(zs6 a j).testBit v:=by
    split
    ·rw [Nat.testBit_or,Nat.testBit_two_pow_of_ne zO,Bool.or_false]
    ·rfl
   rw [e,ih];exact ⟨fun h=>⟨by omega,h.2⟩,fun h=>⟨by omega,h.2⟩⟩
def ctxW (vs:List Int) (steps limit:Int) (i:Nat):Int:=if i=28 then steps else if i=29 then limit else if i<19 then getV vs (i:Int) else ((i:Int)*77777)%4294967296
def ctxL (vs:List Int) (steps limit:Int):List Int:=(List.range 64).map (ctxW vs steps limit)
theorem zhr (vs:List Int) (steps limit:Int):(ctxL vs steps limit).length=64:=by unfold ctxL;rw [List.length_map,List.length_range]
theorem zhq {vs:List Int} {steps limit:Int} {i:Nat} (h:i<64):(ctxL vs steps limit)[i]?=some (ctxW vs steps limit i):=by
 unfold ctxL;rw [List.getElem?_map,List.getElem?_range h];rfl
theorem zht {vs:List Int} {steps limit:Int} (hv:VarsOk vs) (hs:word steps) (hl:word limit) (i:Nat):word (ctxW vs steps limit i):=by
 unfold ctxW
 split
 ·exact hs
 ·split
  ·exact hl
  ·split
   ·exact zoj hv _
   ·exact ya2 _
theorem zhs {vs:List Int} {steps limit:Int} (hv:VarsOk vs) (hs:word steps) (hl:word limit):∀ x∈ctxL vs steps limit,word x:=fun x hx=>by
 obtain ⟨i,_,rfl⟩:=List.mem_map.1 hx;exact zht hv hs hl i
theorem zqp {g M:MemP} {G P base:Nat} {vs code:List Int} {steps limit:Int} (hg:g.ok (256*G) G) (hG1:1≤G) (hGP:G<P) (hv:VarsOk vs) (hs:word steps) (hl:word limit) (h:HostIs g M G P base (ctxL vs steps limit) code):HostE G (256*P) P vs g M steps limit:=by
 have hc:=fun (i:Nat) (hi:i<64)=>h.ctx i _ (zhq hi) (zht hv hs hl i);have hP:=h.ok.pmax;refine ⟨hv,h.ok,hg,hGP,fun v v0 v1=>?_,?_,?_,h.guest,fun y r y0 y1 hr=>?_,fun y y0 y1 r hr=>?_⟩
 ·have h1:=hc v.toNat zO
  rw [show ((v.toNat:Nat):Int)=v by omega] at h1;rw [h1];unfold ctxW;rw [if_neg zO,if_neg zO,if_pos zO,show ((v.toNat:Nat):Int)=v by omega]
 ·exact hc 28 zO
 ·exact hc 29 zO
 ·have hq:(y/256).toNat<G:=by omega
  have h1:=h.grr (y/256).toNat hq
  have hra:=z19 hg (y/256).toNat
  unfold MemP.right;rw [h1,h.ok.ld,hg.ld];have e1:decide (y<((256*P:Nat):Int))=true:=decide_eq_true zO;have e2:decide (y<((256*G:Nat):Int))=true:=decide_eq_true zO;rw [e1,e2,Bool.true_and,Bool.true_and];have e3:(g.rights[(y/256).toNat]?).getD 0=g.rightsAt (y/256).toNat:=rfl;rw [e3];generalize g.rightsAt (y/256).toNat=x at hra⊢;show ((x%4)/r%2==1)=(x/r%2==1);rcases hr with rfl|rfl
  ·rw [show x%4/1%2=x/1%2 by omega]
  ·rw [show x%4/2%2=x/2%2 by omega]
 ·unfold MemP.right
  rw [h.ok.ld,show (y/256).toNat=G by omega,h.crr];have e1:decide (y<((256*P:Nat):Int))=true:=decide_eq_true zO;rw [e1]
  rcases hr with rfl|rfl<;>rfl
theorem zqf (junk:Int) (k:Nat):∀ j,0≤j→j<16→word (zqd junk k j):=fun j _ _=>by
 unfold zqd
 split
 ·exact ya2 _
 ·exact yax
theorem zqg (junk:Int) (k:Nat):zqd junk k 0=0:=by unfold zqd;rw [if_neg zO]
theorem zlp {i:QI} {R:Int→Int} {M:MemP} (h:zlo i R M) (pc:Int):z7d i pc R M=none:=by
 obtain ⟨h1,h2,h3⟩:=h;unfold z7d
 have hq:zz3 i.op=0:=by
  rcases (by omega:i.op=23∨i.op=24∨i.op=25∨i.op=26) with h|h|h|h<;>rw [h]<;>rfl
 rw [if_neg zO,if_neg (by rw [hq];simp),if_neg zO];rcases (by omega:i.op=23∨i.op=24∨i.op=25∨i.op=26) with h|h|h|h
 ·rw [if_pos h]
  rw [if_pos zO,if_pos zO] at h3
  cases hb:M.bad ((R i.a+i.imm)%4294967296) 1 0 4 with
  |none=>exact absurd hb h3
  |some x=>rfl
 ·rw [if_neg zO,if_pos h]
  rw [if_pos zO,if_neg zO] at h3
  cases hb:M.bad ((R i.a+i.imm)%4294967296) 1 0 1 with
  |none=>exact absurd hb h3
  |some x=>rfl
 ·rw [if_neg zO,if_neg zO,if_pos h]
  rw [if_neg zO,if_pos zO] at h3
  cases hb:M.bad ((R i.a+i.imm)%4294967296) 2 0 4 with
  |none=>exact absurd hb h3
  |some x=>rfl
 ·rw [if_neg zO,if_neg zO,if_neg zO,if_pos h]
  rw [if_neg zO,if_neg zO] at h3
  cases hb:M.bad ((R i.a+i.imm)%4294967296) 2 0 1 with
  |none=>exact absurd hb h3
  |some x=>rfl
structure AgrR (b:Blk) (a:List Int) (G:Nat) (vs:List Int) (gm:MemP) (steps limit:Int) (sk:Sk) (R':Int→Int) (M':MemP):Prop where
 lim:limit<(steps+lenE b)%4294967296→sk.kind=1∧(∀ y,0≤y→y<256*(G:Int)→M'.get y=gm.get y)∧∀ i:Nat,i<64→M'.load (cxE G (i:Int)) 0 4=ctxW vs steps limit i
 guest:¬limit<(steps+lenE b)%4294967296→∀ y,0≤y→y<256*(G:Int)→M'.get y=(zkq b vs gm).mem.get y
 count:¬limit<(steps+lenE b)%4294967296→M'.load (cxE G 28) 0 4=(steps+lenE b)%4294967296∧M'.load (cxE G 29) 0 4=limit
 vars:¬limit<(steps+lenE b)%4294967296→∀ v:Nat,v<19→(if sk.live.toNat.testBit v=true∧0≤getV a (v:Int)∧getV a (v:Int)<9 then R' (getV a (v:Int)+1) else M'.load (cxE G (v:Int)) 0 4)=getV (zkq b vs gm).out.vars (v:Int)∧((zkq b vs gm).out.leaves=false→M'.load (cxE G (v:Int)) 0 4=getV (zkq b vs gm).out.vars (v:Int))
 rest:¬limit<(steps+lenE b)%4294967296→∀ i:Nat,38≤i→i<64→M'.load (cxE G (i:Int)) 0 4=ctxW vs steps limit i
 leaves:¬limit<(steps+lenE b)%4294967296→(zkq b vs gm).out.leaves=true→(sk.kind=2∨sk.kind=3)∧sk.index=(zkq b vs gm).out.index
 ends:¬limit<(steps+lenE b)%4294967296→(zkq b vs gm).out.leaves=false→((sk.kind=4∨sk.kind=6)∧sk.target=(zkq b vs gm).out.pc)∨(sk.kind=5∧M'.load (cxE G 19) 0 4=(zkq b vs gm).out.pc)
theorem zpd {vs:List Int} (h:VarsOk vs) {v:Nat} (hv:v<19):getV (zpa vs) (v:Int)=getV vs (v:Int):=by
 unfold getV zpa;rw [Int.toNat_natCast,List.getElem?_append_left (by rw [List.length_take,h.len];omega),List.getElem?_take,if_pos hv]
theorem z7k {sk:Sk}:(zqv sk).i.op=48∧(zqv sk).i.imm=0:=⟨rfl,rfl⟩
theorem zqq {b:Blk} {a:List Int} {G P base:Nat} {vs:List Int} {gm:MemP} {steps limit junk:Int} (hb:b.ok) (hv:z9o b=true) (hA:AlOk a) (hG:1≤G) (hg:gm.ok (256*G) G) (hvs:VarsOk vs) (hs:word steps) (hl:word limit)
  (hGP:G<P) (hP:P≤4096) (hb0:base%4=0) (hb1:256*(G+1)≤base) (hb2:base+4*(yao b a (256*(G:Int)) (256*(G:Int)) 0).length≤256*P) {M0:MemP} (hM0:M0=zp7 gm G P base (ctxL vs steps limit) (z8v (yao b a (256*(G:Int)) (256*(G:Int)) 0))):
  ∃ (k:Nat) (R':Int→Int) (pc':Int) (M':MemP) (j:Nat) (it:It) (sk:Sk),k<100000∧zrk (z07 M0.fet) k (zqd junk 16) (base:Int) M0=some (R',pc',M')∧z07 M0.fet pc'=some it.i∧((it.i.op=48∧it.i.imm=0)∨(z7d it.i pc' R' M'=none∧23≤it.i.op∧it.i.op≤26))∧
   (yao b a (256*(G:Int)) (256*(G:Int)) 0)[j]?=some it∧it.s=some sk∧pc'=(base:Int)+4*(j:Int)∧((sk.kind=3→it.i.op≠48)∧(it.i.op≠48→sk.kind=3))∧M'.ok (256*P) P∧AgrR b a G vs gm steps limit sk R' M':=by
 have hwk:=yaq (a:=a) (ctx:=256*(G:Int)) (size:=256*(G:Int)) (pred:=0) hb hv (by unfold word;omega) zO yax;have hwl:=yap (a:=a) (ctx:=256*(G:Int)) (size:=256*(G:Int)) (pred:=0) hv;have hln:=(z9y hv).2;have hwp:∀ x∈z8v (yao b a (256*(G:Int)) (256*(G:Int)) 0),0≤x∧x<256:=ya7 _;have htl:=z8w (yao b a (256*(G:Int)) (256*(G:Int)) 0)
 have his:HostIs gm M0 G P base (ctxL vs steps limit) (z8v (yao b a (256*(G:Int)) (256*(G:Int)) 0)):=by
  rw [hM0];exact zqs hg hGP hP (zhr _ _ _) hwp hb1 (by rw [htl];exact hb2)
 have hE:=zqp hg hG hGP hvs hs hl his;have hc:=zqr his hwk hb0 hb1 hb2 zO;have hctx:=fun (i:Nat) (hi:i<64)=>his.ctx i _ (zhq (vs:=vs) (steps:=steps) (limit:=limit) hi) (zht hvs hs hl i);have hM0k:=his.ok;clear hM0 his;generalize hLe:yao b a (256*(G:Int)) (256*(G:Int)) 0=l at*;have hp0:pcE (base:Int) 0=(base:Int):=(by unfold pcE;omega);have hrun:=yav (F:=z07 M0.fet) (B:=(base:Int)) (R:=zqd junk 16) hb hv hA (pred:=0) yax hG hE zO (zqf junk 16) (zqg junk 16) (by rw [hLe];exact hc);rw [hLe] at hrun;obtain ⟨q1,q2⟩:=hrun
 have hat:∀ (j:Nat) (it:It),l[j]?=some it→z07 M0.fet (pcE (base:Int) j)=some it.i:=fun j it hj=>by
  have:=hc.2 j it hj;rw [Nat.zero_add] at this;exact this
 by_cases hlim:limit<(steps+lenE b)%4294967296
 ·obtain ⟨h6,R',k,hk,hit⟩:=q1 hlim
  rw [hp0] at hit;refine ⟨k,R',pcE (base:Int) 6,M0,6,_,⟨1,0,0,0,0⟩,by omega,hit,hat 6 _ h6,.inl z7k,h6,rfl,rfl,⟨fun h=>absurd h (by decide),fun h=>absurd z7k.1 h⟩,hM0k,?_⟩;exact ⟨fun _=>⟨rfl,hE.guest,hctx⟩,fun h=>absurd hlim h,fun h=>absurd hlim h,fun h=>absurd hlim h,fun h=>absurd hlim h,fun h=>absurd hlim h,fun h=>absurd hlim h⟩
 ·obtain ⟨vs',hov,hvk,hcode⟩:=q2 hlim
  generalize hS:(steps+lenE b)%4294967296=S at*;have hSw:word S:=(by rw [← hS];exact ya2 _);have hnn:=hM0k.pmax;have hcx28:0≤cxE G 28∧cxE G 28+4≤(256*P:Nat):=(by unfold cxE;omega);have hst:=fun y hy=>z7w hcx28.1 zO 0 4 S hM0k hSw.1 zO y hy
  have htop:∀ {M':MemP},(∀ y,256*(G:Int)+112≤y→M'.get y=(MemP.store (cxE G 28) 0 4 S M0).get y)→M'.load (cxE G 28) 0 4=S∧∀ i:Nat,29≤i→i<64→M'.load (cxE G (i:Int)) 0 4=ctxW vs steps limit i:=fun {M'} hkeep=>by
   refine ⟨?_,fun i h1 h2=>?_⟩
   ·rw [ztd (N:=MemP.store (cxE G 28) 0 4 S M0) hcx28.1 0 4 (by unfold cxE;omega) fun y h3 h4=>hkeep y (by unfold cxE at h3;omega)]
    exact ztg hM0k zO hcx28.1 hcx28.2 hSw
   ·rw [← hctx i h2]
    refine ztd (by unfold cxE;omega) 0 4 (by unfold cxE;omega) fun y h3 h4=>?_;rw [hkeep y (by unfold cxE at h3;omega),hst y (by unfold cxE at h3;omega),if_neg (by unfold cxE at*;omega)]
  have hw29:ctxW vs steps limit 29=limit:=rfl;by_cases hleave:(zkq b vs gm).out.leaves=true
  ·rw [if_pos hleave] at hcode
   obtain ⟨κ,j,it,R',M',hj,⟨k,hk,hit⟩,hrel,hs2,hcase⟩:=hcode;rw [hp0,Nat.zero_add] at hit;obtain ⟨t1,t2⟩:=htop hrel.keep;have hkap:κ=2∨κ=3:=hcase.imp (fun h=>h.1) fun h=>h.1;have hpcj:pcE (base:Int) j=(base:Int)+4*(j:Int):=rfl
   have hstop:(it.i.op=48∧it.i.imm=0)∨(z7d it.i (pcE (base:Int) j) R' M'=none∧23≤it.i.op∧it.i.op≤26):=by
    rcases hcase with ⟨_,rfl⟩|⟨_,hf⟩
    ·exact .inl z7k
    ·exact .inr ⟨zlp hf _,hf.1,hf.2.1⟩
   have hkind:(κ=3→it.i.op≠48)∧(it.i.op≠48→κ=3):=by
    rcases hcase with ⟨h2,rfl⟩|⟨h3,hf⟩
    ·exact ⟨fun h=>by omega,fun h=>absurd z7k.1 h⟩
    ·exact ⟨fun _=>by have:=hf.2.1;omega,fun _=>h3⟩
   refine ⟨k,R',_,M',j,it,skIn (emE b a (256*(G:Int)) 0) κ (zkq b vs gm).out.index,by omega,hit,hat j it hj,hstop,hj,hs2,hpcj,hkind,hrel.mem,?_⟩;rw [← hS] at t1;refine ⟨fun h=>absurd (show limit<S by rw [← hS];exact h) hlim,fun _ y y0 y1=>hrel.guest y y0 y1,fun _=>⟨t1,(t2 29 zO zO).trans hw29⟩,fun _ v hv19=>⟨?_,fun h=>by rw [hleave] at h;cases h⟩,fun _ i h1 h2=>t2 i zO h2,fun _ _=>⟨hkap,rfl⟩,fun _ h=>by rw [hleave] at h;cases h⟩;rw [hov,zpd hvk hv19]
   have hkn:zsq 0 (v:Int):=⟨by omega,by omega,by omega,.inl zO⟩
   rw [show (skIn (emE b a (256*(G:Int)) 0) κ (zkq b vs gm).out.index).live.toNat=zs6 a 19 from Int.toNat_natCast _];by_cases hbit:0≤getV a (v:Int)
   ·have h9:=(hA.lo (v:Int) zO zO).2
    rw [if_pos ⟨(zs9 a 19 v).2 ⟨hv19,hbit⟩,hbit,h9⟩];exact hrel.inR (v:Int) hkn hbit
   ·rw [if_neg fun h=>hbit h.2.1]
    exact hrel.inM (v:Int) hkn (by show getV a (v:Int)<0;omega)
  ·rw [if_neg hleave] at hcode
   obtain ⟨j,it,R',M',hj,⟨k,hk,hit⟩,hrel,hwords,hcase⟩:=hcode;rw [hp0,Nat.zero_add] at hit;obtain ⟨t1,t2⟩:=htop hrel.keep;have hpcj:pcE (base:Int) j=(base:Int)+4*(j:Int):=rfl
   obtain ⟨sk,rfl,hl0,hk3,hend⟩:∃ sk,it=zqv sk∧sk.live=0∧sk.kind≠3∧(((sk.kind=4∨sk.kind=6)∧sk.target=(zkq b vs gm).out.pc)∨(sk.kind=5∧M'.load (cxE G 19) 0 4=(zkq b vs gm).out.pc)):=by
    rcases hcase with rfl|⟨rfl,hpc⟩|⟨rfl,_,h19⟩
    ·exact ⟨_,rfl,rfl,(by decide:(4:Int)≠3),.inl ⟨.inl rfl,rfl⟩⟩
    ·exact ⟨_,rfl,rfl,(by decide:(6:Int)≠3),.inl ⟨.inr rfl,hpc.symm⟩⟩
    ·exact ⟨_,rfl,rfl,(by decide:(5:Int)≠3),.inr ⟨rfl,h19⟩⟩
   refine ⟨k,R',_,M',j,zqv sk,sk,by omega,hit,hat j _ hj,.inl z7k,hj,rfl,hpcj,⟨fun h=>absurd h hk3,fun h=>absurd z7k.1 h⟩,hrel.mem,?_⟩;rw [← hS] at t1;refine ⟨fun h=>absurd (show limit<S by rw [← hS];exact h) hlim,fun _ y y0 y1=>hrel.guest y y0 y1,fun _=>⟨t1,(t2 29 zO zO).trans hw29⟩,fun _ v hv19=>?_,fun _ i h1 h2=>t2 i zO h2,fun _ h=>absurd h hleave,fun _ _=>hend⟩;have hwv:=hwords (v:Int) zO zO;rw [hov,zpd hvk hv19,hl0];refine ⟨?_,fun _=>hwv⟩;rw [if_neg fun h=>by have h1:=h.1;rw [show (0:Int).toNat=0 from rfl,Nat.zero_testBit] at h1;exact Bool.noConfusion h1];exact hwv
section
abbrev cxT:TypeId:=64
abbrev vaT:TypeId:=42
def ctxF (f:Nat→Int):List Int:=(List.range 64).map f
theorem zhn (f:Nat→Int):(ctxF f).length=64:=by unfold ctxF;rw [List.length_map,List.length_range]
theorem zhm (f:Nat→Int) {i:Nat} (h:i<64):(ctxF f)[i]?=some (f i):=by unfold ctxF;rw [List.getElem?_map,List.getElem?_range h];rfl
theorem zho (f g:Nat→Int) {k:Nat} (hk:k<64) (x:Int) (hg:∀ i,i<64→g i=if i=k then x else f i):(ctxF f).set k x=ctxF g:=by
 refine List.ext_getElem? fun i=>?_;rw [List.getElem?_set,zhn];by_cases h:i<64
 ·rw [zhm g h,hg i h,zhm f h]
  by_cases hik:k=i
  ·subst hik;rw [if_pos rfl,if_pos h,if_pos rfl]
  ·rw [if_neg hik,if_neg (fun e=>hik e.symm)]
 ·rw [if_neg zO,List.getElem?_eq_none (by rw [zhn];omega),List.getElem?_eq_none (by rw [zhn];omega)]
def cxA (j:Nat) (i:Nat):Int:=if i<j then ((i:Int)*77777)%4294967296 else 0
def cxB (vs:List Int) (j:Nat) (i:Nat):Int:=if i<j then getV vs (i:Int) else ((i:Int)*77777)%4294967296
def cxC (vs:List Int) (steps:Int) (i:Nat):Int:=if i=28 then steps else cxB vs 19 i
theorem zh0 (f:Nat→Int):(List.map CV.v (u32L (ctxF f))).length=64:=by rw [List.length_map,List.length_map,zhn]
theorem zh1 (f g:Nat→Int) {k:Nat} (hk:k<64) (x:Int) (hg:∀ i,i<64→g i=if i=k then x else f i):z38 (List.map CV.v (u32L (ctxF f))) (0+((k:Nat):Int).toNat*tsz Tryz.prog 41) [CV.v (Value.int .u32 x)]=List.map CV.v (u32L (ctxF g)):=by
 rw [z4p, ← zho f g hk x hg];rw [show tsz Tryz.prog 41=1 from rfl,Nat.zero_add,Nat.mul_one,Int.toNat_natCast];unfold u32L;simp only [List.map_set]
theorem zhp (vs:List Int) (steps limit:Int):ctxF (fun i=>if i=29 then limit else cxC vs steps i)=ctxL vs steps limit:=by
 unfold ctxF ctxL;refine List.map_congr_left fun i _=>?_;unfold ctxW cxC cxB;by_cases h1:i=29
 ·rw [if_pos h1,if_neg zO,if_pos h1]
 ·rw [if_neg h1]
  by_cases h2:i=28
  ·rw [if_pos h2,if_pos h2]
  ·rw [if_neg h2,if_neg h2,if_neg h1]
theorem zh2:List.map CV.v (u32L (List.replicate 64 0))=List.map CV.v (u32L (ctxF (cxA 0))):=rfl
attribute [local irreducible] ctxF
theorem zg2 (vs:List Int) (steps limit:Int) (hvs:VarsOk vs) (w:World):Calls Tryz.prog 29 #[yaf vs,.int .u32 steps,.int .u32 limit] w fun e w'=>e= .returned (.agg (u32L (ctxL vs steps limit)).toArray)∧Below w.heap.size w w':=by
 obtain ⟨C,hC⟩:∃ C,C=ctxL vs steps limit:=⟨_,rfl⟩
 refine zfg [yaf vs,.int .u32 steps,.int .u32 limit] Tryz.func29 Tryz.ntmps29 rfl zS ?_;refine z3q ?_;(conv=>whnf);refine z3q ?_;(conv=>whnf);refine z3k (α:=Unit) (fun _=>[(1,one (.int .u32 steps)),(2,one (.int .u32 limit)),(3,.p (.c (.ref 0 0))),(6,.p (.c (.ref 1 0))),(7,.p (.c (.ref 2 0)))]) (fun _=>[.cells vaT (yad vs),.cells cxT ((u32L (List.replicate 64 0)).map .v),.cells cxT ((u32L (ctxF (cxA 64))).map .v)]) ?_ fun _=>?_
 ·refine z3q ?_
  (conv=>whnf);refine z3b ?_;refine z3h (α:={j:Nat//j≤64}) (fun x=>[(1,one (.int .u32 steps)),(2,one (.int .u32 limit)),(3,.p (.c (.ref 0 0))),(6,.p (.c (.ref 1 0))),(7,.p (.c (.ref 2 0))),(8,one (.int .i64 (x.1:Int)))]) (fun x=>[.cells vaT (yad vs),.cells cxT ((u32L (List.replicate 64 0)).map .v),.cells cxT ((u32L (ctxF (cxA x.1))).map .v)]) (fun x=>64-x.1) ⟨0,by omega⟩ (zj7 rfl Tn (aI sM (aI sM (aI ((aI rfl (Or.inl zh2))) trivial)))) (fun x=>?_);obtain ⟨j,hj⟩:=x;dsimp only;refine z3q ?_;(conv=>whnf);refine ⟨fun hc=>?_,fun hc=>?_⟩
  ·have hlt:j<64:=by simp at hc;omega
   (conv=>whnf);refine z3e (z3b ?_);refine z3u ?_;(conv=>whnf);refine ⟨(j:Int),by rw [wr32];omega,?_⟩;(conv=>whnf);refine ⟨((j:Int)*77777)%4294967296,wr32 _,?_⟩;(conv=>whnf)
   (refine ⟨⟨by omega,by omega⟩,?_⟩;(conv=>whnf))
   rw [show Nat.ble (0+((j:Nat):Int).toNat*tsz Tryz.prog 41+[CV.v (Value.int .u32 (((j:Int)*77777)%4294967296))].length) (List.map CV.v (u32L (ctxF (cxA j)))).length=true from Nat.ble_eq_true_of_le (by rw [zh0];show 0+j*1+1≤64;omega)];(conv=>whnf);rw [show Nat.ble (List.map CV.v (u32L (ctxF (cxA j)))).length 8=false from zdy (by rw [zh0];decide)];(conv=>whnf);refine zcm ?_;refine z3u ?_;(conv=>whnf);refine ⟨((j+1:Nat):Int),by rw [show (j:Int)+1=((j+1:Nat):Int) by omega];exact wr64 zO,?_⟩;(conv=>whnf);exact zcb ⟨j+1,by omega⟩ (zj7 rfl Tn (aI sM (aI sM (aI ((aI rfl (Or.inl (zh1 (cxA j) (cxA (j+1)) hlt _ fun i hi=>by unfold cxA;by_cases h:i=j;(rw [if_pos h,if_pos zO,h]);(rw [if_neg h];by_cases h2:i<j;(rw [if_pos h2,if_pos zO]);(rw [if_neg h2,if_neg zO])))))) trivial)))) (by show 64-(j+1)<64-j;omega)
  ·conv=>whnf
   have:j=64:=(by simp at hc;omega);subst this;refine zce (zb6 (zb8 () (zj7 rfl Tn Tn)))
 refine z3k (α:=Unit) (fun _=>[(1,one (.int .u32 steps)),(2,one (.int .u32 limit)),(3,.p (.c (.ref 0 0))),(6,.p (.c (.ref 1 0))),(7,.p (.c (.ref 2 0)))]) (fun _=>[.cells vaT (yad vs),.cells cxT ((u32L (List.replicate 64 0)).map .v),.cells cxT ((u32L (ctxF (cxB vs 19))).map .v)]) ?_ fun _=>?_
 ·refine z3q ?_
  conv=>whnf
  refine z3b ?_
  have h0:ctxF (cxA 64)=ctxF (cxB vs 0):=by
   unfold ctxF;refine List.map_congr_left fun i hi=>?_;unfold cxA cxB;rw [if_pos (List.mem_range.1 hi),if_neg zO]
  rw [h0];refine z3h (α:={j:Nat//j≤19}) (fun x=>[(1,one (.int .u32 steps)),(2,one (.int .u32 limit)),(3,.p (.c (.ref 0 0))),(6,.p (.c (.ref 1 0))),(7,.p (.c (.ref 2 0))),(9,one (.int .i64 (x.1:Int)))]) (fun x=>[.cells vaT (yad vs),.cells cxT ((u32L (List.replicate 64 0)).map .v),.cells cxT ((u32L (ctxF (cxB vs x.1))).map .v)]) (fun x=>19-x.1) ⟨0,by omega⟩ (zj7 rfl Tn Tn) (fun x=>?_);obtain ⟨j,hj⟩:=x;dsimp only;refine z3q ?_;(conv=>whnf);refine ⟨fun hc=>?_,fun hc=>?_⟩
  ·have hlt:j<19:=by simp at hc;omega
   (conv=>whnf);refine z3e (z3b ?_);refine z3u ?_;(conv=>whnf)
   (refine ⟨⟨by omega,by omega⟩,?_⟩;(conv=>whnf))
   rw [show (yad vs)[0+((j:Nat):Int).toNat*tsz Tryz.prog 41]?=some (.v (.int .u32 (getV vs (j:Int)))) from z98 hvs (i:=(j:Int)) ⟨by omega,by omega⟩];(conv=>whnf)
   (refine ⟨⟨by omega,by omega⟩,?_⟩;(conv=>whnf))
   rw [show Nat.ble (0+((j:Nat):Int).toNat*tsz Tryz.prog 41+[CV.v (Value.int .u32 (getV vs (j:Int)))].length) (List.map CV.v (u32L (ctxF (cxB vs j)))).length=true from Nat.ble_eq_true_of_le (by rw [zh0];show 0+j*1+1≤64;omega)];(conv=>whnf);rw [show Nat.ble (List.map CV.v (u32L (ctxF (cxB vs j)))).length 8=false from zdy (by rw [zh0];decide)];(conv=>whnf);refine zcm ?_;refine z3u ?_;(conv=>whnf);refine ⟨((j+1:Nat):Int),by rw [show (j:Int)+1=((j+1:Nat):Int) by omega];exact wr64 zO,?_⟩;(conv=>whnf);exact zcb ⟨j+1,by omega⟩ (zj7 rfl Tn (aI sM (aI sM (aI ((aI rfl (Or.inl (zh1 (cxB vs j) (cxB vs (j+1)) zO _ fun i hi=>by unfold cxB;by_cases h:i=j;(rw [if_pos h,if_pos zO,h]);(rw [if_neg h];by_cases h2:i<j;(rw [if_pos h2,if_pos zO]);(rw [if_neg h2,if_neg zO])))))) trivial)))) (by show 19-(j+1)<19-j;omega)
  ·conv=>whnf
   have:j=19:=(by simp at hc;omega);subst this;refine zce (zb6 (zb8 () (zj7 rfl Tn Tn)))
 refine z3q ?_
 conv=>whnf
 (refine ⟨⟨by omega,by omega⟩,?_⟩;(conv=>whnf))
 rw [show Nat.ble (0+(28:Int).toNat*tsz Tryz.prog 41+[CV.v (Value.int .u32 steps)].length) (List.map CV.v (u32L (ctxF (cxB vs 19)))).length=true from Nat.ble_eq_true_of_le (by rw [zh0];show 0+28*1+1≤64;omega)]
 conv=>whnf
 rw [show Nat.ble (List.map CV.v (u32L (ctxF (cxB vs 19)))).length 8=false from zdy (by rw [zh0];decide)]
 conv=>whnf
 rw [show z38 (List.map CV.v (u32L (ctxF (cxB vs 19)))) (0+(28:Int).toNat*tsz Tryz.prog 41) [CV.v (Value.int .u32 steps)]=List.map CV.v (u32L (ctxF (cxC vs steps))) from zh1 (cxB vs 19) (cxC vs steps) (k:=28) (by decide) steps fun i _=>rfl]
 refine z3q ?_
 conv=>whnf
 (refine ⟨⟨by omega,by omega⟩,?_⟩;(conv=>whnf))
 rw [show Nat.ble (0+(29:Int).toNat*tsz Tryz.prog 41+[CV.v (Value.int .u32 limit)].length) (List.map CV.v (u32L (ctxF (cxC vs steps)))).length=true from Nat.ble_eq_true_of_le (by rw [zh0];show 0+29*1+1≤64;omega)];(conv=>whnf);rw [show Nat.ble (List.map CV.v (u32L (ctxF (cxC vs steps)))).length 8=false from zdy (by rw [zh0];decide)];(conv=>whnf);rw [show z38 (List.map CV.v (u32L (ctxF (cxC vs steps)))) (0+(29:Int).toNat*tsz Tryz.prog 41) [CV.v (Value.int .u32 limit)]=List.map CV.v (u32L C) from (zh1 (cxC vs steps) (fun i=>if i=29 then limit else cxC vs steps i) (k:=29) (by decide) limit fun i _=>rfl).trans (by rw [zhp,hC])];have hlen:(List.map CV.v (u32L C)).length=64:=(by rw [List.length_map,List.length_map,hC,zhr]);have hz:(List.map CV.v (u32L (List.replicate 64 0))).length=64:=rfl;refine z3q ?_;(conv=>whnf);rw [show cut (List.map CV.v (u32L C)) 0 (Tryz.prog.types[64].size)=some (List.map CV.v (u32L C)) from zhx hlen];(conv=>whnf);rw [show Nat.beq (List.map CV.v (u32L C)).length (Tryz.prog.types[64].size)=true from by rw [hlen];rfl,zwp];(conv=>whnf);rw [show Nat.ble (0+(List.map CV.v (u32L C)).length) (List.map CV.v (u32L (List.replicate 64 0))).length=true from Nat.ble_eq_true_of_le (by rw [hlen,hz];omega)];(conv=>whnf);rw [z4b (show (List.map CV.v (u32L (List.replicate 64 0))).length=(List.map CV.v (u32L C)).length by rw [hlen,hz])];refine z3u ?_;(conv=>whnf);refine zcg ?_;(conv=>whnf);rw [show cut (List.map CV.v (u32L C)) 0 (Tryz.prog.types[64].size)=some (List.map CV.v (u32L C)) from zhx hlen];(conv=>whnf)
 exact zmj (z9m _) fun w2 hB=>⟨by rw [hC],hB⟩
end
end Go.Proofs.YtocafomnnkmjfaaGreat
