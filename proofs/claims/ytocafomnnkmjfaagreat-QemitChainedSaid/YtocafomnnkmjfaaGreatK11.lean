import Derived.Laws.BytesString
import Derived.Test.YtocafomnnkmjfaaGreatK10
set_option maxRecDepth 100000
set_option maxHeartbeats 1000000
namespace Go.Proofs.YtocafomnnkmjfaaGreat
open Go.RowKit
structure Ins1 (k0:Int) where
 n:Int
 l:List BOp
 W:Nat
 k:Int
 hn:0≤n∧n≤3
 hb:BodyOk l W false
 hl:(l.length:Int)+n≤3
 hk:k0≤k∧k+8*n≤k0+24
structure Ins2 (k0:Int) where
 l:List BOp
 W:Nat
 ch:Bool
 k:Int
 hb:BodyOk l W ch
 hl:l.length≤4
 hk:k0≤k∧k≤k0+40
structure Ins3 (k0:Int) (W:Nat) where
 n:Int
 l:List BOp
 ch:Bool
 k:Int
 hn:0≤n∧n≤3
 hb:BodyOk l W ch
 hl:(l.length:Int)+n≤7
 hk:k0≤k∧k+8*n≤k0+24
structure MadeSt (n:Int) (k0:Int) where
 i:Nat
 ats:List Int
 ops:List BOp
 W:Nat
 ch:Bool
 k:Int
 hi:(i:Int)≤n
 hats:∀ x∈ats,word x
 hatl:ats.length=i
 pre:PreOk ops i W ch
 hlen:ops.length≤11*i
 hk:0≤k∧k≤k0+210*i
section
variable {w0:World} {S:List Ow} {K:AV→List Ow→Prop} {b:Blk} {A1 A2 A3:Option Addr} {n1 n2 n3 c1 c2 c3:Nat}
end
theorem z6k {r:Env} {f:Fr} {a:Act} (hf:FDen r f a) {d:Nat} {x:Value} (h:(f.get d).val=some x):a.tmps.getD d undef=x:=AV.val_den h (hf d)
theorem zw9 {a b:Int} (k:Nat) (ha:0≤a) (hd:a%2^k=0) (hb:0≤b∧b<2^k):orI a b=a+b:=by
 obtain ⟨n,rfl⟩:∃ n:Nat,a=n:=⟨a.toNat,by omega⟩
 obtain ⟨m,rfl⟩:∃ m:Nat,b=m:=⟨b.toNat,by omega⟩
 have hm:m<2^k:=by
  have:=hb.2
  exact_mod_cast this
 have hn:n%2^k=0:=by exact_mod_cast hd
 unfold orI
 rw [Int.toNat_natCast,Int.toNat_natCast]
 have e:n=(n/2^k) <<< k:=by
  rw [Nat.shiftLeft_eq];have:=Nat.div_add_mod n (2^k);rw [hn,Nat.add_zero,Nat.mul_comm] at this;exact this.symm
 have key:n|||m=n+m:=by
  rw [e, ← Nat.shiftLeft_add_eq_or_of_lt hm]
 rw [key]
 push_cast
 rfl
theorem zbe {a:Int} (k:Nat) (ha:0≤a):andI a (2^k-1)=a%2^k:=by
 obtain ⟨n,rfl⟩:∃ n:Nat,a=n:=⟨a.toNat,by omega⟩
 have h1:((2:Int)^k-1).toNat=2^k-1:=by
  have e:((2^k:Nat):Int)=(2:Int)^k:=(by push_cast;rfl);have hp:=Nat.one_le_two_pow (n:=k);rw [← e];generalize 2^k=x at hp⊢;omega
 unfold andI;rw [Int.toNat_natCast,h1,Nat.and_two_pow_sub_one_eq_mod]
 push_cast
 rfl
theorem zjq {i:QI} (hv:z9h i=true) (him:word i.imm):
  orI (orI (orI (orI (i.op*67108864) (i.d*4194304)) (i.a*262144)) (i.b*16384)) (andI i.imm (2^(zzw i.op).bits-1))=yas i:=by
 obtain ⟨h1,h2,h3,h4,h5⟩:=z9i hv;obtain ⟨q1,q2,q2',q4,q5,q6,q7,q8⟩:=zzx i.op;have r2:=z1d h2;have r3:=z1d h3;have r4:=z1d h4;have r1:=q5 h1;unfold word at him;rw [zbe _ him.1];have lo:=ztr i.imm q1;have p26:(2:Int)^26=67108864:=rfl;have p22:(2:Int)^22=4194304:=rfl;have p18:(2:Int)^18=262144:=rfl;have p0:(2:Int)^0=1:=rfl;rw [zw9 (a:=i.op*67108864) 26 zO (by rw [p26];omega) (by rw [p26];omega)];rw [zw9 (a:=i.op*67108864+i.d*4194304) 22 zO (by rw [p22];omega) (by rw [p22];omega)];rw [zw9 (a:=i.op*67108864+i.d*4194304+i.a*262144) 18 zO (by rw [p18];omega) (by rw [p18];omega)];unfold yas;rcases q1 with q|q|q
 ·rw [q] at lo⊢
  rw [zw9 0 zO (by rw [p0];omega) (by rw [p0];omega)]
 ·have hb:=r4.2.2 (by cases hb:(zzw i.op).b with|false=>rfl|true=>rw [q6 hb] at q;cases q)
  rw [q] at lo⊢;rw [p18] at lo;rw [zw9 18 zO (by rw [p18];omega) (by rw [p18];omega)]
 ·have hb:=r4.2.2 (by cases hb:(zzw i.op).b with|false=>rfl|true=>rw [q6 hb] at q;cases q)
  have ha:=r3.2.2 (q7 q);rw [q] at lo⊢;rw [p22] at lo;rw [zw9 22 zO (by rw [p22];omega) (by rw [p22];omega)]
theorem z4r (n:Int) (_h:word n):z5e (n*16384%4294967296)/16384%4294967296=sgnW n 18:=by
 rw [z4m];unfold z5e
 split<;>split<;>omega
theorem z4s (n:Int) (_h:word n):z5e (n*1024%4294967296)/1024%4294967296=sgnW n 22:=by
 rw [z4n];unfold z5e
 split<;>split<;>omega
def sbits (b:Nat):Prop:=b=12∨b=18∨b=22
def opsTo (k:Nat):List Int:=((List.range k).map Int.ofNat).filter fun x=>(zzw x).is
abbrev zpage:List Int:=List.replicate 256 0
structure CpAtSt (l:List BOp) (i:Nat) (v:Int) where
 m:Nat
 mq:Bool
 hm:m≤i
 h:zhd (l.take i).reverse v=zg9 mq (l.take m).reverse ((l.take i).drop m) v
section
variable {w0:World} {G:Gs} {S:List Ow} {r:Env} {w:World}
end
theorem zxy {w':World} {B:Nat} {e:TypeId} {size n:Nat} {v:Value} {ys:List Value} (hown:w'.ownsRow B e size v n ys):∀ x,v.ownBlock=some x→B≤x∧x<w'.heap.size:=by
 intro x hx;rcases hown.2 with ⟨h1,_⟩|⟨g,cap,cur,h1,hg,hh,_⟩
 ·rw [h1] at hx;cases hx
 ·rw [h1] at hx;simp [Value.ownBlock] at hx;subst hx
  refine ⟨hg,?_⟩;rcases Nat.lt_or_ge g w'.heap.size with h2|h2
  ·exact h2
  ·rw [Array.getElem?_eq_none h2] at hh;cases hh
section
variable {P:Program} {w0:World} {G:Gs} {N:Nat} {c d:Code} {f:Fr} {S:List Ow} {Q:Exit→Act→World→Prop} {fn:Func} {R:Ending→World→Prop}
theorem zfg {fid:FuncId} {w:World} {g:Nat} {t:TypeId} {us:List Value} (xs:List Value) (hf:P.funcs[fid]?=some fn) (hN:fn.ntmps=N) (hb:fn.body=some c) (hle:xs.length+1≤N) (hg:w.heap[g]?=some (.cells us.toArray t (0,0)))
  (h:SatQ P w ⟨[g],[]⟩ ⟨N,[]⟩ c (zb1 (.p (.c (.ref 0 0))::xs.map fun x=>AV.of x) 0) [.cells t (us.map .v)] (bodyPostM Fence.wide 10 P fn R)):Calls P fid (.pointer (some ⟨g,0,none⟩)::xs).toArray w R:=by
 refine callsIn_wide.1 (callsIn_of_wp_marks (n:=10) hf hb trivial (h.out _ w ⟨zkg g,z1q w hg,fun i=>?_,by simp;omega,rfl⟩));refine zb2 (r:=zkg g) (.p (.c (.ref 0 0))::xs.map fun x=>AV.of x) (.pointer (some ⟨g,0,none⟩)::xs) 0 ⟨_,_,rfl,zi1 (by simp [zkg]),zc6 xs⟩ (fun j u hj=>?_) i;rw [Nat.zero_add,Array.getD_eq_getD_getElem?,Array.getElem?_append_left (by simp;rcases Nat.lt_or_ge j (xs.length+1) with h1|h1;exact h1;rw [List.getElem?_eq_none (by simpa using h1)] at hj;cases hj)];have:(Value.pointer (some ⟨g,0,none⟩)::xs).toArray[j]?=some u:=(by simpa using hj);rw [this];rfl
theorem z24 {α:Type} {N:Nd} (T:α→Fr) (U:α→List Ow) (hc:vc none P w0 G N c f S fun e f S=>match e with| .normal=>∃ y,Ent w0 G N f S (T y) (U y)|e=>AtQ w0 G N e f S Q) (hd:∀ y,SatQ P w0 G N d (T y) (U y) Q):SatQ P w0 G N (.seq c d) f S Q:=
 ⟨fun a w hg=>wpIn_seq (wpIn_mono ((yac (ro:=none) c f S _ hc).out 10 a w hg) fun e a' w' ⟨f',S',hk,hg'⟩=>by
  cases e with
  |normal=>obtain ⟨y,hy⟩:=hk;exact (hd y).out a' w' (hy.out a' w' hg')
  |exit id=>exact hk.out a' w' hg'
  |goto l=>exact hk.out a' w' hg'
  |ret=>exact hk.out a' w' hg'
  |panic ch=>exact hk.out a' w' hg'
  |outgrown=>exact hk.out a' w' hg')⟩
theorem z2z {N:Nd} {f':Fr} {S':List Ow} (h:Ent w0 G N f S f' S') (k:SatQ P w0 G N d f' S' Q):SatQ P w0 G N d f S Q:=⟨fun a w hg=>k.out a w (h.out a w hg)⟩
end
section
variable {P:Program} {w0:World} {G:Gs} {N:Nd} {o:Oper} {f:Fr} {S:List Ow} {K:Fr→List Ow→Prop} {Q:Exit→Act→World→Prop} {d:Code}
theorem zwr (v:AV) (hdst:zjc N.n o.dst=true) (h:∀ r a w,Rel w0 G S r w→FDen r f a→∃ u,v.den r u∧(execOp a.eval o).run P w= .ok (.value u) w) (hk:K (f.put o.dst v) S):OpS P w0 G N o f S K:=by
 refine ⟨fun r a w hR hf hN hd next Q hK=>?_⟩;obtain ⟨u,hu,hrun⟩:=h r a w hR hf;exact ya8 hrun (hK _ _ _ _ hk (zox hR hf hN hd hdst hu hR (Env.le.refl r)))
theorem zwx {x y:Operand} {a b:Int} {tys:Array TypeId} (hop:o.op= .call ⟨.builtin .min,#[x,y],tys⟩) (hx:f.ev x=one (.int .i64 a)) (hy:f.ev y=one (.int .i64 b)) (hdst:zjc N.n o.dst=true) (hk:K (f.put o.dst (one (.int .i64 (if b<a then b else a)))) S):OpS P w0 G N o f S K:=by
 refine zwr _ hdst (fun r act w hR hf=>⟨_,zi3 _ _,?_⟩) hk;have h1:=hf.ev x;have h2:=hf.ev y;rw [hx] at h1;rw [hy] at h2;simp [execOp,hop,resolve,invoke,builtin,zi6 h1,zi6 h2,Builtin.min_,Builtin.min2]
theorem z2k {t e:TypeId} {i:TypeInfo} (ht:P.underlying t=some (.slice e)) (hi:P.info? e=some i) (A:Option Addr) (n c l h:Nat) (low high:Option Value) (hl:(low=none∧l=0)∨∃ q,low=some (.int q (l:Int))) (hh:(high=none∧h=n)∨∃ q,high=some (.int q (h:Int))) (hlh:l≤h) (hhc:h≤c) (w:World):
  (Instr.sliceAt t (.slice A n c) low high none).run P w= .ok (.slice (if c=l then A else A.map (·.add (l*i.size))) (h-l) (c-l)) w:=by
 have hs:=z2j P e w hi
 have hl0:(0:Int)≤(l:Int)∧(l:Int)≤(h:Int):=by omega
 have hh0:(0:Int)≤(h:Int)∧(h:Int)≤(c:Int):=by omega
 rcases hl with ⟨rfl,rfl⟩|⟨q,rfl⟩<;>rcases hh with ⟨rfl,rfl⟩|⟨q',rfl⟩<;>
  simp [Instr.sliceAt,Instr.slice,underlying,ht,Instr.sliceBounds,Instr.sliceBound,asIntOf,hs,hl0,hh0,hlh,hhc]
end
def zeq (l:List Int):ByteArray:=l.foldl (fun r n=>r.push (UInt8.ofNat n.toNat)) ByteArray.empty
def strV (l:List Int):Value:= .string (zeq l)
theorem zev:∀ (l:List Int) (s:ByteArray),(l.foldl (fun r n=>r.push (UInt8.ofNat n.toNat)) s).data.toList=s.data.toList++l.map fun n=>UInt8.ofNat n.toNat
 |[],s=>by simp
 |n::l,s=>by
  rw [List.foldl_cons,zev l];simp [ByteArray.push]
theorem zet (l:List Int):(zeq l).data.toList=l.map fun n=>UInt8.ofNat n.toNat:=by
 have:=zev l ByteArray.empty;rw [show ByteArray.empty.data.toList=[] from rfl,List.nil_append] at this;exact this
theorem zeu (l:List Int):(zeq l).size=l.length:=by
 show (zeq l).data.size=_;rw [← Array.length_toList,zet,List.length_map]
theorem zes {l:List Int} {i:Nat} {b:Int} (h:l[i]?=some b):(zeq l)[i]?=some (UInt8.ofNat b.toNat):=by
 have h1:(zeq l).data.toList[i]?=some (UInt8.ofNat b.toNat):=by rw [zet,List.getElem?_map,h];rfl
 have h2:(zeq l).data[i]?=some (UInt8.ofNat b.toNat):=by simpa using h1
 have hi:i<(zeq l).size:=by
  rw [zeu];rcases Nat.lt_or_ge i l.length with h3|h3
  ·exact h3
  ·rw [List.getElem?_eq_none h3] at h;cases h
 rw [getElem?_pos (zeq l) i hi];have h3:i<(zeq l).data.size:=hi;rw [Array.getElem?_eq_getElem h3] at h2;exact h2
section
variable {P:Program} {w0:World} {G:Gs} {S:List Ow} {f:Fr} {o:Oper} {K:AV→Prop}
theorem z0b {x:Operand} {t:TypeId} (l:List Int) (hop:o.op= .call ⟨.builtin .len,#[x],#[t]⟩) (ht:P.underlying t=some .string) (hx:f.ev x=one (strV l)) (hk:K (one (.int .i64 (l.length:Int)))):QRun P w0 G S f o K:=by
 refine ⟨_,hk,fun r a hf=>?_⟩;have h1:=hf.ev x;rw [hx] at h1;refine ⟨_,rfl,fun w hR=>?_⟩;simp [execOp,hop,resolve,invoke,builtin,zi6 h1,strV,zeu,Builtin.len_,run_underlying ht,goInt]
theorem z0a {x ix:Operand} {t:TypeId} (l:List Int) (k:IntKind) (i:Nat) (b:Int) (hop:o.op= .index t x ix) (ht:P.underlying t=some .string) (hx:f.ev x=one (strV l)) (hi:f.ev ix=one (.int k (i:Int))) (hb:l[i]?=some b) (hr:0≤b∧b<256) (hk:K (one (.int .u8 b))):QRun P w0 G S f o K:=by
 refine ⟨_,hk,fun r a hf=>?_⟩;have h1:=hf.ev x;have h2:=hf.ev ix;rw [hx] at h1;rw [hi] at h2;refine ⟨_,rfl,fun w hR=>?_⟩;have hg:=zes hb;have hbb:(UInt8.ofNat b.toNat).toNat=b.toNat:=(by simp;omega);simp [execOp,hop,zi6 h1,zi6 h2,strV,Instr.index,run_underlying ht,hg,asIntOf,hbb];omega
theorem zz5 {x:Operand} {src dst e:TypeId} {te:TypeId} (i n c:Nat) (l:List Int) (hop:o.op= .convert src dst x) (hs:P.underlying src=some (.slice e)) (he:P.underlying e=some (.int .u8)) (hd:P.underlying dst=some .string) (hx:f.ev x= .p (.c (.sl i 0 n c))) (hi:S[i]?=some (.cells te ((l.map (Value.int .u8)).map .v))) (hn:l.length=n) (hk:K (one (strV l))):QRun P w0 G S f o K:=by
 refine ⟨_,hk,fun r a hf=>?_⟩;have h1:=hf.ev x;rw [hx] at h1;obtain ⟨b,hb,hu⟩:=zi5 h1;refine ⟨_,rfl,fun w hR=>?_⟩;obtain ⟨b',us,e1,e2,e3⟩:=hR.own i _ hi;rw [hb] at e1;injection e1 with e1;subst e1;obtain rfl:=ziw e3
 have hl:(loadCells ⟨b,0,none⟩ n).run P w= .ok (l.map (Value.int .u8)).toArray w:=by
  unfold loadCells;have:=z2h (P:=P) (w:=w) (b:=b) (off:=0) n 0 #[] (l.map (Value.int .u8)) (by simp [hn]) (fun j u hj=>by simpa [World.cell?,e2] using hj)
  simpa using this
 simp [execOp,hop,hu,run_convert_bytes_string w src dst e _ n c hs he hd,run_bytesToString w _ n c l hl,strV,zeq]
end
theorem zwu {P:Program} {w0:World} {G:Gs} {N:Nd} {o:Oper} {f:Fr} {S:List Ow} {K:Fr→List Ow→Prop} {t e:TypeId} {i:TypeInfo} {z:Value} {x y:Operand} (size n:Nat) (hop:o.op= .makeSlice t x y) (ht:P.underlying t=some (.slice e)) (hi:P.info? e=some i) (hz:i.zero=some z) (hsize:i.size=size)
  (hx:f.ev x=one (.int .i64 (n:Int))) (hy:f.ev y=one (.int .i64 (n:Int))) (hn:n*size≤16777216) (hb:i.bytes*n≤281474976710656) (hm:n≤maxLen) (hdst:zjc N.n o.dst=true) {xs:List Value} (hxs:(madeCells z.cells (n*size)).toList=xs)
  (hk:K (f.put o.dst (.p (.c (.sl S.length 0 n n)))) (S++[.cells e (xs.map .v)])):OpS P w0 G N o f S K:=by
 refine ⟨fun r a w hR hf hN hd next Q hK=>?_⟩;have h1:=hf.ev x;have h2:=hf.ev y;rw [hx] at h1;rw [hy] at h2;have hrun:=run_makeSlice (P:=P) (w:=w) t e i z ht hi hz .i64 .i64 (n:Int) (n:Int) zO (Int.le_refl _) (by rw [hsize,Int.toNat_natCast];exact hn) (by have:=Int.ofNat_le.2 hb;simpa using this) (by have:=Int.ofNat_le.2 hm;exact this);rw [Int.toNat_natCast,hsize] at hrun
 have hex:(execOp a.eval o).run P w= .ok (.value (.slice (some ⟨w.heap.size,0,none⟩) n n)) (w.alloc (.cells (madeCells z.cells (n*size)) e)):=by
  simp [execOp,hop,zi6 h1,zi6 h2,hrun]
 have hB:Below w.heap.size w (w.alloc (.cells (madeCells z.cells (n*size)) e)):=Below.alloc (Below.refl _ _) (Nat.le_refl _) _;have hle:=hR.le_new (some w.heap.size) none;refine ya8 hex (hK _ _ _ _ hk (zox hR hf hN hd hdst (r':=r.set S.length (some w.heap.size) none) ?_ (hR.snoc hB (fun x hx=>by injection hx with hx;subst hx;exact ⟨Nat.le_refl _,by show w.heap.size<(w.heap.push _).size;simp⟩) ⟨w.heap.size,xs,by simp [Env.set],by show (w.heap.push _)[w.heap.size]?=_;simp [← hxs],ziv xs⟩) hle));simp only [AV.den,Pc.den,CV.den];exact ⟨w.heap.size,by simp [Env.set],rfl⟩
structure ReplSt (a g:List Int) (n:Nat) where
 i:Nat
 l:List BOp
 hl:l.length=n
 hi:i≤n
 ok:MadeOk ⟨a,g,l⟩
structure TurnOk (b:Blk):Prop where
 ok:b.ok
 l1:b.at_.length≤1000
 l2:b.pages.length≤1000
 l3:b.ops.length≤1000
structure MemP where
 data:List Int
 image:List Int
 oldData:List Int
 oldImage:List Int
 rights:List Int
 td:List Value:=[]
 ti:List Value:=[]
 tod:List Value:=[]
 toi:List Value:=[]
 tr:List Value:=[]
abbrev zem (x:Int):Value:= .int .u8 x
abbrev intV (x:Int):Value:= .int .i64 x
def MemP.dV (M:MemP):List Value:=M.data.map zem++M.td
def MemP.iV (M:MemP):List Value:=M.image.map zem++M.ti
def MemP.odV (M:MemP):List Value:=M.oldData.map zem++M.tod
def MemP.oiV (M:MemP):List Value:=M.oldImage.map zem++M.toi
def MemP.rV (M:MemP):List Value:=M.rights.map intV++M.tr
abbrev memS (k n p:Nat) (M:MemP):List Ow:=
 [.cells 115 [.sl (k+1) 0 n (n+M.td.length),.sl (k+2) 0 n (n+M.ti.length),.sl (k+3) 0 n (n+M.tod.length),.sl (k+4) 0 n (n+M.toi.length),.sl (k+5) 0 p (p+M.tr.length),.v (.bool false)],
  .cells 5 (M.dV.map .v),.cells 5 (M.iV.map .v),.cells 5 (M.odV.map .v),.cells 5 (M.oiV.map .v),.cells 3 (M.rV.map .v)]
structure MemP.ok (M:MemP) (n p:Nat):Prop where
 ld:M.data.length=n
 li:M.image.length=n
 lr:M.rights.length=p
 lod:M.oldData.length=n
 loi:M.oldImage.length=n
 np:n=256*p
 pmax:p≤4096
 db:∀ x∈M.data,0≤x∧x<256
 ib:∀ x∈M.image,0≤x∧x<256
 rb:∀ x∈M.rights,0≤x∧x<8
theorem z4u (k:Nat) (us:List Value):(us.map CV.v).map (CV.sh k)=us.map CV.v:=by
 rw [List.map_map];rfl
theorem zud (k n p:Nat) (M:MemP):ShAll k (memS 0 n p M) (memS k n p M):=by
 refine ⟨⟨rfl,?_⟩,⟨rfl,(z4u k _).symm⟩,⟨rfl,(z4u k _).symm⟩,⟨rfl,(z4u k _).symm⟩,⟨rfl,(z4u k _).symm⟩,⟨rfl,(z4u k _).symm⟩,trivial⟩;simp [CV.sh]
theorem zvt (n:Nat) (us:List Value):∀ c∈us.map CV.v,c.ob n=true:=fun c hc=>by
 obtain ⟨u,_,rfl⟩:=List.mem_map.1 hc;rfl
theorem zuc (n p:Nat) (M:MemP):zaj 6 (memS 0 n p M):=by
 intro o ho;simp only [memS,List.mem_cons,List.not_mem_nil,or_false] at ho;rcases ho with rfl|rfl|rfl|rfl|rfl|rfl
 ·intro c hc
  simp only [List.mem_cons,List.not_mem_nil,or_false] at hc
  rcases hc with rfl|rfl|rfl|rfl|rfl|rfl<;>rfl
 ·exact zvt 6 _
 ·exact zvt 6 _
 ·exact zvt 6 _
 ·exact zvt 6 _
 ·exact zvt 6 _
theorem z5w {w:World} {gs:List Nat} {n p:Nat} {M:MemP} (h:ObjsAt w gs (memS 0 n p M)):∃ g0 g1 g2 g3 g4 g5,gs=[g0,g1,g2,g3,g4,g5]:=by
 have:=h.len
 match gs,this with
 |[g0,g1,g2,g3,g4,g5],_=>exact ⟨g0,g1,g2,g3,g4,g5,rfl⟩
theorem z7u {U T:List Ow}:∀ (i:Nat) (o:Ow),U[i]?=some o→(U++T)[i]?=some o:=fun i o h=>by
 have hi:i<U.length:=by
  rcases Nat.lt_or_ge i U.length with h1|h1
  ·exact h1
  ·rw [List.getElem?_eq_none h1] at h;cases h
 rw [List.getElem?_append_left hi];exact h
theorem zy8 {S V:List Ow} {k:Nat} (h:∀ i,i<V.length→S[k+i]?=V[i]?):putS S k V=S:=by
 rcases Nat.eq_zero_or_pos V.length with h0|hpos
 ·rw [List.eq_nil_of_length_eq_zero h0];rfl
 have hlen:k+V.length≤S.length:=by
  have h1:=h (V.length-1) zO;rw [List.getElem?_eq_getElem (by omega:V.length-1<V.length)] at h1;rcases Nat.lt_or_ge (k+(V.length-1)) S.length with h3|h3
  ·omega
  ·rw [List.getElem?_eq_none h3] at h1;cases h1
 refine List.ext_getElem? fun j=>?_;rw [zy6 _ _ _ _ hlen]
 split
 ·rename_i hj
  rw [← h (j-k) zO,show k+(j-k)=j by omega]
 ·rfl
section
variable {w0:World} {G:Gs} {fid:FuncId} {S:List Ow} {K:AV→List Ow→Prop} {pre suf:List AV} {xs ys:List Value} {P:Program}
theorem ze5 (k n p:Nat) (M M':MemP) (X:Value) (hS:∀ i,i<6→S[k+i]?=(memS k n p M)[i]?) (hx:avals pre=some xs) (hy:avals suf=some ys) (hok:fnOk P fid=true)
  (h:∀ w g gs,OldKeeps w0 G w (g::gs)→ObjsAt w (g::gs) (memS 0 n p M)→Calls P fid (xs++ .pointer (some ⟨g,0,none⟩)::ys).toArray w fun e w'=>e= .returned X∧ObjsAt w' (g::gs) (memS 0 n p M')∧GrownBys w w' (g::gs))
  (hK:K (AV.of X) (putS S k (memS k n p M'))):CallS P w0 G fid (pre++ .p (.c (.ref k 0))::suf) S K:=
 ze8 (α:=Unit) k (memS 0 n p M) (memS k n p M) (fun _=>memS 0 n p M') (fun _=>memS k n p M') (fun _=>X) (fun _=>True) zS (zud k n p M) (zuc n p M) hS hx hy hok (fun _ _=>zud k n p M') (fun _ _=>zuc n p M') (fun _ _=>rfl)
  (fun w g gs hk hU=>(h w g gs hk hU).mono fun e w' ⟨h1,h2,h3⟩=>⟨(),trivial,h1,h2,h3⟩) (fun _ _=>hK)
theorem ze4 (k n p:Nat) (M:MemP) (X:Value) (hS:∀ i,i<6→S[k+i]?=(memS k n p M)[i]?) (hx:avals pre=some xs) (hy:avals suf=some ys) (hok:fnOk P fid=true)
  (h:∀ w g gs,OldKeeps w0 G w (g::gs)→ObjsAt w (g::gs) (memS 0 n p M)→Calls P fid (xs++ .pointer (some ⟨g,0,none⟩)::ys).toArray w fun e w'=>e= .returned X∧ObjsAt w' (g::gs) (memS 0 n p M)∧GrownBys w w' (g::gs))
  (hK:K (AV.of X) S):CallS P w0 G fid (pre++ .p (.c (.ref k 0))::suf) S K:=
 ze5 k n p M M X hS hx hy hok h (by rw [zy8 (fun i hi=>hS i hi)];exact hK)
end
theorem zuk (M:MemP) (n p:Nat) (a:Int) (w:World) (g:Nat) (gs:List Nat) (hU:ObjsAt w (g::gs) (memS 0 n p M)) (_hM:M.ok n p) (ha:word a):
  Calls Tryz.prog 106 #[.pointer (some ⟨g,0,none⟩),.int .u32 a] w fun e w'=>e= .returned (.bool (decide (a<(n:Int))))∧ObjsAt w' (g::gs) (memS 0 n p M)∧GrownBys w w' (g::gs):=by
 obtain ⟨g0,g1,g2,g3,g4,g5,hg⟩:=z5w hU;injection hg with hg0 hgs;subst hgs;subst hg0;refine zfe [.p (.c (.ref 0 0)),one (.int .u32 a)] [.pointer (some ⟨g,0,none⟩),.int .u32 a] Tryz.func106 Tryz.ntmps106 rfl zS hU ⟨_,_,rfl,zi1 rfl,zc6 [.int .u32 a]⟩ ?_;(conv=>whnf);refine ⟨a,wr64 (by unfold word at ha;omega),?_⟩;(conv=>whnf)
 exact zmn rfl rfl (fun i o h=>h) (zuc n p M) fun w' h1 h2=>⟨rfl,h1,h2⟩
theorem zd6 (n:Nat):∀ us:List Value,bndL n (us.map CV.v)=true
 |[]=>rfl
 |u::us=>by simp only [List.map_cons,bndL,CV.bnd];exact zd6 n us
theorem zo2 (g g1 g2 g3 g4 g5 n p:Nat) (M:MemP):zoz ⟨[g,g1,g2,g3,g4,g5],[]⟩ (memS 0 n p M)=true:=by
 show sbnd 6 (memS 0 n p M)=true;simp only [sbnd,Ow.bnd,zd6,bndL,CV.bnd]
 rfl
theorem z8a {l:List Int} {f:Int→Value} {t:List Value} {i:Nat} {x:Int} (h:l[i]?=some x):((l.map f++t).map CV.v)[i]?=some (.v (f x)):=by
 have hi:i<l.length:=by
  rcases Nat.lt_or_ge i l.length with h1|h1
  ·exact h1
  ·rw [List.getElem?_eq_none h1] at h;cases h
 rw [List.getElem?_map,List.getElem?_append_left (by simpa using hi),List.getElem?_map,h];rfl
theorem z8b {l:List Int} {f:Int→Value} {t:List Value} {n:Nat} (h:l.length=n):n≤((l.map f++t).map CV.v).length:=by simp [h]
theorem z8c {l:List Int} {f:Int→Value} {t:List Value} {i:Nat} {x:Int} (h:i<l.length):(l.map f++t).set i (f x)=(l.set i x).map f++t:=by
 rw [List.set_append_left _ _ (by simpa using h),List.map_set]
def MemP.right (M:MemP) (a r:Int):Bool:=decide (a<(M.data.length:Int))&&(((M.rights[(a/256).toNat]?).getD 0)/r%2==1)
theorem zus (M:MemP) (n p:Nat) (a r:Int) (w:World) (g:Nat) (gs:List Nat) (hU:ObjsAt w (g::gs) (memS 0 n p M)) (hM:M.ok n p) (ha:word a) (hr:r=1∨r=2∨r=4):
  Calls Tryz.prog 208 #[.pointer (some ⟨g,0,none⟩),.int .u32 a,.int .i64 r] w fun e w'=>e= .returned (.bool (M.right a r))∧ObjsAt w' (g::gs) (memS 0 n p M)∧GrownBys w w' (g::gs):=by
 obtain ⟨g0,g1,g2,g3,g4,g5,hg⟩:=z5w hU;injection hg with hg0 hgs;subst hgs;subst hg0;refine zfe [.p (.c (.ref 0 0)),one (.int .u32 a),one (.int .i64 r)] [.pointer (some ⟨g,0,none⟩),.int .u32 a,.int .i64 r] Tryz.func208 Tryz.ntmps208 rfl zS hU ⟨_,_,rfl,zi1 rfl,zc6 [.int .u32 a,.int .i64 r]⟩ ?_;(conv=>whnf);refine ze4 (pre:=[]) (suf:=[one (.int .u32 a)]) 0 n p M (.bool (decide (a<(n:Int)))) (fun i hi=>by rw [Nat.zero_add]) rfl rfl zK (fun w' g gs hk hU=>zuk M n p a w' g gs hU hM ha) ?_;(conv=>whnf);have hw:0≤a∧a<4294967296:=ha;refine ⟨((M.rights[(a/256).toNat]?).getD 0)/r%2==1,fun hin=>?_,?_⟩
 ·have hlt:a<(n:Int):=by simpa using hin
  have hnp:=hM.np
  have hq:(a/256).toNat<p:=by omega
  obtain ⟨x,hx⟩:∃ x,M.rights[(a/256).toNat]?=some x:=⟨_,List.getElem?_eq_getElem (by rw [hM.lr];exact hq)⟩
  have hxb:=hM.rb x (List.mem_of_getElem? hx);have hget:(M.rV.map CV.v)[(a/256).toNat]?=some (.v (intV x)):=(by exact z8a hx);rw [hx];(conv=>whnf);refine ⟨by decide,a/256,by rw [Int.tdiv_eq_ediv_of_nonneg hw.1,wr32];omega,?_⟩;(conv=>whnf);refine ⟨⟨by omega,by omega⟩,?_⟩;(conv=>whnf);rw [show (List.map CV.v M.rV)[0+(a/256).toNat*tsz Tryz.prog 3]?=some (.v (intV x)) by show (List.map CV.v M.rV)[0+(a/256).toNat*1]?=_;rw [Nat.zero_add,Nat.mul_one];exact hget];(conv=>whnf);have hr0:0<r:=(by omega);have hd0:0≤x/r:=Int.ediv_nonneg hxb.1 zO;have hd1:x/r≤x:=Int.ediv_le_self _ hxb.1;refine ⟨by omega,x/r,by rw [Int.tdiv_eq_ediv_of_nonneg hxb.1];exact wr64 zO,?_⟩;(conv=>whnf);refine ⟨by decide,x/r%2,Int.tmod_eq_emod_of_nonneg hd0,?_⟩;(conv=>whnf);exact ⟨rfl,rfl,rfl,rfl,zo2 _ _ _ _ _ _ _ _ _⟩
 conv=>whnf
 refine zmn rfl rfl (fun i o h=>h) (zuc n p M) fun w' h1 h2=>⟨?_,h1,h2⟩
 unfold MemP.right;rw [hM.ld];rfl
theorem CV.den_det {r:Env} {n:Nat}:∀ {c:CV} {u z:Value},c.ob n=true→c.den r u→c.den r z→u=z
 | .v x,u,z,_,h1,h2=>by simp only [CV.den] at h1 h2;rw [h1,h2]
 | .ref i off,u,z,_,h1,h2=>by
  simp only [CV.den] at h1 h2;obtain ⟨b,e1,rfl⟩:=h1;obtain ⟨b',e2,rfl⟩:=h2;rw [e1] at e2;injection e2 with e2;rw [e2]
 | .sl i off m c,u,z,_,h1,h2=>by
  simp only [CV.den] at h1 h2;obtain ⟨b,e1,rfl⟩:=h1;obtain ⟨b',e2,rfl⟩:=h2;rw [e1] at e2;injection e2 with e2;rw [e2]
 | .any,_,_,hb,_,_=>by cases hb
 | .vref ..,_,_,hb,_,_=>by cases hb
 | .row ..,_,_,hb,_,_=>by cases hb
 | .mp ..,_,_,hb,_,_=>by cases hb
 | .clo ..,_,_,hb,_,_=>by cases hb
theorem zil {r:Env} {n:Nat}:∀ {l:List CV} {us vs:List Value},(∀ c∈l,c.ob n=true)→denL r l us→denL r l vs→us=vs
 |[],us,vs,_,h1,h2=>by simp only [denL] at h1 h2;rw [h1,h2]
 |c::l,us,vs,hb,h1,h2=>by
  simp only [denL] at h1 h2;obtain ⟨u,us',rfl,d1,d2⟩:=h1;obtain ⟨v,vs',rfl,k1,k2⟩:=h2;rw [CV.den_det (hb c zS) d1 k1,zil (fun x hx=>hb x (by simp [hx])) d2 k2]
theorem zvz {w w':World} {gs:List Nat} {U:List Ow} {n:Nat} (hob:zaj n U) (h:ObjsAt w gs U) (h':ObjsAt w' gs U):∀ g∈gs,w'.heap[g]?=w.heap[g]?:=by
 intro g hg;obtain ⟨i,hi⟩:=List.getElem?_of_mem hg
 have hlt:i<U.length:=by
  rw [h.len];rcases Nat.lt_or_ge i gs.length with h1|h1
  ·exact h1
  ·rw [List.getElem?_eq_none h1] at hi;cases hi
 have ho:=List.getElem?_eq_getElem hlt;have k1:=h.own i _ ho;have k2:=h'.own i _ ho;have hb:=hob _ (List.getElem_mem hlt)
 cases hu:U[i] with
 |cells t l=>
  rw [hu] at k1 k2 hb;obtain ⟨b,us,e1,e2,e3⟩:=k1;obtain ⟨b',us',e4,e5,e6⟩:=k2;have e1:gs[i]?=some b:=e1;have e4:gs[i]?=some b':=e4;rw [hi] at e1 e4;injection e1 with e1;injection e4 with e4;subst e1;subst e4;rw [e2,e5,zil hb e3 e6]
 |row=>rw [hu] at hb;exact hb.elim
 |ext=>rw [hu] at hb;exact hb.elim
 |view=>rw [hu] at hb;exact hb.elim
 |gone=>rw [hu] at hb;exact hb.elim
theorem zvu {w w':World} {gs:List Nat} {U:List Ow} {n:Nat} (hob:zaj n U) (h:ObjsAt w gs U) (h':ObjsAt w' gs U) (hg:GrownBys w w' gs):Below w.heap.size w w':=
 ⟨hg.os,hg.tape,hg.output,hg.size,fun k hk=>by
  by_cases hm:k∈gs
  ·exact zvz hob h h' k hm
  ·exact hg.block k hk hm⟩
theorem QRun.useD {P:Program} {w0:World} {G:Gs} {S:List Ow} {f:Fr} {o:Oper} {K:AV→Prop} (h:QRun P w0 G S f o K) {r:Env} {D:World→Prop} (hD:∀ w,D w→Rel w0 G S r w) {w1:World} (_:D w1) {a:Act} (hf:FDen r f a):
  ∃ v u,K v∧v.den r u∧∀ w:World,D w→(execOp a.eval o).run P w= .ok (.value u) w:=by
 obtain ⟨v,hK,hr⟩:=h.out;obtain ⟨u,hd,hrun⟩:=hr r a hf;exact ⟨v,u,hK,hd,fun w hw=>hrun w (hD w hw)⟩
theorem z0m {P:Program} {w0:World} {G:Gs} {S:List Ow} {f:Fr} {o:Oper} {K:AV→Prop} (h:qop P w0 G S f o K) (hty:opTy P o.op=true) (hS0:S=[]) {r:Env} {D:World→Prop} (hD:∀ w,D w→Rel w0 G S r w) {w1:World} (hw1:D w1) {a:Act} (hf:FDen r f a):
  ∃ v u,K v∧v.den r u∧∀ w:World,D w→(execOp a.eval o).run P w= .ok (.value u) w:=by
 have hR:=hD w1 hw1;unfold qop at h
 split at h
 ·
  rename_i x hop;have hx:=hf.ev x;refine ⟨f.ev x,a.eval x,?_,hx,fun w _=>by simp [execOp,hop]⟩
  split at h<;>(rename_i he;rw [he];exact h)
 ·rename_i x hop
  have hx:=hf.ev x;refine ⟨f.ev x,a.eval x,?_,hx,fun w _=>by simp [execOp,hop]⟩
  split at h<;>(rename_i he;rw [he];exact h)
 ·
  rename_i c x y hop;have hc:=hf.ev c;have hx:=hf.ev x;have hy:=hf.ev y
  split at h
  ·rename_i b eb
   rw [eb] at hc;have e1:=zi6 hc
   have hrun:∀ w:World,(execOp a.eval o).run P w= .ok (.value (if b then a.eval x else a.eval y)) w:=fun w=>by simp [execOp,hop,e1,asBool]
   split at h
   ·rename_i p ep
    rw [ep] at hx;have e2:=zi6 hx
    split at h
    ·rename_i q eq
     rw [eq] at hy;have e3:=zi6 hy;refine ⟨_,_,h,zi3 r _,fun w _=>?_⟩;rw [hrun w,e2,e3]
     cases b<;>rfl
    ·cases b with
     |true=>exact ⟨_,_,h,zi3 r _,fun w _=>by rw [hrun w,e2];rfl⟩
     |false=>exact ⟨_,_,h,hy,fun w _=>by rw [hrun w];rfl⟩
   ·cases b with
    |true=>exact ⟨_,_,h,hx,fun w _=>by rw [hrun w];rfl⟩
    |false=>exact ⟨_,_,h,hy,fun w _=>by rw [hrun w];rfl⟩
  ·exact h.elim
 ·
  rename_i t x hop;have hx:=hf.ev x;subst hS0;unfold ztg at h
  split at h
  ·simp at h
  ·simp at h
  ·rename_i b off he
   rw [he] at hx;have hu:=zi6 hx;obtain ⟨v,u,hK,hd,hrun⟩:=zv7 h r;exact ⟨v,u,hK,hd,fun w hw=>by simp [execOp,hop,hu,hrun [] r w (hD w hw)]⟩
  ·exact h.elim
 ·
  rename_i x hop;have hx:=hf.ev x
  split at h
  ·rename_i i off he
   rw [he] at hx;refine ⟨_,_,h,hx,fun w _=>?_⟩;obtain ⟨b,hb,hu⟩:=zi4 hx;simp [execOp,hop,hu]
  ·rename_i fn cap he
   rw [he] at hx;refine ⟨_,_,h,hx,fun w _=>?_⟩;obtain ⟨us,hu,_⟩:=zi0 hx;simp [execOp,hop,hu]
  ·rename_i p he
   rw [he] at hx;refine ⟨_,_,h,hx,fun w _=>?_⟩;have hu:=zi6 hx;simp [execOp,hop,hu]
  ·exact QRun.useD h hD hw1 hf
 ·
  rename_i op t x y t' hop;have hx:=hf.ev x;have hy:=hf.ev y
  split at h
  ·rename_i k p ep
   rw [ep] at hx;have e1:=zi6 hx
   split at h
   ·rename_i k' q eq
    rw [eq] at hy;have e2:=zi6 hy
    have hg:∀ w:World,(eqGuard op t x y (.int k p) (.int k' q)).run P w= .ok () w:=fun w=>by
     unfold eqGuard;cases op<;>simp
    split at h
    ·obtain ⟨u,hK,hrun⟩:=z48 (P:=P) (t:=t) (k':=k') h
     exact ⟨_,u,hK,zi3 r u,fun w _=>by simp [execOp,hop,e1,e2,hg w,hrun w]⟩
    ·obtain ⟨u,hK,hrun⟩:=z48 (P:=P) (t:=t) (k':=k') h
     exact ⟨_,u,hK,zi3 r u,fun w _=>by simp [execOp,hop,e1,e2,hg w,hrun w]⟩
    ·split at h
     ·rename_i hk
      have hk:=of_decide_eq_true hk;subst hk;obtain ⟨u,hK,hrun⟩:=zdo (P:=P) (t:=t) h;exact ⟨_,u,hK,zi3 r u,fun w _=>by simp [execOp,hop,e1,e2,hg w,hrun w]⟩
     ·exact h.elim
   ·exact QRun.useD h hD hw1 hf
  ·exact QRun.useD h hD hw1 hf
 ·
  rename_i op t x hop;have hx:=hf.ev x
  split at h
  ·rename_i p ep
   rw [ep] at hx;have e1:=zi6 hx;exact ⟨_,_,h,zi3 r _,fun w _=>by simp [execOp,hop,e1,Op.unary]⟩
  ·exact QRun.useD h hD hw1 hf
 ·
  rename_i src dst x hop;have hx:=hf.ev x
  split at h
  ·rename_i k n ep
   rw [ep] at hx;have e1:=zi6 hx
   split at h
   ·rename_i q0 hq0
    split at h
    ·rename_i q hq
     obtain ⟨m,hm,hK⟩:=h;exact ⟨_,_,hK,zi3 r _,fun w _=>by simp [execOp,hop,e1,convert,underlying,hq0,hq,Conv.intToInt,hm]⟩
    ·exact QRun.useD h hD hw1 hf
   ·exact QRun.useD h hD hw1 hf
  ·exact QRun.useD h hD hw1 hf
 ·
  rename_i s x k hop;have hx:=hf.ev x
  split at h
  ·rename_i i off he
   rw [he] at hx;obtain ⟨b,hb,hu⟩:=zi4 hx
   split at h
   ·rename_i n hn
    exact ⟨_,_,h,zi1 hb,fun w _=>by simp [execOp,hop,hu,z2a hn]⟩
   ·exact h.elim
  ·rename_i b off he
   rw [he] at hx;have hu:=zi6 hx
   split at h
   ·rename_i n hn
    exact ⟨_,_,h,zi3 r _,fun w _=>by simp [execOp,hop,hu,z2a hn]⟩
   ·exact h.elim
  ·exact h.elim
 ·
  rename_i t x k hop;have hx:=hf.ev x
  split at h
  ·rename_i l he
   rw [he] at hx;obtain ⟨us,hu,hl⟩:=ziz hx;unfold fldK at h
   split at h
   ·rename_i fs hs
    split at h
    ·rename_i fl hfl
     obtain ⟨v,u,hK,hd,hrun⟩:=z2i h hl;exact ⟨v,u,hK,hd,fun w _=>by simp [execOp,hop,hu,Instr.field,underlying,hs,hfl,asAgg,hrun w]⟩
    ·exact h.elim
   ·exact h.elim
  ·exact h.elim
 ·
  rename_i x k hop;have hx:=hf.ev x
  split at h
  ·rename_i l he
   rw [he] at hx;obtain ⟨us,hu,hl⟩:=hx
   split at h
   ·rename_i p hp
    obtain ⟨u,h1,h2⟩:=zyf hl hp;exact ⟨_,u,h,h2,fun w _=>by simp [execOp,hop,hu,Instr.extract,h1]⟩
   ·exact h.elim
  ·exact h.elim
 ·
  rename_i t parts hop;obtain ⟨v,u,hK,hd,hrun⟩:=zef hR hf h;exact ⟨v,u,hK,hd,fun w _=>by simp only [execOp,hop,Sem.run_bind,hrun w,Result.andThen_ok,Sem.run_pure]⟩
 ·
  rename_i fn first cap hop
  split at h
  ·rename_i hfirst
   have ef:first= #[]:=Array.ext' hfirst
   split at h
   ·rename_i hcap
    have ec:cap= #[]:=Array.ext' hcap;exact ⟨_,.func (.func fn) #[] #[],h,by simp [AV.den,Pc.den,CV.den,denL],fun w _=>by simp [execOp,hop,Instr.makeFunc,ef,ec]⟩
   ·rename_i x hcap
    have ec:cap= #[x]:=Array.ext' hcap;have hx:=hf.ev x
    split at h
    ·rename_i c he
     rw [he] at hx;refine ⟨_,.func (.func fn) #[] #[a.eval x],h,?_,fun w _=>by simp [execOp,hop,Instr.makeFunc,ef,ec]⟩;simp only [AV.den,Pc.den,CV.den,denL];exact ⟨[a.eval x],rfl,_,_,rfl,hx,rfl⟩
    ·exact h.elim
   ·exact QRun.useD h hD hw1 hf
  ·exact QRun.useD h hD hw1 hf
 ·
  rename_i t x ix hop;rw [hop] at hty;have hx:=hf.ev x;have hi:=hf.ev ix
  split at h
  ·rename_i b off n c he
   rw [he] at hx;have hu:=zi6 hx
   split at h
   ·rename_i q k hk
    rw [hk] at hi;have hu2:=zi6 hi
    split at h
    ·rename_i e ht
     simp only [opTy,ht] at hty;obtain ⟨i,hie⟩:=Option.isSome_iff_exists.1 hty;obtain ⟨⟨h0,h1⟩,hK⟩:=h;refine ⟨_,_,hK,zi3 r _,fun w _=>?_⟩;simp only [execOp,hop,hu,hu2,Sem.run_bind,z2d ht hie h0 h1,Result.andThen_ok,Sem.run_pure,z82 hie]
    ·exact h.elim
   ·exact h.elim
  ·rename_i i he
   rw [he] at hx
   split at h
   ·rename_i q k hk
    rw [hk] at hi;have hu2:=zi6 hi
    split at h
    ·rename_i e ht
     simp only [opTy,ht] at hty;obtain ⟨i',hie⟩:=Option.isSome_iff_exists.1 hty
     split at h
     ·rename_i e' size n xs hS
      obtain ⟨⟨h0,h1⟩,hK⟩:=h;obtain ⟨v,hv1,hv2,hv3⟩:=hR.own i _ hS;have hux:r.val i=some (a.eval x):=(by simpa only [AV.den,Pc.den,CV.den] using hx);rw [hux] at hv1;injection hv1 with hv1;rcases hv3.2 with ⟨hn,hz⟩|⟨g,cap,cur,hv,_⟩
      ·omega
      ·rw [← hv1] at hv hv2
       have hb:r.blk i=some g:=(by rw [← hv2,hv];rfl);refine ⟨_,_,hK,zi1 hb,fun w _=>?_⟩;simp only [execOp,hop,hv,hu2,Sem.run_bind,z2d ht hie h0 h1,Result.andThen_ok,Sem.run_pure,z82 hie,Nat.zero_add]
     ·rename_i n xs hS
      obtain ⟨⟨h0,h1,hpos⟩,hK⟩:=h;obtain ⟨A,c,hv1,hv2,hv3,hv4,hv5⟩:=hR.own i _ hS;have hux:r.val i=some (a.eval x):=(by simpa only [AV.den,Pc.den,CV.den] using hx);obtain ⟨b,off,hA,_⟩:=hv5 0 xs[0] (by simp [hpos]);subst hA;rw [hux] at hv1;injection hv1 with hv1;refine ⟨_,.pointer (some ⟨b,off+k.toNat*i'.size,none⟩),hK,?_,fun w _=>?_⟩
      ·simp only [AV.den,Pc.den,CV.den]
       exact ⟨b,off,n,c,by rw [hux,hv1],by rw [z82 hie]⟩
      ·simp only [execOp,hop,hv1,hu2,Sem.run_bind,z2d ht hie h0 h1,Result.andThen_ok,Sem.run_pure]
     ·exact h.elim
    ·exact h.elim
   ·exact h.elim
  ·rename_i i off n c he
   rw [he] at hx;have hux:∃ b,r.blk i=some b∧a.eval x= .slice (some ⟨b,off,none⟩) n c:=(by simpa only [AV.den,Pc.den,CV.den] using hx);obtain ⟨b,hb,hu⟩:=hux
   split at h
   ·rename_i q k hk
    rw [hk] at hi;have hu2:=zi6 hi
    split at h
    ·rename_i e ht
     simp only [opTy,ht] at hty;obtain ⟨i',hie⟩:=Option.isSome_iff_exists.1 hty;obtain ⟨⟨h0,h1⟩,hK⟩:=h;refine ⟨_,_,hK,zi1 hb,fun w _=>?_⟩;simp only [execOp,hop,hu,hu2,Sem.run_bind,z2d ht hie h0 h1,Result.andThen_ok,Sem.run_pure,z82 hie]
    ·exact h.elim
   ·exact h.elim
  ·rename_i i off he
   rw [he] at hx;obtain ⟨b,hb,hu⟩:=zi4 hx
   split at h
   ·rename_i q k hk
    rw [hk] at hi;have hu2:=zi6 hi
    split at h
    ·rename_i n e ht
     simp only [opTy,ht] at hty;obtain ⟨i',hie⟩:=Option.isSome_iff_exists.1 hty;obtain ⟨⟨h0,h1⟩,hK⟩:=h;refine ⟨_,_,hK,zi1 hb,fun w _=>?_⟩;simp only [execOp,hop,hu,hu2,Sem.run_bind,z2c ht hie h0 h1,Result.andThen_ok,Sem.run_pure,z82 hie]
    ·exact h.elim
   ·exact h.elim
  ·exact QRun.useD h hD hw1 hf
 ·
  rename_i t x ix hop;rw [hop] at hty;have hx:=hf.ev x;have hi:=hf.ev ix
  split at h
  ·rename_i l he
   rw [he] at hx;obtain ⟨us,hu,hl⟩:=ziz hx
   split at h
   ·rename_i q k hk
    rw [hk] at hi;have hu2:=zi6 hi
    split at h
    ·rename_i n e ht
     simp only [opTy,ht] at hty;obtain ⟨i',hie⟩:=Option.isSome_iff_exists.1 hty;obtain ⟨⟨h0,h1⟩,hK⟩:=h;obtain ⟨v,u,hK',hd,hrun⟩:=z2i hK hl;refine ⟨v,u,hK',hd,fun w _=>?_⟩;have e3:=hrun w;rw [z82 hie] at e3;simp [execOp,hop,hu,hu2,Instr.index,asIntOf,underlying,ht,h0,h1,z2j P e w hie,e3]
    ·exact h.elim
   ·exact h.elim
  ·exact QRun.useD h hD hw1 hf
 ·
  rename_i args tys hop
  split at h
  ·rename_i x hargs
   have ea:args= #[x]:=Array.ext' hargs
   split at h
   ·rename_i t htys
    have et:tys= #[t]:=Array.ext' htys
    split at h
    ·rename_i e ht
     have hx:=hf.ev x
     split at h
     ·rename_i A n c he
      rw [he] at hx;have hu:=zi6 hx;exact ⟨_,_,h,zi3 r _,fun w _=>by simp [execOp,hop,ea,et,resolve,invoke,builtin,Builtin.len_,underlying,ht,hu,goInt]⟩
     ·rename_i i off n c he
      rw [he] at hx;have hux:∃ b,r.blk i=some b∧a.eval x= .slice (some ⟨b,off,none⟩) n c:=(by simpa only [AV.den,Pc.den,CV.den] using hx);obtain ⟨b,hb,hu⟩:=hux;exact ⟨_,_,h,zi3 r _,fun w _=>by simp [execOp,hop,ea,et,resolve,invoke,builtin,Builtin.len_,underlying,ht,hu,goInt]⟩
     ·rename_i i he
      rw [he] at hx
      split at h
      ·rename_i e' size n xs hS
       obtain ⟨v,hv1,hv2,hv3⟩:=hR.own i _ hS;have hux:r.val i=some (a.eval x):=(by simpa only [AV.den,Pc.den,CV.den] using hx);rw [hux] at hv1;injection hv1 with hv1;obtain ⟨A,c,hv⟩:=z13 hv3;rw [← hv1] at hv;exact ⟨_,_,h,zi3 r _,fun w _=>by simp [execOp,hop,ea,et,resolve,invoke,builtin,Builtin.len_,underlying,ht,hv,goInt]⟩
      ·rename_i n xs hS
       obtain ⟨A,c,hv1,_⟩:=hR.own i _ hS;have hux:r.val i=some (a.eval x):=(by simpa only [AV.den,Pc.den,CV.den] using hx);rw [hux] at hv1;injection hv1 with hv1;exact ⟨_,_,h,zi3 r _,fun w _=>by simp [execOp,hop,ea,et,resolve,invoke,builtin,Builtin.len_,underlying,ht,hv1,goInt]⟩
      ·exact h.elim
     ·exact h.elim
    ·exact QRun.useD h hD hw1 hf
   ·exact h.elim
  ·exact h.elim
 ·exact QRun.useD h hD hw1 hf
theorem z1s (σ:Nat→Nat):∀ us:List Value,renL σ (us.map CV.v)=us.map CV.v
 |[]=>rfl
 |u::us=>by simp only [List.map_cons,renL,CV.ren,z1s σ us]
structure NewObjs (w w':World) (gs:List Nat) (U:List Ow):Prop where
 at_:ObjsAt w' gs U
 fresh:∀ g∈gs,w.heap.size≤g
 below:Below w.heap.size w w'
def zke (r:Env) (n:Nat) (gs:List Nat):Env:=⟨fun i=>if i<n then r.blk i else gs[i-n]?,r.val⟩
theorem Rel.newObjs {w0:World} {G:Gs} {S U V:List Ow} {r:Env} {w w':World} {gs:List Nat} (hR:Rel w0 G S r w) (h:NewObjs w w' gs U) (hsh:ShAll S.length U V) (hob:zaj U.length U):Rel w0 G (S++V) (zke r S.length gs) w'∧r.le (zke r S.length gs):=by
 have hVl:=hsh.length;have hUl:=h.at_.len
 have hfrom:∀ i b,i<U.length→(zkf gs).blk i=some b→(zke r S.length gs).blk (S.length+i)=some b:=fun i b _ hb=>by
  show (if S.length+i<S.length then _ else gs[S.length+i-S.length]?)=some b;rw [if_neg zO,show S.length+i-S.length=i by omega];exact hb
 refine hR.snocs h.below V (zke r S.length gs) (fun i hi=>⟨if_pos hi,rfl⟩) (fun i x hi hx=>?_) (fun i j x hi hj hx hy=>?_) (fun i hi=>?_) (fun j o hj=>?_)
 ·have hx:(if i<S.length then r.blk i else gs[i-S.length]?)=some x:=hx
  rw [if_neg zO] at hx;have hm:=List.mem_of_getElem? hx;exact ⟨h.fresh x hm,h.at_.lt x hm⟩
 ·have hx:(if i<S.length then r.blk i else gs[i-S.length]?)=some x:=hx
  have hy:(if j<S.length then r.blk j else gs[j-S.length]?)=some x:=hy;rw [if_neg zO] at hx hy;have:=h.at_.nodup _ _ x hx hy;omega
 ·have hlt:¬i<S.length:=by omega
  refine ⟨?_,hR.outV i zO⟩;show (if i<S.length then r.blk i else gs[i-S.length]?)=none;rw [if_neg hlt,List.getElem?_eq_none zO]
 ·obtain ⟨o',h1,h2⟩:=hsh.get' j hj
  have h3:=h.at_.own j o' h1;have h4:=hob o' (List.mem_of_getElem? h1)
  have hjl:j<U.length:=by
   rcases Nat.lt_or_ge j U.length with h5|h5
   ·exact h5
   ·rw [List.getElem?_eq_none h5] at h1;cases h1
  cases o' with
  |cells t l=>
   cases o with
   |cells t' l'=>
    obtain ⟨rfl,rfl⟩:=h2;obtain ⟨b,us,e1,e2,e3⟩:=h3;exact ⟨b,us,hfrom j b hjl e1,e2,z4t (n:=U.length) hfrom h4 e3⟩
   |row=>exact h2.elim
   |ext=>exact h2.elim
   |view=>exact h2.elim
   |gone=>exact h2.elim
  |row=>exact h4.elim
  |ext=>exact h4.elim
  |view=>exact h4.elim
  |gone=>exact h4.elim
theorem ze7 {P:Program} {w0:World} {G:Gs} {fid:FuncId} {args:List AV} {xs:List Value} {S:List Ow} {K:AV→List Ow→Prop} (U V:List Ow) (hx:avals args=some xs) (hok:fnOk P fid=true) (hsh:ShAll S.length U V) (hob:zaj U.length U)
  (h:∀ r w,Rel w0 G S r w→Calls P fid xs.toArray w fun e w'=>∃ g gs,e= .returned (.pointer (some ⟨g,0,none⟩))∧NewObjs w w' (g::gs) U) (hK:K (.p (.c (.ref S.length 0))) (S++V)):CallS P w0 G fid args S K:=by
 refine ⟨hok,fun r w us hR hd=>?_⟩;obtain rfl:=zcs hx hd;refine (h r w hR).mono fun e w' ⟨g,gs,he,hn⟩=>?_;obtain ⟨h1,h2⟩:=hR.newObjs hn hsh hob;refine ⟨_,_,_,_,he,zi1 ?_,h1,h2,hK⟩;show (if S.length<S.length then r.blk S.length else (g::gs)[S.length-S.length]?)=some g;rw [if_neg zO,Nat.sub_self];rfl
theorem zmm {w0:World} {S:List Ow} {R:Ending→World→Prop} (k:Nat) (U V:List Ow) (hpos:0<U.length) (hS:∀ i,i<U.length→S[k+i]?=V[i]?) (hsh:ShAll k U V) (hob:zaj U.length U)
  (h:∀ w g gs,NewObjs w0 w (g::gs) U→R (.returned (.pointer (some ⟨g,0,none⟩))) w):Fin w0 Gs.nil S (.p (.c (.ref k 0))) R:=by
 refine ⟨fun r w u hR hd=>?_⟩;obtain ⟨g,hg,rfl⟩:=zi4 hd
 have hnew:∀ i b,r.blk i=some b→w0.heap.size≤b:=fun i b hb=>by
  rcases Nat.lt_or_ge b w0.heap.size with h1|h1
  ·exact absurd ((hR.new i b hb).2 h1) zS
  ·exact h1
 have hown:∀ i,i<U.length→∃ b t l,U[i]?=some (.cells t l)∧r.blk (k+i)=some b∧∃ us:List Value,w.heap[b]?=some (.cells us.toArray t (0,0))∧denL r (l.map (CV.sh k)) us:=fun i hi=>by
  have hu:=List.getElem?_eq_getElem hi;obtain ⟨o',h1,h2⟩:=hsh.get i hu;have h3:=hR.own (k+i) o' (by rw [hS i hi,h1]);have h4:=hob _ (List.getElem_mem hi)
  cases ho:U[i] with
  |cells t l=>
   rw [ho] at h2 hu
   cases o' with
   |cells t' l'=>
    obtain ⟨rfl,rfl⟩:=h2;obtain ⟨b,us,e1,e2,e3⟩:=h3;exact ⟨b,t,l,hu,e1,us,e2,e3⟩
   |row=>exact h2.elim
   |ext=>exact h2.elim
   |view=>exact h2.elim
   |gone=>exact h2.elim
  |row=>rw [ho] at h4;exact h4.elim
  |ext=>rw [ho] at h4;exact h4.elim
  |view=>rw [ho] at h4;exact h4.elim
  |gone=>rw [ho] at h4;exact h4.elim
 obtain ⟨gs,hgl,hgs⟩:∃ gs:List Nat,gs.length=U.length∧∀ i,i<U.length→gs[i]?=r.blk (k+i):=by
  refine ⟨(List.range U.length).map fun i=>(r.blk (k+i)).getD 0,by simp,fun i hi=>?_⟩;obtain ⟨b,_,_,_,hb,_⟩:=hown i hi;rw [List.getElem?_map,List.getElem?_range hi,hb];simp [hb]
 have hto:∀ i b,i<U.length→r.blk (k+i)=some b→(zkf gs).blk i=some b:=fun i b hi hb=>by
  show gs[i]?=some b;rw [hgs i hi];exact hb
 have hin:∀ (i b:Nat),gs[i]?=some b→i<U.length∧r.blk (k+i)=some b:=fun i b hb=>by
  have hi:i<U.length:=by
   rcases Nat.lt_or_ge i U.length with h1|h1
   ·exact h1
   ·rw [List.getElem?_eq_none zO] at hb;cases hb
  exact ⟨hi,by rw [← hgs i hi];exact hb⟩
 have hmem:∀ b,b∈gs→∃ i,i<U.length∧r.blk (k+i)=some b:=fun b hb=>by
  obtain ⟨i,hi⟩:=List.getElem?_of_mem hb;exact ⟨i,hin i b hi⟩
 have hU:NewObjs w0 w gs U:=by
  refine ⟨⟨hgl.symm,fun i j b hi hj=>?_,fun b hb=>?_,fun i o ho=>?_⟩,fun b hb=>?_,hR.toBelow⟩
  ·have:=hR.inj _ _ b (hin i b hi).2 (hin j b hj).2
   omega
  ·obtain ⟨i,_,hi⟩:=hmem b hb
   exact (hR.new _ b hi).1
  ·have hi:i<U.length:=by
    rcases Nat.lt_or_ge i U.length with h1|h1
    ·exact h1
    ·rw [List.getElem?_eq_none h1] at ho;cases ho
   obtain ⟨b,t,l,e1,e2,us,e3,e4⟩:=hown i hi;rw [ho] at e1;injection e1 with e1;subst e1;exact ⟨b,us,hto i b hi e2,e3,zit (n:=U.length) hto (hob _ (List.mem_of_getElem? ho)) e4⟩
  ·obtain ⟨i,_,hi⟩:=hmem b hb
   exact hnew _ b hi
 cases gs with
 |nil=>simp at hgl;omega
 |cons g' gs=>
  have:=hto 0 g hpos (by simpa using hg);have:g'=g:=(by injection this);subst this;exact h w g' gs hU
theorem ObjsAt.later {w w':World} {gs:List Nat} {U:List Ow} (hob:zaj U.length U) (h:ObjsAt w gs U) (hs:w.heap.size≤w'.heap.size) (hk:∀ g∈gs,w'.heap[g]?=w.heap[g]?):ObjsAt w' gs U:=
 ⟨h.len,h.nodup,fun g hg=>Nat.lt_of_lt_of_le (h.lt g hg) hs,fun i o ho=>by
  have h1:=h.own i o ho;have h2:=hob o (List.mem_of_getElem? ho)
  cases o with
  |cells t l=>
   obtain ⟨b,us,e1,e2,e3⟩:=h1;exact ⟨b,us,e1,by rw [hk b (List.mem_of_getElem? (show gs[i]?=some b from e1))];exact e2,e3⟩
  |row=>exact h2.elim
  |ext=>exact h2.elim
  |view=>exact h2.elim
  |gone=>exact h2.elim⟩
theorem ObjsAt.below {w w':World} {gs:List Nat} {U:List Ow} (hob:zaj U.length U) (h:ObjsAt w gs U) (hB:Below w.heap.size w w'):ObjsAt w' gs U:=
 h.later hob hB.size fun g hg=>hB.block g (h.lt g hg)
end Go.Proofs.YtocafomnnkmjfaaGreat
