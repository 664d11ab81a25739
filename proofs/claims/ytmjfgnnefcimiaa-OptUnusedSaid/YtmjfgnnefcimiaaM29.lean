/- Strings of bytes, over states that are known part by part. Walks: the reference's memory. Walks: the passes until nothing changes. Walks: Live. Walks: the maker of blocks: Made of layer 12. -/
import Derived.Test.YtmjfgnnefcimiaaM1
import Derived.Test.YtmjfgnnefcimiaaM13
import Derived.Test.YtmjfgnnefcimiaaM14
import Derived.Test.YtmjfgnnefcimiaaM15
import Derived.Test.YtmjfgnnefcimiaaM16
import Derived.Test.YtmjfgnnefcimiaaM17
import Derived.Test.YtmjfgnnefcimiaaM18
import Derived.Test.YtmjfgnnefcimiaaM19
import Derived.Test.YtmjfgnnefcimiaaM20
import Derived.Test.YtmjfgnnefcimiaaM21
import Derived.Test.YtmjfgnnefcimiaaM22
import Derived.Test.YtmjfgnnefcimiaaM23
import Derived.Test.YtmjfgnnefcimiaaM24
import Derived.Test.YtmjfgnnefcimiaaM25
import Derived.Test.YtmjfgnnefcimiaaM26
import Derived.Test.YtmjfgnnefcimiaaM27
import Derived.Test.YtmjfgnnefcimiaaM28
import Derived.Test.YtmjfgnnefcimiaaM3
import Derived.Test.YtmjfgnnefcimiaaM5
import Derived.Test.YtmjfgnnefcimiaaM6
import Derived.Test.YtmjfgnnefcimiaaM7
namespace Go.Proofs.Ytmjfgnnefcimiaa
open Go.RowKit

def bytesA (l : List Int) : ByteArray := l.foldl (fun r n => r.push (UInt8.ofNat n.toNat)) ByteArray.empty
def strV (l : List Int) : Value := .string (bytesA l)
theorem bytes_push : ∀ (l : List Int) (s : ByteArray), (l.foldl (fun r n => r.push (UInt8.ofNat n.toNat)) s).data.toList = s.data.toList ++ l.map fun n => UInt8.ofNat n.toNat
  | [], s => by simp
  | n :: l, s => by
    rw [List.foldl_cons, bytes_push l]
    simp [ByteArray.push]
theorem bytesA_list (l : List Int) : (bytesA l).data.toList = l.map fun n => UInt8.ofNat n.toNat := by
  have := bytes_push l ByteArray.empty
  rw [show ByteArray.empty.data.toList = [] from rfl, List.nil_append] at this
  exact this
theorem bytesA_size (l : List Int) : (bytesA l).size = l.length := by
  show (bytesA l).data.size = _
  rw [← Array.length_toList, bytesA_list, List.length_map]
theorem bytesA_get {l : List Int} {i : Nat} {b : Int} (h : l[i]? = some b) : (bytesA l)[i]? = some (UInt8.ofNat b.toNat) := by
  have h1 : (bytesA l).data.toList[i]? = some (UInt8.ofNat b.toNat) := by rw [bytesA_list, List.getElem?_map, h]; rfl
  have h2 : (bytesA l).data[i]? = some (UInt8.ofNat b.toNat) := by simpa using h1
  have hi : i < (bytesA l).size := by
    rw [bytesA_size]
    rcases Nat.lt_or_ge i l.length with h3 | h3
    · exact h3
    · rw [List.getElem?_eq_none h3] at h; cases h
  rw [getElem?_pos (bytesA l) i hi]
  have h3 : i < (bytesA l).data.size := hi
  rw [Array.getElem?_eq_getElem h3] at h2
  exact h2
section
variable {P : Program} {w0 : World} {G : Gs} {S : List Ow} {f : Fr} {o : Oper} {K : AV → Prop}
theorem q_len_str {x : Operand} {t : TypeId} (l : List Int) (hop : o.op = .call ⟨.builtin .len, #[x], #[t]⟩) (ht : P.underlying t = some .string) (hx : f.ev x = one (strV l)) (hk : K (one (.int .i64 (l.length : Int)))) : QRun P w0 G S f o K := by
  refine ⟨_, hk, fun r a hf => ?_⟩
  have h1 := hf.ev x
  rw [hx] at h1
  refine ⟨_, rfl, fun w hR => ?_⟩
  simp [execOp, hop, resolve, invoke, builtin, den_v h1, strV, bytesA_size, Builtin.len_, run_underlying ht, goInt]
theorem q_index_str {x ix : Operand} {t : TypeId} (l : List Int) (k : IntKind) (i : Nat) (b : Int) (hop : o.op = .index t x ix) (ht : P.underlying t = some .string) (hx : f.ev x = one (strV l)) (hi : f.ev ix = one (.int k (i : Int))) (hb : l[i]? = some b) (hr : 0 ≤ b ∧ b < 256) (hk : K (one (.int .u8 b))) : QRun P w0 G S f o K := by
  refine ⟨_, hk, fun r a hf => ?_⟩
  have h1 := hf.ev x
  have h2 := hf.ev ix
  rw [hx] at h1; rw [hi] at h2
  refine ⟨_, rfl, fun w hR => ?_⟩
  have hg := bytesA_get hb
  have hbb : (UInt8.ofNat b.toNat).toNat = b.toNat := by simp; omega
  simp [execOp, hop, den_v h1, den_v h2, strV, Instr.index, run_underlying ht, hg, asIntOf, hbb]
  omega
theorem q_conv_str {x : Operand} {src dst e : TypeId} {te : TypeId} (i n c : Nat) (l : List Int) (hop : o.op = .convert src dst x) (hs : P.underlying src = some (.slice e)) (he : P.underlying e = some (.int .u8)) (hd : P.underlying dst = some .string) (hx : f.ev x = .p (.c (.sl i 0 n c))) (hi : S[i]? = some (.cells te ((l.map (Value.int .u8)).map .v))) (hn : l.length = n) (hk : K (one (strV l))) : QRun P w0 G S f o K := by
  refine ⟨_, hk, fun r a hf => ?_⟩
  have h1 := hf.ev x
  rw [hx] at h1
  obtain ⟨b, hb, hu⟩ := den_sl h1
  refine ⟨_, rfl, fun w hR => ?_⟩
  obtain ⟨b', us, e1, e2, e3⟩ := hR.own i _ hi
  rw [hb] at e1; injection e1 with e1; subst e1
  obtain rfl := denL_vals_inv e3
  have hl : (loadCells ⟨b, 0, none⟩ n).run P w = .ok (l.map (Value.int .u8)).toArray w := by
    unfold loadCells
    have := run_loadCells (P := P) (w := w) (b := b) (off := 0) n 0 #[] (l.map (Value.int .u8)) (by simp [hn]) (fun j u hj => by simpa [World.cell?, e2] using hj)
    simpa using this
  simp [execOp, hop, hu, run_convert_bytes_string w src dst e _ n c hs he hd, run_bytesToString w _ n c l hl, strV, bytesA]
end
/-- makeSlice: the block is known cell by cell. -/
theorem op_makeCells {P : Program} {w0 : World} {G : Gs} {N : Nd} {o : Oper} {f : Fr} {S : List Ow} {K : Fr → List Ow → Prop} {t e : TypeId} {i : TypeInfo} {z : Value} {x y : Operand} (size n : Nat) (hop : o.op = .makeSlice t x y) (ht : P.underlying t = some (.slice e)) (hi : P.info? e = some i) (hz : i.zero = some z) (hsize : i.size = size)
    (hx : f.ev x = one (.int .i64 (n : Int))) (hy : f.ev y = one (.int .i64 (n : Int))) (hn : n * size ≤ 16777216) (hb : i.bytes * n ≤ 281474976710656) (hm : n ≤ maxLen) (hdst : dstOk N.n o.dst = true) {xs : List Value} (hxs : (madeCells z.cells (n * size)).toList = xs)
    (hk : K (f.put o.dst (.p (.c (.sl S.length 0 n n)))) (S ++ [.cells e (xs.map .v)])) : OpS P w0 G N o f S K := by
  refine ⟨fun r a w hR hf hN hd next Q hK => ?_⟩
  have h1 := hf.ev x
  have h2 := hf.ev y
  rw [hx] at h1; rw [hy] at h2
  have hrun := run_makeSlice (P := P) (w := w) t e i z ht hi hz .i64 .i64 (n : Int) (n : Int) (by omega) (Int.le_refl _) (by rw [hsize, Int.toNat_natCast]; exact hn) (by have := Int.ofNat_le.2 hb; simpa using this) (by have := Int.ofNat_le.2 hm; exact this)
  rw [Int.toNat_natCast, hsize] at hrun
  have hex : (execOp a.eval o).run P w = .ok (.value (.slice (some ⟨w.heap.size, 0, none⟩) n n)) (w.alloc (.cells (madeCells z.cells (n * size)) e)) := by
    simp [execOp, hop, den_v h1, den_v h2, hrun]
  have hB : Below w.heap.size w (w.alloc (.cells (madeCells z.cells (n * size)) e)) := Below.alloc (Below.refl _ _) (Nat.le_refl _) _
  have hle := hR.le_new (some w.heap.size) none
  refine wp_of_value hex (hK _ _ _ _ hk (good_value hR hf hN hd hdst (r' := r.set S.length (some w.heap.size) none) ?_ (hR.snoc hB (fun x hx => by injection hx with hx; subst hx; exact ⟨Nat.le_refl _, by show w.heap.size < (w.heap.push _).size; simp⟩) ⟨w.heap.size, xs, by simp [Env.set], by show (w.heap.push _)[w.heap.size]? = _; simp [← hxs], denL_vals xs⟩) hle))
  simp only [AV.den, Pc.den, CV.den]
  exact ⟨w.heap.size, by simp [Env.set], rfl⟩
end Go.Proofs.Ytmjfgnnefcimiaa
namespace Go.Proofs.Ytmjfgnnefcimiaa
open Go.RowKit

/-- A memory that is not coherent. -/
structure MemP where
  data : List Int
  image : List Int
  oldData : List Int
  oldImage : List Int
  rights : List Int
abbrev byteV (x : Int) : Value := .int .u8 x
abbrev intV (x : Int) : Value := .int .i64 x
def MemP.dV (M : MemP) : List Value := M.data.map byteV
def MemP.iV (M : MemP) : List Value := M.image.map byteV
def MemP.odV (M : MemP) : List Value := M.oldData.map byteV
def MemP.oiV (M : MemP) : List Value := M.oldImage.map byteV
def MemP.rV (M : MemP) : List Value := M.rights.map intV
/-- A memory of n bytes and p pages in own entries k and behind. -/
abbrev memS (k n p : Nat) (M : MemP) : List Ow :=
  [.cells 95 [.sl (k + 1) 0 n n, .sl (k + 2) 0 n n, .sl (k + 3) 0 n n, .sl (k + 4) 0 n n, .sl (k + 5) 0 p p, .v (.bool false)],
   .cells 5 (M.dV.map .v), .cells 5 (M.iV.map .v), .cells 5 (M.odV.map .v), .cells 5 (M.oiV.map .v), .cells 3 (M.rV.map .v)]
structure MemP.ok (M : MemP) (n p : Nat) : Prop where
  ld : M.data.length = n
  li : M.image.length = n
  lr : M.rights.length = p
  np : n = 256 * p
  pmax : p ≤ 4096
  db : ∀ x ∈ M.data, 0 ≤ x ∧ x < 256
  ib : ∀ x ∈ M.image, 0 ≤ x ∧ x < 256
  rb : ∀ x ∈ M.rights, 0 ≤ x ∧ x < 8
theorem sh_vals (k : Nat) (us : List Value) : (us.map CV.v).map (CV.sh k) = us.map CV.v := by
  rw [List.map_map]; rfl
theorem memS_sh (k n p : Nat) (M : MemP) : ShAll k (memS 0 n p M) (memS k n p M) := by
  refine ⟨⟨rfl, ?_⟩, ⟨rfl, (sh_vals k _).symm⟩, ⟨rfl, (sh_vals k _).symm⟩, ⟨rfl, (sh_vals k _).symm⟩, ⟨rfl, (sh_vals k _).symm⟩, ⟨rfl, (sh_vals k _).symm⟩, trivial⟩
  simp [CV.sh]
theorem ob_vals (n : Nat) (us : List Value) : ∀ c ∈ us.map CV.v, c.ob n = true := fun c hc => by
  obtain ⟨u, _, rfl⟩ := List.mem_map.1 hc; rfl
theorem memS_ob (n p : Nat) (M : MemP) : ObAll 6 (memS 0 n p M) := by
  intro o ho
  simp only [memS, List.mem_cons, List.not_mem_nil, or_false] at ho
  rcases ho with rfl | rfl | rfl | rfl | rfl | rfl
  · intro c hc
    simp only [List.mem_cons, List.not_mem_nil, or_false] at hc
    rcases hc with rfl | rfl | rfl | rfl | rfl | rfl <;> rfl
  · exact ob_vals 6 _
  · exact ob_vals 6 _
  · exact ob_vals 6 _
  · exact ob_vals 6 _
  · exact ob_vals 6 _
theorem six_blocks {w : World} {gs : List Nat} {n p : Nat} {M : MemP} (h : ObjsAt w gs (memS 0 n p M)) : ∃ g0 g1 g2 g3 g4 g5, gs = [g0, g1, g2, g3, g4, g5] := by
  have := h.len
  match gs, this with
  | [g0, g1, g2, g3, g4, g5], _ => exact ⟨g0, g1, g2, g3, g4, g5, rfl⟩
theorem sub_append {U T : List Ow} : ∀ (i : Nat) (o : Ow), U[i]? = some o → (U ++ T)[i]? = some o := fun i o h => by
  have hi : i < U.length := by
    rcases Nat.lt_or_ge i U.length with h1 | h1
    · exact h1
    · rw [List.getElem?_eq_none h1] at h; cases h
  rw [List.getElem?_append_left hi]; exact h
theorem putS_same {S V : List Ow} {k : Nat} (h : ∀ i, i < V.length → S[k + i]? = V[i]?) : putS S k V = S := by
  rcases Nat.eq_zero_or_pos V.length with h0 | hpos
  · rw [List.eq_nil_of_length_eq_zero h0]; rfl
  have hlen : k + V.length ≤ S.length := by
    have h1 := h (V.length - 1) (by omega)
    rw [List.getElem?_eq_getElem (by omega : V.length - 1 < V.length)] at h1
    rcases Nat.lt_or_ge (k + (V.length - 1)) S.length with h3 | h3
    · omega
    · rw [List.getElem?_eq_none h3] at h1; cases h1
  refine List.ext_getElem? fun j => ?_
  rw [putS_get _ _ _ _ hlen]
  split
  · rename_i hj
    rw [← h (j - k) (by omega), show k + (j - k) = j by omega]
  · rfl
section
variable {w0 : World} {G : Gs} {fid : FuncId} {S : List Ow} {K : AV → List Ow → Prop} {pre suf : List AV} {xs ys : List Value} {P : Program}
/-- A call that is handed a memory and turns it. -/
theorem call_memW (k n p : Nat) (M M' : MemP) (X : Value) (hS : ∀ i, i < 6 → S[k + i]? = (memS k n p M)[i]?) (hx : avals pre = some xs) (hy : avals suf = some ys) (hok : fnOk P fid = true)
    (h : ∀ w g gs, OldKeeps w0 G w (g :: gs) → ObjsAt w (g :: gs) (memS 0 n p M) → Calls P fid (xs ++ .pointer (some ⟨g, 0, none⟩) :: ys).toArray w fun e w' => e = .returned X ∧ ObjsAt w' (g :: gs) (memS 0 n p M') ∧ GrownBys w w' (g :: gs))
    (hK : K (AV.of X) (putS S k (memS k n p M'))) : CallS P w0 G fid (pre ++ .p (.c (.ref k 0)) :: suf) S K :=
  call_objs (α := Unit) k (memS 0 n p M) (memS k n p M) (fun _ => memS 0 n p M') (fun _ => memS k n p M') (fun _ => X) (fun _ => True) (by simp) (memS_sh k n p M) (memS_ob n p M) hS hx hy hok (fun _ _ => memS_sh k n p M') (fun _ _ => memS_ob n p M') (fun _ _ => rfl)
    (fun w g gs hk hU => (h w g gs hk hU).mono fun e w' ⟨h1, h2, h3⟩ => ⟨(), trivial, h1, h2, h3⟩) (fun _ _ => hK)
/-- A call that is handed a memory and only reads it. -/
theorem call_memR (k n p : Nat) (M : MemP) (X : Value) (hS : ∀ i, i < 6 → S[k + i]? = (memS k n p M)[i]?) (hx : avals pre = some xs) (hy : avals suf = some ys) (hok : fnOk P fid = true)
    (h : ∀ w g gs, OldKeeps w0 G w (g :: gs) → ObjsAt w (g :: gs) (memS 0 n p M) → Calls P fid (xs ++ .pointer (some ⟨g, 0, none⟩) :: ys).toArray w fun e w' => e = .returned X ∧ ObjsAt w' (g :: gs) (memS 0 n p M) ∧ GrownBys w w' (g :: gs))
    (hK : K (AV.of X) S) : CallS P w0 G fid (pre ++ .p (.c (.ref k 0)) :: suf) S K :=
  call_memW k n p M M X hS hx hy hok h (by rw [putS_same (fun i hi => hS i hi)]; exact hK)
end
set_option maxRecDepth 100000 in
theorem mem_in (M : MemP) (n p : Nat) (a : Int) (w : World) (g : Nat) (gs : List Nat) (hU : ObjsAt w (g :: gs) (memS 0 n p M)) (_hM : M.ok n p) (ha : word a) :
    Calls Try.prog 87 #[.pointer (some ⟨g, 0, none⟩), .int .u32 a] w fun e w' => e = .returned (.bool (decide (a < (n : Int)))) ∧ ObjsAt w' (g :: gs) (memS 0 n p M) ∧ GrownBys w w' (g :: gs) := by
  obtain ⟨g0, g1, g2, g3, g4, g5, hg⟩ := six_blocks hU
  injection hg with hg0 hgs
  subst hgs; subst hg0
  refine calls_objs [.p (.c (.ref 0 0)), one (.int .u32 a)] [.pointer (some ⟨g, 0, none⟩), .int .u32 a] Try.func87 Try.ntmps87 rfl (by simp) hU ⟨_, _, rfl, den_mk_ref rfl, avdenL_of [.int .u32 a]⟩ ?_
  conv => whnf
  refine ⟨a, wr64 (by unfold word at ha; omega), ?_⟩
  conv => whnf
  exact fin_objs rfl rfl (fun i o h => h) (memS_ob n p M) fun w' h1 h2 => ⟨rfl, h1, h2⟩
theorem bndL_vals (n : Nat) : ∀ us : List Value, bndL n (us.map CV.v) = true
  | [] => rfl
  | u :: us => by simp only [List.map_cons, bndL, CV.bnd]; exact bndL_vals n us
theorem grp_mem (g g1 g2 g3 g4 g5 n p : Nat) (M : MemP) : grpOk ⟨[g, g1, g2, g3, g4, g5], []⟩ (memS 0 n p M) = true := by
  show sbnd 6 (memS 0 n p M) = true
  simp only [sbnd, Ow.bnd, bndL_vals, bndL, CV.bnd]
  rfl
def MemP.right (M : MemP) (a r : Int) : Bool := decide (a < (M.data.length : Int)) && (((M.rights[(a / 256).toNat]?).getD 0) / r % 2 == 1)
set_option maxRecDepth 100000 in
theorem mem_right (M : MemP) (n p : Nat) (a r : Int) (w : World) (g : Nat) (gs : List Nat) (hU : ObjsAt w (g :: gs) (memS 0 n p M)) (hM : M.ok n p) (ha : word a) (hr : r = 1 ∨ r = 2 ∨ r = 4) :
    Calls Try.prog 116 #[.pointer (some ⟨g, 0, none⟩), .int .u32 a, .int .i64 r] w fun e w' => e = .returned (.bool (M.right a r)) ∧ ObjsAt w' (g :: gs) (memS 0 n p M) ∧ GrownBys w w' (g :: gs) := by
  obtain ⟨g0, g1, g2, g3, g4, g5, hg⟩ := six_blocks hU
  injection hg with hg0 hgs
  subst hgs; subst hg0
  refine calls_objs [.p (.c (.ref 0 0)), one (.int .u32 a), one (.int .i64 r)] [.pointer (some ⟨g, 0, none⟩), .int .u32 a, .int .i64 r] Try.func116 Try.ntmps116 rfl (by simp) hU ⟨_, _, rfl, den_mk_ref rfl, avdenL_of [.int .u32 a, .int .i64 r]⟩ ?_
  conv => whnf
  refine call_memR (pre := []) (suf := [one (.int .u32 a)]) 0 n p M (.bool (decide (a < (n : Int)))) (fun i hi => by rw [Nat.zero_add]) rfl rfl (by kernel_rfl) (fun w' g gs hk hU => mem_in M n p a w' g gs hU hM ha) ?_
  conv => whnf
  have hw : 0 ≤ a ∧ a < 4294967296 := ha
  refine ⟨((M.rights[(a / 256).toNat]?).getD 0) / r % 2 == 1, fun hin => ?_, ?_⟩
  · have hlt : a < (n : Int) := by simpa using hin
    have hnp := hM.np
    have hq : (a / 256).toNat < p := by omega
    obtain ⟨x, hx⟩ : ∃ x, M.rights[(a / 256).toNat]? = some x := ⟨_, List.getElem?_eq_getElem (by rw [hM.lr]; exact hq)⟩
    have hxb := hM.rb x (List.mem_of_getElem? hx)
    have hget : (M.rV.map CV.v)[(a / 256).toNat]? = some (.v (intV x)) := by unfold MemP.rV; rw [List.getElem?_map, List.getElem?_map, hx]; rfl
    rw [hx]
    conv => whnf
    refine ⟨by decide, a / 256, by rw [Int.tdiv_eq_ediv_of_nonneg hw.1, wr32]; omega, ?_⟩
    conv => whnf
    refine ⟨⟨by omega, by omega⟩, ?_⟩
    conv => whnf
    rw [show (List.map CV.v M.rV)[0 + (a / 256).toNat * tsz Try.prog 3]? = some (.v (intV x)) by show (List.map CV.v M.rV)[0 + (a / 256).toNat * 1]? = _; rw [Nat.zero_add, Nat.mul_one]; exact hget]
    conv => whnf
    have hr0 : 0 < r := by omega
    have hd0 : 0 ≤ x / r := Int.ediv_nonneg hxb.1 (by omega)
    have hd1 : x / r ≤ x := Int.ediv_le_self _ hxb.1
    refine ⟨by omega, x / r, by rw [Int.tdiv_eq_ediv_of_nonneg hxb.1]; exact wr64 (by omega), ?_⟩
    conv => whnf
    refine ⟨by decide, x / r % 2, Int.tmod_eq_emod_of_nonneg hd0, ?_⟩
    conv => whnf
    exact ⟨rfl, rfl, rfl, rfl, grp_mem _ _ _ _ _ _ _ _ _⟩
  conv => whnf
  refine fin_objs rfl rfl (fun i o h => h) (memS_ob n p M) fun w' h1 h2 => ⟨?_, h1, h2⟩
  unfold MemP.right
  rw [hM.ld]; rfl
end Go.Proofs.Ytmjfgnnefcimiaa
namespace Go.Proofs.Ytmjfgnnefcimiaa
open Go.RowKit

theorem fin_view {w0 : World} {S : List Ow} {i n : Nat} {xs : List Value} {φ : Option Addr → Prop} {l : List BOp} {x1 x2 : Value} {R : Ending → World → Prop} (hi : S[i]? = some (.view φ n xs)) (hn : n = l.length) (hx : xs = l.flatMap opC)
    (h : ∀ w' A c, OpsAt w' w'.heap.size A l → l.length ≤ c → c ≤ maxLen → φ A → Below w0.heap.size w0 w' → R (.returned (.agg #[x1, x2, .slice A l.length c])) w') : Fin w0 Gs.nil S (.p (.agg [.v x1, .v x2, .row i])) R := by
  refine ⟨fun r w u hR hd => ?_⟩
  subst hn; subst hx
  obtain ⟨us, rfl, hl⟩ := den_agg hd
  simp only [denL] at hl
  obtain ⟨u1, l1, rfl, d1, u2, l2, rfl, d2, u3, l3, rfl, d3, rfl⟩ := hl
  simp only [CV.den] at d1 d2 d3
  subst d1; subst d2
  obtain ⟨A, c, rfl, hs, hc1, hc2, hA, _⟩ := viewAt hR hi d3
  exact h w A c hs hc1 hc2 hA hR.toBelow
theorem call_equal_views {w0 : World} {G : Gs} {S : List Ow} {K : AV → List Ow → Prop} (i j : Nat) (l m : List BOp) {φ ψ : Option Addr → Prop} (hi : S[i]? = some (.view φ l.length (l.flatMap opC))) (hj : S[j]? = some (.view ψ m.length (m.flatMap opC))) (hl : l.length ≤ 1000000) (hK : K (one (.bool (l == m))) S) :
    CallS Try.prog w0 G 77 [.p (.c (.row i)), .p (.c (.row j))] S K := by
  refine callS_val (.bool (l == m)) (by kernel_rfl) (fun r w us hR hd => ?_) hK
  obtain ⟨u1, l1, rfl, d1, u2, l2, rfl, d2, d3⟩ := hd
  obtain rfl : l2 = [] := d3
  obtain ⟨A, c, rfl, hs, _⟩ := viewAt hR hi (den_row d1)
  obtain ⟨A', c', rfl, hs', _⟩ := viewAt hR hj (den_row d2)
  exact equal_ops A A' c c' l m w hs hs' hl
def passV : List Value := [.func (.func 17) #[] #[], .func (.func 18) #[] #[], .func (.func 19) #[] #[]]
structure RepSt (mu : Blk → Nat) (b0 : Blk) where
  b : Blk
  ok : b.ok
  hat : b.at_ = b0.at_
  hpg : b.pages = b0.pages
  eq : optN (mu b0) b0 = optN (mu b) b
set_option maxRecDepth 100000 in
theorem repeat_walk (mu : Blk → Nat) (hmu : ∀ b, b.ok → (onceP b).ops ≠ b.ops → mu (onceP b) < mu b) (b : Blk) (A1 A2 A3 : Option Addr) (c1 c2 c3 bp : Nat) (w : World) (hb : b.ok) (h1 : SlAt w w.heap.size A1 (b.at_.map (.int .u32))) (h2 : SlAt w w.heap.size A2 (b.pages.map (.int .i64))) (h3 : OpsAt w w.heap.size A3 b.ops) (hc3 : b.ops.length ≤ c3) (hm3 : c3 ≤ maxLen)
    (hp : SlAt w w.heap.size (some ⟨bp, 0, none⟩) passV) :
    Calls Try.prog 51 #[.agg #[.slice A1 b.at_.length c1, .slice A2 b.pages.length c2, .slice A3 b.ops.length c3], .slice (some ⟨bp, 0, none⟩) 3 3] w fun e w' =>
      ∃ A c, e = .returned (.agg #[.slice A1 b.at_.length c1, .slice A2 b.pages.length c2, .slice A (optN (mu b) b).ops.length c]) ∧ OpsAt w' w'.heap.size A (optN (mu b) b).ops ∧ (optN (mu b) b).ops.length ≤ c ∧ c ≤ maxLen ∧ (Fresh w.heap.size A ∨ A = A3) ∧ Below w.heap.size w w' := by
  obtain ⟨φ, hφ⟩ : ∃ φ : Option Addr → Prop, φ = fun A => Fresh w.heap.size A ∨ A = A3 := ⟨_, rfl⟩
  have hφ1 : ∀ A, Fresh w.heap.size A → φ A := fun A h => by rw [hφ]; exact .inl h
  have hφ2 : φ A3 := by rw [hφ]; exact .inr rfl
  have cellP : ∀ (k : Nat) (v : Value), passV[k]? = some v → CellsAt w Gs.nil bp k [v] := fun k v hk => by
    obtain ⟨b', off, e1, e2, e3⟩ := hp k v hk
    injection e1 with e1; injection e1 with e1 e4; subst e1; subst e4
    exact cells_one e2 (by simp) (by rwa [Nat.zero_add] at e3)
  refine calls_val [.agg #[.slice A1 b.at_.length c1, .slice A2 b.pages.length c2, .slice A3 b.ops.length c3], .slice (some ⟨bp, 0, none⟩) 3 3] Try.func51 Try.ntmps51 rfl (by simp) ?_
  conv => whnf
  refine ⟨RepSt mu b, fun x => [(1, one (.slice (some ⟨bp, 0, none⟩) 3 3)), (2, .p (.c (.ref 0 0))), (4, .p (.c (.ref 1 0)))],
    fun x => [.cells 32 [.v (.slice A1 b.at_.length c1), .v (.slice A2 b.pages.length c2), .row 2], .cells 32 [.v (.slice none 0 0), .v (.slice none 0 0), .v (.slice none 0 0)], .view φ x.b.ops.length (x.b.ops.flatMap opC)],
    fun x => mu x.b, ⟨⟨b, hb, rfl, rfl, rfl⟩, ?_⟩, fun x => ?_⟩
  · exact ent_trans (ent_view (φ := φ) (f' := [(1, one (.slice (some ⟨bp, 0, none⟩) 3 3)), (2, .p (.c (.ref 0 0))), (4, .p (.c (.ref 1 0)))]) 0 2 rfl rfl h3 hc3 hm3 hφ2 (aI rfl (aI rfl (aI rfl trivial)))) (ent_same rfl (aI rfl (aI rfl (aI rfl trivial))) (aI ((aI rfl (Or.inl rfl))) (aI ((aI rfl (Or.inl rfl))) (aI ((aI rfl (aI rfl rfl))) trivial))))
  have hok := x.ok
  have hlen : x.b.ops.length ≤ 1000000 := x.ok.lops
  have hat := x.hat
  have hpg := x.hpg
  have heq := x.eq
  conv => whnf
  refine ⟨{ k : Nat // k ≤ 3 }, fun y => [(1, one (.slice (some ⟨bp, 0, none⟩) 3 3)), (2, .p (.c (.ref 0 0))), (4, .p (.c (.ref 1 0))), (5, .p (.c (.ref 3 0))), (9, one (.slice (some ⟨bp, 0, none⟩) 3 3)), (10, one (.int .i64 3)), (11, one (.int .i64 y.1))],
    fun y => [.cells 32 [.v (.slice A1 b.at_.length c1), .v (.slice A2 b.pages.length c2), .row 4], .cells 32 [.v (.slice none 0 0), .v (.slice none 0 0), .v (.slice none 0 0)], .view φ x.b.ops.length (x.b.ops.flatMap opC), .cells 32 [.v (.slice A1 b.at_.length c1), .v (.slice A2 b.pages.length c2), .row 2], .view φ (passN y.1 x.b).ops.length ((passN y.1 x.b).ops.flatMap opC)],
    fun y => 3 - y.1, ⟨⟨0, by omega⟩, ?_⟩, fun y => ?_⟩
  · exact ent_ren [0, 1, 2, 3, 2] (aI rfl (aI rfl (aI rfl (aI rfl (aI rfl (aI rfl (aI rfl trivial))))))) (aI ((Exists.intro _ (aI rfl (aI rfl (Or.inl rfl))))) (aI ((Exists.intro _ (aI rfl (aI rfl (Or.inl rfl))))) (aI ((Exists.intro _ (aI rfl (aI rfl (aI rfl rfl))))) (aI ((Exists.intro _ (aI rfl (aI rfl (Or.inl rfl))))) (aI ((Exists.intro _ (aI rfl (aI rfl (aI rfl rfl))))) trivial))))) rfl rfl rfl rfl rfl
  obtain ⟨k, hk⟩ := y
  match k, hk with
  | 0, _ =>
    conv => whnf
    refine ⟨fun _ => ?_, (fun h => by simp at h)⟩
    conv => whnf
    refine ⟨⟨by dsimp only; decide, by dsimp only; decide⟩, ?_⟩
    conv => whnf
    refine ⟨_, cellP 0 _ rfl, ?_⟩
    conv => whnf
    refine call_pass_at fold_pass (by kernel_rfl) 4 x.b b rfl hok hat hpg fold_nil h1 h2 hφ1 ?_
    conv => whnf
    refine ⟨1, rfl, ?_⟩
    conv => whnf
    exact ⟨⟨1, by omega⟩, ent_ren [0, 1, 2, 3, 5] (aI rfl (aI rfl (aI rfl (aI rfl (aI rfl (aI rfl (aI rfl trivial))))))) (aI ((Exists.intro _ (aI rfl (aI rfl (Or.inl rfl))))) (aI ((Exists.intro _ (aI rfl (aI rfl (Or.inl rfl))))) (aI ((Exists.intro _ (aI rfl (aI rfl (aI rfl rfl))))) (aI ((Exists.intro _ (aI rfl (aI rfl (Or.inl rfl))))) (aI ((Exists.intro _ (aI rfl (aI rfl (aI rfl rfl))))) trivial))))) rfl rfl rfl rfl rfl, by dsimp only; decide⟩
  | 1, _ =>
    conv => whnf
    refine ⟨fun _ => ?_, (fun h => by simp at h)⟩
    conv => whnf
    refine ⟨⟨by dsimp only; decide, by dsimp only; decide⟩, ?_⟩
    conv => whnf
    refine ⟨_, cellP 1 _ rfl, ?_⟩
    conv => whnf
    refine call_pass_at copies_pass (by kernel_rfl) 4 (foldP x.b) b rfl (foldP_ok hok) hat hpg copy_nil h1 h2 hφ1 ?_
    conv => whnf
    refine ⟨2, rfl, ?_⟩
    conv => whnf
    exact ⟨⟨2, by omega⟩, ent_ren [0, 1, 2, 3, 5] (aI rfl (aI rfl (aI rfl (aI rfl (aI rfl (aI rfl (aI rfl trivial))))))) (aI ((Exists.intro _ (aI rfl (aI rfl (Or.inl rfl))))) (aI ((Exists.intro _ (aI rfl (aI rfl (Or.inl rfl))))) (aI ((Exists.intro _ (aI rfl (aI rfl (aI rfl rfl))))) (aI ((Exists.intro _ (aI rfl (aI rfl (Or.inl rfl))))) (aI ((Exists.intro _ (aI rfl (aI rfl (aI rfl rfl))))) trivial))))) rfl rfl rfl rfl rfl, by dsimp only; decide⟩
  | 2, _ =>
    conv => whnf
    refine ⟨fun _ => ?_, (fun h => by simp at h)⟩
    conv => whnf
    refine ⟨⟨by dsimp only; decide, by dsimp only; decide⟩, ?_⟩
    conv => whnf
    refine ⟨_, cellP 2 _ rfl, ?_⟩
    conv => whnf
    refine call_pass_at dead_pass (by kernel_rfl) 4 (copyP (foldP x.b)) b rfl (copyP_ok (foldP_ok hok)) hat hpg dead_nil h1 h2 hφ1 ?_
    conv => whnf
    refine ⟨3, rfl, ?_⟩
    conv => whnf
    exact ⟨⟨3, by omega⟩, ent_ren [0, 1, 2, 3, 5] (aI rfl (aI rfl (aI rfl (aI rfl (aI rfl (aI rfl (aI rfl trivial))))))) (aI ((Exists.intro _ (aI rfl (aI rfl (Or.inl rfl))))) (aI ((Exists.intro _ (aI rfl (aI rfl (Or.inl rfl))))) (aI ((Exists.intro _ (aI rfl (aI rfl (aI rfl rfl))))) (aI ((Exists.intro _ (aI rfl (aI rfl (Or.inl rfl))))) (aI ((Exists.intro _ (aI rfl (aI rfl (aI rfl rfl))))) trivial))))) rfl rfl rfl rfl rfl, by dsimp only; decide⟩
  | 3, _ =>
    conv => whnf
    refine ⟨(fun h => by simp at h), fun _ => ?_⟩
    conv => whnf
    refine ⟨_, _, ent_refl, ?_⟩
    conv => whnf
    refine call_equal_views 2 4 x.b.ops (onceP x.b).ops rfl rfl hlen ?_
    conv => whnf
    refine ⟨fun h => ?_, fun h => ?_⟩
    · have he : (onceP x.b).ops = x.b.ops := (by simpa using h : x.b.ops = (onceP x.b).ops).symm
      conv => whnf
      refine ⟨_, _, ent_refl, ?_⟩
      conv => whnf
      rw [optN_same he] at heq
      refine fin_view (i := 4) (l := (onceP x.b).ops) rfl rfl rfl fun w' A c e1 e2 e3 e4 e5 => ?_
      rw [heq, ← he]
      exact ⟨A, c, rfl, e1, e2, e3, by rw [hφ] at e4; exact e4, e5⟩
    · have he : (onceP x.b).ops ≠ x.b.ops := fun e => by rw [e] at h; simp at h
      conv => whnf
      exact ⟨⟨onceP x.b, onceP_ok hok, hat, hpg, by rw [heq, optN_step hmu hok he]⟩, ent_ren [0, 1, 4] (aI rfl (aI rfl (aI rfl trivial))) (aI ((Exists.intro _ (aI rfl (aI rfl (Or.inl rfl))))) (aI ((Exists.intro _ (aI rfl (aI rfl (Or.inl rfl))))) (aI ((Exists.intro _ (aI rfl (aI rfl (aI rfl rfl))))) trivial))) rfl rfl rfl rfl rfl, hmu _ hok he⟩
end Go.Proofs.Ytmjfgnnefcimiaa
namespace Go.Proofs.Ytmjfgnnefcimiaa
open Go.RowKit

def ndsOf {l : List BOp} (pre : List (Elt l)) : List (Nat × BOp) := pre.map fun x => x.1
theorem ndsOf_formed {l : List BOp} (h : ∀ o ∈ l, formedB o = true) (pre : List (Elt l)) : ∀ x ∈ ndsOf pre, formedB x.2 = true := fun o ho => by
  obtain ⟨x, _, rfl⟩ := List.mem_map.1 ho
  exact h _ (List.mem_of_getElem? x.2)
theorem ndsOf_snoc {l : List BOp} (pre : List (Elt l)) (x : Elt l) : ndsOf (pre ++ [x]) = ndsOf pre ++ [x.1] := by simp [ndsOf]
theorem ndsOf_all {l : List BOp} {xs : List (Elt l)} (h : AllDown xs) : (liveRun l.length (ndsOf xs)).row = liveL l := by
  refine liveRun_all l (fun x hx => ?_) ?_
  · obtain ⟨y, _, rfl⟩ := List.mem_map.1 hx; exact y.2
  · unfold AllDown at h
    rw [show (ndsOf xs).map (·.1) = xs.map fun x => x.1.1 by simp [ndsOf], h]
    simp [downTo]
set_option maxRecDepth 100000 in
theorem live_opt (b : Blk) (A1 A2 A3 : Option Addr) (c1 c2 c3 : Nat) (w : World) (hb : b.ok) (h2 : SlAt w w.heap.size A2 (b.pages.map (.int .i64))) (h3 : OpsAt w w.heap.size A3 b.ops) :
    Calls Try.prog 27 #[.agg #[.slice A1 b.at_.length c1, .slice A2 b.pages.length c2, .slice A3 b.ops.length c3]] w fun e w' =>
      ∃ A c, e = .returned (.slice A (liveAll b).length c) ∧ SlAt w' w'.heap.size A ((liveAll b).map natV) ∧ (liveAll b).length ≤ c ∧ c ≤ maxLen ∧ Fresh w.heap.size A ∧ Below w.heap.size w w' := by
  refine calls_satq [.agg #[.slice A1 b.at_.length c1, .slice A2 b.pages.length c2, .slice A3 b.ops.length c3]] Try.func27 Try.ntmps27 rfl (by simp) ?_
  refine satq_seq ?_
  conv => whnf
  refine satq_seq ?_
  conv => whnf
  refine call_con rfl (by kernel_rfl) (fun r w' hR => valid_ir A1 A2 A3 c1 c2 c3 b w' hb (sl_later h2 hR.toBelow) (sl_later h3 hR.toBelow)) ?_
  conv => whnf
  refine ⟨fun hn => ?_, fun hn => ?_⟩
  · have hv : validB b = false := by simpa using hn
    have hF : liveAll b = [] := by unfold liveAll; rw [hv]; rfl
    conv => whnf
    refine atq_ret ?_
    conv => whnf
    refine fin_val rfl fun w' hB => ⟨none, 0, by rw [hF]; rfl, by rw [hF]; intro j u hj; simp at hj, by rw [hF]; exact Nat.le_refl _, by decide, nofun, hB⟩
  have hv : validB b = true := by simpa using hn
  have hF : liveAll b = liveL b.ops := by unfold liveAll; rw [hv]; rfl
  obtain ⟨hpos, hmax⟩ := valid_pos hv
  obtain ⟨bb, off, rfl⟩ := ops_addr h3 hpos
  have hform := valid_formed hv
  conv => whnf
  refine satq_seq ?_
  conv => whnf
  refine op_makeSlice (e := 24) (z := .int .u32 0) 1 b.ops.length rfl rfl rfl rfl rfl rfl rfl (by omega) (by show 4 * _ ≤ _; omega) (by simp [maxLen]; omega) rfl (zero_row _) ?_
  conv => whnf
  refine satq_seq ?_
  conv => whnf
  refine satq_in ?_
  refine satq_seq ?_
  conv => whnf
  refine call_backward ?_
  conv => whnf
  refine satq_block ?_
  refine satq_back (N := 27) (m := 3) (V := [.cells 32 [.v (.slice A1 b.at_.length c1), .v (.slice A2 b.pages.length c2), .v (.slice (some ⟨bb, off, none⟩) b.ops.length c3)], .row 24 1 b.ops.length ((List.replicate b.ops.length 0).map natV), .cells 29 [.row 1], .cells 24 [.v (.int .u32 0)]])
    (A := [.cells 32 [.v (.slice A1 b.at_.length c1), .v (.slice A2 b.pages.length c2), .v (.slice (some ⟨bb, off, none⟩) b.ops.length c3)], .cells 29 [.row 3], .cells 24 [.v (.int .u32 0)]]) (T := [.row 24 1 b.ops.length ((List.replicate b.ops.length 0).map natV)])
    (f0 := [(1, .p (.c (.ref 0 0))), (3, .p (.c (.ref 2 0))), (4, .p (.c (.ref 3 0)))]) (fa := [(1, .p (.c (.ref 0 0))), (3, .p (.c (.ref 1 0))), (4, .p (.c (.ref 2 0)))])
    h3 (ops_lt h3 hpos) (by omega) rfl ⟨rfl, rfl⟩ (aI rfl (aI rfl (aI rfl trivial))) rfl rfl
    (fun pre => [.cells 32 [.v (.slice A1 b.at_.length c1), .v (.slice A2 b.pages.length c2), .v (.slice (some ⟨bb, off, none⟩) b.ops.length c3)], .cells 29 [.row 3], .cells 24 [.v (.int .u32 ((liveRun b.ops.length (ndsOf pre)).live : Int))], .row 24 1 b.ops.length ((liveRun b.ops.length (ndsOf pre)).row.map natV)])
    rfl rfl rfl (fun _ => rfl) (fun _ => rfl) (fun _ => rfl) (entB_ren [0, 2, 3, 1] (aI rfl (aI rfl (aI rfl trivial))) (aI ((Exists.intro _ (aI rfl (aI rfl (Or.inl rfl))))) (aI ((Exists.intro _ (aI rfl (aI rfl (Or.inl rfl))))) (aI ((Exists.intro _ (aI rfl (aI rfl (Or.inl rfl))))) (aI ((Exists.intro _ (aI rfl (aI rfl (aI rfl (aI rfl rfl)))))) trivial)))) rfl rfl rfl) rfl 1 (by omega) (fun pre => ⟨_, _, _, _, _, rfl, rfl⟩)
    (fun x => [(1, .p (.c (.ref 0 0))), (3, .p (.c (.ref 1 0))), (4, .p (.c (.ref 2 0))), (5, one (.int .i64 (x.1.1 : Int))), (6, .p (.c (.ref 4 0)))]) (fun _ => rfl) ?_ ?_ ?_
  · rintro W gs ext lp pre x hgs
    match gs, hgs with
    | [g0, g1, g2], _ =>
    conv => whnf
    exact ⟨rfl, ent_same rfl (aI rfl (aI rfl (aI rfl (aI rfl (aI rfl trivial))))) (aI ((aI rfl (Or.inl rfl))) (aI ((aI rfl (Or.inl rfl))) (aI ((aI rfl (Or.inl rfl))) (aI ((aI rfl (aI rfl (aI rfl rfl)))) (aI ((aI rfl (Or.inl rfl))) trivial)))))⟩
  · rintro W gs ext lp pre x hgs hpl
    match gs, hgs with
    | [g0, g1, g2], _ =>
    obtain ⟨o, ho⟩ : ∃ o, o = x.1.2 := ⟨_, rfl⟩
    obtain ⟨j, hj⟩ : ∃ j, j = x.1.1 := ⟨_, rfl⟩
    have hof : formedB o = true := by rw [ho]; exact hform _ (List.mem_of_getElem? x.2)
    have hjl : j < b.ops.length := by
      rw [hj]
      rcases Nat.lt_or_ge x.1.1 b.ops.length with h1 | h1
      · exact h1
      · have := x.2; rw [List.getElem?_eq_none h1] at this; cases this
    have hlive := liveRun_lt b.ops.length (ndsOf_formed hform pre)
    have hlen := liveRun_length b.ops.length (ndsOf pre)
    have hsnoc : liveRun b.ops.length (ndsOf (pre ++ [x])) = liveStep (liveRun b.ops.length (ndsOf pre)) (j, o) := by rw [ndsOf_snoc, liveRun_snoc, hj, ho]
    rw [hsnoc, ← ho, ← hj]
    generalize liveRun b.ops.length (ndsOf pre) = s at hlive hlen ⊢
    conv => whnf
    refine call_con rfl (by kernel_rfl) (fun r w' hR => before_opt o s.live hlive hof w') ?_
    conv => whnf
    refine ⟨⟨by omega, by omega⟩, ?_⟩
    conv => whnf
    have ht : (j : Int).toNat * tsz Try.prog 24 = j := by rw [Int.toNat_natCast]; exact Nat.mul_one j
    rw [ht]
    refine ⟨by simp [hlen]; omega, ?_⟩
    rw [setAll_ints]
    conv => whnf
    exact ⟨rfl, ent_drop trivial (aI ((aI rfl (Or.inl rfl))) (aI ((aI rfl (Or.inl rfl))) (aI ((aI rfl (Or.inl rfl))) (aI ((aI rfl (aI rfl (aI rfl rfl)))) trivial)))) rfl rfl⟩
  · intro D xs hxs
    refine atq_then ?_
    refine satq_seq ?_
    conv => whnf
    refine satq_vc ?_
    conv => whnf
    refine atq_ret_mark 4 rfl ?_
    conv => whnf
    rw [ndsOf_all hxs]
    refine fin_row (i := 3) rfl fun w' A c e1 e2 e3 e4 e5 => ?_
    rw [hF, liveL_length]
    exact ⟨A, c, rfl, e1, e2, e3, e4, e5⟩
end Go.Proofs.Ytmjfgnnefcimiaa
namespace Go.Proofs.Ytmjfgnnefcimiaa
open Go.RowKit

theorem call_instr {w0 : World} {G : Gs} {S : List Ow} {K : AV → List Ow → Prop} (i : Nat) {A : Option Addr} {m c : Nat} {xs : List Int} {k : Int} (hi : S[i]? = some (.cells 124 ((mkC A m c k).map .v))) (hs : SlOld w0 G A (xs.map (.int .i64))) (hl : xs.length = m) (hm : m ≤ 1000000) (hk : 0 ≤ k ∧ k < 900000)
    (hK : ∀ (l : List BOp) (W : Nat) (ch : Bool) (k' : Int), BodyOk l W ch → l.length ≤ 10 → 0 ≤ k' → k' ≤ k + 200 → K (.p (.c (.row S.length))) (S.set i (.cells 124 ((mkC A m c k').map .v)) ++ [.row 53 5 l.length (l.flatMap opC)])) : CallS Try.prog w0 G 93 [.p (.c (.ref i 0))] S K := by
  refine call_own_row 53 5 (fun n ys us' => ∃ (l : List BOp) (W : Nat) (ch : Bool) (k' : Int), BodyOk l W ch ∧ n = l.length ∧ ys = l.flatMap opC ∧ l.length ≤ 10 ∧ us' = mkC A m c k' ∧ 0 ≤ k' ∧ k' ≤ k + 200) i hi (xs := []) rfl (by kernel_rfl) (fun w g ho hg => instruction_walk A m c xs k g w (ho A _ hs) hl hm hk hg) ?_
  rintro n ys us' ⟨l, W, ch, k', hb, rfl, rfl, hll, rfl, h0, h1⟩
  exact hK l W ch k' hb hll h0 h1
theorem ops_one (l : List BOp) : ∀ u ∈ l.flatMap opC, u.oneCell' = true := fun u hu => by
  obtain ⟨o, _, ho⟩ := List.mem_flatMap.1 hu
  exact opC_one u ho
/-- The instructions under way. -/
structure MadeSt (n : Int) (k0 : Int) where
  i : Nat
  ats : List Int
  ops : List BOp
  W : Nat
  ch : Bool
  k : Int
  hi : (i : Int) ≤ n
  hats : ∀ x ∈ ats, word x
  hatl : ats.length = i
  pre : PreOk ops i W ch
  hlen : ops.length ≤ 11 * i
  hk : 0 ≤ k ∧ k ≤ k0 + 210 * i
set_option maxRecDepth 100000 in
theorem made12_walk (A : Option Addr) (m c : Nat) (xs : List Int) (w : World) (hs : SlAt w w.heap.size A (xs.map (.int .i64))) (hl : xs.length = m) (hm : m ≤ 1000000) :
    Calls Try.prog 68 #[.slice A m c] w fun e w' => ∃ b v1 v2 v3, MadeOk b ∧ e = .returned (.agg #[v1, v2, v3]) ∧ Rows3 w.heap.size w' v1 v2 v3 b ∧ Below w.heap.size w w' := by
  have hs0 : SlOld w Gs.nil A (xs.map (.int .i64)) := fun j u hj => by
    obtain ⟨b, off, e1, e2, e3⟩ := hs j u hj
    exact ⟨b, off, e1, e2, by simp, e3⟩
  refine calls_satq [.slice A m c] Try.func68 Try.ntmps68 rfl (by simp) ?_
  refine satq_seq ?_
  conv => whnf
  refine satq_seq ?_
  conv => whnf
  refine satq_seq ?_
  conv => whnf
  refine call_take 1 rfl hs0 hl hm (by omega) (by omega) fun z z0 z1 => ?_
  conv => whnf
  refine ⟨1 + z, wr64 (by omega), ?_⟩
  conv => whnf
  refine satq_seq ?_
  conv => whnf
  refine call_take 1 rfl hs0 hl hm (by omega) (by omega) fun y y0 y1 => ?_
  conv => whnf
  refine ⟨y, by rw [wr32]; omega, ?_⟩
  conv => whnf
  refine ⟨y * 8, by rw [wr32]; omega, ?_⟩
  conv => whnf
  refine satq_seq ?_
  conv => whnf
  refine ⟨by omega, y * 8 / 256, by rw [Int.tdiv_eq_ediv_of_nonneg (by omega), wr32]; omega, ?_⟩
  conv => whnf
  refine ⟨y * 8 / 256, wr64 (by omega), ?_⟩
  conv => whnf
  obtain ⟨n, hn, hn0, hn1⟩ : ∃ n, n = 1 + z ∧ 1 ≤ n ∧ n ≤ 12 := ⟨_, rfl, by omega, by omega⟩
  rw [← hn]
  obtain ⟨at0, hat, hat0, hat1⟩ : ∃ a, a = y * 8 ∧ 0 ≤ a ∧ a < 4096 := ⟨_, rfl, by omega, by omega⟩
  rw [← hat]
  obtain ⟨p, hp, hp0, hp1⟩ : ∃ p, p = at0 / 256 ∧ 0 ≤ p ∧ p < 4096 := ⟨_, rfl, by omega, by omega⟩
  rw [← hp]
  clear hn hat hp
  refine satq_in ?_
  refine satq_seq ?_
  conv => whnf
  refine satq_block ?_
  refine satq_loop (α := MadeSt n 2) (fun x => [(2, .p (.c (.ref 0 0))), (3, .p (.c (.ref 1 0))), (4, one (.int .i64 n)), (5, one (.int .u32 at0)), (6, .p (.c (.ref 3 0))), (7, one (.int .i64 (x.i : Int)))])
    (fun x => [.cells 32 [.v (.slice none 0 0), .v (.slice none 0 0), .v (.slice none 0 0)], .cells 124 ((mkC A m c x.k).map .v), .cells 3 [.v (.int .i64 p)], .cells 32 [.row 4, .sl 2 0 1 1, .row 5], .row 24 1 x.ats.length (x.ats.map (.int .u32)), .row 53 5 x.ops.length (x.ops.flatMap opC)])
    (fun x => (n - x.i).toNat) ⟨0, [], [], 0, false, 2, by omega, nofun, rfl, PreOk.nil, by simp, by omega⟩
    (ent_trans (ent_cellrow 3 0 24 1 rfl rfl (f' := [(2, .p (.c (.ref 0 0))), (3, .p (.c (.ref 1 0))), (4, one (.int .i64 n)), (5, one (.int .u32 at0)), (6, .p (.c (.ref 3 0))), (7, one (.int .i64 0))]) (aI rfl (aI rfl (aI rfl (aI rfl (aI rfl (aI rfl trivial))))))) (ent_trans (ent_cellrow 3 2 53 5 rfl rfl (f' := [(2, .p (.c (.ref 0 0))), (3, .p (.c (.ref 1 0))), (4, one (.int .i64 n)), (5, one (.int .u32 at0)), (6, .p (.c (.ref 3 0))), (7, one (.int .i64 0))]) (aI rfl (aI rfl (aI rfl (aI rfl (aI rfl (aI rfl trivial))))))) (ent_same rfl (aI rfl (aI rfl (aI rfl (aI rfl (aI rfl (aI rfl trivial)))))) (aI ((aI rfl (Or.inl rfl))) (aI ((aI rfl (Or.inl rfl))) (aI ((aI rfl (Or.inl rfl))) (aI ((aI rfl (Or.inl rfl))) (aI ((aI rfl (aI rfl (aI rfl rfl)))) (aI ((aI rfl (aI rfl (aI rfl rfl)))) trivial))))))))) fun x => ?_
  obtain ⟨i, ats, ops, W, ch, k, hi, hats, hatl, pre, hlen, hk⟩ := x
  dsimp only
  refine satq_seq ?_
  conv => whnf
  refine ⟨fun hc => ?_, fun hc => ?_⟩
  · have hlt : (i : Int) < n := by simpa using hc
    conv => whnf
    refine satq_mid (α := { y : MadeSt n 2 // y.i = i + 1 }) (fun y => [(2, .p (.c (.ref 0 0))), (3, .p (.c (.ref 1 0))), (4, one (.int .i64 n)), (5, one (.int .u32 at0)), (6, .p (.c (.ref 3 0))), (7, one (.int .i64 (i : Int)))])
      (fun y => [.cells 32 [.v (.slice none 0 0), .v (.slice none 0 0), .v (.slice none 0 0)], .cells 124 ((mkC A m c y.1.k).map .v), .cells 3 [.v (.int .i64 p)], .cells 32 [.row 4, .sl 2 0 1 1, .row 5], .row 24 1 y.1.ats.length (y.1.ats.map (.int .u32)), .row 53 5 y.1.ops.length (y.1.ops.flatMap opC)]) ?_ fun y => ?_
    · refine satq_block ?_
      refine satq_seq ?_
      conv => whnf
      refine ⟨_, wr64 (by omega), ?_⟩
      conv => whnf
      refine ⟨_, wr32 _, ?_⟩
      conv => whnf
      refine ⟨_, wr32 _, ?_⟩
      conv => whnf
      refine appK_sound rfl ?_ rfl
      conv => whnf
      refine ⟨by omega, ?_⟩
      conv => whnf
      refine satq_seq ?_
      conv => whnf
      refine ⟨(i : Int), by rw [wr32]; omega, ?_⟩
      conv => whnf
      refine appK_sound rfl ?_ rfl
      conv => whnf
      refine ⟨by omega, ?_⟩
      conv => whnf
      obtain ⟨ats2, hats2⟩ : ∃ l, l = ats ++ [(at0 + 4 * (i : Int) % 4294967296) % 4294967296] := ⟨_, rfl⟩
      have hatsw : ∀ x ∈ ats2, word x := by
        intro x hx
        rw [hats2] at hx
        rcases List.mem_append.1 hx with hx | hx
        · exact hats x hx
        · simp at hx; subst hx; exact word_mod _
      have hatsl : ats2.length = i + 1 := by rw [hats2]; simp [hatl]
      have pre2 := pre.mark (by omega)
      refine satq_mid (α := { y : Int × Bool // k ≤ y.1 ∧ y.1 ≤ k + 1 }) (fun y => [(2, .p (.c (.ref 0 0))), (3, .p (.c (.ref 1 0))), (4, one (.int .i64 n)), (5, one (.int .u32 at0)), (6, .p (.c (.ref 3 0))), (7, one (.int .i64 (i : Int))), (55, one (.bool y.1.2))])
        (fun y => [.cells 32 [.v (.slice none 0 0), .v (.slice none 0 0), .v (.slice none 0 0)], .cells 124 ((mkC A m c y.1.1).map .v), .cells 3 [.v (.int .i64 p)], .cells 32 [.row 4, .sl 2 0 1 1, .row 5], .row 24 1 ats2.length (ats2.map (.int .u32)), .row 53 5 (ops ++ [(⟨20, 0, 0, 0, (i : Int)⟩ : BOp)]).length ((ops ++ [(⟨20, 0, 0, 0, (i : Int)⟩ : BOp)]).flatMap opC)]) ?_ fun y => ?_
      · refine satq_region ?_
        conv => whnf
        refine ⟨_, wr64 (by omega), ?_⟩
        conv => whnf
        by_cases hlast : (i : Int) < n - 1
        · rw [decide_eq_true hlast]
          conv => whnf
          exact atq_mid ⟨(k, true), by dsimp only; omega⟩ (ent_drop (aI rfl (aI rfl (aI rfl (aI rfl (aI rfl (aI rfl (aI rfl trivial))))))) (aI ((aI rfl (Or.inl rfl))) (aI ((aI rfl (Or.inl rfl))) (aI ((aI rfl (Or.inl rfl))) (aI ((aI rfl (Or.inl rfl))) (aI ((aI rfl (aI rfl (aI (by rw [hats2]; simp) (by rw [hats2]; simp))))) (aI ((aI rfl (aI rfl (aI (by simp) (by simp [opC]))))) trivial)))))) rfl rfl)
        · rw [decide_eq_false hlast]
          conv => whnf
          refine call_take 1 rfl hs0 hl hm (by omega) (by omega) fun q q0 q1 => ?_
          conv => whnf
          exact atq_mid ⟨(k + 1, decide (q > 0)), by dsimp only; omega⟩ (ent_drop (aI rfl (aI rfl (aI rfl (aI rfl (aI rfl (aI rfl (aI rfl trivial))))))) (aI ((aI rfl (Or.inl rfl))) (aI ((aI rfl (Or.inl rfl))) (aI ((aI rfl (Or.inl rfl))) (aI ((aI rfl (Or.inl rfl))) (aI ((aI rfl (aI rfl (aI (by rw [hats2]; simp) (by rw [hats2]; simp))))) (aI ((aI rfl (aI rfl (aI (by simp) (by simp [opC]))))) trivial)))))) rfl rfl)
      obtain ⟨⟨k2, bd⟩, hk2⟩ := y
      dsimp only at hk2 ⊢
      refine satq_vc ?_
      conv => whnf
      refine ⟨fun _ => ?_, fun _ => ?_⟩
      · conv => whnf
        refine sat_any (.q 0 (.q 2 (.alt 1 (.alt 3 (.alt 4 (.q 5 (.alt 6 .done .no)) .no) .no) (.alt 3 (.alt 1 (.alt 4 (.q 5 (.alt 6 .done .no)) .no) .no) .no)))) mixed (by kernel_rfl) (by kernel_rfl) ?_
        conv => whnf
        refine ⟨?_, ?_, trivial⟩
        · conv => whnf
          refine ⟨?_, trivial⟩
          conv => whnf
          refine call_instr 1 rfl hs0 hl hm (by omega) fun l W' ch' k' hb hll h0 h1 => ?_
          conv => whnf
          refine ⟨?_, trivial⟩
          conv => whnf
          refine appK_sound rfl ?_ rfl
          conv => whnf
          refine ⟨rfl, ops_one l, ?_⟩
          conv => whnf
          refine ⟨by simp; omega, ?_⟩
          conv => whnf
          refine ⟨?_, trivial⟩
          conv => whnf
          refine atq_block ?_
          exact atq_mid ⟨⟨i + 1, ats2, (ops ++ [(⟨20, 0, 0, 0, (i : Int)⟩ : BOp)]) ++ l, W', ch', k', by omega, hatsw, hatsl, pre2.body hb (by omega), by simp; omega, by omega⟩, rfl⟩ (ent_drop (aI rfl (aI rfl (aI rfl (aI rfl (aI rfl (aI rfl trivial)))))) (aI ((aI rfl (Or.inl rfl))) (aI ((aI rfl (Or.inl rfl))) (aI ((aI rfl (Or.inl rfl))) (aI ((aI rfl (Or.inl rfl))) (aI ((aI rfl (aI rfl (aI rfl rfl)))) (aI ((aI rfl (aI rfl (aI (by simp; omega) (by simp [opC]))))) trivial)))))) rfl rfl)
        · conv => whnf
          refine call_instr 1 rfl hs0 hl hm (by omega) fun l W' ch' k' hb hll h0 h1 => ?_
          conv => whnf
          refine ⟨?_, trivial⟩
          conv => whnf
          refine ⟨?_, trivial⟩
          conv => whnf
          refine appK_sound rfl ?_ rfl
          conv => whnf
          refine ⟨rfl, ops_one l, ?_⟩
          conv => whnf
          refine ⟨by simp; omega, ?_⟩
          conv => whnf
          refine ⟨?_, trivial⟩
          conv => whnf
          refine atq_block ?_
          exact atq_mid ⟨⟨i + 1, ats2, (ops ++ [(⟨20, 0, 0, 0, (i : Int)⟩ : BOp)]) ++ l, W', ch', k', by omega, hatsw, hatsl, pre2.body hb (by omega), by simp; omega, by omega⟩, rfl⟩ (ent_drop (aI rfl (aI rfl (aI rfl (aI rfl (aI rfl (aI rfl trivial)))))) (aI ((aI rfl (Or.inl rfl))) (aI ((aI rfl (Or.inl rfl))) (aI ((aI rfl (Or.inl rfl))) (aI ((aI rfl (Or.inl rfl))) (aI ((aI rfl (aI rfl (aI rfl rfl)))) (aI ((aI rfl (aI rfl (aI (by simp; omega) (by simp [opC]))))) trivial)))))) rfl rfl)
      · conv => whnf
        refine atq_block ?_
        exact atq_mid ⟨⟨i + 1, ats2, _, 0, false, k2, by omega, hatsw, hatsl, pre2, by simp; omega, by omega⟩, rfl⟩ (ent_same rfl (aI rfl (aI rfl (aI rfl (aI rfl (aI rfl (aI rfl trivial)))))) (aI ((aI rfl (Or.inl rfl))) (aI ((aI rfl (Or.inl rfl))) (aI ((aI rfl (Or.inl rfl))) (aI ((aI rfl (Or.inl rfl))) (aI ((aI rfl (aI rfl (aI rfl rfl)))) (aI ((aI rfl (aI rfl (aI rfl rfl)))) trivial)))))))
    obtain ⟨y, hy⟩ := y
    dsimp only
    refine satq_vc ?_
    conv => whnf
    refine ⟨_, wr64 (by omega), ?_⟩
    conv => whnf
    exact atq_next y (ent_same rfl (aI rfl (aI rfl (aI rfl (aI rfl (aI rfl (aI ((by show one _ = one _; rw [hy]; rfl)) trivial)))))) (aI ((aI rfl (Or.inl rfl))) (aI ((aI rfl (Or.inl rfl))) (aI ((aI rfl (Or.inl rfl))) (aI ((aI rfl (Or.inl rfl))) (aI ((aI rfl (aI rfl (aI rfl rfl)))) (aI ((aI rfl (aI rfl (aI rfl rfl)))) trivial))))))) (by rw [hy]; omega)
  · have hlt : (i : Int) = n := by simp at hc; omega
    conv => whnf
    refine atq_out (atq_exit (atq_on ?_))
    refine satq_seq ?_
    conv => whnf
    refine call_take 1 rfl hs0 hl hm (by omega) (by omega) fun q q0 q1 => ?_
    conv => whnf
    refine ⟨q, by rw [wr32]; omega, ?_⟩
    conv => whnf
    refine ⟨q * 4, by rw [wr32]; omega, ?_⟩
    conv => whnf
    have hnx : word (q * 4) := by unfold word; omega
    refine satq_mid (α := { y : List Int × List BOp // MadeOk ⟨y.1, [p], y.2⟩ }) (fun y => [(2, .p (.c (.ref 0 0))), (6, .p (.c (.ref 3 0)))])
      (fun y => [.cells 32 [.v (.slice none 0 0), .v (.slice none 0 0), .v (.slice none 0 0)], .gone, .cells 3 [.v (.int .i64 p)], .cells 32 [.row 4, .sl 2 0 1 1, .row 5], .row 24 1 y.1.1.length (y.1.1.map (.int .u32)), .row 53 5 y.1.2.length (y.1.2.flatMap opC)]) ?_ fun y => ?_
    · refine satq_seq ?_
      conv => whnf
      refine call_take 1 rfl hs0 hl hm (by omega) (by omega) fun s s0 s1 => ?_
      conv => whnf
      refine satq_block ?_
      refine satq_seq ?_
      conv => whnf
      refine satq_cond rfl (fun _ => ?_) (fun _ => ?_)
      · refine satq_vc ?_
        conv => whnf
        refine ⟨(i : Int), by rw [wr32]; omega, ?_⟩
        conv => whnf
        refine appK_sound rfl ?_ rfl
        conv => whnf
        refine ⟨by omega, ?_⟩
        conv => whnf
        refine ⟨_, wr64 (by omega), ?_⟩
        conv => whnf
        refine ⟨_, wr32 _, ?_⟩
        conv => whnf
        refine ⟨_, wr32 _, ?_⟩
        conv => whnf
        refine appK_sound rfl ?_ rfl
        conv => whnf
        refine ⟨by omega, ?_⟩
        conv => whnf
        refine atq_block ?_
        exact atq_mid ⟨(ats ++ [(at0 + 4 * n % 4294967296) % 4294967296], (ops ++ [(⟨20, 0, 0, 0, (i : Int)⟩ : BOp)]) ++ [⟨22, 0, 0, 0, 0⟩]), made_ok (pre.mark (by omega)) tail_slow (by omega) (fun x hx => by
          rcases List.mem_append.1 hx with hx | hx
          · exact hats x hx
          · simp at hx; subst hx; exact word_mod _) (by simp [hatl]) (by omega) ⟨hp0, hp1⟩ (by simp; omega)⟩ (ent_drop (aI rfl (aI rfl trivial)) (aI ((aI rfl (Or.inl rfl))) (aI ((by trivial)) (aI ((aI rfl (Or.inl rfl))) (aI ((aI rfl (Or.inl rfl))) (aI ((aI rfl (aI rfl (aI (by simp) (by simp))))) (aI ((aI rfl (aI rfl (aI (by simp) (by simp [opC, hlt]))))) trivial)))))) rfl rfl)
      · refine satq_seq ?_
        conv => whnf
        refine satq_cond rfl (fun _ => ?_) (fun _ => ?_)
        · refine satq_vc ?_
          refine sat_any (.q 0 (.q 2 (.alt 1 (.alt 3 (.q 4 (.alt 5 (.alt 6 (.q 7 (.alt 8 .done .no)) .no) .no)) .no) (.alt 3 (.q 4 (.alt 1 (.alt 5 (.alt 6 (.q 7 (.alt 8 .done .no)) .no) .no) (.alt 5 (.alt 1 (.alt 6 (.q 7 (.alt 8 .done .no)) .no) .no) .no))) .no)))) mixed (by kernel_rfl) (by kernel_rfl) ?_
          conv => whnf
          refine ⟨?_, ?_, trivial⟩
          · conv => whnf
            refine ⟨?_, trivial⟩
            conv => whnf
            refine call_take 1 rfl hs0 hl hm (by omega) (by omega) fun a a0 a1 => ?_
            conv => whnf
            refine ⟨?_, trivial⟩
            conv => whnf
            refine ⟨?_, trivial⟩
            conv => whnf
            refine appK_sound rfl ?_ rfl
            conv => whnf
            refine ⟨by omega, ?_⟩
            conv => whnf
            refine ⟨?_, trivial⟩
            conv => whnf
            refine atq_block ?_
            exact atq_mid ⟨(ats, ops ++ [⟨25, 0, a, 0, 0⟩]), made_ok pre (tail_var ⟨a0, a1⟩ ch) (by omega) hats hatl (by omega) ⟨hp0, hp1⟩ (by simp; omega)⟩ (ent_drop (aI rfl (aI rfl trivial)) (aI ((aI rfl (Or.inl rfl))) (aI ((by trivial)) (aI ((aI rfl (Or.inl rfl))) (aI ((aI rfl (Or.inl rfl))) (aI ((aI rfl (aI rfl (aI rfl rfl)))) (aI ((aI rfl (aI rfl (aI (by simp) (by simp [opC]))))) trivial)))))) rfl rfl)
          · conv => whnf
            refine call_take 1 rfl hs0 hl hm (by omega) (by omega) fun a a0 a1 => ?_
            conv => whnf
            refine ⟨?_, ?_, trivial⟩
            · conv => whnf
              refine ⟨?_, trivial⟩
              conv => whnf
              refine ⟨?_, trivial⟩
              conv => whnf
              refine appK_sound rfl ?_ rfl
              conv => whnf
              refine ⟨by omega, ?_⟩
              conv => whnf
              refine ⟨?_, trivial⟩
              conv => whnf
              refine atq_block ?_
              exact atq_mid ⟨(ats, ops ++ [⟨25, 0, a, 0, 0⟩]), made_ok pre (tail_var ⟨a0, a1⟩ ch) (by omega) hats hatl (by omega) ⟨hp0, hp1⟩ (by simp; omega)⟩ (ent_drop (aI rfl (aI rfl trivial)) (aI ((aI rfl (Or.inl rfl))) (aI ((by trivial)) (aI ((aI rfl (Or.inl rfl))) (aI ((aI rfl (Or.inl rfl))) (aI ((aI rfl (aI rfl (aI rfl rfl)))) (aI ((aI rfl (aI rfl (aI (by simp) (by simp [opC]))))) trivial)))))) rfl rfl)
            · conv => whnf
              refine ⟨?_, trivial⟩
              conv => whnf
              refine ⟨?_, trivial⟩
              conv => whnf
              refine appK_sound rfl ?_ rfl
              conv => whnf
              refine ⟨by omega, ?_⟩
              conv => whnf
              refine ⟨?_, trivial⟩
              conv => whnf
              refine atq_block ?_
              exact atq_mid ⟨(ats, ops ++ [⟨25, 0, a, 0, 0⟩]), made_ok pre (tail_var ⟨a0, a1⟩ ch) (by omega) hats hatl (by omega) ⟨hp0, hp1⟩ (by simp; omega)⟩ (ent_drop (aI rfl (aI rfl trivial)) (aI ((aI rfl (Or.inl rfl))) (aI ((by trivial)) (aI ((aI rfl (Or.inl rfl))) (aI ((aI rfl (Or.inl rfl))) (aI ((aI rfl (aI rfl (aI rfl rfl)))) (aI ((aI rfl (aI rfl (aI (by simp) (by simp [opC]))))) trivial)))))) rfl rfl)
        · refine satq_mid (α := Bool) (fun y => [(2, .p (.c (.ref 0 0))), (3, .p (.c (.ref 1 0))), (4, one (.int .i64 n)), (5, one (.int .u32 at0)), (6, .p (.c (.ref 3 0))), (8, one (.int .u32 (q * 4))), (106, one (.bool y))]) (fun y => [.cells 32 [.v (.slice none 0 0), .v (.slice none 0 0), .v (.slice none 0 0)], .cells 124 ((mkC A m c (k + 1 + 1)).map .v), .cells 3 [.v (.int .i64 p)], .cells 32 [.row 4, .sl 2 0 1 1, .row 5], .row 24 1 ats.length (ats.map (.int .u32)), .row 53 5 ops.length (ops.flatMap opC)]) ?_ fun y => ?_
          · refine satq_seq ?_
            conv => whnf
            refine satq_cond rfl (fun h => ?_) (fun h => ?_)
            · refine satq_skip ?_
              exact atq_mid true (ent_same rfl (aI rfl (aI rfl (aI rfl (aI rfl (aI rfl (aI rfl (aI ((by show one _ = one _; rw [h])) trivial))))))) (aI ((aI rfl (Or.inl rfl))) (aI ((aI rfl (Or.inl rfl))) (aI ((aI rfl (Or.inl rfl))) (aI ((aI rfl (Or.inl rfl))) (aI ((aI rfl (aI rfl (aI rfl rfl)))) (aI ((aI rfl (aI rfl (aI rfl rfl)))) trivial)))))))
            · refine satq_vc ?_
              conv => whnf
              exact atq_mid (s == 3) (ent_same rfl (aI rfl (aI rfl (aI rfl (aI rfl (aI rfl (aI rfl (aI rfl trivial))))))) (aI ((aI rfl (Or.inl rfl))) (aI ((aI rfl (Or.inl rfl))) (aI ((aI rfl (Or.inl rfl))) (aI ((aI rfl (Or.inl rfl))) (aI ((aI rfl (aI rfl (aI rfl rfl)))) (aI ((aI rfl (aI rfl (aI rfl rfl)))) trivial)))))))
          refine satq_cond rfl (fun _ => ?_) (fun _ => ?_)
          · refine satq_vc ?_
            refine sat_any (.q 0 (.q 2 (.q 4 (.q 6 (.q 7 (.q 8 (.q 9 (.q 10 (.q 11 (.alt 1 (.alt 3 (.q 5 (.alt 12 (.alt 13 (.q 14 (.alt 15 .done .no)) .no) .no)) .no) (.alt 3 (.q 5 (.alt 1 (.alt 12 (.alt 13 (.q 14 (.alt 15 .done .no)) .no) .no) (.alt 12 (.alt 1 (.alt 13 (.q 14 (.alt 15 .done .no)) .no) .no) .no))) .no))))))))))) mixed (by kernel_rfl) (by kernel_rfl) ?_
            conv => whnf
            refine ⟨_, wr64 (by omega), ?_⟩
            conv => whnf
            refine ⟨_, wr32 _, ?_⟩
            conv => whnf
            refine ⟨_, wr32 _, ?_⟩
            conv => whnf
            refine ⟨?_, ?_, trivial⟩
            · conv => whnf
              refine ⟨?_, trivial⟩
              conv => whnf
              refine call_take 1 rfl hs0 hl hm (by omega) (by omega) fun a a0 a1 => ?_
              conv => whnf
              refine ⟨?_, trivial⟩
              conv => whnf
              refine ⟨?_, trivial⟩
              conv => whnf
              refine appK_sound rfl ?_ rfl
              conv => whnf
              refine ⟨by omega, ?_⟩
              conv => whnf
              refine ⟨?_, trivial⟩
              conv => whnf
              refine atq_block ?_
              exact atq_mid ⟨(ats, ops ++ [⟨23, 0, a, 0, q * 4⟩, ⟨24, 0, 0, 0, (at0 + 4 * n % 4294967296) % 4294967296⟩]), made_ok pre (tail_if ⟨a0, a1⟩ hnx (word_mod _) ch) (by omega) hats hatl (by omega) ⟨hp0, hp1⟩ (by simp; omega)⟩ (ent_drop (aI rfl (aI rfl trivial)) (aI ((aI rfl (Or.inl rfl))) (aI ((by trivial)) (aI ((aI rfl (Or.inl rfl))) (aI ((aI rfl (Or.inl rfl))) (aI ((aI rfl (aI rfl (aI rfl rfl)))) (aI ((aI rfl (aI rfl (aI (by simp) (by simp [opC]))))) trivial)))))) rfl rfl)
            · conv => whnf
              refine call_take 1 rfl hs0 hl hm (by omega) (by omega) fun a a0 a1 => ?_
              conv => whnf
              refine ⟨?_, ?_, trivial⟩
              · conv => whnf
                refine ⟨?_, trivial⟩
                conv => whnf
                refine ⟨?_, trivial⟩
                conv => whnf
                refine appK_sound rfl ?_ rfl
                conv => whnf
                refine ⟨by omega, ?_⟩
                conv => whnf
                refine ⟨?_, trivial⟩
                conv => whnf
                refine atq_block ?_
                exact atq_mid ⟨(ats, ops ++ [⟨23, 0, a, 0, q * 4⟩, ⟨24, 0, 0, 0, (at0 + 4 * n % 4294967296) % 4294967296⟩]), made_ok pre (tail_if ⟨a0, a1⟩ hnx (word_mod _) ch) (by omega) hats hatl (by omega) ⟨hp0, hp1⟩ (by simp; omega)⟩ (ent_drop (aI rfl (aI rfl trivial)) (aI ((aI rfl (Or.inl rfl))) (aI ((by trivial)) (aI ((aI rfl (Or.inl rfl))) (aI ((aI rfl (Or.inl rfl))) (aI ((aI rfl (aI rfl (aI rfl rfl)))) (aI ((aI rfl (aI rfl (aI (by simp) (by simp [opC]))))) trivial)))))) rfl rfl)
              · conv => whnf
                refine ⟨?_, trivial⟩
                conv => whnf
                refine ⟨?_, trivial⟩
                conv => whnf
                refine appK_sound rfl ?_ rfl
                conv => whnf
                refine ⟨by omega, ?_⟩
                conv => whnf
                refine ⟨?_, trivial⟩
                conv => whnf
                refine atq_block ?_
                exact atq_mid ⟨(ats, ops ++ [⟨23, 0, a, 0, q * 4⟩, ⟨24, 0, 0, 0, (at0 + 4 * n % 4294967296) % 4294967296⟩]), made_ok pre (tail_if ⟨a0, a1⟩ hnx (word_mod _) ch) (by omega) hats hatl (by omega) ⟨hp0, hp1⟩ (by simp; omega)⟩ (ent_drop (aI rfl (aI rfl trivial)) (aI ((aI rfl (Or.inl rfl))) (aI ((by trivial)) (aI ((aI rfl (Or.inl rfl))) (aI ((aI rfl (Or.inl rfl))) (aI ((aI rfl (aI rfl (aI rfl rfl)))) (aI ((aI rfl (aI rfl (aI (by simp) (by simp [opC]))))) trivial)))))) rfl rfl)
          · refine satq_vc ?_
            conv => whnf
            refine appK_sound rfl ?_ rfl
            conv => whnf
            refine ⟨by omega, ?_⟩
            conv => whnf
            refine atq_block ?_
            exact atq_mid ⟨(ats, ops ++ [⟨24, 0, 0, 0, q * 4⟩]), made_ok pre (tail_exit hnx ch) (by omega) hats hatl (by omega) ⟨hp0, hp1⟩ (by simp; omega)⟩ (ent_drop (aI rfl (aI rfl trivial)) (aI ((aI rfl (Or.inl rfl))) (aI ((by trivial)) (aI ((aI rfl (Or.inl rfl))) (aI ((aI rfl (Or.inl rfl))) (aI ((aI rfl (aI rfl (aI rfl rfl)))) (aI ((aI rfl (aI rfl (aI (by simp) (by simp [opC]))))) trivial)))))) rfl rfl)
    obtain ⟨⟨ats2, ops2⟩, hy⟩ := y
    dsimp only at hy ⊢
    refine satq_vc ?_
    conv => whnf
    refine atq_ret ?_
    conv => whnf
    refine fin_rows3 4 2 5 ⟨ats2, [p], ops2⟩ (by omega) (by omega) (by omega) (.inl ⟨rfl, rfl⟩) (.inr ⟨rfl, rfl, rfl, by show (1 : Nat) ≤ maxLen; decide⟩) (.inl ⟨rfl, rfl⟩) fun w' v1 v2 v3 h3 hB => ⟨_, v1, v2, v3, hy, rfl, h3, hB⟩
end Go.Proofs.Ytmjfgnnefcimiaa
