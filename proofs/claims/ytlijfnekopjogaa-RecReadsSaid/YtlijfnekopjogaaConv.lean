/- Strings and bytes: the two conversions, a slice cut. -/
import Derived.Test.YtlijfnekopjogaaRows
import Derived.Test.YtlijfnekopjogaaFr
import Derived.Lib.ConvBytes
import Derived.Laws.IdiomStrings
namespace Go.Proofs.Ytlijfnekopjogaa
open Go.RowKit Mem
set_option linter.unusedVariables false
set_option maxRecDepth 100000
set_option linter.unusedSimpArgs false

theorem ba_size (s : List UInt8) : (⟨s.toArray⟩ : ByteArray).size = s.length := by simp [ByteArray.size]
/-- '[]byte(s)' -/
theorem conv_str (s : List UInt8) (w : World) : (convert 9 33 (str s)).run Try.prog w = .ok (.slice (some ⟨w.heap.size, 0, none⟩) s.length (grownCap w s.length 0 5)) (Lib.bytesWorld w 5 ⟨s.toArray⟩) := by
  have := Lib.run_convert_string_bytes (P := Try.prog) w 9 33 5 ⟨s.toArray⟩ Try.underlying9 Try.underlying33 Try.underlying5
  rw [ba_size] at this
  exact this
/-- 'string(b)' -/
theorem conv_bytes {w : World} {A : Option Addr} {n : Nat} {bs : List UInt8} (h : BS w A n bs) (hn : 0 < n) (cap : Nat) (w1 : World) (hw : ∀ a : Addr, w1.cell? a = w.cell? a) : (convert 33 9 (.slice A n cap)).run Try.prog w1 = .ok (str bs) w1 := by
  obtain ⟨b, off, rfl, _, hc⟩ := h.2 hn
  obtain rfl : n = bs.length := h.1.symm
  refine run_convert_bytes_back (P := Try.prog) w1 33 9 5 ⟨b, off, none⟩ cap bs Try.underlying33 Try.underlying5 Try.underlying9 (fun j hj => ?_)
  have hadd : (⟨b, off, none⟩ : Addr).add j = ⟨b, off + j, none⟩ := by unfold Addr.add; split <;> simp_all
  rw [hadd, hw, hc j hj, List.getD_eq_getElem?_getD, List.getElem?_eq_getElem hj]
  rfl
theorem bytesWorld_below (w : World) (e : TypeId) (s : ByteArray) : Below w.heap.size w (Lib.bytesWorld w e s) := by
  refine ⟨rfl, rfl, rfl, by rw [Lib.bytesWorld_size]; omega, fun k hk => Lib.bytesWorld_at_old w e s k hk⟩
theorem bytesWorld_bs (w : World) (e : TypeId) (s : List UInt8) : BS (Lib.bytesWorld w e ⟨s.toArray⟩) (some ⟨w.heap.size, 0, none⟩) s.length s := by
  refine ⟨rfl, fun _ => ⟨w.heap.size, 0, rfl, by rw [Lib.bytesWorld_size]; omega, fun j hj => ?_⟩⟩
  rw [Nat.zero_add, Lib.bytesWorld_cell w e ⟨s.toArray⟩ j (by rw [ba_size]; exact hj)]

/-- 'string(b)', none too -/
theorem conv_bytes0 {w : World} {A : Option Addr} {n : Nat} {bs : List UInt8} (h : BS w A n bs) (cap : Nat) (w1 : World) (hw : ∀ a : Addr, w1.cell? a = w.cell? a) : (convert 33 9 (.slice A n cap)).run Try.prog w1 = .ok (str bs) w1 := by
  rcases Nat.eq_zero_or_pos n with rfl | hn
  · have hb : bs = [] := List.eq_nil_of_length_eq_zero h.1
    subst hb
    cases A with
    | none =>
      rw [run_convert_bytes_string w1 33 9 5 none 0 cap Try.underlying33 Try.underlying5 Try.underlying9]
      simp [Conv.bytesToString, str]
      rfl
    | some a => exact run_convert_bytes_back (P := Try.prog) w1 33 9 5 a cap [] Try.underlying33 Try.underlying5 Try.underlying9 (fun j hj => absurd hj (by simp))
  · exact conv_bytes h hn cap w1 hw
/-- where a slice lies that is cut ahead of l -/
def subA (A : Option Addr) (c l : Nat) : Option Addr := if c = l then A else A.map (·.add l)
theorem addr_add (b off i : Nat) : (⟨b, off, none⟩ : Addr).add i = ⟨b, off + i, none⟩ := by unfold Addr.add; split <;> simp_all
theorem cinfo8 : (Try.prog.info? 5).map (fun i => (i.zero, i.size, i.bytes)) = some (some (.int .u8 0), 1, 1) := by kernel_rfl
theorem size8 (W : World) : (sizeOf (Try.prog.elem 33)).run Try.prog W = .ok 1 W := by
  obtain ⟨i0, hi0, hz0, hz1, hz2⟩ := info_parts cinfo8
  have hel : Try.prog.elem 33 = 5 := by kernel_rfl
  simp [hel, sizeOf, typeInfo, hi0, hz1]
/-- 's[k:]' -/
theorem cut_l (A : Option Addr) (n c k : Nat) (x : Int) (hx : x = k) (hk : k ≤ n) (W : World) : (Instr.slice 33 (.slice A n c) (some (.int .i64 x)) none none).run Try.prog W = .ok (.slice (subA A c k) (n - k) (c - k)) W := by
  subst hx
  rw [run_slice_l W 33 A n c Try.underlying33 .i64 k (by omega) (by omega), size8]
  simp [Result.andThen, sliced, subA]
/-- 's[k:m]' -/
theorem cut_lh (A : Option Addr) (n c k m : Nat) (x y : Int) (hx : x = k) (hy : y = m) (hk : k ≤ m) (hm : m ≤ c) (W : World) : (Instr.slice 33 (.slice A n c) (some (.int .i64 x)) (some (.int .i64 y)) none).run Try.prog W = .ok (.slice (subA A c k) (m - k) (c - k)) W := by
  subst hx
  subst hy
  rw [run_slice_lh W 33 A n c Try.underlying33 .i64 .i64 k m (by omega) (by omega) (by omega), size8]
  simp [Result.andThen, sliced, subA]
/-- 's[:m]' -/
theorem cut_h (A : Option Addr) (n c m : Nat) (y : Int) (hy : y = m) (hm : m ≤ c) (W : World) : (Instr.slice 33 (.slice A n c) none (some (.int .i64 y)) none).run Try.prog W = .ok (.slice A m c) W := by
  subst hy
  rw [run_slice_h W 33 A n c Try.underlying33 .i64 m (by omega) (by omega), size8]
  simp [Result.andThen, sliced, Addr.add]
theorem at_eq (t : TypeId) (x : Value) (lo hi mx : Option Value) (W : World) (h : t = 33) : (Instr.sliceAt t x lo hi mx).run Try.prog W = (Instr.slice t x lo hi mx).run Try.prog W := by
  subst h
  exact run_sliceAt_slice W 33 x lo hi mx Try.underlying33
theorem subA_bs {w : World} {A : Option Addr} {n : Nat} {bs : List UInt8} (hb : BS w A n bs) (c i j : Nat) (hij : i ≤ j) (hj : j ≤ n) (hc : n ≤ c) : BS w (subA A c i) (j - i) ((bs.drop i).take (j - i)) := by
  refine ⟨by rw [List.length_take, List.length_drop, hb.1]; omega, fun hp => ?_⟩
  obtain ⟨b, off, rfl, hlt, hcl⟩ := hb.2 (by omega)
  refine ⟨b, off + i, ?_, hlt, fun k hk => ?_⟩
  · unfold subA
    rw [if_neg (by omega), Option.map_some, addr_add]
  · rw [List.length_take, List.length_drop, hb.1] at hk
    rw [Nat.add_assoc, hcl (i + k) (by rw [hb.1]; omega), List.getD_eq_getElem?_getD, List.getD_eq_getElem?_getD, List.getElem?_take, if_pos (by omega), List.getElem?_drop]
end Go.Proofs.Ytlijfnekopjogaa
