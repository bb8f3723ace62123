/- trothlaw04.long; cells that stay. -/
import Derived.Test.YtaooimhodoefoaaDisk04
import Derived.Test.YtaooimhodoefoaaDiskOpen
namespace Go.Proofs.Ytaooimhodoefoaa
open Go.RowKit Mem
set_option linter.unusedVariables false
set_option linter.unusedSimpArgs false

theorem cell_below {B : Nat} {w w' : World} {b o : Nat} {v : Value} (hb : Below B w w') (h : b < B) (hc : w.cell? ⟨b, o, none⟩ = some v) : w'.cell? ⟨b, o, none⟩ = some v := (World.cell?_of_block (hb.block b h)).trans hc
theorem below_undrew {w w' : World} (h : Below w.drew.heap.size w.drew w') : Below w.heap.size w w' := ⟨h.os, h.tape, h.output, h.size, h.block⟩
def longAt (x : CallD) : Bool := decide (300 < x.dn) || decide (60 < x.kn)
def longB (l : List CallD) : Bool := decide (60 < l.length) || l.any longAt
theorem longB_false {l : List CallD} (h : longB l = false) : l.length ≤ 60 ∧ ∀ i, i < l.length → (l.getD i .zero).dn ≤ 300 ∧ (l.getD i .zero).kn ≤ 60 := by
  unfold longB at h
  rw [Bool.or_eq_false_iff] at h
  refine ⟨by simpa using h.1, fun i hi => ?_⟩
  have h2 := List.any_eq_false.1 h.2 (l.getD i .zero) (by rw [List.getD_eq_getElem?_getD, List.getElem?_eq_getElem hi]; simp)
  unfold longAt at h2
  simp at h2
  exact h2
theorem any_take_succ {l : List CallD} {k : Nat} (hk : k < l.length) (h1 : (l.take k).any longAt = false) (h2 : longAt (l.getD k .zero) = false) : (l.take (k + 1)).any longAt = false := by
  rw [List.take_succ_eq_append_getElem hk, List.any_append, h1]
  rw [List.getD_eq_getElem?_getD, List.getElem?_eq_getElem hk] at h2
  simpa using h2
set_option maxRecDepth 100000 in
set_option maxHeartbeats 1000000 in
theorem long_any (A : Option Addr) (n c : Nat) (l : List CallD) (w : World) (hl : CS w A n l) (hn : n ≤ c) (hc : c ≤ 9223372036854775807) :
    Calls Try.prog 28 #[.slice A n c] w fun e w' => e = .returned (.bool (longB l)) ∧ w = w' := by
  have hlen := hl.len
  by_cases h60 : 60 < n
  · have hR : longB l = true := by unfold longB; rw [hlen, decide_eq_true h60]; rfl
    rw [hR]
    have hd : decide (60 < (n : Int)) = true := by simp; omega
    clear hl hlen hR
    go_enter Try.func28, Try.ntmps28
    go_wp2
    go_ret
    exact ⟨rfl, rfl⟩
  · have hd : decide (60 < (n : Int)) = false := by simp; omega
    have HL := Lib.hid (And.intro hl hlen)
    clear hl hlen
    go_enter Try.func28, Try.ntmps28
    go_wp2
    go_loop [3] (fun i => ∃ k : Nat, k ≤ n ∧ i = .int .i64 k ∧ (l.take k).any longAt = false) (fun i => n - (intOf i).toNat)
    case atStart => exact ⟨0, by omega, rfl, by simp⟩
    case round =>
      obtain ⟨k, hk, rfl, hno⟩ := hrel
      by_cases hlt : k < n
      · obtain ⟨b, off, rfl, _, _, _, c3, c4, _⟩ := HL.out.1.at_ hlt
        have hkl : k < l.length := by rw [HL.out.2]; exact hlt
        have hkm : l.getD k .zero ∈ l := by rw [List.getD_eq_getElem?_getD, List.getElem?_eq_getElem hkl]; simp
        have hany := fun h => any_take_succ hkl hno (show longAt (l.getD k .zero) = false from h)
        have hall : longAt (l.getD k .zero) = true → longB l = true := fun h => by
          unfold longB
          rw [List.any_eq_true.2 ⟨_, hkm, h⟩, Bool.or_true]
        unfold longAt at hany hall
        generalize l.getD k .zero = x at *
        have H := Lib.hid (And.intro hany hall)
        clear hany hall hno hkl hkm
        by_cases h3 : 300 < x.dn
        · have hd3 : decide (300 < (x.dn : Int)) = true := by simp; omega
          go_wp2
          go_ret
          refine ⟨?_, rfl⟩
          rw [H.out.2 (by rw [decide_eq_true h3]; rfl)]; rfl
        · have hd3 : decide (300 < (x.dn : Int)) = false := by simp; omega
          by_cases h6 : 60 < x.kn
          · have hd6 : decide (60 < (x.kn : Int)) = true := by simp; omega
            go_wp2
            go_ret
            refine ⟨?_, rfl⟩
            rw [H.out.2 (by rw [decide_eq_true h6, Bool.or_true])]; rfl
          · have hd6 : decide (60 < (x.kn : Int)) = false := by simp; omega
            go_wp2
            go_round
            case rel => exact ⟨k + 1, by omega, by go_num, H.out.1 (by rw [decide_eq_false h3, decide_eq_false h6]; rfl)⟩
            case measure => simp [intOf]; omega
      · obtain rfl : k = n := by omega
        have hR : longB l = false := by
          unfold longB
          rw [List.take_of_length_le (by rw [HL.out.2]; omega)] at hno
          rw [hno, HL.out.2, decide_eq_false h60]
          rfl
        have H := Lib.hid hR
        clear hR hno
        go_wp2
        go_ret
        exact ⟨by rw [H.out]; rfl, rfl⟩
end Go.Proofs.Ytaooimhodoefoaa
