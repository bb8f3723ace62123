/- What a disk is, as plain data: the program's. -/
import Derived.Test.YtfcmlfcpgboigaaMaps
import Derived.Test.YtfcmlfcpgboigaaFr
namespace Go.Proofs.Ytfcmlfcpgboigaa
open Go Go.RowKit Mem

namespace Dk
structure D where
  size : Int
  syn : Int → Option (List UInt8)
  now : Int → Option (List UInt8)
  pend : List (Int × List UInt8)
  fuse : Int
  down : Bool
  syncs : Int
def zeros : List UInt8 := List.replicate 256 0
theorem zeros_length : zeros.length = 256 := List.length_replicate
def new (n : Int) : D := ⟨n, fun _ => none, fun _ => none, [], -1, false, 0⟩
def step (d : D) : Nat × D := if (d.down || d.fuse == 0) = true then (40, { d with down := true }) else (0, { d with fuse := if 0 < d.fuse then d.fuse - 1 else d.fuse })
def at_ (d : D) (n : Int) : Nat := if n < 0 ∨ d.size ≤ n then 1 else 0
def put (d : D) (n : Int) (s : List UInt8) : D := { d with now := upd d.now n s, pend := d.pend ++ [(n, s)] }
def write (d : D) (n : Int) (s : List UInt8) : Nat × D :=
  if at_ d n ≠ 0 then (1, d) else if s.length ≠ 256 then (12, d) else if (step d).1 ≠ 0 then (40, (step d).2) else (0, put (step d).2 n s)
def synced (d : D) : D := { d with syn := fun n => (d.now n).or (d.syn n), now := fun _ => none, pend := [], syncs := d.syncs + 1 }
def sync (d : D) : Nat × D := if (step d).1 ≠ 0 then (40, (step d).2) else (0, synced (step d).2)
def cur (d : D) (n : Int) : List UInt8 := (d.now n).getD ((d.syn n).getD zeros)
def read (d : D) (n : Int) : List UInt8 × Nat := if at_ d n ≠ 0 then ([], 1) else if d.down then ([], 40) else (cur d n, 0)
def fused (d : D) (n : Int) : D := { d with fuse := max n (-1) }
/-- how much of write i is kept -/
def cutOf (keep : List Int) (torn : Bool) (cut : Int) (len : Nat) (i : Nat) : Nat :=
  if torn = true ∧ i + 1 = len then (min (max cut 0) 256).toNat else if (i : Int) ∈ keep then 256 else 0
def mix (syn : Int → Option (List UInt8)) (x : Int × List UInt8) (c : Nat) : Int → Option (List UInt8) :=
  if c = 0 then syn else upd syn x.1 (x.2.take c ++ ((syn x.1).getD zeros).drop c)
/-- behind the first i writes -/
def crashTo (d : D) (keep : List Int) (torn : Bool) (cut : Int) : Nat → Int → Option (List UInt8)
  | 0 => d.syn
  | i + 1 => mix (crashTo d keep torn cut i) (d.pend.getD i (0, [])) (cutOf keep torn cut d.pend.length i)
def crash (d : D) (keep : List Int) (torn : Bool) (cut : Int) : D := ⟨d.size, crashTo d keep torn cut d.pend.length, fun _ => none, [], -1, false, 0⟩
/-- what always holds -/
structure Ok (d : D) : Prop where
  size : 1 ≤ d.size ∧ d.size ≤ 4096
  syn : ∀ n s, d.syn n = some s → s.length = 256
  now : ∀ n s, d.now n = some s → s.length = 256
  pend : ∀ x ∈ d.pend, x.2.length = 256 ∧ 0 ≤ x.1 ∧ x.1 < d.size
  fuse : -1 ≤ d.fuse ∧ d.fuse ≤ 9223372036854775807
  syncs : 0 ≤ d.syncs
theorem new_ok (n : Int) (h : 1 ≤ n ∧ n ≤ 4096) : Ok (new n) := ⟨h, by simp [new], by simp [new], by simp [new], by simp [new], by simp [new]⟩
theorem step_ok {d : D} (h : Ok d) : Ok (step d).2 := by
  unfold step
  split
  · exact ⟨h.size, h.syn, h.now, h.pend, h.fuse, h.syncs⟩
  · refine ⟨h.size, h.syn, h.now, h.pend, ?_, h.syncs⟩
    have := h.fuse
    simp only
    split <;> omega
theorem put_ok {d : D} (h : Ok d) (n : Int) (s : List UInt8) (hs : s.length = 256) (hn : 0 ≤ n ∧ n < d.size) : Ok (put d n s) := by
  refine ⟨h.size, h.syn, fun m t ht => ?_, fun x hx => ?_, h.fuse, h.syncs⟩
  · simp only [put, upd] at ht
    split at ht
    · cases ht; exact hs
    · exact h.now m t ht
  · simp only [put, List.mem_append, List.mem_singleton] at hx
    rcases hx with hx | rfl
    · exact h.pend x hx
    · exact ⟨hs, hn⟩
theorem step_size (d : D) : (step d).2.size = d.size := by unfold step; split <;> rfl
theorem step_pend (d : D) : (step d).2.pend = d.pend := by unfold step; split <;> rfl
theorem step_syncs (d : D) : (step d).2.syncs = d.syncs := by unfold step; split <;> rfl
theorem write_ok {d : D} (h : Ok d) (n : Int) (s : List UInt8) : Ok (write d n s).2 := by
  unfold write
  split
  · exact h
  · rename_i h1
    split
    · exact h
    · rename_i h2
      split
      · exact step_ok h
      · refine put_ok (step_ok h) n s (by omega) ?_
        rw [step_size]
        unfold at_ at h1
        split at h1
        · simp at h1
        · omega
theorem synced_ok {d : D} (h : Ok d) : Ok (synced d) := by
  refine ⟨h.size, fun n s hs => ?_, by simp [synced], by simp [synced], h.fuse, by have := h.syncs; simp only [synced]; omega⟩
  simp only [synced] at hs
  cases hn : d.now n with
  | none => rw [hn] at hs; exact h.syn n s (by simpa using hs)
  | some t => rw [hn] at hs; exact h.now n s (by rw [hn]; simpa using hs)
theorem sync_ok {d : D} (h : Ok d) : Ok (sync d).2 := by
  unfold sync
  split
  · exact step_ok h
  · exact synced_ok (step_ok h)
theorem fused_ok {d : D} (h : Ok d) (n : Int) (hn : n ≤ 9223372036854775807) : Ok (fused d n) := ⟨h.size, h.syn, h.now, h.pend, by simp only [fused]; omega, h.syncs⟩
theorem cur_length {d : D} (h : Ok d) (n : Int) : (cur d n).length = 256 := by
  unfold cur
  cases hn : d.now n with
  | some t => exact h.now n t hn
  | none =>
    cases hs : d.syn n with
    | some t => exact h.syn n t hs
    | none => exact zeros_length
theorem cutOf_le (keep : List Int) (torn : Bool) (cut : Int) (len i : Nat) : cutOf keep torn cut len i ≤ 256 := by
  unfold cutOf
  split
  · omega
  · split <;> omega
theorem mix_length {syn : Int → Option (List UInt8)} (hs : ∀ n s, syn n = some s → s.length = 256) (x : Int × List UInt8) (hx : x.2.length = 256) (c : Nat) (hc : c ≤ 256) : ∀ n s, mix syn x c n = some s → s.length = 256 := by
  intro n s h
  unfold mix at h
  split at h
  · exact hs n s h
  · simp only [upd] at h
    split at h
    · cases h
      have hz : ((syn x.1).getD zeros).length = 256 := by
        cases hq : syn x.1 with
        | none => exact zeros_length
        | some t => exact hs _ t hq
      rw [List.length_append, List.length_take, List.length_drop, hz, hx]
      omega
    · exact hs n s h
theorem crashTo_length {d : D} (h : Ok d) (keep : List Int) (torn : Bool) (cut : Int) : ∀ i, i ≤ d.pend.length → ∀ n s, crashTo d keep torn cut i n = some s → s.length = 256
  | 0, _ => h.syn
  | i + 1, hi => by
    refine mix_length (crashTo_length h keep torn cut i (by omega)) _ ?_ _ (cutOf_le ..)
    rw [List.getD_eq_getElem?_getD, List.getElem?_eq_getElem (by omega)]
    exact (h.pend _ (List.getElem_mem _)).1
theorem crash_ok {d : D} (h : Ok d) (keep : List Int) (torn : Bool) (cut : Int) : Ok (crash d keep torn cut) :=
  ⟨h.size, crashTo_length h keep torn cut _ (Nat.le_refl _), by simp [crash], by simp [crash], by simp [crash], by simp [crash]⟩
end Dk

section
variable {F G : Nat → Prop} {a b c : World}
theorem Fr.setBlock (h : Fr F a b) (r : Nat) (o : Obj) (hr : r < a.heap.size → F r) : Fr F a (ChangeMaps.setBlock b r o) := by
  refine ⟨h.os, h.tape, h.output, by have := h.size; simp [ChangeMaps.setBlock]; exact this, fun i hi hn => ?_⟩
  have : r ≠ i := fun e => hn (by subst e; exact hr hi)
  simp only [ChangeMaps.setBlock, Array.getElem?_setIfInBounds, if_neg this]
  exact h.block i hi hn
end
end Go.Proofs.Ytfcmlfcpgboigaa
