/- The document's disk (trothref04) in memory, and what its small functions do: as the program's plain data say. -/
import Derived.Test.YtaooimhodoefoaaDiskLong
import Derived.Test.YtaooimhodoefoaaSame
namespace Go.Proofs.Ytaooimhodoefoaa
open Go.RowKit Mem
set_option linter.unusedVariables false
set_option linter.unusedSimpArgs false

namespace Dk
/-- the last write over sector n -/
def lastOf (l : List (Int × List UInt8)) (n : Int) : Option (List UInt8) := l.foldl (fun acc x => if x.1 = n then some x.2 else acc) none
theorem lastOf_snoc (l : List (Int × List UInt8)) (x : Int × List UInt8) (n : Int) : lastOf (l ++ [x]) n = if x.1 = n then some x.2 else lastOf l n := by
  unfold lastOf
  rw [List.foldl_append]
  rfl
theorem lastOf_take (l : List (Int × List UInt8)) (k : Nat) (hk : k < l.length) (n : Int) : lastOf (l.take (k + 1)) n = if (l.getD k (0, [])).1 = n then some (l.getD k (0, [])).2 else lastOf (l.take k) n := by
  rw [List.take_succ_eq_append_getElem hk, lastOf_snoc, List.getD_eq_getElem?_getD, List.getElem?_eq_getElem hk]
  rfl
/-- what is pending is what was written last -/
def Nw (d : D) : Prop := ∀ n, d.now n = lastOf d.pend n
theorem nw_new (n : Int) : Nw (new n) := fun _ => rfl
theorem nw_step {d : D} (h : Nw d) : Nw (step d).2 := by unfold step; split <;> exact h
theorem nw_put {d : D} (h : Nw d) (n : Int) (s : List UInt8) : Nw (put d n s) := by
  intro m
  show upd d.now n s m = lastOf (d.pend ++ [(n, s)]) m
  rw [lastOf_snoc]
  unfold upd
  by_cases e : m = n
  · subst e; simp
  · rw [if_neg e, if_neg (fun x => e (Eq.symm x) : ¬ n = m)]; exact h m
theorem nw_write {d : D} (h : Nw d) (n : Int) (s : List UInt8) : Nw (write d n s).2 := by
  unfold write
  split
  · exact h
  · split
    · exact h
    · split
      · exact nw_step h
      · exact nw_put (nw_step h) n s
theorem nw_sync {d : D} (h : Nw d) : Nw (sync d).2 := by
  unfold sync
  split
  · exact nw_step h
  · exact fun _ => rfl
theorem nw_fused {d : D} (h : Nw d) (n : Int) : Nw (fused d n) := h
theorem nw_crash (d : D) (ks : List Int) (torn : Bool) (cut : Int) : Nw (crash d ks torn cut) := fun _ => rfl
end Dk

/-- A SECTOR's BYTES BEHIND A SLICE, its block in G. -/
def SecAt (w : World) (G : Nat → Prop) (v : Value) (bs : List UInt8) : Prop :=
  ∃ b off c C fr, v = .slice (some ⟨b, off, none⟩) 256 c ∧ G b ∧ w.heap[b]? = some (.cells C 5 fr) ∧ bs.length = 256 ∧ 256 ≤ c ∧ c ≤ maxLen ∧ ∀ j, j < 256 → C[off + j]? = some (Mem.u8 (bs.getD j 0))
section
variable {w w' : World} {G G' : Nat → Prop} {v : Value} {bs : List UInt8}
theorem SecAt.keep (h : SecAt w G v bs) (hk : ∀ k, G k → w'.heap[k]? = w.heap[k]?) : SecAt w' G v bs := by
  obtain ⟨b, off, c, C, fr, h1, h2, h3, r⟩ := h
  exact ⟨b, off, c, C, fr, h1, h2, (hk b h2).trans h3, r⟩
theorem SecAt.mono (h : SecAt w G v bs) (hk : ∀ k, G k → G' k) : SecAt w G' v bs := by
  obtain ⟨b, off, c, C, fr, h1, h2, r⟩ := h
  exact ⟨b, off, c, C, fr, h1, hk b h2, r⟩
theorem SecAt.bytes (h : SecAt w G v bs) : ∃ A c, v = .slice A 256 c ∧ BS w A 256 bs ∧ 256 ≤ c ∧ c ≤ maxLen ∧ bs.length = 256 := by
  obtain ⟨b, off, c, C, fr, rfl, h2, h3, h4, h5, h6, h7⟩ := h
  refine ⟨_, c, rfl, ⟨h4, fun _ => ⟨b, off, rfl, ?_, fun j hj => ?_⟩⟩, h5, h6, h4⟩
  · rcases Nat.lt_or_ge b w.heap.size with hl | hl
    · exact hl
    · rw [Array.getElem?_eq_none hl] at h3; cases h3
  · rw [cell_of_row w b (off + j) C 5 fr h3]
    exact h7 j (by omega)
theorem SecAt.of_own {base n c : Nat} {A : Option Addr} (h : w.ownsRow base 5 1 (.slice A 256 c) 256 (u8s bs)) : SecAt w (fun k => (Value.slice A 256 c).ownBlock = some k) (.slice A 256 c) bs := by
  have hl := own_len h
  rcases h.2 with ⟨h, _⟩ | ⟨g, cap, cur, hv, _, hg, h1, h2, h3, h4⟩
  · cases h
  · injection hv with hA _ hc
    subst hA hc
    refine ⟨g, 0, c, cur, (0, 0), rfl, rfl, hg, hl, h1, h2, fun j hj => ?_⟩
    have h5 : (u8s bs)[j]? = some (Mem.u8 (bs.getD j 0)) := by
      rw [u8s_getElem?, List.getD_eq_getElem?_getD, List.getElem?_eq_getElem (by omega)]
      rfl
    rw [Nat.zero_add, ← Array.getElem?_toList]
    rw [← h4] at h5
    rw [List.getElem?_take, if_pos (by omega)] at h5
    exact h5
end
structure RefIn (w : World) (q : Nat) (d : Dk.D) (sv : Value) (xs : List Value) (lv : Value) (ys : List Value) (G : Nat → Prop) : Prop where
  blk : Blk w q 63 #[sv, lv, .int .i64 d.fuse, .bool d.down, .int .i64 d.syncs]
  srow : w.ownsRow 0 22 1 sv xs.length xs
  slen : (xs.length : Int) = d.size
  syn : ∀ (i : Nat) v, xs[i]? = some v → SecAt w G v ((d.syn i).getD Dk.zeros)
  lrow : w.ownsRow 0 65 2 lv d.pend.length ys
  list : ∀ (i : Nat), i < d.pend.length → ys[i * 2]? = some (.int .i64 (d.pend.getD i (0, [])).1) ∧ ∃ v, ys[i * 2 + 1]? = some v ∧ SecAt w G v (d.pend.getD i (0, [])).2
  footq : G q
  foots : ∀ k, sv.ownBlock = some k → G k
  footl : ∀ k, lv.ownBlock = some k → G k
  bound : ∀ k, G k → k < w.heap.size
/-- THE DOCUMENT's DISK IN MEMORY, ITS BLOCKS IN G. -/
def RefAt (w : World) (q : Nat) (d : Dk.D) (G : Nat → Prop) : Prop := ∃ sv xs lv ys, RefIn w q d sv xs lv ys G
def RefTo (w : World) (G : Nat → Prop) (q : Nat) (d : Dk.D) (w' : World) : Prop := ∃ G', RefAt w' q d G' ∧ Fr G w w' ∧ ∀ k, G' k → G k ∨ w.heap.size ≤ k
section
variable {w w' : World} {q : Nat} {d d' : Dk.D} {sv lv : Value} {xs ys : List Value} {G G' F : Nat → Prop}
theorem RefIn.keep (h : RefIn w q d sv xs lv ys G) (hs : w.heap.size ≤ w'.heap.size) (hk : ∀ k, G k → w'.heap[k]? = w.heap[k]?) : RefIn w' q d sv xs lv ys G :=
  ⟨h.blk.keep (hk q h.footq), own_keep h.srow (fun k e => hk k (h.foots k e)), h.slen, fun i v e => (h.syn i v e).keep hk, own_keep h.lrow (fun k e => hk k (h.footl k e)),
    fun i hi => ⟨(h.list i hi).1, by obtain ⟨v, h1, h2⟩ := (h.list i hi).2; exact ⟨v, h1, h2.keep hk⟩⟩, h.footq, h.foots, h.footl, fun k x => Nat.lt_of_lt_of_le (h.bound k x) hs⟩
theorem RefAt.keep (h : RefAt w q d G) (hs : w.heap.size ≤ w'.heap.size) (hk : ∀ k, G k → w'.heap[k]? = w.heap[k]?) : RefAt w' q d G := by
  obtain ⟨sv, xs, lv, ys, h⟩ := h
  exact ⟨sv, xs, lv, ys, h.keep hs hk⟩
theorem RefAt.bound (h : RefAt w q d G) : ∀ k, G k → k < w.heap.size := by
  obtain ⟨sv, xs, lv, ys, h⟩ := h
  exact h.bound
theorem RefIn.cells (h : RefIn w q d sv xs lv ys G) : w.cell? ⟨q, 0, none⟩ = some sv ∧ w.cell? ⟨q, 1, none⟩ = some lv ∧ w.cell? ⟨q, 2, none⟩ = some (.int .i64 d.fuse) ∧ w.cell? ⟨q, 3, none⟩ = some (.bool d.down) ∧ w.cell? ⟨q, 4, none⟩ = some (.int .i64 d.syncs) :=
  ⟨h.blk.cell 0, h.blk.cell 1, h.blk.cell 2, h.blk.cell 3, h.blk.cell 4⟩
/-- blocks of unlike types are unlike -/
theorem blk_ne {a b : Nat} {C C' : Array Value} {t t' : TypeId} {f f' : Nat × Nat} (h1 : w.heap[a]? = some (.cells C t f)) (h2 : w.heap[b]? = some (.cells C' t' f')) (ht : t ≠ t') : a ≠ b := by
  rintro rfl
  rw [h1] at h2
  injection h2 with h2
  injection h2 with _ e
  exact ht e
theorem RefIn.qs (h : RefIn w q d sv xs lv ys G) {k : Nat} (hk : sv.ownBlock = some k) : k ≠ q := by
  obtain ⟨cur, hg⟩ := own_block h.srow hk
  exact blk_ne hg h.blk (by decide)
theorem RefIn.ql (h : RefIn w q d sv xs lv ys G) {k : Nat} (hk : lv.ownBlock = some k) : k ≠ q := by
  obtain ⟨cur, hg⟩ := own_block h.lrow hk
  exact blk_ne hg h.blk (by decide)
theorem RefIn.sl (h : RefIn w q d sv xs lv ys G) {k k' : Nat} (hk : sv.ownBlock = some k) (hk' : lv.ownBlock = some k') : k ≠ k' := by
  obtain ⟨cur, hg⟩ := own_block h.srow hk
  obtain ⟨cur', hg'⟩ := own_block h.lrow hk'
  exact blk_ne hg hg' (by decide)
/-- a sector stays where another kind of block turns -/
theorem SecAt.apart {v : Value} {bs : List UInt8} {q : Nat} {C : Array Value} {t : TypeId} {f : Nat × Nat} (h : SecAt w G v bs) (hq : w.heap[q]? = some (.cells C t f)) (ht : 5 ≠ t) (hk : ∀ k, k < w.heap.size → k ≠ q → w'.heap[k]? = w.heap[k]?) : SecAt w' G v bs := by
  obtain ⟨b, off, c, C', fr, h1, h2, h3, r⟩ := h
  have hlt : b < w.heap.size := by
    rcases Nat.lt_or_ge b w.heap.size with hl | hl
    · exact hl
    · rw [Array.getElem?_eq_none hl] at h3; cases h3
  exact ⟨b, off, c, C', fr, h1, h2, (hk b hlt (blk_ne h3 hq ht)).trans h3, r⟩
/-- turning one scalar field -/
theorem RefIn.set (h : RefIn w q d sv xs lv ys G) (i : Nat) (u : Value) (hc : (#[sv, lv, .int .i64 d.fuse, .bool d.down, .int .i64 d.syncs] : Array Value).setIfInBounds i u = #[sv, lv, .int .i64 d'.fuse, .bool d'.down, .int .i64 d'.syncs])
    (hz : d'.size = d.size) (hs : d'.syn = d.syn) (hp : d'.pend = d.pend) : RefIn (w.setCell ⟨q, i, none⟩ u) q d' sv xs lv ys G := by
  have hk : ∀ k, k ≠ q → (w.setCell ⟨q, i, none⟩ u).heap[k]? = w.heap[k]? := fun k hk => Below.heap_setCell w _ u k hk
  refine ⟨?_, own_keep h.srow (fun k e => hk k (h.qs e)), by rw [hz]; exact h.slen, fun i v e => ?_, ?_, fun i hi => ?_, h.footq, h.foots, h.footl, fun k x => by rw [setCell_size]; exact h.bound k x⟩
  · have := h.blk.put i u
    rwa [hc] at this
  · rw [hs]; exact (h.syn i v e).apart h.blk (by decide) (fun k _ => hk k)
  · rw [hp]; exact own_keep h.lrow (fun k e => hk k (h.ql e))
  · rw [hp] at hi ⊢
    obtain ⟨h1, v, h2, h3⟩ := h.list i hi
    exact ⟨h1, v, h2, h3.apart h.blk (by decide) (fun k _ => hk k)⟩
end
theorem at_zero (d : Dk.D) (n : Int) : (Dk.at_ d n == 0) = (decide (0 ≤ n) && decide (n < d.size)) := by
  unfold Dk.at_
  by_cases h : n < 0 ∨ d.size ≤ n
  · rw [if_pos h]
    rcases h with h | h
    · rw [decide_eq_false (show ¬ 0 ≤ n by omega)]; rfl
    · rw [decide_eq_false (show ¬ n < d.size by omega), Bool.and_false]; rfl
  · rw [if_neg h, decide_eq_true (show 0 ≤ n by omega), decide_eq_true (show n < d.size by omega)]; rfl
set_option maxRecDepth 100000 in
set_option maxHeartbeats 1000000 in
theorem ris_any (q : Nat) (d : Dk.D) (sv : Value) (xs : List Value) (n : Int) (w : World) (hc : w.cell? ⟨q, 0, none⟩ = some sv) (hr : w.ownsRow 0 22 1 sv xs.length xs) (hs : (xs.length : Int) = d.size) :
    Calls Try.prog 54 #[.pointer (some ⟨q, 0, none⟩), .int .i64 n] w fun e w' => e = .returned (.bool (Dk.at_ d n == 0)) ∧ w = w' := by
  rw [at_zero, ← hs]
  obtain ⟨A, c, rfl⟩ := own_slice hr
  clear hr hs
  by_cases h0 : 0 ≤ n
  · have hd : decide (0 ≤ n) = true := by simpa using h0
    go_enter Try.func54, Try.ntmps54
    go_wp2
    go_ret
    exact ⟨by simp [h0], rfl⟩
  · have hd : decide (0 ≤ n) = false := by simpa using h0
    go_enter Try.func54, Try.ntmps54
    go_wp2
    go_ret
    exact ⟨by simp [h0], rfl⟩
/-- what a step leaves -/
def RStepTo (w : World) (q : Nat) (sv : Value) (xs : List Value) (lv : Value) (ys : List Value) (G : Nat → Prop) (d : Dk.D) (e : Ending) (w' : World) : Prop :=
  e = .returned (.bool ((Dk.step d).1 == 0)) ∧ RefIn w' q (Dk.step d).2 sv xs lv ys G ∧ Fr (fun k => k = q) w w' ∧ w'.heap.size = w.heap.size
theorem step_same (d : Dk.D) (h : d.down = true) : Dk.step d = (40, d) := by
  unfold Dk.step
  rw [if_pos (by rw [h]; rfl)]
  congr 1
  cases d
  simp at h
  subst h
  rfl
set_option maxRecDepth 100000 in
set_option maxHeartbeats 1000000 in
theorem rstep_any (q : Nat) (d : Dk.D) (sv : Value) (xs : List Value) (lv : Value) (ys : List Value) (G : Nat → Prop) (w : World) (hd : RefIn w q d sv xs lv ys G) (hok : Dk.Ok d) :
    Calls Try.prog 55 #[.pointer (some ⟨q, 0, none⟩)] w (RStepTo w q sv xs lv ys G d) := by
  obtain ⟨_, _, c2, c3, _⟩ := hd.cells
  have f3 := hd.blk.free 3
  have f2 := hd.blk.free 2
  have hfu := hok.fuse
  cases hdn : d.down with
  | true =>
    have hS := step_same d hdn
    unfold RStepTo
    rw [hS]
    rw [hdn] at c3
    have H := Lib.hid hd
    clear hd hS hok hdn
    go_enter Try.func55, Try.ntmps55
    go_wp2
    go_ret
    exact ⟨rfl, H.out, Fr.refl _ _, rfl⟩
  | false =>
    rw [hdn] at c3
    by_cases h0 : d.fuse = 0
    · have hS : Dk.step d = (40, { d with down := true }) := by unfold Dk.step; rw [if_pos (by rw [h0]; simp)]
      have hfin : RefIn (w.setCell ⟨q, 3, none⟩ (.bool true)) q { d with down := true } sv xs lv ys G := hd.set 3 (.bool true) rfl rfl rfl rfl
      have hfr : Fr (fun k => k = q) w (w.setCell ⟨q, 3, none⟩ (.bool true)) := (Fr.refl _ w).setCell _ _ (fun _ => rfl)
      unfold RStepTo
      rw [hS]
      have H := Lib.hid (And.intro hfin hfr)
      have hb : (d.fuse == 0) = true := by simpa using h0
      clear hd hS hok hdn hfin hfr h0
      go_enter Try.func55, Try.ntmps55
      go_wp2
      go_ret
      exact ⟨rfl, H.out.1, H.out.2, setCell_size _ _ _⟩
    · have hb : (d.fuse == 0) = false := by simpa using h0
      have hS : Dk.step d = (0, { d with fuse := if 0 < d.fuse then d.fuse - 1 else d.fuse }) := by unfold Dk.step; rw [if_neg (by rw [hdn, hb]; simp)]
      unfold RStepTo
      rw [hS]
      by_cases h1 : 0 < d.fuse
      · rw [if_pos h1]
        have hfin : RefIn (w.setCell ⟨q, 2, none⟩ (.int .i64 (d.fuse - 1))) q { d with fuse := d.fuse - 1 } sv xs lv ys G := hd.set 2 (.int .i64 (d.fuse - 1)) rfl rfl rfl rfl
        have hfr : Fr (fun k => k = q) w (w.setCell ⟨q, 2, none⟩ (.int .i64 (d.fuse - 1))) := (Fr.refl _ w).setCell _ _ (fun _ => rfl)
        have H := Lib.hid (And.intro hfin hfr)
        have hd1 : decide (0 < d.fuse) = true := by simpa using h1
        clear hd hS hok hdn hfin hfr h0
        go_enter Try.func55, Try.ntmps55
        go_wp2
        go_ret
        exact ⟨rfl, H.out.1, H.out.2, setCell_size _ _ _⟩
      · rw [if_neg h1]
        have hfin : RefIn w q { d with fuse := d.fuse } sv xs lv ys G := hd
        have H := Lib.hid hfin
        have hd1 : decide (0 < d.fuse) = false := by simpa using h1
        clear hd hS hok hdn hfin h0
        go_enter Try.func55, Try.ntmps55
        go_wp2
        go_ret
        exact ⟨rfl, H.out, Fr.refl _ _, rfl⟩
set_option maxRecDepth 100000 in
set_option maxHeartbeats 1000000 in
theorem rfuse_any (q : Nat) (d : Dk.D) (G : Nat → Prop) (n : Int) (w : World) (hd : RefAt w q d G) :
    Calls Try.prog 46 #[.pointer (some ⟨q, 0, none⟩), .int .i64 n] w fun e w' => e = .returned (.tuple #[]) ∧ RefTo w G q (Dk.fused d n) w' := by
  obtain ⟨sv, xs, lv, ys, hd⟩ := hd
  obtain ⟨_, _, c2, _, _⟩ := hd.cells
  have f2 := hd.blk.free 2
  have hfin : RefIn (w.setCell ⟨q, 2, none⟩ (.int .i64 (max n (-1)))) q (Dk.fused d n) sv xs lv ys G := hd.set 2 (.int .i64 (max n (-1))) rfl rfl rfl rfl
  have hfr : Fr G w (w.setCell ⟨q, 2, none⟩ (.int .i64 (max n (-1)))) := (Fr.refl _ w).setCell _ _ (fun _ => hd.footq)
  have H := Lib.hid (show RefTo w G q (Dk.fused d n) (w.setCell ⟨q, 2, none⟩ (.int .i64 (max n (-1)))) from ⟨G, ⟨sv, xs, lv, ys, hfin⟩, hfr, fun _ x => .inl x⟩)
  clear hd hfin hfr
  go_enter Try.func46, Try.ntmps46
  go_wp2
  all_goals
    go_end0
    refine ⟨rfl, ?_⟩
    have this := H.out
    first
      | (have e : max n (-1) = -1 := by omega
         rw [e] at this
         exact this)
      | (have e : max n (-1) = n := by omega
         rw [e] at this
         exact this)
set_option maxHeartbeats 1000000 in
theorem in_any (A : Option Addr) (n c : Nat) (ks : List Int) (x : Int) (w : World) (hk : IS w A n ks) (hn : n ≤ 1000000) :
    Calls Try.prog 52 #[.slice A n c, .int .i64 x] w fun e w' => e = .returned (.bool (decide (x ∈ ks))) ∧ w = w' := by
  have HK := Lib.hid hk
  clear hk
  go_enter Try.func52, Try.ntmps52
  go_wp2
  go_loop [5] (fun i => ∃ k : Nat, k ≤ n ∧ i = .int .i64 k ∧ x ∉ ks.take k) (fun i => n - (intOf i).toNat)
  case atStart => exact ⟨0, by omega, rfl, by simp⟩
  case round =>
    obtain ⟨k, hk, rfl, hno⟩ := hrel
    by_cases hlt : k < n
    · obtain ⟨b, off, rfl, hc⟩ := HK.out.at_ hlt
      have hkl : k < ks.length := by rw [HK.out.1]; exact hlt
      have hge : ks.getD k 0 = ks[k] := by rw [List.getD_eq_getElem?_getD, List.getElem?_eq_getElem hkl]; rfl
      by_cases hx : ks.getD k 0 = x
      · have hb : (ks.getD k 0 == x) = true := by simpa using hx
        have hm : x ∈ ks := by rw [← hx, hge]; exact List.getElem_mem _
        have HM := Lib.hid hm
        clear hm hno hge hx
        generalize ks.getD k 0 = y at *
        go_wp2
        go_ret
        exact ⟨by rw [decide_eq_true HM.out]; rfl, rfl⟩
      · have hb : (ks.getD k 0 == x) = false := by simpa using hx
        have hm : x ∉ ks.take (k + 1) := by
          rw [List.take_succ_eq_append_getElem hkl, List.mem_append, List.mem_singleton]
          rintro (h | h)
          · exact hno h
          · exact hx (by rw [hge]; exact h.symm)
        have HM := Lib.hid hm
        clear hm hno hge hx
        generalize ks.getD k 0 = y at *
        go_wp2
        go_round
        case rel => exact ⟨k + 1, by omega, by go_num, HM.out⟩
        case measure => simp [intOf]; omega
    · have hm : x ∉ ks := by
        rw [List.take_of_length_le (by rw [HK.out.1]; omega)] at hno
        exact hno
      have HM := Lib.hid hm
      clear hm hno
      go_wp2
      go_ret
      exact ⟨by rw [decide_eq_false HM.out]; rfl, rfl⟩
end Go.Proofs.Ytaooimhodoefoaa
