/- What the functions of package disk do: the small ones. -/
import Derived.Test.YtfcmlfcpgboigaaRows
import Derived.Test.YtfcmlfcpgboigaaDiskMath
import Derived.IntWalk
import Derived.RegionTactic
import Derived.ChangeAlike
import Derived.Lib.ConvBytes
import Derived.Laws.IdiomStrings
import Derived.Deep.QuietTactic
import Derived.BigQuiet
import Derived.StillTailTactics
namespace Go.Proofs.Ytfcmlfcpgboigaa
open Go.RowKit Mem
open Go.ChangeMaps (setBlock)
set_option linter.unusedVariables false

def diskCells (d : Dk.D) (r1 r2 : Nat) (v : Value) : Array Value := #[.int .i64 d.size, .map (some r1), .map (some r2), v, .int .i64 d.fuse, .bool d.down, .int .i64 d.syncs]
def pcells (l : List (Int × List UInt8)) : List Value := l.flatMap fun x => [.int .i64 x.1, str x.2]
/-- ONE DISK, WRITTEN OUT. -/
structure DiskIn (w : World) (p : Nat) (d : Dk.D) (r1 r2 : Nat) (v : Value) : Prop where
  blk : Blk w p 104 (diskCells d r1 r2 v)
  syn : MapS str w r1 d.syn
  now : MapS str w r2 d.now
  row : w.ownsRow 0 107 2 v d.pend.length (pcells d.pend)
  ne : r1 ≠ r2
/-- the blocks of a disk -/
def Foot (p r1 r2 : Nat) (v : Value) (k : Nat) : Prop := k = p ∨ k = r1 ∨ k = r2 ∨ v.ownBlock = some k
/-- A DISK IN MEMORY, ITS BLOCKS IN F. -/
def DiskAt (w : World) (p : Nat) (d : Dk.D) (F : Nat → Prop) : Prop := ∃ r1 r2 v, DiskIn w p d r1 r2 v ∧ (∀ k, Foot p r1 r2 v k → F k) ∧ ∀ k, F k → k < w.heap.size
/-- WHAT A METHOD LEAVES THAT TURNS A DISK. -/
def DiskTo (w : World) (F : Nat → Prop) (p : Nat) (d : Dk.D) (w' : World) : Prop := ∃ F', DiskAt w' p d F' ∧ Fr F w w' ∧ ∀ k, F' k → F k ∨ w.heap.size ≤ k
section
variable {w w' : World} {p r1 r2 : Nat} {v : Value} {d : Dk.D} {F G : Nat → Prop}
theorem DiskIn.lt (h : DiskIn w p d r1 r2 v) : ∀ k, Foot p r1 r2 v k → k < w.heap.size := by
  rintro k (rfl | rfl | rfl | hk)
  · exact h.blk.lt
  · exact h.syn.lt
  · exact h.now.lt
  · exact own_lt h.row hk
theorem DiskIn.keep (h : DiskIn w p d r1 r2 v) (hk : ∀ k, Foot p r1 r2 v k → w'.heap[k]? = w.heap[k]?) : DiskIn w' p d r1 r2 v :=
  ⟨h.blk.keep (hk p (.inl rfl)), h.syn.keep (hk r1 (.inr (.inl rfl))), h.now.keep (hk r2 (.inr (.inr (.inl rfl)))), own_keep h.row (fun k e => hk k (.inr (.inr (.inr e)))), h.ne⟩
theorem DiskIn.at_ (h : DiskIn w p d r1 r2 v) : DiskAt w p d (Foot p r1 r2 v) := ⟨r1, r2, v, h, fun _ x => x, h.lt⟩
theorem DiskAt.keep (h : DiskAt w p d F) (hs : w.heap.size ≤ w'.heap.size) (hk : ∀ k, F k → w'.heap[k]? = w.heap[k]?) : DiskAt w' p d F := by
  obtain ⟨r1, r2, v, h1, h2, h3⟩ := h
  exact ⟨r1, r2, v, h1.keep (fun k x => hk k (h2 k x)), h2, fun k x => by have := h3 k x; omega⟩
theorem DiskAt.fr (h : DiskAt w p d F) (hf : Fr G w w') (hd : ∀ k, F k → ¬ G k) : DiskAt w' p d F := by
  have hb : ∀ k, F k → k < w.heap.size := by obtain ⟨_, _, _, _, _, h3⟩ := h; exact h3
  exact h.keep hf.size (fun k x => hf.block k (hb k x) (hd k x))
theorem DiskAt.bound (h : DiskAt w p d F) : ∀ k, F k → k < w.heap.size := by obtain ⟨_, _, _, _, _, h3⟩ := h; exact h3
theorem DiskIn.pr1 (h : DiskIn w p d r1 r2 v) : r1 ≠ p := h.syn.ne h.blk
theorem DiskIn.pr2 (h : DiskIn w p d r1 r2 v) : r2 ≠ p := h.now.ne h.blk
theorem DiskIn.gp (h : DiskIn w p d r1 r2 v) {k : Nat} (hk : v.ownBlock = some k) : k ≠ p ∧ k ≠ r1 ∧ k ≠ r2 := by
  obtain ⟨cur, hg⟩ := own_block h.row hk
  refine ⟨?_, fun e => h.syn.ne hg e.symm, fun e => h.now.ne hg e.symm⟩
  rintro rfl
  have := h.blk
  unfold Blk at this
  rw [hg] at this
  injection this with this
  injection this with _ h2
  exact absurd h2 (by decide)
/-- a field of a disk -/
theorem DiskIn.cells (h : DiskIn w p d r1 r2 v) : w.cell? ⟨p, 0, none⟩ = some (.int .i64 d.size) ∧ w.cell? ⟨p, 1, none⟩ = some (.map (some r1)) ∧ w.cell? ⟨p, 2, none⟩ = some (.map (some r2)) ∧ w.cell? ⟨p, 3, none⟩ = some v ∧
    w.cell? ⟨p, 4, none⟩ = some (.int .i64 d.fuse) ∧ w.cell? ⟨p, 5, none⟩ = some (.bool d.down) ∧ w.cell? ⟨p, 6, none⟩ = some (.int .i64 d.syncs) :=
  ⟨h.blk.cell 0, h.blk.cell 1, h.blk.cell 2, h.blk.cell 3, h.blk.cell 4, h.blk.cell 5, h.blk.cell 6⟩
/-- turning one scalar field -/
theorem DiskIn.set (h : DiskIn w p d r1 r2 v) (i : Nat) (u : Value) (d' : Dk.D) (hc : (diskCells d r1 r2 v).setIfInBounds i u = diskCells d' r1 r2 v) (hs : d'.syn = d.syn) (hn : d'.now = d.now) (hp : d'.pend = d.pend) : DiskIn (w.setCell ⟨p, i, none⟩ u) p d' r1 r2 v := by
  have hk : ∀ k, k ≠ p → (w.setCell ⟨p, i, none⟩ u).heap[k]? = w.heap[k]? := fun k hk => Below.heap_setCell w _ u k hk
  refine ⟨?_, ?_, ?_, ?_, h.ne⟩
  · have := h.blk.put i u
    rwa [hc] at this
  · rw [hs]; exact h.syn.keep (hk _ h.pr1)
  · rw [hn]; exact h.now.keep (hk _ h.pr2)
  · rw [hp]; exact own_keep h.row (fun k e => hk k (h.gp e).1)
end

set_option maxHeartbeats 1000000 in
theorem at_any (p : Nat) (n : Int) (d : Dk.D) (w : World) (hc : w.cell? ⟨p, 0, none⟩ = some (.int .i64 d.size)) :
    Calls Try.prog 62 #[.pointer (some ⟨p, 0, none⟩), .int .i64 n] w fun e w' => e = .returned (.int .i64 (Dk.at_ d n : Nat)) ∧ w' = w := by
  unfold Dk.at_
  generalize d.size = z at *
  by_cases h0 : n < 0
  · rw [if_pos (.inl h0)]
    have hd : decide (n < 0) = true := by simpa using h0
    go_enter Try.func62, Try.ntmps62
    go_wp2
    go_ret
    exact ⟨rfl, rfl⟩
  · have hd : decide (n < 0) = false := by simpa using h0
    by_cases h1 : z ≤ n
    · rw [if_pos (.inr h1)]
      have hd1 : decide (z ≤ n) = true := by simpa using h1
      go_enter Try.func62, Try.ntmps62
      go_wp2
      go_ret
      exact ⟨rfl, rfl⟩
    · rw [if_neg (by omega)]
      have hd1 : decide (z ≤ n) = false := by simpa using h1
      go_enter Try.func62, Try.ntmps62
      go_wp2
      go_ret
      exact ⟨rfl, rfl⟩
theorem at_nil (n : Int) (w : World) :
    Calls Try.prog 62 #[.pointer none, .int .i64 n] w fun e w' => e = .returned (.int .i64 2) ∧ w' = w := by
  go_enter Try.func62, Try.ntmps62
  go_wp2
  go_ret
  exact ⟨rfl, rfl⟩
/-- what a step leaves -/
def StepTo (w : World) (p r1 r2 : Nat) (v : Value) (d : Dk.D) (e : Ending) (w' : World) : Prop :=
  e = .returned (.int .i64 ((Dk.step d).1 : Int)) ∧ DiskIn w' p (Dk.step d).2 r1 r2 v ∧ Fr (fun k => k = p) w w' ∧ w'.heap.size = w.heap.size
theorem setCell_size (w : World) (a : Addr) (u : Value) : (w.setCell a u).heap.size = w.heap.size := by simp [World.setCell]
theorem cells_down (d : Dk.D) (r1 r2 : Nat) (v : Value) (b : Bool) : (diskCells d r1 r2 v).setIfInBounds 5 (.bool b) = diskCells { d with down := b } r1 r2 v := by simp [diskCells]
theorem cells_fuse (d : Dk.D) (r1 r2 : Nat) (v : Value) (b : Int) : (diskCells d r1 r2 v).setIfInBounds 4 (.int .i64 b) = diskCells { d with fuse := b } r1 r2 v := by simp [diskCells]
theorem cells_syncs (d : Dk.D) (r1 r2 : Nat) (v : Value) (b : Int) : (diskCells d r1 r2 v).setIfInBounds 6 (.int .i64 b) = diskCells { d with syncs := b } r1 r2 v := by simp [diskCells]
set_option maxHeartbeats 1000000 in
theorem step_any (p r1 r2 : Nat) (v : Value) (d : Dk.D) (w : World) (hd : DiskIn w p d r1 r2 v) (hok : Dk.Ok d) :
    Calls Try.prog 63 #[.pointer (some ⟨p, 0, none⟩)] w (StepTo w p r1 r2 v d) := by
  obtain ⟨_, _, _, _, c4, c5, _⟩ := hd.cells
  have f5 := hd.blk.free 5
  have f4 := hd.blk.free 4
  have hfu := hok.fuse
  by_cases h1 : (d.down || d.fuse == 0) = true
  · have hS : Dk.step d = (40, { d with down := true }) := by unfold Dk.step; rw [if_pos h1]
    have hfin := hd.set 5 (.bool true) _ (cells_down d r1 r2 v true) rfl rfl rfl
    have hfr : Fr (fun k => k = p) w (w.setCell ⟨p, 5, none⟩ (.bool true)) := (Fr.refl _ w).setCell _ _ (fun _ => rfl)
    obtain ⟨_, _, _, _, _, c5', _⟩ := hfin.cells
    unfold StepTo
    rw [hS]
    have H := Lib.hid (And.intro hfin hfr)
    clear hS hfin hfr hd hok
    cases hdn : d.down with
    | true =>
      rw [hdn] at c5
      clear h1 hdn
      go_enter Try.func63, Try.ntmps63
      go_wp2
      go_ret
      exact ⟨rfl, H.out.1, H.out.2, setCell_size _ _ _⟩
    | false =>
      rw [hdn] at c5 h1
      have h2 : (d.fuse == 0) = true := by simpa using h1
      clear h1 hdn
      go_enter Try.func63, Try.ntmps63
      go_wp2
      go_ret
      exact ⟨rfl, H.out.1, H.out.2, setCell_size _ _ _⟩
  · have hS : Dk.step d = (0, { d with fuse := if 0 < d.fuse then d.fuse - 1 else d.fuse }) := by unfold Dk.step; rw [if_neg h1]
    have hdn : d.down = false := by
      cases hx : d.down
      · rfl
      · rw [hx] at h1; simp at h1
    have h2 : (d.fuse == 0) = false := by
      rw [hdn] at h1; simpa using h1
    rw [hdn] at c5
    have hfin1 := hd.set 5 (.bool false) _ (cells_down d r1 r2 v false) rfl rfl rfl
    rw [show ({ d with down := false } : Dk.D) = d by rw [← hdn]] at hfin1
    have hfr1 : Fr (fun k => k = p) w (w.setCell ⟨p, 5, none⟩ (.bool false)) := (Fr.refl _ w).setCell _ _ (fun _ => rfl)
    obtain ⟨_, _, _, _, c4', c5', _⟩ := hfin1.cells
    rw [hdn] at c5'
    have f4' := hfin1.blk.free 4
    unfold StepTo
    rw [hS]
    by_cases h3 : 0 < d.fuse
    · rw [if_pos h3]
      have hfin := hfin1.set 4 (.int .i64 (d.fuse - 1)) _ (cells_fuse d r1 r2 v (d.fuse - 1)) rfl rfl rfl
      have hfr : Fr (fun k => k = p) w ((w.setCell ⟨p, 5, none⟩ (.bool false)).setCell ⟨p, 4, none⟩ (.int .i64 (d.fuse - 1))) := hfr1.setCell _ _ (fun _ => rfl)
      have H := Lib.hid (And.intro hfin hfr)
      clear hS hfin hfr hd hok hfin1 hfr1 h1 hdn
      have hd3 : decide (0 < d.fuse) = true := by simpa using h3
      go_enter Try.func63, Try.ntmps63
      go_wp2
      go_ret
      exact ⟨rfl, H.out.1, H.out.2, by rw [setCell_size, setCell_size]⟩
    · rw [if_neg h3]
      have H := Lib.hid (And.intro hfin1 hfr1)
      clear hS hfin1 hfr1 hd hok h1 hdn
      have hd3 : decide (0 < d.fuse) = false := by simpa using h3
      go_enter Try.func63, Try.ntmps63
      go_wp2
      go_ret
      exact ⟨rfl, H.out.1, H.out.2, by rw [setCell_size]⟩

/-! the small answers -/
set_option maxHeartbeats 1000000 in
theorem syncs_any (p : Nat) (z : Int) (w : World) (hc : w.cell? ⟨p, 6, none⟩ = some (.int .i64 z)) :
    Calls Try.prog 34 #[.pointer (some ⟨p, 0, none⟩)] w fun e w' => e = .returned (.int .i64 z) ∧ w' = w := by
  go_enter Try.func34, Try.ntmps34
  go_wp2
  go_ret
  exact ⟨rfl, rfl⟩
theorem syncs_nil (w : World) : Calls Try.prog 34 #[.pointer none] w fun e w' => e = .returned (.int .i64 0) ∧ w' = w := by
  go_enter Try.func34, Try.ntmps34
  go_wp2
  go_ret
  exact ⟨rfl, rfl⟩
set_option maxHeartbeats 1000000 in
theorem down_any (p : Nat) (b : Bool) (w : World) (hc : w.cell? ⟨p, 5, none⟩ = some (.bool b)) :
    Calls Try.prog 41 #[.pointer (some ⟨p, 0, none⟩)] w fun e w' => e = .returned (.bool b) ∧ w' = w := by
  go_enter Try.func41, Try.ntmps41
  go_wp2
  go_ret
  exact ⟨rfl, rfl⟩
theorem down_nil (w : World) : Calls Try.prog 41 #[.pointer none] w fun e w' => e = .returned (.bool true) ∧ w' = w := by
  go_enter Try.func41, Try.ntmps41
  go_wp2
  go_ret
  exact ⟨rfl, rfl⟩
set_option maxHeartbeats 1000000 in
theorem fuse_any (p r1 r2 : Nat) (v : Value) (d : Dk.D) (n : Int) (w : World) (hd : DiskIn w p d r1 r2 v) :
    Calls Try.prog 30 #[.pointer (some ⟨p, 0, none⟩), .int .i64 n] w fun e w' => e = .returned (.tuple #[]) ∧ DiskIn w' p (Dk.fused d n) r1 r2 v ∧ Fr (fun k => k = p) w w' := by
  obtain ⟨_, _, _, _, c4, _, _⟩ := hd.cells
  have f4 := hd.blk.free 4
  have hfin := hd.set 4 (.int .i64 (max n (-1))) _ (cells_fuse d r1 r2 v (max n (-1))) rfl rfl rfl
  have hfr : Fr (fun k => k = p) w (w.setCell ⟨p, 4, none⟩ (.int .i64 (max n (-1)))) := (Fr.refl _ w).setCell _ _ (fun _ => rfl)
  have H := Lib.hid (And.intro hfin hfr)
  clear hd hfin hfr
  go_enter Try.func30, Try.ntmps30
  go_wp2
  all_goals
    go_end0
    refine ⟨rfl, ?_⟩
    have this := H.out
    show DiskIn _ p { d with fuse := max n (-1) } r1 r2 v ∧ _
    first
      | (have e : max n (-1) = -1 := by omega
         rw [e] at this ⊢
         exact this)
      | (have e : max n (-1) = n := by omega
         rw [e] at this ⊢
         exact this)
theorem fuse_nil (n : Int) (w : World) : Calls Try.prog 30 #[.pointer none, .int .i64 n] w fun e w' => e = .returned (.tuple #[]) ∧ w' = w := by
  go_enter Try.func30, Try.ntmps30
  go_wp2
  go_end0
  exact ⟨rfl, rfl⟩
/-- New -/
theorem new_bad (n : Int) (hn : n < 1 ∨ 4096 < n) (w : World) : Calls Try.prog 26 #[.int .i64 n] w fun e w' => e = .returned (.tuple #[.pointer none, .int .i64 1]) ∧ w' = w := by
  by_cases h1 : n < 1
  · have hd : decide (n < 1) = true := by simpa using h1
    go_enter Try.func26, Try.ntmps26
    go_wp2
    go_ret2
    exact ⟨rfl, rfl⟩
  · have hd : decide (n < 1) = false := by simpa using h1
    have hd1 : decide (4096 < n) = true := by simp; omega
    go_enter Try.func26, Try.ntmps26
    go_wp2
    go_ret2
    exact ⟨rfl, rfl⟩
theorem alloc_old (w : World) (o : Obj) {k : Nat} (h : k < w.heap.size) : (w.alloc o).heap[k]? = w.heap[k]? := Below.heap_alloc w o k h
set_option maxHeartbeats 1000000 in
theorem new_any (n : Int) (hn : 1 ≤ n ∧ n ≤ 4096) (w : World) : Calls Try.prog 26 #[.int .i64 n] w fun e w' => ∃ p, e = .returned (.tuple #[.pointer (some ⟨p, 0, none⟩), .int .i64 0]) ∧ Below w.heap.size w w' ∧ ∃ F, DiskAt w' p (Dk.new n) F ∧ ∀ k, F k → w.heap.size ≤ k := by
  have hd : decide (n < 1) = false := by simp; omega
  have hd1 : decide (4096 < n) = false := by simp; omega
  have hmm := @run_makeMap Try.prog
  have hfin : DiskIn (((w.alloc (.map #[] 0)).alloc (.map #[] 0)).alloc (.cells #[.int .i64 n, .map (some w.heap.size), .map (some (w.heap.size + 1)), .slice none 0 0, .int .i64 (-1), .bool false, .int .i64 0] 104)) (w.heap.size + 2) (Dk.new n) w.heap.size (w.heap.size + 1) (.slice none 0 0) := by
    refine ⟨?_, ?_, ?_, ⟨rfl, .inl ⟨rfl, rfl⟩⟩, by omega⟩
    · have := Blk.new ((w.alloc (.map #[] 0)).alloc (.map #[] 0)) 104 (diskCells (Dk.new n) w.heap.size (w.heap.size + 1) (.slice none 0 0))
      rw [show ((w.alloc (.map #[] 0)).alloc (.map #[] 0)).heap.size = w.heap.size + 2 by simp] at this
      exact this
    · exact (MapS.new (f := str) w).keep (by rw [alloc_old _ _ (by simp; omega), alloc_old _ _ (by simp)])
    · have := MapS.new (f := str) (w.alloc (.map #[] 0))
      rw [show (w.alloc (.map #[] 0)).heap.size = w.heap.size + 1 by simp] at this
      exact this.keep (alloc_old _ _ (by simp))
  have H := Lib.hid hfin
  clear hfin
  go_enter Try.func26, Try.ntmps26
  go_wp2
  go_ret2
  refine ⟨w.heap.size + 2, by simp, (((Below.refl _ _).alloc (Nat.le_refl _) _).alloc (by simp) _).alloc (by simp; omega) _, _, H.out.at_, ?_⟩
  rintro k (rfl | rfl | rfl | hk) <;> simp_all [Value.ownBlock] <;> omega
end Go.Proofs.Ytfcmlfcpgboigaa
