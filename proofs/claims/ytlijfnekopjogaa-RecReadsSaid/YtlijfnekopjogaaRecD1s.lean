/- Decode's parts: no list that is decoded is long. -/
import Derived.Test.YtlijfnekopjogaaRecD0
import Derived.Test.YtlijfnekopjogaaRecR10
namespace Go.Proofs.Ytlijfnekopjogaa
open Go Go.RowKit Mem Rc
set_option maxRecDepth 100000
set_option linter.unusedVariables false
set_option linter.unusedSimpArgs false

theorem dec_results {W : World} {g : Nat} {x : MD} {tmps : Array Value} {v : Value} (hb : Blk W g 30 (mCells x)) (h2 : tmps.getD 2 undef = .pointer (some ⟨g, 0, none⟩)) (h3 : tmps.getD 3 undef = v) :
    (results Try.f17 tmps).run Try.prog W = .ok (.tuple #[mVal x, v]) W := by
  have hl := rec_loadVar hb
  generalize mVal x = X at *
  simp only [Array.getD_eq_getD_getElem?] at h2 h3
  simp [results, Try.results17, h2, h3, asAddr, hl]
/-- no list is long -/
structure SmM (m : M) : Prop where
  mem : m.mem.length ≤ 256
  locks : m.locks.length ≤ 256
  rows : m.rows.length ≤ 256
  dirty : m.dirty.length ≤ 256
  deeds : m.deeds.length ≤ 256
  past : m.past.length ≤ 256
  row : ∀ y ∈ m.rows, y.mem.length ≤ 256 ∧ y.locks.length ≤ 256
  deed : ∀ y ∈ m.deeds, y.mem.length ≤ 256
theorem list_len {α : Type} (A : Cd.Cod α) (r : Sl.R) : ((Cd.list A 256 (by decide)).dec r).1.length ≤ 256 := by
  show (Cd.many A (Cd.next r 256) (Cd.one r 256).toNat).1.length ≤ 256
  rw [Cd.many_length]
  have := Cd.one_bound r 256 (by omega) (by omega)
  omega
theorem many_all {α : Type} (A : Cd.Cod α) (P : α → Prop) (h : ∀ r, P (A.dec r).1) (r : Sl.R) : ∀ k, ∀ a ∈ (Cd.many A r k).1, P a
  | 0, a, ha => by simp [Cd.many] at ha
  | k + 1, a, ha => by
    rw [Cd.many, List.mem_append] at ha
    rcases ha with ha | ha
    · exact many_all A P h r k a ha
    · rw [List.mem_singleton] at ha
      rw [ha]
      exact h _
theorem list_all {α : Type} (A : Cd.Cod α) (P : α → Prop) (h : ∀ r, P (A.dec r).1) (r : Sl.R) : ∀ a ∈ ((Cd.list A 256 (by decide)).dec r).1, P a := many_all A P h _ _
theorem ic_len (r : Sl.R) : (iC.dec r).1.length ≤ 256 := by unfold iC; exact list_len _ _
theorem ls_len (r : Sl.R) : (lsC.dec r).1.length ≤ 256 := by unfold lsC; exact list_len _ _
theorem rws_len (r : Sl.R) : (rwsC.dec r).1.length ≤ 256 := by unfold rwsC; exact list_len _ _
theorem ds_len (r : Sl.R) : (dsC.dec r).1.length ≤ 256 := by unfold dsC; exact list_len _ _
theorem des_len (r : Sl.R) : (desC.dec r).1.length ≤ 256 := by unfold desC; exact list_len _ _
theorem rw_len (r : Sl.R) : (rwC.dec r).1.mem.length ≤ 256 ∧ (rwC.dec r).1.locks.length ≤ 256 := by
  rw [rw_dec]
  dsimp only
  exact ⟨ic_len _, ls_len _⟩
theorem de_len (r : Sl.R) : (deC.dec r).1.mem.length ≤ 256 := by
  unfold deC
  rw [as_dec]
  simp only [pair_dec]
  exact ic_len _
theorem rws_all (r : Sl.R) : ∀ y ∈ (rwsC.dec r).1, y.mem.length ≤ 256 ∧ y.locks.length ≤ 256 := by
  unfold rwsC
  intro y hy
  exact list_all rwC (fun y => y.mem.length ≤ 256 ∧ y.locks.length ≤ 256) (fun r => rw_len r) r y hy
theorem des_all (r : Sl.R) : ∀ y ∈ (desC.dec r).1, y.mem.length ≤ 256 := by
  unfold desC
  intro y hy
  exact list_all deC (fun y => y.mem.length ≤ 256) (fun r => de_len r) r y hy
theorem smm0 (k : Int) : SmM { M.zero with kind := k } := ⟨Nat.zero_le _, Nat.zero_le _, Nat.zero_le _, Nat.zero_le _, Nat.zero_le _, Nat.zero_le _, fun y hy => absurd hy (by simp [M.zero]), fun y hy => absurd hy (by simp [M.zero])⟩
theorem smm_dec (k : Int) (hk : Rc.kindOk k = true ∨ k = 0) (r : Sl.R) : SmM ((fC k).dec r).1 := by
  have z := smm0 k
  have hz : ∀ {m : M}, m.mem = [] → m.locks = [] → m.rows = [] → m.dirty = [] → m.deeds = [] → m.past = [] → SmM m := fun {m} h1 h2 h3 h4 h5 h6 =>
    ⟨by rw [h1]; exact Nat.zero_le _, by rw [h2]; exact Nat.zero_le _, by rw [h3]; exact Nat.zero_le _, by rw [h4]; exact Nat.zero_le _, by rw [h5]; exact Nat.zero_le _, by rw [h6]; exact Nat.zero_le _, (by rw [h3]; intro y hy; cases hy), (by rw [h5]; intro y hy; cases hy)⟩
  rcases hk with hk | rfl
  · rcases kind_cases hk with rfl | rfl | rfl | rfl | rfl | rfl | rfl | rfl | rfl | rfl
    · exact hz rfl rfl rfl rfl rfl rfl
    · exact hz rfl rfl rfl rfl rfl rfl
    · rw [show fC 3 = prepC from rfl]
      unfold prepC
      rw [as_dec]
      simp only [pair_dec]
      exact ⟨ic_len _, ls_len _, Nat.zero_le _, Nat.zero_le _, Nat.zero_le _, Nat.zero_le _, fun y hy => absurd hy (by simp [M.zero]), fun y hy => absurd hy (by simp [M.zero])⟩
    · exact hz rfl rfl rfl rfl rfl rfl
    · exact hz rfl rfl rfl rfl rfl rfl
    · exact hz rfl rfl rfl rfl rfl rfl
    · exact hz rfl rfl rfl rfl rfl rfl
    · rw [show fC 8 = chkC from rfl]
      unfold chkC
      rw [as_dec]
      simp only [pair_dec]
      exact ⟨Nat.zero_le _, Nat.zero_le _, rws_len _, ds_len _, des_len _, ic_len _, rws_all _, des_all _⟩
    · rw [show fC 9 = decC from rfl]
      unfold decC
      rw [as_dec]
      simp only [pair_dec]
      exact ⟨ic_len _, Nat.zero_le _, Nat.zero_le _, Nat.zero_le _, Nat.zero_le _, Nat.zero_le _, fun y hy => absurd hy (by simp [M.zero]), fun y hy => absurd hy (by simp [M.zero])⟩
    · exact hz rfl rfl rfl rfl rfl rfl
  · exact hz rfl rfl rfl rfl rfl rfl
theorem small_of {x : MD} (h : SmM x.m) : Small x := by
  have h1 : x.mem.length ≤ 256 := h.mem
  have h2 : x.locks.length ≤ 256 := h.locks
  have h3 : x.rows.length ≤ 256 := by have := h.rows; rwa [show x.m.rows.length = x.rows.length from List.length_map _] at this
  have h4 : x.dirty.length ≤ 256 := h.dirty
  have h5 : x.deeds.length ≤ 256 := by have := h.deeds; rwa [show x.m.deeds.length = x.deeds.length from List.length_map _] at this
  have h6 : x.past.length ≤ 256 := h.past
  refine ⟨by omega, by omega, by omega, by omega, by omega, by omega, fun k hk => ?_, fun k hk => ?_⟩
  · have := all_getD (P := fun y : RwD => y.r.mem.length ≤ 256 ∧ y.r.locks.length ≤ 256) (fun a ha => h.row a.r (List.mem_map_of_mem ha)) RwD.zero k hk
    exact ⟨by omega, by omega⟩
  · have := all_getD (P := fun y : DeD => y.d.mem.length ≤ 256) (fun a ha => h.deed a.d (List.mem_map_of_mem ha)) DeD.zero k hk
    omega
theorem cr_fields_any (k : Int) (hk : Rc.kindOk k = true ∨ k = 0) (q : Nat) (r : Sl.R) (F : Nat → Prop) (rb : Nat) (w : World) (hr : RdAt w q r F) (hbl : Blk w rb 30 (mCells (MD.k0 k))) (hn : ¬ F rb) (hl : r.b.length ≤ 140737488351232) :
    Calls Try.prog 46 #[cr q, .pointer (some ⟨rb, 0, none⟩)] w (FdTo w F q rb ((fC k).dec r).1 ((fC k).dec r).2) := by
  rcases hk with hk | rfl
  · rcases kind_cases hk with rfl | rfl | rfl | rfl | rfl | rfl | rfl | rfl | rfl | rfl
    · exact cr_fields1 q r F rb w hr hbl hn hl
    · exact cr_fields2 q r F rb w hr hbl hn hl
    · exact cr_fields3 q r F rb w hr hbl hn hl
    · exact cr_fields4 q r F rb w hr hbl hn hl
    · exact cr_fields5 q r F rb w hr hbl hn hl
    · exact cr_fields6 q r F rb w hr hbl hn hl
    · exact cr_fields7 q r F rb w hr hbl hn hl
    · exact cr_fields8 q r F rb w hr hbl hn hl
    · exact cr_fields9 q r F rb w hr hbl hn hl
    · exact cr_fields10 q r F rb w hr hbl hn hl
  · exact cr_fields0 q r F rb w hr hbl hn hl
end Go.Proofs.Ytlijfnekopjogaa
