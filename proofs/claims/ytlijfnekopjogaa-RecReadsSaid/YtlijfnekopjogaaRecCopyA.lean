/- Lists of a record, elements' kinds: what appends and frames want. -/
import Derived.Test.YtlijfnekopjogaaRecMems
import Derived.Test.YtlijfnekopjogaaRecD0
import Derived.Deep.DeepCutAuto
import Derived.Deep.LoopGhost
/- A record of one's own: the document's Copy, its four plain lists. -/
namespace Go.Proofs.Ytlijfnekopjogaa
open Go Go.RowKit Mem Rc
set_option maxRecDepth 100000
set_option linter.unusedVariables false
set_option linter.unusedSimpArgs false

theorem intK_len : ∀ x, (intK.cells x).length = intK.k := fun _ => rfl
theorem lockK_len : ∀ x, (lockK.cells x).length = lockK.k := fun _ => rfl
theorem dirtyK_len : ∀ x, (dirtyK.cells x).length = dirtyK.k := fun _ => rfl
theorem rowK_len : ∀ x, (rowK.cells x).length = rowK.k := fun _ => rfl
theorem deedK_len : ∀ x, (deedK.cells x).length = deedK.k := fun _ => rfl
theorem intK_one : ∀ x, ∀ u ∈ intK.cells x, u.oneCell' = true := fun x u hu => by simp [intK] at hu; subst hu; rfl
theorem lockK_one : ∀ x, ∀ u ∈ lockK.cells x, u.oneCell' = true := fun x u hu => by simp [lockK] at hu; rcases hu with rfl | rfl <;> rfl
theorem dirtyK_one : ∀ x, ∀ u ∈ dirtyK.cells x, u.oneCell' = true := fun x u hu => by simp [dirtyK] at hu; rcases hu with rfl | rfl <;> rfl
theorem rowK_one : ∀ x, ∀ u ∈ rowK.cells x, u.oneCell' = true := fun x u hu => by simp [rowK] at hu; rcases hu with rfl | rfl | rfl | rfl | rfl | rfl | rfl | rfl <;> rfl
theorem deedK_one : ∀ x, ∀ u ∈ deedK.cells x, u.oneCell' = true := fun x u hu => by simp [deedK] at hu; rcases hu with rfl | rfl <;> rfl
theorem st_of_is {w : World} {A : Option Addr} {n : Nat} {l : List Int} (h : IS w A n l) : ST intK w A n l := by
  refine ⟨h.1, fun _ _ => trivial, fun hn => ?_⟩
  obtain ⟨b, off, rfl, hb, hc⟩ := h.2 hn
  refine ⟨b, off, rfl, hb, fun i hi j hj => ?_⟩
  have hj0 : j = 0 := by have : j < 1 := hj; omega
  subst hj0
  rw [show intK.k = 1 from rfl, Nat.mul_one, Nat.add_zero]
  exact hc i hi
theorem own_capI {w : World} {base : Nat} {e : TypeId} {size n c : Nat} {A : Option Addr} {xs : List Value} (h : w.ownsRow base e size (.slice A n c) n xs) : n ≤ c ∧ c ≤ 9223372036854775807 := by
  rcases h.2 with ⟨h1, h2⟩ | ⟨g, cap, cur, h1, h2, h3, h4, h5, h6⟩
  · injection h1 with h1 h2 h3
    omega
  · injection h1 with h1 h2 h3
    subst h3
    refine ⟨h4, ?_⟩
    have h5' := h5
    unfold maxLen at h5'
    omega
/-- what an append onto an empty slice leaves -/
structure Cpd {α : Type} (K : Kind_ α) (w0 w' : World) (A : Option Addr) (m c : Nat) (l : List α) : Prop where
  st : ST K w' A m l
  cap : m ≤ c ∧ c ≤ 9223372036854775807
  new : ∀ a, A = some a → w0.heap.size ≤ a.block
  below : Below w0.heap.size w0 w'
  lt : ∀ a, A = some a → a.block < w'.heap.size
theorem cpd_of {α : Type} {K : Kind_ α} (hk : ∀ x, (K.cells x).length = K.k) (hp : 0 < K.k) {w0 w' : World} {e : TypeId} {A A0 : Option Addr} {m c : Nat} {l : List α} {E : TypeId}
    (h0 : ST K w0 A0 m l) (how : w'.ownsRow w0.heap.size e K.k (.slice A (0 + m) c) (0 + m) ([] ++ rowOf K l)) (hg : (w0.alloc (.cells #[] E)).grownBy w' (some w0.heap.size)) : Cpd K w0 w' A m c l := by
  rw [Nat.zero_add, List.nil_append] at how
  have hb : Below w0.heap.size w0 w' := ((Below.refl _ w0).alloc (Nat.le_refl _) _).grown hg (by simp) (fun k e => by injection e with e; omega)
  refine ⟨ST.of_own hk hp how (fun x hx => K.keep (h0.ok x hx) hb), own_capI how, fun a ha => ?_, hb, fun a ha => own_lt how (by rw [ha]; rfl)⟩
  rcases how.2 with ⟨h1, _⟩ | ⟨g, cap, cur, h1, h2, _⟩
  · injection h1 with h1
    rw [h1] at ha; cases ha
  · injection h1 with h1
    rw [h1] at ha
    injection ha with ha
    rw [← ha]
    exact h2
theorem cpd_of' {α : Type} {K : Kind_ α} (hk : ∀ x, (K.cells x).length = K.k) (hp : 0 < K.k) {w0 w' : World} {e : TypeId} {A A0 : Option Addr} {m c : Nat} {l : List α} {E : TypeId}
    (h0 : ST K w0 A0 m l) (how : w'.ownsRow w0.heap.size e K.k (.slice A m c) m (rowOf K l)) (hg : (w0.alloc (.cells #[] E)).grownBy w' (some w0.heap.size)) : Cpd K w0 w' A m c l :=
  cpd_of hk hp h0 (by rw [Nat.zero_add, List.nil_append]; exact how) hg
end Go.Proofs.Ytlijfnekopjogaa

/- A record of one's own: the document's Copy (printed by gen_copy2.py). -/
namespace Go.Proofs.Ytlijfnekopjogaa
open Go Go.RowKit Mem Rc
set_option maxRecDepth 100000
set_option linter.unusedVariables false
set_option linter.unusedSimpArgs false

theorem row_one {W : World} {g : Nat} {t : TypeId} {z : RwD} (h : Blk W g t (rwCells z)) (hok : RowOk W z) : ST rowK W (some ⟨g, 0, none⟩) 1 [z] := by
  refine ⟨rfl, fun y hy => by rw [List.mem_singleton] at hy; rw [hy]; exact hok, fun _ => ⟨g, 0, rfl, h.lt, fun i hi j hj => ?_⟩⟩
  have hi0 : i = 0 := by have : i < 1 := hi; omega
  subst hi0
  rw [show 0 + 0 * rowK.k + j = j by omega, h.cell]
  show (rwCells z)[j]? = (rowK.cells z)[j]?
  rw [show rowK.cells z = (rwCells z).toList from rfl, Array.getElem?_toList]
theorem rowOk_fr {w w' : World} {z : RwD} {G : Nat → Prop} (h : RowOk w z) (hf : Fr G w w') (hm : ∀ a, z.mA = some a ∨ z.lA = some a → ¬ G a.block) : RowOk w' z :=
  ⟨IS.fr h.mem hf (fun a e => hm a (.inl e)), ST.fr h.locks hf (fun a e => hm a (.inr e)) h.locks.ok, h.mc, h.lc⟩
theorem own_geC {w : World} {e : TypeId} {size n : Nat} {v : Value} {xs : List Value} {base k : Nat} (h : w.ownsRow base e size v n xs) (hv : v.ownBlock = some k) : base ≤ k := by
  rcases h.2 with ⟨rfl, _⟩ | ⟨g, cap, cur, rfl, h2, _⟩
  · simp [Value.ownBlock] at hv
  · simp [Value.ownBlock] at hv
    omega
theorem deed_one {W : World} {g : Nat} {t : TypeId} {z : DeD} (h : Blk W g t (deCells z)) (hok : DeedOk W z) : ST deedK W (some ⟨g, 0, none⟩) 1 [z] := by
  refine ⟨rfl, fun y hy => by rw [List.mem_singleton] at hy; rw [hy]; exact hok, fun _ => ⟨g, 0, rfl, h.lt, fun i hi j hj => ?_⟩⟩
  have hi0 : i = 0 := by have : i < 1 := hi; omega
  subst hi0
  rw [show 0 + 0 * deedK.k + j = j by omega, h.cell]
  show (deCells z)[j]? = (deedK.cells z)[j]?
  rw [show deedK.cells z = (deCells z).toList from rfl, Array.getElem?_toList]
theorem deedOk_fr {w w' : World} {z : DeD} {G : Nat → Prop} (h : DeedOk w z) (hf : Fr G w w') (hm : ∀ a, z.mA = some a → ¬ G a.block) : DeedOk w' z :=
  ⟨IS.fr h.mem hf (fun a e => hm a e), h.mc⟩
theorem map_of_getD {α β : Type} (f : α → β) (z : α) : ∀ (a b : List α), a.length = b.length → (∀ j, j < b.length → f (a.getD j z) = f (b.getD j z)) → a.map f = b.map f
  | [], [], _, _ => rfl
  | [], _ :: _, h, _ => by simp at h
  | _ :: _, [], h, _ => by simp at h
  | x :: a, y :: b, h, hj => by
    rw [List.map_cons, List.map_cons]
    have h0 := hj 0 (by simp)
    have ht := map_of_getD f z a b (by simpa using h) (fun j hlt => by have := hj (j + 1) (by simpa using hlt); simpa using this)
    rw [ht]
    exact congrArg (· :: _) (by simpa using h0)
theorem getD_left {α : Type} (a b : List α) (z : α) {k : Nat} (h : k < a.length) : (a ++ b).getD k z = a.getD k z := by
  rw [List.getD_eq_getElem?_getD, List.getElem?_append_left h, List.getD_eq_getElem?_getD]
theorem getD_last {α : Type} (a : List α) (x z : α) : (a ++ [x]).getD a.length z = x := by
  rw [List.getD_eq_getElem?_getD, List.getElem?_append_right (Nat.le_refl _), Nat.sub_self]
  rfl
/-- what lies ahead is as it was -/
theorem fr_b {w : World} {v v' : World} (h : Below v.heap.size v v') : Fr (fun k => k < w.heap.size + 2) v v' := Fr.of_below h _
theorem fr_e {B : Nat} {j : Nat} {v v' : World} (h : Fr (fun k => k = j) v v') (hj : j < B) : Fr (fun k => k < B) v v' := h.mono (fun k _ e => by have : k = j := e; omega)
theorem fr_t {F : Nat → Prop} {a b c : World} (h : Fr F a b) (k : Fr F b c) : Fr F a c := h.trans k (fun _ _ x => x)
end Go.Proofs.Ytlijfnekopjogaa
