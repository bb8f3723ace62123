/- Several things of a call's own, apart from one another: the program's disk, the document's, bytes. -/
import Derived.Test.YtaooimhodoefoaaRef04C
namespace Go.Proofs.Ytaooimhodoefoaa
open Go.RowKit Mem
set_option linter.unusedVariables false
set_option linter.unusedSimpArgs false

inductive Res where
  | dsk (p : Nat) (d : Dk.D)
  | ref (q : Nat) (d : Dk.D)
  | byt (v : Value) (n : Nat) (bs : List UInt8)
  | cel (b : Nat) (t : TypeId) (cs : Array Value)
  | pool (L : List (Value × List UInt8))
  | non
/-- bytes behind a slice, their block in F -/
def BAt (w : World) (F : Nat → Prop) (v : Value) (bs : List UInt8) : Prop := ∃ b off c C fr, v = .slice (some ⟨b, off, none⟩) bs.length c ∧ F b ∧ w.heap[b]? = some (.cells C 5 fr) ∧ bs.length ≤ c ∧ c ≤ maxLen ∧ ∀ j, j < bs.length → C[off + j]? = some (Mem.u8 (bs.getD j 0))
theorem BAt.keep {w w' : World} {F : Nat → Prop} {v : Value} {bs : List UInt8} (h : BAt w F v bs) (hk : ∀ k, F k → w'.heap[k]? = w.heap[k]?) : BAt w' F v bs := by
  obtain ⟨b, off, c, C, fr, h1, h2, h3, r⟩ := h
  exact ⟨b, off, c, C, fr, h1, h2, (hk b h2).trans h3, r⟩
theorem BAt.mono {w : World} {F G : Nat → Prop} {v : Value} {bs : List UInt8} (h : BAt w F v bs) (hk : ∀ k, F k → G k) : BAt w G v bs := by
  obtain ⟨b, off, c, C, fr, h1, h2, r⟩ := h
  exact ⟨b, off, c, C, fr, h1, hk b h2, r⟩
theorem BAt.bytes {w : World} {F : Nat → Prop} {v : Value} {bs : List UInt8} (h : BAt w F v bs) : ∃ A c, v = .slice A bs.length c ∧ BS w A bs.length bs ∧ bs.length ≤ c ∧ c ≤ maxLen := by
  obtain ⟨b, off, c, C, fr, rfl, h2, h3, h5, h6, h7⟩ := h
  refine ⟨_, c, rfl, ⟨rfl, fun _ => ⟨b, off, rfl, lt_of_block h3, fun j hj => ?_⟩⟩, h5, h6⟩
  rw [cell_of_row w b (off + j) C 5 fr h3]
  exact h7 j hj
theorem BAt.of_own {w : World} {base n : Nat} {v : Value} {bs : List UInt8} (h : w.ownsRow base 5 1 v n (u8s bs)) (hn : 0 < n) : BAt w (fun k => v.ownBlock = some k) v bs := by
  have hl := own_len h
  subst hl
  rcases h.2 with ⟨_, h0⟩ | ⟨g, cap, cur, rfl, _, hg, h1, h2, h3, h4⟩
  · omega
  · refine ⟨g, 0, cap, cur, (0, 0), rfl, rfl, hg, h1, h2, fun j hj => ?_⟩
    have h5 : (u8s bs)[j]? = some (Mem.u8 (bs.getD j 0)) := by
      rw [u8s_getElem?, List.getD_eq_getElem?_getD, List.getElem?_eq_getElem hj]
      rfl
    rw [Nat.zero_add, ← Array.getElem?_toList]
    rw [← h4] at h5
    rw [List.getElem?_take, if_pos (by omega)] at h5
    exact h5
def Res.holds (w : World) (F : Nat → Prop) : Res → Prop
  | .dsk p d => DiskAt w p d F
  | .ref q d => RefAt w q d F
  | .byt v n bs => w.ownsRow 0 5 1 v n (u8s bs) ∧ (∀ k, v.ownBlock = some k → F k) ∧ ∀ k, F k → k < w.heap.size
  | .cel b t cs => Blk w b t cs ∧ F b ∧ ∀ k, F k → k < w.heap.size
  | .pool L => (∀ x ∈ L, BAt w F x.1 x.2) ∧ ∀ k, F k → k < w.heap.size
  | .non => ∀ k, F k → k < w.heap.size
theorem Res.keep {w w' : World} {F : Nat → Prop} {R : Res} (h : R.holds w F) (hs : w.heap.size ≤ w'.heap.size) (hk : ∀ k, F k → w'.heap[k]? = w.heap[k]?) : R.holds w' F := by
  cases R with
  | dsk p d => exact DiskAt.keep h hs hk
  | ref q d => exact RefAt.keep h hs hk
  | byt v n bs => exact ⟨own_keep h.1 (fun k e => hk k (h.2.1 k e)), h.2.1, fun k x => Nat.lt_of_lt_of_le (h.2.2 k x) hs⟩
  | cel b t cs => exact ⟨Blk.keep h.1 (hk b h.2.1), h.2.1, fun k x => Nat.lt_of_lt_of_le (h.2.2 k x) hs⟩
  | pool L => exact ⟨fun x hx => (h.1 x hx).keep hk, fun k x => Nat.lt_of_lt_of_le (h.2 k x) hs⟩
  | non => exact fun k x => Nat.lt_of_lt_of_le (h k x) hs
theorem Res.bound {w : World} {F : Nat → Prop} {R : Res} (h : R.holds w F) : ∀ k, F k → k < w.heap.size := by
  cases R with
  | dsk p d => exact DiskAt.bound h
  | ref q d => exact RefAt.bound h
  | byt v n bs => exact h.2.2
  | cel b t cs => exact h.2.2
  | pool L => exact h.2
  | non => exact h
/-- THE THINGS Rs, APART: block k is the c k-th thing's (0: nobody's). -/
def Sep (w0 w : World) (Rs : List Res) : Prop := Below w0.heap.size w0 w ∧ ∃ c : Nat → Nat, (∀ k, c k ≠ 0 → w0.heap.size ≤ k) ∧ ∀ (i : Nat) (R : Res), Rs[i]? = some R → R.holds w (fun k => c k = i + 1)
section
variable {w0 w w' : World} {Rs Rs' : List Res}
theorem Sep.below (h : Sep w0 w Rs) : Below w0.heap.size w0 w := h.1
theorem Sep.nil (h : Below w0.heap.size w0 w) : Sep w0 w [] := ⟨h, fun _ => 0, fun k e => absurd rfl e, fun i R e => by simp at e⟩
theorem Sep.grow (h : Sep w0 w Rs) (hb : Below w.heap.size w w') : Sep w0 w' Rs := by
  obtain ⟨h1, c, h2, h3⟩ := h
  exact ⟨h1.trans (hb.mono h1.size), c, h2, fun i R e => Res.keep (R := R) (h3 i R e) hb.size (fun k x => hb.block k (Res.bound (R := R) (h3 i R e) k x))⟩
theorem Sep.left (h : Sep w0 w (Rs ++ Rs')) : Sep w0 w Rs := by
  obtain ⟨h1, c, h2, h3⟩ := h
  refine ⟨h1, c, h2, fun i R e => h3 i R ?_⟩
  have hl : i < Rs.length := by
    rcases Nat.lt_or_ge i Rs.length with hl | hl
    · exact hl
    · rw [List.getElem?_eq_none hl] at e; cases e
  rw [List.getElem?_append_left hl]; exact e
/-- the i-th thing, opened -/
theorem Sep.open_ (h : Sep w0 w Rs) (i : Nat) (R : Res) (hi : Rs[i]? = some R) : ∃ F, R.holds w F ∧ (∀ k, F k → w0.heap.size ≤ k) ∧ (∀ (j : Nat) v n bs, j ≠ i → Rs[j]? = some (.byt v n bs) → w.ownsRow 0 5 1 v n (u8s bs) ∧ ∀ k, v.ownBlock = some k → ¬ F k) ∧
    ∀ (w' : World) (R' : Res) (F' : Nat → Prop), R'.holds w' F' → Fr F w w' → (∀ k, F' k → F k ∨ w.heap.size ≤ k) → Sep w0 w' (Rs.set i R') := by
  obtain ⟨h1, c, h2, h3⟩ := h
  refine ⟨fun k => c k = i + 1, h3 i R hi, fun k e => h2 k (by omega), fun j v n bs hji hj => ?_, fun w' R' F' hR hf hF' => ?_⟩
  · have := h3 j _ hj
    exact ⟨this.1, fun k e x => by have := this.2.1 k e; omega⟩
  · classical
    have hlt : i < Rs.length := by
      rcases Nat.lt_or_ge i Rs.length with hl | hl
      · exact hl
      · rw [List.getElem?_eq_none hl] at hi; cases hi
    refine ⟨h1.trans (hf.below h1.size (fun k e => h2 k (by omega))), fun k => if F' k then i + 1 else if c k = i + 1 then 0 else c k, fun k e => ?_, fun j S e => ?_⟩
    · by_cases hk : F' k
      · rcases hF' k hk with x | x
        · exact h2 k (by omega)
        · exact Nat.le_trans h1.size x
      · simp only [if_neg hk] at e
        by_cases hc : c k = i + 1
        · simp [hc] at e
        · simp only [if_neg hc] at e; exact h2 k e
    · rw [List.getElem?_set] at e
      by_cases hij : i = j
      · subst hij
        rw [if_pos rfl, if_pos hlt] at e
        injection e with e
        subst e
        have hset : (fun k => (if F' k then i + 1 else if c k = i + 1 then 0 else c k) = i + 1) = F' := by
          funext k
          by_cases hk : F' k
          · simp [hk]
          · simp only [if_neg hk]
            by_cases hc : c k = i + 1
            · simp [hc, hk]
            · simp [hc, hk]
        rw [hset]
        exact hR
      · rw [if_neg hij] at e
        have hj := h3 j S e
        have hset : (fun k => (if F' k then i + 1 else if c k = i + 1 then 0 else c k) = j + 1) = (fun k => c k = j + 1) := by
          funext k
          apply propext
          by_cases hk : F' k
          · simp only [if_pos hk]
            constructor
            · intro x; omega
            · intro x
              rcases hF' k hk with y | y
              · omega
              · have := Res.bound (R := S) hj k x; omega
          · simp only [if_neg hk]
            by_cases hc : c k = i + 1
            · simp only [if_pos hc]; constructor <;> intro x <;> omega
            · simp only [if_neg hc]
        rw [hset]
        exact Res.keep (R := S) hj hf.size (fun k x => hf.block k (Res.bound (R := S) hj k x) (fun y => by omega))
/-- a thing more -/
theorem Sep.push (h : Sep w0 w Rs) (hb : Below w.heap.size w w') {R : Res} {F : Nat → Prop} (hR : R.holds w' F) (hF : ∀ k, F k → w.heap.size ≤ k) : Sep w0 w' (Rs ++ [R]) := by
  classical
  obtain ⟨h1, c, h2, h3⟩ := h
  have hbd : ∀ k, c k ≠ 0 → c k ≤ Rs.length → k < w.heap.size := fun k e1 e2 => by
    have := h3 (c k - 1) Rs[c k - 1] (List.getElem?_eq_getElem (by omega))
    exact Res.bound (R := Rs[c k - 1]) this k (by omega)
  refine ⟨h1.trans (hb.mono h1.size), fun k => if F k then Rs.length + 1 else if c k ≤ Rs.length then c k else 0, fun k e => ?_, fun i S e => ?_⟩
  · by_cases hk : F k
    · exact Nat.le_trans h1.size (hF k hk)
    · simp only [if_neg hk] at e
      by_cases hc : c k ≤ Rs.length
      · simp only [if_pos hc] at e; exact h2 k e
      · simp [hc] at e
  · rcases Nat.lt_or_ge i Rs.length with hl | hl
    · rw [List.getElem?_append_left hl] at e
      have hj := h3 i S e
      have hset : (fun k => (if F k then Rs.length + 1 else if c k ≤ Rs.length then c k else 0) = i + 1) = (fun k => c k = i + 1) := by
        funext k
        apply propext
        by_cases hk : F k
        · simp only [if_pos hk]
          constructor
          · intro x; omega
          · intro x
            have := hF k hk
            have := Res.bound (R := S) hj k x
            omega
        · simp only [if_neg hk]
          by_cases hc : c k ≤ Rs.length
          · simp only [if_pos hc]
          · simp only [if_neg hc]; constructor <;> intro x <;> omega
      rw [hset]
      exact Res.keep (R := S) hj hb.size (fun k x => hb.block k (Res.bound (R := S) hj k x))
    · have hi : i = Rs.length := by
        rw [List.getElem?_append_right hl] at e
        rcases Nat.lt_or_ge (i - Rs.length) 1 with h0 | h0
        · omega
        · rw [List.getElem?_eq_none (by simpa using h0)] at e; cases e
      subst hi
      rw [List.getElem?_append_right (Nat.le_refl _)] at e
      simp at e
      subst e
      have hset : (fun k => (if F k then Rs.length + 1 else if c k ≤ Rs.length then c k else 0) = Rs.length + 1) = F := by
        funext k
        apply propext
        by_cases hk : F k
        · simp [hk]
        · simp only [if_neg hk]
          by_cases hc : c k ≤ Rs.length
          · simp only [if_pos hc]; constructor
            · intro x; omega
            · intro x; exact absurd x hk
          · simp only [if_neg hc]; constructor
            · intro x; omega
            · intro x; exact absurd x hk
      rw [hset]
      exact hR
/-- some of the things, in another order -/
theorem Sep.pick (h : Sep w0 w Rs) (f g : Nat → Nat) (hf : ∀ (i : Nat) (R : Res), Rs'[i]? = some R → Rs[f i]? = some R ∧ g (f i) = i) : Sep w0 w Rs' := by
  classical
  obtain ⟨h1, c, h2, h3⟩ := h
  refine ⟨h1, fun k => if c k ≠ 0 ∧ g (c k - 1) < Rs'.length ∧ f (g (c k - 1)) = c k - 1 then g (c k - 1) + 1 else 0, fun k e => ?_, fun i R e => ?_⟩
  · by_cases hc : c k ≠ 0 ∧ g (c k - 1) < Rs'.length ∧ f (g (c k - 1)) = c k - 1
    · exact h2 k hc.1
    · simp [hc] at e
  · obtain ⟨hR, hgf⟩ := hf i R e
    have hl : i < Rs'.length := by
      rcases Nat.lt_or_ge i Rs'.length with hl | hl
      · exact hl
      · rw [List.getElem?_eq_none hl] at e; cases e
    have hset : (fun k => (if c k ≠ 0 ∧ g (c k - 1) < Rs'.length ∧ f (g (c k - 1)) = c k - 1 then g (c k - 1) + 1 else 0) = i + 1) = (fun k => c k = f i + 1) := by
      funext k
      apply propext
      constructor
      · intro x
        by_cases hc : c k ≠ 0 ∧ g (c k - 1) < Rs'.length ∧ f (g (c k - 1)) = c k - 1
        · rw [if_pos hc] at x
          have e1 : g (c k - 1) = i := by omega
          have e2 := hc.2.2
          rw [e1] at e2
          have := hc.1
          omega
        · rw [if_neg hc] at x; omega
      · intro x
        have e1 : c k - 1 = f i := by omega
        rw [e1, hgf, if_pos ⟨by omega, hl, rfl⟩]
    rw [hset]
    exact h3 (f i) R hR
/-- the last two, the other way round -/
theorem Sep.swap23 {a b c d : Res} (h : Sep w0 w [a, b, c, d]) : Sep w0 w [a, b, d, c] := by
  refine h.pick (fun i => if i = 2 then 3 else if i = 3 then 2 else i) (fun i => if i = 2 then 3 else if i = 3 then 2 else i) (fun i R e => ?_)
  match i, e with
  | 0, e => exact ⟨e, rfl⟩
  | 1, e => exact ⟨e, rfl⟩
  | 2, e => exact ⟨e, rfl⟩
  | 3, e => exact ⟨e, rfl⟩
  | n + 4, e => simp at e
/-- a block of the i-th thing's is written to, or what it was is let go -/
theorem Sep.free (h : Sep w0 w Rs) (i : Nat) {v : Value} {n : Nat} {bs : List UInt8} (hi : Rs[i]? = some (.byt v n bs)) (hf : Fr (fun k => v.ownBlock = some k) w w') : Sep w0 w' (Rs.set i .non) := by
  obtain ⟨F, hF, _, _, hturn⟩ := h.open_ i _ hi
  exact hturn w' .non (fun _ => False) (fun k x => x.elim) (hf.mono (fun k _ e => hF.2.1 k e)) (fun k x => x.elim)
/-- two things become one -/
theorem Sep.merge (h : Sep w0 w Rs) (i j : Nat) (hij : i ≠ j) {R S T : Res} (hi : Rs[i]? = some R) (hj : Rs[j]? = some S) (hT : ∀ F G : Nat → Prop, R.holds w F → S.holds w G → T.holds w (fun k => F k ∨ G k)) : Sep w0 w ((Rs.set i T).set j .non) := by
  classical
  obtain ⟨h1, c, h2, h3⟩ := h
  have li : i < Rs.length := by
    rcases Nat.lt_or_ge i Rs.length with hl | hl
    · exact hl
    · rw [List.getElem?_eq_none hl] at hi; cases hi
  refine ⟨h1, fun k => if c k = j + 1 then i + 1 else c k, fun k e => ?_, fun m U e => ?_⟩
  · by_cases hc : c k = j + 1
    · exact h2 k (by omega)
    · simp only [if_neg hc] at e; exact h2 k e
  · by_cases hmj : m = j
    · subst hmj
      have : U = .non := by
        rw [List.getElem?_set] at e
        simp at e
        exact e.2.symm
      subst this
      intro k x
      have x' : (if c k = m + 1 then i + 1 else c k) = m + 1 := x
      split at x' <;> omega
    · rw [List.getElem?_set_ne (fun x => hmj x.symm)] at e
      by_cases hmi : m = i
      · subst hmi
        rw [List.getElem?_set] at e
        simp [li] at e
        subst e
        have hset : (fun k => (if c k = j + 1 then m + 1 else c k) = m + 1) = (fun k => c k = m + 1 ∨ c k = j + 1) := by
          funext k
          apply propext
          by_cases hc : c k = j + 1
          · simp [hc]
          · simp [hc]
        rw [hset]
        exact hT _ _ (h3 m R hi) (h3 j S hj)
      · rw [List.getElem?_set_ne (fun x => hmi x.symm)] at e
        have hset : (fun k => (if c k = j + 1 then i + 1 else c k) = m + 1) = (fun k => c k = m + 1) := by
          funext k
          apply propext
          by_cases hc : c k = j + 1
          · simp only [if_pos hc]; constructor <;> intro x <;> omega
          · simp only [if_neg hc]
        rw [hset]
        exact h3 m U e
/-- bytes that are let into the pool -/
theorem Sep.pour (h : Sep w0 w Rs) (i j : Nat) (hij : i ≠ j) {L : List (Value × List UInt8)} {v : Value} {n : Nat} {bs : List UInt8} (hi : Rs[i]? = some (.pool L)) (hj : Rs[j]? = some (.byt v n bs)) (hn : 0 < n) : Sep w0 w ((Rs.set i (.pool ((v, bs) :: L))).set j .non) := by
  refine h.merge i j hij hi hj (fun F G hF hG => ⟨fun x hx => ?_, fun k x => ?_⟩)
  · rcases List.mem_cons.1 hx with rfl | hx
    · exact (BAt.of_own hG.1 hn).mono (fun k e => .inr (hG.2.1 k e))
    · exact (hF.1 x hx).mono (fun k e => .inl e)
  · rcases x with x | x
    · exact hF.2 k x
    · exact hG.2.2 k x
theorem Sep.pooled (h : Sep w0 w Rs) {i : Nat} {L : List (Value × List UInt8)} (hi : Rs[i]? = some (.pool L)) {v : Value} {bs : List UInt8} (hm : (v, bs) ∈ L) : ∃ A c, v = .slice A bs.length c ∧ BS w A bs.length bs ∧ bs.length ≤ c ∧ c ≤ maxLen := by
  obtain ⟨h1, c, h2, h3⟩ := h
  exact ((h3 i _ hi).1 _ hm).bytes
/-- a cell of a block that is turned -/
theorem Sep.setCel (h : Sep w0 w Rs) {i b o : Nat} {t : TypeId} {cs : Array Value} (hi : Rs[i]? = some (.cel b t cs)) (u : Value) : Sep w0 (w.setCell ⟨b, o, none⟩ u) (Rs.set i (.cel b t (cs.setIfInBounds o u))) := by
  obtain ⟨F, hF, _, _, hturn⟩ := h.open_ i _ hi
  exact hturn _ (.cel b t (cs.setIfInBounds o u)) F ⟨hF.1.put o u, hF.2.1, fun k x => by rw [setCell_size]; exact hF.2.2 k x⟩ ((Fr.refl F w).setCell _ _ (fun _ => hF.2.1)) (fun _ x => .inl x)
/-- bytes of the call's own more -/
theorem Sep.bytes (h : Sep w0 w Rs) {v : Value} {bs : List UInt8} (ho : w'.ownsRow w.heap.size 5 1 v bs.length (u8s bs)) (hb : Below w.heap.size w w') : Sep w0 w' (Rs ++ [.byt v bs.length bs]) := by
  refine h.push hb (R := .byt v bs.length bs) (F := fun k => v.ownBlock = some k) ⟨own_base ho (Nat.zero_le _), fun k e => e, fun k e => own_lt ho e⟩ (fun k e => ?_)
  rcases ho.2 with ⟨e', _⟩ | ⟨g, cap, cur, e', hb, _⟩
  · subst e'; simp [Value.ownBlock] at e
  · subst e'; simp [Value.ownBlock] at e; omega
end
theorem Sep.cel {w0 w : World} {Rs : List Res} (h : Sep w0 w Rs) {i b : Nat} {t : TypeId} {cs : Array Value} (hi : Rs[i]? = some (.cel b t cs)) : Blk w b t cs := by
  obtain ⟨F, hF, _⟩ := h.open_ i _ hi
  exact hF.1
theorem Sep.box {w0 w : World} {Rs : List Res} (h : Sep w0 w Rs) (t : TypeId) (cs : Array Value) : Sep w0 (w.alloc (.cells cs t)) (Rs ++ [.cel w.heap.size t cs]) :=
  h.push ((Below.refl _ _).alloc (Nat.le_refl _) _) (R := .cel w.heap.size t cs) (F := fun k => k = w.heap.size) ⟨Blk.new w t cs, rfl, fun k e => by subst e; simp⟩ (fun k e => by omega)
/-! the functions, over such things -/
section
variable {w0 w : World} {Rs : List Res}
theorem sep_new (h : Sep w0 w Rs) (n : Int) (hn : 1 ≤ n ∧ n ≤ 4096) : Calls Try.prog 24 #[.int .i64 n] w fun e w' => ∃ p, e = .returned (.tuple #[.pointer (some ⟨p, 0, none⟩), .int .i64 0]) ∧ Sep w0 w' (Rs ++ [.dsk p (Dk.new n)]) := by
  refine (new_any n hn w).mono ?_
  rintro e w' ⟨p, rfl, h1, F, h2, h3⟩
  exact ⟨p, rfl, h.push h1 (R := .dsk p (Dk.new n)) h2 h3⟩
def SepNewR (w0 : World) (Rs : List Res) (n : Int) (e : Ending) (w' : World) : Prop := ∃ q, e = .returned (.tuple #[.pointer (some ⟨q, 0, none⟩), .int .i64 0]) ∧ Sep w0 w' (Rs ++ [.ref q (Dk.new n)])
theorem sep_rnew (h : Sep w0 w Rs) (n : Int) (hn : 1 ≤ n ∧ n ≤ 4096) : Calls Try.prog 43 #[.int .i64 n] w (SepNewR w0 Rs n) := by
  refine (rnew_any n hn w).mono ?_
  rintro e w' ⟨q, rfl, h1, G, h2, h3⟩
  exact ⟨q, rfl, h.push h1 (R := .ref q (Dk.new n)) h2 h3⟩
theorem sep_write (h : Sep w0 w Rs) {i : Nat} {p : Nat} {d : Dk.D} (hi : Rs[i]? = some (.dsk p d)) (hok : Dk.Ok d) (hlen : d.pend.length ≤ 1000000) (n : Int) {j : Nat} {A : Option Addr} {m cap : Nat} {bs : List UInt8} (hj : Rs[j]? = some (.byt (.slice A m cap) m bs)) (hji : j ≠ i) :
    Calls Try.prog 36 #[.pointer (some ⟨p, 0, none⟩), .int .i64 n, .slice A m cap] w fun e w' => e = .returned (.int .i64 ((Dk.write d n bs).1 : Int)) ∧ Sep w0 w' (Rs.set i (.dsk p (Dk.write d n bs).2)) := by
  obtain ⟨F, hF, hF0, hby, hturn⟩ := h.open_ i _ hi
  obtain ⟨ho, hne⟩ := hby j _ _ _ hji hj
  refine (write_any p d F n A m cap bs w hF hok (BS.of_own ho) (fun a e => hne _ (by subst e; rfl)) hlen).mono ?_
  rintro e w' ⟨rfl, F', g1, g2, g3⟩
  exact ⟨rfl, hturn w' (.dsk p (Dk.write d n bs).2) F' g1 g2 g3⟩
theorem sep_rwrite (h : Sep w0 w Rs) {i : Nat} {q : Nat} {d : Dk.D} (hi : Rs[i]? = some (.ref q d)) (hok : Dk.Ok d) (hlen : d.pend.length ≤ 1000000) (n : Int) {j : Nat} {A : Option Addr} {m cap : Nat} {bs : List UInt8} (hj : Rs[j]? = some (.byt (.slice A m cap) m bs)) (hji : j ≠ i) :
    Calls Try.prog 37 #[.pointer (some ⟨q, 0, none⟩), .int .i64 n, .slice A m cap] w fun e w' => e = .returned (.int .i64 ((Dk.write d n bs).1 : Int)) ∧ Sep w0 w' (Rs.set i (.ref q (Dk.write d n bs).2)) := by
  obtain ⟨F, hF, hF0, hby, hturn⟩ := h.open_ i _ hi
  obtain ⟨ho, hne⟩ := hby j _ _ _ hji hj
  have hq : F q := by obtain ⟨_, _, _, _, hr⟩ := hF; exact hr.footq
  refine (rwrite_any q d F n A m cap bs w hF hok (BS.of_own ho) (fun a e x => hne q (by subst e; rw [← x]; rfl) hq) hlen).mono ?_
  rintro e w' ⟨rfl, F', g1, g2, g3⟩
  exact ⟨rfl, hturn w' (.ref q (Dk.write d n bs).2) F' g1 g2 g3⟩
theorem sep_rwrite_arg (h : Sep w0 w Rs) {i : Nat} {q : Nat} {d : Dk.D} (hi : Rs[i]? = some (.ref q d)) (hok : Dk.Ok d) (hlen : d.pend.length ≤ 1000000) (n : Int) {A : Option Addr} {m cap : Nat} {bs : List UInt8} (hbs : BS w A m bs) (hA : ∀ a, A = some a → a.block < w0.heap.size) :
    Calls Try.prog 37 #[.pointer (some ⟨q, 0, none⟩), .int .i64 n, .slice A m cap] w fun e w' => e = .returned (.int .i64 ((Dk.write d n bs).1 : Int)) ∧ Sep w0 w' (Rs.set i (.ref q (Dk.write d n bs).2)) := by
  obtain ⟨F, hF, hF0, hby, hturn⟩ := h.open_ i _ hi
  have hq : F q := by obtain ⟨_, _, _, _, hr⟩ := hF; exact hr.footq
  refine (rwrite_any q d F n A m cap bs w hF hok hbs (fun a e x => by have := hA a e; have := hF0 q hq; omega) hlen).mono ?_
  rintro e w' ⟨rfl, F', g1, g2, g3⟩
  exact ⟨rfl, hturn w' (.ref q (Dk.write d n bs).2) F' g1 g2 g3⟩
theorem sep_sync (h : Sep w0 w Rs) {i : Nat} {p : Nat} {d : Dk.D} (hi : Rs[i]? = some (.dsk p d)) (hok : Dk.Ok d) (hsy : d.syncs ≤ 1000000) :
    Calls Try.prog 39 #[.pointer (some ⟨p, 0, none⟩)] w fun e w' => e = .returned (.int .i64 ((Dk.sync d).1 : Int)) ∧ Sep w0 w' (Rs.set i (.dsk p (Dk.sync d).2)) := by
  obtain ⟨F, hF, hF0, hby, hturn⟩ := h.open_ i _ hi
  refine (sync_any p d F w hF hok hsy).mono ?_
  rintro e w' ⟨rfl, F', g1, g2, g3⟩
  exact ⟨rfl, hturn w' (.dsk p (Dk.sync d).2) F' g1 g2 g3⟩
theorem sep_rsync (h : Sep w0 w Rs) {i : Nat} {q : Nat} {d : Dk.D} (hi : Rs[i]? = some (.ref q d)) (hok : Dk.Ok d) (hnw : Dk.Nw d) (hsy : d.syncs ≤ 1000000) (hlen : d.pend.length ≤ 1000000) :
    Calls Try.prog 44 #[.pointer (some ⟨q, 0, none⟩)] w fun e w' => e = .returned (.int .i64 ((Dk.sync d).1 : Int)) ∧ Sep w0 w' (Rs.set i (.ref q (Dk.sync d).2)) := by
  obtain ⟨F, hF, hF0, hby, hturn⟩ := h.open_ i _ hi
  refine (rsync_any q d F w hF hok hnw hsy hlen).mono ?_
  rintro e w' ⟨rfl, F', g1, g2, g3⟩
  exact ⟨rfl, hturn w' (.ref q (Dk.sync d).2) F' g1 g2 g3⟩
theorem sep_read (h : Sep w0 w Rs) {i : Nat} {p : Nat} {d : Dk.D} (hi : Rs[i]? = some (.dsk p d)) (hok : Dk.Ok d) (n : Int) : Calls Try.prog 33 #[.pointer (some ⟨p, 0, none⟩), .int .i64 n] w (ReadE w (Dk.read d n)) := by
  obtain ⟨F, hF, _⟩ := h.open_ i _ hi
  exact read_any p d F n w hF hok
theorem sep_rread (h : Sep w0 w Rs) {i : Nat} {q : Nat} {d : Dk.D} (hi : Rs[i]? = some (.ref q d)) (hok : Dk.Ok d) (hnw : Dk.Nw d) (hlen : d.pend.length ≤ 1000000) (n : Int) : Calls Try.prog 45 #[.pointer (some ⟨q, 0, none⟩), .int .i64 n] w (RReadE w (Dk.read d n)) := by
  obtain ⟨F, hF, _⟩ := h.open_ i _ hi
  exact rread_any q d F n w hF hok hnw hlen
theorem sep_rnow (h : Sep w0 w Rs) {i : Nat} {q : Nat} {d : Dk.D} (hi : Rs[i]? = some (.ref q d)) (hok : Dk.Ok d) (hnw : Dk.Nw d) (n : Nat) (hn : (n : Int) < d.size) (hlen : d.pend.length ≤ 1000000) : Calls Try.prog 38 #[.pointer (some ⟨q, 0, none⟩), .int .i64 (n : Int)] w (OwnB 5 w (Dk.cur d n)) := by
  obtain ⟨F, hF, _⟩ := h.open_ i _ hi
  exact rnow_any q d F n w hF hok hnw hn hlen
theorem sep_fuse (h : Sep w0 w Rs) {i : Nat} {p : Nat} {d : Dk.D} (hi : Rs[i]? = some (.dsk p d)) (n : Int) :
    Calls Try.prog 27 #[.pointer (some ⟨p, 0, none⟩), .int .i64 n] w fun e w' => e = .returned (.tuple #[]) ∧ Sep w0 w' (Rs.set i (.dsk p (Dk.fused d n))) := by
  obtain ⟨F, hF, hF0, hby, hturn⟩ := h.open_ i _ hi
  obtain ⟨r1, r2, v, hd, hFF, hB⟩ := hF
  refine (fuse_any p r1 r2 v d n w hd).mono ?_
  rintro e w' ⟨rfl, hd', hf⟩
  exact ⟨rfl, hturn w' (.dsk p (Dk.fused d n)) F ⟨r1, r2, v, hd', hFF, fun k x => by have := hB k x; have := hf.size; omega⟩ (hf.mono (fun k _ e => hFF k (.inl e))) (fun _ x => .inl x)⟩
theorem sep_rfuse (h : Sep w0 w Rs) {i : Nat} {q : Nat} {d : Dk.D} (hi : Rs[i]? = some (.ref q d)) (n : Int) :
    Calls Try.prog 46 #[.pointer (some ⟨q, 0, none⟩), .int .i64 n] w fun e w' => e = .returned (.tuple #[]) ∧ Sep w0 w' (Rs.set i (.ref q (Dk.fused d n))) := by
  obtain ⟨F, hF, hF0, hby, hturn⟩ := h.open_ i _ hi
  refine (rfuse_any q d F n w hF).mono ?_
  rintro e w' ⟨rfl, F', g1, g2, g3⟩
  exact ⟨rfl, hturn w' (.ref q (Dk.fused d n)) F' g1 g2 g3⟩
theorem sep_crash (h : Sep w0 w Rs) {i : Nat} {p : Nat} {d : Dk.D} (hi : Rs[i]? = some (.dsk p d)) (hok : Dk.Ok d) (hpl : d.pend.length ≤ 1000000) (AK : Option Addr) (nk ck : Nat) (ks : List Int) (torn : Bool) (cut : Int) (hK : IS w AK nk ks) (hnk : nk ≤ 1000000) :
    Calls Try.prog 31 #[.pointer (some ⟨p, 0, none⟩), .agg #[.slice AK nk ck, .bool torn, .int .i64 cut]] w fun e w' => ∃ x, e = .returned (.pointer (some ⟨x, 0, none⟩)) ∧ Below w.heap.size w w' ∧ Sep w0 w' (Rs ++ [.dsk x (Dk.crash d ks torn cut)]) := by
  obtain ⟨F, hF, _⟩ := h.open_ i _ hi
  refine (crash_any p d F AK nk ck ks torn cut w hF hok hK hnk hpl).mono ?_
  rintro e w' ⟨x, rfl, g1, F', g2, g3⟩
  exact ⟨x, rfl, g1, h.push g1 (R := .dsk x (Dk.crash d ks torn cut)) g2 g3⟩
def SepCrashR (w0 w : World) (Rs : List Res) (d : Dk.D) (e : Ending) (w' : World) : Prop := ∃ x, e = .returned (.pointer (some ⟨x, 0, none⟩)) ∧ Below w.heap.size w w' ∧ Sep w0 w' (Rs ++ [.ref x d])
theorem sep_rcrash (h : Sep w0 w Rs) {i : Nat} {q : Nat} {d : Dk.D} (hi : Rs[i]? = some (.ref q d)) (hok : Dk.Ok d) (hpl : d.pend.length ≤ 1000000) (AK : Option Addr) (nk ck : Nat) (ks : List Int) (torn : Bool) (cut : Int) (hK : IS w AK nk ks) (hnk : nk ≤ 1000000) :
    Calls Try.prog 34 #[.pointer (some ⟨q, 0, none⟩), .agg #[.slice AK nk ck, .bool torn, .int .i64 cut]] w (SepCrashR w0 w Rs (Dk.crash d ks torn cut)) := by
  obtain ⟨F, hF, _⟩ := h.open_ i _ hi
  refine (rcrash_any q d F AK nk ck ks torn cut w hF hok hK hnk hpl).mono ?_
  rintro e w' ⟨x, rfl, g1, F', g2, g3⟩
  exact ⟨x, rfl, g1, h.push g1 (R := .ref x (Dk.crash d ks torn cut)) g2 g3⟩
theorem sep_cells (h : Sep w0 w Rs) {i : Nat} {p : Nat} {d : Dk.D} (hi : Rs[i]? = some (.dsk p d)) : ∃ A c, w.cell? ⟨p, 0, none⟩ = some (.int .i64 d.size) ∧ w.cell? ⟨p, 3, none⟩ = some (.slice A d.pend.length c) ∧ w.cell? ⟨p, 4, none⟩ = some (.int .i64 d.fuse) ∧ w.cell? ⟨p, 5, none⟩ = some (.bool d.down) ∧ w.cell? ⟨p, 6, none⟩ = some (.int .i64 d.syncs) := by
  obtain ⟨F, ⟨r1, r2, v, hd, _⟩, _⟩ := h.open_ i _ hi
  obtain ⟨c0, _, _, c3, c4, c5, c6⟩ := hd.cells
  obtain ⟨A, c, rfl⟩ := own_slice hd.row
  exact ⟨A, c, c0, c3, c4, c5, c6⟩
theorem sep_rcells (h : Sep w0 w Rs) {i : Nat} {q : Nat} {d : Dk.D} (hi : Rs[i]? = some (.ref q d)) : ∃ sv xs lv ys F, RefIn w q d sv xs lv ys F := by
  obtain ⟨F, ⟨sv, xs, lv, ys, hr⟩, _⟩ := h.open_ i _ hi
  exact ⟨sv, xs, lv, ys, F, hr⟩
end
end Go.Proofs.Ytaooimhodoefoaa
