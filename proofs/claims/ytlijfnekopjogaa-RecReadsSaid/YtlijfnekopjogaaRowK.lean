/- A row of structs of the call's own reads as its structs; a slice of structs as an append's source. -/
import Derived.Test.YtlijfnekopjogaaRowsOf
import Derived.Test.YtlijfnekopjogaaMaps
import Derived.Test.YtlijfnekopjogaaSteps
namespace Go.Proofs.Ytlijfnekopjogaa
open Go Go.RowKit Mem Lift
set_option linter.unusedVariables false
set_option linter.unusedSimpArgs false

/-- the cells of a list of structs, one behind the other -/
def rowOf {α : Type} (K : Kind_ α) (l : List α) : List Value := l.flatMap K.cells
section
variable {α : Type} {K : Kind_ α} {w w' : World} {A : Option Addr} {n : Nat} {l : List α}
theorem rowOf_append (a b : List α) : rowOf K (a ++ b) = rowOf K a ++ rowOf K b := by simp [rowOf]
theorem rowOf_one (x : α) : rowOf K [x] = K.cells x := by simp [rowOf]
theorem rowOf_length (hk : ∀ x, (K.cells x).length = K.k) : ∀ l : List α, (rowOf K l).length = l.length * K.k
  | [] => by simp [rowOf]
  | x :: l => by
    have h : rowOf K (x :: l) = K.cells x ++ rowOf K l := by simp [rowOf]
    rw [h, List.length_append, rowOf_length hk l, hk, List.length_cons, Nat.add_mul, Nat.one_mul, Nat.add_comm]
theorem rowOf_get (hk : ∀ x, (K.cells x).length = K.k) : ∀ (l : List α) (i j : Nat), i < l.length → j < K.k → (rowOf K l)[i * K.k + j]? = (K.cells (l.getD i K.zero))[j]?
  | [], i, j, h, _ => absurd h (by simp)
  | x :: l, 0, j, _, hj => by
    have h : rowOf K (x :: l) = K.cells x ++ rowOf K l := by simp [rowOf]
    rw [h, Nat.zero_mul, Nat.zero_add, List.getElem?_append_left (by rw [hk]; exact hj)]
    rfl
  | x :: l, i + 1, j, hi, hj => by
    have h : rowOf K (x :: l) = K.cells x ++ rowOf K l := by simp [rowOf]
    have e : (i + 1) * K.k + j = K.k + (i * K.k + j) := by rw [Nat.add_mul, Nat.one_mul]; omega
    rw [h, e, List.getElem?_append_right (by rw [hk]; omega), hk, Nat.add_sub_cancel_left, rowOf_get hk l i j (by simpa using hi) hj]
    rfl
theorem rowOf_split (hk : ∀ x, (K.cells x).length = K.k) (l : List α) (j : Nat) (u : Value) (h : (rowOf K l)[j]? = some u) : ∃ i d, i < l.length ∧ d < K.k ∧ j = i * K.k + d := by
  have hj : j < (rowOf K l).length := by
    rcases Nat.lt_or_ge j (rowOf K l).length with h1 | h1
    · exact h1
    · rw [List.getElem?_eq_none h1] at h; cases h
  rw [rowOf_length hk] at hj
  have hkp : 0 < K.k := by
    rcases Nat.eq_zero_or_pos K.k with h0 | h0
    · rw [h0, Nat.mul_zero] at hj; omega
    · exact h0
  refine ⟨j / K.k, j % K.k, (Nat.div_lt_iff_lt_mul hkp).2 hj, Nat.mod_lt _ hkp, ?_⟩
  rw [Nat.mul_comm]; exact (Nat.div_add_mod j K.k).symm
/-- the append's source: cell by cell -/
theorem ST.src (hk : ∀ x, (K.cells x).length = K.k) {a : Addr} (h : ST K w (some a) n l) : ∀ j u, (rowOf K l)[j]? = some u → w.cell? (a.add j) = some u := by
  intro j u hu
  obtain ⟨i, d, hi, hd, rfl⟩ := rowOf_split hk l j u hu
  have hn : i < n := by rw [← h.len]; exact hi
  obtain ⟨b, off, e, _, hc, _⟩ := h.at_ hn
  injection e with e
  subst e
  rw [rowOf_get hk l i d hi hd] at hu
  have hadd : (⟨b, off, none⟩ : Addr).add (i * K.k + d) = ⟨b, off + i * K.k + d, none⟩ := by unfold Addr.add; split <;> simp_all [Nat.add_assoc]
  rw [hadd, hc d hd, hu]
theorem ST.of_own (hk : ∀ x, (K.cells x).length = K.k) (hp : 0 < K.k) {base : Nat} {e : TypeId} {c : Nat} (h : w.ownsRow base e K.k (.slice A n c) n (rowOf K l)) (hok : ∀ x ∈ l, K.ok w x) : ST K w A n l := by
  have hl : l.length = n := by
    have h1 := h.1
    rw [rowOf_length hk] at h1
    exact Nat.eq_of_mul_eq_mul_right hp h1
  refine ⟨hl, hok, fun hn => ?_⟩
  obtain ⟨g, cap, hv, _, hlt⟩ := h.form hn
  have hA : A = some ⟨g, 0, none⟩ := by injection hv
  subst hA
  refine ⟨g, 0, rfl, hlt, fun i hi j hj => ?_⟩
  have hx : ∃ v, (K.cells (l.getD i K.zero))[j]? = some v := ⟨_, List.getElem?_eq_getElem (by rw [hk]; exact hj)⟩
  obtain ⟨v, hx⟩ := hx
  have := h.cells (g := g) rfl (i * K.k + j) v (by rw [rowOf_get hk l i j hi hj]; exact hx)
  have hadd : (⟨g, 0, none⟩ : Addr).add (i * K.k + j) = ⟨g, 0 + i * K.k + j, none⟩ := by unfold Addr.add; split <;> simp_all [Nat.add_assoc]
  rw [hadd] at this
  rw [this, hx]
theorem rowOf_one' (h1 : ∀ x, ∀ u ∈ K.cells x, u.oneCell' = true) (l : List α) : ∀ u ∈ rowOf K l, u.oneCell' = true := by
  intro u hu
  simp only [rowOf, List.mem_flatMap] at hu
  obtain ⟨x, _, hx⟩ := hu
  exact h1 x u hx
theorem own_emptyK {e : TypeId} {size h0 : Nat} (hblk : w.heap[h0]? = some (.cells #[] e (0, 0))) : w.ownsRow h0 e size (.slice (some ⟨h0, 0, none⟩) 0 0) 0 [] :=
  ⟨by simp, .inr ⟨h0, 0, #[], rfl, Nat.le_refl _, hblk, Nat.le_refl _, by simp [maxLen], by simp, by simp⟩⟩
theorem own_nilK {e : TypeId} {size base : Nat} (w : World) : w.ownsRow base e size (.slice none 0 0) 0 [] := ⟨by simp, .inl ⟨rfl, rfl⟩⟩
end
section
variable {P : Program} (w : World) {α : Type} {K : Kind_ α}
/-- 'append(v, x...)' onto a row of the call's own, x whatever slice of structs -/
theorem run_append_st (hk : ∀ x, (K.cells x).length = K.k) (hp : 0 < K.k) (h1c : ∀ x, ∀ u ∈ K.cells x, u.oneCell' = true) (base : Nat) (t ty e : TypeId) (i : TypeInfo) (z : Value) (bytes : Nat) (ht : P.underlying t = some (.slice e)) (hi : P.info? e = some i) (hz : i.zero = some z)
    (hsize : i.size = K.k) (hby : i.bytes = bytes) (hzs : z.cells.size = K.k) (hbl : bytes ≤ 1000)
    (v : Value) (n : Nat) (xs : List Value) (hown : w.ownsRow base e K.k v n xs)
    (A : Option Addr) (m c : Nat) (l : List α) (hr : ST K w A m l)
    (hn : n + m ≤ 1000000000) (hbase : base ≤ w.heap.size) :
    ∃ v' w', (Builtin.append_ #[t, t] ty #[v, .slice A m c]).run P w = .ok v' w' ∧ w'.ownsRow base e K.k v' (n + m) (xs ++ rowOf K l) ∧ w.grownBy w' v.ownBlock ∧
      (v'.ownBlock = v.ownBlock ∨ v'.ownBlock = some w.heap.size) := by
  have h63 : n + m ≤ maxLen := by unfold maxLen; omega
  have hbytes : (n + m) * bytes ≤ 140737488355328 := by
    have : (n + m) * bytes ≤ 1000000000 * 1000 := Nat.mul_le_mul hn hbl
    omega
  rcases A with _ | ad
  · have hm : m = 0 := by
      rcases Nat.eq_zero_or_pos m with h0 | h0
      · exact h0
      · obtain ⟨_, _, h, _⟩ := hr.mem h0
        cases h
    subst hm
    have hn : l = [] := List.eq_nil_of_length_eq_zero hr.len
    subst hn
    refine ⟨v, w, ?_, by simpa [rowOf] using hown, World.grownBy.refl w _, .inl rfl⟩
    rcases hown.2 with ⟨rfl, rfl⟩ | ⟨g, cap, cur, rfl, _, _, hnc, _⟩
    · simp [Builtin.append_, run_underlying ht, sizeOf, typeInfo, hi, Builtin.lenOf, Builtin.firstCells]
    · simp [Builtin.append_, run_underlying ht, sizeOf, typeInfo, hi, Builtin.lenOf, Builtin.firstCells, hnc, storeCells]
  · obtain ⟨v', w', hrun, h2, h3, _, h5⟩ := run_append_own_at (P := P) w base t ty e i z K.k bytes ht hi hz hsize hby hzs hp v n xs hown ad m c (rowOf K l) (by rw [rowOf_length hk, hr.len]) (hr.src hk) (rowOf_one' h1c l) h63 hbytes hbase
    exact ⟨v', w', hrun, h2, h3, h5⟩
theorem wpList_append_st (hk : ∀ x, (K.cells x).length = K.k) (hp : 0 < K.k) (h1c : ∀ x, ∀ u ∈ K.cells x, u.oneCell' = true) {ops : Array Oper} {rest : List Oper} {o : Oper} {a : Act} {Q : Exit → Act → World → Prop} (hgd : Region.wanted o (yielded ops a.tmps) = true) (s x : Operand) (t : TypeId)
    (ho : o.op = .call { callee := .builtin .append, args := #[s, x], argTypes := #[t, t] })
    (base : Nat) (e : TypeId) (i : TypeInfo) (z : Value) (bytes : Nat) (ht : P.underlying t = some (.slice e)) (hi : P.info? e = some i) (hz : i.zero = some z) (hsize : i.size = K.k) (hby : i.bytes = bytes) (hzs : z.cells.size = K.k) (hbl : bytes ≤ 1000)
    (v : Value) (n : Nat) (xs : List Value) (hs : a.eval s = v) (hown : w.ownsRow base e K.k v n xs)
    (A : Option Addr) (m c : Nat) (l : List α) (hx : a.eval x = .slice A m c) (hr : ST K w A m l) (hn : n + m ≤ 1000000000) (hbase : base ≤ w.heap.size)
    (h : ∀ A' c' w', w'.ownsRow base e K.k (.slice A' (n + m) c') (n + m) (xs ++ rowOf K l) → w.grownBy w' v.ownBlock → ((Value.slice A' (n + m) c').ownBlock = v.ownBlock ∨ (Value.slice A' (n + m) c').ownBlock = some w.heap.size) → wpList P ops Q rest (a.put o.dst (.slice A' (n + m) c')) w') : wpList P ops Q (o :: rest) a w := by
  unfold wpList
  rw [if_pos hgd]
  obtain ⟨v', w', hrun, h2, h3, h4⟩ := run_append_st (P := P) w hk hp h1c base t o.type e i z bytes ht hi hz hsize hby hzs hbl v n xs hown A m c l hr hn hbase
  have hv : ∃ A' c', v' = .slice A' (n + m) c' := by
    rcases h2.2 with ⟨rfl, h0⟩ | ⟨g, cap, cur, rfl, _⟩
    · exact ⟨none, 0, by rw [h0]⟩
    · exact ⟨_, _, rfl⟩
  obtain ⟨A', c', rfl⟩ := hv
  refine .inl ?_
  unfold Oper.wp execOp
  simp only [ho, resolve, invoke, builtin, Sem.run_bind, Sem.run_pure, Result.andThen_ok, List.map_toArray, List.map_cons, List.map_nil, hs, hx, hrun]
  exact h A' c' w' h2 h3 h4
/-- the same at a step of a region that draws -/
theorem step_append_st (hk : ∀ x, (K.cells x).length = K.k) (hp : 0 < K.k) (h1c : ∀ x, ∀ u ∈ K.cells x, u.oneCell' = true) {ops : Array Oper} {o : Oper} {a : Act} {G : Act → World → Prop} {Q : Exit → Act → World → Prop} {E : Prop} (hgd : o.guard = none) (s x : Operand) (t : TypeId)
    (ho : o.op = .call { callee := .builtin .append, args := #[s, x], argTypes := #[t, t] })
    (base : Nat) (e : TypeId) (i : TypeInfo) (z : Value) (bytes : Nat) (ht : P.underlying t = some (.slice e)) (hi : P.info? e = some i) (hz : i.zero = some z) (hsize : i.size = K.k) (hby : i.bytes = bytes) (hzs : z.cells.size = K.k) (hbl : bytes ≤ 1000)
    (v : Value) (n : Nat) (xs : List Value) (hs : a.eval s = v) (hown : w.ownsRow base e K.k v n xs)
    (A : Option Addr) (m c : Nat) (l : List α) (hx : a.eval x = .slice A m c) (hr : ST K w A m l) (hn : n + m ≤ 1000000000) (hbase : base ≤ w.heap.size)
    (h : ∀ A' c' w', w'.ownsRow base e K.k (.slice A' (n + m) c') (n + m) (xs ++ rowOf K l) → w.grownBy w' v.ownBlock → ((Value.slice A' (n + m) c').ownBlock = v.ownBlock ∨ (Value.slice A' (n + m) c').ownBlock = some w.heap.size) → G (a.put o.dst (.slice A' (n + m) c')) w') :
    if Region.wanted o (yielded ops a.tmps) = true then Oper.wp P o a w G Q else E := by
  have hw : Region.wanted o (yielded ops a.tmps) = true := by simp [Region.wanted, hgd]
  rw [if_pos hw]
  obtain ⟨v', w', hrun, h2, h3, h4⟩ := run_append_st (P := P) w hk hp h1c base t o.type e i z bytes ht hi hz hsize hby hzs hbl v n xs hown A m c l hr hn hbase
  have hv : ∃ A' c', v' = .slice A' (n + m) c' := by
    rcases h2.2 with ⟨rfl, h0⟩ | ⟨g, cap, cur, rfl, _⟩
    · exact ⟨none, 0, by rw [h0]⟩
    · exact ⟨_, _, rfl⟩
  obtain ⟨A', c', rfl⟩ := hv
  unfold Oper.wp execOp
  simp only [ho, resolve, invoke, builtin, Sem.run_bind, Sem.run_pure, Result.andThen_ok, List.map_toArray, List.map_cons, List.map_nil, hs, hx, hrun]
  exact h A' c' w' h2 h3 h4
end
end Go.Proofs.Ytlijfnekopjogaa
