/- Slices of ints: append onto an empty one, at a step of a drawn region. -/
import Derived.Test.YtfcmlfcpgboigaaInts
import Derived.Test.YtfcmlfcpgboigaaSteps
import Derived.Test.YtfcmlfcpgboigaaRows
import Derived.IntWalk
import Derived.RegionTactic
import Derived.ChangeAlike
import Derived.Deep.DrawnRows
import Derived.Deep.RegionLaw
import Derived.Deep.DeepCutAuto
import Derived.Deep.RegionHeld3
import Derived.Deep.DeepMust
namespace Go.Proofs.Ytfcmlfcpgboigaa.Mem
open Go Go.RowKit
def i64s (ks : List Int) : List Value := ks.map (Value.int .i64)
theorem i64s_length (ks : List Int) : (i64s ks).length = ks.length := by simp [i64s]
theorem i64s_get (ks : List Int) (j : Nat) : (i64s ks)[j]? = ks[j]?.map (Value.int .i64) := by simp [i64s]
theorem i64s_one (ks : List Int) : ∀ u ∈ i64s ks, u.oneCell' = true := by
  intro u hu
  simp only [i64s, List.mem_map] at hu
  obtain ⟨b, _, rfl⟩ := hu
  rfl
theorem IS.of_own {w : World} {base e n c : Nat} {A : Option Addr} {ks : List Int} (h : w.ownsRow base e 1 (.slice A n c) n (i64s ks)) : IS w A n ks := by
  have hl : ks.length = n := by have := h.1; rw [i64s_length] at this; omega
  refine ⟨hl, fun hn => ?_⟩
  obtain ⟨g, cap, hv, _, hlt⟩ := h.form hn
  have hA : A = some ⟨g, 0, none⟩ := by injection hv
  subst hA
  refine ⟨g, 0, rfl, hlt, fun j hj => ?_⟩
  have := h.cells (g := g) rfl j (.int .i64 (ks.getD j 0)) (by rw [i64s_get]; simp [List.getD_eq_getElem?_getD, hj])
  have hadd : (⟨g, 0, none⟩ : Addr).add j = ⟨g, 0 + j, none⟩ := by unfold Addr.add; split <;> simp_all
  rwa [hadd] at this
section
variable {P : Program} (w : World)
theorem run_append_is (base : Nat) (t ty e : TypeId) (i : TypeInfo) (ht : P.underlying t = some (.slice e)) (hi : P.info? e = some i) (hz : i.zero = some (.int .i64 0))
    (hsize : i.size = 1) (hby : i.bytes = 8)
    (v : Value) (n : Nat) (xs : List Value) (hown : w.ownsRow base e 1 v n xs)
    (A : Option Addr) (m c : Nat) (ks : List Int) (hr : IS w A m ks)
    (hbytes : n + m ≤ 1000000000) (hbase : base ≤ w.heap.size) :
    ∃ v' w', (Builtin.append_ #[t, t] ty #[v, .slice A m c]).run P w = .ok v' w' ∧ w'.ownsRow base e 1 v' (n + m) (xs ++ i64s ks) ∧ w.grownBy w' v.ownBlock ∧
      (v'.ownBlock = v.ownBlock ∨ v'.ownBlock = some w.heap.size) := by
  have h63 : n + m ≤ maxLen := by unfold maxLen; omega
  rcases A with _ | ad
  · have hm : m = 0 := by
      rcases Nat.eq_zero_or_pos m with h0 | h0
      · exact h0
      · obtain ⟨_, _, h, _⟩ := hr.2 h0
        cases h
    subst hm
    have hn : ks = [] := List.eq_nil_of_length_eq_zero hr.1
    subst hn
    refine ⟨v, w, ?_, by simpa [i64s] using hown, World.grownBy.refl w _, .inl rfl⟩
    rcases hown.2 with ⟨rfl, rfl⟩ | ⟨g, cap, cur, rfl, _, _, hnc, _⟩
    · simp [Builtin.append_, run_underlying ht, sizeOf, typeInfo, hi, Builtin.lenOf, Builtin.firstCells]
    · simp [Builtin.append_, run_underlying ht, sizeOf, typeInfo, hi, Builtin.lenOf, Builtin.firstCells, hnc, storeCells]
  · have hcells : ∀ j u, (i64s ks)[j]? = some u → w.cell? (ad.add j) = some u := by
      intro j u hu
      rw [i64s_get] at hu
      have hj : j < ks.length := by
        rcases Nat.lt_or_ge j ks.length with h | h
        · exact h
        · rw [List.getElem?_eq_none h] at hu; cases hu
      obtain ⟨b, off, h, _, hc⟩ := hr.2 (by have := hr.1; omega)
      injection h with h
      subst h
      have hadd : (⟨b, off, none⟩ : Addr).add j = ⟨b, off + j, none⟩ := by unfold Addr.add; split <;> simp_all
      rw [hadd, hc j hj]
      rw [List.getElem?_eq_getElem hj] at hu
      simp only [Option.map_some, Option.some.injEq] at hu
      rw [← hu, List.getD_eq_getElem?_getD, List.getElem?_eq_getElem hj]
      rfl
    obtain ⟨v', w', hrun, h2, h3, _, h5⟩ := run_append_own_at (P := P) w base t ty e i (.int .i64 0) 1 8 ht hi hz hsize hby rfl (by omega) v n xs hown ad m c (i64s ks) (by rw [i64s_length, hr.1]; omega) hcells (i64s_one ks) h63 (by omega) hbase
    exact ⟨v', w', hrun, h2, h3, h5⟩
theorem step_app_ints {w : World} {ops : Array Oper} {o : Oper} {a : Act} {K : Act → World → Prop} {Q : Exit → Act → World → Prop} {E : Prop} (hgd : o.guard = none) (s x : Operand) (t : TypeId)
    (ho : o.op = .call { callee := .builtin .append, args := #[s, x], argTypes := #[t, t] })
    (e : TypeId) (i : TypeInfo) (ht : P.underlying t = some (.slice e)) (hi : P.info? e = some i) (hz : i.zero = some (.int .i64 0)) (hsize : i.size = 1) (hby : i.bytes = 8)
    (h0 : Nat) (hs : a.eval s = .slice (some ⟨h0, 0, none⟩) 0 0) (hblk : w.heap[h0]? = some (.cells #[] e (0, 0)))
    (A : Option Addr) (m c : Nat) (ks : List Int) (hx : a.eval x = .slice A m c) (hr : IS w A m ks) (hm2 : m ≤ 1000000000)
    (h : ∀ A' c' w', w'.ownsRow h0 e 1 (.slice A' m c') m (i64s ks) → w.grownBy w' (some h0) → K (a.put o.dst (.slice A' m c')) w') :
    if Region.wanted o (yielded ops a.tmps) = true then Oper.wp P o a w K Q else E := by
  have hw : Region.wanted o (yielded ops a.tmps) = true := by simp [Region.wanted, hgd]
  rw [if_pos hw]
  have hown := own_empty hblk
  obtain ⟨v', w', hrun, h2, h3, h4⟩ := run_append_is (P := P) w h0 t o.type e i ht hi hz hsize hby _ 0 [] hown A m c ks hr (by omega) (Nat.le_of_lt (lt_of_block hblk))
  rw [Nat.zero_add, List.nil_append] at h2
  obtain ⟨A', c', rfl⟩ := own_slice h2
  unfold Oper.wp execOp
  simp only [ho, resolve, invoke, builtin, Sem.run_bind, Sem.run_pure, Result.andThen_ok, List.map_toArray, List.map_cons, List.map_nil, hs, hx, hrun]
  exact h A' c' w' h2 h3
end
end Go.Proofs.Ytfcmlfcpgboigaa.Mem
namespace Go.Proofs.Ytfcmlfcpgboigaa
open Go.RowKit Mem
set_option linter.unusedVariables false
set_option linter.unusedSimpArgs false
attribute [local go_sem ↓] Go.wp_at_zero Go.wp_at_succ
theorem cell_alloc_some' {w : World} {a : Addr} {v : Value} (o : Obj) (h : w.cell? a = some v) : (w.alloc o).cell? a = some v := (World.cell?_of_block (Below.heap_alloc w o a.block (World.block_lt_of_cell? w a h))).trans h
theorem far3 {w : World} {b r : Nat} (hne : b ≠ r) (u0 u1 u2 : Value) (o : Nat) : (((w.setCell ⟨r, 0, none⟩ u0).setCell ⟨r, 1, none⟩ u1).setCell ⟨r, 2, none⟩ u2).cell? ⟨b, o, none⟩ = w.cell? ⟨b, o, none⟩ := by
  refine World.cell?_of_block ?_
  show ((((w.setCell ⟨r, 0, none⟩ u0).setCell ⟨r, 1, none⟩ u1).setCell ⟨r, 2, none⟩ u2)).heap[b]? = w.heap[b]?
  rw [Below.heap_setCell _ _ _ b hne, Below.heap_setCell _ _ _ b hne, Below.heap_setCell _ _ _ b hne]
theorem oinfoI : (Try.prog.info? 3).map (fun i => (i.zero, i.size, i.bytes)) = some (some (.int .i64 0), 1, 8) := by kernel_rfl
end Go.Proofs.Ytfcmlfcpgboigaa
