/- Whole records and rows stored and loaded as one step. -/
import Derived.Test.YtlijfnekopjogaaRecEncs
import Derived.Test.YtlijfnekopjogaaRecRs
namespace Go.Proofs.Ytlijfnekopjogaa
open Go Go.RowKit Mem Rc
set_option maxRecDepth 100000
set_option linter.unusedVariables false
set_option linter.unusedSimpArgs false

theorem blk_setCells {g : Nat} {t : TypeId} : ∀ (vs : List Value) (o : Nat) (w : World) (cs : Array Value), Blk w g t cs → Blk (w.setCells g o vs) g t (setMany cs o vs)
  | [], _, _, _, h => h
  | v :: vs, o, w, cs, h => blk_setCells vs (o + 1) _ _ (h.put o v)
theorem fr_setCells {g : Nat} : ∀ (vs : List Value) (o : Nat) (w w0 : World), Fr (fun k => k = g) w0 w → Fr (fun k => k = g) w0 (w.setCells g o vs)
  | [], _, _, _, h => h
  | v :: vs, o, w, w0, h => fr_setCells vs (o + 1) _ w0 (h.setCell _ _ (fun _ => rfl))
theorem size_setCells {g : Nat} : ∀ (vs : List Value) (o : Nat) (w : World), (w.setCells g o vs).heap.size = w.heap.size
  | [], _, _ => rfl
  | v :: vs, o, w => by rw [World.setCells, size_setCells vs, setCell_size']
theorem setMany_all (cs : Array Value) (d : List Value) (h : d.length = cs.size) : setMany cs 0 d = d.toArray := by
  have e := setMany_mid d cs.toList [] [] (by rw [Array.length_toList]; exact h)
  simp only [List.nil_append, List.append_nil, List.length_nil] at e
  exact e
theorem wpList_store_rec {ops : Array Oper} {rest : List Oper} {op : Oper} {a : Act} {w : World} {Q : Exit → Act → World → Prop} {g : Nat} {cs : Array Value} (y : MD) (hg : op.guard = none) (p v : Operand) (ho : op.op = .store 30 p v)
    (hx : a.eval p = .pointer (some ⟨g, 0, none⟩)) (hy : a.eval v = mVal y) (hb : Blk w g 30 cs) (hs : cs.size = 16)
    (h : ∀ w', Blk w' g 30 (mCells y) → Fr (fun k => k = g) w w' → w'.heap.size = w.heap.size → wpList Try.prog ops Q rest (a.put op.dst undef) w') : wpList Try.prog ops Q (op :: rest) a w := by
  refine wpList_store_mid hg 30 p v ho g 0 (mCells y) hx hy (fun j hj => ?_) rfl (by simp [Value.oneCell']) (h _ ?_ (fr_setCells _ _ _ _ (Fr.refl _ _)) (size_setCells _ _ _))
  · have hj : j < 16 := hj
    rw [hb.cell, Array.getElem?_eq_getElem (by omega)]
    exact ⟨rfl, hb.free _⟩
  · have e := blk_setCells (mCells y).toList 0 w cs hb
    rw [setMany_all cs (mCells y).toList (by rw [hs]; rfl)] at e
    exact e
theorem wpList_load_rec' {ops : Array Oper} {rest : List Oper} {op : Oper} {a : Act} {w : World} {Q : Exit → Act → World → Prop} {b : Nat} {x : MD} (p : Operand) (ho : op.op = .load 30 p) (hw : Region.wanted op (yielded ops a.tmps) = true)
    (hx : a.eval p = .pointer (some ⟨b, 0, none⟩)) (hc : Blk w b 30 (mCells x)) (h : wpList Try.prog ops Q rest (a.put op.dst (mVal x)) w) : wpList Try.prog ops Q (op :: rest) a w := by
  unfold wpList
  rw [if_pos hw]
  refine .inl ?_
  unfold Oper.wp execOp
  simp only [ho, hx, Sem.run_bind, rec_load hc, Result.andThen_ok, Sem.run_pure]
  exact h
theorem rec_loadVar {W : World} {b : Nat} {x : MD} (h : Blk W b 30 (mCells x)) : (loadVar 30 ⟨b, 0, none⟩).run Try.prog W = .ok (mVal x) W :=
  run_loadVar_mid W b 0 30 (mCells x).toList _ (fun j v hv => by
    rw [Nat.zero_add]
    have e := h.cell j
    rw [show (mCells x)[j]? = (mCells x).toList[j]? from (Array.getElem?_toList ..).symm, hv] at e
    exact e) rfl rfl rfl
/-- the noughts of a record -/
abbrev zCells : Array Value := mCells (MD.k0 0)
end Go.Proofs.Ytlijfnekopjogaa
/- Whole rows of a checkpoint stored and loaded as one step. -/
namespace Go.Proofs.Ytlijfnekopjogaa
open Go Go.RowKit Mem Rc
set_option maxRecDepth 100000
set_option linter.unusedVariables false
set_option linter.unusedSimpArgs false

theorem row_load {W : World} {b o : Nat} {x : RwD} (h : ∀ j v, (rwCells x)[j]? = some v → W.cell? ⟨b, o + j, none⟩ = some v) : (Instr.loadAt 52 (.pointer (some ⟨b, o, none⟩))).run Try.prog W = .ok (rwVal x) W :=
  run_loadAt_mid W b o 52 (rwCells x).toList _ (fun j v hv => by
    refine h j v ?_
    rw [show (rwCells x)[j]? = (rwCells x).toList[j]? from (Array.getElem?_toList ..).symm, hv]) rfl rfl rfl
theorem wpList_load_row' {ops : Array Oper} {rest : List Oper} {op : Oper} {a : Act} {w : World} {Q : Exit → Act → World → Prop} {b : Nat} {x : RwD} (p : Operand) (ho : op.op = .load 52 p) (hw : Region.wanted op (yielded ops a.tmps) = true)
    (hx : a.eval p = .pointer (some ⟨b, 0, none⟩)) (hc : Blk w b 52 (rwCells x)) (h : wpList Try.prog ops Q rest (a.put op.dst (rwVal x)) w) : wpList Try.prog ops Q (op :: rest) a w := by
  unfold wpList
  rw [if_pos hw]
  refine .inl ?_
  unfold Oper.wp execOp
  have hl := row_load (W := w) (b := b) (o := 0) (x := x) (fun j v hv => by rw [Nat.zero_add, hc.cell j, hv])
  simp only [ho, hx, Sem.run_bind, hl, Result.andThen_ok, Sem.run_pure]
  exact h
theorem wpList_store_row {ops : Array Oper} {rest : List Oper} {op : Oper} {a : Act} {w : World} {Q : Exit → Act → World → Prop} {g : Nat} {cs : Array Value} (y : RwD) (hg : op.guard = none) (p v : Operand) (ho : op.op = .store 52 p v)
    (hx : a.eval p = .pointer (some ⟨g, 0, none⟩)) (hy : a.eval v = rwVal y) (hb : Blk w g 52 cs) (hs : cs.size = 8)
    (h : ∀ w', Blk w' g 52 (rwCells y) → Fr (fun k => k = g) w w' → w'.heap.size = w.heap.size → wpList Try.prog ops Q rest (a.put op.dst undef) w') : wpList Try.prog ops Q (op :: rest) a w := by
  refine wpList_store_mid hg 52 p v ho g 0 (rwCells y) hx hy (fun j hj => ?_) rfl (by simp [Value.oneCell']) (h _ ?_ (fr_setCells _ _ _ _ (Fr.refl _ _)) (size_setCells _ _ _))
  · have hj : j < 8 := hj
    rw [hb.cell, Array.getElem?_eq_getElem (by omega)]
    exact ⟨rfl, hb.free _⟩
  · have e := blk_setCells (rwCells y).toList 0 w cs hb
    rw [setMany_all cs (rwCells y).toList (by rw [hs]; rfl)] at e
    exact e
end Go.Proofs.Ytlijfnekopjogaa
