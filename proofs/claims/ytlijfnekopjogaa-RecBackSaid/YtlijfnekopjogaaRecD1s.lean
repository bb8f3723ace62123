/- RecD1s: joined out of RecD1, RecRowS. -/
import Derived.Test.YtlijfnekopjogaaRecEncs
import Derived.Test.YtlijfnekopjogaaRecR10
/- Decode's parts: whole records stored and answered; no list that is decoded is long. -/
namespace Go.Proofs.Ytlijfnekopjogaa
open Go Go.RowKit Mem Rc
set_option maxRecDepth 100000
set_option linter.unusedVariables false
set_option linter.unusedSimpArgs false

theorem blk_setCells {g : Nat} {t : TypeId} : ∀ (vs : List Value) (o : Nat) (w : World) (cs : Array Value), Blk w g t cs → Blk (w.setCells g o vs) g t (setMany cs o vs)
  | [], _, _, _, h => h
  | v :: vs, o, w, cs, h => blk_setCells vs (o + 1) _ _ (h.put o v)
theorem fr_setCells {g : Nat} : ∀ (vs : List Value) (o : Nat) (w w0 : World), Fr (fun k => k = g) w0 w → Fr (fun k => k = g) w0 (w.setCells g o vs)
  | [], _, _, _, h => h
  | v :: vs, o, w, w0, h => fr_setCells vs (o + 1) _ w0 (h.setCell _ _ (fun _ => rfl))
theorem size_setCells {g : Nat} : ∀ (vs : List Value) (o : Nat) (w : World), (w.setCells g o vs).heap.size = w.heap.size
  | [], _, _ => rfl
  | v :: vs, o, w => by rw [World.setCells, size_setCells vs, setCell_size']
theorem setMany_all (cs : Array Value) (d : List Value) (h : d.length = cs.size) : setMany cs 0 d = d.toArray := by
  have e := setMany_mid d cs.toList [] [] (by rw [Array.length_toList]; exact h)
  simp only [List.nil_append, List.append_nil, List.length_nil] at e
  exact e
theorem wpList_store_rec {ops : Array Oper} {rest : List Oper} {op : Oper} {a : Act} {w : World} {Q : Exit → Act → World → Prop} {g : Nat} {cs : Array Value} (y : MD) (hg : op.guard = none) (p v : Operand) (ho : op.op = .store 30 p v)
    (hx : a.eval p = .pointer (some ⟨g, 0, none⟩)) (hy : a.eval v = mVal y) (hb : Blk w g 30 cs) (hs : cs.size = 16)
    (h : ∀ w', Blk w' g 30 (mCells y) → Fr (fun k => k = g) w w' → w'.heap.size = w.heap.size → wpList Try.prog ops Q rest (a.put op.dst undef) w') : wpList Try.prog ops Q (op :: rest) a w := by
  refine wpList_store_mid hg 30 p v ho g 0 (mCells y) hx hy (fun j hj => ?_) rfl (by simp [Value.oneCell']) (h _ ?_ (fr_setCells _ _ _ _ (Fr.refl _ _)) (size_setCells _ _ _))
  · have hj : j < 16 := hj
    rw [hb.cell, Array.getElem?_eq_getElem (by omega)]
    exact ⟨rfl, hb.free _⟩
  · have e := blk_setCells (mCells y).toList 0 w cs hb
    rw [setMany_all cs (mCells y).toList (by rw [hs]; rfl)] at e
    exact e
theorem wpList_load_rec' {ops : Array Oper} {rest : List Oper} {op : Oper} {a : Act} {w : World} {Q : Exit → Act → World → Prop} {b : Nat} {x : MD} (p : Operand) (ho : op.op = .load 30 p) (hw : Region.wanted op (yielded ops a.tmps) = true)
    (hx : a.eval p = .pointer (some ⟨b, 0, none⟩)) (hc : Blk w b 30 (mCells x)) (h : wpList Try.prog ops Q rest (a.put op.dst (mVal x)) w) : wpList Try.prog ops Q (op :: rest) a w := by
  unfold wpList
  rw [if_pos hw]
  refine .inl ?_
  unfold Oper.wp execOp
  simp only [ho, hx, Sem.run_bind, rec_load hc, Result.andThen_ok, Sem.run_pure]
  exact h
theorem rec_loadVar {W : World} {b : Nat} {x : MD} (h : Blk W b 30 (mCells x)) : (loadVar 30 ⟨b, 0, none⟩).run Try.prog W = .ok (mVal x) W :=
  run_loadVar_mid W b 0 30 (mCells x).toList _ (fun j v hv => by
    rw [Nat.zero_add]
    have e := h.cell j
    rw [show (mCells x)[j]? = (mCells x).toList[j]? from (Array.getElem?_toList ..).symm, hv] at e
    exact e) rfl rfl rfl
theorem dec_results {W : World} {g : Nat} {x : MD} {tmps : Array Value} {v : Value} (hb : Blk W g 30 (mCells x)) (h2 : tmps.getD 2 undef = .pointer (some ⟨g, 0, none⟩)) (h3 : tmps.getD 3 undef = v) :
    (results Try.f17 tmps).run Try.prog W = .ok (.tuple #[mVal x, v]) W := by
  have hl := rec_loadVar hb
  generalize mVal x = X at *
  simp only [Array.getD_eq_getD_getElem?] at h2 h3
  simp [results, Try.results17, h2, h3, asAddr, hl]
/-- no list is long -/
structure SmM (m : M) : Prop where
  mem : m.mem.length ≤ 256
  locks : m.locks.length ≤ 256
  rows : m.rows.length ≤ 256
  dirty : m.dirty.length ≤ 256
  deeds : m.deeds.length ≤ 256
  past : m.past.length ≤ 256
  row : ∀ y ∈ m.rows, y.mem.length ≤ 256 ∧ y.locks.length ≤ 256
  deed : ∀ y ∈ m.deeds, y.mem.length ≤ 256
theorem list_len {α : Type} (A : Cd.Cod α) (r : Sl.R) : ((Cd.list A 256 (by decide)).dec r).1.length ≤ 256 := by
  show (Cd.many A (Cd.next r 256) (Cd.one r 256).toNat).1.length ≤ 256
  rw [Cd.many_length]
  have := Cd.one_bound r 256 (by omega) (by omega)
  omega
theorem many_all {α : Type} (A : Cd.Cod α) (P : α → Prop) (h : ∀ r, P (A.dec r).1) (r : Sl.R) : ∀ k, ∀ a ∈ (Cd.many A r k).1, P a
  | 0, a, ha => by simp [Cd.many] at ha
  | k + 1, a, ha => by
    rw [Cd.many, List.mem_append] at ha
    rcases ha with ha | ha
    · exact many_all A P h r k a ha
    · rw [List.mem_singleton] at ha
      rw [ha]
      exact h _
theorem list_all {α : Type} (A : Cd.Cod α) (P : α → Prop) (h : ∀ r, P (A.dec r).1) (r : Sl.R) : ∀ a ∈ ((Cd.list A 256 (by decide)).dec r).1, P a := many_all A P h _ _
theorem ic_len (r : Sl.R) : (iC.dec r).1.length ≤ 256 := by unfold iC; exact list_len _ _
theorem ls_len (r : Sl.R) : (lsC.dec r).1.length ≤ 256 := by unfold lsC; exact list_len _ _
theorem rws_len (r : Sl.R) : (rwsC.dec r).1.length ≤ 256 := by unfold rwsC; exact list_len _ _
theorem ds_len (r : Sl.R) : (dsC.dec r).1.length ≤ 256 := by unfold dsC; exact list_len _ _
theorem des_len (r : Sl.R) : (desC.dec r).1.length ≤ 256 := by unfold desC; exact list_len _ _
theorem rw_len (r : Sl.R) : (rwC.dec r).1.mem.length ≤ 256 ∧ (rwC.dec r).1.locks.length ≤ 256 := by
  rw [rw_dec]
  dsimp only
  exact ⟨ic_len _, ls_len _⟩
theorem de_len (r : Sl.R) : (deC.dec r).1.mem.length ≤ 256 := by
  unfold deC
  rw [as_dec]
  simp only [pair_dec]
  exact ic_len _
theorem rws_all (r : Sl.R) : ∀ y ∈ (rwsC.dec r).1, y.mem.length ≤ 256 ∧ y.locks.length ≤ 256 := by
  unfold rwsC
  intro y hy
  exact list_all rwC (fun y => y.mem.length ≤ 256 ∧ y.locks.length ≤ 256) (fun r => rw_len r) r y hy
theorem des_all (r : Sl.R) : ∀ y ∈ (desC.dec r).1, y.mem.length ≤ 256 := by
  unfold desC
  intro y hy
  exact list_all deC (fun y => y.mem.length ≤ 256) (fun r => de_len r) r y hy
theorem smm0 (k : Int) : SmM { M.zero with kind := k } := ⟨Nat.zero_le _, Nat.zero_le _, Nat.zero_le _, Nat.zero_le _, Nat.zero_le _, Nat.zero_le _, fun y hy => absurd hy (by simp [M.zero]), fun y hy => absurd hy (by simp [M.zero])⟩
theorem smm_dec (k : Int) (hk : Rc.kindOk k = true ∨ k = 0) (r : Sl.R) : SmM ((fC k).dec r).1 := by
  have z := smm0 k
  have hz : ∀ {m : M}, m.mem = [] → m.locks = [] → m.rows = [] → m.dirty = [] → m.deeds = [] → m.past = [] → SmM m := fun {m} h1 h2 h3 h4 h5 h6 =>
    ⟨by rw [h1]; exact Nat.zero_le _, by rw [h2]; exact Nat.zero_le _, by rw [h3]; exact Nat.zero_le _, by rw [h4]; exact Nat.zero_le _, by rw [h5]; exact Nat.zero_le _, by rw [h6]; exact Nat.zero_le _, (by rw [h3]; intro y hy; cases hy), (by rw [h5]; intro y hy; cases hy)⟩
  rcases hk with hk | rfl
  · rcases kind_cases hk with rfl | rfl | rfl | rfl | rfl | rfl | rfl | rfl | rfl | rfl
    · exact hz rfl rfl rfl rfl rfl rfl
    · exact hz rfl rfl rfl rfl rfl rfl
    · rw [show fC 3 = prepC from rfl]
      unfold prepC
      rw [as_dec]
      simp only [pair_dec]
      exact ⟨ic_len _, ls_len _, Nat.zero_le _, Nat.zero_le _, Nat.zero_le _, Nat.zero_le _, fun y hy => absurd hy (by simp [M.zero]), fun y hy => absurd hy (by simp [M.zero])⟩
    · exact hz rfl rfl rfl rfl rfl rfl
    · exact hz rfl rfl rfl rfl rfl rfl
    · exact hz rfl rfl rfl rfl rfl rfl
    · exact hz rfl rfl rfl rfl rfl rfl
    · rw [show fC 8 = chkC from rfl]
      unfold chkC
      rw [as_dec]
      simp only [pair_dec]
      exact ⟨Nat.zero_le _, Nat.zero_le _, rws_len _, ds_len _, des_len _, ic_len _, rws_all _, des_all _⟩
    · rw [show fC 9 = decC from rfl]
      unfold decC
      rw [as_dec]
      simp only [pair_dec]
      exact ⟨ic_len _, Nat.zero_le _, Nat.zero_le _, Nat.zero_le _, Nat.zero_le _, Nat.zero_le _, fun y hy => absurd hy (by simp [M.zero]), fun y hy => absurd hy (by simp [M.zero])⟩
    · exact hz rfl rfl rfl rfl rfl rfl
  · exact hz rfl rfl rfl rfl rfl rfl
theorem small_of {x : MD} (h : SmM x.m) : Small x := by
  have h1 : x.mem.length ≤ 256 := h.mem
  have h2 : x.locks.length ≤ 256 := h.locks
  have h3 : x.rows.length ≤ 256 := by have := h.rows; rwa [show x.m.rows.length = x.rows.length from List.length_map _] at this
  have h4 : x.dirty.length ≤ 256 := h.dirty
  have h5 : x.deeds.length ≤ 256 := by have := h.deeds; rwa [show x.m.deeds.length = x.deeds.length from List.length_map _] at this
  have h6 : x.past.length ≤ 256 := h.past
  refine ⟨by omega, by omega, by omega, by omega, by omega, by omega, fun k hk => ?_, fun k hk => ?_⟩
  · have := all_getD (P := fun y : RwD => y.r.mem.length ≤ 256 ∧ y.r.locks.length ≤ 256) (fun a ha => h.row a.r (List.mem_map_of_mem ha)) RwD.zero k hk
    exact ⟨by omega, by omega⟩
  · have := all_getD (P := fun y : DeD => y.d.mem.length ≤ 256) (fun a ha => h.deed a.d (List.mem_map_of_mem ha)) DeD.zero k hk
    omega
theorem cr_fields_any (k : Int) (hk : Rc.kindOk k = true ∨ k = 0) (q : Nat) (r : Sl.R) (F : Nat → Prop) (rb : Nat) (w : World) (hr : RdAt w q r F) (hbl : Blk w rb 30 (mCells (MD.k0 k))) (hn : ¬ F rb) (hl : r.b.length ≤ 140737488351232) :
    Calls Try.prog 46 #[cr q, .pointer (some ⟨rb, 0, none⟩)] w (FdTo w F q rb ((fC k).dec r).1 ((fC k).dec r).2) := by
  rcases hk with hk | rfl
  · rcases kind_cases hk with rfl | rfl | rfl | rfl | rfl | rfl | rfl | rfl | rfl | rfl
    · exact cr_fields1 q r F rb w hr hbl hn hl
    · exact cr_fields2 q r F rb w hr hbl hn hl
    · exact cr_fields3 q r F rb w hr hbl hn hl
    · exact cr_fields4 q r F rb w hr hbl hn hl
    · exact cr_fields5 q r F rb w hr hbl hn hl
    · exact cr_fields6 q r F rb w hr hbl hn hl
    · exact cr_fields7 q r F rb w hr hbl hn hl
    · exact cr_fields8 q r F rb w hr hbl hn hl
    · exact cr_fields9 q r F rb w hr hbl hn hl
    · exact cr_fields10 q r F rb w hr hbl hn hl
  · exact cr_fields0 q r F rb w hr hbl hn hl
end Go.Proofs.Ytlijfnekopjogaa

/- Whole rows of a checkpoint stored and loaded as one step. -/
namespace Go.Proofs.Ytlijfnekopjogaa
open Go Go.RowKit Mem Rc
set_option maxRecDepth 100000
set_option linter.unusedVariables false
set_option linter.unusedSimpArgs false

theorem row_load {W : World} {b o : Nat} {x : RwD} (h : ∀ j v, (rwCells x)[j]? = some v → W.cell? ⟨b, o + j, none⟩ = some v) : (Instr.loadAt 52 (.pointer (some ⟨b, o, none⟩))).run Try.prog W = .ok (rwVal x) W :=
  run_loadAt_mid W b o 52 (rwCells x).toList _ (fun j v hv => by
    refine h j v ?_
    rw [show (rwCells x)[j]? = (rwCells x).toList[j]? from (Array.getElem?_toList ..).symm, hv]) rfl rfl rfl
theorem wpList_load_row' {ops : Array Oper} {rest : List Oper} {op : Oper} {a : Act} {w : World} {Q : Exit → Act → World → Prop} {b : Nat} {x : RwD} (p : Operand) (ho : op.op = .load 52 p) (hw : Region.wanted op (yielded ops a.tmps) = true)
    (hx : a.eval p = .pointer (some ⟨b, 0, none⟩)) (hc : Blk w b 52 (rwCells x)) (h : wpList Try.prog ops Q rest (a.put op.dst (rwVal x)) w) : wpList Try.prog ops Q (op :: rest) a w := by
  unfold wpList
  rw [if_pos hw]
  refine .inl ?_
  unfold Oper.wp execOp
  have hl := row_load (W := w) (b := b) (o := 0) (x := x) (fun j v hv => by rw [Nat.zero_add, hc.cell j, hv])
  simp only [ho, hx, Sem.run_bind, hl, Result.andThen_ok, Sem.run_pure]
  exact h
theorem wpList_store_row {ops : Array Oper} {rest : List Oper} {op : Oper} {a : Act} {w : World} {Q : Exit → Act → World → Prop} {g : Nat} {cs : Array Value} (y : RwD) (hg : op.guard = none) (p v : Operand) (ho : op.op = .store 52 p v)
    (hx : a.eval p = .pointer (some ⟨g, 0, none⟩)) (hy : a.eval v = rwVal y) (hb : Blk w g 52 cs) (hs : cs.size = 8)
    (h : ∀ w', Blk w' g 52 (rwCells y) → Fr (fun k => k = g) w w' → w'.heap.size = w.heap.size → wpList Try.prog ops Q rest (a.put op.dst undef) w') : wpList Try.prog ops Q (op :: rest) a w := by
  refine wpList_store_mid hg 52 p v ho g 0 (rwCells y) hx hy (fun j hj => ?_) rfl (by simp [Value.oneCell']) (h _ ?_ (fr_setCells _ _ _ _ (Fr.refl _ _)) (size_setCells _ _ _))
  · have hj : j < 8 := hj
    rw [hb.cell, Array.getElem?_eq_getElem (by omega)]
    exact ⟨rfl, hb.free _⟩
  · have e := blk_setCells (rwCells y).toList 0 w cs hb
    rw [setMany_all cs (rwCells y).toList (by rw [hs]; rfl)] at e
    exact e
end Go.Proofs.Ytlijfnekopjogaa
