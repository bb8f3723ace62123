/- RecWs: joined out of RecW1, RecW2, RecW3, RecW4, RecW5, RecW6, RecW7. -/
import Derived.Test.YtlijfnekopjogaaRecVals
import Derived.Deep.MidRow
import Derived.Test.YtlijfnekopjogaaSealWrite
import Derived.StillTailTactics
import Derived.Test.YtlijfnekopjogaaSealRead2
import Derived.Deep.LoopGhost
import Derived.Test.YtlijfnekopjogaaRecMems
/- The coder writes: a number, a text, a flag, a value. -/
namespace Go.Proofs.Ytlijfnekopjogaa
open Go Go.RowKit Mem Rc
set_option maxRecDepth 100000
set_option linter.unusedVariables false
set_option linter.unusedSimpArgs false

/-- a coder that writes -/
abbrev cw (q : Nat) : Value := .agg #[.pointer (some ⟨q, 0, none⟩), .pointer none]
/-- the world behind the coder's own variable -/
structure CwW (w : World) (q : Nat) (W : World) : Prop where
  eq : w.alloc (.cells #[.pointer (some ⟨q, 0, none⟩), .pointer none] 73) = W
  below : Below w.heap.size w W
  c0 : W.drew.cell? ⟨w.heap.size, 0, none⟩ = some (.pointer (some ⟨q, 0, none⟩))
  c1 : W.drew.cell? ⟨w.heap.size, 1, none⟩ = some (.pointer none)
  size : W.heap.size = w.heap.size + 1
theorem cwW (w : World) (q : Nat) : ∃ W, CwW w q W :=
  ⟨_, rfl, (Below.refl _ _).alloc (Nat.le_refl _) _, (Blk.new w 73 #[.pointer (some ⟨q, 0, none⟩), .pointer none]).cell 0, (Blk.new w 73 #[.pointer (some ⟨q, 0, none⟩), .pointer none]).cell 1, by simp⟩
set_option maxHeartbeats 4000000 in
theorem cw_num (q : Nat) (bs : List UInt8) (F : Nat → Prop) (b i : Nat) (n : Int) (w : World) (hw : WrAt w q bs F) (hc : w.cell? ⟨b, i, none⟩ = some (.int .i64 n)) (hn : -9223372036854775808 ≤ n ∧ n ≤ 9223372036854775807) (hl : bs.length ≤ 140737488351232) :
    Calls Try.prog 92 #[cw q, .pointer (some ⟨b, i, none⟩)] w (WrTo w F q (bs ++ Sl.numB n)) := by
  obtain ⟨W, hW⟩ := cwW w q
  have e := hW.eq
  have c0 := hW.c0
  have c0' : W.cell? ⟨w.heap.size, 0, none⟩ = some (.pointer (some ⟨q, 0, none⟩)) := c0
  have hc2 : W.drew.cell? ⟨b, i, none⟩ = some (.int .i64 n) := cell_below hW.below.drew hc
  have HC := Lib.hid (wnum_any q bs F n W.drew hn (hw.below hW.below.drew) hl)
  have H := Lib.hid (And.intro hW.below.drew hw.bound)
  clear hw hn hl hc hW
  go_enter Try.func92, Try.ntmps92
  go_wp2_with fail
  go_still_tail 5, (by kernel_rfl)
  go_wp2_with fail
  refine HC.out.mono ?_
  intro e w2 h2
  have h3 := h2.1
  have H2 := Lib.hid h2
  clear h2
  subst h3
  go_wp2
  go_end0
  exact H2.out.mono H.out.1 H.out.2
set_option maxHeartbeats 4000000 in
theorem cw_text (q : Nat) (bs : List UInt8) (F : Nat → Prop) (b i : Nat) (k : ByteArray) (w : World) (hw : WrAt w q bs F) (hc : w.cell? ⟨b, i, none⟩ = some (.string k)) (hl : bs.length + k.size ≤ 140737488351232) :
    Calls Try.prog 82 #[cw q, .pointer (some ⟨b, i, none⟩)] w (WrTo w F q (bs ++ Sl.textB k.data.toList)) := by
  obtain ⟨W, hW⟩ := cwW w q
  have e := hW.eq
  have c0 := hW.c0
  have c0' : W.cell? ⟨w.heap.size, 0, none⟩ = some (.pointer (some ⟨q, 0, none⟩)) := c0
  have hc2 : W.drew.cell? ⟨b, i, none⟩ = some (.string k) := cell_below hW.below.drew hc
  have HC := Lib.hid (show Calls Try.prog 101 #[.pointer (some ⟨q, 0, none⟩), .string k] W.drew (WrTo W.drew F q (bs ++ Sl.textB k.data.toList)) from wtext_any q bs F k.data.toList W.drew (hw.below hW.below.drew) (by rw [Array.length_toList]; exact hl))
  have H := Lib.hid (And.intro hW.below.drew hw.bound)
  clear hw hl hc hW
  go_enter Try.func82, Try.ntmps82
  go_wp2_with fail
  go_still_tail 5, (by kernel_rfl)
  go_wp2_with fail
  refine HC.out.mono ?_
  intro e w2 h2
  have h3 := h2.1
  have H2 := Lib.hid h2
  clear h2
  subst h3
  go_wp2
  go_end0
  exact H2.out.mono H.out.1 H.out.2
set_option maxHeartbeats 4000000 in
theorem cw_flag (q : Nat) (bs : List UInt8) (F : Nat → Prop) (b i : Nat) (x : Bool) (w : World) (hw : WrAt w q bs F) (hc : w.cell? ⟨b, i, none⟩ = some (.bool x)) (hl : bs.length ≤ 140737488351232) :
    Calls Try.prog 103 #[cw q, .pointer (some ⟨b, i, none⟩)] w (WrTo w F q (bs ++ [if x then 1 else 0])) := by
  obtain ⟨W, hW⟩ := cwW w q
  have e := hW.eq
  have c0 := hW.c0
  have c0' : W.cell? ⟨w.heap.size, 0, none⟩ = some (.pointer (some ⟨q, 0, none⟩)) := c0
  have hc2 : W.drew.cell? ⟨b, i, none⟩ = some (.bool x) := cell_below hW.below.drew hc
  have HC := Lib.hid (wflag_any q bs F x W.drew (hw.below hW.below.drew) hl)
  have H := Lib.hid (And.intro hW.below.drew hw.bound)
  clear hw hl hc hW
  cases x
  all_goals
    go_enter Try.func103, Try.ntmps103
    go_wp2_with fail
    go_still_tail 5, (by kernel_rfl)
    go_wp2_with fail
    refine HC.out.mono ?_
    intro e w2 h2
    have h3 := h2.1
    have H2 := Lib.hid h2
    clear h2
    subst h3
    go_wp2
    go_end0
    exact H2.out.mono H.out.1 H.out.2
/-- the writer behind several steps -/
theorem WrTo.next {w w1 w' : World} {F F1 : Nat → Prop} {q : Nat} {bs bs1 : List UInt8} {e e' : Ending} (h1 : Fr F w w1 ∧ ∀ k, F1 k → F k ∨ w.heap.size ≤ k) (h : WrTo w1 F1 q bs1 e' w') : WrTo w F q bs1 e' w' := h.then_ h1.1 h1.2
theorem Fr.cell {F : Nat → Prop} {w w' : World} (h : Fr F w w') {b i : Nat} (hb : ¬ F b) {v : Value} (hc : w.cell? ⟨b, i, none⟩ = some v) : w'.cell? ⟨b, i, none⟩ = some v :=
  (World.cell?_of_block (h.block b (World.block_lt_of_cell? w _ hc) hb)).trans hc
set_option maxHeartbeats 4000000 in
theorem cw_value (q : Nat) (bs : List UInt8) (F : Nat → Prop) (b i : Nat) (v : V) (w : World) (hw : WrAt w q bs F) (hc : w.cell? ⟨b, i, none⟩ = some (.bool v.has)) (hd : w.cell? ⟨b, i + 1, none⟩ = some (.string v.data)) (hb : ¬ F b) (hf : vC.fine v) (hl : bs.length + 50 ≤ 140737488351232) :
    Calls Try.prog 83 #[cw q, .pointer (some ⟨b, i, none⟩)] w (WrTo w F q (bs ++ vC.enc v)) := by
  obtain ⟨W, hW⟩ := cwW w q
  have e := hW.eq
  have c0 := hW.c0
  have c1 := hW.c1
  have hlt : w.heap.size < W.heap.size := by rw [hW.size]; exact Nat.lt_succ_self _
  have hFw : ¬ F w.heap.size := fun h => Nat.lt_irrefl _ (hw.bound _ h)
  have HC := Lib.hid (cw_flag q bs F b i v.has W.drew (hw.below hW.below.drew) (cell_below hW.below.drew hc) (by omega))
  have HD := Lib.hid (And.intro (cell_below hW.below.drew hc) (And.intro (cell_below hW.below.drew hd) (And.intro hb (And.intro hFw hf))))
  have H := Lib.hid (And.intro hW.below.drew (And.intro hw.bound hl))
  have HE := Lib.hid (And.intro c0 c1)
  clear hw hl hc hd hb hf hFw hW
  go_enter Try.func83, Try.ntmps83
  go_wp2_with fail
  go_still_tail 4, (by kernel_rfl)
  go_wp2_with fail
  refine HC.out.mono ?_
  rintro e w2 ⟨rfl, F1, h1, h2, h3⟩
  have d0 := h2.cell HD.out.2.2.1 HD.out.1
  have d1 := h2.cell HD.out.2.2.1 HD.out.2.1
  have a0 : w2.drew.cell? ⟨w.heap.size, 0, none⟩ = some (.pointer (some ⟨q, 0, none⟩)) := h2.cell HD.out.2.2.2.1 HE.out.1
  have a1 : w2.drew.cell? ⟨w.heap.size, 1, none⟩ = some (.pointer none) := h2.cell HD.out.2.2.2.1 HE.out.2
  cases hv : v.has with
  | false =>
    rw [hv] at d0
    have H2 := Lib.hid (show WrTo W.drew F q (bs ++ vC.enc v) (.returned (.tuple #[])) w2 from ⟨rfl, F1, by
      rw [show vC.enc v = [0] by show Cd.optE tC (v.has, v.data) = [0]; rw [hv]; rfl]
      rw [hv] at h1
      exact h1, h2, h3⟩)
    clear h1 h2 h3 d1
    go_wp2
    go_end0
    exact H2.out.mono H.out.1 H.out.2.1
  | true =>
    rw [hv] at d0 h1
    have hvd : v.data.size ≤ 32 := by
      rcases HD.out.2.2.2.2 with x | x
      · exact x.2
      · have := hv.symm.trans x.1; cases this
    have HK := Lib.hid (cw_text q (bs ++ [if true then 1 else 0]) F1 b (i + 1) v.data w2.drew (h1.below (Below.refl _ _).drew) d1 (by rw [List.length_append]; have := H.out.2.2; simp only [List.length_cons, List.length_nil]; omega))
    have H2 := Lib.hid (And.intro h2 (And.intro h3 hv))
    clear h1 h2 h3 hvd hv
    go_wp2_with fail
    go_still_tail 4, (by kernel_rfl)
    go_wp2_with fail
    refine HK.out.mono ?_
    intro e w3 h4
    have h5 := h4.1
    have H4 := Lib.hid h4
    clear h4
    subst h5
    go_wp2
    go_end0
    have x := ((H4.out.then_ (H2.out.1.drew 1) (fun k hk => H2.out.2.1 k hk)).mono H.out.1 H.out.2.1)
    rw [show vC.enc v = [1] ++ Sl.textB v.data.data.toList by show Cd.optE tC (v.has, v.data) = _; rw [H2.out.2.2]; rfl, ← List.append_assoc]
    exact x
end Go.Proofs.Ytlijfnekopjogaa

/- The coder writes: numbers, one behind the other. -/
namespace Go.Proofs.Ytlijfnekopjogaa
open Go Go.RowKit Mem Rc
set_option maxRecDepth 100000
set_option linter.unusedVariables false
set_option linter.unusedSimpArgs false

theorem flatB_succ (l : List Int) (k : Nat) (h : k < l.length) : (l.take (k + 1)).flatMap Sl.numB = (l.take k).flatMap Sl.numB ++ Sl.numB (l.getD k 0) := by
  rw [List.take_succ_eq_append_getElem h, List.flatMap_append, List.getD_eq_getElem?_getD, List.getElem?_eq_getElem h]
  simp
theorem flatB_le : ∀ l : List Int, (l.flatMap Sl.numB).length ≤ 11 * l.length
  | [] => by simp
  | x :: l => by
    have h1 := (Sl.numB_length x).2
    have h2 := flatB_le l
    simp only [List.flatMap_cons, List.length_append, List.length_cons]
    omega
theorem flatB_take (l : List Int) (k : Nat) : ((l.take k).flatMap Sl.numB).length ≤ 11 * l.length := by
  have h1 := flatB_le (l.take k)
  have h2 : (l.take k).length ≤ l.length := List.length_take_le' _ _
  omega
abbrev nOk (n : Int) : Prop := -9223372036854775808 ≤ n ∧ n ≤ 9223372036854775807
/-- pointers in block g, to numbers in block b -/
structure Ptrs (w : World) (g b : Nat) (ps : List Nat) (vs : List Int) : Prop where
  len : ps.length = vs.length
  ptr : ∀ k, k < vs.length → w.cell? ⟨g, k, none⟩ = some (.pointer (some ⟨b, ps.getD k 0, none⟩))
  val : ∀ k, k < vs.length → w.cell? ⟨b, ps.getD k 0, none⟩ = some (.int .i64 (vs.getD k 0))
  ok : ∀ k, k < vs.length → nOk (vs.getD k 0)
set_option maxHeartbeats 4000000 in
theorem cw_nums (q : Nat) (bs : List UInt8) (F : Nat → Prop) (g b c : Nat) (ps : List Nat) (vs : List Int) (w : World) (hw : WrAt w q bs F) (hp : Ptrs w g b ps vs) (hg : ¬ F g) (hb : ¬ F b) (hv : vs.length ≤ 100) (hl : bs.length + 2000 ≤ 140737488351232) :
    Calls Try.prog 81 #[cw q, .slice (some ⟨g, 0, none⟩) vs.length c] w (WrTo w F q (bs ++ vs.flatMap Sl.numB)) := by
  obtain ⟨W, hW⟩ := cwW w q
  have e := hW.eq
  have hFw : ¬ F w.heap.size := fun h => Nat.lt_irrefl _ (hw.bound _ h)
  have H := Lib.hid (And.intro hW (And.intro hw.bound (And.intro hl (And.intro hp (And.intro hg (And.intro hb (And.intro hFw hv)))))))
  have h0 : WrTo W F q (bs ++ (vs.take 0).flatMap Sl.numB) (.returned (.tuple #[])) W := ⟨rfl, F, by simpa using hw.below hW.below, Fr.refl _ _, fun k hk => .inl hk⟩
  have H0 := Lib.hid h0
  obtain ⟨m, hm⟩ : ∃ m, vs.length = m := ⟨_, rfl⟩
  have HM := Lib.hid hm
  rw [hm]
  clear hw hl hW hp hg hb hFw hv h0 hm
  go_enter Try.func81, Try.ntmps81
  go_wp2_with fail
  go_loopg [5, 8] m (fun gk _ i wr => ∃ k : Nat, k ≤ m ∧ gk = m - k ∧ i = .int .i64 k ∧ WrTo W F q (bs ++ (vs.take k).flatMap Sl.numB) (.returned (.tuple #[])) wr)
  case atStart => exact ⟨0, by omega, by omega, rfl, H0.out⟩
  case round =>
    obtain ⟨k, hk, rfl, rfl, hst⟩ := hrel
    clear H0
    by_cases hlt : k < m
    · have hkv : k < vs.length := by rw [HM.out]; exact hlt
      obtain ⟨_, F1, h1, h2, h3⟩ := hst
      have c0 := h2.cell H.out.2.2.2.2.2.2.1 H.out.1.c0
      have c1 := h2.cell H.out.2.2.2.2.2.2.1 H.out.1.c1
      have c2 := h2.cell H.out.2.2.2.2.1 (cell_below H.out.1.below (H.out.2.2.2.1.ptr k hkv))
      have c3 := h2.cell H.out.2.2.2.2.2.1 (cell_below H.out.1.below (H.out.2.2.2.1.val k hkv))
      have hle := flatB_take vs k
      have HN := Lib.hid (cw_num q _ F1 b (ps.getD k 0) (vs.getD k 0) wr h1 c3 (H.out.2.2.2.1.ok k hkv) (by rw [List.length_append]; have := H.out.2.2.1; have := H.out.2.2.2.2.2.2.2; omega))
      have H2 := Lib.hid (And.intro h2 h3)
      clear h1 h2 h3 c3 hle
      generalize ps.getD k 0 = pk at *
      go_wp2_with fail
      refine HN.out.mono ?_
      intro e w2 h4
      have h5 := h4.1
      have H4 := Lib.hid h4
      clear h4
      subst h5
      go_wp2
      go_roundg (m - (k + 1))
      case rel =>
        have hmb : m ≤ 100 := by have h8 := H.out.2.2.2.2.2.2.2; have h9 := HM.out; omega
        refine ⟨k + 1, by omega, by omega, congrArg (Value.int .i64) (by unfold wrap64; omega), ?_⟩
        have x := H4.out.then_ H2.out.1 H2.out.2
        rw [flatB_succ vs k hkv, ← List.append_assoc]
        exact x
      case measure => omega
    · obtain rfl : k = m := by omega
      have H2 := Lib.hid hst
      clear hst
      go_wp2
      go_end0
      have x := H2.out.mono H.out.1.below H.out.2.1
      rw [← HM.out, List.take_length] at x
      exact x

theorem flat_iC (l : List Int) : iC.enc l = Sl.numB (l.length : Int) ++ l.flatMap Sl.numB := rfl
set_option maxHeartbeats 4000000 in
theorem ew_int (q : Nat) (bs : List UInt8) (F : Nat → Prop) (lb li : Nat) (A : Option Addr) (n c : Nat) (l : List Int) (w0 w : World) (hw : WrAt w q bs F) (h0 : Below w0.heap.size w0 w) (hF : ∀ k, F k → w0.heap.size ≤ k)
    (hc : w.cell? ⟨lb, li, none⟩ = some (.slice A n c)) (hlb : ¬ F lb) (hl : IS w0 A n l) (hn : n ≤ 1000) (hok : ∀ k, k < n → nOk (l.getD k 0)) (hb : bs.length + 20000 ≤ 140737488351232) :
    Calls Try.prog 104 #[cw q, .pointer (some ⟨lb, li, none⟩), .func (.func 92) #[cw q] #[]] w (WrTo w F q (bs ++ iC.enc l)) := by
  obtain ⟨W, hW⟩ := cwW w q
  have e := hW.eq
  have hFw : ¬ F w.heap.size := fun h => Nat.lt_irrefl _ (hw.bound _ h)
  have c0 : W.cell? ⟨w.heap.size, 0, none⟩ = some (.pointer (some ⟨q, 0, none⟩)) := hW.c0
  have d0 := cell_below hW.below hc
  have HN := Lib.hid (wnum_any q bs F (n : Int) W (by omega) (hw.below hW.below) (by omega))
  have H := Lib.hid (And.intro hW (And.intro hw.bound (And.intro hb (And.intro hl (And.intro hlb (And.intro hF (And.intro hFw (And.intro hok (And.intro hn (And.intro h0 d0))))))))))
  have hcf := enters Try.func92 (by decide) rfl
  clear hw h0 hF hc hlb hl hn hok hb hFw hW
  go_enter Try.func104, Try.ntmps104
  go_wp2_with fail
  refine HN.out.mono ?_
  intro e w1 h1
  have h2 := h1.1
  have H0 := Lib.hid h1
  clear h1
  subst h2
  go_wp2_with fail
  go_loopg [7, 31] n (fun gk _ i wr => ∃ k : Nat, k ≤ n ∧ gk = n - k ∧ i = .int .i64 k ∧ WrTo W F q (bs ++ Sl.numB (n : Int) ++ (l.take k).flatMap Sl.numB) (.returned (.tuple #[])) wr)
  case atStart => exact ⟨0, by omega, by omega, rfl, by simpa using H0.out⟩
  case round =>
    obtain ⟨k, hk, rfl, rfl, hst⟩ := hrel
    clear H0 HN
    by_cases hlt : k < n
    · obtain ⟨_, F1, h1, h2, h3⟩ := hst
      have d1 := h2.cell H.out.2.2.2.2.1 H.out.2.2.2.2.2.2.2.2.2.2
      have hb1 : Below w0.heap.size w0 wr := (H.out.2.2.2.2.2.2.2.2.2.1.trans (H.out.1.below.mono H.out.2.2.2.2.2.2.2.2.2.1.size)).trans (h2.below (Nat.le_trans H.out.2.2.2.2.2.2.2.2.2.1.size H.out.1.below.size) (fun k hk => H.out.2.2.2.2.2.1 k hk))
      obtain ⟨eb, off, rfl, e0⟩ := (H.out.2.2.2.1.below hb1).at_ hlt
      have hle := flatB_take l k
      have hln := (Sl.numB_length (n : Int)).2
      have HI := Lib.hid (cw_num q _ F1 eb (off + k) (l.getD k 0) wr h1 e0 (H.out.2.2.2.2.2.2.2.1 k hlt) (by
        rw [List.length_append, List.length_append]; have g1 := H.out.2.2.1; have g2 := H.out.2.2.2.2.2.2.2.2.1; have g3 := H.out.2.2.2.1.1; omega))
      have H2 := Lib.hid (And.intro h2 h3)
      clear h1 h2 h3 e0 hle hb1 hln
      go_wp2_with fail
      refine HI.out.mono ?_
      intro e w2 h4
      have h5 := h4.1
      have H4 := Lib.hid h4
      clear h4
      subst h5
      go_wp2
      go_roundg (n - (k + 1))
      case rel =>
        have hmb : n ≤ 1000 := H.out.2.2.2.2.2.2.2.2.1
        refine ⟨k + 1, by omega, by omega, congrArg (Value.int .i64) (by unfold wrap64; omega), ?_⟩
        have x := H4.out.then_ H2.out.1 H2.out.2
        rw [flatB_succ l k (by have := H.out.2.2.2.1.1; omega), ← List.append_assoc]
        exact x
      case measure => omega
    · obtain rfl : k = n := by omega
      have H2 := Lib.hid hst
      clear hst
      go_wp2
      go_end0
      have x := H2.out.mono H.out.1.below H.out.2.1
      rw [flat_iC, H.out.2.2.2.1.1, ← List.append_assoc]
      rw [← H.out.2.2.2.1.1, List.take_length] at x
      rw [H.out.2.2.2.1.1] at x
      exact x
end Go.Proofs.Ytlijfnekopjogaa

/- The coder writes: lists of numbers; a lock, a dirty page. -/
namespace Go.Proofs.Ytlijfnekopjogaa
open Go Go.RowKit Mem Rc
set_option maxRecDepth 100000
set_option linter.unusedVariables false
set_option linter.unusedSimpArgs false

set_option maxHeartbeats 4000000 in
theorem cw_ints (q : Nat) (bs : List UInt8) (F : Nat → Prop) (lb li : Nat) (A : Option Addr) (n c : Nat) (l : List Int) (w0 w : World) (hw : WrAt w q bs F) (h0 : Below w0.heap.size w0 w) (hF : ∀ k, F k → w0.heap.size ≤ k)
    (hc : w.cell? ⟨lb, li, none⟩ = some (.slice A n c)) (hlb : ¬ F lb) (hl : IS w0 A n l) (hn : n ≤ 1000) (hok : ∀ k, k < n → nOk (l.getD k 0)) (hb : bs.length + 20000 ≤ 140737488351232) :
    Calls Try.prog 84 #[cw q, .pointer (some ⟨lb, li, none⟩)] w (WrTo w F q (bs ++ iC.enc l)) := by
  obtain ⟨W, hW⟩ := cwW w q
  have e := hW.eq
  have c0 : W.cell? ⟨w.heap.size, 0, none⟩ = some (.pointer (some ⟨q, 0, none⟩)) := hW.c0
  have c1 : W.cell? ⟨w.heap.size, 1, none⟩ = some (.pointer none) := hW.c1
  have HC := Lib.hid (ew_int q bs F lb li A n c l w0 W (hw.below hW.below) (h0.trans (hW.below.mono h0.size)) hF (cell_below hW.below hc) hlb hl hn hok hb)
  have H := Lib.hid (And.intro hW.below hw.bound)
  clear hw h0 hF hc hlb hl hn hok hb hW
  go_enter Try.func84, Try.ntmps84
  go_wp2_with fail
  refine HC.out.mono ?_
  intro e w1 h1
  have h2 := h1.1
  have H1 := Lib.hid h1
  clear h1
  subst h2
  go_wp2
  go_end0
  exact H1.out.mono H.out.1 H.out.2
/-- the coder that a closure holds -/
structure CoW (w : World) (cb q : Nat) : Prop where
  c0 : w.cell? ⟨cb, 0, none⟩ = some (.pointer (some ⟨q, 0, none⟩))
  c1 : w.cell? ⟨cb, 1, none⟩ = some (.pointer none)
theorem CoW.fr {w w' : World} {cb q : Nat} {F : Nat → Prop} (h : CoW w cb q) (hf : Fr F w w') (hn : ¬ F cb) : CoW w' cb q := ⟨hf.cell hn h.c0, hf.cell hn h.c1⟩
theorem CoW.below {w w' : World} {cb q : Nat} (h : CoW w cb q) (hf : Below w.heap.size w w') : CoW w' cb q := ⟨cell_below hf h.c0, cell_below hf h.c1⟩
set_option maxHeartbeats 4000000 in
theorem cw_lock (q : Nat) (bs : List UInt8) (F : Nat → Prop) (b i cb : Nat) (x : L) (w : World) (hw : WrAt w q bs F) (hc : w.cell? ⟨b, i, none⟩ = some (.string x.key)) (hd : w.cell? ⟨b, i + 1, none⟩ = some (.bool x.x)) (hco : CoW w cb q)
    (hb : ¬ F b) (hcb : ¬ F cb) (hf : x.key.size ≤ 32) (hl : bs.length + 100 ≤ 140737488351232) :
    Calls Try.prog 106 #[.pointer (some ⟨b, i, none⟩), .pointer (some ⟨cb, 0, none⟩)] w (WrTo w F q (bs ++ lC.enc x)) := by
  have c0 : w.drew.cell? ⟨cb, 0, none⟩ = some (.pointer (some ⟨q, 0, none⟩)) := hco.c0
  have c1 : w.drew.cell? ⟨cb, 1, none⟩ = some (.pointer none) := hco.c1
  have HC := Lib.hid (cw_text q bs F b i x.key w.drew (hw.below (Below.refl _ _).drew) hc (by omega))
  have hle : (Sl.textB x.key.data.toList).length ≤ 43 := by
    have h1 := (Sl.numB_length (x.key.data.toList.length : Int)).2
    unfold Sl.textB
    rw [List.length_append]
    have h3 : x.key.data.toList.length ≤ 32 := by rw [Array.length_toList]; exact hf
    omega
  have H := Lib.hid (And.intro hd (And.intro hb (And.intro hcb (And.intro hl (And.intro hle (And.intro hw.bound hco))))))
  clear hw hc hd hco hb hcb hf hl hle
  go_enter Try.func106, Try.ntmps106
  go_wp2_with fail
  go_still_tail 4, (by kernel_rfl)
  go_wp2_with fail
  refine HC.out.mono ?_
  rintro e w2 ⟨rfl, F1, h1, h2, h3⟩
  have d1 := h2.cell H.out.2.1 H.out.1
  have hco := (H.out.2.2.2.2.2.2.below (Below.refl _ _).drew).fr h2 H.out.2.2.1
  have a0 : w2.drew.cell? ⟨cb, 0, none⟩ = some (.pointer (some ⟨q, 0, none⟩)) := hco.c0
  have a1 : w2.drew.cell? ⟨cb, 1, none⟩ = some (.pointer none) := hco.c1
  have HK := Lib.hid (cw_flag q (bs ++ Sl.textB x.key.data.toList) F1 b (i + 1) x.x w2.drew (h1.below (Below.refl _ _).drew) d1 (by rw [List.length_append]; have := H.out.2.2.2.1; have := H.out.2.2.2.2.1; omega))
  have H2 := Lib.hid (And.intro h2 h3)
  clear h1 h2 h3 d1 hco c0 c1
  go_wp2_with fail
  go_still_tail 4, (by kernel_rfl)
  go_wp2_with fail
  refine HK.out.mono ?_
  intro e w3 h4
  have h5 := h4.1
  have H4 := Lib.hid h4
  clear h4
  subst h5
  go_wp2
  go_end0
  have y := ((H4.out.then_ (H2.out.1.drew 1) (fun k hk => H2.out.2 k hk)).mono (Below.refl _ _).drew H.out.2.2.2.2.2.1)
  rw [show lC.enc x = Sl.textB x.key.data.toList ++ [if x.x then 1 else 0] from rfl, ← List.append_assoc]
  exact y
set_option maxHeartbeats 4000000 in
theorem cw_dirty (q : Nat) (bs : List UInt8) (F : Nat → Prop) (b i cb : Nat) (x : D) (w : World) (hw : WrAt w q bs F) (hc : w.cell? ⟨b, i, none⟩ = some (.int .i64 x.page)) (hd : w.cell? ⟨b, i + 1, none⟩ = some (.int .i64 x.rc)) (hco : CoW w cb q)
    (hb : ¬ F b) (hcb : ¬ F cb) (hf : nOk x.page ∧ nOk x.rc) (hl : bs.length + 5000 ≤ 140737488351232) :
    Calls Try.prog 89 #[.pointer (some ⟨b, i, none⟩), .pointer (some ⟨cb, 0, none⟩)] w (WrTo w F q (bs ++ dC.enc x)) := by
  have c0 : w.drew.cell? ⟨cb, 0, none⟩ = some (.pointer (some ⟨q, 0, none⟩)) := hco.c0
  have c1 : w.drew.cell? ⟨cb, 1, none⟩ = some (.pointer none) := hco.c1
  have hbW : Below w.heap.size w (w.alloc (.cells #[.pointer (some ⟨b, i, none⟩), .pointer (some ⟨b, i + 1, none⟩)] 117)).drew := ((Below.refl _ _).alloc (Nat.le_refl _) _).drew
  have hp : Ptrs (w.alloc (.cells #[.pointer (some ⟨b, i, none⟩), .pointer (some ⟨b, i + 1, none⟩)] 117)).drew w.heap.size b [i, i + 1] [x.page, x.rc] :=
    ⟨rfl, fun k hk => match k, hk with
      | 0, _ => (Blk.new w 117 #[.pointer (some ⟨b, i, none⟩), .pointer (some ⟨b, i + 1, none⟩)]).cell 0
      | 1, _ => (Blk.new w 117 #[.pointer (some ⟨b, i, none⟩), .pointer (some ⟨b, i + 1, none⟩)]).cell 1,
    fun k hk => match k, hk with
      | 0, _ => cell_below hbW hc
      | 1, _ => cell_below hbW hd,
    fun k hk => match k, hk with
      | 0, _ => hf.1
      | 1, _ => hf.2⟩
  have hFw : ¬ F w.heap.size := fun h => Nat.lt_irrefl _ (hw.bound _ h)
  have HC := Lib.hid (cw_nums q bs F w.heap.size b 2 [i, i + 1] [x.page, x.rc] (w.alloc (.cells #[.pointer (some ⟨b, i, none⟩), .pointer (some ⟨b, i + 1, none⟩)] 117)).drew (hw.below hbW) hp hFw hb (by simp) (by omega))
  have H := Lib.hid (And.intro hbW (And.intro hw.bound (And.intro hcb (hco.below hbW))))
  clear hw hc hd hco hb hcb hf hl hp hFw hbW
  go_enter Try.func89, Try.ntmps89
  go_wp2_with fail
  refine wp_region_held_drew (S := (fun w' => w'.cell? ⟨cb, 0, none⟩ = some (.pointer (some ⟨q, 0, none⟩)) ∧ w'.cell? ⟨cb, 1, none⟩ = some (.pointer none))) (by kernel_rfl) ⟨c0, c1⟩ (fun hHeld => ?_)
  refine tk 0 3 (v := cw q) (h := ?_)
  refine tk 1 4 (v := .pointer (some ⟨b, i, none⟩)) (h := ?_)
  refine tk 2 5 (v := .pointer (some ⟨b, i, none⟩)) (h := ?_)
  refine tk 3 6 (v := .pointer (some ⟨b, i, none⟩)) (h := ?_)
  refine tk 4 7 (v := .pointer (some ⟨b, i, none⟩)) (h := ?_)
  refine tk 5 8 (v := .pointer (some ⟨b, i, none⟩)) (h := ?_)
  refine tk 6 9 (v := .pointer (some ⟨b, i + 1, none⟩)) (h := ?_)
  refine wpAnyH_ready (rs := [7]) (by kernel_rfl) (by simp) ?_
  refine AllReadyH.cons rfl (fun K hK => ?_) AllReadyH.nil
  go_simp
  refine hK.out _ _ ⟨cell_alloc_some' _ c0, cell_alloc_some' _ c1⟩ (fun hHeld => ?_)
  clear hK K
  try simp only [Act.put, List.setIfInBounds_toArray, List.set_cons_zero, List.set_cons_succ]
  refine wpAnyH_ready (rs := [8]) (by kernel_rfl) (by simp) ?_
  refine AllReadyH.cons rfl (fun K hK => ?_) AllReadyH.nil
  go_simp
  refine HC.out.mono ?_
  intro e w2 h2
  have h3 := h2.1
  have H2 := Lib.hid h2
  clear h2
  subst h3
  refine hK.out _ _ ⟨H2.out.2.choose_spec.2.1.cell H.out.2.2.1 H.out.2.2.2.c0, H2.out.2.choose_spec.2.1.cell H.out.2.2.1 H.out.2.2.2.c1⟩ (fun hHeld => ?_)
  clear hK K
  try simp only [Act.put, List.setIfInBounds_toArray, List.set_cons_zero, List.set_cons_succ]
  refine wpAnyH_done (by kernel_rfl) ?_ _
  go_wp2
  go_end0
  have y := H2.out.mono H.out.1 H.out.2.1
  rw [show dC.enc x = [x.page, x.rc].flatMap Sl.numB by show Sl.numB x.page ++ Sl.numB x.rc = _; simp]
  exact y
end Go.Proofs.Ytlijfnekopjogaa

/- The coder writes: locks, dirty pages (printed by gen_each.py). -/
namespace Go.Proofs.Ytlijfnekopjogaa
open Go Go.RowKit Mem Rc
set_option maxRecDepth 100000
set_option linter.unusedVariables false
set_option linter.unusedSimpArgs false

theorem flatE_succ {α : Type} (E : α → List UInt8) (l : List α) (z : α) (k : Nat) (h : k < l.length) : (l.take (k + 1)).flatMap E = (l.take k).flatMap E ++ E (l.getD k z) := by
  rw [List.take_succ_eq_append_getElem h, List.flatMap_append, List.getD_eq_getElem?_getD, List.getElem?_eq_getElem h]
  simp
theorem flatE_le {α : Type} (m : Nat) (E : α → List UInt8) : ∀ l : List α, (∀ a ∈ l, (E a).length ≤ m) → (l.flatMap E).length ≤ m * l.length
  | [], _ => by simp
  | x :: l, h => by
    have h1 := h x (List.mem_cons_self ..)
    have h2 := flatE_le m E l (fun a ha => h a (List.mem_cons_of_mem _ ha))
    rw [List.flatMap_cons, List.length_append, List.length_cons, Nat.mul_succ]
    omega
theorem flatE_take {α : Type} (m : Nat) (E : α → List UInt8) (l : List α) (z : α) (k : Nat) (h : ∀ j, j < l.length → (E (l.getD j z)).length ≤ m) : ((l.take k).flatMap E).length ≤ m * l.length := by
  refine Nat.le_trans (flatE_le m E (l.take k) (fun a ha => ?_)) (Nat.mul_le_mul_left m (List.length_take_le' _ _))
  obtain ⟨j, hj, rfl⟩ := List.getElem_of_mem (List.mem_of_mem_take ha)
  have := h j hj
  rwa [List.getD_eq_getElem?_getD, List.getElem?_eq_getElem hj] at this
theorem num_le (n : Int) : (Sl.numB n).length ≤ 11 := (Sl.numB_length n).2
theorem len_lock {x : L} (h : x.key.size ≤ 32) : (lC.enc x).length ≤ 44 := by
  show (Sl.numB (x.key.data.toList.length : Int) ++ x.key.data.toList ++ [if x.x then 1 else 0]).length ≤ 44
  have h1 := num_le (x.key.data.toList.length : Int)
  have h3 : x.key.data.toList.length ≤ 32 := by rw [Array.length_toList]; exact h
  simp only [List.length_append, List.length_cons, List.length_nil]
  omega
theorem len_dirty {x : D} (h : nOk x.page ∧ nOk x.rc) : (dC.enc x).length ≤ 22 := by
  show (Sl.numB x.page ++ Sl.numB x.rc).length ≤ 22
  have h1 := num_le x.page
  have h2 := num_le x.rc
  rw [List.length_append]
  omega
structure Ewlock (w0 w W : World) (q : Nat) (bs : List UInt8) (F : Nat → Prop) (lb li : Nat) (cb : Nat) (A : Option Addr) (n c : Nat) (l : List L) : Prop where
  hW : CwW w q W
  bound : ∀ k, F k → k < w.heap.size
  hb : bs.length + 100000 ≤ 140737488351232
  hl : ST lockK w0 A n l
  hlb : ¬ F lb
  hF : ∀ k, F k → w0.heap.size ≤ k
  hFw : ¬ F w.heap.size
  ok : ∀ k, k < n → (fun x : L => x.key.size ≤ 32) (l.getD k L.zero)
  hn : n ≤ 1000
  h0 : Below w0.heap.size w0 W
  d0 : W.cell? ⟨lb, li, none⟩ = some (.slice A n c)
  co : CoW W cb q
  ncb : ¬ F cb
  cbl : cb < w.heap.size
set_option maxHeartbeats 4000000 in
theorem ew_lock (q : Nat) (bs : List UInt8) (F : Nat → Prop) (lb li : Nat) (cb : Nat) (A : Option Addr) (n c : Nat) (l : List L) (w0 w : World) (hw : WrAt w q bs F) (h0 : Below w0.heap.size w0 w) (hF : ∀ k, F k → w0.heap.size ≤ k)
    (hc : w.cell? ⟨lb, li, none⟩ = some (.slice A n c)) (hlb : ¬ F lb) (hl : ST lockK w0 A n l) (hn : n ≤ 1000) (hco : CoW w cb q) (hcb : ¬ F cb) (hok : ∀ k, k < n → (fun x : L => x.key.size ≤ 32) (l.getD k L.zero)) (hb : bs.length + 100000 ≤ 140737488351232) :
    Calls Try.prog 105 #[cw q, .pointer (some ⟨lb, li, none⟩), .func (.func 106) #[] #[.pointer (some ⟨cb, 0, none⟩)]] w (WrTo w F q (bs ++ (Sl.numB (n : Int) ++ l.flatMap (fun x : L => lC.enc x)))) := by
  obtain ⟨W, hW⟩ := cwW w q
  have e := hW.eq
  have hFw : ¬ F w.heap.size := fun h => Nat.lt_irrefl _ (hw.bound _ h)
  have c0 : W.cell? ⟨w.heap.size, 0, none⟩ = some (.pointer (some ⟨q, 0, none⟩)) := hW.c0
  have d0 := cell_below hW.below hc
  have HN := Lib.hid (wnum_any q bs F (n : Int) W (by omega) (hw.below hW.below) (by omega))
  have H := Lib.hid (Ewlock.mk hW hw.bound hb hl hlb hF hFw hok hn (h0.trans (hW.below.mono h0.size)) d0 (hco.below hW.below) hcb (World.block_lt_of_cell? w _ hco.c0))
  have hcf := enters Try.func106 (by decide) rfl
  clear hw h0 hF hc hlb hl hn hok hb hFw hW hco hcb
  go_enter Try.func105, Try.ntmps105
  go_wp2_with fail
  refine HN.out.mono ?_
  intro e w1 h1
  have h2 := h1.1
  have H0 := Lib.hid h1
  clear h1
  subst h2
  go_wp2_with fail
  go_loopg [7, 31] n (fun gk _ i wr => ∃ k : Nat, k ≤ n ∧ gk = n - k ∧ i = .int .i64 k ∧ WrTo W F q (bs ++ Sl.numB (n : Int) ++ (l.take k).flatMap (fun x : L => lC.enc x)) (.returned (.tuple #[])) wr)
  case atStart => exact ⟨0, by omega, by omega, rfl, by simpa using H0.out⟩
  case round =>
    obtain ⟨k, hk, rfl, rfl, hst⟩ := hrel
    clear H0 HN
    by_cases hlt : k < n
    · obtain ⟨_, F1, h1, h2, h3⟩ := hst
      have d1 := h2.cell H.out.hlb H.out.d0
      have hb1 : Below w0.heap.size w0 wr := H.out.h0.trans (h2.below H.out.h0.size (fun k hk => H.out.hF k hk))
      have hF1 : ∀ j, F1 j → w0.heap.size ≤ j := fun j hj => by
        rcases h3 j hj with y | y
        · exact H.out.hF j y
        · exact Nat.le_trans H.out.h0.size y
      obtain ⟨eb, off, rfl, elt, e0, e1⟩ := lock_at H.out.hl hlt
      have hnb : ¬ F1 eb := fun h => by have := hF1 eb h; omega
      have hco1 := H.out.co.fr h2 H.out.ncb
      have hncb : ¬ F1 cb := fun h => by
        rcases h3 cb h with y | y
        · exact H.out.ncb y
        · have g1 := H.out.cbl; have g2 := H.out.hW.size; omega
      have hle := flatE_take 44 (fun x : L => lC.enc x) l L.zero k (fun j hj => len_lock (H.out.ok j (by rw [← H.out.hl.len]; exact hj)))
      have hln := (Sl.numB_length (n : Int)).2
      have HI := Lib.hid (show Calls _ _ _ wr (WrTo wr F1 q (bs ++ Sl.numB (n : Int) ++ (l.take k).flatMap (fun x : L => lC.enc x) ++ (fun x : L => lC.enc x) (l.getD k L.zero))) from by
        have g1 := H.out.hb
        have g2 := H.out.hn
        have g3 := H.out.hl.len
        exact cw_lock q _ F1 eb (off + k * 2) cb (l.getD k L.zero) wr h1 (cell_below hb1 e0) (cell_below hb1 e1) hco1 hnb hncb (H.out.ok k hlt) (by rw [List.length_append, List.length_append]; omega))
      have H2 := Lib.hid (And.intro h2 h3)
      clear h1 h2 h3 e0 e1 hle hb1 hln hF1 hnb elt hco1 hncb
      go_wp2_with fail
      refine HI.out.mono ?_
      intro e w2 h4
      have h5 := h4.1
      have H4 := Lib.hid h4
      clear h4
      subst h5
      go_wp2
      go_roundg (n - (k + 1))
      case rel =>
        have hmb : n ≤ 1000 := H.out.hn
        refine ⟨k + 1, by omega, by omega, congrArg (Value.int .i64) (by unfold wrap64; omega), ?_⟩
        have x := H4.out.then_ H2.out.1 H2.out.2
        rw [flatE_succ (fun x : L => lC.enc x) l L.zero k (by rw [H.out.hl.len]; exact hlt), ← List.append_assoc]
        exact x
      case measure => omega
    · obtain rfl : k = n := by omega
      have H2 := Lib.hid hst
      clear hst
      go_wp2
      go_end0
      have x := H2.out.mono H.out.hW.below H.out.bound
      rw [List.take_of_length_le (by rw [H.out.hl.len]; exact Nat.le_refl _), List.append_assoc] at x
      exact x
structure Ewdirty (w0 w W : World) (q : Nat) (bs : List UInt8) (F : Nat → Prop) (lb li : Nat) (cb : Nat) (A : Option Addr) (n c : Nat) (l : List D) : Prop where
  hW : CwW w q W
  bound : ∀ k, F k → k < w.heap.size
  hb : bs.length + 100000 ≤ 140737488351232
  hl : ST dirtyK w0 A n l
  hlb : ¬ F lb
  hF : ∀ k, F k → w0.heap.size ≤ k
  hFw : ¬ F w.heap.size
  ok : ∀ k, k < n → (fun x : D => nOk x.page ∧ nOk x.rc) (l.getD k D.zero)
  hn : n ≤ 1000
  h0 : Below w0.heap.size w0 W
  d0 : W.cell? ⟨lb, li, none⟩ = some (.slice A n c)
  co : CoW W cb q
  ncb : ¬ F cb
  cbl : cb < w.heap.size
set_option maxHeartbeats 4000000 in
theorem ew_dirty (q : Nat) (bs : List UInt8) (F : Nat → Prop) (lb li : Nat) (cb : Nat) (A : Option Addr) (n c : Nat) (l : List D) (w0 w : World) (hw : WrAt w q bs F) (h0 : Below w0.heap.size w0 w) (hF : ∀ k, F k → w0.heap.size ≤ k)
    (hc : w.cell? ⟨lb, li, none⟩ = some (.slice A n c)) (hlb : ¬ F lb) (hl : ST dirtyK w0 A n l) (hn : n ≤ 1000) (hco : CoW w cb q) (hcb : ¬ F cb) (hok : ∀ k, k < n → (fun x : D => nOk x.page ∧ nOk x.rc) (l.getD k D.zero)) (hb : bs.length + 100000 ≤ 140737488351232) :
    Calls Try.prog 88 #[cw q, .pointer (some ⟨lb, li, none⟩), .func (.func 89) #[] #[.pointer (some ⟨cb, 0, none⟩)]] w (WrTo w F q (bs ++ (Sl.numB (n : Int) ++ l.flatMap (fun x : D => dC.enc x)))) := by
  obtain ⟨W, hW⟩ := cwW w q
  have e := hW.eq
  have hFw : ¬ F w.heap.size := fun h => Nat.lt_irrefl _ (hw.bound _ h)
  have c0 : W.cell? ⟨w.heap.size, 0, none⟩ = some (.pointer (some ⟨q, 0, none⟩)) := hW.c0
  have d0 := cell_below hW.below hc
  have HN := Lib.hid (wnum_any q bs F (n : Int) W (by omega) (hw.below hW.below) (by omega))
  have H := Lib.hid (Ewdirty.mk hW hw.bound hb hl hlb hF hFw hok hn (h0.trans (hW.below.mono h0.size)) d0 (hco.below hW.below) hcb (World.block_lt_of_cell? w _ hco.c0))
  have hcf := enters Try.func89 (by decide) rfl
  clear hw h0 hF hc hlb hl hn hok hb hFw hW hco hcb
  go_enter Try.func88, Try.ntmps88
  go_wp2_with fail
  refine HN.out.mono ?_
  intro e w1 h1
  have h2 := h1.1
  have H0 := Lib.hid h1
  clear h1
  subst h2
  go_wp2_with fail
  go_loopg [7, 31] n (fun gk _ i wr => ∃ k : Nat, k ≤ n ∧ gk = n - k ∧ i = .int .i64 k ∧ WrTo W F q (bs ++ Sl.numB (n : Int) ++ (l.take k).flatMap (fun x : D => dC.enc x)) (.returned (.tuple #[])) wr)
  case atStart => exact ⟨0, by omega, by omega, rfl, by simpa using H0.out⟩
  case round =>
    obtain ⟨k, hk, rfl, rfl, hst⟩ := hrel
    clear H0 HN
    by_cases hlt : k < n
    · obtain ⟨_, F1, h1, h2, h3⟩ := hst
      have d1 := h2.cell H.out.hlb H.out.d0
      have hb1 : Below w0.heap.size w0 wr := H.out.h0.trans (h2.below H.out.h0.size (fun k hk => H.out.hF k hk))
      have hF1 : ∀ j, F1 j → w0.heap.size ≤ j := fun j hj => by
        rcases h3 j hj with y | y
        · exact H.out.hF j y
        · exact Nat.le_trans H.out.h0.size y
      obtain ⟨eb, off, rfl, elt, e0, e1⟩ := dirty_at H.out.hl hlt
      have hnb : ¬ F1 eb := fun h => by have := hF1 eb h; omega
      have hco1 := H.out.co.fr h2 H.out.ncb
      have hncb : ¬ F1 cb := fun h => by
        rcases h3 cb h with y | y
        · exact H.out.ncb y
        · have g1 := H.out.cbl; have g2 := H.out.hW.size; omega
      have hle := flatE_take 22 (fun x : D => dC.enc x) l D.zero k (fun j hj => len_dirty (H.out.ok j (by rw [← H.out.hl.len]; exact hj)))
      have hln := (Sl.numB_length (n : Int)).2
      have HI := Lib.hid (show Calls _ _ _ wr (WrTo wr F1 q (bs ++ Sl.numB (n : Int) ++ (l.take k).flatMap (fun x : D => dC.enc x) ++ (fun x : D => dC.enc x) (l.getD k D.zero))) from by
        have g1 := H.out.hb
        have g2 := H.out.hn
        have g3 := H.out.hl.len
        exact cw_dirty q _ F1 eb (off + k * 2) cb (l.getD k D.zero) wr h1 (cell_below hb1 e0) (cell_below hb1 e1) hco1 hnb hncb (H.out.ok k hlt) (by rw [List.length_append, List.length_append]; omega))
      have H2 := Lib.hid (And.intro h2 h3)
      clear h1 h2 h3 e0 e1 hle hb1 hln hF1 hnb elt hco1 hncb
      go_wp2_with fail
      refine HI.out.mono ?_
      intro e w2 h4
      have h5 := h4.1
      have H4 := Lib.hid h4
      clear h4
      subst h5
      go_wp2
      go_roundg (n - (k + 1))
      case rel =>
        have hmb : n ≤ 1000 := H.out.hn
        refine ⟨k + 1, by omega, by omega, congrArg (Value.int .i64) (by unfold wrap64; omega), ?_⟩
        have x := H4.out.then_ H2.out.1 H2.out.2
        rw [flatE_succ (fun x : D => dC.enc x) l D.zero k (by rw [H.out.hl.len]; exact hlt), ← List.append_assoc]
        exact x
      case measure => omega
    · obtain rfl : k = n := by omega
      have H2 := Lib.hid hst
      clear hst
      go_wp2
      go_end0
      have x := H2.out.mono H.out.hW.below H.out.bound
      rw [List.take_of_length_le (by rw [H.out.hl.len]; exact Nat.le_refl _), List.append_assoc] at x
      exact x
theorem enc_lsC (l : List L) : lsC.enc l = Sl.numB (l.length : Int) ++ l.flatMap (fun x => lC.enc x) := rfl
set_option maxHeartbeats 4000000 in
theorem cw_locks (q : Nat) (bs : List UInt8) (F : Nat → Prop) (lb li : Nat) (A : Option Addr) (n c : Nat) (l : List L) (w0 w : World) (hw : WrAt w q bs F) (h0 : Below w0.heap.size w0 w) (hF : ∀ k, F k → w0.heap.size ≤ k)
    (hc : w.cell? ⟨lb, li, none⟩ = some (.slice A n c)) (hlb : ¬ F lb) (hl : ST lockK w0 A n l) (hn : n ≤ 1000) (hok : ∀ k, k < n → (l.getD k L.zero).key.size ≤ 32) (hb : bs.length + 100000 ≤ 140737488351232) :
    Calls Try.prog 85 #[cw q, .pointer (some ⟨lb, li, none⟩)] w (WrTo w F q (bs ++ lsC.enc l)) := by
  obtain ⟨W, hW⟩ := cwW w q
  have e := hW.eq
  have c0 : W.cell? ⟨w.heap.size, 0, none⟩ = some (.pointer (some ⟨q, 0, none⟩)) := hW.c0
  have c1 : W.cell? ⟨w.heap.size, 1, none⟩ = some (.pointer none) := hW.c1
  have hFw : ¬ F w.heap.size := fun h => Nat.lt_irrefl _ (hw.bound _ h)
  have HC := Lib.hid (ew_lock q bs F lb li w.heap.size A n c l w0 W (hw.below hW.below) (h0.trans (hW.below.mono h0.size)) hF (cell_below hW.below hc) hlb hl hn ⟨c0, c1⟩ hFw hok hb)
  have H := Lib.hid (And.intro hW.below (And.intro hw.bound hl.len))
  clear hw h0 hF hc hlb hl hn hok hb hW hFw
  go_enter Try.func85, Try.ntmps85
  go_wp2_with fail
  refine HC.out.mono ?_
  intro e w1 h1
  have h2 := h1.1
  have H1 := Lib.hid h1
  clear h1
  subst h2
  go_wp2
  go_end0
  rw [enc_lsC, H.out.2.2]
  exact H1.out.mono H.out.1 H.out.2.1
end Go.Proofs.Ytlijfnekopjogaa

/- The coder writes: deeds (printed by gen_each.py). -/
namespace Go.Proofs.Ytlijfnekopjogaa
open Go Go.RowKit Mem Rc
set_option maxRecDepth 100000
set_option linter.unusedVariables false
set_option linter.unusedSimpArgs false

structure DeF (x : De) : Prop where
  tx : nOk x.tx
  len : x.mem.length ≤ 8
  mem : ∀ k, k < x.mem.length → nOk (x.mem.getD k 0)
theorem len_ints {l : List Int} {m : Nat} (h : l.length ≤ m) : (iC.enc l).length ≤ 11 + 11 * m := by
  rw [flat_iC, List.length_append]
  have h1 := num_le (l.length : Int)
  have h2 := flatB_le l
  omega
theorem len_deed {x : DeD} (h : DeF x.d) : (deC.enc x.d).length ≤ 110 := by
  show (Sl.numB x.d.tx ++ iC.enc x.d.mem).length ≤ 110
  have h1 := num_le x.d.tx
  have h2 := len_ints h.len
  rw [List.length_append]
  omega
set_option maxHeartbeats 4000000 in
theorem cw_deed (q : Nat) (bs : List UInt8) (F : Nat → Prop) (b i cb : Nat) (x : DeD) (w0 w : World) (hw : WrAt w q bs F) (h0 : Below w0.heap.size w0 w) (hF : ∀ k, F k → w0.heap.size ≤ k) (hc : w.cell? ⟨b, i, none⟩ = some (.int .i64 x.d.tx)) (hd : w.cell? ⟨b, i + 1, none⟩ = some (.slice x.mA x.d.mem.length x.mc))
    (hok : DeedOk w0 x) (hco : CoW w cb q) (hb : ¬ F b) (hcb : ¬ F cb) (hf : DeF x.d) (hl : bs.length + 30000 ≤ 140737488351232) :
    Calls Try.prog 91 #[.pointer (some ⟨b, i, none⟩), .pointer (some ⟨cb, 0, none⟩)] w (WrTo w F q (bs ++ deC.enc x.d)) := by
  have c0 : w.drew.cell? ⟨cb, 0, none⟩ = some (.pointer (some ⟨q, 0, none⟩)) := hco.c0
  have c1 : w.drew.cell? ⟨cb, 1, none⟩ = some (.pointer none) := hco.c1
  have HC := Lib.hid (cw_num q bs F b i x.d.tx w.drew (hw.below (Below.refl _ _).drew) hc hf.tx (by omega))
  have H := Lib.hid (And.intro hd (And.intro hb (And.intro hcb (And.intro hl (And.intro hf (And.intro hw.bound (And.intro hco (And.intro h0 (And.intro hF hok)))))))))
  clear hw hc hd hco hb hcb hf hl h0 hF hok
  go_enter Try.func91, Try.ntmps91
  go_wp2_with fail
  go_still_tail 4, (by kernel_rfl)
  go_wp2_with fail
  refine HC.out.mono ?_
  rintro e w2 ⟨rfl, F1, h1, h2, h3⟩
  have d1 := h2.cell H.out.2.1 H.out.1
  have hco := (H.out.2.2.2.2.2.2.1.below (Below.refl _ _).drew).fr h2 H.out.2.2.1
  have a0 : w2.drew.cell? ⟨cb, 0, none⟩ = some (.pointer (some ⟨q, 0, none⟩)) := hco.c0
  have a1 : w2.drew.cell? ⟨cb, 1, none⟩ = some (.pointer none) := hco.c1
  have hln := num_le x.d.tx
  have hnb1 : ¬ F1 b := fun h => by
    rcases h3 b h with y | y
    · exact H.out.2.1 y
    · have := World.block_lt_of_cell? w _ H.out.1
      have y2 : w.heap.size ≤ b := y
      have y3 : b < w.heap.size := this
      omega
  have HK := Lib.hid (cw_ints q (bs ++ Sl.numB x.d.tx) F1 b (i + 1) x.mA x.d.mem.length x.mc x.d.mem w0 w2.drew (h1.below (Below.refl _ _).drew)
    (((H.out.2.2.2.2.2.2.2.1.trans ((Below.refl _ _).drew.mono H.out.2.2.2.2.2.2.2.1.size)).trans (h2.below H.out.2.2.2.2.2.2.2.1.size (fun k hk => H.out.2.2.2.2.2.2.2.2.1 k hk))).drew)
    (fun j hj => by
      rcases h3 j hj with y | y
      · exact H.out.2.2.2.2.2.2.2.2.1 j y
      · exact Nat.le_trans H.out.2.2.2.2.2.2.2.1.size y)
    d1 hnb1 H.out.2.2.2.2.2.2.2.2.2.mem (by have := H.out.2.2.2.2.1.len; omega) H.out.2.2.2.2.1.mem (by rw [List.length_append]; have := H.out.2.2.2.1; omega))
  have H2 := Lib.hid (And.intro h2 h3)
  clear h1 h2 h3 d1 hco c0 c1 hln hnb1
  go_wp2_with fail
  go_still_tail 4, (by kernel_rfl)
  go_wp2_with fail
  refine HK.out.mono ?_
  intro e w3 h4
  have h5 := h4.1
  have H4 := Lib.hid h4
  clear h4
  subst h5
  go_wp2
  go_end0
  have y := ((H4.out.then_ (H2.out.1.drew 1) (fun k hk => H2.out.2 k hk)).mono (Below.refl _ _).drew H.out.2.2.2.2.2.1)
  rw [show deC.enc x.d = Sl.numB x.d.tx ++ iC.enc x.d.mem from rfl, ← List.append_assoc]
  exact y
structure Ewdeed (w0 w W : World) (q : Nat) (bs : List UInt8) (F : Nat → Prop) (lb li : Nat) (cb : Nat) (A : Option Addr) (n c : Nat) (l : List DeD) : Prop where
  hW : CwW w q W
  bound : ∀ k, F k → k < w.heap.size
  hb : bs.length + 300000 ≤ 140737488351232
  hl : ST deedK w0 A n l
  hlb : ¬ F lb
  hF : ∀ k, F k → w0.heap.size ≤ k
  hFw : ¬ F w.heap.size
  ok : ∀ k, k < n → (fun x : DeD => DeF x.d) (l.getD k DeD.zero)
  hn : n ≤ 1000
  h0 : Below w0.heap.size w0 W
  d0 : W.cell? ⟨lb, li, none⟩ = some (.slice A n c)
  co : CoW W cb q
  ncb : ¬ F cb
  cbl : cb < w.heap.size
set_option maxHeartbeats 4000000 in
theorem ew_deed (q : Nat) (bs : List UInt8) (F : Nat → Prop) (lb li : Nat) (cb : Nat) (A : Option Addr) (n c : Nat) (l : List DeD) (w0 w : World) (hw : WrAt w q bs F) (h0 : Below w0.heap.size w0 w) (hF : ∀ k, F k → w0.heap.size ≤ k)
    (hc : w.cell? ⟨lb, li, none⟩ = some (.slice A n c)) (hlb : ¬ F lb) (hl : ST deedK w0 A n l) (hn : n ≤ 1000) (hco : CoW w cb q) (hcb : ¬ F cb) (hok : ∀ k, k < n → (fun x : DeD => DeF x.d) (l.getD k DeD.zero)) (hb : bs.length + 300000 ≤ 140737488351232) :
    Calls Try.prog 90 #[cw q, .pointer (some ⟨lb, li, none⟩), .func (.func 91) #[] #[.pointer (some ⟨cb, 0, none⟩)]] w (WrTo w F q (bs ++ (Sl.numB (n : Int) ++ l.flatMap (fun x : DeD => deC.enc x.d)))) := by
  obtain ⟨W, hW⟩ := cwW w q
  have e := hW.eq
  have hFw : ¬ F w.heap.size := fun h => Nat.lt_irrefl _ (hw.bound _ h)
  have c0 : W.cell? ⟨w.heap.size, 0, none⟩ = some (.pointer (some ⟨q, 0, none⟩)) := hW.c0
  have d0 := cell_below hW.below hc
  have HN := Lib.hid (wnum_any q bs F (n : Int) W (by omega) (hw.below hW.below) (by omega))
  have H := Lib.hid (Ewdeed.mk hW hw.bound hb hl hlb hF hFw hok hn (h0.trans (hW.below.mono h0.size)) d0 (hco.below hW.below) hcb (World.block_lt_of_cell? w _ hco.c0))
  have hcf := enters Try.func91 (by decide) rfl
  clear hw h0 hF hc hlb hl hn hok hb hFw hW hco hcb
  go_enter Try.func90, Try.ntmps90
  go_wp2_with fail
  refine HN.out.mono ?_
  intro e w1 h1
  have h2 := h1.1
  have H0 := Lib.hid h1
  clear h1
  subst h2
  go_wp2_with fail
  go_loopg [7, 31] n (fun gk _ i wr => ∃ k : Nat, k ≤ n ∧ gk = n - k ∧ i = .int .i64 k ∧ WrTo W F q (bs ++ Sl.numB (n : Int) ++ (l.take k).flatMap (fun x : DeD => deC.enc x.d)) (.returned (.tuple #[])) wr)
  case atStart => exact ⟨0, by omega, by omega, rfl, by simpa using H0.out⟩
  case round =>
    obtain ⟨k, hk, rfl, rfl, hst⟩ := hrel
    clear H0 HN
    by_cases hlt : k < n
    · obtain ⟨_, F1, h1, h2, h3⟩ := hst
      have d1 := h2.cell H.out.hlb H.out.d0
      have hb1 : Below w0.heap.size w0 wr := H.out.h0.trans (h2.below H.out.h0.size (fun k hk => H.out.hF k hk))
      have hF1 : ∀ j, F1 j → w0.heap.size ≤ j := fun j hj => by
        rcases h3 j hj with y | y
        · exact H.out.hF j y
        · exact Nat.le_trans H.out.h0.size y
      obtain ⟨eb, off, rfl, elt, e0, e1, eok⟩ := deed_at H.out.hl hlt
      have hnb : ¬ F1 eb := fun h => by have := hF1 eb h; omega
      have hco1 := H.out.co.fr h2 H.out.ncb
      have hncb : ¬ F1 cb := fun h => by
        rcases h3 cb h with y | y
        · exact H.out.ncb y
        · have g1 := H.out.cbl; have g2 := H.out.hW.size; omega
      have hle := flatE_take 110 (fun x : DeD => deC.enc x.d) l DeD.zero k (fun j hj => len_deed (H.out.ok j (by rw [← H.out.hl.len]; exact hj)))
      have hln := (Sl.numB_length (n : Int)).2
      have HI := Lib.hid (show Calls _ _ _ wr (WrTo wr F1 q (bs ++ Sl.numB (n : Int) ++ (l.take k).flatMap (fun x : DeD => deC.enc x.d) ++ (fun x : DeD => deC.enc x.d) (l.getD k DeD.zero))) from by
        have g1 := H.out.hb
        have g2 := H.out.hn
        have g3 := H.out.hl.len
        exact cw_deed q _ F1 eb (off + k * 2) cb (l.getD k DeD.zero) w0 wr h1 hb1 hF1 (cell_below hb1 e0) (cell_below hb1 e1) eok hco1 hnb hncb (H.out.ok k hlt) (by rw [List.length_append, List.length_append]; omega))
      have H2 := Lib.hid (And.intro h2 h3)
      clear h1 h2 h3 e0 e1 eok hle hb1 hln hF1 hnb elt hco1 hncb
      go_wp2_with fail
      refine HI.out.mono ?_
      intro e w2 h4
      have h5 := h4.1
      have H4 := Lib.hid h4
      clear h4
      subst h5
      go_wp2
      go_roundg (n - (k + 1))
      case rel =>
        have hmb : n ≤ 1000 := H.out.hn
        refine ⟨k + 1, by omega, by omega, congrArg (Value.int .i64) (by unfold wrap64; omega), ?_⟩
        have x := H4.out.then_ H2.out.1 H2.out.2
        rw [flatE_succ (fun x : DeD => deC.enc x.d) l DeD.zero k (by rw [H.out.hl.len]; exact hlt), ← List.append_assoc]
        exact x
      case measure => omega
    · obtain rfl : k = n := by omega
      have H2 := Lib.hid hst
      clear hst
      go_wp2
      go_end0
      have x := H2.out.mono H.out.hW.below H.out.bound
      rw [List.take_of_length_le (by rw [H.out.hl.len]; exact Nat.le_refl _), List.append_assoc] at x
      exact x
end Go.Proofs.Ytlijfnekopjogaa

/- The coder writes: rows (printed by gen_each.py). -/
namespace Go.Proofs.Ytlijfnekopjogaa
open Go Go.RowKit Mem Rc
set_option maxRecDepth 100000
set_option linter.unusedVariables false
set_option linter.unusedSimpArgs false

structure RwF (x : Rw) : Prop where
  tx : nOk x.tx
  st : nOk x.st
  fi : nOk x.fi
  la : nOk x.la
  un : nOk x.un
  co : nOk x.co
  len : x.mem.length ≤ 8
  mem : ∀ k, k < x.mem.length → nOk (x.mem.getD k 0)
  llen : x.locks.length ≤ 64
  locks : ∀ k, k < x.locks.length → (x.locks.getD k L.zero).key.size ≤ 32
theorem enc_row (x : Rw) : rwC.enc x = [x.tx, x.st, x.fi, x.la, x.un, x.co].flatMap Sl.numB ++ iC.enc x.mem ++ lsC.enc x.locks := by
  show Sl.numB x.tx ++ (Sl.numB x.st ++ (Sl.numB x.fi ++ (Sl.numB x.la ++ (Sl.numB x.un ++ (Sl.numB x.co ++ (iC.enc x.mem ++ lsC.enc x.locks)))))) = _
  simp
theorem len_locks {l : List L} {m : Nat} (h : l.length ≤ m) (hk : ∀ k, k < l.length → (l.getD k L.zero).key.size ≤ 32) : (lsC.enc l).length ≤ 11 + 44 * m := by
  rw [enc_lsC, List.length_append]
  have h1 := num_le (l.length : Int)
  have h2 := flatE_take 44 (fun x => lC.enc x) l L.zero l.length (fun j hj => len_lock (hk j hj))
  rw [List.take_length] at h2
  omega
theorem len_row {x : RwD} (h : RwF x.r) : (rwC.enc x.r).length ≤ 3000 := by
  rw [enc_row]
  have h1 := flatB_le [x.r.tx, x.r.st, x.r.fi, x.r.la, x.r.un, x.r.co]
  have h2 := len_ints h.len
  have h3 := len_locks h.llen h.locks
  simp only [List.length_append, List.length_cons, List.length_nil] at h1 ⊢
  omega
structure CwRow (w0 w W : World) (q : Nat) (bs : List UInt8) (F : Nat → Prop) (b i : Nat) (x : RwD) : Prop where
  hW : CwW w q W
  bound : ∀ k, F k → k < w.heap.size
  hl : bs.length + 200000 ≤ 140737488351232
  h0 : Below w0.heap.size w0 w
  hF : ∀ k, F k → w0.heap.size ≤ k
  hFw : ¬ F w.heap.size
  hb : ¬ F b
  bl : b < w.heap.size
  ok : RowOk w0 x
  f : RwF x.r
  c6 : w.cell? ⟨b, i + 6, none⟩ = some (.slice x.mA x.r.mem.length x.mc)
  c7 : w.cell? ⟨b, i + 7, none⟩ = some (.slice x.lA x.r.locks.length x.lc)
set_option maxHeartbeats 8000000 in
theorem cw_row (q : Nat) (bs : List UInt8) (F : Nat → Prop) (b i : Nat) (x : RwD) (w0 w : World) (hw : WrAt w q bs F) (h0 : Below w0.heap.size w0 w) (hF : ∀ k, F k → w0.heap.size ≤ k)
    (h0c : w.cell? ⟨b, i, none⟩ = some (.int .i64 x.r.tx)) (h1c : w.cell? ⟨b, i + 1, none⟩ = some (.int .i64 x.r.st)) (h2c : w.cell? ⟨b, i + 2, none⟩ = some (.int .i64 x.r.fi)) (h3c : w.cell? ⟨b, i + 3, none⟩ = some (.int .i64 x.r.la)) (h4c : w.cell? ⟨b, i + 4, none⟩ = some (.int .i64 x.r.un)) (h5c : w.cell? ⟨b, i + 5, none⟩ = some (.int .i64 x.r.co))
    (h6c : w.cell? ⟨b, i + 6, none⟩ = some (.slice x.mA x.r.mem.length x.mc)) (h7c : w.cell? ⟨b, i + 7, none⟩ = some (.slice x.lA x.r.locks.length x.lc))
    (hok : RowOk w0 x) (hb : ¬ F b) (hf : RwF x.r) (hl : bs.length + 200000 ≤ 140737488351232) :
    Calls Try.prog 87 #[cw q, .pointer (some ⟨b, i, none⟩)] w (WrTo w F q (bs ++ rwC.enc x.r)) := by
  obtain ⟨W, hW⟩ := cwW w q
  have e := hW.eq
  have c0 := hW.c0
  have c1 := hW.c1
  have hbW : Below w.heap.size w (W.alloc (.cells #[.pointer (some ⟨b, i, none⟩), .pointer (some ⟨b, i + 1, none⟩), .pointer (some ⟨b, i + 2, none⟩), .pointer (some ⟨b, i + 3, none⟩), .pointer (some ⟨b, i + 4, none⟩), .pointer (some ⟨b, i + 5, none⟩)] 117)).drew := (hW.below.alloc hW.below.size _).drew
  have hFw : ¬ F w.heap.size := fun h => Nat.lt_irrefl _ (hw.bound _ h)
  have hFW : ¬ F W.heap.size := fun h => by have := hw.bound _ h; have := hW.size; omega
  have hp : Ptrs (W.alloc (.cells #[.pointer (some ⟨b, i, none⟩), .pointer (some ⟨b, i + 1, none⟩), .pointer (some ⟨b, i + 2, none⟩), .pointer (some ⟨b, i + 3, none⟩), .pointer (some ⟨b, i + 4, none⟩), .pointer (some ⟨b, i + 5, none⟩)] 117)).drew W.heap.size b [i, i + 1, i + 2, i + 3, i + 4, i + 5] [x.r.tx, x.r.st, x.r.fi, x.r.la, x.r.un, x.r.co] :=
    ⟨rfl, fun k hk => match k, hk with
      | 0, _ => (Blk.new W 117 #[.pointer (some ⟨b, i, none⟩), .pointer (some ⟨b, i + 1, none⟩), .pointer (some ⟨b, i + 2, none⟩), .pointer (some ⟨b, i + 3, none⟩), .pointer (some ⟨b, i + 4, none⟩), .pointer (some ⟨b, i + 5, none⟩)]).cell 0
      | 1, _ => (Blk.new W 117 #[.pointer (some ⟨b, i, none⟩), .pointer (some ⟨b, i + 1, none⟩), .pointer (some ⟨b, i + 2, none⟩), .pointer (some ⟨b, i + 3, none⟩), .pointer (some ⟨b, i + 4, none⟩), .pointer (some ⟨b, i + 5, none⟩)]).cell 1
      | 2, _ => (Blk.new W 117 #[.pointer (some ⟨b, i, none⟩), .pointer (some ⟨b, i + 1, none⟩), .pointer (some ⟨b, i + 2, none⟩), .pointer (some ⟨b, i + 3, none⟩), .pointer (some ⟨b, i + 4, none⟩), .pointer (some ⟨b, i + 5, none⟩)]).cell 2
      | 3, _ => (Blk.new W 117 #[.pointer (some ⟨b, i, none⟩), .pointer (some ⟨b, i + 1, none⟩), .pointer (some ⟨b, i + 2, none⟩), .pointer (some ⟨b, i + 3, none⟩), .pointer (some ⟨b, i + 4, none⟩), .pointer (some ⟨b, i + 5, none⟩)]).cell 3
      | 4, _ => (Blk.new W 117 #[.pointer (some ⟨b, i, none⟩), .pointer (some ⟨b, i + 1, none⟩), .pointer (some ⟨b, i + 2, none⟩), .pointer (some ⟨b, i + 3, none⟩), .pointer (some ⟨b, i + 4, none⟩), .pointer (some ⟨b, i + 5, none⟩)]).cell 4
      | 5, _ => (Blk.new W 117 #[.pointer (some ⟨b, i, none⟩), .pointer (some ⟨b, i + 1, none⟩), .pointer (some ⟨b, i + 2, none⟩), .pointer (some ⟨b, i + 3, none⟩), .pointer (some ⟨b, i + 4, none⟩), .pointer (some ⟨b, i + 5, none⟩)]).cell 5,
    fun k hk => match k, hk with
      | 0, _ => cell_below hbW h0c
      | 1, _ => cell_below hbW h1c
      | 2, _ => cell_below hbW h2c
      | 3, _ => cell_below hbW h3c
      | 4, _ => cell_below hbW h4c
      | 5, _ => cell_below hbW h5c,
    fun k hk => match k, hk with
      | 0, _ => hf.tx
      | 1, _ => hf.st
      | 2, _ => hf.fi
      | 3, _ => hf.la
      | 4, _ => hf.un
      | 5, _ => hf.co⟩
  have HC := Lib.hid (cw_nums q bs F W.heap.size b 6 [i, i + 1, i + 2, i + 3, i + 4, i + 5] [x.r.tx, x.r.st, x.r.fi, x.r.la, x.r.un, x.r.co] (W.alloc (.cells #[.pointer (some ⟨b, i, none⟩), .pointer (some ⟨b, i + 1, none⟩), .pointer (some ⟨b, i + 2, none⟩), .pointer (some ⟨b, i + 3, none⟩), .pointer (some ⟨b, i + 4, none⟩), .pointer (some ⟨b, i + 5, none⟩)] 117)).drew (hw.below hbW) hp hFW hb (by simp) (by omega))
  have H := Lib.hid (CwRow.mk hW hw.bound hl h0 hF hFw hb (World.block_lt_of_cell? w _ h6c) hok hf h6c h7c)
  have HB := Lib.hid hbW
  clear hw h0 hF h0c h1c h2c h3c h4c h5c h6c h7c hok hb hf hl hp hFw hFW hbW hW
  go_enter Try.func87, Try.ntmps87
  go_wp2_with fail
  refine wp_region_held_drew (S := (fun w' => w'.cell? ⟨w.heap.size, 0, none⟩ = some (.pointer (some ⟨q, 0, none⟩)) ∧ w'.cell? ⟨w.heap.size, 1, none⟩ = some (.pointer none))) (by kernel_rfl) ⟨c0, c1⟩ (fun hHeld => ?_)
  refine tk 0 4 (v := cw q) (h := ?_)
  refine tk 1 5 (v := .pointer (some ⟨b, i, none⟩)) (h := ?_)
  refine tk 2 6 (v := .pointer (some ⟨b, i, none⟩)) (h := ?_)
  refine tk 3 7 (v := .pointer (some ⟨b, i, none⟩)) (h := ?_)
  refine tk 4 8 (v := .pointer (some ⟨b, i, none⟩)) (h := ?_)
  refine tk 5 9 (v := .pointer (some ⟨b, i, none⟩)) (h := ?_)
  refine tk 6 10 (v := .pointer (some ⟨b, i + 1, none⟩)) (h := ?_)
  refine tk 7 11 (v := .pointer (some ⟨b, i, none⟩)) (h := ?_)
  refine tk 8 12 (v := .pointer (some ⟨b, i, none⟩)) (h := ?_)
  refine tk 9 13 (v := .pointer (some ⟨b, i + 2, none⟩)) (h := ?_)
  refine tk 10 14 (v := .pointer (some ⟨b, i, none⟩)) (h := ?_)
  refine tk 11 15 (v := .pointer (some ⟨b, i, none⟩)) (h := ?_)
  refine tk 12 16 (v := .pointer (some ⟨b, i + 3, none⟩)) (h := ?_)
  refine tk 13 17 (v := .pointer (some ⟨b, i, none⟩)) (h := ?_)
  refine tk 14 18 (v := .pointer (some ⟨b, i, none⟩)) (h := ?_)
  refine tk 15 19 (v := .pointer (some ⟨b, i + 4, none⟩)) (h := ?_)
  refine tk 16 20 (v := .pointer (some ⟨b, i, none⟩)) (h := ?_)
  refine tk 17 21 (v := .pointer (some ⟨b, i, none⟩)) (h := ?_)
  refine tk 18 22 (v := .pointer (some ⟨b, i + 5, none⟩)) (h := ?_)
  refine wpAnyH_ready (rs := [19]) (by kernel_rfl) (by simp) ?_
  refine AllReadyH.cons rfl (fun K hK => ?_) AllReadyH.nil
  go_simp
  refine hK.out _ _ ⟨cell_alloc_some' _ c0, cell_alloc_some' _ c1⟩ (fun hHeld => ?_)
  clear hK K
  try simp only [Act.put, List.setIfInBounds_toArray, List.set_cons_zero, List.set_cons_succ]
  refine wpAnyH_ready (rs := [20]) (by kernel_rfl) (by simp) ?_
  refine AllReadyH.cons rfl (fun K hK => ?_) AllReadyH.nil
  go_simp
  refine HC.out.mono ?_
  rintro e w2 ⟨rfl, F1, h1, h2, h3⟩
  have hco : CoW w2 w.heap.size q := ((CoW.mk c0 c1).below ((Below.refl _ _).alloc (Nat.le_refl _) _)).fr h2 H.out.hFw
  refine hK.out _ _ ⟨hco.c0, hco.c1⟩ (fun hHeld => ?_)
  clear hK K
  try simp only [Act.put, List.setIfInBounds_toArray, List.set_cons_zero, List.set_cons_succ]
  refine wpAnyH_done (by kernel_rfl) ?_ _
  have a0 : w2.drew.cell? ⟨w.heap.size, 0, none⟩ = some (.pointer (some ⟨q, 0, none⟩)) := hco.c0
  have a1 : w2.drew.cell? ⟨w.heap.size, 1, none⟩ = some (.pointer none) := hco.c1
  have hF1 : ∀ j, F1 j → w0.heap.size ≤ j := fun j hj => by
    rcases h3 j hj with y | y
    · exact H.out.hF j y
    · exact Nat.le_trans (Nat.le_trans H.out.h0.size HB.out.size) y
  have hb1 : Below w0.heap.size w0 w2 := (H.out.h0.trans (HB.out.mono H.out.h0.size)).trans (h2.below (Nat.le_trans H.out.h0.size HB.out.size) (fun k hk => H.out.hF k hk))
  have hnb1 : ¬ F1 b := fun h => by
    rcases h3 b h with y | y
    · exact H.out.hb y
    · have g1 := H.out.bl; have g2 := HB.out.size; omega
  have hnw1 : ¬ F1 w.heap.size := fun h => by
    rcases h3 _ h with y | y
    · exact H.out.hFw y
    · have g2 : w.heap.size + 1 ≤ (W.alloc (.cells #[.pointer (some ⟨b, i, none⟩), .pointer (some ⟨b, i + 1, none⟩), .pointer (some ⟨b, i + 2, none⟩), .pointer (some ⟨b, i + 3, none⟩), .pointer (some ⟨b, i + 4, none⟩), .pointer (some ⟨b, i + 5, none⟩)] 117)).heap.size := by simp [H.out.hW.size]
      have y2 : (W.alloc (.cells #[.pointer (some ⟨b, i, none⟩), .pointer (some ⟨b, i + 1, none⟩), .pointer (some ⟨b, i + 2, none⟩), .pointer (some ⟨b, i + 3, none⟩), .pointer (some ⟨b, i + 4, none⟩), .pointer (some ⟨b, i + 5, none⟩)] 117)).heap.size ≤ w.heap.size := y
      omega
  have hln : ([x.r.tx, x.r.st, x.r.fi, x.r.la, x.r.un, x.r.co].flatMap Sl.numB).length ≤ 66 := flatB_le [x.r.tx, x.r.st, x.r.fi, x.r.la, x.r.un, x.r.co]
  have HK := Lib.hid (cw_ints q (bs ++ [x.r.tx, x.r.st, x.r.fi, x.r.la, x.r.un, x.r.co].flatMap Sl.numB) F1 b (i + 6) x.mA x.r.mem.length x.mc x.r.mem w0 w2.drew (h1.below (Below.refl _ _).drew) hb1.drew hF1 (h2.cell H.out.hb (cell_below HB.out H.out.c6)) hnb1 H.out.ok.mem (by have := H.out.f.len; omega) H.out.f.mem (by rw [List.length_append]; have := H.out.hl; omega))
  have H2 := Lib.hid (And.intro h2 (And.intro h3 (And.intro hF1 (And.intro hb1 (And.intro hnb1 (And.intro hnw1 (And.intro hln (And.intro hco h1.bound))))))))
  have hco0 := c0
  clear h1 h2 h3 hco hF1 hb1 hnb1 hnw1 hln hco0 c0 c1
  try clear hHeld
  go_wp2_with fail
  go_still_tail 4, (by kernel_rfl)
  go_wp2_with fail
  refine HK.out.mono ?_
  rintro e w3 ⟨rfl, F2, h4, h5, h6⟩
  have hco2 := ((H2.out.2.2.2.2.2.2.2.1.below (Below.refl _ _).drew).fr h5 H2.out.2.2.2.2.2.1)
  have b0 : w3.drew.cell? ⟨w.heap.size, 0, none⟩ = some (.pointer (some ⟨q, 0, none⟩)) := hco2.c0
  have b1 : w3.drew.cell? ⟨w.heap.size, 1, none⟩ = some (.pointer none) := hco2.c1
  have hnb2 : ¬ F2 b := fun h => by
    rcases h6 b h with y | y
    · exact H2.out.2.2.2.2.1 y
    · have g1 := H.out.bl; have g2 := HB.out.size; have g3 := H2.out.1.size; have g4 : w2.heap.size ≤ b := y; omega
  have hli := len_ints H.out.f.len
  have HL := Lib.hid (cw_locks q (bs ++ [x.r.tx, x.r.st, x.r.fi, x.r.la, x.r.un, x.r.co].flatMap Sl.numB ++ iC.enc x.r.mem) F2 b (i + 7) x.lA x.r.locks.length x.lc x.r.locks w0 w3.drew (h4.below (Below.refl _ _).drew)
    ((H2.out.2.2.2.1.drew.trans (h5.below H2.out.2.2.2.1.drew.size (fun k hk => H2.out.2.2.1 k hk))).drew)
    (fun j hj => by
      rcases h6 j hj with y | y
      · exact H2.out.2.2.1 j y
      · exact Nat.le_trans H2.out.2.2.2.1.drew.size y)
    (h5.cell H2.out.2.2.2.2.1 (H2.out.1.cell H.out.hb (cell_below HB.out H.out.c7))) hnb2 H.out.ok.locks (by have := H.out.f.llen; omega) H.out.f.locks (by rw [List.length_append, List.length_append]; have := H.out.hl; have := H2.out.2.2.2.2.2.2.1; omega))
  have H3 := Lib.hid (And.intro h5 h6)
  clear h4 h5 h6 hco2 hnb2 hli a0 a1
  go_wp2_with fail
  go_still_tail 4, (by kernel_rfl)
  go_wp2_with fail
  refine HL.out.mono ?_
  intro e w4 h7
  have h8 := h7.1
  have H4 := Lib.hid h7
  clear h7
  subst h8
  go_wp2
  go_end0
  have y := (H4.out.then_ (H3.out.1.drew 1) (fun k hk => H3.out.2 k hk)).then_ (H2.out.1.drew 1) (fun k hk => H2.out.2.1 k hk)
  rw [enc_row, ← List.append_assoc, ← List.append_assoc]
  exact y.mono HB.out H.out.bound
structure Ewrow (w0 w W : World) (q : Nat) (bs : List UInt8) (F : Nat → Prop) (lb li : Nat) (A : Option Addr) (n c : Nat) (l : List RwD) : Prop where
  hW : CwW w q W
  bound : ∀ k, F k → k < w.heap.size
  hb : bs.length + 4000000 ≤ 140737488351232
  hl : ST rowK w0 A n l
  hlb : ¬ F lb
  hF : ∀ k, F k → w0.heap.size ≤ k
  hFw : ¬ F w.heap.size
  ok : ∀ k, k < n → (fun x : RwD => RwF x.r) (l.getD k RwD.zero)
  hn : n ≤ 1000
  h0 : Below w0.heap.size w0 W
  d0 : W.cell? ⟨lb, li, none⟩ = some (.slice A n c)
set_option maxHeartbeats 4000000 in
theorem ew_row (q : Nat) (bs : List UInt8) (F : Nat → Prop) (lb li : Nat) (A : Option Addr) (n c : Nat) (l : List RwD) (w0 w : World) (hw : WrAt w q bs F) (h0 : Below w0.heap.size w0 w) (hF : ∀ k, F k → w0.heap.size ≤ k)
    (hc : w.cell? ⟨lb, li, none⟩ = some (.slice A n c)) (hlb : ¬ F lb) (hl : ST rowK w0 A n l) (hn : n ≤ 1000) (hok : ∀ k, k < n → (fun x : RwD => RwF x.r) (l.getD k RwD.zero)) (hb : bs.length + 4000000 ≤ 140737488351232) :
    Calls Try.prog 86 #[cw q, .pointer (some ⟨lb, li, none⟩), .func (.func 87) #[cw q] #[]] w (WrTo w F q (bs ++ (Sl.numB (n : Int) ++ l.flatMap (fun x : RwD => rwC.enc x.r)))) := by
  obtain ⟨W, hW⟩ := cwW w q
  have e := hW.eq
  have hFw : ¬ F w.heap.size := fun h => Nat.lt_irrefl _ (hw.bound _ h)
  have c0 : W.cell? ⟨w.heap.size, 0, none⟩ = some (.pointer (some ⟨q, 0, none⟩)) := hW.c0
  have d0 := cell_below hW.below hc
  have HN := Lib.hid (wnum_any q bs F (n : Int) W (by omega) (hw.below hW.below) (by omega))
  have H := Lib.hid (Ewrow.mk hW hw.bound hb hl hlb hF hFw hok hn (h0.trans (hW.below.mono h0.size)) d0)
  have hcf := enters Try.func87 (by decide) rfl
  clear hw h0 hF hc hlb hl hn hok hb hFw hW
  go_enter Try.func86, Try.ntmps86
  go_wp2_with fail
  refine HN.out.mono ?_
  intro e w1 h1
  have h2 := h1.1
  have H0 := Lib.hid h1
  clear h1
  subst h2
  go_wp2_with fail
  go_loopg [7, 31] n (fun gk _ i wr => ∃ k : Nat, k ≤ n ∧ gk = n - k ∧ i = .int .i64 k ∧ WrTo W F q (bs ++ Sl.numB (n : Int) ++ (l.take k).flatMap (fun x : RwD => rwC.enc x.r)) (.returned (.tuple #[])) wr)
  case atStart => exact ⟨0, by omega, by omega, rfl, by simpa using H0.out⟩
  case round =>
    obtain ⟨k, hk, rfl, rfl, hst⟩ := hrel
    clear H0 HN
    by_cases hlt : k < n
    · obtain ⟨_, F1, h1, h2, h3⟩ := hst
      have d1 := h2.cell H.out.hlb H.out.d0
      have hb1 : Below w0.heap.size w0 wr := H.out.h0.trans (h2.below H.out.h0.size (fun k hk => H.out.hF k hk))
      have hF1 : ∀ j, F1 j → w0.heap.size ≤ j := fun j hj => by
        rcases h3 j hj with y | y
        · exact H.out.hF j y
        · exact Nat.le_trans H.out.h0.size y
      obtain ⟨eb, off, rfl, elt, e0, e1, e2, e3, e4, e5, e6, e7, eok⟩ := row_at H.out.hl hlt
      have hnb : ¬ F1 eb := fun h => by have := hF1 eb h; omega
      have hle := flatE_take 3000 (fun x : RwD => rwC.enc x.r) l RwD.zero k (fun j hj => len_row (H.out.ok j (by rw [← H.out.hl.len]; exact hj)))
      have hln := (Sl.numB_length (n : Int)).2
      have HI := Lib.hid (show Calls _ _ _ wr (WrTo wr F1 q (bs ++ Sl.numB (n : Int) ++ (l.take k).flatMap (fun x : RwD => rwC.enc x.r) ++ (fun x : RwD => rwC.enc x.r) (l.getD k RwD.zero))) from by
        have g1 := H.out.hb
        have g2 := H.out.hn
        have g3 := H.out.hl.len
        exact cw_row q _ F1 eb (off + k * 8) (l.getD k RwD.zero) w0 wr h1 hb1 hF1 (cell_below hb1 e0) (cell_below hb1 e1) (cell_below hb1 e2) (cell_below hb1 e3) (cell_below hb1 e4) (cell_below hb1 e5) (cell_below hb1 e6) (cell_below hb1 e7) eok hnb (H.out.ok k hlt) (by rw [List.length_append, List.length_append]; omega))
      have H2 := Lib.hid (And.intro h2 h3)
      clear h1 h2 h3 e0 e1 e2 e3 e4 e5 e6 e7 eok hle hb1 hln hF1 hnb elt
      go_wp2_with fail
      refine HI.out.mono ?_
      intro e w2 h4
      have h5 := h4.1
      have H4 := Lib.hid h4
      clear h4
      subst h5
      go_wp2
      go_roundg (n - (k + 1))
      case rel =>
        have hmb : n ≤ 1000 := H.out.hn
        refine ⟨k + 1, by omega, by omega, congrArg (Value.int .i64) (by unfold wrap64; omega), ?_⟩
        have x := H4.out.then_ H2.out.1 H2.out.2
        rw [flatE_succ (fun x : RwD => rwC.enc x.r) l RwD.zero k (by rw [H.out.hl.len]; exact hlt), ← List.append_assoc]
        exact x
      case measure => omega
    · obtain rfl : k = n := by omega
      have H2 := Lib.hid hst
      clear hst
      go_wp2
      go_end0
      have x := H2.out.mono H.out.hW.below H.out.bound
      rw [List.take_of_length_le (by rw [H.out.hl.len]; exact Nat.le_refl _), List.append_assoc] at x
      exact x
end Go.Proofs.Ytlijfnekopjogaa

/- The coder writes: what lies between two steps of fields (printed by gen_wf.py). -/
namespace Go.Proofs.Ytlijfnekopjogaa
open Go Go.RowKit Mem Rc
set_option maxRecDepth 100000
set_option linter.unusedVariables false
set_option linter.unusedSimpArgs false

/-- all that is written of a record may be written -/
structure FF (x : MD) : Prop where
  kind : nOk x.kind
  tx : nOk x.tx
  prev : nOk x.prev
  nxt : nOk x.nxt
  coord : nOk x.coord
  key : x.key.size ≤ 32
  old : vC.fine x.old
  new : vC.fine x.new
  mlen : x.mem.length ≤ 8
  mem : ∀ k, k < x.mem.length → nOk (x.mem.getD k 0)
  llen : x.locks.length ≤ 64
  locks : ∀ k, k < x.locks.length → (x.locks.getD k L.zero).key.size ≤ 32
  rlen : x.rows.length ≤ 64
  rows : ∀ k, k < x.rows.length → RwF (x.rows.getD k RwD.zero).r
  dlen : x.dirty.length ≤ 64
  dirty : ∀ k, k < x.dirty.length → nOk (x.dirty.getD k D.zero).page ∧ nOk (x.dirty.getD k D.zero).rc
  elen : x.deeds.length ≤ 64
  deeds : ∀ k, k < x.deeds.length → DeF (x.deeds.getD k DeD.zero).d
  plen : x.past.length ≤ 256
  past : ∀ k, k < x.past.length → nOk (x.past.getD k 0)
/-- what stands all along -/
structure FCn (w0 w W : World) (q rb : Nat) (x : MD) (F : Nat → Prop) : Prop where
  hW : CwW w q W
  bound : ∀ k, F k → k < w.heap.size
  h0 : Below w0.heap.size w0 W
  hF : ∀ k, F k → w0.heap.size ≤ k
  hr : Blk W rb 30 (mCells x)
  hrb : ¬ F rb
  rbl : rb < w.heap.size
  hFw : ¬ F w.heap.size
  ok : MOk w0 x
  f : FF x
/-- what lies between two steps -/
structure FSt (w0 w W : World) (q rb : Nat) (x : MD) (F : Nat → Prop) (bs : List UInt8) (wj : World) (Fj : Nat → Prop) : Prop where
  cn : FCn w0 w W q rb x F
  wr : WrAt wj q bs Fj
  fr : Fr F W wj
  ft : ∀ k, Fj k → F k ∨ W.heap.size ≤ k
section
variable {w0 w W wj : World} {q rb : Nat} {x : MD} {F Fj : Nat → Prop} {bs : List UInt8}
theorem FSt.co (h : FSt w0 w W q rb x F bs wj Fj) : CoW wj w.heap.size q := (show CoW W w.heap.size q from ⟨h.cn.hW.c0, h.cn.hW.c1⟩).fr h.fr h.cn.hFw
theorem FSt.blk (h : FSt w0 w W q rb x F bs wj Fj) : Blk wj rb 30 (mCells x) := h.cn.hr.keep (h.fr.block rb h.cn.hr.lt h.cn.hrb)
theorem FSt.h0 (h : FSt w0 w W q rb x F bs wj Fj) : Below w0.heap.size w0 wj := h.cn.h0.trans (h.fr.below h.cn.h0.size (fun k hk => h.cn.hF k hk))
theorem FSt.hF (h : FSt w0 w W q rb x F bs wj Fj) : ∀ k, Fj k → w0.heap.size ≤ k := fun k hk => by
  rcases h.ft k hk with y | y
  · exact h.cn.hF k y
  · exact Nat.le_trans h.cn.h0.size y
theorem FSt.nrb (h : FSt w0 w W q rb x F bs wj Fj) : ¬ Fj rb := fun hk => by
  rcases h.ft rb hk with y | y
  · exact h.cn.hrb y
  · have := h.cn.rbl; have := h.cn.hW.size; omega
theorem FSt.nco (h : FSt w0 w W q rb x F bs wj Fj) : ¬ Fj w.heap.size := fun hk => by
  rcases h.ft _ hk with y | y
  · exact h.cn.hFw y
  · have := h.cn.hW.size; omega
theorem FSt.next {bs' : List UInt8} {e : Ending} {wk w2 : World} (h : FSt w0 w W q rb x F bs wj Fj) (hb : Below wj.heap.size wj wk) (hw : WrTo wk Fj q bs' e w2) : ∃ F2, FSt w0 w W q rb x F bs' w2 F2 := by
  obtain ⟨_, F2, h1, h2, h3⟩ := hw
  refine ⟨F2, h.cn, h1, h.fr.trans ((Fr.of_below hb Fj).trans h2 (fun _ _ y => y)) (fun i hi y => ?_), fun k hk => ?_⟩
  · rcases h.ft i y with z | z
    · exact z
    · omega
  · rcases h3 k hk with y | y
    · exact h.ft k y
    · exact .inr (Nat.le_trans h.fr.size (Nat.le_trans hb.size y))
theorem FSt.done {e : Ending} (h : FSt w0 w W q rb x F bs wj Fj) : WrTo w F q bs (.returned (.tuple #[])) wj := (show WrTo W F q bs (.returned (.tuple #[])) wj from ⟨rfl, Fj, h.wr, h.fr, h.ft⟩).mono h.cn.hW.below h.cn.bound
end
theorem len_text {s : ByteArray} (h : s.size ≤ 32) : (Sl.textB s.data.toList).length ≤ 43 := by
  unfold Sl.textB
  have h1 := num_le (s.data.toList.length : Int)
  have h3 : s.data.toList.length ≤ 32 := by rw [Array.length_toList]; exact h
  rw [List.length_append]
  omega
theorem len_val {v : V} (h : vC.fine v) : (vC.enc v).length ≤ 44 := by
  obtain ⟨has, data⟩ := v
  rcases h with h | h
  · have h1 : has = true := h.1
    subst h1
    show ([1] ++ Sl.textB data.data.toList).length ≤ 44
    have := len_text (s := data) h.2
    rw [List.length_append]
    simp only [List.length_cons, List.length_nil]
    omega
  · have h1 : has = false := h.1
    subst h1
    show ([0] : List UInt8).length ≤ 44
    decide
end Go.Proofs.Ytlijfnekopjogaa
