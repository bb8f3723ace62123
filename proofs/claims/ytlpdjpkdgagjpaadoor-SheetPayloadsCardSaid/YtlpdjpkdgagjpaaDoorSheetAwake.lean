/- The law's awake of layer 8. -/
import Derived.Test.YtlpdjpkdgagjpaaDoorSheetRef
namespace Go.Proofs.YtlpdjpkdgagjpaaDoor
open Go.RowKit Mem Lift
set_option linter.unusedVariables false
set_option linter.unusedSimpArgs false
set_option maxRecDepth 100000

namespace Sh
def init : F := ⟨[], [], 0, false⟩
/-- all bodies are found -/
theorem findR_all {inc pos : Int} {bs : List (List UInt8)} (hb : ∀ b ∈ bs, b.length ≤ 4096) : (findR (laid inc pos bs (count bs))).out.map Prod.fst = bs := by
  obtain ⟨f', h1, h2⟩ := find_all hb (f0 := ⟨[], [], 0, false⟩) (.inl rfl) 0
  unfold findR heads
  rw [laid_sheets, h1]
  simpa using h2
theorem findR_some {inc pos : Int} {bs : List (List UInt8)} (hb : ∀ b ∈ bs, b.length ≤ 4096) {n : Nat} (hn : n < count bs) : (findR (laid inc pos bs n)).out.map Prod.fst = bs.take (ended bs (242 * n)) := by
  obtain ⟨f', h1, h2, _⟩ := find_some hb (f0 := ⟨[], [], 0, false⟩) rfl 0 n hn
  unfold findR heads
  rw [laid_sheets, h1]
  simpa using h2
/-- of whatever sheets the bodies are short -/
def z300 : List UInt8 := List.replicate 300 0
theorem flat_300 : (flat [z300]).length = 306 := by
  rw [flat_cons, flat_nil, List.append_nil, seal_len _ (by simp [z300])]
  rfl
theorem lay_300 : ∃ d0 d1, layR 1 7 [z300] = ([⟨1, 7, 0, d0⟩, ⟨1, 8, 255, d1⟩], 0) ∧ ([⟨1, 7, 0, d0⟩, ⟨1, 8, 255, d1⟩] : List Sd) = laid 1 7 [z300] (count [z300]) := by
  have hc : count [z300] = 2 := by unfold count; rw [flat_300]
  have hl : laid 1 7 [z300] 2 = [⟨1, 7, 0, ((flat [z300]).drop (242 * 0)).take 242⟩, ⟨1, 8, 255, ((flat [z300]).drop (242 * 1)).take 242⟩] := by
    rw [laid_succ, laid_succ, laid_zero]
    rfl
  refine ⟨_, _, ?_, by rw [hc, hl]⟩
  rw [layR_ok (by decide) (by decide) (by rw [hc]; decide), hc, hl]
end Sh
set_option maxHeartbeats 4000000 in
theorem awake08_any (w : World) (ht : Half w) : Calls Tryd.prog 16 #[] w fun e w' => e = .returned (.bool true) ∧ Below w.heap.size w w' := by
  obtain ⟨d0, d1, hlay, hld⟩ := Sh.lay_300
  have hfl := Sh.findR_all (inc := 1) (pos := 7) (bs := [Sh.z300]) (by intro b hb; rw [List.mem_singleton] at hb; subst hb; simp [Sh.z300])
  rw [← hld] at hfl
  obtain ⟨fl, hfd⟩ : ∃ fl, (Sh.findR [⟨1, 7, 0, d0⟩, ⟨1, 8, 255, d1⟩]).out = fl := ⟨_, rfl⟩
  rw [hfd] at hfl
  obtain ⟨i, rfl⟩ : ∃ i, fl = [(Sh.z300, i)] := by
    match fl, hfl with
    | [(a, i)], h => simp at h; subst h; exact ⟨i, rfl⟩
  obtain ⟨i8, hi8, hz0, hz1, hz2⟩ := info_parts ninfo8
  have hmk := run_make_lit (P := Tryd.prog) 38 5 i8 Tryd.underlying38 hi8 hz0 hz1 hz2 300 300 rfl (by omega)
  have hbs : BS (mkB 5 300 w) (some ⟨w.heap.size, 0, none⟩) 300 Sh.z300 := by
    have := BS.made w (zerosA 300) 5 (0, 0) Sh.z300 (by rw [zerosA_list]; rfl)
    simpa [mkB, Sh.z300] using this
  have hb2 : Below w.heap.size w ((mkB 5 300 w).alloc (.cells #[.slice (some ⟨w.heap.size, 0, none⟩) 300 300] 38)) := (mkB_below _ _ _).alloc (by rw [mkB_size]; omega) _
  have hst : ST bodyK ((mkB 5 300 w).alloc (.cells #[.slice (some ⟨w.heap.size, 0, none⟩) 300 300] 38)) (some ⟨w.heap.size + 1, 0, none⟩) 1 [⟨some ⟨w.heap.size, 0, none⟩, 300, 300, Sh.z300⟩] := by
    have hk := Blk.new (mkB 5 300 w) 38 #[.slice (some ⟨w.heap.size, 0, none⟩) 300 300]
    rw [mkB_size] at hk
    exact st_body (x := ⟨some ⟨w.heap.size, 0, none⟩, 300, 300, Sh.z300⟩) hk ⟨hbs.below ((Below.refl _ _).alloc (Nat.le_refl _) _), Nat.le_refl _, by simp⟩
  have hl := lay_any 1 7 _ 1 1 _ [Sh.z300] _ rfl hst (by omega) (by rw [Sh.flat_300]; omega) (by omega) (by omega) (ht.below hb2)
  rw [hlay] at hl
  have H := Lib.hid (And.intro hl (And.intro hb2 (And.intro ht (And.intro hfd hld))))
  have hsz := mkB_size 5 300 w
  clear hlay hld hfd hfl hbs hb2 hst hl ht hi8 hz0 hz1 hz2
  go_enter Tryd.func16, Tryd.ntmps16
  go_wp2_with fail
  refine H.out.1.mono ?_
  rintro e w2 ⟨A2, c2, rfl, ho2, hb2⟩
  simp only at ho2 ⊢
  obtain ⟨g, cp, e1, _, _⟩ := ho2.form (by simp)
  obtain ⟨rfl, _, rfl⟩ : A2 = some ⟨g, 0, none⟩ ∧ True ∧ c2 = cp := by injection e1 with e1 _ e2; exact ⟨e1, trivial, e2⟩
  have hbb := below_of H.out.2.1 H.out.2.1.size hb2
  have hfnd := find_any (some ⟨g, 0, none⟩) 2 c2 [⟨1, 7, 0, d0⟩, ⟨1, 8, 255, d1⟩] w2 (ST.of_own sheetK_len (by decide) ho2 (fun x hx => by rw [H.out.2.2.2.2] at hx; exact Sh.laid_data _ _ _ _ x hx)) (by omega) (H.out.2.2.1.below hbb)
  rw [H.out.2.2.2.1] at hfnd
  have H2 := Lib.hid (And.intro ho2 (And.intro hfnd hbb))
  clear ho2 hfnd hbb hb2 hmk hsz e1
  go_wp2_with fail
  refine H2.out.2.1.mono ?_
  rintro e w3 ⟨A3, c3, rfl, ho3, hb3⟩
  simp only [List.length_singleton] at ho3 ⊢
  obtain ⟨g3, cp3, e1, _, _⟩ := ho3.form (by simp)
  obtain ⟨rfl, _, rfl⟩ : A3 = some ⟨g3, 0, none⟩ ∧ True ∧ c3 = cp3 := by injection e1 with e1 _ e2; exact ⟨e1, trivial, e2⟩
  have ho2 := own_below H2.out.1 hb3
  have a2 : w3.cell? ⟨g, 2, none⟩ = some (.int .i64 0) := ho2.cells (g := g) rfl 2 _ rfl
  have a6 : w3.cell? ⟨g, 6, none⟩ = some (.int .i64 255) := ho2.cells (g := g) rfl 6 _ rfl
  have a5 : w3.cell? ⟨g, 5, none⟩ = some (.int .i64 8) := ho2.cells (g := g) rfl 5 _ rfl
  have a0 : w3.cell? ⟨g3, 0, none⟩ = some (.string ⟨Sh.z300.toArray⟩) := ho3.cells (g := g3) rfl 0 _ rfl
  have hsz : (⟨Sh.z300.toArray⟩ : ByteArray).size = 300 := by rw [ba_size]; rfl
  have H3 := Lib.hid (below_of H2.out.2.2 H2.out.2.2.size hb3)
  clear ho2 ho3 hb3 e1
  generalize (⟨Sh.z300.toArray⟩ : ByteArray) = Z at *
  go_wp2_with fail
  go_ret
  exact ⟨rfl, H3.out⟩
end Go.Proofs.YtlpdjpkdgagjpaaDoor
