/- What package master loads: Load. -/
import Derived.Test.YtfcmlfcpgboigaaMasterSave
namespace Go.Proofs.Ytfcmlfcpgboigaa
open Go.RowKit Mem
set_option linter.unusedVariables false
set_option linter.unusedSimpArgs false

namespace Ms
def take (g : List UInt8) (n : Int) (best : M) : M := if (read g).2 = true ∧ best.gen < (read g).1.gen ∧ (read g).1.gen % 2 = n then (read g).1 else best
/-- what a sector's bytes do to the best record so far -/
def look (g : List UInt8 × Nat) (n : Int) (best : M) : Nat × M := if g.2 = 50 then (0, best) else if g.2 = 0 then (0, take g.1 n best) else (g.2, best)
theorem read_gen (bs : List UInt8) : 0 ≤ (read bs).1.gen ∧ (read bs).1.gen ≤ 1099511627776 := one_bound ⟨bs, 0⟩
end Ms
theorem blk_puts {w : World} {b : Nat} {t : TypeId} {o m : Ms.M} (h : Blk w b t (mCells o)) : Blk (((((w.setCell ⟨b, 0, none⟩ (.int .i64 m.gen)).setCell ⟨b, 1, none⟩ (.int .i64 m.inc)).setCell ⟨b, 2, none⟩ (.int .i64 m.first)).setCell ⟨b, 3, none⟩ (.int .i64 m.lsn)).setCell ⟨b, 4, none⟩ (.int .i64 m.check)) b t (mCells m) :=
  ((((h.put 0 (.int .i64 m.gen)).put 1 (.int .i64 m.inc)).put 2 (.int .i64 m.first)).put 3 (.int .i64 m.lsn)).put 4 (.int .i64 m.check)
theorem fr_puts {w w0 : World} {b : Nat} {m : Ms.M} {F : Nat → Prop} (h : Fr F w0 w) (hb : b < w0.heap.size → F b) : Fr F w0 (((((w.setCell ⟨b, 0, none⟩ (.int .i64 m.gen)).setCell ⟨b, 1, none⟩ (.int .i64 m.inc)).setCell ⟨b, 2, none⟩ (.int .i64 m.first)).setCell ⟨b, 3, none⟩ (.int .i64 m.lsn)).setCell ⟨b, 4, none⟩ (.int .i64 m.check)) :=
  ((((h.setCell ⟨b, 0, none⟩ _ hb).setCell ⟨b, 1, none⟩ _ hb).setCell ⟨b, 2, none⟩ _ hb).setCell ⟨b, 3, none⟩ _ hb).setCell ⟨b, 4, none⟩ _ hb
def LookP (w : World) (bb : Nat) (r : Nat × Ms.M) (e : Ending) (w' : World) : Prop := e = .returned (.int .i64 (r.1 : Int)) ∧ Blk w' bb 48 (mCells r.2) ∧ Fr (fun k => k = bb) w w'
set_option maxRecDepth 100000 in
set_option maxHeartbeats 4000000 in
theorem look_any (n : Int) (bd bb : Nat) (X : Option Addr) (g : List UInt8 × Nat) (best : Ms.M) (w : World) (hd : w.cell? ⟨bd, 0, none⟩ = some (.pointer X)) (hbb : Blk w bb 48 (mCells best))
    (hg : Calls Try.prog 65 #[.pointer X, .int .i64 n] w (BytesE w g)) (hgl : g.1.length ≤ 1000) :
    Calls Try.prog 64 #[.int .i64 n, .pointer (some ⟨bd, 0, none⟩), .pointer (some ⟨bb, 0, none⟩)] w (LookP w bb (Ms.look g n best)) := by
  obtain ⟨gs, ge⟩ := g
  obtain ⟨R, hR⟩ : ∃ R, Ms.look (gs, ge) n best = R := ⟨_, rfl⟩
  rw [hR]
  have HR := Lib.hid hR
  have H := Lib.hid (And.intro hg hbb)
  clear hg hR hbb
  simp only at hgl
  by_cases h50 : ge = 50
  · subst h50
    have hrr : R = (0, best) := by rw [← HR.out]; rfl
    subst hrr
    go_enter Try.func64, Try.ntmps64
    go_wp2_with fail
    refine H.out.1.mono ?_
    rintro e w1 ⟨B1, c1, rfl, hB1, _, _, hb1⟩
    simp only at hB1 ⊢
    have H1 := Lib.hid hb1
    clear hB1 hb1
    go_wp2
    go_ret
    exact ⟨rfl, H.out.2.below H1.out H.out.2.lt, Fr.of_below H1.out _⟩
  · have h50' : ((ge : Int) == 50) = false := by rw [beq_eq_false_iff_ne]; omega
    have hgb := Ms.read_gen gs
    have hrt : Ms.look (gs, ge) n best = if ge = 0 then (0, Ms.take gs n best) else (ge, best) := by unfold Ms.look; rw [if_neg h50]
    rw [HR.out] at hrt
    unfold Ms.take at hrt
    have hrd := fun (A : Option Addr) (c : Nat) (W : World) (h : BS W A gs.length gs) => mread_any A gs.length c gs W h (by omega)
    generalize Ms.read gs = rd at *
    obtain ⟨m, okb⟩ := rd
    simp only at hrt hgb hrd
    have hodd := odd_of m.gen hgb.1 hgb.2
    have HD := Lib.hid hrd
    have HT := Lib.hid hrt
    clear hrd hrt h50 HR
    have hgm : decide (best.gen < m.gen) = true ∨ decide (best.gen < m.gen) = false := by cases decide (best.gen < m.gen) <;> simp
    have hgo : (m.gen % 2 == n) = true ∨ (m.gen % 2 == n) = false := by cases (m.gen % 2 == n) <;> simp
    have hge : ge = 0 ∨ ((ge : Int) == 0) = false := by
      by_cases h : ge = 0
      · exact .inl h
      · exact .inr (by rw [beq_eq_false_iff_ne]; omega)
    unfold mVal mCells at HD
    go_enter Try.func64, Try.ntmps64
    go_wp2_with fail
    refine H.out.1.mono ?_
    rintro e w1 ⟨B1, c1, rfl, hB1, _, _, hb1⟩
    simp only at hB1 ⊢
    have H1 := Lib.hid (And.intro hB1 hb1)
    clear hB1 hb1
    go_wp2_with fail
    refine (HD.out B1 c1 w1 H1.out.1).mono ?_
    rintro e w2 ⟨rfl, hb2⟩
    have hbw := H1.out.2.trans (hb2.mono H1.out.2.size)
    have hbest := H.out.2.below hbw H.out.2.lt
    have hbn : w2.heap.size ≠ bb := by have := hbest.lt; omega
    have hc0 : w2.cell? ⟨bb, 0, none⟩ = some (.int .i64 best.gen) := hbest.cell 0
    have hc1 : w2.cell? ⟨bb, 1, none⟩ = some (.int .i64 best.inc) := hbest.cell 1
    have hc2 : w2.cell? ⟨bb, 2, none⟩ = some (.int .i64 best.first) := hbest.cell 2
    have hc3 : w2.cell? ⟨bb, 3, none⟩ = some (.int .i64 best.lsn) := hbest.cell 3
    have hc4 : w2.cell? ⟨bb, 4, none⟩ = some (.int .i64 best.check) := hbest.cell 4
    have hz := fun i => hbest.free i
    have H2 := Lib.hid (And.intro hbw hbest)
    have hlt2 := hbest.lt
    clear hb2 hbw hbest
    have hx : ∀ o, LookP w bb (ge, best) (.returned (.int .i64 (ge : Int))) (w2.alloc o) := fun o => ⟨rfl, H2.out.2.alloc o, (Fr.of_below H2.out.1 _).alloc o⟩
    have HX := Lib.hid hx
    clear hx
    rcases hge with rfl | hge
    · cases okb
      · have hrr : R = (0, best) := by rw [HT.out]; simp
        subst hrr
        go_wp2
        go_ret
        exact HX.out _
      · rcases hgm with hgm | hgm
        · rcases hgo with hgo | hgo
          · have hrr : R = (0, m) := by
              rw [HT.out, if_pos rfl, if_pos ⟨rfl, by simpa using hgm, by simpa using hgo⟩]
            subst hrr
            go_wp2
            go_ret
            exact ⟨rfl, (blk_puts H2.out.2).alloc _, (fr_puts (F := fun k => k = bb) (Fr.of_below H2.out.1 _) (fun _ => rfl)).alloc _⟩
          · have hrr : R = (0, best) := by
              rw [HT.out, if_pos rfl, if_neg (fun h => by have := h.2.2; simp [this] at hgo)]
            subst hrr
            go_wp2
            go_ret
            exact HX.out _
        · have hrr : R = (0, best) := by
            rw [HT.out, if_pos rfl, if_neg (fun h => by have := h.2.1; simp at hgm; omega)]
          subst hrr
          go_wp2
          go_ret
          exact HX.out _
    · have hrr : R = (ge, best) := by
        rw [HT.out, if_neg (fun h => by subst h; simp at hge)]
      subst hrr
      go_wp2
      go_ret
      exact HX.out _
namespace Ms
def load (g : Int → List UInt8 × Nat) : M × Nat :=
  if (look (g 0) 0 zero).1 ≠ 0 then (zero, (look (g 0) 0 zero).1)
  else if (look (g 1) 1 (look (g 0) 0 zero).2).1 ≠ 0 then (zero, (look (g 1) 1 (look (g 0) 0 zero).2).1)
  else if (look (g 1) 1 (look (g 0) 0 zero).2).2.gen = 0 then (zero, 60) else ((look (g 1) 1 (look (g 0) 0 zero).2).2, 0)
def bestTo (g : Int → List UInt8 × Nat) : Nat → M
  | 0 => zero
  | k + 1 => (look (g k) k (bestTo g k)).2
end Ms
theorem ended {w0 w : World} {b : Nat} {t : TypeId} {o : Ms.M} (a0 a1 a2 a3 a4 : Int) (h : Blk w b t (mCells o)) (hb : Below w0.heap.size w0 w) (hge : w0.heap.size ≤ b) :
    ((((((w.setCell ⟨b, 0, none⟩ (.int .i64 a0)).setCell ⟨b, 1, none⟩ (.int .i64 a1)).setCell ⟨b, 2, none⟩ (.int .i64 a2)).setCell ⟨b, 3, none⟩ (.int .i64 a3)).setCell ⟨b, 4, none⟩ (.int .i64 a4)).cell? ⟨b, 0, none⟩ = some (.int .i64 a0) ∧ (((((w.setCell ⟨b, 0, none⟩ (.int .i64 a0)).setCell ⟨b, 1, none⟩ (.int .i64 a1)).setCell ⟨b, 2, none⟩ (.int .i64 a2)).setCell ⟨b, 3, none⟩ (.int .i64 a3)).setCell ⟨b, 4, none⟩ (.int .i64 a4)).cell? ⟨b, 1, none⟩ = some (.int .i64 a1) ∧ (((((w.setCell ⟨b, 0, none⟩ (.int .i64 a0)).setCell ⟨b, 1, none⟩ (.int .i64 a1)).setCell ⟨b, 2, none⟩ (.int .i64 a2)).setCell ⟨b, 3, none⟩ (.int .i64 a3)).setCell ⟨b, 4, none⟩ (.int .i64 a4)).cell? ⟨b, 2, none⟩ = some (.int .i64 a2) ∧ (((((w.setCell ⟨b, 0, none⟩ (.int .i64 a0)).setCell ⟨b, 1, none⟩ (.int .i64 a1)).setCell ⟨b, 2, none⟩ (.int .i64 a2)).setCell ⟨b, 3, none⟩ (.int .i64 a3)).setCell ⟨b, 4, none⟩ (.int .i64 a4)).cell? ⟨b, 3, none⟩ = some (.int .i64 a3) ∧ (((((w.setCell ⟨b, 0, none⟩ (.int .i64 a0)).setCell ⟨b, 1, none⟩ (.int .i64 a1)).setCell ⟨b, 2, none⟩ (.int .i64 a2)).setCell ⟨b, 3, none⟩ (.int .i64 a3)).setCell ⟨b, 4, none⟩ (.int .i64 a4)).cell? ⟨b, 4, none⟩ = some (.int .i64 a4)) ∧ Below w0.heap.size w0 (((((w.setCell ⟨b, 0, none⟩ (.int .i64 a0)).setCell ⟨b, 1, none⟩ (.int .i64 a1)).setCell ⟨b, 2, none⟩ (.int .i64 a2)).setCell ⟨b, 3, none⟩ (.int .i64 a3)).setCell ⟨b, 4, none⟩ (.int .i64 a4)) := by
  have hW := blk_puts (m := ⟨a0, a1, a2, a3, a4⟩) h
  have hF := fr_puts (b := b) (m := ⟨a0, a1, a2, a3, a4⟩) (F := fun i => w0.heap.size ≤ i) (Fr.refl _ w) (fun _ => hge)
  exact ⟨⟨hW.cell 0, hW.cell 1, hW.cell 2, hW.cell 3, hW.cell 4⟩, hb.trans (hF.below hb.size (fun i hi => hi))⟩
set_option maxRecDepth 100000 in
set_option maxHeartbeats 8000000 in
theorem mload_any (X : Option Addr) (g : Int → List UInt8 × Nat) (w : World) (hg : ∀ n : Int, 0 ≤ n → n ≤ 1 → ∀ W, Below w.heap.size w W → Calls Try.prog 65 #[.pointer X, .int .i64 n] W (BytesE W (g n))) (hgl : ∀ n, (g n).1.length ≤ 1000) :
    Calls Try.prog 28 #[.pointer X] w fun e w' => e = .returned (.tuple #[mVal (Ms.load g).1, .int .i64 ((Ms.load g).2 : Nat)]) ∧ Below w.heap.size w w' := by
  obtain ⟨R, hR⟩ : ∃ R, Ms.load g = R := ⟨_, rfl⟩
  rw [hR]
  have HR := Lib.hid hR
  have hb1 : Below w.heap.size w (w.alloc (.cells #[.pointer X] 43)) := (Below.refl _ _).alloc (Nat.le_refl _) _
  have hb2 : Below w.heap.size w ((w.alloc (.cells #[.pointer X] 43)).alloc (.cells (mCells Ms.zero) 48)) := hb1.alloc (by simp) _
  have hb3 : Below w.heap.size w (((w.alloc (.cells #[.pointer X] 43)).alloc (.cells (mCells Ms.zero) 48)).alloc (.cells (mCells Ms.zero) 48)) := hb2.alloc (by simp; omega) _
  have k1 : Blk (((w.alloc (.cells #[.pointer X] 43)).alloc (.cells (mCells Ms.zero) 48)).alloc (.cells (mCells Ms.zero) 48)) w.heap.size 43 #[.pointer X] := ((Blk.new w 43 #[.pointer X]).alloc _).alloc _
  have k2 : Blk (((w.alloc (.cells #[.pointer X] 43)).alloc (.cells (mCells Ms.zero) 48)).alloc (.cells (mCells Ms.zero) 48)) (w.heap.size + 1) 48 (mCells Ms.zero) := by
    have := (Blk.new (w.alloc (.cells #[.pointer X] 43)) 48 (mCells Ms.zero)).alloc (.cells (mCells Ms.zero) 48)
    simpa using this
  have k3 : Blk (((w.alloc (.cells #[.pointer X] 43)).alloc (.cells (mCells Ms.zero) 48)).alloc (.cells (mCells Ms.zero) 48)) (w.heap.size + 2) 48 (mCells Ms.zero) := by
    have := Blk.new ((w.alloc (.cells #[.pointer X] 43)).alloc (.cells (mCells Ms.zero) 48)) 48 (mCells Ms.zero)
    simpa using this
  have H := Lib.hid (And.intro hg (And.intro hgl (And.intro hb3 (And.intro k1 (And.intro k2 k3)))))
  clear hb1 hb2 hb3 k1 k2 k3 hg hgl hR
  unfold mVal
  go_enter Try.func28, Try.ntmps28
  go_wp2_with fail
  go_loopw [6, 7, 9] (fun _ _ i wr => ∃ k : Nat, k ≤ 2 ∧ i = .int .i64 k ∧ (∀ j : Nat, j < k → (Ms.look (g j) j (Ms.bestTo g j)).1 = 0) ∧ Blk wr w.heap.size 43 #[.pointer X] ∧ Blk wr (w.heap.size + 1) 48 (mCells Ms.zero) ∧ Blk wr (w.heap.size + 2) 48 (mCells (Ms.bestTo g k)) ∧ Below w.heap.size w wr) (fun _ _ i _ => 2 - (intOf i).toNat)
  case atStart => exact ⟨0, by omega, rfl, fun j hj => by omega, H.out.2.2.2.1, H.out.2.2.2.2.1, H.out.2.2.2.2.2, H.out.2.2.1⟩
  case round =>
    obtain ⟨k, hk, rfl, hz, b0, b1, b2, hbl⟩ := hrel
    by_cases hlt : k < 2
    · have hlook := look_any k w.heap.size (w.heap.size + 2) X (g k) (Ms.bestTo g k) wr (b0.cell 0) b2 (H.out.1 k (by omega) (by omega) wr hbl) (H.out.2.1 _)
      have hnext : Ms.bestTo g (k + 1) = (Ms.look (g k) k (Ms.bestTo g k)).2 := rfl
      have hcode : (Ms.look (g k) k (Ms.bestTo g k)).1 ≠ 0 → R = (Ms.zero, (Ms.look (g k) k (Ms.bestTo g k)).1) := by
        intro hne
        rw [← HR.out]
        unfold Ms.load
        have hk2 : k = 0 ∨ k = 1 := by omega
        rcases hk2 with rfl | rfl
        · have hne' : (Ms.look (g 0) 0 Ms.zero).1 ≠ 0 := hne
          rw [if_pos hne']; rfl
        · have h0 : (Ms.look (g 0) 0 Ms.zero).1 = 0 := hz 0 (by omega)
          have hne' : (Ms.look (g 1) 1 (Ms.look (g 0) 0 Ms.zero).2).1 ≠ 0 := hne
          rw [if_neg (by rw [h0]; simp), if_pos hne']; rfl
      have hfr : ∀ w3, Fr (fun j => j = w.heap.size + 2) wr w3 → Blk w3 w.heap.size 43 #[.pointer X] ∧ Blk w3 (w.heap.size + 1) 48 (mCells Ms.zero) ∧ Below w.heap.size w w3 := fun w3 h3 =>
        ⟨b0.keep (h3.block _ b0.lt (by omega)), b1.keep (h3.block _ b1.lt (by omega)), hbl.trans (h3.below hbl.size (fun i hi => by omega))⟩
      generalize hLL : Ms.look (g k) k (Ms.bestTo g k) = L at *
      obtain ⟨le, lm⟩ := L
      simp only at hnext hcode
      have HN := Lib.hid (And.intro hlook (And.intro hnext (And.intro hfr (And.intro hz (And.intro hLL hcode)))))
      clear hlook hnext hfr hz hcode hLL b0 b1 b2 hbl
      go_wp2_with fail
      refine HN.out.1.mono ?_
      rintro e w3 ⟨rfl, hb3, hf3⟩
      obtain ⟨a0, a1, a2⟩ := HN.out.2.2.1 w3 hf3
      simp only at hb3 ⊢
      by_cases hle : le = 0
      · subst hle
        have H3 := Lib.hid (And.intro hb3 (And.intro a0 (And.intro a1 a2)))
        clear hb3 hf3 a0 a1 a2
        go_wp2
        go_roundw
        case rel =>
          refine ⟨k + 1, by omega, by go_num, fun j hj => ?_, H3.out.2.1, H3.out.2.2.1, ?_, H3.out.2.2.2⟩
          · by_cases hjk : j = k
            · subst hjk; rw [HN.out.2.2.2.2.1]
            · exact HN.out.2.2.2.1 j (by omega)
          · rw [HN.out.2.1]; exact H3.out.1
        case measure => simp [intOf]; omega
      · have hne : ((le : Int) != 0) = true := by rw [bne_iff_ne]; omega
        have hRR := HN.out.2.2.2.2.2 hle
        subst hRR
        have z0 : w3.cell? ⟨w.heap.size + 1, 0, none⟩ = some (.int .i64 0) := a1.cell 0
        have z1 : w3.cell? ⟨w.heap.size + 1, 1, none⟩ = some (.int .i64 0) := a1.cell 1
        have z2 : w3.cell? ⟨w.heap.size + 1, 2, none⟩ = some (.int .i64 0) := a1.cell 2
        have z3 : w3.cell? ⟨w.heap.size + 1, 3, none⟩ = some (.int .i64 0) := a1.cell 3
        have z4 : w3.cell? ⟨w.heap.size + 1, 4, none⟩ = some (.int .i64 0) := a1.cell 4
        have zf := fun i => a1.free i
        have H3 := Lib.hid (And.intro a1 a2)
        clear hb3 hf3 a0 a1 a2 hle
        go_wp2
        obtain ⟨⟨y0, y1, y2, y3, y4⟩, hbe⟩ := ended 0 0 0 0 0 H3.out.1 H3.out.2 (by omega)
        simp [bodyPost, results, Try.results28, go_sem, y0, y1, y2, y3, y4, mCells, Ms.zero]
        exact hbe
    · obtain rfl : k = 2 := by omega
      have hRR : R = if (Ms.bestTo g 2).gen = 0 then (Ms.zero, 60) else (Ms.bestTo g 2, 0) := by
        rw [← HR.out]
        unfold Ms.load
        have h0 : (Ms.look (g 0) 0 Ms.zero).1 = 0 := hz 0 (by omega)
        have h1 : (Ms.look (g 1) 1 (Ms.look (g 0) 0 Ms.zero).2).1 = 0 := hz 1 (by omega)
        rw [if_neg (by rw [h0]; simp), if_neg (by rw [h1]; simp)]
        rfl
      generalize Ms.bestTo g 2 = m at *
      have z0 : wr.cell? ⟨w.heap.size + 1, 0, none⟩ = some (.int .i64 0) := b1.cell 0
      have z1 : wr.cell? ⟨w.heap.size + 1, 1, none⟩ = some (.int .i64 0) := b1.cell 1
      have z2 : wr.cell? ⟨w.heap.size + 1, 2, none⟩ = some (.int .i64 0) := b1.cell 2
      have z3 : wr.cell? ⟨w.heap.size + 1, 3, none⟩ = some (.int .i64 0) := b1.cell 3
      have z4 : wr.cell? ⟨w.heap.size + 1, 4, none⟩ = some (.int .i64 0) := b1.cell 4
      have zf := fun i => b1.free i
      have c0 : wr.cell? ⟨w.heap.size + 2, 0, none⟩ = some (.int .i64 m.gen) := b2.cell 0
      have c1 : wr.cell? ⟨w.heap.size + 2, 1, none⟩ = some (.int .i64 m.inc) := b2.cell 1
      have c2 : wr.cell? ⟨w.heap.size + 2, 2, none⟩ = some (.int .i64 m.first) := b2.cell 2
      have c3 : wr.cell? ⟨w.heap.size + 2, 3, none⟩ = some (.int .i64 m.lsn) := b2.cell 3
      have c4 : wr.cell? ⟨w.heap.size + 2, 4, none⟩ = some (.int .i64 m.check) := b2.cell 4
      have H3 := Lib.hid (And.intro b1 hbl)
      clear hz b0 b1 b2 hbl
      by_cases hgz : m.gen = 0
      · rw [if_pos hgz] at hRR
        subst hRR
        have hg : (m.gen == 0) = true := by simp [hgz]
        clear hgz
        go_wp2
        obtain ⟨⟨y0, y1, y2, y3, y4⟩, hbe⟩ := ended 0 0 0 0 0 H3.out.1 H3.out.2 (by omega)
        simp [bodyPost, results, Try.results28, go_sem, y0, y1, y2, y3, y4, mCells, Ms.zero]
        exact hbe
      · rw [if_neg hgz] at hRR
        subst hRR
        have hg : (m.gen == 0) = false := by simp [hgz]
        clear hgz
        go_wp2
        obtain ⟨⟨y0, y1, y2, y3, y4⟩, hbe⟩ := ended m.gen m.inc m.first m.lsn m.check H3.out.1 H3.out.2 (by omega)
        simp [bodyPost, results, Try.results28, go_sem, y0, y1, y2, y3, y4, mCells]
        exact hbe
end Go.Proofs.Ytfcmlfcpgboigaa
