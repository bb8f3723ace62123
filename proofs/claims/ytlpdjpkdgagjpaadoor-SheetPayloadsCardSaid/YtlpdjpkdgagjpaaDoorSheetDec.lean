/- A sheet's payload is read. -/
import Derived.Test.YtlpdjpkdgagjpaaDoorSheetREnc
namespace Go.Proofs.YtlpdjpkdgagjpaaDoor
open Go.RowKit Mem Lift
set_option linter.unusedVariables false
set_option linter.unusedSimpArgs false
set_option maxRecDepth 100000

def DecSP (w : World) (r : Sh.Sd × Nat) (e : Ending) (w' : World) : Prop := e = .returned (.tuple #[sdVal r.1, .int .i64 (r.2 : Nat)]) ∧ Below w.heap.size w w'
/-- one store of a sheet -/
theorem sd_put {w : World} {b : Nat} {s0 : Sh.Sd} (h : Blk w b 47 (sdCells s0)) (s : Sh.Sd) :
    Blk ((((w.setCell ⟨b, 0, none⟩ (.int .i64 s.inc)).setCell ⟨b, 1, none⟩ (.int .i64 s.pos)).setCell ⟨b, 2, none⟩ (.int .i64 s.first)).setCell ⟨b, 3, none⟩ (.string ⟨s.data.toArray⟩)) b 47 (sdCells s) ∧
    ∀ w0 : World, Below w0.heap.size w0 w → w0.heap.size ≤ b → Below w0.heap.size w0 ((((w.setCell ⟨b, 0, none⟩ (.int .i64 s.inc)).setCell ⟨b, 1, none⟩ (.int .i64 s.pos)).setCell ⟨b, 2, none⟩ (.int .i64 s.first)).setCell ⟨b, 3, none⟩ (.string ⟨s.data.toArray⟩)) :=
  ⟨(((h.put 0 (.int .i64 s.inc)).put 1 (.int .i64 s.pos)).put 2 (.int .i64 s.first)).put 3 (.string ⟨s.data.toArray⟩), fun w0 hb hge => (((hb.setCell (by simpa using hge) _).setCell (by simpa using hge) _).setCell (by simpa using hge) _).setCell (by simpa using hge) _⟩
theorem sd_cells {w : World} {b : Nat} {s : Sh.Sd} (h : Blk w b 47 (sdCells s)) : w.cell? ⟨b, 0, none⟩ = some (.int .i64 s.inc) ∧ w.cell? ⟨b, 1, none⟩ = some (.int .i64 s.pos) ∧ w.cell? ⟨b, 2, none⟩ = some (.int .i64 s.first) ∧ w.cell? ⟨b, 3, none⟩ = some (.string ⟨s.data.toArray⟩) ∧
    w.frozen? ⟨b, 0, none⟩ = false ∧ w.frozen? ⟨b, 1, none⟩ = false ∧ w.frozen? ⟨b, 2, none⟩ = false ∧ w.frozen? ⟨b, 3, none⟩ = false := ⟨h.cell 0, h.cell 1, h.cell 2, h.cell 3, h.free 0, h.free 1, h.free 2, h.free 3⟩
set_option maxHeartbeats 8000000 in
theorem sdec_any (A : Option Addr) (n c : Nat) (bs : List UInt8) (w : World) (hbs : BS w A n bs) (hn : n ≤ 100000) (hnc : n ≤ c) (hcm : c ≤ 9223372036854775807) :
    Calls Tryd.prog 26 #[.slice A n c] w (DecSP w (Sh.decS bs)) := by
  have hb0 : Below w.heap.size w (w.alloc (.cells (sdCells Sh.sd0) 47)) := (Below.refl _ _).alloc (Nat.le_refl _) _
  have hk0 := Blk.new w 47 (sdCells Sh.sd0)
  have hb1 := hbs.below hb0
  have hln := hbs.1
  obtain ⟨R, hR⟩ : ∃ R, R = Sh.decS bs := ⟨_, rfl⟩
  rw [← hR]
  unfold Sh.decS at hR
  dsimp only [sdCells, Sh.sd0] at hb0 hk0 hb1
  by_cases h12 : n < 12
  · rw [if_pos (by omega)] at hR
    have H := Lib.hid (And.intro hb0 (And.intro hk0 hR))
    clear hb0 hk0 hb1 hR hbs hln
    go_enter Tryd.func26, Tryd.ntmps26
    go_wp2_with fail
    exact bodyPost_ret (v := .tuple #[sdVal Sh.sd0, .int .i64 10]) (by simp [results, Tryd.results26, go_sem, sdVal, sdCells, Sh.sd0]) rfl (by rw [H.out.2.2]; exact ⟨rfl, H.out.1⟩)
  · rw [← hln] at h12
    have h11 : 11 < n := by omega
    obtain ⟨b, off, rfl, hlt, hcl⟩ := hb1.2 (by omega)
    have c11 := hcl 11 (by omega)
    have c10 := hcl 10 (by omega)
    obtain ⟨k, hk⟩ : ∃ k, k = (bs.getD 11 0).toNat := ⟨_, rfl⟩
    have hk256 : k < 256 := by rw [hk]; exact (bs.getD 11 0).toNat_lt
    have c11' : (w.alloc (.cells #[.int .i64 0, .int .i64 0, .int .i64 0, .string ⟨#[]⟩] 47)).cell? ⟨b, off + 11, none⟩ = some (.int .u8 (k : Int)) := by rw [c11, hk]
    rw [← hk] at hR
    by_cases hsh : n < 12 + k
    · rw [if_pos (by omega)] at hR
      have H := Lib.hid (And.intro hb0 (And.intro hk0 hR))
      clear hb0 hk0 hb1 hR hbs hln hcl c11 c10 hk
      go_enter Tryd.func26, Tryd.ntmps26
      go_wp2_with fail
      exact bodyPost_ret (v := .tuple #[sdVal Sh.sd0, .int .i64 10]) (by simp [results, Tryd.results26, go_sem, sdVal, sdCells, Sh.sd0]) rfl (by rw [H.out.2.2]; exact ⟨rfl, H.out.1⟩)
    · rw [if_neg (by omega)] at hR
      have hrd : Sh.readS bs = ⟨(Num.unwide (bs.take 5) : Nat), (Num.unwide ((bs.drop 5).take 5) : Nat), ((bs.getD 10 0).toNat : Nat), (bs.drop 12).take k⟩ := by rw [hk]; rfl
      obtain ⟨f, hf⟩ : ∃ f, f = (bs.getD 10 0).toNat := ⟨_, rfl⟩
      have hf256 : f < 256 := by rw [hf]; exact (bs.getD 10 0).toNat_lt
      rw [← hf] at hrd
      have c10' : (w.alloc (.cells #[.int .i64 0, .int .i64 0, .int .i64 0, .string ⟨#[]⟩] 47)).cell? ⟨b, off + 10, none⟩ = some (.int .u8 (f : Int)) := by rw [c10, hf]
      have hsub := subA_bs hb1 c 5 n (by omega) (Nat.le_refl _) hnc
      rw [List.take_of_length_le (l := bs.drop 5) (by rw [List.length_drop]; omega)] at hsub
      have ht1 := takeWide_ok (some ⟨b, off, none⟩) n c 5 bs _ hb1 hnc (by unfold maxLen; omega) (by omega) (by omega) (by omega)
      have ht2 := takeWide_ok (subA (some ⟨b, off, none⟩) c 5) (n - 5) (c - 5) 5 (bs.drop 5) _ hsub (by omega) (by unfold maxLen; omega) (by omega) (by omega) (by omega)
      have u1 := Num.unwide_lt (bs.take 5)
      have u2 := Num.unwide_lt ((bs.drop 5).take 5)
      rw [List.length_take, Nat.min_eq_left (by omega), show (256 : Nat) ^ 5 = 1099511627776 by decide] at u1
      rw [List.length_take, List.length_drop, Nat.min_eq_left (by omega), show (256 : Nat) ^ 5 = 1099511627776 by decide] at u2
      have hbd := subA_bs hb1 c 12 (12 + k) (by omega) (by omega) hnc
      rw [show 12 + k - 12 = k by omega] at hbd
      generalize Num.unwide (bs.take 5) = X at *
      generalize Num.unwide ((bs.drop 5).take 5) = Y at *
      generalize (bs.drop 12).take k = dt at *
      have hcut5 := fun W => cut_l (some ⟨b, off, none⟩) n c 5 5 rfl (by omega) W
      have hcutd : ∀ W, (Instr.slice 38 (.slice (some ⟨b, off, none⟩) n c) (some (.int .i64 12)) (some (.int .i64 (12 + (k : Int)))) none).run Tryd.prog W = .ok (.slice (subA (some ⟨b, off, none⟩) c 12) k (c - 12)) W := fun W => by
        have h := cut_lh (some ⟨b, off, none⟩) n c 12 (12 + k) 12 (12 + (k : Int)) rfl (by omega) (by omega) (by omega) W
        rwa [show 12 + k - 12 = k by omega] at h
      have hcut2 : ∀ W, (Instr.slice 38 (.slice (some ⟨b, off, none⟩) n c) (some (.int .i64 12)) (some (.int .i64 (IntKind.i64.wrap (12 + (k : Int))))) none).run Tryd.prog W = .ok (.slice (subA (some ⟨b, off, none⟩) c 12) k (c - 12)) W := fun W => by
        rw [show IntKind.i64.wrap (12 + (k : Int)) = 12 + (k : Int) by rw [IntKind.wrap_i64]; omega]; exact hcutd W
      have hcut3 : ∀ W, (Instr.slice 38 (.slice (some ⟨b, off, none⟩) n c) (some (.int .i64 12)) (some (.int .i64 (IntKind.i64.wrap (12 + IntKind.i64.wrap (k : Int))))) none).run Tryd.prog W = .ok (.slice (subA (some ⟨b, off, none⟩) c 12) k (c - 12)) W := fun W => by
        rw [show IntKind.i64.wrap (k : Int) = (k : Int) by rw [IntKind.wrap_i64]; omega]; exact hcut2 W
      have hs1 : (w.alloc (.cells #[.int .i64 0, .int .i64 0, .int .i64 0, .string ⟨#[]⟩] 47)).heap.size = w.heap.size + 1 := by simp
      have hcv1 := conv_bytes0 hbd (c - 12) (w.alloc (.cells #[.int .i64 0, .int .i64 0, .int .i64 0, .string ⟨#[]⟩] 47)).drew (fun _ => rfl)
      have hbx := hbd.below ((Below.refl _ (w.alloc (.cells #[.int .i64 0, .int .i64 0, .int .i64 0, .string ⟨#[]⟩] 47))).alloc (Nat.le_refl _) (.cells #[.int .i64 0, .int .i64 0, .int .i64 0, .string ⟨#[]⟩] 47))
      have hcv2 := conv_bytes0 hbx (c - 12) ((w.alloc (.cells #[.int .i64 0, .int .i64 0, .int .i64 0, .string ⟨#[]⟩] 47)).alloc (.cells #[.int .i64 0, .int .i64 0, .int .i64 0, .string ⟨#[]⟩] 47)).drew (fun _ => rfl)
      unfold str at hcv1 hcv2
      have hwx : IntKind.i64.wrap (X : Int) = (X : Int) := by rw [IntKind.wrap_i64]; omega
      have hwy : IntKind.i64.wrap (Y : Int) = (Y : Int) := by rw [IntKind.wrap_i64]; omega
      have hwf : IntKind.i64.wrap (f : Int) = (f : Int) := by rw [IntKind.wrap_i64]; omega
      have HW := Lib.hid (And.intro hwx (And.intro hwy hwf))
      have hmy : ∀ W, Calls Tryd.prog 44 #[sdVal ⟨X, Y, f, dt⟩] W fun e w' => e = .returned (.bool (Sh.mayS ⟨X, Y, f, dt⟩)) ∧ Below W.heap.size W w' := fun W => smay_any ⟨X, Y, f, dt⟩ W (by simp only; omega)
      simp only [sdVal, sdCells] at hmy
      have H := Lib.hid (And.intro hb0 (And.intro hk0 (And.intro ht1 (And.intro ht2 (And.intro hmy (And.intro hrd hR))))))
      have HX := Lib.hid hs1
      clear hb0 hk0 hb1 hR hbs hln hcl c11 c10 hk ht1 ht2 hmy hrd hf hwx hwy hwf hbd hsub hbx hs1
      go_enter Tryd.func26, Tryd.ntmps26
      go_wp2_with fail
      generalize w.alloc (.cells #[.int .i64 0, .int .i64 0, .int .i64 0, .string ⟨#[]⟩] 47) = w1 at *
      refine H.out.2.2.1.mono ?_
      rintro e w2 ⟨rfl, rfl⟩
      go_wp2_with fail
      refine H.out.2.2.2.1.mono ?_
      rintro e w2 ⟨rfl, rfl⟩
      go_wp2_with fail
      have hi10 : (10 : Int) < (n : Int) := by omega
      have hi11 : (11 : Int) < (n : Int) := by omega
      go_cut [9] (fun s9 wx => s9 = .pointer (some ⟨w1.heap.size, 0, none⟩) ∧ RowKit.Hid (Below w1.heap.size w1 wx ∧ Blk wx w1.heap.size 47 (sdCells ⟨X, Y, f, dt⟩)))
      case first =>
        go_region_law (fail)
        all_goals
          go_wp2_with fail
          go_meet
          case rel => exact ⟨rfl, Lib.hid ⟨((Below.refl _ _).alloc (Nat.le_refl _) _).drew, by rw [HW.out.1, HW.out.2.1, HW.out.2.2]; exact Blk.new w1 _ _⟩⟩
      case rest =>
        obtain ⟨rfl, hx3⟩ := hcut
        obtain ⟨hb3, hk3⟩ := hx3.out
        have hr3 : Blk wc w.heap.size 47 (sdCells Sh.sd0) := H.out.2.1.below hb3 H.out.2.1.lt
        clear hx3
        simp only [sdCells] at hb3 hk3 hr3
        obtain ⟨w3, rfl⟩ : ∃ w3, w3 = wc := ⟨_, rfl⟩
        have s0 : w3.cell? ⟨w1.heap.size, 0, none⟩ = some (.int .i64 X) := hk3.cell 0
        have s1 : w3.cell? ⟨w1.heap.size, 1, none⟩ = some (.int .i64 Y) := hk3.cell 1
        have s2 : w3.cell? ⟨w1.heap.size, 2, none⟩ = some (.int .i64 f) := hk3.cell 2
        have s3 : w3.cell? ⟨w1.heap.size, 3, none⟩ = some (.string ⟨dt.toArray⟩) := hk3.cell 3
        have H3 := Lib.hid (And.intro hk3 (And.intro hr3 (below_of H.out.1 H.out.1.size hb3)))
        clear hk3 hr3 hb3 c10' c11' hcv1 hcv2 hcut5 hcutd hcut2 hcut3
        go_wp2_with fail
        refine (H.out.2.2.2.2.1 _).mono ?_
        rintro e w4 ⟨rfl, hb4⟩
        have hk4 : Blk w4 w1.heap.size 47 (sdCells ⟨X, Y, f, dt⟩) := H3.out.1.below hb4 H3.out.1.lt
        have hr4 : Blk w4 w.heap.size 47 (sdCells Sh.sd0) := H3.out.2.1.below hb4 H3.out.2.1.lt
        have hbb4 := below_of H3.out.2.2 H3.out.2.2.size hb4
        obtain ⟨a0, a1, a2, a3, _⟩ := sd_cells hk4
        obtain ⟨r0, r1, r2, r3, f0, f1, f2, f3⟩ := sd_cells hr4
        dsimp only at a0 a1 a2 a3
        have H4 := Lib.hid (And.intro hk4 (And.intro hr4 hbb4))
        have hRR := H.out.2.2.2.2.2.2
        rw [H.out.2.2.2.2.2.1] at hRR
        clear hk4 hr4 hbb4 hb4 s0 s1 s2 s3
        cases hmm : Sh.mayS ⟨X, Y, f, dt⟩ with
        | false =>
          rw [hmm, if_neg (by decide)] at hRR
          obtain ⟨g1, g2⟩ := sd_put H4.out.2.1 Sh.sd0
          have g3 := g2 w H4.out.2.2 (Nat.le_refl _)
          have HR := Lib.hid hRR
          clear hRR g2
          dsimp only [Sh.sd0] at g1 g3 r0 r1 r2 r3
          have HG := Lib.hid (And.intro g1 g3)
          clear g1 g3
          go_wp2_with fail
          generalize ((((w4.setCell ⟨w.heap.size, 0, none⟩ (.int .i64 0)).setCell ⟨w.heap.size, 1, none⟩ (.int .i64 0)).setCell ⟨w.heap.size, 2, none⟩ (.int .i64 0)).setCell ⟨w.heap.size, 3, none⟩ (.string ⟨#[]⟩)) = w9 at *
          have z0 : w9.cell? ⟨w.heap.size, 0, none⟩ = some (.int .i64 0) := HG.out.1.cell 0
          have z1 : w9.cell? ⟨w.heap.size, 1, none⟩ = some (.int .i64 0) := HG.out.1.cell 1
          have z2 : w9.cell? ⟨w.heap.size, 2, none⟩ = some (.int .i64 0) := HG.out.1.cell 2
          have z3 : w9.cell? ⟨w.heap.size, 3, none⟩ = some (.string ⟨#[]⟩) := HG.out.1.cell 3
          exact bodyPost_ret (v := .tuple #[sdVal Sh.sd0, .int .i64 11]) (by simp [results, Tryd.results26, go_sem, sdVal, sdCells, Sh.sd0, z0, z1, z2, z3]) rfl (by rw [HR.out]; exact ⟨rfl, HG.out.2⟩)
        | true =>
          rw [hmm, if_pos rfl] at hRR
          obtain ⟨g1, g2⟩ := sd_put H4.out.2.1 ⟨X, Y, f, dt⟩
          have g3 := g2 w H4.out.2.2 (Nat.le_refl _)
          have HR := Lib.hid hRR
          clear hRR g2
          dsimp only at g1 g3
          have HG := Lib.hid (And.intro g1 g3)
          clear g1 g3
          go_wp2_with fail
          generalize ((((w4.setCell ⟨w.heap.size, 0, none⟩ (.int .i64 X)).setCell ⟨w.heap.size, 1, none⟩ (.int .i64 Y)).setCell ⟨w.heap.size, 2, none⟩ (.int .i64 f)).setCell ⟨w.heap.size, 3, none⟩ (.string ⟨dt.toArray⟩)) = w9 at *
          have z0 : w9.cell? ⟨w.heap.size, 0, none⟩ = some (.int .i64 X) := HG.out.1.cell 0
          have z1 : w9.cell? ⟨w.heap.size, 1, none⟩ = some (.int .i64 Y) := HG.out.1.cell 1
          have z2 : w9.cell? ⟨w.heap.size, 2, none⟩ = some (.int .i64 f) := HG.out.1.cell 2
          have z3 : w9.cell? ⟨w.heap.size, 3, none⟩ = some (.string ⟨dt.toArray⟩) := HG.out.1.cell 3
          exact bodyPost_ret (v := .tuple #[sdVal ⟨X, Y, f, dt⟩, .int .i64 0]) (by simp [results, Tryd.results26, go_sem, sdVal, sdCells, z0, z1, z2, z3]) rfl (by rw [HR.out]; exact ⟨rfl, HG.out.2⟩)
set_option maxHeartbeats 8000000 in
theorem rsdec_any (A : Option Addr) (n c : Nat) (bs : List UInt8) (w : World) (hbs : BS w A n bs) (hn : n ≤ 100000) (hnc : n ≤ c) (hcm : c ≤ 9223372036854775807) :
    Calls Tryd.prog 27 #[.slice A n c] w (DecSP w (Sh.decS bs)) := by
  have hb0 : Below w.heap.size w (w.alloc (.cells (sdCells Sh.sd0) 47)) := (Below.refl _ _).alloc (Nat.le_refl _) _
  have hk0 := Blk.new w 47 (sdCells Sh.sd0)
  have hb1 := hbs.below hb0
  have hln := hbs.1
  obtain ⟨R, hR⟩ : ∃ R, R = Sh.decS bs := ⟨_, rfl⟩
  rw [← hR]
  unfold Sh.decS at hR
  dsimp only [sdCells, Sh.sd0] at hb0 hk0 hb1
  by_cases h12 : n < 12
  · rw [if_pos (by omega)] at hR
    have H := Lib.hid (And.intro hb0 (And.intro hk0 hR))
    clear hb0 hk0 hb1 hR hbs hln
    go_enter Tryd.func27, Tryd.ntmps27
    go_wp2_with fail
    exact bodyPost_ret (v := .tuple #[sdVal Sh.sd0, .int .i64 10]) (by simp [results, Tryd.results27, go_sem, sdVal, sdCells, Sh.sd0]) rfl (by rw [H.out.2.2]; exact ⟨rfl, H.out.1⟩)
  · rw [← hln] at h12
    have h11 : 11 < n := by omega
    obtain ⟨b, off, rfl, hlt, hcl⟩ := hb1.2 (by omega)
    have c11 := hcl 11 (by omega)
    have c10 := hcl 10 (by omega)
    obtain ⟨k, hk⟩ : ∃ k, k = (bs.getD 11 0).toNat := ⟨_, rfl⟩
    have hk256 : k < 256 := by rw [hk]; exact (bs.getD 11 0).toNat_lt
    have c11' : (w.alloc (.cells #[.int .i64 0, .int .i64 0, .int .i64 0, .string ⟨#[]⟩] 47)).cell? ⟨b, off + 11, none⟩ = some (.int .u8 (k : Int)) := by rw [c11, hk]
    rw [← hk] at hR
    by_cases hsh : n < 12 + k
    · rw [if_pos (by omega)] at hR
      have H := Lib.hid (And.intro hb0 (And.intro hk0 hR))
      clear hb0 hk0 hb1 hR hbs hln hcl c11 c10 hk
      go_enter Tryd.func27, Tryd.ntmps27
      go_wp2_with fail
      exact bodyPost_ret (v := .tuple #[sdVal Sh.sd0, .int .i64 10]) (by simp [results, Tryd.results27, go_sem, sdVal, sdCells, Sh.sd0]) rfl (by rw [H.out.2.2]; exact ⟨rfl, H.out.1⟩)
    · rw [if_neg (by omega)] at hR
      have hrd : Sh.readS bs = ⟨(Num.unwide (bs.take 5) : Nat), (Num.unwide ((bs.drop 5).take 5) : Nat), ((bs.getD 10 0).toNat : Nat), (bs.drop 12).take k⟩ := by rw [hk]; rfl
      obtain ⟨f, hf⟩ : ∃ f, f = (bs.getD 10 0).toNat := ⟨_, rfl⟩
      have hf256 : f < 256 := by rw [hf]; exact (bs.getD 10 0).toNat_lt
      rw [← hf] at hrd
      have c10' : (w.alloc (.cells #[.int .i64 0, .int .i64 0, .int .i64 0, .string ⟨#[]⟩] 47)).cell? ⟨b, off + 10, none⟩ = some (.int .u8 (f : Int)) := by rw [c10, hf]
      have hsub := subA_bs hb1 c 5 n (by omega) (Nat.le_refl _) hnc
      rw [List.take_of_length_le (l := bs.drop 5) (by rw [List.length_drop]; omega)] at hsub
      have ht1 := refTakeWide_ok (some ⟨b, off, none⟩) n c 5 bs _ hb1 (by omega) (by omega) (by omega)
      have ht2 := refTakeWide_ok (subA (some ⟨b, off, none⟩) c 5) (n - 5) (c - 5) 5 (bs.drop 5) _ hsub (by omega) (by omega) (by omega)
      have u1 := Num.unwide_lt (bs.take 5)
      have u2 := Num.unwide_lt ((bs.drop 5).take 5)
      rw [List.length_take, Nat.min_eq_left (by omega), show (256 : Nat) ^ 5 = 1099511627776 by decide] at u1
      rw [List.length_take, List.length_drop, Nat.min_eq_left (by omega), show (256 : Nat) ^ 5 = 1099511627776 by decide] at u2
      have hbd := subA_bs hb1 c 12 (12 + k) (by omega) (by omega) hnc
      rw [show 12 + k - 12 = k by omega] at hbd
      generalize Num.unwide (bs.take 5) = X at *
      generalize Num.unwide ((bs.drop 5).take 5) = Y at *
      generalize (bs.drop 12).take k = dt at *
      have hcut5 := fun W => cut_l (some ⟨b, off, none⟩) n c 5 5 rfl (by omega) W
      have hcutd : ∀ W, (Instr.slice 38 (.slice (some ⟨b, off, none⟩) n c) (some (.int .i64 12)) (some (.int .i64 (12 + (k : Int)))) none).run Tryd.prog W = .ok (.slice (subA (some ⟨b, off, none⟩) c 12) k (c - 12)) W := fun W => by
        have h := cut_lh (some ⟨b, off, none⟩) n c 12 (12 + k) 12 (12 + (k : Int)) rfl (by omega) (by omega) (by omega) W
        rwa [show 12 + k - 12 = k by omega] at h
      have hcut2 : ∀ W, (Instr.slice 38 (.slice (some ⟨b, off, none⟩) n c) (some (.int .i64 12)) (some (.int .i64 (IntKind.i64.wrap (12 + (k : Int))))) none).run Tryd.prog W = .ok (.slice (subA (some ⟨b, off, none⟩) c 12) k (c - 12)) W := fun W => by
        rw [show IntKind.i64.wrap (12 + (k : Int)) = 12 + (k : Int) by rw [IntKind.wrap_i64]; omega]; exact hcutd W
      have hcut3 : ∀ W, (Instr.slice 38 (.slice (some ⟨b, off, none⟩) n c) (some (.int .i64 12)) (some (.int .i64 (IntKind.i64.wrap (12 + IntKind.i64.wrap (k : Int))))) none).run Tryd.prog W = .ok (.slice (subA (some ⟨b, off, none⟩) c 12) k (c - 12)) W := fun W => by
        rw [show IntKind.i64.wrap (k : Int) = (k : Int) by rw [IntKind.wrap_i64]; omega]; exact hcut2 W
      have hs1 : (w.alloc (.cells #[.int .i64 0, .int .i64 0, .int .i64 0, .string ⟨#[]⟩] 47)).heap.size = w.heap.size + 1 := by simp
      have hcv1 := conv_bytes0 hbd (c - 12) (w.alloc (.cells #[.int .i64 0, .int .i64 0, .int .i64 0, .string ⟨#[]⟩] 47)).drew (fun _ => rfl)
      have hbx := hbd.below ((Below.refl _ (w.alloc (.cells #[.int .i64 0, .int .i64 0, .int .i64 0, .string ⟨#[]⟩] 47))).alloc (Nat.le_refl _) (.cells #[.int .i64 0, .int .i64 0, .int .i64 0, .string ⟨#[]⟩] 47))
      have hcv2 := conv_bytes0 hbx (c - 12) ((w.alloc (.cells #[.int .i64 0, .int .i64 0, .int .i64 0, .string ⟨#[]⟩] 47)).alloc (.cells #[.int .i64 0, .int .i64 0, .int .i64 0, .string ⟨#[]⟩] 47)).drew (fun _ => rfl)
      unfold str at hcv1 hcv2
      have hwx : IntKind.i64.wrap (X : Int) = (X : Int) := by rw [IntKind.wrap_i64]; omega
      have hwy : IntKind.i64.wrap (Y : Int) = (Y : Int) := by rw [IntKind.wrap_i64]; omega
      have hwf : IntKind.i64.wrap (f : Int) = (f : Int) := by rw [IntKind.wrap_i64]; omega
      have HW := Lib.hid (And.intro hwx (And.intro hwy hwf))
      have hmy : ∀ W, Calls Tryd.prog 45 #[sdVal ⟨X, Y, f, dt⟩] W fun e w' => e = .returned (.bool (Sh.mayS ⟨X, Y, f, dt⟩)) ∧ Below W.heap.size W w' := fun W => rmay8_any ⟨X, Y, f, dt⟩ W (by simp only; omega)
      simp only [sdVal, sdCells] at hmy
      have H := Lib.hid (And.intro hb0 (And.intro hk0 (And.intro ht1 (And.intro ht2 (And.intro hmy (And.intro hrd hR))))))
      have HX := Lib.hid hs1
      clear hb0 hk0 hb1 hR hbs hln hcl c11 c10 hk ht1 ht2 hmy hrd hf hwx hwy hwf hbd hsub hbx hs1
      go_enter Tryd.func27, Tryd.ntmps27
      go_wp2_with fail
      generalize w.alloc (.cells #[.int .i64 0, .int .i64 0, .int .i64 0, .string ⟨#[]⟩] 47) = w1 at *
      refine H.out.2.2.1.mono ?_
      rintro e w2 ⟨rfl, rfl⟩
      go_wp2_with fail
      refine H.out.2.2.2.1.mono ?_
      rintro e w2 ⟨rfl, rfl⟩
      go_wp2_with fail
      have hi10 : (10 : Int) < (n : Int) := by omega
      have hi11 : (11 : Int) < (n : Int) := by omega
      go_cut [8] (fun s9 wx => s9 = .pointer (some ⟨w1.heap.size, 0, none⟩) ∧ RowKit.Hid (Below w1.heap.size w1 wx ∧ Blk wx w1.heap.size 47 (sdCells ⟨X, Y, f, dt⟩)))
      case first =>
        go_region_law (fail)
        all_goals
          go_wp2_with fail
          go_meet
          case rel => exact ⟨rfl, Lib.hid ⟨((Below.refl _ _).alloc (Nat.le_refl _) _).drew, by rw [HW.out.1, HW.out.2.1, HW.out.2.2]; exact Blk.new w1 _ _⟩⟩
      case rest =>
        obtain ⟨rfl, hx3⟩ := hcut
        obtain ⟨hb3, hk3⟩ := hx3.out
        have hr3 : Blk wc w.heap.size 47 (sdCells Sh.sd0) := H.out.2.1.below hb3 H.out.2.1.lt
        clear hx3
        simp only [sdCells] at hb3 hk3 hr3
        obtain ⟨w3, rfl⟩ : ∃ w3, w3 = wc := ⟨_, rfl⟩
        have s0 : w3.cell? ⟨w1.heap.size, 0, none⟩ = some (.int .i64 X) := hk3.cell 0
        have s1 : w3.cell? ⟨w1.heap.size, 1, none⟩ = some (.int .i64 Y) := hk3.cell 1
        have s2 : w3.cell? ⟨w1.heap.size, 2, none⟩ = some (.int .i64 f) := hk3.cell 2
        have s3 : w3.cell? ⟨w1.heap.size, 3, none⟩ = some (.string ⟨dt.toArray⟩) := hk3.cell 3
        have H3 := Lib.hid (And.intro hk3 (And.intro hr3 (below_of H.out.1 H.out.1.size hb3)))
        clear hk3 hr3 hb3 c10' c11' hcv1 hcv2 hcut5 hcutd hcut2 hcut3
        go_wp2_with fail
        refine (H.out.2.2.2.2.1 _).mono ?_
        rintro e w4 ⟨rfl, hb4⟩
        have hk4 : Blk w4 w1.heap.size 47 (sdCells ⟨X, Y, f, dt⟩) := H3.out.1.below hb4 H3.out.1.lt
        have hr4 : Blk w4 w.heap.size 47 (sdCells Sh.sd0) := H3.out.2.1.below hb4 H3.out.2.1.lt
        have hbb4 := below_of H3.out.2.2 H3.out.2.2.size hb4
        obtain ⟨a0, a1, a2, a3, _⟩ := sd_cells hk4
        obtain ⟨r0, r1, r2, r3, f0, f1, f2, f3⟩ := sd_cells hr4
        dsimp only at a0 a1 a2 a3
        have H4 := Lib.hid (And.intro hk4 (And.intro hr4 hbb4))
        have hRR := H.out.2.2.2.2.2.2
        rw [H.out.2.2.2.2.2.1] at hRR
        clear hk4 hr4 hbb4 hb4 s0 s1 s2 s3
        cases hmm : Sh.mayS ⟨X, Y, f, dt⟩ with
        | false =>
          rw [hmm, if_neg (by decide)] at hRR
          obtain ⟨g1, g2⟩ := sd_put H4.out.2.1 Sh.sd0
          have g3 := g2 w H4.out.2.2 (Nat.le_refl _)
          have HR := Lib.hid hRR
          clear hRR g2
          dsimp only [Sh.sd0] at g1 g3 r0 r1 r2 r3
          have HG := Lib.hid (And.intro g1 g3)
          clear g1 g3
          go_wp2_with fail
          generalize ((((w4.setCell ⟨w.heap.size, 0, none⟩ (.int .i64 0)).setCell ⟨w.heap.size, 1, none⟩ (.int .i64 0)).setCell ⟨w.heap.size, 2, none⟩ (.int .i64 0)).setCell ⟨w.heap.size, 3, none⟩ (.string ⟨#[]⟩)) = w9 at *
          have z0 : w9.cell? ⟨w.heap.size, 0, none⟩ = some (.int .i64 0) := HG.out.1.cell 0
          have z1 : w9.cell? ⟨w.heap.size, 1, none⟩ = some (.int .i64 0) := HG.out.1.cell 1
          have z2 : w9.cell? ⟨w.heap.size, 2, none⟩ = some (.int .i64 0) := HG.out.1.cell 2
          have z3 : w9.cell? ⟨w.heap.size, 3, none⟩ = some (.string ⟨#[]⟩) := HG.out.1.cell 3
          exact bodyPost_ret (v := .tuple #[sdVal Sh.sd0, .int .i64 11]) (by simp [results, Tryd.results27, go_sem, sdVal, sdCells, Sh.sd0, z0, z1, z2, z3]) rfl (by rw [HR.out]; exact ⟨rfl, HG.out.2⟩)
        | true =>
          rw [hmm, if_pos rfl] at hRR
          obtain ⟨g1, g2⟩ := sd_put H4.out.2.1 ⟨X, Y, f, dt⟩
          have g3 := g2 w H4.out.2.2 (Nat.le_refl _)
          have HR := Lib.hid hRR
          clear hRR g2
          dsimp only at g1 g3
          have HG := Lib.hid (And.intro g1 g3)
          clear g1 g3
          go_wp2_with fail
          generalize ((((w4.setCell ⟨w.heap.size, 0, none⟩ (.int .i64 X)).setCell ⟨w.heap.size, 1, none⟩ (.int .i64 Y)).setCell ⟨w.heap.size, 2, none⟩ (.int .i64 f)).setCell ⟨w.heap.size, 3, none⟩ (.string ⟨dt.toArray⟩)) = w9 at *
          have z0 : w9.cell? ⟨w.heap.size, 0, none⟩ = some (.int .i64 X) := HG.out.1.cell 0
          have z1 : w9.cell? ⟨w.heap.size, 1, none⟩ = some (.int .i64 Y) := HG.out.1.cell 1
          have z2 : w9.cell? ⟨w.heap.size, 2, none⟩ = some (.int .i64 f) := HG.out.1.cell 2
          have z3 : w9.cell? ⟨w.heap.size, 3, none⟩ = some (.string ⟨dt.toArray⟩) := HG.out.1.cell 3
          exact bodyPost_ret (v := .tuple #[sdVal ⟨X, Y, f, dt⟩, .int .i64 0]) (by simp [results, Tryd.results27, go_sem, sdVal, sdCells, z0, z1, z2, z3]) rfl (by rw [HR.out]; exact ⟨rfl, HG.out.2⟩)
end Go.Proofs.YtlpdjpkdgagjpaaDoor
