/- RecRisRow: joined out of RecRises, RecRow. -/
import Derived.Test.YtlijfnekopjogaaRecMems
import Derived.Deep.LoopGhost
/- RecRises: joined out of RecRise, RecRise2. -/
/- Lists that rise: the program's rising[T], printed by gen_rise.py. -/
namespace Go.Proofs.Ytlijfnekopjogaa
open Go Go.RowKit Mem Rc
set_option maxRecDepth 100000
set_option linter.unusedVariables false
set_option linter.unusedSimpArgs false

set_option maxHeartbeats 4000000 in
theorem rising_lock (A : Option Addr) (n c : Nat) (l : List L) (w : World) (hl : ST lockK w A n l) (hn : n ≤ 1000000) :
    Calls Try.prog 74 #[.slice A n c, .int .i64 64, .func (.func 75) #[] #[], .func (.func 76) #[] #[]] w fun e w' => e = .returned (.bool (rising L.zero 64 (fun x : L => keyOk x.key) (fun a b : L => lt a.key b.key) l)) ∧ Below w.heap.size w w' := by
  have H := Lib.hid (And.intro hl hl.len)
  clear hl
  by_cases h8 : n ≤ 64
  · have hd : decide ((64 : Int) < (n : Int)) = false := by simp; omega
    have HM := Lib.hid (show rising L.zero 64 (fun x : L => keyOk x.key) (fun a b : L => lt a.key b.key) l = ups L.zero (fun x : L => keyOk x.key) (fun a b : L => lt a.key b.key) l by unfold rising; rw [H.out.2, decide_eq_true h8, Bool.true_and])
    go_enter Try.func74, Try.ntmps74
    go_wp2
    go_loopg [17] n (fun gk s wr => ∃ k : Nat, k ≤ n ∧ gk = n - k ∧ s = .int .i64 k ∧ (∀ j, j < k → at_ L.zero (fun x : L => keyOk x.key) (fun a b : L => lt a.key b.key) l j = true) ∧ Below w.heap.size w wr)
    case atStart => exact ⟨0, by omega, by omega, rfl, fun j hj => absurd hj (by omega), Below.refl _ _⟩
    case round =>
      obtain ⟨k, hk, rfl, rfl, hj, hb⟩ := hrel
      by_cases hlt : k < n
      · obtain ⟨b, off, rfl, hbs, c0, c1⟩ := lock_at (H.out.1.below hb) hlt
        have hkn : (k : Int) < (n : Int) := by omega
        cases hok : (fun x : L => keyOk x.key) (l.getD k L.zero) with
        | false =>
          have hf : at_ L.zero (fun x : L => keyOk x.key) (fun a b : L => lt a.key b.key) l k = false := by unfold at_; rw [hok]; rfl
          have HF := Lib.hid (And.intro (HM.out.trans (ups_false (by rw [H.out.2]; exact hlt) hf)) hok)
          have HB := Lib.hid (And.intro hb trivial)
          clear hf hj hok hb
          generalize l.getD k L.zero = x at *
          have HV := HF.out.2
          have HC1 := Lib.hid (show ∀ W, (fun w' => w'.cell? ⟨wr.heap.size, 0, none⟩ = some (.string x.key) ∧ w'.cell? ⟨wr.heap.size, 1, none⟩ = some (.bool x.x) ∧ Below (wr.alloc (.cells (lCells x) 50)).heap.size (wr.alloc (.cells (lCells x) 50)) w') W → Calls Try.prog 75 #[lVal x] W fun e w' => e = .returned (.bool false) ∧ (fun w' => w'.cell? ⟨wr.heap.size, 0, none⟩ = some (.string x.key) ∧ w'.cell? ⟨wr.heap.size, 1, none⟩ = some (.bool x.x) ∧ Below (wr.alloc (.cells (lCells x) 50)).heap.size (wr.alloc (.cells (lCells x) 50)) w') w' from fun W hW => (lockMay_any x W).mono (fun e w' h => ⟨h.1.trans (congrArg (fun b => Ending.returned (Value.bool b)) HV), ⟨cell_below h.2 hW.1, cell_below h.2 hW.2.1, hW.2.2.trans (h.2.mono hW.2.2.size)⟩⟩))
          have HS : (fun w' => w'.cell? ⟨wr.heap.size, 0, none⟩ = some (.string x.key) ∧ w'.cell? ⟨wr.heap.size, 1, none⟩ = some (.bool x.x) ∧ Below (wr.alloc (.cells (lCells x) 50)).heap.size (wr.alloc (.cells (lCells x) 50)) w') (wr.alloc (.cells (lCells x) 50)).drew := ⟨(Blk.new wr 50 (lCells x)).cell 0, (Blk.new wr 50 (lCells x)).cell 1, (Below.refl _ _).drew⟩
          clear HV
          go_wp2_with fail
          refine wp_region_held_drew (S := fun w' => w'.cell? ⟨wr.heap.size, 0, none⟩ = some (.string x.key) ∧ w'.cell? ⟨wr.heap.size, 1, none⟩ = some (.bool x.x) ∧ Below (wr.alloc (.cells (lCells x) 50)).heap.size (wr.alloc (.cells (lCells x) 50)) w') (by kernel_rfl) HS (fun hHeld => ?_)
          refine tk 0 22 (v := .func (.func 75) #[] #[]) (h := ?_)
          refine tk 1 23 (v := lVal x) (h := ?_)
          refine wpAnyH_ready (rs := [2]) (by kernel_rfl) (by simp) ?_
          refine AllReadyH.cons rfl (fun K hK => ?_) AllReadyH.nil
          go_simp
          refine (HC1.out _ (by assumption)).mono ?_
          rintro e wq ⟨rfl, HS⟩
          refine hK.out _ _ (by first | exact HS | (dsimp only; exact HS)) (fun hHeld => ?_)
          clear hK K
          try simp only [Act.put, List.setIfInBounds_toArray, List.set_cons_zero, List.set_cons_succ]
          refine tk 3 25 (v := .bool true) (h := ?_)
          refine tk 4 26 (v := .bool true) (h := ?_)
          refine sk 5 27 (h := ?_)
          refine sk 6 28 (h := ?_)
          refine sk 7 29 (h := ?_)
          refine sk 8 30 (h := ?_)
          refine sk 9 31 (h := ?_)
          refine sk 10 32 (h := ?_)
          refine sk 11 33 (h := ?_)
          refine sk 12 34 (h := ?_)
          refine sk 13 35 (h := ?_)
          refine sk 14 36 (h := ?_)
          refine sk 15 37 (h := ?_)
          refine sk 16 38 (h := ?_)
          refine sk 17 39 (h := ?_)
          refine tk 18 40 (v := .bool true) (h := ?_)
          refine wpAnyH_done (by kernel_rfl) ?_ _
          go_wp2_with fail
          go_ret
          exact ⟨by rw [HF.out.1]; rfl, HB.out.1.trans ((((Below.refl _ _).alloc (Nat.le_refl _) (Obj.cells (lCells x) 50) : Below wr.heap.size wr (wr.alloc (.cells (lCells x) 50))).trans (HS.2.2.mono (by simp))).mono HB.out.1.size)⟩
        | true =>
          rcases Nat.eq_zero_or_pos k with rfl | hkp
          · have hf : at_ L.zero (fun x : L => keyOk x.key) (fun a b : L => lt a.key b.key) l 0 = true := by unfold at_; rw [hok]; rfl
            have HF := Lib.hid (And.intro hf hok)
            have HB := Lib.hid (And.intro hb trivial)
            clear hf hj hok hb
            simp only [Nat.zero_mul, Nat.add_zero] at c0 c1
            generalize l.getD 0 L.zero = x at *
            have HV := HF.out.2
            have HC1 := Lib.hid (show ∀ W, (fun w' => w'.cell? ⟨wr.heap.size, 0, none⟩ = some (.string x.key) ∧ w'.cell? ⟨wr.heap.size, 1, none⟩ = some (.bool x.x) ∧ Below (wr.alloc (.cells (lCells x) 50)).heap.size (wr.alloc (.cells (lCells x) 50)) w') W → Calls Try.prog 75 #[lVal x] W fun e w' => e = .returned (.bool true) ∧ (fun w' => w'.cell? ⟨wr.heap.size, 0, none⟩ = some (.string x.key) ∧ w'.cell? ⟨wr.heap.size, 1, none⟩ = some (.bool x.x) ∧ Below (wr.alloc (.cells (lCells x) 50)).heap.size (wr.alloc (.cells (lCells x) 50)) w') w' from fun W hW => (lockMay_any x W).mono (fun e w' h => ⟨h.1.trans (congrArg (fun b => Ending.returned (Value.bool b)) HV), ⟨cell_below h.2 hW.1, cell_below h.2 hW.2.1, hW.2.2.trans (h.2.mono hW.2.2.size)⟩⟩))
            have HS : (fun w' => w'.cell? ⟨wr.heap.size, 0, none⟩ = some (.string x.key) ∧ w'.cell? ⟨wr.heap.size, 1, none⟩ = some (.bool x.x) ∧ Below (wr.alloc (.cells (lCells x) 50)).heap.size (wr.alloc (.cells (lCells x) 50)) w') (wr.alloc (.cells (lCells x) 50)).drew := ⟨(Blk.new wr 50 (lCells x)).cell 0, (Blk.new wr 50 (lCells x)).cell 1, (Below.refl _ _).drew⟩
            clear HV
            go_wp2_with fail
            refine wp_region_held_drew (S := fun w' => w'.cell? ⟨wr.heap.size, 0, none⟩ = some (.string x.key) ∧ w'.cell? ⟨wr.heap.size, 1, none⟩ = some (.bool x.x) ∧ Below (wr.alloc (.cells (lCells x) 50)).heap.size (wr.alloc (.cells (lCells x) 50)) w') (by kernel_rfl) HS (fun hHeld => ?_)
            refine tk 0 22 (v := .func (.func 75) #[] #[]) (h := ?_)
            refine tk 1 23 (v := lVal x) (h := ?_)
            refine wpAnyH_ready (rs := [2]) (by kernel_rfl) (by simp) ?_
            refine AllReadyH.cons rfl (fun K hK => ?_) AllReadyH.nil
            go_simp
            refine (HC1.out _ (by assumption)).mono ?_
            rintro e wq ⟨rfl, HS⟩
            refine hK.out _ _ (by first | exact HS | (dsimp only; exact HS)) (fun hHeld => ?_)
            clear hK K
            try simp only [Act.put, List.setIfInBounds_toArray, List.set_cons_zero, List.set_cons_succ]
            refine tk 3 25 (v := .bool false) (h := ?_)
            refine tk 4 26 (v := .bool false) (h := ?_)
            refine tk 5 27 (v := .int .i64 0) (h := ?_)
            refine tk 6 28 (v := .bool false) (h := ?_)
            refine tk 7 29 (v := .bool false) (h := ?_)
            refine sk 8 30 (h := ?_)
            refine sk 9 31 (h := ?_)
            refine sk 10 32 (h := ?_)
            refine sk 11 33 (h := ?_)
            refine sk 12 34 (h := ?_)
            refine sk 13 35 (h := ?_)
            refine sk 14 36 (h := ?_)
            refine sk 15 37 (h := ?_)
            refine sk 16 38 (h := ?_)
            refine tk 17 39 (v := .bool false) (h := ?_)
            refine tk 18 40 (v := .bool false) (h := ?_)
            refine wpAnyH_done (by kernel_rfl) ?_ _
            go_wp2_with fail
            go_roundg (n - 1)
            case rel => exact ⟨1, by omega, by omega, rfl, fun j hj => by obtain rfl : j = 0 := by omega
                                                                          exact HF.out.1, HB.out.1.trans ((((Below.refl _ _).alloc (Nat.le_refl _) (Obj.cells (lCells x) 50) : Below wr.heap.size wr (wr.alloc (.cells (lCells x) 50))).trans (HS.2.2.mono (by simp))).mono HB.out.1.size)⟩
            case measure => omega
          · obtain ⟨b', off', e', hbs', e0, e1⟩ := lock_at (H.out.1.below hb) (i := k - 1) (by omega)
            injection e' with e'
            injection e' with e1 e2
            subst e1
            subst e2
            have hkp' : decide ((0 : Int) < (k : Int)) = true := by simp; omega
            have hs0 : IntKind.i64.wrap ((k : Int) - 1) = ((k - 1 : Nat) : Int) := by rw [IntKind.wrap_i64]; omega
            have hs1 : ((k - 1 : Nat) : Int) < (n : Int) := by omega
            have HJ := Lib.hid hj
            have HB := Lib.hid (And.intro hb trivial)
            clear hj hb
            cases hlo : (fun a b : L => lt a.key b.key) (l.getD (k - 1) L.zero) (l.getD k L.zero) with
            | false =>
              have hf : at_ L.zero (fun x : L => keyOk x.key) (fun a b : L => lt a.key b.key) l k = false := by
                unfold at_; rw [hok, hlo, decide_eq_false (by omega : ¬ k = 0)]; rfl
              have HF := Lib.hid (And.intro (HM.out.trans (ups_false (by rw [H.out.2]; exact hlt) hf)) (And.intro hok hlo))
              clear hf hok hlo
              generalize l.getD k L.zero = x at *
              generalize l.getD (k - 1) L.zero = y at *
              generalize k - 1 = j at *
              have HV := HF.out.2.1
              have HC1 := Lib.hid (show ∀ W, (fun w' => w'.cell? ⟨wr.heap.size, 0, none⟩ = some (.string x.key) ∧ w'.cell? ⟨wr.heap.size, 1, none⟩ = some (.bool x.x) ∧ w'.cell? ⟨b, off + j * 2, none⟩ = some (.string y.key) ∧ w'.cell? ⟨b, off + j * 2 + 1, none⟩ = some (.bool y.x) ∧ Below (wr.alloc (.cells (lCells x) 50)).heap.size (wr.alloc (.cells (lCells x) 50)) w') W → Calls Try.prog 75 #[lVal x] W fun e w' => e = .returned (.bool true) ∧ (fun w' => w'.cell? ⟨wr.heap.size, 0, none⟩ = some (.string x.key) ∧ w'.cell? ⟨wr.heap.size, 1, none⟩ = some (.bool x.x) ∧ w'.cell? ⟨b, off + j * 2, none⟩ = some (.string y.key) ∧ w'.cell? ⟨b, off + j * 2 + 1, none⟩ = some (.bool y.x) ∧ Below (wr.alloc (.cells (lCells x) 50)).heap.size (wr.alloc (.cells (lCells x) 50)) w') w' from fun W hW => (lockMay_any x W).mono (fun e w' h => ⟨h.1.trans (congrArg (fun b => Ending.returned (Value.bool b)) HV), ⟨cell_below h.2 hW.1, cell_below h.2 hW.2.1, cell_below h.2 hW.2.2.1, cell_below h.2 hW.2.2.2.1, hW.2.2.2.2.trans (h.2.mono hW.2.2.2.2.size)⟩⟩))
              have HV2 := HF.out.2.2
              have HC2 := Lib.hid (show ∀ W, (fun w' => w'.cell? ⟨wr.heap.size, 0, none⟩ = some (.string x.key) ∧ w'.cell? ⟨wr.heap.size, 1, none⟩ = some (.bool x.x) ∧ w'.cell? ⟨b, off + j * 2, none⟩ = some (.string y.key) ∧ w'.cell? ⟨b, off + j * 2 + 1, none⟩ = some (.bool y.x) ∧ Below (wr.alloc (.cells (lCells x) 50)).heap.size (wr.alloc (.cells (lCells x) 50)) w') W → Calls Try.prog 76 #[lVal y, lVal x] W fun e w' => e = .returned (.bool false) ∧ (fun w' => w'.cell? ⟨wr.heap.size, 0, none⟩ = some (.string x.key) ∧ w'.cell? ⟨wr.heap.size, 1, none⟩ = some (.bool x.x) ∧ w'.cell? ⟨b, off + j * 2, none⟩ = some (.string y.key) ∧ w'.cell? ⟨b, off + j * 2 + 1, none⟩ = some (.bool y.x) ∧ Below (wr.alloc (.cells (lCells x) 50)).heap.size (wr.alloc (.cells (lCells x) 50)) w') w' from fun W hW => (lockLess_any y x W).mono (fun e w' h => ⟨h.1.trans (congrArg (fun b => Ending.returned (Value.bool b)) HV2), ⟨cell_below h.2 hW.1, cell_below h.2 hW.2.1, cell_below h.2 hW.2.2.1, cell_below h.2 hW.2.2.2.1, hW.2.2.2.2.trans (h.2.mono hW.2.2.2.2.size)⟩⟩))
              have HS : (fun w' => w'.cell? ⟨wr.heap.size, 0, none⟩ = some (.string x.key) ∧ w'.cell? ⟨wr.heap.size, 1, none⟩ = some (.bool x.x) ∧ w'.cell? ⟨b, off + j * 2, none⟩ = some (.string y.key) ∧ w'.cell? ⟨b, off + j * 2 + 1, none⟩ = some (.bool y.x) ∧ Below (wr.alloc (.cells (lCells x) 50)).heap.size (wr.alloc (.cells (lCells x) 50)) w') (wr.alloc (.cells (lCells x) 50)).drew := ⟨(Blk.new wr 50 (lCells x)).cell 0, (Blk.new wr 50 (lCells x)).cell 1, cell_alloc_some' _ e0, cell_alloc_some' _ e1, (Below.refl _ _).drew⟩
              clear HV HV2
              go_wp2_with fail
              refine wp_region_held_drew (S := fun w' => w'.cell? ⟨wr.heap.size, 0, none⟩ = some (.string x.key) ∧ w'.cell? ⟨wr.heap.size, 1, none⟩ = some (.bool x.x) ∧ w'.cell? ⟨b, off + j * 2, none⟩ = some (.string y.key) ∧ w'.cell? ⟨b, off + j * 2 + 1, none⟩ = some (.bool y.x) ∧ Below (wr.alloc (.cells (lCells x) 50)).heap.size (wr.alloc (.cells (lCells x) 50)) w') (by kernel_rfl) HS (fun hHeld => ?_)
              refine tk 0 22 (v := .func (.func 75) #[] #[]) (h := ?_)
              refine tk 1 23 (v := lVal x) (h := ?_)
              refine wpAnyH_ready (rs := [2]) (by kernel_rfl) (by simp) ?_
              refine AllReadyH.cons rfl (fun K hK => ?_) AllReadyH.nil
              go_simp
              refine (HC1.out _ (by assumption)).mono ?_
              rintro e wq ⟨rfl, HS⟩
              refine hK.out _ _ (by first | exact HS | (dsimp only; exact HS)) (fun hHeld => ?_)
              clear hK K
              try simp only [Act.put, List.setIfInBounds_toArray, List.set_cons_zero, List.set_cons_succ]
              refine tk 3 25 (v := .bool false) (h := ?_)
              refine tk 4 26 (v := .bool false) (h := ?_)
              refine tk 5 27 (v := .int .i64 (k : Int)) (h := ?_)
              refine tk 6 28 (v := .bool true) (h := ?_)
              refine tk 7 29 (v := .bool true) (h := ?_)
              refine tk 8 30 (v := .func (.func 76) #[] #[]) (h := ?_)
              refine tk 9 31 (v := .slice (some ⟨b, off, none⟩) n c) (h := ?_)
              refine tk 10 32 (v := .int .i64 (k : Int)) (h := ?_)
              refine tk 11 33 (v := .int .i64 (j : Int)) (h := ?_)
              refine tk 12 34 (v := .pointer (some ⟨b, off + j * 2, none⟩)) (h := ?_)
              refine tk 13 35 (v := lVal y) (h := ?_)
              refine tk 14 36 (v := lVal x) (h := ?_)
              refine wpAnyH_ready (rs := [15]) (by kernel_rfl) (by simp) ?_
              refine AllReadyH.cons rfl (fun K hK => ?_) AllReadyH.nil
              go_simp
              refine (HC2.out _ (by assumption)).mono ?_
              rintro e wq ⟨rfl, HS⟩
              refine hK.out _ _ (by first | exact HS | (dsimp only; exact HS)) (fun hHeld => ?_)
              clear hK K
              try simp only [Act.put, List.setIfInBounds_toArray, List.set_cons_zero, List.set_cons_succ]
              refine tk 16 38 (v := .bool true) (h := ?_)
              refine tk 17 39 (v := .bool true) (h := ?_)
              refine tk 18 40 (v := .bool true) (h := ?_)
              refine wpAnyH_done (by kernel_rfl) ?_ _
              go_wp2_with fail
              go_ret
              exact ⟨by rw [HF.out.1]; rfl, HB.out.1.trans ((((Below.refl _ _).alloc (Nat.le_refl _) (Obj.cells (lCells x) 50) : Below wr.heap.size wr (wr.alloc (.cells (lCells x) 50))).trans (HS.2.2.2.2.mono (by simp))).mono HB.out.1.size)⟩
            | true =>
              have hf : at_ L.zero (fun x : L => keyOk x.key) (fun a b : L => lt a.key b.key) l k = true := by
                unfold at_; rw [hok, hlo]; simp
              have HF := Lib.hid (And.intro (show ∀ j, j < k + 1 → at_ L.zero (fun x : L => keyOk x.key) (fun a b : L => lt a.key b.key) l j = true from fun j hjk => by
                rcases Nat.lt_or_ge j k with h1 | h1
                · exact HJ.out j h1
                · obtain rfl : j = k := by omega
                  exact hf) (And.intro hok hlo))
              clear hf hok hlo
              generalize l.getD k L.zero = x at *
              generalize l.getD (k - 1) L.zero = y at *
              generalize k - 1 = j at *
              have HV := HF.out.2.1
              have HC1 := Lib.hid (show ∀ W, (fun w' => w'.cell? ⟨wr.heap.size, 0, none⟩ = some (.string x.key) ∧ w'.cell? ⟨wr.heap.size, 1, none⟩ = some (.bool x.x) ∧ w'.cell? ⟨b, off + j * 2, none⟩ = some (.string y.key) ∧ w'.cell? ⟨b, off + j * 2 + 1, none⟩ = some (.bool y.x) ∧ Below (wr.alloc (.cells (lCells x) 50)).heap.size (wr.alloc (.cells (lCells x) 50)) w') W → Calls Try.prog 75 #[lVal x] W fun e w' => e = .returned (.bool true) ∧ (fun w' => w'.cell? ⟨wr.heap.size, 0, none⟩ = some (.string x.key) ∧ w'.cell? ⟨wr.heap.size, 1, none⟩ = some (.bool x.x) ∧ w'.cell? ⟨b, off + j * 2, none⟩ = some (.string y.key) ∧ w'.cell? ⟨b, off + j * 2 + 1, none⟩ = some (.bool y.x) ∧ Below (wr.alloc (.cells (lCells x) 50)).heap.size (wr.alloc (.cells (lCells x) 50)) w') w' from fun W hW => (lockMay_any x W).mono (fun e w' h => ⟨h.1.trans (congrArg (fun b => Ending.returned (Value.bool b)) HV), ⟨cell_below h.2 hW.1, cell_below h.2 hW.2.1, cell_below h.2 hW.2.2.1, cell_below h.2 hW.2.2.2.1, hW.2.2.2.2.trans (h.2.mono hW.2.2.2.2.size)⟩⟩))
              have HV2 := HF.out.2.2
              have HC2 := Lib.hid (show ∀ W, (fun w' => w'.cell? ⟨wr.heap.size, 0, none⟩ = some (.string x.key) ∧ w'.cell? ⟨wr.heap.size, 1, none⟩ = some (.bool x.x) ∧ w'.cell? ⟨b, off + j * 2, none⟩ = some (.string y.key) ∧ w'.cell? ⟨b, off + j * 2 + 1, none⟩ = some (.bool y.x) ∧ Below (wr.alloc (.cells (lCells x) 50)).heap.size (wr.alloc (.cells (lCells x) 50)) w') W → Calls Try.prog 76 #[lVal y, lVal x] W fun e w' => e = .returned (.bool true) ∧ (fun w' => w'.cell? ⟨wr.heap.size, 0, none⟩ = some (.string x.key) ∧ w'.cell? ⟨wr.heap.size, 1, none⟩ = some (.bool x.x) ∧ w'.cell? ⟨b, off + j * 2, none⟩ = some (.string y.key) ∧ w'.cell? ⟨b, off + j * 2 + 1, none⟩ = some (.bool y.x) ∧ Below (wr.alloc (.cells (lCells x) 50)).heap.size (wr.alloc (.cells (lCells x) 50)) w') w' from fun W hW => (lockLess_any y x W).mono (fun e w' h => ⟨h.1.trans (congrArg (fun b => Ending.returned (Value.bool b)) HV2), ⟨cell_below h.2 hW.1, cell_below h.2 hW.2.1, cell_below h.2 hW.2.2.1, cell_below h.2 hW.2.2.2.1, hW.2.2.2.2.trans (h.2.mono hW.2.2.2.2.size)⟩⟩))
              have HS : (fun w' => w'.cell? ⟨wr.heap.size, 0, none⟩ = some (.string x.key) ∧ w'.cell? ⟨wr.heap.size, 1, none⟩ = some (.bool x.x) ∧ w'.cell? ⟨b, off + j * 2, none⟩ = some (.string y.key) ∧ w'.cell? ⟨b, off + j * 2 + 1, none⟩ = some (.bool y.x) ∧ Below (wr.alloc (.cells (lCells x) 50)).heap.size (wr.alloc (.cells (lCells x) 50)) w') (wr.alloc (.cells (lCells x) 50)).drew := ⟨(Blk.new wr 50 (lCells x)).cell 0, (Blk.new wr 50 (lCells x)).cell 1, cell_alloc_some' _ e0, cell_alloc_some' _ e1, (Below.refl _ _).drew⟩
              clear HV HV2
              go_wp2_with fail
              refine wp_region_held_drew (S := fun w' => w'.cell? ⟨wr.heap.size, 0, none⟩ = some (.string x.key) ∧ w'.cell? ⟨wr.heap.size, 1, none⟩ = some (.bool x.x) ∧ w'.cell? ⟨b, off + j * 2, none⟩ = some (.string y.key) ∧ w'.cell? ⟨b, off + j * 2 + 1, none⟩ = some (.bool y.x) ∧ Below (wr.alloc (.cells (lCells x) 50)).heap.size (wr.alloc (.cells (lCells x) 50)) w') (by kernel_rfl) HS (fun hHeld => ?_)
              refine tk 0 22 (v := .func (.func 75) #[] #[]) (h := ?_)
              refine tk 1 23 (v := lVal x) (h := ?_)
              refine wpAnyH_ready (rs := [2]) (by kernel_rfl) (by simp) ?_
              refine AllReadyH.cons rfl (fun K hK => ?_) AllReadyH.nil
              go_simp
              refine (HC1.out _ (by assumption)).mono ?_
              rintro e wq ⟨rfl, HS⟩
              refine hK.out _ _ (by first | exact HS | (dsimp only; exact HS)) (fun hHeld => ?_)
              clear hK K
              try simp only [Act.put, List.setIfInBounds_toArray, List.set_cons_zero, List.set_cons_succ]
              refine tk 3 25 (v := .bool false) (h := ?_)
              refine tk 4 26 (v := .bool false) (h := ?_)
              refine tk 5 27 (v := .int .i64 (k : Int)) (h := ?_)
              refine tk 6 28 (v := .bool true) (h := ?_)
              refine tk 7 29 (v := .bool true) (h := ?_)
              refine tk 8 30 (v := .func (.func 76) #[] #[]) (h := ?_)
              refine tk 9 31 (v := .slice (some ⟨b, off, none⟩) n c) (h := ?_)
              refine tk 10 32 (v := .int .i64 (k : Int)) (h := ?_)
              refine tk 11 33 (v := .int .i64 (j : Int)) (h := ?_)
              refine tk 12 34 (v := .pointer (some ⟨b, off + j * 2, none⟩)) (h := ?_)
              refine tk 13 35 (v := lVal y) (h := ?_)
              refine tk 14 36 (v := lVal x) (h := ?_)
              refine wpAnyH_ready (rs := [15]) (by kernel_rfl) (by simp) ?_
              refine AllReadyH.cons rfl (fun K hK => ?_) AllReadyH.nil
              go_simp
              refine (HC2.out _ (by assumption)).mono ?_
              rintro e wq ⟨rfl, HS⟩
              refine hK.out _ _ (by first | exact HS | (dsimp only; exact HS)) (fun hHeld => ?_)
              clear hK K
              try simp only [Act.put, List.setIfInBounds_toArray, List.set_cons_zero, List.set_cons_succ]
              refine tk 16 38 (v := .bool false) (h := ?_)
              refine tk 17 39 (v := .bool false) (h := ?_)
              refine tk 18 40 (v := .bool false) (h := ?_)
              refine wpAnyH_done (by kernel_rfl) ?_ _
              go_wp2_with fail
              go_roundg (n - (k + 1))
              case rel => exact ⟨k + 1, by omega, rfl, by go_num, HF.out.1, HB.out.1.trans ((((Below.refl _ _).alloc (Nat.le_refl _) (Obj.cells (lCells x) 50) : Below wr.heap.size wr (wr.alloc (.cells (lCells x) 50))).trans (HS.2.2.2.2.mono (by simp))).mono HB.out.1.size)⟩
              case measure => omega
      · obtain rfl : k = n := by omega
        have HF := Lib.hid (And.intro (HM.out.trans (ups_true (fun j h => hj j (by rw [H.out.2] at h; exact h)))) hb)
        clear hj hb
        go_wp2_with fail
        go_ret
        exact ⟨by rw [HF.out.1]; rfl, HF.out.2⟩
  · have hd : decide ((64 : Int) < (n : Int)) = true := by simp; omega
    have HM := Lib.hid (show rising L.zero 64 (fun x : L => keyOk x.key) (fun a b : L => lt a.key b.key) l = false by unfold rising; rw [H.out.2, decide_eq_false h8]; rfl)
    clear h8
    go_enter Try.func74, Try.ntmps74
    go_wp2
    go_ret
    exact ⟨by rw [HM.out]; rfl, Below.refl _ _⟩

theorem rlocks_any (A : Option Addr) (n c : Nat) (l : List L) (w : World) (hl : ST lockK w A n l) (hn : n ≤ 1000000) :
    Calls Try.prog 35 #[.slice A n c] w fun e w' => e = .returned (.bool (Rc.locks l)) ∧ Below w.heap.size w w' := by
  have H := Lib.hid (rising_lock A n c l w hl hn)
  clear hl
  go_enter Try.func35, Try.ntmps35
  go_wp2_with fail
  refine H.out.mono ?_
  rintro e w' ⟨rfl, hb⟩
  have HB := Lib.hid hb
  clear hb
  go_wp2_with fail
  go_ret
  exact ⟨rfl, HB.out⟩
end Go.Proofs.Ytlijfnekopjogaa

/- Lists that rise: the program's rising[T], printed by gen_rise.py. -/
namespace Go.Proofs.Ytlijfnekopjogaa
open Go Go.RowKit Mem Rc
set_option maxRecDepth 100000
set_option linter.unusedVariables false
set_option linter.unusedSimpArgs false


theorem dirtyMay_any (x : D) (w : World) : Calls Try.prog 66 #[dVal x] w fun e w' => e = .returned (.bool (dirtyOk x)) ∧ Below w.heap.size w w' := by
  have HB := Lib.hid (show Below w.heap.size w (w.alloc (.cells (dCells x) 92)) from (Below.refl _ _).alloc (Nat.le_refl _) _)
  by_cases h0 : 0 ≤ x.page
  · have d0 : decide (0 ≤ x.page) = true := by simpa using h0
    by_cases h1 : x.page < 64
    · have d1 : decide (x.page < 64) = true := by simpa using h1
      have HV := Lib.hid (show dirtyOk x = seq x.rc 1 by unfold dirtyOk; rw [d0, d1]; rfl)
      go_enter Try.func66, Try.ntmps66
      go_wp2_with fail
      refine (rseq_any x.rc 1 _).mono ?_
      rintro e w' ⟨rfl, rfl⟩
      go_wp2_with fail
      go_ret
      exact ⟨by rw [HV.out]; rfl, HB.out⟩
    · have d1 : decide (x.page < 64) = false := by simpa using h1
      have HV := Lib.hid (show dirtyOk x = false by unfold dirtyOk; rw [d0, d1]; rfl)
      go_enter Try.func66, Try.ntmps66
      go_wp2_with fail
      go_ret
      exact ⟨by rw [HV.out]; rfl, HB.out⟩
  · have d0 : decide (0 ≤ x.page) = false := by simpa using h0
    have HV := Lib.hid (show dirtyOk x = false by unfold dirtyOk; rw [d0]; rfl)
    go_enter Try.func66, Try.ntmps66
    go_wp2_with fail
    go_ret
    exact ⟨by rw [HV.out]; rfl, HB.out⟩
theorem deedMay_any (x : DeD) (w : World) (hx : DeedOk w x) (hn : x.d.mem.length ≤ 1000000) : Calls Try.prog 69 #[deVal x] w fun e w' => e = .returned (.bool (deedOk x.d)) ∧ Below w.heap.size w w' := by
  have hb : Below w.heap.size w (w.alloc (.cells (deCells x) 54)) := (Below.refl _ _).alloc (Nat.le_refl _) _
  have HX := Lib.hid (And.intro hb (And.intro (hx.mem.below hb) (And.intro hn hx.mc)))
  clear hb hx hn
  cases hs : seq x.d.tx 1 with
  | true =>
    have HV := Lib.hid (And.intro (show deedOk x.d = members x.d.mem by unfold deedOk; rw [hs, Bool.true_and]) hs)
    clear hs
    go_enter Try.func69, Try.ntmps69
    go_wp2_with fail
    refine (rseq_any x.d.tx 1 _).mono ?_
    rw [HV.out.2]
    rintro e w' ⟨rfl, rfl⟩
    go_wp2_with fail
    refine (rmembers_any x.mA _ x.mc x.d.mem _ HX.out.2.1 HX.out.2.2.1 HX.out.2.2.2.2).mono ?_
    rintro e w' ⟨rfl, rfl⟩
    go_wp2_with fail
    go_ret
    exact ⟨by rw [HV.out.1]; rfl, HX.out.1⟩
  | false =>
    have HV := Lib.hid (And.intro (show deedOk x.d = false by unfold deedOk; rw [hs, Bool.false_and]) hs)
    clear hs
    go_enter Try.func69, Try.ntmps69
    go_wp2_with fail
    refine (rseq_any x.d.tx 1 _).mono ?_
    rw [HV.out.2]
    rintro e w' ⟨rfl, rfl⟩
    go_wp2_with fail
    go_ret
    exact ⟨by rw [HV.out.1]; rfl, HX.out.1⟩
set_option maxHeartbeats 4000000 in
theorem rising_dirty (A : Option Addr) (n c : Nat) (l : List D) (w : World) (hl : ST dirtyK w A n l) (hn : n ≤ 1000000) :
    Calls Try.prog 65 #[.slice A n c, .int .i64 64, .func (.func 66) #[] #[], .func (.func 67) #[] #[]] w fun e w' => e = .returned (.bool (rising D.zero 64 dirtyOk (fun a b : D => decide (a.page < b.page)) l)) ∧ Below w.heap.size w w' := by
  have H := Lib.hid (And.intro hl hl.len)
  clear hl
  by_cases h8 : n ≤ 64
  · have hd : decide ((64 : Int) < (n : Int)) = false := by simp; omega
    have HM := Lib.hid (show rising D.zero 64 dirtyOk (fun a b : D => decide (a.page < b.page)) l = ups D.zero dirtyOk (fun a b : D => decide (a.page < b.page)) l by unfold rising; rw [H.out.2, decide_eq_true h8, Bool.true_and])
    go_enter Try.func65, Try.ntmps65
    go_wp2
    go_loopg [17] n (fun gk s wr => ∃ k : Nat, k ≤ n ∧ gk = n - k ∧ s = .int .i64 k ∧ (∀ j, j < k → at_ D.zero dirtyOk (fun a b : D => decide (a.page < b.page)) l j = true) ∧ Below w.heap.size w wr)
    case atStart => exact ⟨0, by omega, by omega, rfl, fun j hj => absurd hj (by omega), Below.refl _ _⟩
    case round =>
      obtain ⟨k, hk, rfl, rfl, hj, hb⟩ := hrel
      by_cases hlt : k < n
      · obtain ⟨b, off, rfl, hbs, c0, c1⟩ := dirty_at (H.out.1.below hb) hlt
        have hkn : (k : Int) < (n : Int) := by omega
        cases hok : dirtyOk (l.getD k D.zero) with
        | false =>
          have hf : at_ D.zero dirtyOk (fun a b : D => decide (a.page < b.page)) l k = false := by unfold at_; rw [hok]; rfl
          have HF := Lib.hid (And.intro (HM.out.trans (ups_false (by rw [H.out.2]; exact hlt) hf)) hok)
          have HB := Lib.hid (And.intro hb trivial)
          clear hf hj hok hb
          generalize l.getD k D.zero = x at *
          have HV := HF.out.2
          have HC1 := Lib.hid (show ∀ W, (fun w' => w'.cell? ⟨wr.heap.size, 0, none⟩ = some (.int .i64 x.page) ∧ w'.cell? ⟨wr.heap.size, 1, none⟩ = some (.int .i64 x.rc) ∧ Below (wr.alloc (.cells (dCells x) 92)).heap.size (wr.alloc (.cells (dCells x) 92)) w') W → Calls Try.prog 66 #[dVal x] W fun e w' => e = .returned (.bool false) ∧ (fun w' => w'.cell? ⟨wr.heap.size, 0, none⟩ = some (.int .i64 x.page) ∧ w'.cell? ⟨wr.heap.size, 1, none⟩ = some (.int .i64 x.rc) ∧ Below (wr.alloc (.cells (dCells x) 92)).heap.size (wr.alloc (.cells (dCells x) 92)) w') w' from fun W hW => (dirtyMay_any x W).mono (fun e w' h => ⟨h.1.trans (congrArg (fun b => Ending.returned (Value.bool b)) HV), ⟨cell_below h.2 hW.1, cell_below h.2 hW.2.1, hW.2.2.trans (h.2.mono hW.2.2.size)⟩⟩))
          have HS : (fun w' => w'.cell? ⟨wr.heap.size, 0, none⟩ = some (.int .i64 x.page) ∧ w'.cell? ⟨wr.heap.size, 1, none⟩ = some (.int .i64 x.rc) ∧ Below (wr.alloc (.cells (dCells x) 92)).heap.size (wr.alloc (.cells (dCells x) 92)) w') (wr.alloc (.cells (dCells x) 92)).drew := ⟨(Blk.new wr 92 (dCells x)).cell 0, (Blk.new wr 92 (dCells x)).cell 1, (Below.refl _ _).drew⟩
          clear HV
          go_wp2_with fail
          refine wp_region_held_drew (S := fun w' => w'.cell? ⟨wr.heap.size, 0, none⟩ = some (.int .i64 x.page) ∧ w'.cell? ⟨wr.heap.size, 1, none⟩ = some (.int .i64 x.rc) ∧ Below (wr.alloc (.cells (dCells x) 92)).heap.size (wr.alloc (.cells (dCells x) 92)) w') (by kernel_rfl) HS (fun hHeld => ?_)
          refine tk 0 22 (v := .func (.func 66) #[] #[]) (h := ?_)
          refine tk 1 23 (v := dVal x) (h := ?_)
          refine wpAnyH_ready (rs := [2]) (by kernel_rfl) (by simp) ?_
          refine AllReadyH.cons rfl (fun K hK => ?_) AllReadyH.nil
          go_simp
          refine (HC1.out _ (by assumption)).mono ?_
          rintro e wq ⟨rfl, HS⟩
          refine hK.out _ _ (by first | exact HS | (dsimp only; exact HS)) (fun hHeld => ?_)
          clear hK K
          try simp only [Act.put, List.setIfInBounds_toArray, List.set_cons_zero, List.set_cons_succ]
          refine tk 3 25 (v := .bool true) (h := ?_)
          refine tk 4 26 (v := .bool true) (h := ?_)
          refine sk 5 27 (h := ?_)
          refine sk 6 28 (h := ?_)
          refine sk 7 29 (h := ?_)
          refine sk 8 30 (h := ?_)
          refine sk 9 31 (h := ?_)
          refine sk 10 32 (h := ?_)
          refine sk 11 33 (h := ?_)
          refine sk 12 34 (h := ?_)
          refine sk 13 35 (h := ?_)
          refine sk 14 36 (h := ?_)
          refine sk 15 37 (h := ?_)
          refine sk 16 38 (h := ?_)
          refine sk 17 39 (h := ?_)
          refine tk 18 40 (v := .bool true) (h := ?_)
          refine wpAnyH_done (by kernel_rfl) ?_ _
          go_wp2_with fail
          go_ret
          exact ⟨by rw [HF.out.1]; rfl, HB.out.1.trans ((((Below.refl _ _).alloc (Nat.le_refl _) (Obj.cells (dCells x) 92) : Below wr.heap.size wr (wr.alloc (.cells (dCells x) 92))).trans (HS.2.2.mono (by simp))).mono HB.out.1.size)⟩
        | true =>
          rcases Nat.eq_zero_or_pos k with rfl | hkp
          · have hf : at_ D.zero dirtyOk (fun a b : D => decide (a.page < b.page)) l 0 = true := by unfold at_; rw [hok]; rfl
            have HF := Lib.hid (And.intro hf hok)
            have HB := Lib.hid (And.intro hb trivial)
            clear hf hj hok hb
            simp only [Nat.zero_mul, Nat.add_zero] at c0 c1
            generalize l.getD 0 D.zero = x at *
            have HV := HF.out.2
            have HC1 := Lib.hid (show ∀ W, (fun w' => w'.cell? ⟨wr.heap.size, 0, none⟩ = some (.int .i64 x.page) ∧ w'.cell? ⟨wr.heap.size, 1, none⟩ = some (.int .i64 x.rc) ∧ Below (wr.alloc (.cells (dCells x) 92)).heap.size (wr.alloc (.cells (dCells x) 92)) w') W → Calls Try.prog 66 #[dVal x] W fun e w' => e = .returned (.bool true) ∧ (fun w' => w'.cell? ⟨wr.heap.size, 0, none⟩ = some (.int .i64 x.page) ∧ w'.cell? ⟨wr.heap.size, 1, none⟩ = some (.int .i64 x.rc) ∧ Below (wr.alloc (.cells (dCells x) 92)).heap.size (wr.alloc (.cells (dCells x) 92)) w') w' from fun W hW => (dirtyMay_any x W).mono (fun e w' h => ⟨h.1.trans (congrArg (fun b => Ending.returned (Value.bool b)) HV), ⟨cell_below h.2 hW.1, cell_below h.2 hW.2.1, hW.2.2.trans (h.2.mono hW.2.2.size)⟩⟩))
            have HS : (fun w' => w'.cell? ⟨wr.heap.size, 0, none⟩ = some (.int .i64 x.page) ∧ w'.cell? ⟨wr.heap.size, 1, none⟩ = some (.int .i64 x.rc) ∧ Below (wr.alloc (.cells (dCells x) 92)).heap.size (wr.alloc (.cells (dCells x) 92)) w') (wr.alloc (.cells (dCells x) 92)).drew := ⟨(Blk.new wr 92 (dCells x)).cell 0, (Blk.new wr 92 (dCells x)).cell 1, (Below.refl _ _).drew⟩
            clear HV
            go_wp2_with fail
            refine wp_region_held_drew (S := fun w' => w'.cell? ⟨wr.heap.size, 0, none⟩ = some (.int .i64 x.page) ∧ w'.cell? ⟨wr.heap.size, 1, none⟩ = some (.int .i64 x.rc) ∧ Below (wr.alloc (.cells (dCells x) 92)).heap.size (wr.alloc (.cells (dCells x) 92)) w') (by kernel_rfl) HS (fun hHeld => ?_)
            refine tk 0 22 (v := .func (.func 66) #[] #[]) (h := ?_)
            refine tk 1 23 (v := dVal x) (h := ?_)
            refine wpAnyH_ready (rs := [2]) (by kernel_rfl) (by simp) ?_
            refine AllReadyH.cons rfl (fun K hK => ?_) AllReadyH.nil
            go_simp
            refine (HC1.out _ (by assumption)).mono ?_
            rintro e wq ⟨rfl, HS⟩
            refine hK.out _ _ (by first | exact HS | (dsimp only; exact HS)) (fun hHeld => ?_)
            clear hK K
            try simp only [Act.put, List.setIfInBounds_toArray, List.set_cons_zero, List.set_cons_succ]
            refine tk 3 25 (v := .bool false) (h := ?_)
            refine tk 4 26 (v := .bool false) (h := ?_)
            refine tk 5 27 (v := .int .i64 0) (h := ?_)
            refine tk 6 28 (v := .bool false) (h := ?_)
            refine tk 7 29 (v := .bool false) (h := ?_)
            refine sk 8 30 (h := ?_)
            refine sk 9 31 (h := ?_)
            refine sk 10 32 (h := ?_)
            refine sk 11 33 (h := ?_)
            refine sk 12 34 (h := ?_)
            refine sk 13 35 (h := ?_)
            refine sk 14 36 (h := ?_)
            refine sk 15 37 (h := ?_)
            refine sk 16 38 (h := ?_)
            refine tk 17 39 (v := .bool false) (h := ?_)
            refine tk 18 40 (v := .bool false) (h := ?_)
            refine wpAnyH_done (by kernel_rfl) ?_ _
            go_wp2_with fail
            go_roundg (n - 1)
            case rel => exact ⟨1, by omega, by omega, rfl, fun j hj => by obtain rfl : j = 0 := by omega
                                                                          exact HF.out.1, HB.out.1.trans ((((Below.refl _ _).alloc (Nat.le_refl _) (Obj.cells (dCells x) 92) : Below wr.heap.size wr (wr.alloc (.cells (dCells x) 92))).trans (HS.2.2.mono (by simp))).mono HB.out.1.size)⟩
            case measure => omega
          · obtain ⟨b', off', e', hbs', e0, e1⟩ := dirty_at (H.out.1.below hb) (i := k - 1) (by omega)
            injection e' with e'
            injection e' with e1 e2
            subst e1
            subst e2
            have hkp' : decide ((0 : Int) < (k : Int)) = true := by simp; omega
            have hs0 : IntKind.i64.wrap ((k : Int) - 1) = ((k - 1 : Nat) : Int) := by rw [IntKind.wrap_i64]; omega
            have hs1 : ((k - 1 : Nat) : Int) < (n : Int) := by omega
            have HJ := Lib.hid hj
            have HB := Lib.hid (And.intro hb trivial)
            clear hj hb
            cases hlo : (fun a b : D => decide (a.page < b.page)) (l.getD (k - 1) D.zero) (l.getD k D.zero) with
            | false =>
              have hf : at_ D.zero dirtyOk (fun a b : D => decide (a.page < b.page)) l k = false := by
                unfold at_; rw [hok, hlo, decide_eq_false (by omega : ¬ k = 0)]; rfl
              have HF := Lib.hid (And.intro (HM.out.trans (ups_false (by rw [H.out.2]; exact hlt) hf)) (And.intro hok hlo))
              clear hf hok hlo
              generalize l.getD k D.zero = x at *
              generalize l.getD (k - 1) D.zero = y at *
              generalize k - 1 = j at *
              have HV := HF.out.2.1
              have HC1 := Lib.hid (show ∀ W, (fun w' => w'.cell? ⟨wr.heap.size, 0, none⟩ = some (.int .i64 x.page) ∧ w'.cell? ⟨wr.heap.size, 1, none⟩ = some (.int .i64 x.rc) ∧ w'.cell? ⟨b, off + j * 2, none⟩ = some (.int .i64 y.page) ∧ w'.cell? ⟨b, off + j * 2 + 1, none⟩ = some (.int .i64 y.rc) ∧ Below (wr.alloc (.cells (dCells x) 92)).heap.size (wr.alloc (.cells (dCells x) 92)) w') W → Calls Try.prog 66 #[dVal x] W fun e w' => e = .returned (.bool true) ∧ (fun w' => w'.cell? ⟨wr.heap.size, 0, none⟩ = some (.int .i64 x.page) ∧ w'.cell? ⟨wr.heap.size, 1, none⟩ = some (.int .i64 x.rc) ∧ w'.cell? ⟨b, off + j * 2, none⟩ = some (.int .i64 y.page) ∧ w'.cell? ⟨b, off + j * 2 + 1, none⟩ = some (.int .i64 y.rc) ∧ Below (wr.alloc (.cells (dCells x) 92)).heap.size (wr.alloc (.cells (dCells x) 92)) w') w' from fun W hW => (dirtyMay_any x W).mono (fun e w' h => ⟨h.1.trans (congrArg (fun b => Ending.returned (Value.bool b)) HV), ⟨cell_below h.2 hW.1, cell_below h.2 hW.2.1, cell_below h.2 hW.2.2.1, cell_below h.2 hW.2.2.2.1, hW.2.2.2.2.trans (h.2.mono hW.2.2.2.2.size)⟩⟩))
              have HV2 := HF.out.2.2
              have HC2 := Lib.hid (show ∀ W, (fun w' => w'.cell? ⟨wr.heap.size, 0, none⟩ = some (.int .i64 x.page) ∧ w'.cell? ⟨wr.heap.size, 1, none⟩ = some (.int .i64 x.rc) ∧ w'.cell? ⟨b, off + j * 2, none⟩ = some (.int .i64 y.page) ∧ w'.cell? ⟨b, off + j * 2 + 1, none⟩ = some (.int .i64 y.rc) ∧ Below (wr.alloc (.cells (dCells x) 92)).heap.size (wr.alloc (.cells (dCells x) 92)) w') W → Calls Try.prog 67 #[dVal y, dVal x] W fun e w' => e = .returned (.bool false) ∧ (fun w' => w'.cell? ⟨wr.heap.size, 0, none⟩ = some (.int .i64 x.page) ∧ w'.cell? ⟨wr.heap.size, 1, none⟩ = some (.int .i64 x.rc) ∧ w'.cell? ⟨b, off + j * 2, none⟩ = some (.int .i64 y.page) ∧ w'.cell? ⟨b, off + j * 2 + 1, none⟩ = some (.int .i64 y.rc) ∧ Below (wr.alloc (.cells (dCells x) 92)).heap.size (wr.alloc (.cells (dCells x) 92)) w') w' from fun W hW => (dirtyLess_any y x W).mono (fun e w' h => ⟨h.1.trans (congrArg (fun b => Ending.returned (Value.bool b)) HV2), ⟨cell_below h.2 hW.1, cell_below h.2 hW.2.1, cell_below h.2 hW.2.2.1, cell_below h.2 hW.2.2.2.1, hW.2.2.2.2.trans (h.2.mono hW.2.2.2.2.size)⟩⟩))
              have HS : (fun w' => w'.cell? ⟨wr.heap.size, 0, none⟩ = some (.int .i64 x.page) ∧ w'.cell? ⟨wr.heap.size, 1, none⟩ = some (.int .i64 x.rc) ∧ w'.cell? ⟨b, off + j * 2, none⟩ = some (.int .i64 y.page) ∧ w'.cell? ⟨b, off + j * 2 + 1, none⟩ = some (.int .i64 y.rc) ∧ Below (wr.alloc (.cells (dCells x) 92)).heap.size (wr.alloc (.cells (dCells x) 92)) w') (wr.alloc (.cells (dCells x) 92)).drew := ⟨(Blk.new wr 92 (dCells x)).cell 0, (Blk.new wr 92 (dCells x)).cell 1, cell_alloc_some' _ e0, cell_alloc_some' _ e1, (Below.refl _ _).drew⟩
              clear HV HV2
              go_wp2_with fail
              refine wp_region_held_drew (S := fun w' => w'.cell? ⟨wr.heap.size, 0, none⟩ = some (.int .i64 x.page) ∧ w'.cell? ⟨wr.heap.size, 1, none⟩ = some (.int .i64 x.rc) ∧ w'.cell? ⟨b, off + j * 2, none⟩ = some (.int .i64 y.page) ∧ w'.cell? ⟨b, off + j * 2 + 1, none⟩ = some (.int .i64 y.rc) ∧ Below (wr.alloc (.cells (dCells x) 92)).heap.size (wr.alloc (.cells (dCells x) 92)) w') (by kernel_rfl) HS (fun hHeld => ?_)
              refine tk 0 22 (v := .func (.func 66) #[] #[]) (h := ?_)
              refine tk 1 23 (v := dVal x) (h := ?_)
              refine wpAnyH_ready (rs := [2]) (by kernel_rfl) (by simp) ?_
              refine AllReadyH.cons rfl (fun K hK => ?_) AllReadyH.nil
              go_simp
              refine (HC1.out _ (by assumption)).mono ?_
              rintro e wq ⟨rfl, HS⟩
              refine hK.out _ _ (by first | exact HS | (dsimp only; exact HS)) (fun hHeld => ?_)
              clear hK K
              try simp only [Act.put, List.setIfInBounds_toArray, List.set_cons_zero, List.set_cons_succ]
              refine tk 3 25 (v := .bool false) (h := ?_)
              refine tk 4 26 (v := .bool false) (h := ?_)
              refine tk 5 27 (v := .int .i64 (k : Int)) (h := ?_)
              refine tk 6 28 (v := .bool true) (h := ?_)
              refine tk 7 29 (v := .bool true) (h := ?_)
              refine tk 8 30 (v := .func (.func 67) #[] #[]) (h := ?_)
              refine tk 9 31 (v := .slice (some ⟨b, off, none⟩) n c) (h := ?_)
              refine tk 10 32 (v := .int .i64 (k : Int)) (h := ?_)
              refine tk 11 33 (v := .int .i64 (j : Int)) (h := ?_)
              refine tk 12 34 (v := .pointer (some ⟨b, off + j * 2, none⟩)) (h := ?_)
              refine tk 13 35 (v := dVal y) (h := ?_)
              refine tk 14 36 (v := dVal x) (h := ?_)
              refine wpAnyH_ready (rs := [15]) (by kernel_rfl) (by simp) ?_
              refine AllReadyH.cons rfl (fun K hK => ?_) AllReadyH.nil
              go_simp
              refine (HC2.out _ (by assumption)).mono ?_
              rintro e wq ⟨rfl, HS⟩
              refine hK.out _ _ (by first | exact HS | (dsimp only; exact HS)) (fun hHeld => ?_)
              clear hK K
              try simp only [Act.put, List.setIfInBounds_toArray, List.set_cons_zero, List.set_cons_succ]
              refine tk 16 38 (v := .bool true) (h := ?_)
              refine tk 17 39 (v := .bool true) (h := ?_)
              refine tk 18 40 (v := .bool true) (h := ?_)
              refine wpAnyH_done (by kernel_rfl) ?_ _
              go_wp2_with fail
              go_ret
              exact ⟨by rw [HF.out.1]; rfl, HB.out.1.trans ((((Below.refl _ _).alloc (Nat.le_refl _) (Obj.cells (dCells x) 92) : Below wr.heap.size wr (wr.alloc (.cells (dCells x) 92))).trans (HS.2.2.2.2.mono (by simp))).mono HB.out.1.size)⟩
            | true =>
              have hf : at_ D.zero dirtyOk (fun a b : D => decide (a.page < b.page)) l k = true := by
                unfold at_; rw [hok, hlo]; simp
              have HF := Lib.hid (And.intro (show ∀ j, j < k + 1 → at_ D.zero dirtyOk (fun a b : D => decide (a.page < b.page)) l j = true from fun j hjk => by
                rcases Nat.lt_or_ge j k with h1 | h1
                · exact HJ.out j h1
                · obtain rfl : j = k := by omega
                  exact hf) (And.intro hok hlo))
              clear hf hok hlo
              generalize l.getD k D.zero = x at *
              generalize l.getD (k - 1) D.zero = y at *
              generalize k - 1 = j at *
              have HV := HF.out.2.1
              have HC1 := Lib.hid (show ∀ W, (fun w' => w'.cell? ⟨wr.heap.size, 0, none⟩ = some (.int .i64 x.page) ∧ w'.cell? ⟨wr.heap.size, 1, none⟩ = some (.int .i64 x.rc) ∧ w'.cell? ⟨b, off + j * 2, none⟩ = some (.int .i64 y.page) ∧ w'.cell? ⟨b, off + j * 2 + 1, none⟩ = some (.int .i64 y.rc) ∧ Below (wr.alloc (.cells (dCells x) 92)).heap.size (wr.alloc (.cells (dCells x) 92)) w') W → Calls Try.prog 66 #[dVal x] W fun e w' => e = .returned (.bool true) ∧ (fun w' => w'.cell? ⟨wr.heap.size, 0, none⟩ = some (.int .i64 x.page) ∧ w'.cell? ⟨wr.heap.size, 1, none⟩ = some (.int .i64 x.rc) ∧ w'.cell? ⟨b, off + j * 2, none⟩ = some (.int .i64 y.page) ∧ w'.cell? ⟨b, off + j * 2 + 1, none⟩ = some (.int .i64 y.rc) ∧ Below (wr.alloc (.cells (dCells x) 92)).heap.size (wr.alloc (.cells (dCells x) 92)) w') w' from fun W hW => (dirtyMay_any x W).mono (fun e w' h => ⟨h.1.trans (congrArg (fun b => Ending.returned (Value.bool b)) HV), ⟨cell_below h.2 hW.1, cell_below h.2 hW.2.1, cell_below h.2 hW.2.2.1, cell_below h.2 hW.2.2.2.1, hW.2.2.2.2.trans (h.2.mono hW.2.2.2.2.size)⟩⟩))
              have HV2 := HF.out.2.2
              have HC2 := Lib.hid (show ∀ W, (fun w' => w'.cell? ⟨wr.heap.size, 0, none⟩ = some (.int .i64 x.page) ∧ w'.cell? ⟨wr.heap.size, 1, none⟩ = some (.int .i64 x.rc) ∧ w'.cell? ⟨b, off + j * 2, none⟩ = some (.int .i64 y.page) ∧ w'.cell? ⟨b, off + j * 2 + 1, none⟩ = some (.int .i64 y.rc) ∧ Below (wr.alloc (.cells (dCells x) 92)).heap.size (wr.alloc (.cells (dCells x) 92)) w') W → Calls Try.prog 67 #[dVal y, dVal x] W fun e w' => e = .returned (.bool true) ∧ (fun w' => w'.cell? ⟨wr.heap.size, 0, none⟩ = some (.int .i64 x.page) ∧ w'.cell? ⟨wr.heap.size, 1, none⟩ = some (.int .i64 x.rc) ∧ w'.cell? ⟨b, off + j * 2, none⟩ = some (.int .i64 y.page) ∧ w'.cell? ⟨b, off + j * 2 + 1, none⟩ = some (.int .i64 y.rc) ∧ Below (wr.alloc (.cells (dCells x) 92)).heap.size (wr.alloc (.cells (dCells x) 92)) w') w' from fun W hW => (dirtyLess_any y x W).mono (fun e w' h => ⟨h.1.trans (congrArg (fun b => Ending.returned (Value.bool b)) HV2), ⟨cell_below h.2 hW.1, cell_below h.2 hW.2.1, cell_below h.2 hW.2.2.1, cell_below h.2 hW.2.2.2.1, hW.2.2.2.2.trans (h.2.mono hW.2.2.2.2.size)⟩⟩))
              have HS : (fun w' => w'.cell? ⟨wr.heap.size, 0, none⟩ = some (.int .i64 x.page) ∧ w'.cell? ⟨wr.heap.size, 1, none⟩ = some (.int .i64 x.rc) ∧ w'.cell? ⟨b, off + j * 2, none⟩ = some (.int .i64 y.page) ∧ w'.cell? ⟨b, off + j * 2 + 1, none⟩ = some (.int .i64 y.rc) ∧ Below (wr.alloc (.cells (dCells x) 92)).heap.size (wr.alloc (.cells (dCells x) 92)) w') (wr.alloc (.cells (dCells x) 92)).drew := ⟨(Blk.new wr 92 (dCells x)).cell 0, (Blk.new wr 92 (dCells x)).cell 1, cell_alloc_some' _ e0, cell_alloc_some' _ e1, (Below.refl _ _).drew⟩
              clear HV HV2
              go_wp2_with fail
              refine wp_region_held_drew (S := fun w' => w'.cell? ⟨wr.heap.size, 0, none⟩ = some (.int .i64 x.page) ∧ w'.cell? ⟨wr.heap.size, 1, none⟩ = some (.int .i64 x.rc) ∧ w'.cell? ⟨b, off + j * 2, none⟩ = some (.int .i64 y.page) ∧ w'.cell? ⟨b, off + j * 2 + 1, none⟩ = some (.int .i64 y.rc) ∧ Below (wr.alloc (.cells (dCells x) 92)).heap.size (wr.alloc (.cells (dCells x) 92)) w') (by kernel_rfl) HS (fun hHeld => ?_)
              refine tk 0 22 (v := .func (.func 66) #[] #[]) (h := ?_)
              refine tk 1 23 (v := dVal x) (h := ?_)
              refine wpAnyH_ready (rs := [2]) (by kernel_rfl) (by simp) ?_
              refine AllReadyH.cons rfl (fun K hK => ?_) AllReadyH.nil
              go_simp
              refine (HC1.out _ (by assumption)).mono ?_
              rintro e wq ⟨rfl, HS⟩
              refine hK.out _ _ (by first | exact HS | (dsimp only; exact HS)) (fun hHeld => ?_)
              clear hK K
              try simp only [Act.put, List.setIfInBounds_toArray, List.set_cons_zero, List.set_cons_succ]
              refine tk 3 25 (v := .bool false) (h := ?_)
              refine tk 4 26 (v := .bool false) (h := ?_)
              refine tk 5 27 (v := .int .i64 (k : Int)) (h := ?_)
              refine tk 6 28 (v := .bool true) (h := ?_)
              refine tk 7 29 (v := .bool true) (h := ?_)
              refine tk 8 30 (v := .func (.func 67) #[] #[]) (h := ?_)
              refine tk 9 31 (v := .slice (some ⟨b, off, none⟩) n c) (h := ?_)
              refine tk 10 32 (v := .int .i64 (k : Int)) (h := ?_)
              refine tk 11 33 (v := .int .i64 (j : Int)) (h := ?_)
              refine tk 12 34 (v := .pointer (some ⟨b, off + j * 2, none⟩)) (h := ?_)
              refine tk 13 35 (v := dVal y) (h := ?_)
              refine tk 14 36 (v := dVal x) (h := ?_)
              refine wpAnyH_ready (rs := [15]) (by kernel_rfl) (by simp) ?_
              refine AllReadyH.cons rfl (fun K hK => ?_) AllReadyH.nil
              go_simp
              refine (HC2.out _ (by assumption)).mono ?_
              rintro e wq ⟨rfl, HS⟩
              refine hK.out _ _ (by first | exact HS | (dsimp only; exact HS)) (fun hHeld => ?_)
              clear hK K
              try simp only [Act.put, List.setIfInBounds_toArray, List.set_cons_zero, List.set_cons_succ]
              refine tk 16 38 (v := .bool false) (h := ?_)
              refine tk 17 39 (v := .bool false) (h := ?_)
              refine tk 18 40 (v := .bool false) (h := ?_)
              refine wpAnyH_done (by kernel_rfl) ?_ _
              go_wp2_with fail
              go_roundg (n - (k + 1))
              case rel => exact ⟨k + 1, by omega, rfl, by go_num, HF.out.1, HB.out.1.trans ((((Below.refl _ _).alloc (Nat.le_refl _) (Obj.cells (dCells x) 92) : Below wr.heap.size wr (wr.alloc (.cells (dCells x) 92))).trans (HS.2.2.2.2.mono (by simp))).mono HB.out.1.size)⟩
              case measure => omega
      · obtain rfl : k = n := by omega
        have HF := Lib.hid (And.intro (HM.out.trans (ups_true (fun j h => hj j (by rw [H.out.2] at h; exact h)))) hb)
        clear hj hb
        go_wp2_with fail
        go_ret
        exact ⟨by rw [HF.out.1]; rfl, HF.out.2⟩
  · have hd : decide ((64 : Int) < (n : Int)) = true := by simp; omega
    have HM := Lib.hid (show rising D.zero 64 dirtyOk (fun a b : D => decide (a.page < b.page)) l = false by unfold rising; rw [H.out.2, decide_eq_false h8]; rfl)
    clear h8
    go_enter Try.func65, Try.ntmps65
    go_wp2
    go_ret
    exact ⟨by rw [HM.out]; rfl, Below.refl _ _⟩
set_option maxHeartbeats 4000000 in
theorem rising_deed (A : Option Addr) (n c : Nat) (l : List DeD) (w : World) (hl : ST deedK w A n l) (hn : n ≤ 1000000) (hbd : ∀ k, k < n → (l.getD k DeD.zero).d.mem.length ≤ 1000000) :
    Calls Try.prog 68 #[.slice A n c, .int .i64 64, .func (.func 69) #[] #[], .func (.func 70) #[] #[]] w fun e w' => e = .returned (.bool (rising DeD.zero 64 (fun x : DeD => deedOk x.d) (fun a b : DeD => decide (a.d.tx < b.d.tx)) l)) ∧ Below w.heap.size w w' := by
  have H := Lib.hid (And.intro hl hl.len)
  clear hl
  have HBD := Lib.hid hbd
  clear hbd
  by_cases h8 : n ≤ 64
  · have hd : decide ((64 : Int) < (n : Int)) = false := by simp; omega
    have HM := Lib.hid (show rising DeD.zero 64 (fun x : DeD => deedOk x.d) (fun a b : DeD => decide (a.d.tx < b.d.tx)) l = ups DeD.zero (fun x : DeD => deedOk x.d) (fun a b : DeD => decide (a.d.tx < b.d.tx)) l by unfold rising; rw [H.out.2, decide_eq_true h8, Bool.true_and])
    go_enter Try.func68, Try.ntmps68
    go_wp2
    go_loopg [17] n (fun gk s wr => ∃ k : Nat, k ≤ n ∧ gk = n - k ∧ s = .int .i64 k ∧ (∀ j, j < k → at_ DeD.zero (fun x : DeD => deedOk x.d) (fun a b : DeD => decide (a.d.tx < b.d.tx)) l j = true) ∧ Below w.heap.size w wr)
    case atStart => exact ⟨0, by omega, by omega, rfl, fun j hj => absurd hj (by omega), Below.refl _ _⟩
    case round =>
      obtain ⟨k, hk, rfl, rfl, hj, hb⟩ := hrel
      by_cases hlt : k < n
      · obtain ⟨b, off, rfl, hbs, c0, c1, okx⟩ := deed_at (H.out.1.below hb) hlt
        have hkn : (k : Int) < (n : Int) := by omega
        cases hok : (fun x : DeD => deedOk x.d) (l.getD k DeD.zero) with
        | false =>
          have hf : at_ DeD.zero (fun x : DeD => deedOk x.d) (fun a b : DeD => decide (a.d.tx < b.d.tx)) l k = false := by unfold at_; rw [hok]; rfl
          have HF := Lib.hid (And.intro (HM.out.trans (ups_false (by rw [H.out.2]; exact hlt) hf)) hok)
          have HB := Lib.hid (And.intro hb (And.intro okx (HBD.out _ hlt)))
          clear hf hj hok hb okx
          generalize l.getD k DeD.zero = x at *
          have HV := HF.out.2
          have HC1 := Lib.hid (show ∀ W, (fun w' => w'.cell? ⟨wr.heap.size, 0, none⟩ = some (.int .i64 x.d.tx) ∧ w'.cell? ⟨wr.heap.size, 1, none⟩ = some (.slice x.mA x.d.mem.length x.mc) ∧ Below (wr.alloc (.cells (deCells x) 54)).heap.size (wr.alloc (.cells (deCells x) 54)) w') W → Calls Try.prog 69 #[deVal x] W fun e w' => e = .returned (.bool false) ∧ (fun w' => w'.cell? ⟨wr.heap.size, 0, none⟩ = some (.int .i64 x.d.tx) ∧ w'.cell? ⟨wr.heap.size, 1, none⟩ = some (.slice x.mA x.d.mem.length x.mc) ∧ Below (wr.alloc (.cells (deCells x) 54)).heap.size (wr.alloc (.cells (deCells x) 54)) w') w' from fun W hW => (deedMay_any x W (deedK.keep HB.out.2.1 (((Below.refl _ _).alloc (Nat.le_refl _) (Obj.cells (deCells x) 54) : Below wr.heap.size wr (wr.alloc (.cells (deCells x) 54))).trans (hW.2.2.mono (by simp)))) HB.out.2.2).mono (fun e w' h => ⟨h.1.trans (congrArg (fun b => Ending.returned (Value.bool b)) HV), ⟨cell_below h.2 hW.1, cell_below h.2 hW.2.1, hW.2.2.trans (h.2.mono hW.2.2.size)⟩⟩))
          have HS : (fun w' => w'.cell? ⟨wr.heap.size, 0, none⟩ = some (.int .i64 x.d.tx) ∧ w'.cell? ⟨wr.heap.size, 1, none⟩ = some (.slice x.mA x.d.mem.length x.mc) ∧ Below (wr.alloc (.cells (deCells x) 54)).heap.size (wr.alloc (.cells (deCells x) 54)) w') (wr.alloc (.cells (deCells x) 54)).drew := ⟨(Blk.new wr 54 (deCells x)).cell 0, (Blk.new wr 54 (deCells x)).cell 1, (Below.refl _ _).drew⟩
          clear HV
          go_wp2_with fail
          refine wp_region_held_drew (S := fun w' => w'.cell? ⟨wr.heap.size, 0, none⟩ = some (.int .i64 x.d.tx) ∧ w'.cell? ⟨wr.heap.size, 1, none⟩ = some (.slice x.mA x.d.mem.length x.mc) ∧ Below (wr.alloc (.cells (deCells x) 54)).heap.size (wr.alloc (.cells (deCells x) 54)) w') (by kernel_rfl) HS (fun hHeld => ?_)
          refine tk 0 22 (v := .func (.func 69) #[] #[]) (h := ?_)
          refine tk 1 23 (v := deVal x) (h := ?_)
          refine wpAnyH_ready (rs := [2]) (by kernel_rfl) (by simp) ?_
          refine AllReadyH.cons rfl (fun K hK => ?_) AllReadyH.nil
          go_simp
          refine (HC1.out _ (by assumption)).mono ?_
          rintro e wq ⟨rfl, HS⟩
          refine hK.out _ _ (by first | exact HS | (dsimp only; exact HS)) (fun hHeld => ?_)
          clear hK K
          try simp only [Act.put, List.setIfInBounds_toArray, List.set_cons_zero, List.set_cons_succ]
          refine tk 3 25 (v := .bool true) (h := ?_)
          refine tk 4 26 (v := .bool true) (h := ?_)
          refine sk 5 27 (h := ?_)
          refine sk 6 28 (h := ?_)
          refine sk 7 29 (h := ?_)
          refine sk 8 30 (h := ?_)
          refine sk 9 31 (h := ?_)
          refine sk 10 32 (h := ?_)
          refine sk 11 33 (h := ?_)
          refine sk 12 34 (h := ?_)
          refine sk 13 35 (h := ?_)
          refine sk 14 36 (h := ?_)
          refine sk 15 37 (h := ?_)
          refine sk 16 38 (h := ?_)
          refine sk 17 39 (h := ?_)
          refine tk 18 40 (v := .bool true) (h := ?_)
          refine wpAnyH_done (by kernel_rfl) ?_ _
          go_wp2_with fail
          go_ret
          exact ⟨by rw [HF.out.1]; rfl, HB.out.1.trans ((((Below.refl _ _).alloc (Nat.le_refl _) (Obj.cells (deCells x) 54) : Below wr.heap.size wr (wr.alloc (.cells (deCells x) 54))).trans (HS.2.2.mono (by simp))).mono HB.out.1.size)⟩
        | true =>
          rcases Nat.eq_zero_or_pos k with rfl | hkp
          · have hf : at_ DeD.zero (fun x : DeD => deedOk x.d) (fun a b : DeD => decide (a.d.tx < b.d.tx)) l 0 = true := by unfold at_; rw [hok]; rfl
            have HF := Lib.hid (And.intro hf hok)
            have HB := Lib.hid (And.intro hb (And.intro okx (HBD.out _ hlt)))
            clear hf hj hok hb okx
            simp only [Nat.zero_mul, Nat.add_zero] at c0 c1
            generalize l.getD 0 DeD.zero = x at *
            have HV := HF.out.2
            have HC1 := Lib.hid (show ∀ W, (fun w' => w'.cell? ⟨wr.heap.size, 0, none⟩ = some (.int .i64 x.d.tx) ∧ w'.cell? ⟨wr.heap.size, 1, none⟩ = some (.slice x.mA x.d.mem.length x.mc) ∧ Below (wr.alloc (.cells (deCells x) 54)).heap.size (wr.alloc (.cells (deCells x) 54)) w') W → Calls Try.prog 69 #[deVal x] W fun e w' => e = .returned (.bool true) ∧ (fun w' => w'.cell? ⟨wr.heap.size, 0, none⟩ = some (.int .i64 x.d.tx) ∧ w'.cell? ⟨wr.heap.size, 1, none⟩ = some (.slice x.mA x.d.mem.length x.mc) ∧ Below (wr.alloc (.cells (deCells x) 54)).heap.size (wr.alloc (.cells (deCells x) 54)) w') w' from fun W hW => (deedMay_any x W (deedK.keep HB.out.2.1 (((Below.refl _ _).alloc (Nat.le_refl _) (Obj.cells (deCells x) 54) : Below wr.heap.size wr (wr.alloc (.cells (deCells x) 54))).trans (hW.2.2.mono (by simp)))) HB.out.2.2).mono (fun e w' h => ⟨h.1.trans (congrArg (fun b => Ending.returned (Value.bool b)) HV), ⟨cell_below h.2 hW.1, cell_below h.2 hW.2.1, hW.2.2.trans (h.2.mono hW.2.2.size)⟩⟩))
            have HS : (fun w' => w'.cell? ⟨wr.heap.size, 0, none⟩ = some (.int .i64 x.d.tx) ∧ w'.cell? ⟨wr.heap.size, 1, none⟩ = some (.slice x.mA x.d.mem.length x.mc) ∧ Below (wr.alloc (.cells (deCells x) 54)).heap.size (wr.alloc (.cells (deCells x) 54)) w') (wr.alloc (.cells (deCells x) 54)).drew := ⟨(Blk.new wr 54 (deCells x)).cell 0, (Blk.new wr 54 (deCells x)).cell 1, (Below.refl _ _).drew⟩
            clear HV
            go_wp2_with fail
            refine wp_region_held_drew (S := fun w' => w'.cell? ⟨wr.heap.size, 0, none⟩ = some (.int .i64 x.d.tx) ∧ w'.cell? ⟨wr.heap.size, 1, none⟩ = some (.slice x.mA x.d.mem.length x.mc) ∧ Below (wr.alloc (.cells (deCells x) 54)).heap.size (wr.alloc (.cells (deCells x) 54)) w') (by kernel_rfl) HS (fun hHeld => ?_)
            refine tk 0 22 (v := .func (.func 69) #[] #[]) (h := ?_)
            refine tk 1 23 (v := deVal x) (h := ?_)
            refine wpAnyH_ready (rs := [2]) (by kernel_rfl) (by simp) ?_
            refine AllReadyH.cons rfl (fun K hK => ?_) AllReadyH.nil
            go_simp
            refine (HC1.out _ (by assumption)).mono ?_
            rintro e wq ⟨rfl, HS⟩
            refine hK.out _ _ (by first | exact HS | (dsimp only; exact HS)) (fun hHeld => ?_)
            clear hK K
            try simp only [Act.put, List.setIfInBounds_toArray, List.set_cons_zero, List.set_cons_succ]
            refine tk 3 25 (v := .bool false) (h := ?_)
            refine tk 4 26 (v := .bool false) (h := ?_)
            refine tk 5 27 (v := .int .i64 0) (h := ?_)
            refine tk 6 28 (v := .bool false) (h := ?_)
            refine tk 7 29 (v := .bool false) (h := ?_)
            refine sk 8 30 (h := ?_)
            refine sk 9 31 (h := ?_)
            refine sk 10 32 (h := ?_)
            refine sk 11 33 (h := ?_)
            refine sk 12 34 (h := ?_)
            refine sk 13 35 (h := ?_)
            refine sk 14 36 (h := ?_)
            refine sk 15 37 (h := ?_)
            refine sk 16 38 (h := ?_)
            refine tk 17 39 (v := .bool false) (h := ?_)
            refine tk 18 40 (v := .bool false) (h := ?_)
            refine wpAnyH_done (by kernel_rfl) ?_ _
            go_wp2_with fail
            go_roundg (n - 1)
            case rel => exact ⟨1, by omega, by omega, rfl, fun j hj => by obtain rfl : j = 0 := by omega
                                                                          exact HF.out.1, HB.out.1.trans ((((Below.refl _ _).alloc (Nat.le_refl _) (Obj.cells (deCells x) 54) : Below wr.heap.size wr (wr.alloc (.cells (deCells x) 54))).trans (HS.2.2.mono (by simp))).mono HB.out.1.size)⟩
            case measure => omega
          · obtain ⟨b', off', e', hbs', e0, e1, _⟩ := deed_at (H.out.1.below hb) (i := k - 1) (by omega)
            injection e' with e'
            injection e' with e1 e2
            subst e1
            subst e2
            have hkp' : decide ((0 : Int) < (k : Int)) = true := by simp; omega
            have hs0 : IntKind.i64.wrap ((k : Int) - 1) = ((k - 1 : Nat) : Int) := by rw [IntKind.wrap_i64]; omega
            have hs1 : ((k - 1 : Nat) : Int) < (n : Int) := by omega
            have HJ := Lib.hid hj
            have HB := Lib.hid (And.intro hb (And.intro okx (HBD.out _ hlt)))
            clear hj hb okx
            cases hlo : (fun a b : DeD => decide (a.d.tx < b.d.tx)) (l.getD (k - 1) DeD.zero) (l.getD k DeD.zero) with
            | false =>
              have hf : at_ DeD.zero (fun x : DeD => deedOk x.d) (fun a b : DeD => decide (a.d.tx < b.d.tx)) l k = false := by
                unfold at_; rw [hok, hlo, decide_eq_false (by omega : ¬ k = 0)]; rfl
              have HF := Lib.hid (And.intro (HM.out.trans (ups_false (by rw [H.out.2]; exact hlt) hf)) (And.intro hok hlo))
              clear hf hok hlo
              generalize l.getD k DeD.zero = x at *
              generalize l.getD (k - 1) DeD.zero = y at *
              generalize k - 1 = j at *
              have HV := HF.out.2.1
              have HC1 := Lib.hid (show ∀ W, (fun w' => w'.cell? ⟨wr.heap.size, 0, none⟩ = some (.int .i64 x.d.tx) ∧ w'.cell? ⟨wr.heap.size, 1, none⟩ = some (.slice x.mA x.d.mem.length x.mc) ∧ w'.cell? ⟨b, off + j * 2, none⟩ = some (.int .i64 y.d.tx) ∧ w'.cell? ⟨b, off + j * 2 + 1, none⟩ = some (.slice y.mA y.d.mem.length y.mc) ∧ Below (wr.alloc (.cells (deCells x) 54)).heap.size (wr.alloc (.cells (deCells x) 54)) w') W → Calls Try.prog 69 #[deVal x] W fun e w' => e = .returned (.bool true) ∧ (fun w' => w'.cell? ⟨wr.heap.size, 0, none⟩ = some (.int .i64 x.d.tx) ∧ w'.cell? ⟨wr.heap.size, 1, none⟩ = some (.slice x.mA x.d.mem.length x.mc) ∧ w'.cell? ⟨b, off + j * 2, none⟩ = some (.int .i64 y.d.tx) ∧ w'.cell? ⟨b, off + j * 2 + 1, none⟩ = some (.slice y.mA y.d.mem.length y.mc) ∧ Below (wr.alloc (.cells (deCells x) 54)).heap.size (wr.alloc (.cells (deCells x) 54)) w') w' from fun W hW => (deedMay_any x W (deedK.keep HB.out.2.1 (((Below.refl _ _).alloc (Nat.le_refl _) (Obj.cells (deCells x) 54) : Below wr.heap.size wr (wr.alloc (.cells (deCells x) 54))).trans (hW.2.2.2.2.mono (by simp)))) HB.out.2.2).mono (fun e w' h => ⟨h.1.trans (congrArg (fun b => Ending.returned (Value.bool b)) HV), ⟨cell_below h.2 hW.1, cell_below h.2 hW.2.1, cell_below h.2 hW.2.2.1, cell_below h.2 hW.2.2.2.1, hW.2.2.2.2.trans (h.2.mono hW.2.2.2.2.size)⟩⟩))
              have HV2 := HF.out.2.2
              have HC2 := Lib.hid (show ∀ W, (fun w' => w'.cell? ⟨wr.heap.size, 0, none⟩ = some (.int .i64 x.d.tx) ∧ w'.cell? ⟨wr.heap.size, 1, none⟩ = some (.slice x.mA x.d.mem.length x.mc) ∧ w'.cell? ⟨b, off + j * 2, none⟩ = some (.int .i64 y.d.tx) ∧ w'.cell? ⟨b, off + j * 2 + 1, none⟩ = some (.slice y.mA y.d.mem.length y.mc) ∧ Below (wr.alloc (.cells (deCells x) 54)).heap.size (wr.alloc (.cells (deCells x) 54)) w') W → Calls Try.prog 70 #[deVal y, deVal x] W fun e w' => e = .returned (.bool false) ∧ (fun w' => w'.cell? ⟨wr.heap.size, 0, none⟩ = some (.int .i64 x.d.tx) ∧ w'.cell? ⟨wr.heap.size, 1, none⟩ = some (.slice x.mA x.d.mem.length x.mc) ∧ w'.cell? ⟨b, off + j * 2, none⟩ = some (.int .i64 y.d.tx) ∧ w'.cell? ⟨b, off + j * 2 + 1, none⟩ = some (.slice y.mA y.d.mem.length y.mc) ∧ Below (wr.alloc (.cells (deCells x) 54)).heap.size (wr.alloc (.cells (deCells x) 54)) w') w' from fun W hW => (deedLess_any y x W).mono (fun e w' h => ⟨h.1.trans (congrArg (fun b => Ending.returned (Value.bool b)) HV2), ⟨cell_below h.2 hW.1, cell_below h.2 hW.2.1, cell_below h.2 hW.2.2.1, cell_below h.2 hW.2.2.2.1, hW.2.2.2.2.trans (h.2.mono hW.2.2.2.2.size)⟩⟩))
              have HS : (fun w' => w'.cell? ⟨wr.heap.size, 0, none⟩ = some (.int .i64 x.d.tx) ∧ w'.cell? ⟨wr.heap.size, 1, none⟩ = some (.slice x.mA x.d.mem.length x.mc) ∧ w'.cell? ⟨b, off + j * 2, none⟩ = some (.int .i64 y.d.tx) ∧ w'.cell? ⟨b, off + j * 2 + 1, none⟩ = some (.slice y.mA y.d.mem.length y.mc) ∧ Below (wr.alloc (.cells (deCells x) 54)).heap.size (wr.alloc (.cells (deCells x) 54)) w') (wr.alloc (.cells (deCells x) 54)).drew := ⟨(Blk.new wr 54 (deCells x)).cell 0, (Blk.new wr 54 (deCells x)).cell 1, cell_alloc_some' _ e0, cell_alloc_some' _ e1, (Below.refl _ _).drew⟩
              clear HV HV2
              go_wp2_with fail
              refine wp_region_held_drew (S := fun w' => w'.cell? ⟨wr.heap.size, 0, none⟩ = some (.int .i64 x.d.tx) ∧ w'.cell? ⟨wr.heap.size, 1, none⟩ = some (.slice x.mA x.d.mem.length x.mc) ∧ w'.cell? ⟨b, off + j * 2, none⟩ = some (.int .i64 y.d.tx) ∧ w'.cell? ⟨b, off + j * 2 + 1, none⟩ = some (.slice y.mA y.d.mem.length y.mc) ∧ Below (wr.alloc (.cells (deCells x) 54)).heap.size (wr.alloc (.cells (deCells x) 54)) w') (by kernel_rfl) HS (fun hHeld => ?_)
              refine tk 0 22 (v := .func (.func 69) #[] #[]) (h := ?_)
              refine tk 1 23 (v := deVal x) (h := ?_)
              refine wpAnyH_ready (rs := [2]) (by kernel_rfl) (by simp) ?_
              refine AllReadyH.cons rfl (fun K hK => ?_) AllReadyH.nil
              go_simp
              refine (HC1.out _ (by assumption)).mono ?_
              rintro e wq ⟨rfl, HS⟩
              refine hK.out _ _ (by first | exact HS | (dsimp only; exact HS)) (fun hHeld => ?_)
              clear hK K
              try simp only [Act.put, List.setIfInBounds_toArray, List.set_cons_zero, List.set_cons_succ]
              refine tk 3 25 (v := .bool false) (h := ?_)
              refine tk 4 26 (v := .bool false) (h := ?_)
              refine tk 5 27 (v := .int .i64 (k : Int)) (h := ?_)
              refine tk 6 28 (v := .bool true) (h := ?_)
              refine tk 7 29 (v := .bool true) (h := ?_)
              refine tk 8 30 (v := .func (.func 70) #[] #[]) (h := ?_)
              refine tk 9 31 (v := .slice (some ⟨b, off, none⟩) n c) (h := ?_)
              refine tk 10 32 (v := .int .i64 (k : Int)) (h := ?_)
              refine tk 11 33 (v := .int .i64 (j : Int)) (h := ?_)
              refine tk 12 34 (v := .pointer (some ⟨b, off + j * 2, none⟩)) (h := ?_)
              refine tk 13 35 (v := deVal y) (h := ?_)
              refine tk 14 36 (v := deVal x) (h := ?_)
              refine wpAnyH_ready (rs := [15]) (by kernel_rfl) (by simp) ?_
              refine AllReadyH.cons rfl (fun K hK => ?_) AllReadyH.nil
              go_simp
              refine (HC2.out _ (by assumption)).mono ?_
              rintro e wq ⟨rfl, HS⟩
              refine hK.out _ _ (by first | exact HS | (dsimp only; exact HS)) (fun hHeld => ?_)
              clear hK K
              try simp only [Act.put, List.setIfInBounds_toArray, List.set_cons_zero, List.set_cons_succ]
              refine tk 16 38 (v := .bool true) (h := ?_)
              refine tk 17 39 (v := .bool true) (h := ?_)
              refine tk 18 40 (v := .bool true) (h := ?_)
              refine wpAnyH_done (by kernel_rfl) ?_ _
              go_wp2_with fail
              go_ret
              exact ⟨by rw [HF.out.1]; rfl, HB.out.1.trans ((((Below.refl _ _).alloc (Nat.le_refl _) (Obj.cells (deCells x) 54) : Below wr.heap.size wr (wr.alloc (.cells (deCells x) 54))).trans (HS.2.2.2.2.mono (by simp))).mono HB.out.1.size)⟩
            | true =>
              have hf : at_ DeD.zero (fun x : DeD => deedOk x.d) (fun a b : DeD => decide (a.d.tx < b.d.tx)) l k = true := by
                unfold at_; rw [hok, hlo]; simp
              have HF := Lib.hid (And.intro (show ∀ j, j < k + 1 → at_ DeD.zero (fun x : DeD => deedOk x.d) (fun a b : DeD => decide (a.d.tx < b.d.tx)) l j = true from fun j hjk => by
                rcases Nat.lt_or_ge j k with h1 | h1
                · exact HJ.out j h1
                · obtain rfl : j = k := by omega
                  exact hf) (And.intro hok hlo))
              clear hf hok hlo
              generalize l.getD k DeD.zero = x at *
              generalize l.getD (k - 1) DeD.zero = y at *
              generalize k - 1 = j at *
              have HV := HF.out.2.1
              have HC1 := Lib.hid (show ∀ W, (fun w' => w'.cell? ⟨wr.heap.size, 0, none⟩ = some (.int .i64 x.d.tx) ∧ w'.cell? ⟨wr.heap.size, 1, none⟩ = some (.slice x.mA x.d.mem.length x.mc) ∧ w'.cell? ⟨b, off + j * 2, none⟩ = some (.int .i64 y.d.tx) ∧ w'.cell? ⟨b, off + j * 2 + 1, none⟩ = some (.slice y.mA y.d.mem.length y.mc) ∧ Below (wr.alloc (.cells (deCells x) 54)).heap.size (wr.alloc (.cells (deCells x) 54)) w') W → Calls Try.prog 69 #[deVal x] W fun e w' => e = .returned (.bool true) ∧ (fun w' => w'.cell? ⟨wr.heap.size, 0, none⟩ = some (.int .i64 x.d.tx) ∧ w'.cell? ⟨wr.heap.size, 1, none⟩ = some (.slice x.mA x.d.mem.length x.mc) ∧ w'.cell? ⟨b, off + j * 2, none⟩ = some (.int .i64 y.d.tx) ∧ w'.cell? ⟨b, off + j * 2 + 1, none⟩ = some (.slice y.mA y.d.mem.length y.mc) ∧ Below (wr.alloc (.cells (deCells x) 54)).heap.size (wr.alloc (.cells (deCells x) 54)) w') w' from fun W hW => (deedMay_any x W (deedK.keep HB.out.2.1 (((Below.refl _ _).alloc (Nat.le_refl _) (Obj.cells (deCells x) 54) : Below wr.heap.size wr (wr.alloc (.cells (deCells x) 54))).trans (hW.2.2.2.2.mono (by simp)))) HB.out.2.2).mono (fun e w' h => ⟨h.1.trans (congrArg (fun b => Ending.returned (Value.bool b)) HV), ⟨cell_below h.2 hW.1, cell_below h.2 hW.2.1, cell_below h.2 hW.2.2.1, cell_below h.2 hW.2.2.2.1, hW.2.2.2.2.trans (h.2.mono hW.2.2.2.2.size)⟩⟩))
              have HV2 := HF.out.2.2
              have HC2 := Lib.hid (show ∀ W, (fun w' => w'.cell? ⟨wr.heap.size, 0, none⟩ = some (.int .i64 x.d.tx) ∧ w'.cell? ⟨wr.heap.size, 1, none⟩ = some (.slice x.mA x.d.mem.length x.mc) ∧ w'.cell? ⟨b, off + j * 2, none⟩ = some (.int .i64 y.d.tx) ∧ w'.cell? ⟨b, off + j * 2 + 1, none⟩ = some (.slice y.mA y.d.mem.length y.mc) ∧ Below (wr.alloc (.cells (deCells x) 54)).heap.size (wr.alloc (.cells (deCells x) 54)) w') W → Calls Try.prog 70 #[deVal y, deVal x] W fun e w' => e = .returned (.bool true) ∧ (fun w' => w'.cell? ⟨wr.heap.size, 0, none⟩ = some (.int .i64 x.d.tx) ∧ w'.cell? ⟨wr.heap.size, 1, none⟩ = some (.slice x.mA x.d.mem.length x.mc) ∧ w'.cell? ⟨b, off + j * 2, none⟩ = some (.int .i64 y.d.tx) ∧ w'.cell? ⟨b, off + j * 2 + 1, none⟩ = some (.slice y.mA y.d.mem.length y.mc) ∧ Below (wr.alloc (.cells (deCells x) 54)).heap.size (wr.alloc (.cells (deCells x) 54)) w') w' from fun W hW => (deedLess_any y x W).mono (fun e w' h => ⟨h.1.trans (congrArg (fun b => Ending.returned (Value.bool b)) HV2), ⟨cell_below h.2 hW.1, cell_below h.2 hW.2.1, cell_below h.2 hW.2.2.1, cell_below h.2 hW.2.2.2.1, hW.2.2.2.2.trans (h.2.mono hW.2.2.2.2.size)⟩⟩))
              have HS : (fun w' => w'.cell? ⟨wr.heap.size, 0, none⟩ = some (.int .i64 x.d.tx) ∧ w'.cell? ⟨wr.heap.size, 1, none⟩ = some (.slice x.mA x.d.mem.length x.mc) ∧ w'.cell? ⟨b, off + j * 2, none⟩ = some (.int .i64 y.d.tx) ∧ w'.cell? ⟨b, off + j * 2 + 1, none⟩ = some (.slice y.mA y.d.mem.length y.mc) ∧ Below (wr.alloc (.cells (deCells x) 54)).heap.size (wr.alloc (.cells (deCells x) 54)) w') (wr.alloc (.cells (deCells x) 54)).drew := ⟨(Blk.new wr 54 (deCells x)).cell 0, (Blk.new wr 54 (deCells x)).cell 1, cell_alloc_some' _ e0, cell_alloc_some' _ e1, (Below.refl _ _).drew⟩
              clear HV HV2
              go_wp2_with fail
              refine wp_region_held_drew (S := fun w' => w'.cell? ⟨wr.heap.size, 0, none⟩ = some (.int .i64 x.d.tx) ∧ w'.cell? ⟨wr.heap.size, 1, none⟩ = some (.slice x.mA x.d.mem.length x.mc) ∧ w'.cell? ⟨b, off + j * 2, none⟩ = some (.int .i64 y.d.tx) ∧ w'.cell? ⟨b, off + j * 2 + 1, none⟩ = some (.slice y.mA y.d.mem.length y.mc) ∧ Below (wr.alloc (.cells (deCells x) 54)).heap.size (wr.alloc (.cells (deCells x) 54)) w') (by kernel_rfl) HS (fun hHeld => ?_)
              refine tk 0 22 (v := .func (.func 69) #[] #[]) (h := ?_)
              refine tk 1 23 (v := deVal x) (h := ?_)
              refine wpAnyH_ready (rs := [2]) (by kernel_rfl) (by simp) ?_
              refine AllReadyH.cons rfl (fun K hK => ?_) AllReadyH.nil
              go_simp
              refine (HC1.out _ (by assumption)).mono ?_
              rintro e wq ⟨rfl, HS⟩
              refine hK.out _ _ (by first | exact HS | (dsimp only; exact HS)) (fun hHeld => ?_)
              clear hK K
              try simp only [Act.put, List.setIfInBounds_toArray, List.set_cons_zero, List.set_cons_succ]
              refine tk 3 25 (v := .bool false) (h := ?_)
              refine tk 4 26 (v := .bool false) (h := ?_)
              refine tk 5 27 (v := .int .i64 (k : Int)) (h := ?_)
              refine tk 6 28 (v := .bool true) (h := ?_)
              refine tk 7 29 (v := .bool true) (h := ?_)
              refine tk 8 30 (v := .func (.func 70) #[] #[]) (h := ?_)
              refine tk 9 31 (v := .slice (some ⟨b, off, none⟩) n c) (h := ?_)
              refine tk 10 32 (v := .int .i64 (k : Int)) (h := ?_)
              refine tk 11 33 (v := .int .i64 (j : Int)) (h := ?_)
              refine tk 12 34 (v := .pointer (some ⟨b, off + j * 2, none⟩)) (h := ?_)
              refine tk 13 35 (v := deVal y) (h := ?_)
              refine tk 14 36 (v := deVal x) (h := ?_)
              refine wpAnyH_ready (rs := [15]) (by kernel_rfl) (by simp) ?_
              refine AllReadyH.cons rfl (fun K hK => ?_) AllReadyH.nil
              go_simp
              refine (HC2.out _ (by assumption)).mono ?_
              rintro e wq ⟨rfl, HS⟩
              refine hK.out _ _ (by first | exact HS | (dsimp only; exact HS)) (fun hHeld => ?_)
              clear hK K
              try simp only [Act.put, List.setIfInBounds_toArray, List.set_cons_zero, List.set_cons_succ]
              refine tk 16 38 (v := .bool false) (h := ?_)
              refine tk 17 39 (v := .bool false) (h := ?_)
              refine tk 18 40 (v := .bool false) (h := ?_)
              refine wpAnyH_done (by kernel_rfl) ?_ _
              go_wp2_with fail
              go_roundg (n - (k + 1))
              case rel => exact ⟨k + 1, by omega, rfl, by go_num, HF.out.1, HB.out.1.trans ((((Below.refl _ _).alloc (Nat.le_refl _) (Obj.cells (deCells x) 54) : Below wr.heap.size wr (wr.alloc (.cells (deCells x) 54))).trans (HS.2.2.2.2.mono (by simp))).mono HB.out.1.size)⟩
              case measure => omega
      · obtain rfl : k = n := by omega
        have HF := Lib.hid (And.intro (HM.out.trans (ups_true (fun j h => hj j (by rw [H.out.2] at h; exact h)))) hb)
        clear hj hb
        go_wp2_with fail
        go_ret
        exact ⟨by rw [HF.out.1]; rfl, HF.out.2⟩
  · have hd : decide ((64 : Int) < (n : Int)) = true := by simp; omega
    have HM := Lib.hid (show rising DeD.zero 64 (fun x : DeD => deedOk x.d) (fun a b : DeD => decide (a.d.tx < b.d.tx)) l = false by unfold rising; rw [H.out.2, decide_eq_false h8]; rfl)
    clear h8
    go_enter Try.func68, Try.ntmps68
    go_wp2
    go_ret
    exact ⟨by rw [HM.out]; rfl, Below.refl _ _⟩
end Go.Proofs.Ytlijfnekopjogaa

/- Lists that rise: the program's rising[T], printed by gen_rise.py. -/
namespace Go.Proofs.Ytlijfnekopjogaa
open Go Go.RowKit Mem Rc
set_option maxRecDepth 100000
set_option linter.unusedVariables false
set_option linter.unusedSimpArgs false


set_option maxHeartbeats 4000000 in
theorem rowMay_any (x : RwD) (w : World) (hx : RowOk w x) (hn : x.r.mem.length ≤ 1000000 ∧ x.r.locks.length ≤ 1000000) : Calls Try.prog 63 #[rwVal x] w fun e w' => e = .returned (.bool (rowOk x.r)) ∧ Below w.heap.size w w' := by
  have hb : Below w.heap.size w (w.alloc (.cells (rwCells x) 52)) := (Below.refl _ _).alloc (Nat.le_refl _) _
  have HX := Lib.hid (And.intro hb (And.intro (hx.mem.below hb) (And.intro (hx.locks.below hb) (And.intro hn (And.intro hx.mc hx.lc)))))
  clear hb hx hn
  cases h0 : seq x.r.tx 1 with
  | false =>
    have HV := Lib.hid (show rowOk x.r = false by unfold rowOk; rw [h0]; simp only [Bool.true_and, Bool.and_true, Bool.false_and, Bool.and_false])
    have H0 := Lib.hid h0
    clear h0
    go_enter Try.func63, Try.ntmps63
    go_wp2_with fail
    refine (rseq_any x.r.tx 1 _).mono ?_
    rw [H0.out]
    rintro e w' ⟨rfl, rfl⟩
    go_wp2_with fail
    go_ret
    exact ⟨by rw [HV.out]; rfl, HX.out.1⟩
  | true =>
    cases h1 : decide (1 ≤ x.r.st) with
    | false =>
      have HV := Lib.hid (show rowOk x.r = false by unfold rowOk; rw [h0, h1]; simp only [Bool.true_and, Bool.and_true, Bool.false_and, Bool.and_false])
      have H0 := Lib.hid h0
      clear h0
      go_enter Try.func63, Try.ntmps63
      go_wp2_with fail
      refine (rseq_any x.r.tx 1 _).mono ?_
      rw [H0.out]
      rintro e w' ⟨rfl, rfl⟩
      go_wp2_with fail
      go_ret
      exact ⟨by rw [HV.out]; rfl, HX.out.1⟩
    | true =>
      cases h2 : decide (x.r.st ≤ 4) with
      | false =>
        have HV := Lib.hid (show rowOk x.r = false by unfold rowOk; rw [h0, h1, h2]; simp only [Bool.true_and, Bool.and_true, Bool.false_and, Bool.and_false])
        have H0 := Lib.hid h0
        clear h0
        go_enter Try.func63, Try.ntmps63
        go_wp2_with fail
        refine (rseq_any x.r.tx 1 _).mono ?_
        rw [H0.out]
        rintro e w' ⟨rfl, rfl⟩
        go_wp2_with fail
        go_ret
        exact ⟨by rw [HV.out]; rfl, HX.out.1⟩
      | true =>
        cases h3 : seq x.r.fi 0 with
        | false =>
          have HV := Lib.hid (show rowOk x.r = false by unfold rowOk; rw [h0, h1, h2, h3]; simp only [Bool.true_and, Bool.and_true, Bool.false_and, Bool.and_false])
          have H0 := Lib.hid h0
          have H3 := Lib.hid h3
          clear h0 h3
          go_enter Try.func63, Try.ntmps63
          go_wp2_with fail
          refine (rseq_any x.r.tx 1 _).mono ?_
          rw [H0.out]
          rintro e w' ⟨rfl, rfl⟩
          go_wp2_with fail
          refine (rseq_any x.r.fi 0 _).mono ?_
          rw [H3.out]
          rintro e w' ⟨rfl, rfl⟩
          go_wp2_with fail
          go_ret
          exact ⟨by rw [HV.out]; rfl, HX.out.1⟩
        | true =>
          cases h4 : seq x.r.la 0 with
          | false =>
            have HV := Lib.hid (show rowOk x.r = false by unfold rowOk; rw [h0, h1, h2, h3, h4]; simp only [Bool.true_and, Bool.and_true, Bool.false_and, Bool.and_false])
            have H0 := Lib.hid h0
            have H3 := Lib.hid h3
            have H4 := Lib.hid h4
            clear h0 h3 h4
            go_enter Try.func63, Try.ntmps63
            go_wp2_with fail
            refine (rseq_any x.r.tx 1 _).mono ?_
            rw [H0.out]
            rintro e w' ⟨rfl, rfl⟩
            go_wp2_with fail
            refine (rseq_any x.r.fi 0 _).mono ?_
            rw [H3.out]
            rintro e w' ⟨rfl, rfl⟩
            go_wp2_with fail
            refine (rseq_any x.r.la 0 _).mono ?_
            rw [H4.out]
            rintro e w' ⟨rfl, rfl⟩
            go_wp2_with fail
            go_ret
            exact ⟨by rw [HV.out]; rfl, HX.out.1⟩
          | true =>
            cases h5 : seq x.r.un 0 with
            | false =>
              have HV := Lib.hid (show rowOk x.r = false by unfold rowOk; rw [h0, h1, h2, h3, h4, h5]; simp only [Bool.true_and, Bool.and_true, Bool.false_and, Bool.and_false])
              have H0 := Lib.hid h0
              have H3 := Lib.hid h3
              have H4 := Lib.hid h4
              have H5 := Lib.hid h5
              clear h0 h3 h4 h5
              go_enter Try.func63, Try.ntmps63
              go_wp2_with fail
              refine (rseq_any x.r.tx 1 _).mono ?_
              rw [H0.out]
              rintro e w' ⟨rfl, rfl⟩
              go_wp2_with fail
              refine (rseq_any x.r.fi 0 _).mono ?_
              rw [H3.out]
              rintro e w' ⟨rfl, rfl⟩
              go_wp2_with fail
              refine (rseq_any x.r.la 0 _).mono ?_
              rw [H4.out]
              rintro e w' ⟨rfl, rfl⟩
              go_wp2_with fail
              refine (rseq_any x.r.un 0 _).mono ?_
              rw [H5.out]
              rintro e w' ⟨rfl, rfl⟩
              go_wp2_with fail
              go_ret
              exact ⟨by rw [HV.out]; rfl, HX.out.1⟩
            | true =>
              cases h6 : node x.r.co with
              | false =>
                have HV := Lib.hid (show rowOk x.r = false by unfold rowOk; rw [h0, h1, h2, h3, h4, h5, h6]; simp only [Bool.true_and, Bool.and_true, Bool.false_and, Bool.and_false])
                have H0 := Lib.hid h0
                have H3 := Lib.hid h3
                have H4 := Lib.hid h4
                have H5 := Lib.hid h5
                have H6 := Lib.hid h6
                clear h0 h3 h4 h5 h6
                go_enter Try.func63, Try.ntmps63
                go_wp2_with fail
                refine (rseq_any x.r.tx 1 _).mono ?_
                rw [H0.out]
                rintro e w' ⟨rfl, rfl⟩
                go_wp2_with fail
                refine (rseq_any x.r.fi 0 _).mono ?_
                rw [H3.out]
                rintro e w' ⟨rfl, rfl⟩
                go_wp2_with fail
                refine (rseq_any x.r.la 0 _).mono ?_
                rw [H4.out]
                rintro e w' ⟨rfl, rfl⟩
                go_wp2_with fail
                refine (rseq_any x.r.un 0 _).mono ?_
                rw [H5.out]
                rintro e w' ⟨rfl, rfl⟩
                go_wp2_with fail
                refine (rnode_any x.r.co _).mono ?_
                rw [H6.out]
                rintro e w' ⟨rfl, rfl⟩
                go_wp2_with fail
                go_ret
                exact ⟨by rw [HV.out]; rfl, HX.out.1⟩
              | true =>
                cases h7 : members x.r.mem with
                | false =>
                  have HV := Lib.hid (show rowOk x.r = false by unfold rowOk; rw [h0, h1, h2, h3, h4, h5, h6, h7]; simp only [Bool.true_and, Bool.and_true, Bool.false_and, Bool.and_false])
                  have H0 := Lib.hid h0
                  have H3 := Lib.hid h3
                  have H4 := Lib.hid h4
                  have H5 := Lib.hid h5
                  have H6 := Lib.hid h6
                  have H7 := Lib.hid h7
                  clear h0 h3 h4 h5 h6 h7
                  go_enter Try.func63, Try.ntmps63
                  go_wp2_with fail
                  refine (rseq_any x.r.tx 1 _).mono ?_
                  rw [H0.out]
                  rintro e w' ⟨rfl, rfl⟩
                  go_wp2_with fail
                  refine (rseq_any x.r.fi 0 _).mono ?_
                  rw [H3.out]
                  rintro e w' ⟨rfl, rfl⟩
                  go_wp2_with fail
                  refine (rseq_any x.r.la 0 _).mono ?_
                  rw [H4.out]
                  rintro e w' ⟨rfl, rfl⟩
                  go_wp2_with fail
                  refine (rseq_any x.r.un 0 _).mono ?_
                  rw [H5.out]
                  rintro e w' ⟨rfl, rfl⟩
                  go_wp2_with fail
                  refine (rnode_any x.r.co _).mono ?_
                  rw [H6.out]
                  rintro e w' ⟨rfl, rfl⟩
                  go_wp2_with fail
                  refine (rmembers_any x.mA _ x.mc x.r.mem _ HX.out.2.1 HX.out.2.2.2.1.1 HX.out.2.2.2.2.1.2).mono ?_
                  rw [H7.out]
                  rintro e w' ⟨rfl, rfl⟩
                  go_wp2_with fail
                  go_ret
                  exact ⟨by rw [HV.out]; rfl, HX.out.1⟩
                | true =>
                  have HV := Lib.hid (show rowOk x.r = locks x.r.locks by unfold rowOk; rw [h0, h1, h2, h3, h4, h5, h6, h7]; simp only [Bool.true_and, Bool.and_true, Bool.false_and, Bool.and_false])
                  have H0 := Lib.hid h0
                  have H3 := Lib.hid h3
                  have H4 := Lib.hid h4
                  have H5 := Lib.hid h5
                  have H6 := Lib.hid h6
                  have H7 := Lib.hid h7
                  clear h0 h3 h4 h5 h6 h7
                  go_enter Try.func63, Try.ntmps63
                  go_wp2_with fail
                  refine (rseq_any x.r.tx 1 _).mono ?_
                  rw [H0.out]
                  rintro e w' ⟨rfl, rfl⟩
                  go_wp2_with fail
                  refine (rseq_any x.r.fi 0 _).mono ?_
                  rw [H3.out]
                  rintro e w' ⟨rfl, rfl⟩
                  go_wp2_with fail
                  refine (rseq_any x.r.la 0 _).mono ?_
                  rw [H4.out]
                  rintro e w' ⟨rfl, rfl⟩
                  go_wp2_with fail
                  refine (rseq_any x.r.un 0 _).mono ?_
                  rw [H5.out]
                  rintro e w' ⟨rfl, rfl⟩
                  go_wp2_with fail
                  refine (rnode_any x.r.co _).mono ?_
                  rw [H6.out]
                  rintro e w' ⟨rfl, rfl⟩
                  go_wp2_with fail
                  refine (rmembers_any x.mA _ x.mc x.r.mem _ HX.out.2.1 HX.out.2.2.2.1.1 HX.out.2.2.2.2.1.2).mono ?_
                  rw [H7.out]
                  rintro e w' ⟨rfl, rfl⟩
                  go_wp2_with fail
                  refine (rlocks_any x.lA _ x.lc x.r.locks _ HX.out.2.2.1 HX.out.2.2.2.1.2).mono ?_
                  rintro e w' ⟨rfl, hb9⟩
                  have HB9 := Lib.hid hb9
                  clear hb9
                  go_wp2_with fail
                  go_ret
                  exact ⟨by rw [HV.out]; rfl, HX.out.1.trans (HB9.out.mono HX.out.1.size)⟩
set_option maxHeartbeats 4000000 in
theorem rising_row (A : Option Addr) (n c : Nat) (l : List RwD) (w : World) (hl : ST rowK w A n l) (hn : n ≤ 1000000) (hbd : ∀ k, k < n → (l.getD k RwD.zero).r.mem.length ≤ 1000000 ∧ (l.getD k RwD.zero).r.locks.length ≤ 1000000) :
    Calls Try.prog 62 #[.slice A n c, .int .i64 64, .func (.func 63) #[] #[], .func (.func 64) #[] #[]] w fun e w' => e = .returned (.bool (rising RwD.zero 64 (fun x : RwD => rowOk x.r) (fun a b : RwD => decide (a.r.tx < b.r.tx)) l)) ∧ Below w.heap.size w w' := by
  have H := Lib.hid (And.intro hl hl.len)
  clear hl
  have HBD := Lib.hid hbd
  clear hbd
  by_cases h8 : n ≤ 64
  · have hd : decide ((64 : Int) < (n : Int)) = false := by simp; omega
    have HM := Lib.hid (show rising RwD.zero 64 (fun x : RwD => rowOk x.r) (fun a b : RwD => decide (a.r.tx < b.r.tx)) l = ups RwD.zero (fun x : RwD => rowOk x.r) (fun a b : RwD => decide (a.r.tx < b.r.tx)) l by unfold rising; rw [H.out.2, decide_eq_true h8, Bool.true_and])
    go_enter Try.func62, Try.ntmps62
    go_wp2
    go_loopg [17] n (fun gk s wr => ∃ k : Nat, k ≤ n ∧ gk = n - k ∧ s = .int .i64 k ∧ (∀ j, j < k → at_ RwD.zero (fun x : RwD => rowOk x.r) (fun a b : RwD => decide (a.r.tx < b.r.tx)) l j = true) ∧ Below w.heap.size w wr)
    case atStart => exact ⟨0, by omega, by omega, rfl, fun j hj => absurd hj (by omega), Below.refl _ _⟩
    case round =>
      obtain ⟨k, hk, rfl, rfl, hj, hb⟩ := hrel
      by_cases hlt : k < n
      · obtain ⟨b, off, rfl, hbs, c0, c1, c2, c3, c4, c5, c6, c7, okx⟩ := row_at (H.out.1.below hb) hlt
        have hkn : (k : Int) < (n : Int) := by omega
        cases hok : (fun x : RwD => rowOk x.r) (l.getD k RwD.zero) with
        | false =>
          have hf : at_ RwD.zero (fun x : RwD => rowOk x.r) (fun a b : RwD => decide (a.r.tx < b.r.tx)) l k = false := by unfold at_; rw [hok]; rfl
          have HF := Lib.hid (And.intro (HM.out.trans (ups_false (by rw [H.out.2]; exact hlt) hf)) hok)
          have HB := Lib.hid (And.intro hb (And.intro okx (HBD.out _ hlt)))
          clear hf hj hok hb okx
          generalize l.getD k RwD.zero = x at *
          have HV := HF.out.2
          have HC1 := Lib.hid (show ∀ W, (fun w' => w'.cell? ⟨wr.heap.size, 0, none⟩ = some (.int .i64 x.r.tx) ∧ w'.cell? ⟨wr.heap.size, 1, none⟩ = some (.int .i64 x.r.st) ∧ w'.cell? ⟨wr.heap.size, 2, none⟩ = some (.int .i64 x.r.fi) ∧ w'.cell? ⟨wr.heap.size, 3, none⟩ = some (.int .i64 x.r.la) ∧ w'.cell? ⟨wr.heap.size, 4, none⟩ = some (.int .i64 x.r.un) ∧ w'.cell? ⟨wr.heap.size, 5, none⟩ = some (.int .i64 x.r.co) ∧ w'.cell? ⟨wr.heap.size, 6, none⟩ = some (.slice x.mA x.r.mem.length x.mc) ∧ w'.cell? ⟨wr.heap.size, 7, none⟩ = some (.slice x.lA x.r.locks.length x.lc) ∧ Below (wr.alloc (.cells (rwCells x) 52)).heap.size (wr.alloc (.cells (rwCells x) 52)) w') W → Calls Try.prog 63 #[rwVal x] W fun e w' => e = .returned (.bool false) ∧ (fun w' => w'.cell? ⟨wr.heap.size, 0, none⟩ = some (.int .i64 x.r.tx) ∧ w'.cell? ⟨wr.heap.size, 1, none⟩ = some (.int .i64 x.r.st) ∧ w'.cell? ⟨wr.heap.size, 2, none⟩ = some (.int .i64 x.r.fi) ∧ w'.cell? ⟨wr.heap.size, 3, none⟩ = some (.int .i64 x.r.la) ∧ w'.cell? ⟨wr.heap.size, 4, none⟩ = some (.int .i64 x.r.un) ∧ w'.cell? ⟨wr.heap.size, 5, none⟩ = some (.int .i64 x.r.co) ∧ w'.cell? ⟨wr.heap.size, 6, none⟩ = some (.slice x.mA x.r.mem.length x.mc) ∧ w'.cell? ⟨wr.heap.size, 7, none⟩ = some (.slice x.lA x.r.locks.length x.lc) ∧ Below (wr.alloc (.cells (rwCells x) 52)).heap.size (wr.alloc (.cells (rwCells x) 52)) w') w' from fun W hW => (rowMay_any x W (rowK.keep HB.out.2.1 (((Below.refl _ _).alloc (Nat.le_refl _) (Obj.cells (rwCells x) 52) : Below wr.heap.size wr (wr.alloc (.cells (rwCells x) 52))).trans (hW.2.2.2.2.2.2.2.2.mono (by simp)))) HB.out.2.2).mono (fun e w' h => ⟨h.1.trans (congrArg (fun b => Ending.returned (Value.bool b)) HV), ⟨cell_below h.2 hW.1, cell_below h.2 hW.2.1, cell_below h.2 hW.2.2.1, cell_below h.2 hW.2.2.2.1, cell_below h.2 hW.2.2.2.2.1, cell_below h.2 hW.2.2.2.2.2.1, cell_below h.2 hW.2.2.2.2.2.2.1, cell_below h.2 hW.2.2.2.2.2.2.2.1, hW.2.2.2.2.2.2.2.2.trans (h.2.mono hW.2.2.2.2.2.2.2.2.size)⟩⟩))
          have HS : (fun w' => w'.cell? ⟨wr.heap.size, 0, none⟩ = some (.int .i64 x.r.tx) ∧ w'.cell? ⟨wr.heap.size, 1, none⟩ = some (.int .i64 x.r.st) ∧ w'.cell? ⟨wr.heap.size, 2, none⟩ = some (.int .i64 x.r.fi) ∧ w'.cell? ⟨wr.heap.size, 3, none⟩ = some (.int .i64 x.r.la) ∧ w'.cell? ⟨wr.heap.size, 4, none⟩ = some (.int .i64 x.r.un) ∧ w'.cell? ⟨wr.heap.size, 5, none⟩ = some (.int .i64 x.r.co) ∧ w'.cell? ⟨wr.heap.size, 6, none⟩ = some (.slice x.mA x.r.mem.length x.mc) ∧ w'.cell? ⟨wr.heap.size, 7, none⟩ = some (.slice x.lA x.r.locks.length x.lc) ∧ Below (wr.alloc (.cells (rwCells x) 52)).heap.size (wr.alloc (.cells (rwCells x) 52)) w') (wr.alloc (.cells (rwCells x) 52)).drew := ⟨(Blk.new wr 52 (rwCells x)).cell 0, (Blk.new wr 52 (rwCells x)).cell 1, (Blk.new wr 52 (rwCells x)).cell 2, (Blk.new wr 52 (rwCells x)).cell 3, (Blk.new wr 52 (rwCells x)).cell 4, (Blk.new wr 52 (rwCells x)).cell 5, (Blk.new wr 52 (rwCells x)).cell 6, (Blk.new wr 52 (rwCells x)).cell 7, (Below.refl _ _).drew⟩
          clear HV
          go_wp2_with fail
          refine wp_region_held_drew (S := fun w' => w'.cell? ⟨wr.heap.size, 0, none⟩ = some (.int .i64 x.r.tx) ∧ w'.cell? ⟨wr.heap.size, 1, none⟩ = some (.int .i64 x.r.st) ∧ w'.cell? ⟨wr.heap.size, 2, none⟩ = some (.int .i64 x.r.fi) ∧ w'.cell? ⟨wr.heap.size, 3, none⟩ = some (.int .i64 x.r.la) ∧ w'.cell? ⟨wr.heap.size, 4, none⟩ = some (.int .i64 x.r.un) ∧ w'.cell? ⟨wr.heap.size, 5, none⟩ = some (.int .i64 x.r.co) ∧ w'.cell? ⟨wr.heap.size, 6, none⟩ = some (.slice x.mA x.r.mem.length x.mc) ∧ w'.cell? ⟨wr.heap.size, 7, none⟩ = some (.slice x.lA x.r.locks.length x.lc) ∧ Below (wr.alloc (.cells (rwCells x) 52)).heap.size (wr.alloc (.cells (rwCells x) 52)) w') (by kernel_rfl) HS (fun hHeld => ?_)
          refine tk 0 22 (v := .func (.func 63) #[] #[]) (h := ?_)
          refine tk 1 23 (v := rwVal x) (h := ?_)
          refine wpAnyH_ready (rs := [2]) (by kernel_rfl) (by simp) ?_
          refine AllReadyH.cons rfl (fun K hK => ?_) AllReadyH.nil
          go_simp
          refine (HC1.out _ (by assumption)).mono ?_
          rintro e wq ⟨rfl, HS⟩
          refine hK.out _ _ (by first | exact HS | (dsimp only; exact HS)) (fun hHeld => ?_)
          clear hK K
          try simp only [Act.put, List.setIfInBounds_toArray, List.set_cons_zero, List.set_cons_succ]
          refine tk 3 25 (v := .bool true) (h := ?_)
          refine tk 4 26 (v := .bool true) (h := ?_)
          refine sk 5 27 (h := ?_)
          refine sk 6 28 (h := ?_)
          refine sk 7 29 (h := ?_)
          refine sk 8 30 (h := ?_)
          refine sk 9 31 (h := ?_)
          refine sk 10 32 (h := ?_)
          refine sk 11 33 (h := ?_)
          refine sk 12 34 (h := ?_)
          refine sk 13 35 (h := ?_)
          refine sk 14 36 (h := ?_)
          refine sk 15 37 (h := ?_)
          refine sk 16 38 (h := ?_)
          refine sk 17 39 (h := ?_)
          refine tk 18 40 (v := .bool true) (h := ?_)
          refine wpAnyH_done (by kernel_rfl) ?_ _
          go_wp2_with fail
          go_ret
          exact ⟨by rw [HF.out.1]; rfl, HB.out.1.trans ((((Below.refl _ _).alloc (Nat.le_refl _) (Obj.cells (rwCells x) 52) : Below wr.heap.size wr (wr.alloc (.cells (rwCells x) 52))).trans (HS.2.2.2.2.2.2.2.2.mono (by simp))).mono HB.out.1.size)⟩
        | true =>
          rcases Nat.eq_zero_or_pos k with rfl | hkp
          · have hf : at_ RwD.zero (fun x : RwD => rowOk x.r) (fun a b : RwD => decide (a.r.tx < b.r.tx)) l 0 = true := by unfold at_; rw [hok]; rfl
            have HF := Lib.hid (And.intro hf hok)
            have HB := Lib.hid (And.intro hb (And.intro okx (HBD.out _ hlt)))
            clear hf hj hok hb okx
            simp only [Nat.zero_mul, Nat.add_zero] at c0 c1 c2 c3 c4 c5 c6 c7
            generalize l.getD 0 RwD.zero = x at *
            have HV := HF.out.2
            have HC1 := Lib.hid (show ∀ W, (fun w' => w'.cell? ⟨wr.heap.size, 0, none⟩ = some (.int .i64 x.r.tx) ∧ w'.cell? ⟨wr.heap.size, 1, none⟩ = some (.int .i64 x.r.st) ∧ w'.cell? ⟨wr.heap.size, 2, none⟩ = some (.int .i64 x.r.fi) ∧ w'.cell? ⟨wr.heap.size, 3, none⟩ = some (.int .i64 x.r.la) ∧ w'.cell? ⟨wr.heap.size, 4, none⟩ = some (.int .i64 x.r.un) ∧ w'.cell? ⟨wr.heap.size, 5, none⟩ = some (.int .i64 x.r.co) ∧ w'.cell? ⟨wr.heap.size, 6, none⟩ = some (.slice x.mA x.r.mem.length x.mc) ∧ w'.cell? ⟨wr.heap.size, 7, none⟩ = some (.slice x.lA x.r.locks.length x.lc) ∧ Below (wr.alloc (.cells (rwCells x) 52)).heap.size (wr.alloc (.cells (rwCells x) 52)) w') W → Calls Try.prog 63 #[rwVal x] W fun e w' => e = .returned (.bool true) ∧ (fun w' => w'.cell? ⟨wr.heap.size, 0, none⟩ = some (.int .i64 x.r.tx) ∧ w'.cell? ⟨wr.heap.size, 1, none⟩ = some (.int .i64 x.r.st) ∧ w'.cell? ⟨wr.heap.size, 2, none⟩ = some (.int .i64 x.r.fi) ∧ w'.cell? ⟨wr.heap.size, 3, none⟩ = some (.int .i64 x.r.la) ∧ w'.cell? ⟨wr.heap.size, 4, none⟩ = some (.int .i64 x.r.un) ∧ w'.cell? ⟨wr.heap.size, 5, none⟩ = some (.int .i64 x.r.co) ∧ w'.cell? ⟨wr.heap.size, 6, none⟩ = some (.slice x.mA x.r.mem.length x.mc) ∧ w'.cell? ⟨wr.heap.size, 7, none⟩ = some (.slice x.lA x.r.locks.length x.lc) ∧ Below (wr.alloc (.cells (rwCells x) 52)).heap.size (wr.alloc (.cells (rwCells x) 52)) w') w' from fun W hW => (rowMay_any x W (rowK.keep HB.out.2.1 (((Below.refl _ _).alloc (Nat.le_refl _) (Obj.cells (rwCells x) 52) : Below wr.heap.size wr (wr.alloc (.cells (rwCells x) 52))).trans (hW.2.2.2.2.2.2.2.2.mono (by simp)))) HB.out.2.2).mono (fun e w' h => ⟨h.1.trans (congrArg (fun b => Ending.returned (Value.bool b)) HV), ⟨cell_below h.2 hW.1, cell_below h.2 hW.2.1, cell_below h.2 hW.2.2.1, cell_below h.2 hW.2.2.2.1, cell_below h.2 hW.2.2.2.2.1, cell_below h.2 hW.2.2.2.2.2.1, cell_below h.2 hW.2.2.2.2.2.2.1, cell_below h.2 hW.2.2.2.2.2.2.2.1, hW.2.2.2.2.2.2.2.2.trans (h.2.mono hW.2.2.2.2.2.2.2.2.size)⟩⟩))
            have HS : (fun w' => w'.cell? ⟨wr.heap.size, 0, none⟩ = some (.int .i64 x.r.tx) ∧ w'.cell? ⟨wr.heap.size, 1, none⟩ = some (.int .i64 x.r.st) ∧ w'.cell? ⟨wr.heap.size, 2, none⟩ = some (.int .i64 x.r.fi) ∧ w'.cell? ⟨wr.heap.size, 3, none⟩ = some (.int .i64 x.r.la) ∧ w'.cell? ⟨wr.heap.size, 4, none⟩ = some (.int .i64 x.r.un) ∧ w'.cell? ⟨wr.heap.size, 5, none⟩ = some (.int .i64 x.r.co) ∧ w'.cell? ⟨wr.heap.size, 6, none⟩ = some (.slice x.mA x.r.mem.length x.mc) ∧ w'.cell? ⟨wr.heap.size, 7, none⟩ = some (.slice x.lA x.r.locks.length x.lc) ∧ Below (wr.alloc (.cells (rwCells x) 52)).heap.size (wr.alloc (.cells (rwCells x) 52)) w') (wr.alloc (.cells (rwCells x) 52)).drew := ⟨(Blk.new wr 52 (rwCells x)).cell 0, (Blk.new wr 52 (rwCells x)).cell 1, (Blk.new wr 52 (rwCells x)).cell 2, (Blk.new wr 52 (rwCells x)).cell 3, (Blk.new wr 52 (rwCells x)).cell 4, (Blk.new wr 52 (rwCells x)).cell 5, (Blk.new wr 52 (rwCells x)).cell 6, (Blk.new wr 52 (rwCells x)).cell 7, (Below.refl _ _).drew⟩
            clear HV
            go_wp2_with fail
            refine wp_region_held_drew (S := fun w' => w'.cell? ⟨wr.heap.size, 0, none⟩ = some (.int .i64 x.r.tx) ∧ w'.cell? ⟨wr.heap.size, 1, none⟩ = some (.int .i64 x.r.st) ∧ w'.cell? ⟨wr.heap.size, 2, none⟩ = some (.int .i64 x.r.fi) ∧ w'.cell? ⟨wr.heap.size, 3, none⟩ = some (.int .i64 x.r.la) ∧ w'.cell? ⟨wr.heap.size, 4, none⟩ = some (.int .i64 x.r.un) ∧ w'.cell? ⟨wr.heap.size, 5, none⟩ = some (.int .i64 x.r.co) ∧ w'.cell? ⟨wr.heap.size, 6, none⟩ = some (.slice x.mA x.r.mem.length x.mc) ∧ w'.cell? ⟨wr.heap.size, 7, none⟩ = some (.slice x.lA x.r.locks.length x.lc) ∧ Below (wr.alloc (.cells (rwCells x) 52)).heap.size (wr.alloc (.cells (rwCells x) 52)) w') (by kernel_rfl) HS (fun hHeld => ?_)
            refine tk 0 22 (v := .func (.func 63) #[] #[]) (h := ?_)
            refine tk 1 23 (v := rwVal x) (h := ?_)
            refine wpAnyH_ready (rs := [2]) (by kernel_rfl) (by simp) ?_
            refine AllReadyH.cons rfl (fun K hK => ?_) AllReadyH.nil
            go_simp
            refine (HC1.out _ (by assumption)).mono ?_
            rintro e wq ⟨rfl, HS⟩
            refine hK.out _ _ (by first | exact HS | (dsimp only; exact HS)) (fun hHeld => ?_)
            clear hK K
            try simp only [Act.put, List.setIfInBounds_toArray, List.set_cons_zero, List.set_cons_succ]
            refine tk 3 25 (v := .bool false) (h := ?_)
            refine tk 4 26 (v := .bool false) (h := ?_)
            refine tk 5 27 (v := .int .i64 0) (h := ?_)
            refine tk 6 28 (v := .bool false) (h := ?_)
            refine tk 7 29 (v := .bool false) (h := ?_)
            refine sk 8 30 (h := ?_)
            refine sk 9 31 (h := ?_)
            refine sk 10 32 (h := ?_)
            refine sk 11 33 (h := ?_)
            refine sk 12 34 (h := ?_)
            refine sk 13 35 (h := ?_)
            refine sk 14 36 (h := ?_)
            refine sk 15 37 (h := ?_)
            refine sk 16 38 (h := ?_)
            refine tk 17 39 (v := .bool false) (h := ?_)
            refine tk 18 40 (v := .bool false) (h := ?_)
            refine wpAnyH_done (by kernel_rfl) ?_ _
            go_wp2_with fail
            go_roundg (n - 1)
            case rel => exact ⟨1, by omega, by omega, rfl, fun j hj => by obtain rfl : j = 0 := by omega
                                                                          exact HF.out.1, HB.out.1.trans ((((Below.refl _ _).alloc (Nat.le_refl _) (Obj.cells (rwCells x) 52) : Below wr.heap.size wr (wr.alloc (.cells (rwCells x) 52))).trans (HS.2.2.2.2.2.2.2.2.mono (by simp))).mono HB.out.1.size)⟩
            case measure => omega
          · obtain ⟨b', off', e', hbs', e0, e1, e2, e3, e4, e5, e6, e7, _⟩ := row_at (H.out.1.below hb) (i := k - 1) (by omega)
            injection e' with e'
            injection e' with q1 q2
            subst q1
            subst q2
            have hkp' : decide ((0 : Int) < (k : Int)) = true := by simp; omega
            have hs0 : IntKind.i64.wrap ((k : Int) - 1) = ((k - 1 : Nat) : Int) := by rw [IntKind.wrap_i64]; omega
            have hs1 : ((k - 1 : Nat) : Int) < (n : Int) := by omega
            have HJ := Lib.hid hj
            have HB := Lib.hid (And.intro hb (And.intro okx (HBD.out _ hlt)))
            clear hj hb okx
            cases hlo : (fun a b : RwD => decide (a.r.tx < b.r.tx)) (l.getD (k - 1) RwD.zero) (l.getD k RwD.zero) with
            | false =>
              have hf : at_ RwD.zero (fun x : RwD => rowOk x.r) (fun a b : RwD => decide (a.r.tx < b.r.tx)) l k = false := by
                unfold at_; rw [hok, hlo, decide_eq_false (by omega : ¬ k = 0)]; rfl
              have HF := Lib.hid (And.intro (HM.out.trans (ups_false (by rw [H.out.2]; exact hlt) hf)) (And.intro hok hlo))
              clear hf hok hlo
              generalize l.getD k RwD.zero = x at *
              generalize l.getD (k - 1) RwD.zero = y at *
              generalize k - 1 = j at *
              have HV := HF.out.2.1
              have HC1 := Lib.hid (show ∀ W, (fun w' => w'.cell? ⟨wr.heap.size, 0, none⟩ = some (.int .i64 x.r.tx) ∧ w'.cell? ⟨wr.heap.size, 1, none⟩ = some (.int .i64 x.r.st) ∧ w'.cell? ⟨wr.heap.size, 2, none⟩ = some (.int .i64 x.r.fi) ∧ w'.cell? ⟨wr.heap.size, 3, none⟩ = some (.int .i64 x.r.la) ∧ w'.cell? ⟨wr.heap.size, 4, none⟩ = some (.int .i64 x.r.un) ∧ w'.cell? ⟨wr.heap.size, 5, none⟩ = some (.int .i64 x.r.co) ∧ w'.cell? ⟨wr.heap.size, 6, none⟩ = some (.slice x.mA x.r.mem.length x.mc) ∧ w'.cell? ⟨wr.heap.size, 7, none⟩ = some (.slice x.lA x.r.locks.length x.lc) ∧ w'.cell? ⟨b, off + j * 8, none⟩ = some (.int .i64 y.r.tx) ∧ w'.cell? ⟨b, off + j * 8 + 1, none⟩ = some (.int .i64 y.r.st) ∧ w'.cell? ⟨b, off + j * 8 + 2, none⟩ = some (.int .i64 y.r.fi) ∧ w'.cell? ⟨b, off + j * 8 + 3, none⟩ = some (.int .i64 y.r.la) ∧ w'.cell? ⟨b, off + j * 8 + 4, none⟩ = some (.int .i64 y.r.un) ∧ w'.cell? ⟨b, off + j * 8 + 5, none⟩ = some (.int .i64 y.r.co) ∧ w'.cell? ⟨b, off + j * 8 + 6, none⟩ = some (.slice y.mA y.r.mem.length y.mc) ∧ w'.cell? ⟨b, off + j * 8 + 7, none⟩ = some (.slice y.lA y.r.locks.length y.lc) ∧ Below (wr.alloc (.cells (rwCells x) 52)).heap.size (wr.alloc (.cells (rwCells x) 52)) w') W → Calls Try.prog 63 #[rwVal x] W fun e w' => e = .returned (.bool true) ∧ (fun w' => w'.cell? ⟨wr.heap.size, 0, none⟩ = some (.int .i64 x.r.tx) ∧ w'.cell? ⟨wr.heap.size, 1, none⟩ = some (.int .i64 x.r.st) ∧ w'.cell? ⟨wr.heap.size, 2, none⟩ = some (.int .i64 x.r.fi) ∧ w'.cell? ⟨wr.heap.size, 3, none⟩ = some (.int .i64 x.r.la) ∧ w'.cell? ⟨wr.heap.size, 4, none⟩ = some (.int .i64 x.r.un) ∧ w'.cell? ⟨wr.heap.size, 5, none⟩ = some (.int .i64 x.r.co) ∧ w'.cell? ⟨wr.heap.size, 6, none⟩ = some (.slice x.mA x.r.mem.length x.mc) ∧ w'.cell? ⟨wr.heap.size, 7, none⟩ = some (.slice x.lA x.r.locks.length x.lc) ∧ w'.cell? ⟨b, off + j * 8, none⟩ = some (.int .i64 y.r.tx) ∧ w'.cell? ⟨b, off + j * 8 + 1, none⟩ = some (.int .i64 y.r.st) ∧ w'.cell? ⟨b, off + j * 8 + 2, none⟩ = some (.int .i64 y.r.fi) ∧ w'.cell? ⟨b, off + j * 8 + 3, none⟩ = some (.int .i64 y.r.la) ∧ w'.cell? ⟨b, off + j * 8 + 4, none⟩ = some (.int .i64 y.r.un) ∧ w'.cell? ⟨b, off + j * 8 + 5, none⟩ = some (.int .i64 y.r.co) ∧ w'.cell? ⟨b, off + j * 8 + 6, none⟩ = some (.slice y.mA y.r.mem.length y.mc) ∧ w'.cell? ⟨b, off + j * 8 + 7, none⟩ = some (.slice y.lA y.r.locks.length y.lc) ∧ Below (wr.alloc (.cells (rwCells x) 52)).heap.size (wr.alloc (.cells (rwCells x) 52)) w') w' from fun W hW => (rowMay_any x W (rowK.keep HB.out.2.1 (((Below.refl _ _).alloc (Nat.le_refl _) (Obj.cells (rwCells x) 52) : Below wr.heap.size wr (wr.alloc (.cells (rwCells x) 52))).trans (hW.2.2.2.2.2.2.2.2.2.2.2.2.2.2.2.2.mono (by simp)))) HB.out.2.2).mono (fun e w' h => ⟨h.1.trans (congrArg (fun b => Ending.returned (Value.bool b)) HV), ⟨cell_below h.2 hW.1, cell_below h.2 hW.2.1, cell_below h.2 hW.2.2.1, cell_below h.2 hW.2.2.2.1, cell_below h.2 hW.2.2.2.2.1, cell_below h.2 hW.2.2.2.2.2.1, cell_below h.2 hW.2.2.2.2.2.2.1, cell_below h.2 hW.2.2.2.2.2.2.2.1, cell_below h.2 hW.2.2.2.2.2.2.2.2.1, cell_below h.2 hW.2.2.2.2.2.2.2.2.2.1, cell_below h.2 hW.2.2.2.2.2.2.2.2.2.2.1, cell_below h.2 hW.2.2.2.2.2.2.2.2.2.2.2.1, cell_below h.2 hW.2.2.2.2.2.2.2.2.2.2.2.2.1, cell_below h.2 hW.2.2.2.2.2.2.2.2.2.2.2.2.2.1, cell_below h.2 hW.2.2.2.2.2.2.2.2.2.2.2.2.2.2.1, cell_below h.2 hW.2.2.2.2.2.2.2.2.2.2.2.2.2.2.2.1, hW.2.2.2.2.2.2.2.2.2.2.2.2.2.2.2.2.trans (h.2.mono hW.2.2.2.2.2.2.2.2.2.2.2.2.2.2.2.2.size)⟩⟩))
              have HV2 := HF.out.2.2
              have HC2 := Lib.hid (show ∀ W, (fun w' => w'.cell? ⟨wr.heap.size, 0, none⟩ = some (.int .i64 x.r.tx) ∧ w'.cell? ⟨wr.heap.size, 1, none⟩ = some (.int .i64 x.r.st) ∧ w'.cell? ⟨wr.heap.size, 2, none⟩ = some (.int .i64 x.r.fi) ∧ w'.cell? ⟨wr.heap.size, 3, none⟩ = some (.int .i64 x.r.la) ∧ w'.cell? ⟨wr.heap.size, 4, none⟩ = some (.int .i64 x.r.un) ∧ w'.cell? ⟨wr.heap.size, 5, none⟩ = some (.int .i64 x.r.co) ∧ w'.cell? ⟨wr.heap.size, 6, none⟩ = some (.slice x.mA x.r.mem.length x.mc) ∧ w'.cell? ⟨wr.heap.size, 7, none⟩ = some (.slice x.lA x.r.locks.length x.lc) ∧ w'.cell? ⟨b, off + j * 8, none⟩ = some (.int .i64 y.r.tx) ∧ w'.cell? ⟨b, off + j * 8 + 1, none⟩ = some (.int .i64 y.r.st) ∧ w'.cell? ⟨b, off + j * 8 + 2, none⟩ = some (.int .i64 y.r.fi) ∧ w'.cell? ⟨b, off + j * 8 + 3, none⟩ = some (.int .i64 y.r.la) ∧ w'.cell? ⟨b, off + j * 8 + 4, none⟩ = some (.int .i64 y.r.un) ∧ w'.cell? ⟨b, off + j * 8 + 5, none⟩ = some (.int .i64 y.r.co) ∧ w'.cell? ⟨b, off + j * 8 + 6, none⟩ = some (.slice y.mA y.r.mem.length y.mc) ∧ w'.cell? ⟨b, off + j * 8 + 7, none⟩ = some (.slice y.lA y.r.locks.length y.lc) ∧ Below (wr.alloc (.cells (rwCells x) 52)).heap.size (wr.alloc (.cells (rwCells x) 52)) w') W → Calls Try.prog 64 #[rwVal y, rwVal x] W fun e w' => e = .returned (.bool false) ∧ (fun w' => w'.cell? ⟨wr.heap.size, 0, none⟩ = some (.int .i64 x.r.tx) ∧ w'.cell? ⟨wr.heap.size, 1, none⟩ = some (.int .i64 x.r.st) ∧ w'.cell? ⟨wr.heap.size, 2, none⟩ = some (.int .i64 x.r.fi) ∧ w'.cell? ⟨wr.heap.size, 3, none⟩ = some (.int .i64 x.r.la) ∧ w'.cell? ⟨wr.heap.size, 4, none⟩ = some (.int .i64 x.r.un) ∧ w'.cell? ⟨wr.heap.size, 5, none⟩ = some (.int .i64 x.r.co) ∧ w'.cell? ⟨wr.heap.size, 6, none⟩ = some (.slice x.mA x.r.mem.length x.mc) ∧ w'.cell? ⟨wr.heap.size, 7, none⟩ = some (.slice x.lA x.r.locks.length x.lc) ∧ w'.cell? ⟨b, off + j * 8, none⟩ = some (.int .i64 y.r.tx) ∧ w'.cell? ⟨b, off + j * 8 + 1, none⟩ = some (.int .i64 y.r.st) ∧ w'.cell? ⟨b, off + j * 8 + 2, none⟩ = some (.int .i64 y.r.fi) ∧ w'.cell? ⟨b, off + j * 8 + 3, none⟩ = some (.int .i64 y.r.la) ∧ w'.cell? ⟨b, off + j * 8 + 4, none⟩ = some (.int .i64 y.r.un) ∧ w'.cell? ⟨b, off + j * 8 + 5, none⟩ = some (.int .i64 y.r.co) ∧ w'.cell? ⟨b, off + j * 8 + 6, none⟩ = some (.slice y.mA y.r.mem.length y.mc) ∧ w'.cell? ⟨b, off + j * 8 + 7, none⟩ = some (.slice y.lA y.r.locks.length y.lc) ∧ Below (wr.alloc (.cells (rwCells x) 52)).heap.size (wr.alloc (.cells (rwCells x) 52)) w') w' from fun W hW => (rowLess_any y x W).mono (fun e w' h => ⟨h.1.trans (congrArg (fun b => Ending.returned (Value.bool b)) HV2), ⟨cell_below h.2 hW.1, cell_below h.2 hW.2.1, cell_below h.2 hW.2.2.1, cell_below h.2 hW.2.2.2.1, cell_below h.2 hW.2.2.2.2.1, cell_below h.2 hW.2.2.2.2.2.1, cell_below h.2 hW.2.2.2.2.2.2.1, cell_below h.2 hW.2.2.2.2.2.2.2.1, cell_below h.2 hW.2.2.2.2.2.2.2.2.1, cell_below h.2 hW.2.2.2.2.2.2.2.2.2.1, cell_below h.2 hW.2.2.2.2.2.2.2.2.2.2.1, cell_below h.2 hW.2.2.2.2.2.2.2.2.2.2.2.1, cell_below h.2 hW.2.2.2.2.2.2.2.2.2.2.2.2.1, cell_below h.2 hW.2.2.2.2.2.2.2.2.2.2.2.2.2.1, cell_below h.2 hW.2.2.2.2.2.2.2.2.2.2.2.2.2.2.1, cell_below h.2 hW.2.2.2.2.2.2.2.2.2.2.2.2.2.2.2.1, hW.2.2.2.2.2.2.2.2.2.2.2.2.2.2.2.2.trans (h.2.mono hW.2.2.2.2.2.2.2.2.2.2.2.2.2.2.2.2.size)⟩⟩))
              have HS : (fun w' => w'.cell? ⟨wr.heap.size, 0, none⟩ = some (.int .i64 x.r.tx) ∧ w'.cell? ⟨wr.heap.size, 1, none⟩ = some (.int .i64 x.r.st) ∧ w'.cell? ⟨wr.heap.size, 2, none⟩ = some (.int .i64 x.r.fi) ∧ w'.cell? ⟨wr.heap.size, 3, none⟩ = some (.int .i64 x.r.la) ∧ w'.cell? ⟨wr.heap.size, 4, none⟩ = some (.int .i64 x.r.un) ∧ w'.cell? ⟨wr.heap.size, 5, none⟩ = some (.int .i64 x.r.co) ∧ w'.cell? ⟨wr.heap.size, 6, none⟩ = some (.slice x.mA x.r.mem.length x.mc) ∧ w'.cell? ⟨wr.heap.size, 7, none⟩ = some (.slice x.lA x.r.locks.length x.lc) ∧ w'.cell? ⟨b, off + j * 8, none⟩ = some (.int .i64 y.r.tx) ∧ w'.cell? ⟨b, off + j * 8 + 1, none⟩ = some (.int .i64 y.r.st) ∧ w'.cell? ⟨b, off + j * 8 + 2, none⟩ = some (.int .i64 y.r.fi) ∧ w'.cell? ⟨b, off + j * 8 + 3, none⟩ = some (.int .i64 y.r.la) ∧ w'.cell? ⟨b, off + j * 8 + 4, none⟩ = some (.int .i64 y.r.un) ∧ w'.cell? ⟨b, off + j * 8 + 5, none⟩ = some (.int .i64 y.r.co) ∧ w'.cell? ⟨b, off + j * 8 + 6, none⟩ = some (.slice y.mA y.r.mem.length y.mc) ∧ w'.cell? ⟨b, off + j * 8 + 7, none⟩ = some (.slice y.lA y.r.locks.length y.lc) ∧ Below (wr.alloc (.cells (rwCells x) 52)).heap.size (wr.alloc (.cells (rwCells x) 52)) w') (wr.alloc (.cells (rwCells x) 52)).drew := ⟨(Blk.new wr 52 (rwCells x)).cell 0, (Blk.new wr 52 (rwCells x)).cell 1, (Blk.new wr 52 (rwCells x)).cell 2, (Blk.new wr 52 (rwCells x)).cell 3, (Blk.new wr 52 (rwCells x)).cell 4, (Blk.new wr 52 (rwCells x)).cell 5, (Blk.new wr 52 (rwCells x)).cell 6, (Blk.new wr 52 (rwCells x)).cell 7, cell_alloc_some' _ e0, cell_alloc_some' _ e1, cell_alloc_some' _ e2, cell_alloc_some' _ e3, cell_alloc_some' _ e4, cell_alloc_some' _ e5, cell_alloc_some' _ e6, cell_alloc_some' _ e7, (Below.refl _ _).drew⟩
              clear HV HV2
              go_wp2_with fail
              refine wp_region_held_drew (S := fun w' => w'.cell? ⟨wr.heap.size, 0, none⟩ = some (.int .i64 x.r.tx) ∧ w'.cell? ⟨wr.heap.size, 1, none⟩ = some (.int .i64 x.r.st) ∧ w'.cell? ⟨wr.heap.size, 2, none⟩ = some (.int .i64 x.r.fi) ∧ w'.cell? ⟨wr.heap.size, 3, none⟩ = some (.int .i64 x.r.la) ∧ w'.cell? ⟨wr.heap.size, 4, none⟩ = some (.int .i64 x.r.un) ∧ w'.cell? ⟨wr.heap.size, 5, none⟩ = some (.int .i64 x.r.co) ∧ w'.cell? ⟨wr.heap.size, 6, none⟩ = some (.slice x.mA x.r.mem.length x.mc) ∧ w'.cell? ⟨wr.heap.size, 7, none⟩ = some (.slice x.lA x.r.locks.length x.lc) ∧ w'.cell? ⟨b, off + j * 8, none⟩ = some (.int .i64 y.r.tx) ∧ w'.cell? ⟨b, off + j * 8 + 1, none⟩ = some (.int .i64 y.r.st) ∧ w'.cell? ⟨b, off + j * 8 + 2, none⟩ = some (.int .i64 y.r.fi) ∧ w'.cell? ⟨b, off + j * 8 + 3, none⟩ = some (.int .i64 y.r.la) ∧ w'.cell? ⟨b, off + j * 8 + 4, none⟩ = some (.int .i64 y.r.un) ∧ w'.cell? ⟨b, off + j * 8 + 5, none⟩ = some (.int .i64 y.r.co) ∧ w'.cell? ⟨b, off + j * 8 + 6, none⟩ = some (.slice y.mA y.r.mem.length y.mc) ∧ w'.cell? ⟨b, off + j * 8 + 7, none⟩ = some (.slice y.lA y.r.locks.length y.lc) ∧ Below (wr.alloc (.cells (rwCells x) 52)).heap.size (wr.alloc (.cells (rwCells x) 52)) w') (by kernel_rfl) HS (fun hHeld => ?_)
              refine tk 0 22 (v := .func (.func 63) #[] #[]) (h := ?_)
              refine tk 1 23 (v := rwVal x) (h := ?_)
              refine wpAnyH_ready (rs := [2]) (by kernel_rfl) (by simp) ?_
              refine AllReadyH.cons rfl (fun K hK => ?_) AllReadyH.nil
              go_simp
              refine (HC1.out _ (by assumption)).mono ?_
              rintro e wq ⟨rfl, HS⟩
              refine hK.out _ _ (by first | exact HS | (dsimp only; exact HS)) (fun hHeld => ?_)
              clear hK K
              try simp only [Act.put, List.setIfInBounds_toArray, List.set_cons_zero, List.set_cons_succ]
              refine tk 3 25 (v := .bool false) (h := ?_)
              refine tk 4 26 (v := .bool false) (h := ?_)
              refine tk 5 27 (v := .int .i64 (k : Int)) (h := ?_)
              refine tk 6 28 (v := .bool true) (h := ?_)
              refine tk 7 29 (v := .bool true) (h := ?_)
              refine tk 8 30 (v := .func (.func 64) #[] #[]) (h := ?_)
              refine tk 9 31 (v := .slice (some ⟨b, off, none⟩) n c) (h := ?_)
              refine tk 10 32 (v := .int .i64 (k : Int)) (h := ?_)
              refine tk 11 33 (v := .int .i64 (j : Int)) (h := ?_)
              refine tk 12 34 (v := .pointer (some ⟨b, off + j * 8, none⟩)) (h := ?_)
              refine tk 13 35 (v := rwVal y) (h := ?_)
              refine tk 14 36 (v := rwVal x) (h := ?_)
              refine wpAnyH_ready (rs := [15]) (by kernel_rfl) (by simp) ?_
              refine AllReadyH.cons rfl (fun K hK => ?_) AllReadyH.nil
              go_simp
              refine (HC2.out _ (by assumption)).mono ?_
              rintro e wq ⟨rfl, HS⟩
              refine hK.out _ _ (by first | exact HS | (dsimp only; exact HS)) (fun hHeld => ?_)
              clear hK K
              try simp only [Act.put, List.setIfInBounds_toArray, List.set_cons_zero, List.set_cons_succ]
              refine tk 16 38 (v := .bool true) (h := ?_)
              refine tk 17 39 (v := .bool true) (h := ?_)
              refine tk 18 40 (v := .bool true) (h := ?_)
              refine wpAnyH_done (by kernel_rfl) ?_ _
              go_wp2_with fail
              go_ret
              exact ⟨by rw [HF.out.1]; rfl, HB.out.1.trans ((((Below.refl _ _).alloc (Nat.le_refl _) (Obj.cells (rwCells x) 52) : Below wr.heap.size wr (wr.alloc (.cells (rwCells x) 52))).trans (HS.2.2.2.2.2.2.2.2.2.2.2.2.2.2.2.2.mono (by simp))).mono HB.out.1.size)⟩
            | true =>
              have hf : at_ RwD.zero (fun x : RwD => rowOk x.r) (fun a b : RwD => decide (a.r.tx < b.r.tx)) l k = true := by
                unfold at_; rw [hok, hlo]; simp
              have HF := Lib.hid (And.intro (show ∀ j, j < k + 1 → at_ RwD.zero (fun x : RwD => rowOk x.r) (fun a b : RwD => decide (a.r.tx < b.r.tx)) l j = true from fun j hjk => by
                rcases Nat.lt_or_ge j k with h1 | h1
                · exact HJ.out j h1
                · obtain rfl : j = k := by omega
                  exact hf) (And.intro hok hlo))
              clear hf hok hlo
              generalize l.getD k RwD.zero = x at *
              generalize l.getD (k - 1) RwD.zero = y at *
              generalize k - 1 = j at *
              have HV := HF.out.2.1
              have HC1 := Lib.hid (show ∀ W, (fun w' => w'.cell? ⟨wr.heap.size, 0, none⟩ = some (.int .i64 x.r.tx) ∧ w'.cell? ⟨wr.heap.size, 1, none⟩ = some (.int .i64 x.r.st) ∧ w'.cell? ⟨wr.heap.size, 2, none⟩ = some (.int .i64 x.r.fi) ∧ w'.cell? ⟨wr.heap.size, 3, none⟩ = some (.int .i64 x.r.la) ∧ w'.cell? ⟨wr.heap.size, 4, none⟩ = some (.int .i64 x.r.un) ∧ w'.cell? ⟨wr.heap.size, 5, none⟩ = some (.int .i64 x.r.co) ∧ w'.cell? ⟨wr.heap.size, 6, none⟩ = some (.slice x.mA x.r.mem.length x.mc) ∧ w'.cell? ⟨wr.heap.size, 7, none⟩ = some (.slice x.lA x.r.locks.length x.lc) ∧ w'.cell? ⟨b, off + j * 8, none⟩ = some (.int .i64 y.r.tx) ∧ w'.cell? ⟨b, off + j * 8 + 1, none⟩ = some (.int .i64 y.r.st) ∧ w'.cell? ⟨b, off + j * 8 + 2, none⟩ = some (.int .i64 y.r.fi) ∧ w'.cell? ⟨b, off + j * 8 + 3, none⟩ = some (.int .i64 y.r.la) ∧ w'.cell? ⟨b, off + j * 8 + 4, none⟩ = some (.int .i64 y.r.un) ∧ w'.cell? ⟨b, off + j * 8 + 5, none⟩ = some (.int .i64 y.r.co) ∧ w'.cell? ⟨b, off + j * 8 + 6, none⟩ = some (.slice y.mA y.r.mem.length y.mc) ∧ w'.cell? ⟨b, off + j * 8 + 7, none⟩ = some (.slice y.lA y.r.locks.length y.lc) ∧ Below (wr.alloc (.cells (rwCells x) 52)).heap.size (wr.alloc (.cells (rwCells x) 52)) w') W → Calls Try.prog 63 #[rwVal x] W fun e w' => e = .returned (.bool true) ∧ (fun w' => w'.cell? ⟨wr.heap.size, 0, none⟩ = some (.int .i64 x.r.tx) ∧ w'.cell? ⟨wr.heap.size, 1, none⟩ = some (.int .i64 x.r.st) ∧ w'.cell? ⟨wr.heap.size, 2, none⟩ = some (.int .i64 x.r.fi) ∧ w'.cell? ⟨wr.heap.size, 3, none⟩ = some (.int .i64 x.r.la) ∧ w'.cell? ⟨wr.heap.size, 4, none⟩ = some (.int .i64 x.r.un) ∧ w'.cell? ⟨wr.heap.size, 5, none⟩ = some (.int .i64 x.r.co) ∧ w'.cell? ⟨wr.heap.size, 6, none⟩ = some (.slice x.mA x.r.mem.length x.mc) ∧ w'.cell? ⟨wr.heap.size, 7, none⟩ = some (.slice x.lA x.r.locks.length x.lc) ∧ w'.cell? ⟨b, off + j * 8, none⟩ = some (.int .i64 y.r.tx) ∧ w'.cell? ⟨b, off + j * 8 + 1, none⟩ = some (.int .i64 y.r.st) ∧ w'.cell? ⟨b, off + j * 8 + 2, none⟩ = some (.int .i64 y.r.fi) ∧ w'.cell? ⟨b, off + j * 8 + 3, none⟩ = some (.int .i64 y.r.la) ∧ w'.cell? ⟨b, off + j * 8 + 4, none⟩ = some (.int .i64 y.r.un) ∧ w'.cell? ⟨b, off + j * 8 + 5, none⟩ = some (.int .i64 y.r.co) ∧ w'.cell? ⟨b, off + j * 8 + 6, none⟩ = some (.slice y.mA y.r.mem.length y.mc) ∧ w'.cell? ⟨b, off + j * 8 + 7, none⟩ = some (.slice y.lA y.r.locks.length y.lc) ∧ Below (wr.alloc (.cells (rwCells x) 52)).heap.size (wr.alloc (.cells (rwCells x) 52)) w') w' from fun W hW => (rowMay_any x W (rowK.keep HB.out.2.1 (((Below.refl _ _).alloc (Nat.le_refl _) (Obj.cells (rwCells x) 52) : Below wr.heap.size wr (wr.alloc (.cells (rwCells x) 52))).trans (hW.2.2.2.2.2.2.2.2.2.2.2.2.2.2.2.2.mono (by simp)))) HB.out.2.2).mono (fun e w' h => ⟨h.1.trans (congrArg (fun b => Ending.returned (Value.bool b)) HV), ⟨cell_below h.2 hW.1, cell_below h.2 hW.2.1, cell_below h.2 hW.2.2.1, cell_below h.2 hW.2.2.2.1, cell_below h.2 hW.2.2.2.2.1, cell_below h.2 hW.2.2.2.2.2.1, cell_below h.2 hW.2.2.2.2.2.2.1, cell_below h.2 hW.2.2.2.2.2.2.2.1, cell_below h.2 hW.2.2.2.2.2.2.2.2.1, cell_below h.2 hW.2.2.2.2.2.2.2.2.2.1, cell_below h.2 hW.2.2.2.2.2.2.2.2.2.2.1, cell_below h.2 hW.2.2.2.2.2.2.2.2.2.2.2.1, cell_below h.2 hW.2.2.2.2.2.2.2.2.2.2.2.2.1, cell_below h.2 hW.2.2.2.2.2.2.2.2.2.2.2.2.2.1, cell_below h.2 hW.2.2.2.2.2.2.2.2.2.2.2.2.2.2.1, cell_below h.2 hW.2.2.2.2.2.2.2.2.2.2.2.2.2.2.2.1, hW.2.2.2.2.2.2.2.2.2.2.2.2.2.2.2.2.trans (h.2.mono hW.2.2.2.2.2.2.2.2.2.2.2.2.2.2.2.2.size)⟩⟩))
              have HV2 := HF.out.2.2
              have HC2 := Lib.hid (show ∀ W, (fun w' => w'.cell? ⟨wr.heap.size, 0, none⟩ = some (.int .i64 x.r.tx) ∧ w'.cell? ⟨wr.heap.size, 1, none⟩ = some (.int .i64 x.r.st) ∧ w'.cell? ⟨wr.heap.size, 2, none⟩ = some (.int .i64 x.r.fi) ∧ w'.cell? ⟨wr.heap.size, 3, none⟩ = some (.int .i64 x.r.la) ∧ w'.cell? ⟨wr.heap.size, 4, none⟩ = some (.int .i64 x.r.un) ∧ w'.cell? ⟨wr.heap.size, 5, none⟩ = some (.int .i64 x.r.co) ∧ w'.cell? ⟨wr.heap.size, 6, none⟩ = some (.slice x.mA x.r.mem.length x.mc) ∧ w'.cell? ⟨wr.heap.size, 7, none⟩ = some (.slice x.lA x.r.locks.length x.lc) ∧ w'.cell? ⟨b, off + j * 8, none⟩ = some (.int .i64 y.r.tx) ∧ w'.cell? ⟨b, off + j * 8 + 1, none⟩ = some (.int .i64 y.r.st) ∧ w'.cell? ⟨b, off + j * 8 + 2, none⟩ = some (.int .i64 y.r.fi) ∧ w'.cell? ⟨b, off + j * 8 + 3, none⟩ = some (.int .i64 y.r.la) ∧ w'.cell? ⟨b, off + j * 8 + 4, none⟩ = some (.int .i64 y.r.un) ∧ w'.cell? ⟨b, off + j * 8 + 5, none⟩ = some (.int .i64 y.r.co) ∧ w'.cell? ⟨b, off + j * 8 + 6, none⟩ = some (.slice y.mA y.r.mem.length y.mc) ∧ w'.cell? ⟨b, off + j * 8 + 7, none⟩ = some (.slice y.lA y.r.locks.length y.lc) ∧ Below (wr.alloc (.cells (rwCells x) 52)).heap.size (wr.alloc (.cells (rwCells x) 52)) w') W → Calls Try.prog 64 #[rwVal y, rwVal x] W fun e w' => e = .returned (.bool true) ∧ (fun w' => w'.cell? ⟨wr.heap.size, 0, none⟩ = some (.int .i64 x.r.tx) ∧ w'.cell? ⟨wr.heap.size, 1, none⟩ = some (.int .i64 x.r.st) ∧ w'.cell? ⟨wr.heap.size, 2, none⟩ = some (.int .i64 x.r.fi) ∧ w'.cell? ⟨wr.heap.size, 3, none⟩ = some (.int .i64 x.r.la) ∧ w'.cell? ⟨wr.heap.size, 4, none⟩ = some (.int .i64 x.r.un) ∧ w'.cell? ⟨wr.heap.size, 5, none⟩ = some (.int .i64 x.r.co) ∧ w'.cell? ⟨wr.heap.size, 6, none⟩ = some (.slice x.mA x.r.mem.length x.mc) ∧ w'.cell? ⟨wr.heap.size, 7, none⟩ = some (.slice x.lA x.r.locks.length x.lc) ∧ w'.cell? ⟨b, off + j * 8, none⟩ = some (.int .i64 y.r.tx) ∧ w'.cell? ⟨b, off + j * 8 + 1, none⟩ = some (.int .i64 y.r.st) ∧ w'.cell? ⟨b, off + j * 8 + 2, none⟩ = some (.int .i64 y.r.fi) ∧ w'.cell? ⟨b, off + j * 8 + 3, none⟩ = some (.int .i64 y.r.la) ∧ w'.cell? ⟨b, off + j * 8 + 4, none⟩ = some (.int .i64 y.r.un) ∧ w'.cell? ⟨b, off + j * 8 + 5, none⟩ = some (.int .i64 y.r.co) ∧ w'.cell? ⟨b, off + j * 8 + 6, none⟩ = some (.slice y.mA y.r.mem.length y.mc) ∧ w'.cell? ⟨b, off + j * 8 + 7, none⟩ = some (.slice y.lA y.r.locks.length y.lc) ∧ Below (wr.alloc (.cells (rwCells x) 52)).heap.size (wr.alloc (.cells (rwCells x) 52)) w') w' from fun W hW => (rowLess_any y x W).mono (fun e w' h => ⟨h.1.trans (congrArg (fun b => Ending.returned (Value.bool b)) HV2), ⟨cell_below h.2 hW.1, cell_below h.2 hW.2.1, cell_below h.2 hW.2.2.1, cell_below h.2 hW.2.2.2.1, cell_below h.2 hW.2.2.2.2.1, cell_below h.2 hW.2.2.2.2.2.1, cell_below h.2 hW.2.2.2.2.2.2.1, cell_below h.2 hW.2.2.2.2.2.2.2.1, cell_below h.2 hW.2.2.2.2.2.2.2.2.1, cell_below h.2 hW.2.2.2.2.2.2.2.2.2.1, cell_below h.2 hW.2.2.2.2.2.2.2.2.2.2.1, cell_below h.2 hW.2.2.2.2.2.2.2.2.2.2.2.1, cell_below h.2 hW.2.2.2.2.2.2.2.2.2.2.2.2.1, cell_below h.2 hW.2.2.2.2.2.2.2.2.2.2.2.2.2.1, cell_below h.2 hW.2.2.2.2.2.2.2.2.2.2.2.2.2.2.1, cell_below h.2 hW.2.2.2.2.2.2.2.2.2.2.2.2.2.2.2.1, hW.2.2.2.2.2.2.2.2.2.2.2.2.2.2.2.2.trans (h.2.mono hW.2.2.2.2.2.2.2.2.2.2.2.2.2.2.2.2.size)⟩⟩))
              have HS : (fun w' => w'.cell? ⟨wr.heap.size, 0, none⟩ = some (.int .i64 x.r.tx) ∧ w'.cell? ⟨wr.heap.size, 1, none⟩ = some (.int .i64 x.r.st) ∧ w'.cell? ⟨wr.heap.size, 2, none⟩ = some (.int .i64 x.r.fi) ∧ w'.cell? ⟨wr.heap.size, 3, none⟩ = some (.int .i64 x.r.la) ∧ w'.cell? ⟨wr.heap.size, 4, none⟩ = some (.int .i64 x.r.un) ∧ w'.cell? ⟨wr.heap.size, 5, none⟩ = some (.int .i64 x.r.co) ∧ w'.cell? ⟨wr.heap.size, 6, none⟩ = some (.slice x.mA x.r.mem.length x.mc) ∧ w'.cell? ⟨wr.heap.size, 7, none⟩ = some (.slice x.lA x.r.locks.length x.lc) ∧ w'.cell? ⟨b, off + j * 8, none⟩ = some (.int .i64 y.r.tx) ∧ w'.cell? ⟨b, off + j * 8 + 1, none⟩ = some (.int .i64 y.r.st) ∧ w'.cell? ⟨b, off + j * 8 + 2, none⟩ = some (.int .i64 y.r.fi) ∧ w'.cell? ⟨b, off + j * 8 + 3, none⟩ = some (.int .i64 y.r.la) ∧ w'.cell? ⟨b, off + j * 8 + 4, none⟩ = some (.int .i64 y.r.un) ∧ w'.cell? ⟨b, off + j * 8 + 5, none⟩ = some (.int .i64 y.r.co) ∧ w'.cell? ⟨b, off + j * 8 + 6, none⟩ = some (.slice y.mA y.r.mem.length y.mc) ∧ w'.cell? ⟨b, off + j * 8 + 7, none⟩ = some (.slice y.lA y.r.locks.length y.lc) ∧ Below (wr.alloc (.cells (rwCells x) 52)).heap.size (wr.alloc (.cells (rwCells x) 52)) w') (wr.alloc (.cells (rwCells x) 52)).drew := ⟨(Blk.new wr 52 (rwCells x)).cell 0, (Blk.new wr 52 (rwCells x)).cell 1, (Blk.new wr 52 (rwCells x)).cell 2, (Blk.new wr 52 (rwCells x)).cell 3, (Blk.new wr 52 (rwCells x)).cell 4, (Blk.new wr 52 (rwCells x)).cell 5, (Blk.new wr 52 (rwCells x)).cell 6, (Blk.new wr 52 (rwCells x)).cell 7, cell_alloc_some' _ e0, cell_alloc_some' _ e1, cell_alloc_some' _ e2, cell_alloc_some' _ e3, cell_alloc_some' _ e4, cell_alloc_some' _ e5, cell_alloc_some' _ e6, cell_alloc_some' _ e7, (Below.refl _ _).drew⟩
              clear HV HV2
              go_wp2_with fail
              refine wp_region_held_drew (S := fun w' => w'.cell? ⟨wr.heap.size, 0, none⟩ = some (.int .i64 x.r.tx) ∧ w'.cell? ⟨wr.heap.size, 1, none⟩ = some (.int .i64 x.r.st) ∧ w'.cell? ⟨wr.heap.size, 2, none⟩ = some (.int .i64 x.r.fi) ∧ w'.cell? ⟨wr.heap.size, 3, none⟩ = some (.int .i64 x.r.la) ∧ w'.cell? ⟨wr.heap.size, 4, none⟩ = some (.int .i64 x.r.un) ∧ w'.cell? ⟨wr.heap.size, 5, none⟩ = some (.int .i64 x.r.co) ∧ w'.cell? ⟨wr.heap.size, 6, none⟩ = some (.slice x.mA x.r.mem.length x.mc) ∧ w'.cell? ⟨wr.heap.size, 7, none⟩ = some (.slice x.lA x.r.locks.length x.lc) ∧ w'.cell? ⟨b, off + j * 8, none⟩ = some (.int .i64 y.r.tx) ∧ w'.cell? ⟨b, off + j * 8 + 1, none⟩ = some (.int .i64 y.r.st) ∧ w'.cell? ⟨b, off + j * 8 + 2, none⟩ = some (.int .i64 y.r.fi) ∧ w'.cell? ⟨b, off + j * 8 + 3, none⟩ = some (.int .i64 y.r.la) ∧ w'.cell? ⟨b, off + j * 8 + 4, none⟩ = some (.int .i64 y.r.un) ∧ w'.cell? ⟨b, off + j * 8 + 5, none⟩ = some (.int .i64 y.r.co) ∧ w'.cell? ⟨b, off + j * 8 + 6, none⟩ = some (.slice y.mA y.r.mem.length y.mc) ∧ w'.cell? ⟨b, off + j * 8 + 7, none⟩ = some (.slice y.lA y.r.locks.length y.lc) ∧ Below (wr.alloc (.cells (rwCells x) 52)).heap.size (wr.alloc (.cells (rwCells x) 52)) w') (by kernel_rfl) HS (fun hHeld => ?_)
              refine tk 0 22 (v := .func (.func 63) #[] #[]) (h := ?_)
              refine tk 1 23 (v := rwVal x) (h := ?_)
              refine wpAnyH_ready (rs := [2]) (by kernel_rfl) (by simp) ?_
              refine AllReadyH.cons rfl (fun K hK => ?_) AllReadyH.nil
              go_simp
              refine (HC1.out _ (by assumption)).mono ?_
              rintro e wq ⟨rfl, HS⟩
              refine hK.out _ _ (by first | exact HS | (dsimp only; exact HS)) (fun hHeld => ?_)
              clear hK K
              try simp only [Act.put, List.setIfInBounds_toArray, List.set_cons_zero, List.set_cons_succ]
              refine tk 3 25 (v := .bool false) (h := ?_)
              refine tk 4 26 (v := .bool false) (h := ?_)
              refine tk 5 27 (v := .int .i64 (k : Int)) (h := ?_)
              refine tk 6 28 (v := .bool true) (h := ?_)
              refine tk 7 29 (v := .bool true) (h := ?_)
              refine tk 8 30 (v := .func (.func 64) #[] #[]) (h := ?_)
              refine tk 9 31 (v := .slice (some ⟨b, off, none⟩) n c) (h := ?_)
              refine tk 10 32 (v := .int .i64 (k : Int)) (h := ?_)
              refine tk 11 33 (v := .int .i64 (j : Int)) (h := ?_)
              refine tk 12 34 (v := .pointer (some ⟨b, off + j * 8, none⟩)) (h := ?_)
              refine tk 13 35 (v := rwVal y) (h := ?_)
              refine tk 14 36 (v := rwVal x) (h := ?_)
              refine wpAnyH_ready (rs := [15]) (by kernel_rfl) (by simp) ?_
              refine AllReadyH.cons rfl (fun K hK => ?_) AllReadyH.nil
              go_simp
              refine (HC2.out _ (by assumption)).mono ?_
              rintro e wq ⟨rfl, HS⟩
              refine hK.out _ _ (by first | exact HS | (dsimp only; exact HS)) (fun hHeld => ?_)
              clear hK K
              try simp only [Act.put, List.setIfInBounds_toArray, List.set_cons_zero, List.set_cons_succ]
              refine tk 16 38 (v := .bool false) (h := ?_)
              refine tk 17 39 (v := .bool false) (h := ?_)
              refine tk 18 40 (v := .bool false) (h := ?_)
              refine wpAnyH_done (by kernel_rfl) ?_ _
              go_wp2_with fail
              go_roundg (n - (k + 1))
              case rel => exact ⟨k + 1, by omega, rfl, by go_num, HF.out.1, HB.out.1.trans ((((Below.refl _ _).alloc (Nat.le_refl _) (Obj.cells (rwCells x) 52) : Below wr.heap.size wr (wr.alloc (.cells (rwCells x) 52))).trans (HS.2.2.2.2.2.2.2.2.2.2.2.2.2.2.2.2.mono (by simp))).mono HB.out.1.size)⟩
              case measure => omega
      · obtain rfl : k = n := by omega
        have HF := Lib.hid (And.intro (HM.out.trans (ups_true (fun j h => hj j (by rw [H.out.2] at h; exact h)))) hb)
        clear hj hb
        go_wp2_with fail
        go_ret
        exact ⟨by rw [HF.out.1]; rfl, HF.out.2⟩
  · have hd : decide ((64 : Int) < (n : Int)) = true := by simp; omega
    have HM := Lib.hid (show rising RwD.zero 64 (fun x : RwD => rowOk x.r) (fun a b : RwD => decide (a.r.tx < b.r.tx)) l = false by unfold rising; rw [H.out.2, decide_eq_false h8]; rfl)
    clear h8
    go_enter Try.func62, Try.ntmps62
    go_wp2
    go_ret
    exact ⟨by rw [HM.out]; rfl, Below.refl _ _⟩
end Go.Proofs.Ytlijfnekopjogaa
