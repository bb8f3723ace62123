/- RecVals: joined out of RecPast, RecVal. -/
import Derived.Test.YtlijfnekopjogaaRecRisRow
/- Which numbers of what was committed may be; a checkpoint's lists. -/
namespace Go.Proofs.Ytlijfnekopjogaa
open Go Go.RowKit Mem Rc
set_option maxRecDepth 100000
set_option linter.unusedVariables false
set_option linter.unusedSimpArgs false

theorem rkind_any (k : Int) (w : World) : Calls Try.prog 27 #[.int .i64 k] w fun e w' => e = .returned (.bool (Rc.kindOk k)) ∧ w' = w := by
  unfold Rc.kindOk
  by_cases h : 1 ≤ k
  · have hd : decide (1 ≤ k) = true := by simpa using h
    have H := Lib.hid hd
    go_enter Try.func27, Try.ntmps27
    go_wp2
    go_ret
    exact ⟨by rw [H.out, Bool.true_and]; rfl, rfl⟩
  · have hd : decide (1 ≤ k) = false := by simpa using h
    have H := Lib.hid hd
    go_enter Try.func27, Try.ntmps27
    go_wp2
    go_ret
    exact ⟨by first | rfl | (rw [H.out, Bool.false_and]; rfl), rfl⟩
set_option maxHeartbeats 2000000 in
theorem rising_past (A : Option Addr) (n c : Nat) (l : List Int) (w : World) (hl : IS w A n l) (hn : n ≤ 1000000) (hc : c ≤ 9223372036854775807) :
    Calls Try.prog 71 #[.slice A n c, .int .i64 256, .func (.func 72) #[] #[], .func (.func 73) #[] #[]] w fun e w' => e = .returned (.bool (Rc.past l)) ∧ w' = w := by
  have H := Lib.hid (And.intro hl hl.1)
  clear hl
  by_cases h8 : n ≤ 256
  · have hd : decide ((256 : Int) < (n : Int)) = false := by simp; omega
    have hm : Rc.past l = ups (0 : Int) (fun n => seq n 1) (fun a b => decide (a < b)) l := by unfold Rc.past rising; rw [H.out.2, decide_eq_true h8, Bool.true_and]
    have HM := Lib.hid hm
    clear hm
    go_enter Try.func71, Try.ntmps71
    go_wp2
    go_loop [17] (fun s => ∃ k : Nat, k ≤ n ∧ s = .int .i64 k ∧ ∀ j, j < k → at_ (0 : Int) (fun n => seq n 1) (fun a b => decide (a < b)) l j = true) (fun s => n - (intOf s).toNat)
    case atStart => exact ⟨0, by omega, rfl, fun j hj => absurd hj (by omega)⟩
    case round =>
      obtain ⟨k, hk, rfl, hj⟩ := hrel
      by_cases hlt : k < n
      · obtain ⟨b, off, rfl, c0⟩ := is_at H.out.1 hlt
        have hkn : (k : Int) < (n : Int) := by omega
        cases hnd : seq (l.getD k 0) 1 with
        | false =>
          have hf : at_ (0 : Int) (fun n => seq n 1) (fun a b => decide (a < b)) l k = false := by unfold at_; simp only; rw [hnd]; rfl
          have HF := Lib.hid (And.intro (HM.out.trans (ups_false (by rw [H.out.2]; exact hlt) hf)) hnd)
          clear hf hj hnd
          generalize l.getD k 0 = x at *
          go_wp2_with fail
          refine (pastMay_any x w).mono ?_
          rw [HF.out.2]
          rintro e w' ⟨rfl, rfl⟩
          go_wp2_with fail
          go_ret
          exact ⟨by rw [HF.out.1]; rfl, rfl⟩
        | true =>
          rcases Nat.eq_zero_or_pos k with rfl | hkp
          · have hf : at_ (0 : Int) (fun n => seq n 1) (fun a b => decide (a < b)) l 0 = true := by unfold at_; simp only; rw [hnd]; rfl
            have HF := Lib.hid (And.intro hf hnd)
            clear hf hj hnd
            rw [Nat.add_zero] at c0
            generalize l.getD 0 0 = x at *
            go_wp2_with fail
            refine (pastMay_any x w).mono ?_
            rw [HF.out.2]
            rintro e w' ⟨rfl, rfl⟩
            go_wp2_with fail
            go_round
            case rel => exact ⟨1, by omega, rfl, fun j hj => by obtain rfl : j = 0 := by omega
                                                                exact HF.out.1⟩
            case measure => simp [intOf]; omega
          · obtain ⟨b', off', e', c1⟩ := is_at H.out.1 (k := k - 1) (by omega)
            injection e' with e'
            injection e' with e1 e2
            subst e1
            subst e2
            have hkp' : decide ((0 : Int) < (k : Int)) = true := by simp; omega
            have hs0 : IntKind.i64.wrap ((k : Int) - 1) = ((k - 1 : Nat) : Int) := by rw [IntKind.wrap_i64]; omega
            have hs1 : ((k - 1 : Nat) : Int) < (n : Int) := by omega
            cases hlo : decide (l.getD (k - 1) 0 < l.getD k 0) with
            | false =>
              have hf : at_ (0 : Int) (fun n => seq n 1) (fun a b => decide (a < b)) l k = false := by
                unfold at_; simp only; rw [hnd, hlo, decide_eq_false (by omega : ¬ k = 0)]; rfl
              have HF := Lib.hid (And.intro (HM.out.trans (ups_false (by rw [H.out.2]; exact hlt) hf)) (And.intro hnd hlo))
              clear hf hj hnd hlo
              generalize l.getD k 0 = x at *
              generalize l.getD (k - 1) 0 = y at *
              generalize k - 1 = j at *
              go_wp2_with fail
              refine (pastMay_any x w).mono ?_
              rw [HF.out.2.1]
              rintro e w' ⟨rfl, rfl⟩
              go_wp2_with fail
              refine (rlower_any y x _).mono ?_
              rw [HF.out.2.2]
              rintro e w' ⟨rfl, rfl⟩
              go_wp2_with fail
              go_ret
              exact ⟨by rw [HF.out.1]; rfl, rfl⟩
            | true =>
              have hf : at_ (0 : Int) (fun n => seq n 1) (fun a b => decide (a < b)) l k = true := by
                unfold at_; simp only; rw [hnd, hlo]; simp
              have HF := Lib.hid (And.intro (show ∀ j, j < k + 1 → at_ (0 : Int) (fun n => seq n 1) (fun a b => decide (a < b)) l j = true from fun j hjk => by
                rcases Nat.lt_or_ge j k with h1 | h1
                · exact hj j h1
                · obtain rfl : j = k := by omega
                  exact hf) (And.intro hnd hlo))
              clear hf hj hnd hlo
              generalize l.getD k 0 = x at *
              generalize l.getD (k - 1) 0 = y at *
              generalize k - 1 = j at *
              go_wp2_with fail
              refine (pastMay_any x w).mono ?_
              rw [HF.out.2.1]
              rintro e w' ⟨rfl, rfl⟩
              go_wp2_with fail
              refine (rlower_any y x _).mono ?_
              rw [HF.out.2.2]
              rintro e w' ⟨rfl, rfl⟩
              go_wp2_with fail
              go_round
              case rel => exact ⟨k + 1, by omega, by go_num, HF.out.1⟩
              case measure => simp [intOf]; omega
      · obtain rfl : k = n := by omega
        have HF := Lib.hid (HM.out.trans (ups_true (fun j h => hj j (by rw [H.out.2] at h; exact h))))
        clear hj
        go_wp2_with fail
        go_ret
        exact ⟨by rw [HF.out]; rfl, rfl⟩
  · have hd : decide ((256 : Int) < (n : Int)) = true := by simp; omega
    have HM := Lib.hid (show Rc.past l = false by unfold Rc.past rising; rw [H.out.2, decide_eq_false h8]; rfl)
    clear h8
    go_enter Try.func71, Try.ntmps71
    go_wp2
    go_ret
    exact ⟨by rw [HM.out]; rfl, rfl⟩
end Go.Proofs.Ytlijfnekopjogaa

/- A log record in memory. -/
namespace Go.Proofs.Ytlijfnekopjogaa
open Go Go.RowKit Mem Rc
set_option maxRecDepth 100000
set_option linter.unusedVariables false
set_option linter.unusedSimpArgs false

namespace Rc
theorem ups_map {α β : Type} (f : α → β) (z : α) (ok : β → Bool) (lt : β → β → Bool) (l : List α) : ups z (fun x => ok (f x)) (fun a b => lt (f a) (f b)) l = ups (f z) ok lt (l.map f) := by
  have hg : ∀ k, (l.map f).getD k (f z) = f (l.getD k z) := fun k => by
    rw [List.getD_eq_getElem?_getD, List.getD_eq_getElem?_getD, List.getElem?_map]
    cases l[k]? <;> rfl
  unfold ups
  rw [List.length_map]
  congr 1
  funext k
  unfold at_
  rw [hg, hg]
theorem rising_map {α β : Type} (f : α → β) (z : α) (most : Nat) (ok : β → Bool) (lt : β → β → Bool) (l : List α) : rising z most (fun x => ok (f x)) (fun a b => lt (f a) (f b)) l = rising (f z) most ok lt (l.map f) := by
  unfold rising
  rw [ups_map, List.length_map]
/-- a record with the places of its lists -/
structure MD where
  kind : Int
  tx : Int
  prev : Int
  nxt : Int
  key : ByteArray
  old : V
  new : V
  coord : Int
  mem : List Int
  mA : Option Addr
  mc : Nat
  locks : List L
  lA : Option Addr
  lc : Nat
  rows : List RwD
  rA : Option Addr
  rc : Nat
  dirty : List D
  dA : Option Addr
  dc : Nat
  deeds : List DeD
  eA : Option Addr
  ec : Nat
  past : List Int
  pA : Option Addr
  pc : Nat
def MD.m (x : MD) : M := ⟨x.kind, x.tx, x.prev, x.nxt, x.key, x.old, x.new, x.coord, x.mem, x.locks, x.rows.map RwD.r, x.dirty, x.deeds.map DeD.d, x.past⟩
abbrev mCells (x : MD) : Array Value := #[.int .i64 x.kind, .int .i64 x.tx, .int .i64 x.prev, .int .i64 x.nxt, .string x.key, .bool x.old.has, .string x.old.data, .bool x.new.has, .string x.new.data, .int .i64 x.coord,
  .slice x.mA x.mem.length x.mc, .slice x.lA x.locks.length x.lc, .slice x.rA x.rows.length x.rc, .slice x.dA x.dirty.length x.dc, .slice x.eA x.deeds.length x.ec, .slice x.pA x.past.length x.pc]
abbrev mVal (x : MD) : Value := .agg (mCells x)
structure MOk (w : World) (x : MD) : Prop where
  mem : IS w x.mA x.mem.length x.mem
  mc : x.mem.length ≤ x.mc ∧ x.mc ≤ 9223372036854775807
  locks : ST lockK w x.lA x.locks.length x.locks
  lc : x.locks.length ≤ x.lc ∧ x.lc ≤ 9223372036854775807
  rows : ST rowK w x.rA x.rows.length x.rows
  rc : x.rows.length ≤ x.rc ∧ x.rc ≤ 9223372036854775807
  dirty : ST dirtyK w x.dA x.dirty.length x.dirty
  dc : x.dirty.length ≤ x.dc ∧ x.dc ≤ 9223372036854775807
  deeds : ST deedK w x.eA x.deeds.length x.deeds
  ec : x.deeds.length ≤ x.ec ∧ x.ec ≤ 9223372036854775807
  past : IS w x.pA x.past.length x.past
  pc : x.past.length ≤ x.pc ∧ x.pc ≤ 9223372036854775807
theorem MOk.below {w w' : World} {x : MD} (h : MOk w x) (hb : Below w.heap.size w w') : MOk w' x :=
  ⟨h.mem.below hb, h.mc, h.locks.below hb, h.lc, h.rows.below hb, h.rc, h.dirty.below hb, h.dc, h.deeds.below hb, h.ec, h.past.below hb, h.pc⟩
/-- no list is long -/
structure Small (x : MD) : Prop where
  mem : x.mem.length ≤ 1000000
  locks : x.locks.length ≤ 1000000
  rows : x.rows.length ≤ 1000000
  dirty : x.dirty.length ≤ 1000000
  deeds : x.deeds.length ≤ 1000000
  past : x.past.length ≤ 1000000
  row : ∀ k, k < x.rows.length → (x.rows.getD k RwD.zero).r.mem.length ≤ 1000000 ∧ (x.rows.getD k RwD.zero).r.locks.length ≤ 1000000
  deed : ∀ k, k < x.deeds.length → (x.deeds.getD k DeD.zero).d.mem.length ≤ 1000000
theorem rows_eq (x : MD) : rising RwD.zero 64 (fun x : RwD => rowOk x.r) (fun a b : RwD => decide (a.r.tx < b.r.tx)) x.rows = Rc.rows x.m.rows := rising_map RwD.r RwD.zero 64 rowOk (fun a b => decide (a.tx < b.tx)) x.rows
theorem deeds_eq (x : MD) : rising DeD.zero 64 (fun x : DeD => deedOk x.d) (fun a b : DeD => decide (a.d.tx < b.d.tx)) x.deeds = Rc.deeds x.m.deeds := rising_map DeD.d DeD.zero 64 deedOk (fun a b => decide (a.tx < b.tx)) x.deeds
end Rc
end Go.Proofs.Ytlijfnekopjogaa
