/- The document's example of a record. -/
import Derived.Test.YtlijfnekopjogaaRecEncs
import Derived.Test.YtlijfnekopjogaaRecCopyA
import Derived.Test.YtlijfnekopjogaaRecSames
import Derived.Test.YtlijfnekopjogaaSame
import Derived.Test.YtlijfnekopjogaaConv
namespace Go.Proofs.Ytlijfnekopjogaa
open Go Go.RowKit Mem Rc
set_option maxRecDepth 100000
set_option linter.unusedVariables false
set_option linter.unusedSimpArgs false

def awM : MD := { MD.k0 6 with tx := 5, prev := 3 }
theorem ba_nil : (⟨#[]⟩ : ByteArray).toList = [] := by rw [ByteArray.toList_eq]
theorem aw_may : Rc.may awM.m = true := by
  simp [Rc.may, Rc.kindOk, Rc.spare, Rc.rest, awM, MD.k0, MD.m, V.zero, V.none_, Rc.valOk, Rc.keyOk, ba_nil, Rc.seq, Rc.node, Rc.members, Rc.locks, Rc.rising, Rc.ups]
  decide
theorem aw_body : Rc.body awM.m = [6, 5, 3] := by
  decide +kernel
theorem aw_enc : Rc.enc awM.m = ([6, 5, 3], 0) := by
  unfold Rc.enc
  rw [if_pos aw_may, aw_body, if_neg (by decide)]
theorem aw_ok (w : World) : MOk w awM := by
  have h := MOk.k0 w 6
  exact ⟨h.mem, h.mc, h.locks, h.lc, h.rows, h.rc, h.dirty, h.dc, h.deeds, h.ec, h.past, h.pc⟩
theorem aw_small : Small awM := by
  have h0 : (0 : Nat) ≤ 1000000 := Nat.zero_le _
  exact ⟨h0, h0, h0, h0, h0, h0, fun k hk => absurd hk (Nat.not_lt_zero _), fun k hk => absurd hk (Nat.not_lt_zero _)⟩
set_option maxHeartbeats 4000000 in
theorem awake07_any (w : World) : Calls Try.prog 9 #[] w (TrueP w) := by
  have hen : Calls Try.prog 10 #[.agg #[.int .i64 6, .int .i64 5, .int .i64 3, .int .i64 0, .string ⟨#[]⟩, .bool false, .string ⟨#[]⟩, .bool false, .string ⟨#[]⟩, .int .i64 0, .slice none 0 0, .slice none 0 0, .slice none 0 0, .slice none 0 0, .slice none 0 0, .slice none 0 0]] w (RecP w (Rc.enc awM.m)) := rencode_any awM w (aw_ok w) aw_small
  rw [aw_enc] at hen
  have H := Lib.hid hen
  clear hen
  go_enter Try.func9, Try.ntmps9
  go_wp2_with fail
  refine H.out.mono ?_
  rintro e w1 ⟨v, rfl, ho, hb1⟩
  dsimp only at ho
  obtain ⟨A, c, rfl⟩ := own_slice ho
  have H1 := Lib.hid (And.intro ho hb1)
  clear ho hb1
  go_wp2_with fail
  refine (same_any A (some ⟨w1.heap.size, 0, none⟩) 3 3 c 3 [6, 5, 3] [6, 5, 3] _ ((BS.of_own H1.out.1).below ((Below.refl _ _).alloc (Nat.le_refl _) _)) (BS.made w1 #[.int .u8 6, .int .u8 5, .int .u8 3] 5 (0, 0) [6, 5, 3] rfl) (by omega) (by omega)).mono ?_
  rintro e w2 ⟨rfl, hd⟩
  have H2 := Lib.hid (H1.out.2.trans ((((Below.refl _ w1).alloc (Nat.le_refl _) (.cells #[.int .u8 6, .int .u8 5, .int .u8 3] 5)).trans (hd.below.mono (by simp))).mono H1.out.2.size))
  clear hd
  go_wp2_with fail
  go_ret
  exact ⟨by rfl, H2.out⟩
theorem small_m {x y : MD} (h : y.m = x.m) (hs : Small x) : Small y := by
  have h1 : y.mem = x.mem := congrArg M.mem h
  have h2 : y.locks = x.locks := congrArg M.locks h
  have h3 : y.rows.length = x.rows.length := by
    have e := congrArg (fun m : M => m.rows.length) h
    simpa [MD.m] using e
  have h4 : y.dirty = x.dirty := congrArg M.dirty h
  have h5 : y.deeds.length = x.deeds.length := by
    have e := congrArg (fun m : M => m.deeds.length) h
    simpa [MD.m] using e
  have h6 : y.past = x.past := congrArg M.past h
  refine ⟨by rw [h1]; exact hs.mem, by rw [h2]; exact hs.locks, by rw [h3]; exact hs.rows, by rw [h4]; exact hs.dirty, by rw [h5]; exact hs.deeds, by rw [h6]; exact hs.past, fun k hk => ?_, fun k hk => ?_⟩
  · have e : y.rows.map RwD.r = x.rows.map RwD.r := congrArg M.rows h
    have := congrArg (fun l : List Rw => l.getD k Rw.zero) e
    rw [getD_map RwD.r y.rows k RwD.zero hk Rw.zero, getD_map RwD.r x.rows k RwD.zero (by rw [← h3]; exact hk) Rw.zero] at this
    rw [this]
    exact hs.row k (by rw [← h3]; exact hk)
  · have e : y.deeds.map DeD.d = x.deeds.map DeD.d := congrArg M.deeds h
    have := congrArg (fun l : List De => l.getD k De.zero) e
    rw [getD_map DeD.d y.deeds k DeD.zero hk De.zero, getD_map DeD.d x.deeds k DeD.zero (by rw [← h5]; exact hk) De.zero] at this
    rw [this]
    exact hs.deed k (by rw [← h5]; exact hk)
theorem body_pos (m : M) : 0 < (Rc.body m).length := by
  unfold Rc.body
  rw [List.length_append]
  have h2 := Sl.numB_length m.kind
  omega
/-- what Encode answers: an error and nothing, or the body -/
theorem enc_ways (m : M) : (∃ e : Nat, (e = 1 ∨ e = 12) ∧ Rc.enc m = ([], e) ∧ (e = 1 → Rc.may m = false)) ∨ (Rc.may m = true ∧ (Rc.body m).length ≤ 4096 ∧ Rc.enc m = (Rc.body m, 0)) := by
  unfold Rc.enc
  cases h : Rc.may m with
  | false => exact .inl ⟨1, .inl rfl, rfl, fun _ => rfl⟩
  | true =>
    by_cases hl : 4096 < (Rc.body m).length
    · rw [if_pos rfl, if_pos hl]
      exact .inl ⟨12, .inr rfl, rfl, fun h => absurd h (by decide)⟩
    · rw [if_pos rfl, if_neg hl]
      exact .inr ⟨rfl, by omega, rfl⟩
end Go.Proofs.Ytlijfnekopjogaa
