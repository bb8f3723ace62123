/- What a reader's methods do. -/
import Derived.Test.YtlijfnekopjogaaSealRead
namespace Go.Proofs.Ytlijfnekopjogaa
open Go.RowKit Mem
set_option linter.unusedVariables false
set_option linter.unusedSimpArgs false

theorem tried_out {w W w' : World} {q : Nat} {r : Sl.R} {F : Nat → Prop} {A : Option Addr} {n c : Nat} {x : Nat × Nat} {bo : Nat} {T : TypeId} {z u : Value} {e : Ending} (hb : Below w.heap.size w W)
    (h1 : Blk w q 111 #[.slice A n c, .int .i64 r.e]) (h2 : BS w A n r.b) (h3 : n ≤ c) (h4 : c ≤ 9223372036854775807) (h5 : F q) (h6 : ∀ a, 0 < n → A = some a → F a.block ∧ a.block ≠ q) (h7 : ∀ k, F k → k < w.heap.size)
    (hx : x.2 = 0 → x.1 ≤ n) (hbo : Blk W bo T #[z]) (hge : w.heap.size ≤ bo)
    (h : TryP W q r x A n c (fun w1 => Fr (fun k => k = bo) W w1 ∧ Blk w1 bo T #[u]) e w') :
    e = .returned (.tuple #[]) ∧ RdAt w' q (Sl.try_ r x) F ∧ Fr (fun k => k = q) w w' ∧ w'.cell? ⟨bo, 0, none⟩ = some (Sl.out r z u) := by
  obtain ⟨rfl, w1, hK, hN, ht⟩ := h
  have hf1 : Fr (fun k => k = bo) W w1 := by
    by_cases he : r.e = 0
    · exact (hK he).1
    · rw [hN he]; exact Fr.refl _ _
  have hfb : Fr (fun k => k = q) w w1 := by
    refine (Fr.of_below hb _).trans hf1 (fun i hi e => ?_)
    subst e
    omega
  have hqb : q ≠ bo := by have := h1.lt; omega
  have hk : ∀ k, k < w.heap.size → w1.heap[k]? = w.heap[k]? := fun k hk => (hf1.block k (by have := hb.size; omega) (by omega)).trans (hb.block k hk)
  have hsz : w.heap.size ≤ w1.heap.size := hfb.size
  have hbs1 : BS w1 A n r.b := h2.keep hsz hk
  have hblk1 : Blk w1 bo T #[Sl.out r z u] := by
    unfold Sl.out
    by_cases he : r.e = 0
    · rw [if_neg (by omega)]; exact (hK he).2
    · rw [if_pos he, hN he]; exact hbo
  obtain ⟨hR, hF, hS⟩ := RdT.tried (h1.keep (hk q h1.lt)) hbs1 h3 h4 h5 h6 (fun k x => Nat.lt_of_lt_of_le (h7 k x) hsz) hx ht
  refine ⟨rfl, hR, hfb.trans hF (fun _ _ x => x), ?_⟩
  have : Blk w' bo T #[Sl.out r z u] := hblk1.keep (hF.block bo hblk1.lt (fun e => hqb e.symm))
  exact this.cell 0
theorem out_int (r : Sl.R) (x : Nat) : Sl.out r (Value.int .i64 0) (.int .i64 x) = .int .i64 ((Sl.out r 0 x : Nat) : Int) := by unfold Sl.out; split <;> rfl
theorem out_u8 (r : Sl.R) (x : UInt8) : Sl.out r (Value.int .u8 0) (Mem.u8 x) = Mem.u8 (Sl.out r 0 x) := by unfold Sl.out; split <;> rfl
theorem out_bool (r : Sl.R) (x : Bool) : Sl.out r (Value.bool false) (.bool x) = .bool (Sl.out r false x) := by unfold Sl.out; split <;> rfl
theorem out_str (r : Sl.R) (x : List UInt8) : Sl.out r (Value.string ⟨#[]⟩) (str x) = str (Sl.out r [] x) := by unfold Sl.out; split <;> rfl
set_option maxHeartbeats 1000000 in
theorem rnum_any (q : Nat) (r : Sl.R) (F : Nat → Prop) (most : Int) (w : World) (hr : RdAt w q r F) (hm : -9223372036854775808 ≤ most ∧ most ≤ 9223372036854775807) (hl : r.b.length ≤ 140737488351232) :
    Calls Try.prog 44 #[.pointer (some ⟨q, 0, none⟩), .int .i64 most] w (RdTo w F q (.int .i64 ((Sl.out r 0 (Sl.number r.b most).1 : Nat) : Int)) (Sl.try_ r (Sl.number r.b most).2)) := by
  obtain ⟨A, n, c, h1, h2, h3, h4, h5, h6, h7⟩ := hr
  have hx : (Sl.number r.b most).2.2 = 0 → (Sl.number r.b most).2.1 ≤ n := fun _ => by have := (Sl.number_le r.b most).1; rw [h2.1] at this; exact this
  have H := Lib.hid (And.intro h1 (And.intro h2 (And.intro h3 (And.intro h4 (And.intro h5 (And.intro h6 (And.intro h7 (And.intro hm hl))))))))
  have hW : Below w.heap.size w ((w.alloc (.cells #[.int .i64 most] 3)).alloc (.cells #[.int .i64 0] 3)) := ((Below.refl _ _).alloc (Nat.le_refl _) _).alloc (by simp) _
  have hbm : Blk ((w.alloc (.cells #[.int .i64 most] 3)).alloc (.cells #[.int .i64 0] 3)) w.heap.size 3 #[.int .i64 most] := (Blk.new _ _ _).alloc _
  have hbo : Blk ((w.alloc (.cells #[.int .i64 most] 3)).alloc (.cells #[.int .i64 0] 3)) (w.heap.size + 1) 3 #[.int .i64 0] := by
    have := Blk.new (w.alloc (.cells #[.int .i64 most] 3)) 3 #[.int .i64 0]
    simpa using this
  have hbsW : BS ((w.alloc (.cells #[.int .i64 most] 3)).alloc (.cells #[.int .i64 0] 3)) A n r.b := h2.below hW
  have hqW := h1.keep (hW.block q h1.lt)
  have hqlt := h1.lt
  have hclo := numF_any A n c r.b most _ _ _ hbsW (by rw [← H.out.2.1.1]; exact H.out.2.2.2.2.2.2.2.2) H.out.2.2.2.2.2.2.2.1 hbm hbo
  have ht := try_any q 79 #[.pointer (some ⟨w.heap.size, 0, none⟩), .pointer (some ⟨w.heap.size + 1, 0, none⟩)] r A n c _ (Sl.number r.b most).2 (fun w1 => Fr (fun k => k = w.heap.size + 1) ((w.alloc (.cells #[.int .i64 most] 3)).alloc (.cells #[.int .i64 0] 3)) w1 ∧ Blk w1 (w.heap.size + 1) 3 #[.int .i64 (Sl.number r.b most).1]) hqW (enters Try.func79 (by kernel_rfl) rfl) hx h4 h3 (fun _ => hclo.mono (fun e w' hc => ⟨hc.1, hc.2, hc.2.1.block q (by simp; omega) (by omega)⟩))
  have HT := Lib.hid (And.intro ht (And.intro hW (And.intro hbo hx)))
  clear h1 h2 h3 h4 h5 h6 h7 hm hl hx hW hbm hbo hbsW hqW hclo ht hqlt
  go_enter Try.func44, Try.ntmps44
  go_wp2_with fail
  refine HT.out.1.mono ?_
  intro e w2 h2
  obtain ⟨rfl, hR, hF, hC⟩ := tried_out HT.out.2.1 H.out.1 H.out.2.1 H.out.2.2.1 H.out.2.2.2.1 H.out.2.2.2.2.1 H.out.2.2.2.2.2.1 H.out.2.2.2.2.2.2.1 HT.out.2.2.2 HT.out.2.2.1 (by omega) h2
  rw [out_int] at hC
  have H2 := Lib.hid (And.intro hR hF)
  clear h2 hR hF
  go_wp2
  go_ret
  exact ⟨rfl, H2.out.1, H2.out.2⟩
set_option maxHeartbeats 1000000 in
theorem rflag_any (q : Nat) (r : Sl.R) (F : Nat → Prop) (w : World) (hr : RdAt w q r F) (hl : r.b.length ≤ 140737488351232) :
    Calls Try.prog 110 #[.pointer (some ⟨q, 0, none⟩)] w (RdTo w F q (.bool (Sl.out r false (Sl.flagF r.b).1)) (Sl.try_ r (Sl.flagF r.b).2)) := by
  obtain ⟨A, n, c, h1, h2, h3, h4, h5, h6, h7⟩ := hr
  have hx : (Sl.flagF r.b).2.2 = 0 → (Sl.flagF r.b).2.1 ≤ n := fun _ => by have := Sl.flagF_le r.b; rw [h2.1] at this; exact this
  have hm := True.intro
  have H := Lib.hid (And.intro h1 (And.intro h2 (And.intro h3 (And.intro h4 (And.intro h5 (And.intro h6 (And.intro h7 (And.intro hm hl))))))))
  have hW : Below w.heap.size w (w.alloc (.cells #[.bool false] 4)) := (Below.refl _ _).alloc (Nat.le_refl _) _
  have hbo : Blk (w.alloc (.cells #[.bool false] 4)) (w.heap.size) 4 #[.bool false] := by
    have := Blk.new w 4 #[.bool false]
    simpa using this
  have hbsW : BS (w.alloc (.cells #[.bool false] 4)) A n r.b := h2.below hW
  have hqW := h1.keep (hW.block q h1.lt)
  have hqlt := h1.lt
  have hclo := flagF_any A n c r.b _ _ hbsW (by rw [← H.out.2.1.1]; exact H.out.2.2.2.2.2.2.2.2) hbo
  have ht := try_any q 111 #[.pointer (some ⟨w.heap.size, 0, none⟩)] r A n c _ (Sl.flagF r.b).2 (fun w1 => Fr (fun k => k = w.heap.size) (w.alloc (.cells #[.bool false] 4)) w1 ∧ Blk w1 (w.heap.size) 4 #[.bool (Sl.flagF r.b).1]) hqW (enters Try.func111 (by kernel_rfl) rfl) hx h4 h3 (fun _ => hclo.mono (fun e w' hc => ⟨hc.1, hc.2, hc.2.1.block q (by simp; omega) (by omega)⟩))
  have HT := Lib.hid (And.intro ht (And.intro hW (And.intro hbo hx)))
  clear h1 h2 h3 h4 h5 h6 h7 hm hl hx hW hbo hbsW hqW hclo ht hqlt
  go_enter Try.func110, Try.ntmps110
  go_wp2_with fail
  refine HT.out.1.mono ?_
  intro e w2 h2
  obtain ⟨rfl, hR, hF, hC⟩ := tried_out HT.out.2.1 H.out.1 H.out.2.1 H.out.2.2.1 H.out.2.2.2.1 H.out.2.2.2.2.1 H.out.2.2.2.2.2.1 H.out.2.2.2.2.2.2.1 HT.out.2.2.2 HT.out.2.2.1 (by omega) h2
  rw [out_bool] at hC
  have H2 := Lib.hid (And.intro hR hF)
  clear h2 hR hF
  go_wp2
  go_ret
  exact ⟨rfl, H2.out.1, H2.out.2⟩
set_option maxHeartbeats 1000000 in
theorem rtext_any (q : Nat) (r : Sl.R) (F : Nat → Prop) (most : Int) (w : World) (hr : RdAt w q r F) (hm : -9223372036854775808 ≤ most ∧ most ≤ 9223372036854775807) (hl : r.b.length ≤ 140737488351232) :
    Calls Try.prog 102 #[.pointer (some ⟨q, 0, none⟩), .int .i64 most] w (RdTo w F q (str (Sl.out r [] (Sl.textF r.b most).1)) (Sl.try_ r (Sl.textF r.b most).2)) := by
  obtain ⟨A, n, c, h1, h2, h3, h4, h5, h6, h7⟩ := hr
  have hx : (Sl.textF r.b most).2.2 = 0 → (Sl.textF r.b most).2.1 ≤ n := fun _ => by have := Sl.textF_le r.b most; rw [h2.1] at this; exact this
  have H := Lib.hid (And.intro h1 (And.intro h2 (And.intro h3 (And.intro h4 (And.intro h5 (And.intro h6 (And.intro h7 (And.intro hm hl))))))))
  have hW : Below w.heap.size w ((w.alloc (.cells #[.int .i64 most] 3)).alloc (.cells #[.string ⟨#[]⟩] 9)) := ((Below.refl _ _).alloc (Nat.le_refl _) _).alloc (by simp) _
  have hbm : Blk ((w.alloc (.cells #[.int .i64 most] 3)).alloc (.cells #[.string ⟨#[]⟩] 9)) w.heap.size 3 #[.int .i64 most] := (Blk.new _ _ _).alloc _
  have hbo : Blk ((w.alloc (.cells #[.int .i64 most] 3)).alloc (.cells #[.string ⟨#[]⟩] 9)) (w.heap.size + 1) 9 #[.string ⟨#[]⟩] := by
    have := Blk.new (w.alloc (.cells #[.int .i64 most] 3)) 9 #[.string ⟨#[]⟩]
    simpa using this
  have hbsW : BS ((w.alloc (.cells #[.int .i64 most] 3)).alloc (.cells #[.string ⟨#[]⟩] 9)) A n r.b := h2.below hW
  have hqW := h1.keep (hW.block q h1.lt)
  have hqlt := h1.lt
  have hclo := textF_any A n c r.b most _ _ _ hbsW (by rw [← H.out.2.1.1]; exact H.out.2.2.2.2.2.2.2.2) H.out.2.2.1 H.out.2.2.2.1 H.out.2.2.2.2.2.2.2.1 hbm hbo
  have ht := try_any q 108 #[.pointer (some ⟨w.heap.size, 0, none⟩), .pointer (some ⟨w.heap.size + 1, 0, none⟩)] r A n c _ (Sl.textF r.b most).2 (fun w1 => Fr (fun k => k = w.heap.size + 1) ((w.alloc (.cells #[.int .i64 most] 3)).alloc (.cells #[.string ⟨#[]⟩] 9)) w1 ∧ Blk w1 (w.heap.size + 1) 9 #[str (Sl.textF r.b most).1]) hqW (enters Try.func108 (by kernel_rfl) rfl) hx h4 h3 (fun _ => hclo.mono (fun e w' hc => ⟨hc.1, hc.2, hc.2.1.block q (by simp; omega) (by omega)⟩))
  have HT := Lib.hid (And.intro ht (And.intro hW (And.intro hbo hx)))
  clear h1 h2 h3 h4 h5 h6 h7 hm hl hx hW hbm hbo hbsW hqW hclo ht hqlt
  go_enter Try.func102, Try.ntmps102
  go_wp2_with fail
  refine HT.out.1.mono ?_
  intro e w2 h2
  obtain ⟨rfl, hR, hF, hC⟩ := tried_out HT.out.2.1 H.out.1 H.out.2.1 H.out.2.2.1 H.out.2.2.2.1 H.out.2.2.2.2.1 H.out.2.2.2.2.2.1 H.out.2.2.2.2.2.2.1 HT.out.2.2.2 HT.out.2.2.1 (by omega) h2
  rw [out_str] at hC
  have H2 := Lib.hid (And.intro hR hF)
  clear h2 hR hF
  unfold str at hC
  go_wp2
  go_ret
  exact ⟨rfl, H2.out.1, H2.out.2⟩
set_option maxHeartbeats 1000000 in
theorem rerr_any (q : Nat) (r : Sl.R) (F : Nat → Prop) (w : World) (hr : RdAt w q r F) :
    Calls Try.prog 45 #[.pointer (some ⟨q, 0, none⟩)] w fun e w' => e = .returned (.int .i64 r.e) ∧ w = w' := by
  obtain ⟨A, n, c, h1, h2, h3, h4, h5, h6, h7⟩ := hr
  have c1 : w.cell? ⟨q, 1, none⟩ = some (.int .i64 r.e) := h1.cell 1
  clear h1 h2 h3 h4 h5 h6 h7
  go_enter Try.func45, Try.ntmps45
  go_wp2
  go_ret
  exact ⟨rfl, rfl⟩
set_option maxHeartbeats 1000000 in
theorem rend_any (q : Nat) (r : Sl.R) (F : Nat → Prop) (w : World) (hr : RdAt w q r F) (hl : r.b.length ≤ 140737488351232) :
    Calls Try.prog 47 #[.pointer (some ⟨q, 0, none⟩)] w (RdTo w F q (.int .i64 ((Sl.try_ r (Sl.endF r.b)).e : Nat)) (Sl.try_ r (Sl.endF r.b))) := by
  obtain ⟨A, n, c, h1, h2, h3, h4, h5, h6, h7⟩ := hr
  have hx : (Sl.endF r.b).2 = 0 → (Sl.endF r.b).1 ≤ n := fun _ => by unfold Sl.endF; split <;> exact Nat.zero_le _
  have ht := try_any q 93 #[] r A n c w (Sl.endF r.b) (fun w1 => w1 = w) h1 (enters Try.func93 (by kernel_rfl) rfl) hx h4 h3 (fun _ => (endF_any A n c r.b w h2.1 (by rw [← h2.1]; exact hl)).mono (fun e w' hc => ⟨hc.1, hc.2, by rw [hc.2]⟩))
  have H := Lib.hid (And.intro h1 (And.intro h2 (And.intro h3 (And.intro h4 (And.intro h5 (And.intro h6 (And.intro h7 (And.intro hx ht))))))))
  clear h1 h2 h3 h4 h5 h6 h7 hx ht hl
  go_enter Try.func47, Try.ntmps47
  go_wp2_with fail
  refine H.out.2.2.2.2.2.2.2.2.mono ?_
  rintro e w2 ⟨rfl, w1, hK, hN, ht⟩
  have e1 : w1 = w := by
    by_cases he : r.e = 0
    · exact hK he
    · exact hN he
  subst e1
  obtain ⟨hR, hF, hS⟩ := RdT.tried H.out.1 H.out.2.1 H.out.2.2.1 H.out.2.2.2.1 H.out.2.2.2.2.1 H.out.2.2.2.2.2.1 H.out.2.2.2.2.2.2.1 H.out.2.2.2.2.2.2.2.1 ht
  have H2 := Lib.hid (And.intro hR hF)
  clear hR hF hS ht hK hN
  go_wp2_with fail
  refine (rerr_any q _ F w2 H2.out.1).mono ?_
  rintro e w3 ⟨rfl, rfl⟩
  go_wp2
  go_ret
  exact ⟨rfl, H2.out.1, H2.out.2⟩
set_option maxHeartbeats 1000000 in
/-- what a reader reads that is made -/
def ReadP (w : World) (bs : List UInt8) (e : Ending) (w' : World) : Prop := ∃ q F, e = .returned (.pointer (some ⟨q, 0, none⟩)) ∧ RdAt w' q ⟨bs, 0⟩ F ∧ Below w.heap.size w w' ∧ ∀ k, F k → w.heap.size ≤ k
set_option maxHeartbeats 1000000 in
theorem read_new (A : Option Addr) (n c : Nat) (bs : List UInt8) (w : World) (hbs : BS w A n bs) (hn : n ≤ 140737488351232) :
    Calls Try.prog 43 #[.slice A n c] w (ReadP w bs) := by
  obtain ⟨i0, hi0, hz0, hz1, hz2⟩ := info_parts ninfo8
  have h' : BS (w.alloc (.cells #[] 5)) A n bs := hbs.keep (by simp) (fun b hb => Below.heap_alloc _ _ _ hb)
  have ho : (w.alloc (.cells #[] 5)).ownsRow w.heap.size 5 1 (.slice (some ⟨w.heap.size, 0, none⟩) 0 0) 0 [] := World.ownsRow_made w #[] 0 (Nat.le_refl _) (by simp [maxLen]) (by simp)
  have HI := Lib.hid (And.intro hi0 (And.intro hz0 (And.intro hz1 hz2)))
  have H := Lib.hid (And.intro h' (And.intro ho (And.intro hn hbs.1)))
  clear hi0 hz0 hz1 hz2 hbs h' ho hn
  go_enter Try.func43, Try.ntmps43
  go_wp2_with (at_builtin; refine wpList_append_bs _ rfl _ _ 33 rfl w.heap.size 5 i0 Try.underlying33 HI.out.1 HI.out.2.1 HI.out.2.2.1 HI.out.2.2.2 (.slice (some ⟨w.heap.size, 0, none⟩) 0 0) 0 [] rfl H.out.2.1 A n c bs rfl H.out.1 (by have := H.out.2.2.1; omega) (by simp) ?_; intro v' w1 hown hg hat; obtain ⟨A', c', rfl⟩ := own_slice hown; have H1 := Lib.hid (And.intro hown (And.intro hg hat)); clear hown hg hat)
  go_ret
  rw [Nat.zero_add, List.nil_append] at H1
  have hb1 : Below w.heap.size w w1 := ((Below.refl _ _).alloc (Nat.le_refl _) _).grown H1.out.2.1 (by simp) (by simp [Value.ownBlock])
  have hb2 : Below w.heap.size w (w1.alloc (.cells #[.slice A' n c', .int .i64 0] 111)) := hb1.alloc hb1.size _
  have ho2 := own_below H1.out.1 ((Below.refl _ _).alloc (Nat.le_refl _) (Obj.cells #[.slice A' n c', .int .i64 0] 111))
  refine ⟨w1.heap.size, fun k => k = w1.heap.size ∨ (Value.slice A' n c').ownBlock = some k, rfl, ⟨A', n, c', Blk.new _ _ _, BS.of_own ho2, ?_, ?_, .inl rfl, fun a hn e => ?_, fun k x => ?_⟩, hb2, fun k x => ?_⟩
  · rcases H1.out.1.2 with ⟨e, _⟩ | ⟨g, cap, cur, e, _, _, h1, h2, _⟩
    · injection e; omega
    · injection e; omega
  · rcases H1.out.1.2 with ⟨e, _⟩ | ⟨g, cap, cur, e, _, _, h1, h2, _⟩
    · injection e; omega
    · injection e; unfold maxLen at h2; omega
  · have hk : (Value.slice A' n c').ownBlock = some a.block := by subst e; rfl
    have := own_lt H1.out.1 hk
    exact ⟨.inr hk, by omega⟩
  · rcases x with x | x
    · subst x; simp
    · exact own_lt ho2 x
  · rcases x with x | x
    · subst x; exact hb1.size
    · rcases H1.out.2.2 with e | e
      · rw [e] at x
        simp [Value.ownBlock] at x
        omega
      · rw [e] at x
        injection x with x
        subst x
        simp
end Go.Proofs.Ytlijfnekopjogaa
