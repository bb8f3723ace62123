/- SheetLater: where the first sheets of what was laid once are followed by what was laid later, the bodies that end in those are found, and then all of the later ones; no condition. -/
import Derived.Test.YtlpdjpkdgagjpaaDoorSheetHelp
import Derived.Test.YtlpdjpkdgagjpaaDoorLift
import Derived.Test.YtlpdjpkdgagjpaaDoorCards
import Derived.Test.YtlpdjpkdgagjpaaDoorTie
import Derived.Lib.LaidTab
import Derived.Deep.RegionHeld3
import Derived.Deep.DeepMust
namespace Go.Proofs.YtlpdjpkdgagjpaaDoor.sheetLater
open Go.ChangeShapes Go.WideShapes Go.ChangeAt Go.RowKit Mem Lift
set_option linter.unusedVariables false
set_option linter.unusedSimpArgs false
set_option maxRecDepth 100000

/-- what is found of some sheets, and then of all of what was laid later -/
theorem find_two {i1 p1 i2 p2 : Int} {bs bs2 : List (List UInt8)} (hb : ∀ b ∈ bs, b.length ≤ 4096) (hb2 : ∀ b ∈ bs2, b.length ≤ 4096) {m : Nat} (hm : m ≤ Sh.count bs) :
    (Sh.findR (Sh.laid i1 p1 bs m ++ Sh.laid i2 p2 bs2 (Sh.count bs2))).out.map Prod.fst = bs.take (if m < Sh.count bs then Sh.ended bs (242 * m) else bs.length) ++ bs2 := by
  have h1 : ∃ f', Sh.find ⟨[], [], 0, false⟩ (Sh.sheets bs m) 0 = (f', true) ∧ f'.out.map Prod.fst = bs.take (if m < Sh.count bs then Sh.ended bs (242 * m) else bs.length) ∧ Sh.St0 f' := by
    by_cases hlt : m < Sh.count bs
    · obtain ⟨f', a1, a2, a3⟩ := Sh.find_some hb (f0 := ⟨[], [], 0, false⟩) rfl 0 m hlt
      exact ⟨f', a1, by rw [if_pos hlt]; simpa using a2, a3⟩
    · obtain rfl : m = Sh.count bs := by omega
      obtain ⟨done, cur, bs', pend, D, f', h1, h2, h3, h4, h5, h6, h7⟩ := Sh.find_laid hb (f0 := ⟨[], [], 0, false⟩) (.inl rfl) 0 (Sh.count bs) (Nat.le_refl _)
      rw [List.drop_of_length_le (by unfold Sh.count; omega)] at h3
      have hp := (List.append_eq_nil_iff.mp h3.symm)
      have hbs := Sh.flat_pos hp.2
      have hcur : cur = [] := by
        rcases h5 with (⟨_, h, _⟩ | ⟨_, b, _, _, _, _, h⟩) | ⟨_, h, _⟩
        · exact h
        · exact absurd hp.1 h
        · exact h
      have hst : Sh.St0 f' := by
        rcases h5 with h5 | h5
        · exact h5.st0
        · exact h5.1
      subst hbs hcur
      rw [List.append_nil, List.append_nil] at h2
      subst h2
      exact ⟨f', h1, by rw [if_neg hlt, List.take_length]; simpa using h4, hst⟩
  obtain ⟨f', a1, a2, a3⟩ := h1
  obtain ⟨f2, b1, b2⟩ := Sh.find_all hb2 a3 (0 + m)
  unfold Sh.findR Sh.heads
  rw [List.map_append, Sh.laid_sheets, Sh.laid_sheets, Sh.find_append, a1, if_pos rfl, Sh.sheets_length]
  rw [b1]
  rw [b2, a2]
def subK (A : Option Addr) (c k s : Nat) : Option Addr := if c = k then A else A.map (·.add (k * s))
theorem st_drop {α : Type} {K : Kind_ α} {w : World} {A : Option Addr} {n c : Nat} {l : List α} (h : ST K w A n l) {k : Nat} (hk : k ≤ n) (hc : n ≤ c) : ST K w (subK A c k K.k) (n - k) (l.drop k) := by
  refine ⟨by rw [List.length_drop, h.len], fun x hx => h.ok x (List.mem_of_mem_drop hx), fun hp => ?_⟩
  obtain ⟨b, off, rfl, hlt, hcl⟩ := h.mem (by omega)
  refine ⟨b, off + k * K.k, ?_, hlt, fun i hi j hj => ?_⟩
  · unfold subK
    rw [if_neg (by omega), Option.map_some, addr_add]
  · rw [List.length_drop, h.len] at hi
    have := hcl (k + i) (by rw [h.len]; omega) j hj
    rw [Nat.add_mul] at this
    rw [show off + k * K.k + i * K.k + j = off + (k * K.k + i * K.k) + j by omega, this]
    congr 2
    rw [List.getD_eq_getElem?_getD, List.getD_eq_getElem?_getD, List.getElem?_drop]
theorem cutFoundH (A : Option Addr) (n c k : Nat) (x : Int) (hx : x = k) (hk : k ≤ c) (W : World) : (Instr.slice 42 (.slice A n c) none (some (.int .i64 x)) none).run Tryd.prog W = .ok (.slice A k c) W := by
  obtain ⟨i0, hi0, hz0, hz1, hz2⟩ := info_parts finfoFound
  refine run_cutS W 42 76 A n c k x hx hk Tryd.underlying42 2 (fun W => ?_)
  rw [show Tryd.prog.elem 42 = 76 by kernel_rfl]
  exact size_of hi0 hz1 W
theorem cutFoundL (A : Option Addr) (n c k : Nat) (x : Int) (hx : x = k) (hk : k ≤ n) (W : World) : (Instr.slice 42 (.slice A n c) (some (.int .i64 x)) none none).run Tryd.prog W = .ok (.slice (subK A c k 2) (n - k) (c - k)) W := by
  obtain ⟨i0, hi0, hz0, hz1, hz2⟩ := info_parts finfoFound
  subst hx
  rw [run_slice_l W 42 A n c Tryd.underlying42 .i64 k (by omega) (by omega), show Tryd.prog.elem 42 = 76 by kernel_rfl, size_of hi0 hz1]
  simp [Result.andThen, sliced, subK]
theorem later_ok {w : World} {a b : List Sh.Sd} {m : Nat} (ha : ∀ s ∈ a, s.data.length ≤ 242) (hb : ∀ s ∈ b, s.data.length ≤ 242) : ∀ x ∈ a.take m ++ b, sheetK.ok w x := fun x hx => by
  rcases List.mem_append.1 hx with hx | hx
  · exact ha x (List.mem_of_mem_take hx)
  · exact hb x hx
set_option maxHeartbeats 8000000 in
theorem walk (A : Option Addr) (n c : Nat) (ls : List Bd) (B : Option Addr) (n2 c2 : Nat) (ls2 : List Bd) (cut : Int) (w : World) (hl : ST bodyK w A n ls) (hnc : n ≤ c) (hcm : c ≤ maxLen) (hl2 : ST bodyK w B n2 ls2) (hnc2 : n2 ≤ c2) (hcm2 : c2 ≤ maxLen)
    (m0 : -9223372036854775808 ≤ cut) (m1 : cut ≤ 9223372036854775807) (ht : Half w) :
    Calls Tryd.prog 6 #[.slice A n c, .slice B n2 c2, .int .i64 cut] w fun e w' => e = .returned (.bool true) ∧ Below w.heap.size w w' := by
  unfold maxLen at hcm hcm2
  have hgr := great08_any A n c ls w hl
  have hgr2 := great08_any B n2 c2 ls2 w hl2
  have haw := to_awake ht (Below.refl _ _)
  by_cases hbad : Sh.great (bodiesOf ls) = true ∨ Sh.great (bodiesOf ls2) = true ∨ cut < 0
  · have hways : Sh.great (bodiesOf ls) = true ∨ Sh.great (bodiesOf ls) = false ∧ (Sh.great (bodiesOf ls2) = true ∨ Sh.great (bodiesOf ls2) = false ∧ decide (cut < 0) = true) := by
      cases hg : Sh.great (bodiesOf ls) <;> cases hg2 : Sh.great (bodiesOf ls2) <;> simp [hg, hg2] at hbad ⊢
      omega
    have HA := Lib.hid haw
    clear hbad hl hl2 haw ht
    rcases hways with g | ⟨g, g2 | ⟨g2, g3⟩⟩
    · rw [g] at hgr
      have HG := Lib.hid hgr
      clear hgr g hgr2
      go_enter Tryd.func6, Tryd.ntmps6
      go_wp2_with fail
      refine HG.out.mono ?_
      rintro e w1 ⟨rfl, rfl⟩
      go_wp2_with fail
      refine HA.out.mono ?_
      rintro e w2 ⟨rfl, hb⟩
      have HB := Lib.hid hb
      clear hb
      go_wp2_with fail
      go_ret
      exact ⟨rfl, HB.out⟩
    all_goals
      rw [g] at hgr
      rw [g2] at hgr2
      have HG := Lib.hid (And.intro hgr hgr2)
      clear hgr g hgr2 g2
      go_enter Tryd.func6, Tryd.ntmps6
      go_wp2_with fail
      refine HG.out.1.mono ?_
      rintro e w1 ⟨rfl, rfl⟩
      go_wp2_with fail
      refine HG.out.2.mono ?_
      rintro e w1 ⟨rfl, rfl⟩
      go_wp2_with fail
      refine HA.out.mono ?_
      rintro e w2 ⟨rfl, hb⟩
      have HB := Lib.hid hb
      clear hb
      go_wp2_with fail
      go_ret
      exact ⟨rfl, HB.out⟩
  · have hg : Sh.great (bodiesOf ls) = false := by
      cases hg : Sh.great (bodiesOf ls) with
      | true => exact absurd (.inl hg) hbad
      | false => rfl
    have hg2 : Sh.great (bodiesOf ls2) = false := by
      cases hg : Sh.great (bodiesOf ls2) with
      | true => exact absurd (.inr (.inl hg)) hbad
      | false => rfl
    have k0 : 0 ≤ cut := by omega
    rw [hg] at hgr
    rw [hg2] at hgr2
    obtain ⟨hf, hb40, hb15, hlong⟩ := Sh.flat_great hg
    obtain ⟨hfB, hb40B, hb15B, hlongB⟩ := Sh.flat_great hg2
    have hn : n ≤ 40 := by rw [bodiesOf_length, hl.len] at hb40; exact hb40
    have hn2 : n2 ≤ 40 := by rw [bodiesOf_length, hl2.len] at hb40B; exact hb40B
    have hbl : (bodiesOf ls).length = n := by rw [bodiesOf_length, hl.len]
    have hblB : (bodiesOf ls2).length = n2 := by rw [bodiesOf_length, hl2.len]
    have hend := fun m (W : World) (hW : ST bodyK W A n ls) (h : m ≤ 1000000) => ended08_any A n c ls m W hW hg h
    obtain ⟨bs, hbs⟩ : ∃ bs, bs = bodiesOf ls := ⟨_, rfl⟩
    obtain ⟨bs2, hbs2⟩ : ∃ bs2, bs2 = bodiesOf ls2 := ⟨_, rfl⟩
    rw [← hbs] at hf hb15 hbl hlong hend
    rw [← hbs2] at hfB hb15B hblB hlongB
    have hcount : Sh.count bs ≤ 300 := by unfold Sh.count; omega
    have hcount2 : Sh.count bs2 ≤ 300 := by unfold Sh.count; omega
    have hR := Sh.layR_ok (inc := 1) (pos := 0) (bs := bs) (by decide) hlong (by unfold Sh.fullAt; rw [decide_eq_false_iff_not]; omega)
    have hR2 := Sh.layR_ok (inc := 2) (pos := (Sh.count bs : Int)) (bs := bs2) (by unfold Sh.badPos; simp; omega) hlongB (by unfold Sh.fullAt; rw [decide_eq_false_iff_not]; omega)
    have hlen := Sh.laid_length 1 0 bs (Sh.count bs)
    have hlen2 := Sh.laid_length 2 (Sh.count bs : Int) bs2 (Sh.count bs2)
    have hdat := Sh.laid_data 1 0 bs (Sh.count bs)
    have hdat2 := Sh.laid_data 2 (Sh.count bs : Int) bs2 (Sh.count bs2)
    have hb4 : ∀ b ∈ bs, b.length ≤ 4096 := fun b hb => by have := hb15 b hb; omega
    have hb4B : ∀ b ∈ bs2, b.length ≤ 4096 := fun b hb => by have := hb15B b hb; omega
    have htwo := fun m hm => find_two (i1 := 1) (p1 := 0) (i2 := 2) (p2 := (Sh.count bs : Int)) hb4 hb4B (m := m) hm
    have htake := fun m hm => Sh.laid_take 1 0 bs (Sh.count bs) m hm
    have hele := fun k => Sh.ended_le bs k
    generalize Sh.laid 2 (Sh.count bs : Int) bs2 (Sh.count bs2) = l2 at *
    obtain ⟨l, hldef⟩ : ∃ l, l = Sh.laid 1 0 bs (Sh.count bs) := ⟨_, rfl⟩
    rw [← hldef] at hR hlen hdat htake
    obtain ⟨N2, hN2⟩ : ∃ N2, N2 = Sh.count bs2 := ⟨_, rfl⟩
    obtain ⟨N, hN⟩ : ∃ N, N = Sh.count bs := ⟨_, rfl⟩
    rw [← hN] at hcount hlen htake htwo hR2
    rw [← hN2] at hcount2 hlen2
    have H := Lib.hid (And.intro hgr (And.intro ht (And.intro hl (And.intro hf (And.intro hb15 (And.intro hbs (And.intro hdat (And.intro hR (And.intro hbl (And.intro hlen hend))))))))))
    have K := Lib.hid (And.intro hgr2 (And.intro hl2 (And.intro hfB (And.intro hb15B (And.intro hbs2 (And.intro hdat2 (And.intro hR2 (And.intro hblB (And.intro hlen2 (And.intro htwo (And.intro htake hele)))))))))))
    clear hgr ht hl hf hb15 hbs hdat hR hbl hlen hg hb40 hbad haw hb4 hlong hN hend hgr2 hl2 hfB hb15B hbs2 hdat2 hR2 hblB hlen2 htwo htake hele hg2 hb40B hb4B hlongB hN2 hldef
    go_enter Tryd.func6, Tryd.ntmps6
    go_wp2_with fail
    refine H.out.1.mono ?_
    rintro e w1 ⟨rfl, rfl⟩
    go_wp2_with fail
    refine K.out.1.mono ?_
    rintro e w1 ⟨rfl, rfl⟩
    go_wp2_with fail
    refine (own08_any A n c ls bs _ H.out.2.2.2.2.2.1 H.out.2.2.1 (by omega) (fun b hb => by have := H.out.2.2.2.2.1 b hb; omega)).mono ?_
    rintro e w2 ⟨A2, c2', xs, rfl, hst2, hxs, hb2⟩
    have hl2 := lay_any 1 0 A2 bs.length c2' xs bs w2 hxs.symm hst2 (by rw [H.out.2.2.2.2.2.2.2.2.1]; omega) (by have := H.out.2.2.2.1; omega) (by omega) (by omega) (H.out.2.1.below hb2)
    rw [H.out.2.2.2.2.2.2.2.1] at hl2
    have H2 := Lib.hid (And.intro hl2 hb2)
    clear hl2 hb2 hst2 hxs
    go_wp2_with fail
    refine H2.out.1.mono ?_
    rintro e w3 ⟨A3, c3, rfl, ho3, hb3⟩
    have hbb3 := below_of H2.out.2 H2.out.2.size hb3
    rw [H.out.2.2.2.2.2.2.2.2.2.1] at ho3 ⊢
    have H3 := Lib.hid (And.intro hbb3 ho3)
    have hcap3 := own_capS ho3
    clear hbb3 ho3 hb3
    go_wp2_with fail
    refine (own08_any B n2 c2 ls2 bs2 _ K.out.2.2.2.2.1 (K.out.2.1.below H3.out.1) (by omega) (fun b hb => by have := K.out.2.2.2.1 b hb; omega)).mono ?_
    rintro e w4 ⟨A4, c4, xs4, rfl, hst4, hxs4, hb4⟩
    have hbb4 := below_of H3.out.1 H3.out.1.size hb4
    have hl4 := lay_any 2 (N : Int) A4 bs2.length c4 xs4 bs2 w4 hxs4.symm hst4 (by rw [K.out.2.2.2.2.2.2.2.1]; omega) (by have := K.out.2.2.1; omega) (by omega) (by omega) (H.out.2.1.below hbb4)
    rw [K.out.2.2.2.2.2.2.1] at hl4
    have H4 := Lib.hid (And.intro hl4 (And.intro hbb4 (own_below H3.out.2 hb4)))
    clear hl4 hb4 hst4 hxs4 hbb4
    go_wp2_with fail
    refine H4.out.1.mono ?_
    rintro e w5 ⟨A5, c5, rfl, ho5, hb5⟩
    have hbb5 := below_of H4.out.2.1 H4.out.2.1.size hb5
    rw [K.out.2.2.2.2.2.2.2.2.1] at ho5 ⊢
    have H5 := Lib.hid (And.intro hbb5 (And.intro (own_below H4.out.2.2 hb5) ho5))
    clear hbb5 ho5 hb5
    obtain ⟨m, hm, hmN⟩ : ∃ m : Nat, cut % ((N : Int) + 1) = (m : Int) ∧ m ≤ N := by
      have h1 := Int.emod_nonneg cut (show (N : Int) + 1 ≠ 0 by omega)
      have h2 := Int.emod_lt_of_pos cut (show (0 : Int) < (N : Int) + 1 by omega)
      exact ⟨(cut % ((N : Int) + 1)).toNat, by omega, by omega⟩
    have HM := Lib.hid hm
    clear hm
    obtain ⟨iS, hj0, hj1, hj2, hj3⟩ := info_parts finfoSheet
    have HJ := Lib.hid (And.intro hj0 (And.intro hj1 (And.intro hj2 hj3)))
    clear hj0 hj1 hj2 hj3
    have hcutA := fun W => cutSheet A3 N c3 m (m : Int) rfl (by have := hcap3.1; omega) W
    have hem : (w5.alloc (.cells #[] 47)).ownsRow w5.heap.size 47 4 (.slice (some ⟨w5.heap.size, 0, none⟩) 0 0) 0 [] := own_emptyK (heap_alloc_new w5 _)
    have hbe : Below w5.heap.size w5 (w5.alloc (.cells #[] 47)) := (Below.refl _ _).alloc (Nat.le_refl _) _
    have hs3 := (ST.of_own sheetK_len (by decide) (own_below H5.out.2.1 hbe) (fun x hx => H.out.2.2.2.2.2.2.1 x hx)).take_ hmN
    have H6 := Lib.hid (And.intro hem (And.intro hbe hs3))
    clear hem hbe hs3
    have hall : ∃ K', K' ≤ n ∧ (m < N → Sh.ended bs (242 * m) = K') ∧ (¬ m < N → K' = n) ∧ (Sh.findR (l.take m ++ l2)).out.map Prod.fst = bs.take K' ++ bs2 := by
      have h1 := K.out.2.2.2.2.2.2.2.2.2.1 m hmN
      rw [← K.out.2.2.2.2.2.2.2.2.2.2.1 m hmN] at h1
      have h2 := K.out.2.2.2.2.2.2.2.2.2.2.2 (242 * m)
      rw [H.out.2.2.2.2.2.2.2.2.1] at h1 h2
      by_cases hlt : m < N
      · rw [if_pos hlt] at h1
        exact ⟨_, h2, fun _ => rfl, fun h => absurd hlt h, h1⟩
      · rw [if_neg hlt] at h1
        exact ⟨n, Nat.le_refl _, fun h => absurd h hlt, fun _ => rfl, h1⟩
    obtain ⟨K', hKn, hKe, hKf, hfm⟩ := hall
    have hfl := map_len hfm
    rw [List.length_append, List.length_take, H.out.2.2.2.2.2.2.2.2.1, K.out.2.2.2.2.2.2.2.1, Nat.min_eq_left hKn] at hfl
    obtain ⟨fl, hfl0⟩ : ∃ fl, (Sh.findR (l.take m ++ l2)).out = fl := ⟨_, rfl⟩
    rw [hfl0] at hfl hfm
    have HF := Lib.hid (And.intro hfl0 (And.intro hfm hfl))
    clear hfl0 hfm hfl
    go_upto_region 9 with fail
    rw [HM.out]
    by_cases hlt : m < N
    · have hen := H.out.2.2.2.2.2.2.2.2.2.2 m w5 (H.out.2.2.1.below H5.out.1) (by omega)
      rw [hKe hlt] at hen
      have HEN := Lib.hid hen
      clear hen hKe hKf
      go_wp2_with fail
      refine HEN.out.mono ?_
      rintro e w6 ⟨rfl, rfl⟩
      go_upto_region 11 with fail
      go_wp2_with (first
        | (at_builtin; refine wpList_append_st _ sheetK_len (by decide) sheetK_one rfl (.tmp 60) (.tmp 63) 32 rfl w6.heap.size 47 iS (.agg #[.int .i64 0, .int .i64 0, .int .i64 0, .string ⟨#[]⟩]) 40 Tryd.underlying32 HJ.out.1 HJ.out.2.1 HJ.out.2.2.1 HJ.out.2.2.2 rfl (by omega) (.slice (some ⟨w6.heap.size, 0, none⟩) 0 0) 0 [] rfl H6.out.1 A3 m c3 (l.take m) rfl H6.out.2.2 (by omega) (by simp) ?_; intro A7 c7 w7 hown7 hg7 _; rw [Nat.zero_add, List.nil_append] at hown7; have hb7 : Below w6.heap.size w6 w7 := ((Below.refl _ _).alloc (Nat.le_refl _) _).grown hg7 (by simp) (by simp [Value.ownBlock]); have H7 := Lib.hid (And.intro hown7 (And.intro hb7 (ST.of_own sheetK_len (by decide) (own_below H5.out.2.2 hb7) (fun x hx => K.out.2.2.2.2.2.1 x hx)))); clear hown7 hg7 hb7)
        | (at_builtin; refine wpList_append_st _ sheetK_len (by decide) sheetK_one rfl (.tmp 65) (.tmp 66) 32 rfl w6.heap.size 47 iS (.agg #[.int .i64 0, .int .i64 0, .int .i64 0, .string ⟨#[]⟩]) 40 Tryd.underlying32 HJ.out.1 HJ.out.2.1 HJ.out.2.2.1 HJ.out.2.2.2 rfl (by omega) (.slice A7 m c7) m (rowOf sheetK (l.take m)) (by first | rfl | simp) H7.out.1 A5 N2 c5 l2 rfl H7.out.2.2 (by omega) H7.out.2.1.size ?_; intro A8 c8 w8 hown8 hg8 _; rw [← rowOf_append] at hown8; have hb8 : Below w6.heap.size w6 w8 := H7.out.2.1.grown hg8 H7.out.2.1.size (fun j hj => own_ge H7.out.1 hj); have H8 := Lib.hid (And.intro (find_any A8 (m + N2) c8 (l.take m ++ l2) w8 (ST.of_own sheetK_len (by decide) hown8 (later_ok H.out.2.2.2.2.2.2.1 K.out.2.2.2.2.2.1)) (by omega) (H.out.2.1.below (below_of H5.out.1 H5.out.1.size hb8))) (below_of H5.out.1 H5.out.1.size hb8)); clear hown8 hg8 hb8))
      have hfd := H8.out.1
      rw [HF.out.1] at hfd
      refine hfd.mono ?_
      clear hfd
      rintro e w9 ⟨A9, c9, rfl, ho9, hb9⟩
      have hbb9 := below_of H8.out.2 H8.out.2.size hb9
      have hcap9 := own_capS ho9
      have hst9 := ST.of_own foundK_len (by decide) ho9 (found_ok HF.out.2.1 (fun b hb => by
        rcases List.mem_append.1 hb with hb | hb
        · exact H.out.2.2.2.2.1 b (List.mem_of_mem_take hb)
        · exact K.out.2.2.2.1 b hb))
      rw [HF.out.2.2] at hst9 hcap9 ⊢
      have hbo1 : ∀ W, Below w9.heap.size w9 W → Calls Tryd.prog 21 #[.slice A9 K' c9, .slice A K' c] W fun e w' => e = .returned (.bool true) ∧ Drawn W w' := fun W hW =>
        bodies08_eq A9 A K' c9 c (fl.take K') (ls.take K') W ((hst9.below hW).take_ (by omega)) (((H.out.2.2.1.below hbb9).below hW).take_ (by omega)) (by
          rw [List.map_take, HF.out.2.1, bodiesOf_take, ← H.out.2.2.2.2.2.1, List.take_append_of_le_length (by rw [List.length_take, H.out.2.2.2.2.2.2.2.2.1]; omega), List.take_take, Nat.min_self]) (by omega)
      have hbo2 : ∀ W, Below w9.heap.size w9 W → Calls Tryd.prog 21 #[.slice (subK A9 c9 K' 2) n2 (c9 - K'), .slice B n2 c2] W fun e w' => e = .returned (.bool true) ∧ Drawn W w' := fun W hW => by
        have h1 := st_drop (hst9.below hW) (k := K') (by omega) hcap9.1
        rw [show K' + n2 - K' = n2 by omega] at h1
        exact bodies08_eq _ B n2 _ c2 (fl.drop K') ls2 W h1 ((K.out.2.1.below hbb9).below hW) (by
          rw [List.map_drop, HF.out.2.1, ← K.out.2.2.2.2.1, List.drop_append_of_le_length (by rw [List.length_take, H.out.2.2.2.2.2.2.2.2.1]; omega), List.drop_take, Nat.sub_self, List.take_zero, List.nil_append]) (by omega)
      have hcut1 := fun W => cutFoundH A9 (K' + n2) c9 K' (K' : Int) rfl (by have := hcap9.1; omega) W
      have hcut2 : ∀ W, (Instr.slice 42 (.slice A9 (K' + n2) c9) (some (.int .i64 (K' : Int))) none none).run Tryd.prog W = .ok (.slice (subK A9 c9 K' 2) n2 (c9 - K')) W := fun W => by
        have h := cutFoundL A9 (K' + n2) c9 K' (K' : Int) rfl (by omega) W
        rwa [show K' + n2 - K' = n2 by omega] at h
      have hcut3 := fun W => cutBody A n c K' (K' : Int) rfl (by omega) W
      have hsum : IntKind.i64.wrap ((K' : Int) + (n2 : Int)) = ((K' + n2 : Nat) : Int) := by rw [IntKind.wrap_i64]; omega
      have hg1 : ∀ W, Below w9.heap.size w9 W → Calls Tryd.prog 21 #[.slice A9 K' c9, .slice A K' c] W fun e w' => e = .returned (.bool true) ∧ Below w9.heap.size w9 w' := fun W hW => (hbo1 W hW).mono fun e w' ⟨h1, h2⟩ => ⟨h1, below_of hW hW.size h2.below⟩
      have hg2 : ∀ W, Below w9.heap.size w9 W → Calls Tryd.prog 21 #[.slice (subK A9 c9 K' 2) n2 (c9 - K'), .slice B n2 c2] W fun e w' => e = .returned (.bool true) ∧ Below w9.heap.size w9 w' := fun W hW => (hbo2 W hW).mono fun e w' ⟨h1, h2⟩ => ⟨h1, below_of hW hW.size h2.below⟩
      have hg3 : ∀ W, Below w9.heap.size w9 W → Calls Tryd.prog 16 #[] W fun e w' => e = .returned (.bool true) ∧ Below w9.heap.size w9 w' := fun W hW => (awake08_any W (H.out.2.1.below (below_of hbb9 hbb9.size hW))).mono fun e w' ⟨h1, h2⟩ => ⟨h1, below_of hW hW.size h2⟩
      have HC := Lib.hid (And.intro hg1 (And.intro hg2 hg3))
      have HF9 := Lib.hid hbb9
      clear hbo1 hbo2 hg1 hg2 hg3 hbb9 hcap9 hst9 ho9 hb9 hcutA
      go_upto_region 14 with fail
      have HS : Below w9.heap.size w9 w9.drew := (Below.refl _ _).drew
      go_region_held3 (fun w' => Below w9.heap.size w9 w') ((exact HS)) (first
        | (go_at_call 21; go_must (first | ((with_reducible refine (HC.out.1 _ (by assumption)).mono ?_); rintro e wa ⟨rfl, HS⟩) | ((with_reducible refine (HC.out.2.1 _ (by assumption)).mono ?_); rintro e wa ⟨rfl, HS⟩)))
        | (go_at_call 16; go_must ((with_reducible refine (HC.out.2.2 _ (by assumption)).mono ?_); rintro e wa ⟨rfl, HS⟩)))
      all_goals
        go_wp2_with fail
        go_ret
        exact ⟨rfl, below_of HF9.out HF9.out.size HS⟩
    · obtain rfl := hKf hlt
      clear hKe hKf
      go_upto_region 11 with fail
      go_wp2_with (first
        | (at_builtin; refine wpList_append_st _ sheetK_len (by decide) sheetK_one rfl (.tmp 60) (.tmp 63) 32 rfl w5.heap.size 47 iS (.agg #[.int .i64 0, .int .i64 0, .int .i64 0, .string ⟨#[]⟩]) 40 Tryd.underlying32 HJ.out.1 HJ.out.2.1 HJ.out.2.2.1 HJ.out.2.2.2 rfl (by omega) (.slice (some ⟨w5.heap.size, 0, none⟩) 0 0) 0 [] rfl H6.out.1 A3 m c3 (l.take m) rfl H6.out.2.2 (by omega) (by simp) ?_; intro A7 c7 w7 hown7 hg7 _; rw [Nat.zero_add, List.nil_append] at hown7; have hb7 : Below w5.heap.size w5 w7 := ((Below.refl _ _).alloc (Nat.le_refl _) _).grown hg7 (by simp) (by simp [Value.ownBlock]); have H7 := Lib.hid (And.intro hown7 (And.intro hb7 (ST.of_own sheetK_len (by decide) (own_below H5.out.2.2 hb7) (fun x hx => K.out.2.2.2.2.2.1 x hx)))); clear hown7 hg7 hb7)
        | (at_builtin; refine wpList_append_st _ sheetK_len (by decide) sheetK_one rfl (.tmp 65) (.tmp 66) 32 rfl w5.heap.size 47 iS (.agg #[.int .i64 0, .int .i64 0, .int .i64 0, .string ⟨#[]⟩]) 40 Tryd.underlying32 HJ.out.1 HJ.out.2.1 HJ.out.2.2.1 HJ.out.2.2.2 rfl (by omega) (.slice A7 m c7) m (rowOf sheetK (l.take m)) (by first | rfl | simp) H7.out.1 A5 N2 c5 l2 rfl H7.out.2.2 (by omega) H7.out.2.1.size ?_; intro A8 c8 w8 hown8 hg8 _; rw [← rowOf_append] at hown8; have hb8 : Below w5.heap.size w5 w8 := H7.out.2.1.grown hg8 H7.out.2.1.size (fun j hj => own_ge H7.out.1 hj); have H8 := Lib.hid (And.intro (find_any A8 (m + N2) c8 (l.take m ++ l2) w8 (ST.of_own sheetK_len (by decide) hown8 (later_ok H.out.2.2.2.2.2.2.1 K.out.2.2.2.2.2.1)) (by omega) (H.out.2.1.below (below_of H5.out.1 H5.out.1.size hb8))) (below_of H5.out.1 H5.out.1.size hb8)); clear hown8 hg8 hb8))
      have hfd := H8.out.1
      rw [HF.out.1] at hfd
      refine hfd.mono ?_
      clear hfd
      rintro e w9 ⟨A9, c9, rfl, ho9, hb9⟩
      have hbb9 := below_of H8.out.2 H8.out.2.size hb9
      have hcap9 := own_capS ho9
      have hst9 := ST.of_own foundK_len (by decide) ho9 (found_ok HF.out.2.1 (fun b hb => by
        rcases List.mem_append.1 hb with hb | hb
        · exact H.out.2.2.2.2.1 b (List.mem_of_mem_take hb)
        · exact K.out.2.2.2.1 b hb))
      rw [HF.out.2.2] at hst9 hcap9 ⊢
      have hbo1 : ∀ W, Below w9.heap.size w9 W → Calls Tryd.prog 21 #[.slice A9 K' c9, .slice A K' c] W fun e w' => e = .returned (.bool true) ∧ Drawn W w' := fun W hW =>
        bodies08_eq A9 A K' c9 c (fl.take K') (ls.take K') W ((hst9.below hW).take_ (by omega)) (((H.out.2.2.1.below hbb9).below hW).take_ (by omega)) (by
          rw [List.map_take, HF.out.2.1, bodiesOf_take, ← H.out.2.2.2.2.2.1, List.take_append_of_le_length (by rw [List.length_take, H.out.2.2.2.2.2.2.2.2.1]; omega), List.take_take, Nat.min_self]) (by omega)
      have hbo2 : ∀ W, Below w9.heap.size w9 W → Calls Tryd.prog 21 #[.slice (subK A9 c9 K' 2) n2 (c9 - K'), .slice B n2 c2] W fun e w' => e = .returned (.bool true) ∧ Drawn W w' := fun W hW => by
        have h1 := st_drop (hst9.below hW) (k := K') (by omega) hcap9.1
        rw [show K' + n2 - K' = n2 by omega] at h1
        exact bodies08_eq _ B n2 _ c2 (fl.drop K') ls2 W h1 ((K.out.2.1.below hbb9).below hW) (by
          rw [List.map_drop, HF.out.2.1, ← K.out.2.2.2.2.1, List.drop_append_of_le_length (by rw [List.length_take, H.out.2.2.2.2.2.2.2.2.1]; omega), List.drop_take, Nat.sub_self, List.take_zero, List.nil_append]) (by omega)
      have hcut1 := fun W => cutFoundH A9 (K' + n2) c9 K' (K' : Int) rfl (by have := hcap9.1; omega) W
      have hcut2 : ∀ W, (Instr.slice 42 (.slice A9 (K' + n2) c9) (some (.int .i64 (K' : Int))) none none).run Tryd.prog W = .ok (.slice (subK A9 c9 K' 2) n2 (c9 - K')) W := fun W => by
        have h := cutFoundL A9 (K' + n2) c9 K' (K' : Int) rfl (by omega) W
        rwa [show K' + n2 - K' = n2 by omega] at h
      have hcut3 := fun W => cutBody A K' c K' (K' : Int) rfl (by omega) W
      have hsum : IntKind.i64.wrap ((K' : Int) + (n2 : Int)) = ((K' + n2 : Nat) : Int) := by rw [IntKind.wrap_i64]; omega
      have hg1 : ∀ W, Below w9.heap.size w9 W → Calls Tryd.prog 21 #[.slice A9 K' c9, .slice A K' c] W fun e w' => e = .returned (.bool true) ∧ Below w9.heap.size w9 w' := fun W hW => (hbo1 W hW).mono fun e w' ⟨h1, h2⟩ => ⟨h1, below_of hW hW.size h2.below⟩
      have hg2 : ∀ W, Below w9.heap.size w9 W → Calls Tryd.prog 21 #[.slice (subK A9 c9 K' 2) n2 (c9 - K'), .slice B n2 c2] W fun e w' => e = .returned (.bool true) ∧ Below w9.heap.size w9 w' := fun W hW => (hbo2 W hW).mono fun e w' ⟨h1, h2⟩ => ⟨h1, below_of hW hW.size h2.below⟩
      have hg3 : ∀ W, Below w9.heap.size w9 W → Calls Tryd.prog 16 #[] W fun e w' => e = .returned (.bool true) ∧ Below w9.heap.size w9 w' := fun W hW => (awake08_any W (H.out.2.1.below (below_of hbb9 hbb9.size hW))).mono fun e w' ⟨h1, h2⟩ => ⟨h1, below_of hW hW.size h2⟩
      have HC := Lib.hid (And.intro hg1 (And.intro hg2 hg3))
      have HF9 := Lib.hid hbb9
      clear hbo1 hbo2 hg1 hg2 hg3 hbb9 hcap9 hst9 ho9 hb9 hcutA
      go_upto_region 14 with fail
      have HS : Below w9.heap.size w9 w9.drew := (Below.refl _ _).drew
      go_region_held3 (fun w' => Below w9.heap.size w9 w') ((exact HS)) (first
        | (go_at_call 21; go_must (first | ((with_reducible refine (HC.out.1 _ (by assumption)).mono ?_); rintro e wa ⟨rfl, HS⟩) | ((with_reducible refine (HC.out.2.1 _ (by assumption)).mono ?_); rintro e wa ⟨rfl, HS⟩)))
        | (go_at_call 16; go_must ((with_reducible refine (HC.out.2.2 _ (by assumption)).mono ?_); rintro e wa ⟨rfl, HS⟩)))
      all_goals
        go_wp2_with fail
        go_ret
        exact ⟨rfl, below_of HF9.out HF9.out.size HS⟩

theorem own : ownKnob Tryd.prog.godebug = none := by kernel_rfl
theorem laidOut : laidOutB Tryd.prog = true := by kernel_rfl
theorem params_ok : ∀ t ∈ Tryd.f6.params.toList, Tryd.prog.readableRec t = true ∧ t < Tryd.prog.types.size := by
  rw [Tryd.params6]
  intro t ht
  have ht' : t = 30 ∨ t = 3 := by
    simpa using ht
  rcases ht' with rfl | rfl
  · exact ⟨(show Tryd.prog.readableRec 30 = true by kernel_rfl), of_decide_eq_true (show decide (30 < Tryd.prog.types.size) = true by kernel_rfl)⟩
  · exact ⟨(show Tryd.prog.readableRec 3 = true by kernel_rfl), of_decide_eq_true (show decide (3 < Tryd.prog.types.size) = true by kernel_rfl)⟩
theorem gTab : Tryd.prog.globalNamed "troth/crc.half" = some 0 := by kernel_rfl
theorem gTabType : (Tryd.prog.globals[0]?).map (·.type) = some 172 := by kernel_rfl
theorem cellsTab : Tryd.prog.cellsOf 172 = 16 := by kernel_rfl
theorem cells32 : Tryd.prog.cellsOf 71 = 1 := by kernel_rfl
theorem table {W : World} (h : laidMetH Tryd.prog Rows.sheetLaterRow.laid W) : Half W := by
  have h1 : Lib.TabIs Tryd.prog W "troth/crc.half" .u32 (Crc.tab.map (fun n : Nat => (n : Int))) :=
    Lib.tabIs_of_head (rest := []) gTab gTabType Tryd.underlying172 Tryd.underlying71 cells32 cellsTab h
  intro i hi
  have h2 := h1.cell gTab i (by rw [List.length_map]; exact hi)
  rw [h2]
  have hi' : i < Crc.tab.length := hi
  rw [List.getD_eq_getElem?_getD, List.getElem?_map, List.getD_eq_getElem?_getD, List.getElem?_eq_getElem hi']
  rfl

set_option maxRecDepth 100000 in
theorem contract (H : Type) (enc : TypeId × Value → H) (W : World) (base : Nat) (args : Array Value) (ds gs : List (DataW H)) (before : List MemPlace)
    (hval : ∀ (j : Nat) t v, Tryd.f6.params[j]? = some t → args[j]? = some v → Value.okWide Tryd.prog W .any base t v)
    (hW : DataW.Whole enc Tryd.prog Tryd.f6.params.toList Rows.sheetLaterSpec.vars false W args.toList ds gs before) (hL : laidMetH Tryd.prog Rows.sheetLaterRow.laid W) :
    Calls Tryd.prog 6 args W fun e W' => ∃ v, e = .returned v ∧ Rows.sheetLaterSpec.post enc Tryd.prog Tryd.f6 false true false false W args v W' := by
  have hW' := hW
  obtain ⟨p, q, hA0, hV, rfl, hfz, hnd⟩ := hW
  have hA : DataW.TrodAll enc Tryd.prog W 0 (fun _ => true) true Tryd.f6.params.toList args.toList ds p := hA0
  rw [Tryd.params6] at hA hval
  obtain ⟨v0, vs0, d0, ds0, p0, q0, hargs, rfl, rfl, h0, r0⟩ := trodAll_cons hA
  obtain ⟨v1, vs1, d1, ds1, p1, q1, rfl, rfl, rfl, h1, r1⟩ := trodAll_cons r0
  obtain ⟨v2, vs2, d2, ds2, p2, q2, rfl, rfl, rfl, h2, r2⟩ := trodAll_cons r1
  obtain ⟨rfl, rfl, rfl⟩ := trodAll_nil r2
  obtain rfl : args = #[v0, v1, v2] := by cases args; simp_all
  obtain ⟨rfl, rfl⟩ := trodVars_none hV
  obtain ⟨A0, n0, c0, l0, rfl, lh0, nc0, cm0⟩ := open_structs (K := bodyK) Tryd.underlying30 (show Tryd.prog.cellsOf 38 = (bodyK).k by kernel_rfl) (by decide) body_cells (hval 0 30 v0 rfl rfl) h0
  obtain ⟨A1, n1, c1, l1, rfl, lh1, nc1, cm1⟩ := open_structs (K := bodyK) Tryd.underlying30 (show Tryd.prog.cellsOf 38 = (bodyK).k by kernel_rfl) (by decide) body_cells (hval 1 30 v1 rfl rfl) h1
  obtain ⟨x2, rfl, rfl, rfl, w2⟩ := open_int Tryd.underlying3 (hval 2 3 v2 rfl rfl) h2
  have b2 := bounds_i64 w2
  refine (walk A0 n0 c0 l0 A1 n1 c1 l1 x2 W lh0 nc0 cm0 lh1 nc1 cm1 b2.1 b2.2 (table hL)).mono fun e W' ⟨he, bel⟩ => ?_
  exact ⟨_, he, post_true laidOut Tryd.underlying4 (show Tryd.f6.resultTypes = #[4] from rfl) params_ok rfl hW' rfl bel⟩

noncomputable def laidWorld (os : Os) : World :=
  { World.holding Tryd.prog os ⟨#[], #[], []⟩ with heap := (World.holding Tryd.prog os ⟨#[], #[], []⟩).heap.modify 0 fun
      | .cells _ t frozen => .cells #[.int .u32 0, .int .u32 498536548, .int .u32 997073096, .int .u32 651767980, .int .u32 1994146192, .int .u32 1802195444, .int .u32 1303535960, .int .u32 1342533948, .int .u32 3988292384, .int .u32 4027552580, .int .u32 3604390888, .int .u32 3412177804, .int .u32 2607071920, .int .u32 2262029012, .int .u32 2685067896, .int .u32 3183342108] t frozen
      | o => o }
theorem laid_met (os : Os) : laidMet Tryd.prog Rows.sheetLaterRow.laid ((laidWorld os).forCall (fun _ _ => 0) ⟨#[], #[.slice none 0 0, .slice none 0 0, .int .i64 0], []⟩).memory :=
  laidMet_of_run' 8 (by kernel_rfl) (by kernel_rfl)
theorem reads (os : Os) {H : Type} (enc : TypeId × Value → H) : ∃ places, DataW.whole enc Tryd.prog ((laidWorld os).forCall (fun _ _ => 0) ⟨#[], #[.slice none 0 0, .slice none 0 0, .int .i64 0], []⟩).memory Tryd.f6.params.toList Rows.sheetLaterSpec.vars false (#[Value.slice none 0 0, Value.slice none 0 0, Value.int .i64 0] : Array Value).toList 8 = some ([.nil, .nil, .lit (.int .i64 0)], [], places) :=
  ⟨[], by kernel_rfl⟩
set_option maxRecDepth 100000 in
theorem lifted (os : Os) (started : os.Started) (H : Type) (enc : TypeId × Value → H) (F : Stop.Interp) :
    ReturnsInHanded {} Tryd.checked os 6 .any ((OpenSpec.ofChange Rows.sheetLaterSpec).preRow enc Tryd.prog Tryd.f6 Rows.sheetLaterRow.domain false Rows.sheetLaterRow.laid) (((OpenSpec.ofChange Rows.sheetLaterSpec).at F).post enc Tryd.prog Tryd.f6 false true false false) := by
  obtain ⟨places, hx⟩ := reads os enc
  refine returnsInHanded_of_row (C := Tryd.checked) (s := OpenSpec.ofChange Rows.sheetLaterSpec) own started (by kernel_rfl) Tryd.func6
    (witness_row_at (enc := enc) (C := Tryd.checked) false (laidWorld os) #[.slice none 0 0, .slice none 0 0, .int .i64 0] rfl (by kernel_rfl) (by kernel_rfl) (by kernel_rfl)
      (OpenSpec.preRow_of_cond 8 hx (by kernel_rfl) (fun k hk => by cases hk) (by kernel_rfl) (laid_met os))) ?_
  intro W base args ds gs before hval hW _ _ hsz hL _ _
  exact contract H enc W base args ds gs before hval hW hL
theorem said : Rows.SheetLaterSaid :=
  OpenClaim.holds_of_cond 6 Tryd.f6 rfl rfl rfl rfl rfl rfl rfl ⟨rfl, rfl, rfl, rfl, rfl⟩ rfl rfl rfl rfl rfl (by kernel_rfl) Tryd.func6 (by kernel_rfl)
    (of_decide_eq_true (by kernel_rfl)) (by unfold Func.isWrapper; first | (rw [if_pos (by decide +kernel)]; kernel_rfl) | (rw [if_neg (by decide +kernel)]; exact ⟨rfl, rfl⟩))
    (fun os started H enc _ F => by rw [OpenClaim.pre_eq_preRow]; exact lifted os started H enc F)
theorem plain (f : FuncId) (fn : Func) (hf : Tryd.pinned.checked.prog.funcNamed "troth/trothlaw08.SheetLater" = some f) (hfn : Tryd.pinned.checked.prog.funcs[f]? = some fn) :
    false = Tryd.pinned.checked.prog.looks [] ∧ ∀ (j : Nat) t, fn.params[j]? = some t → Tryd.pinned.checked.prog.wantsStandIn t = false := by
  obtain rfl : f = 6 := Option.some.inj ((show Tryd.prog.funcNamed "troth/trothlaw08.SheetLater" = some 6 by kernel_rfl).symm.trans hf) |>.symm
  obtain rfl : fn = Tryd.f6 := (Option.some.inj (Tryd.func6.symm.trans hfn)).symm
  refine ⟨by kernel_rfl, fun j t ht => ?_⟩
  rw [Tryd.params6] at ht
  have ht' : t = 30 ∨ t = 3 := by simpa using Array.mem_of_getElem? ht
  rcases ht' with rfl | rfl
  · exact (show Tryd.prog.wantsStandIn 30 = false by kernel_rfl)
  · exact (show Tryd.prog.wantsStandIn 3 = false by kernel_rfl)
theorem card : Rows.SheetLaterCardSaid :=
  Claim7.holds_tied_plain_at .later [] _ _ _ _ said (fun _ h => by cases h) (by kernel_rfl) (fun _ h => by cases h) sheetLater_row_tie rfl ⟨rfl, rfl⟩ (by kernel_rfl) rfl plain (by kernel_rfl)
#print axioms card
end Go.Proofs.YtlpdjpkdgagjpaaDoor.sheetLater
