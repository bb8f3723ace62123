/- DiskLeaves: of each sector a crash leaves what was synced, or one of its writes, or the beginning of the last write of all ahead of one of these; no condition. -/
import Derived.Test.YtaooimhodoefoaaPlayed
namespace Go.Proofs.Ytaooimhodoefoaa.diskLeaves
open Go.ChangeShapes Go.WideShapes Go.ChangeAt Go.RowKit Mem Lift
set_option linter.unusedVariables false
set_option linter.unusedSimpArgs false
attribute [local go_sem ↓] Go.wp_at_zero Go.wp_at_succ

theorem read_on {d : Dk.D} {n : Int} (h0 : d.down = false) (h1 : 0 ≤ n) (h2 : n < d.size) : Dk.read d n = (Dk.cur d n, 0) := by
  unfold Dk.read
  rw [if_neg (by unfold Dk.at_; rw [if_neg (by omega)]; simp), h0]
  rfl
/-! the plain law -/
def synZ (d : Dk.D) (n : Int) : List UInt8 := (d.syn n).getD Dk.zeros
def wrt (d : Dk.D) (j : Nat) : Int × List UInt8 := d.pend.getD j (0, [])
def Hit (d : Dk.D) (n : Int) (i : Nat) (v : List UInt8) : Prop := v = synZ d n ∨ ∃ j, j < i ∧ (wrt d j).1 = n ∧ v = (wrt d j).2
theorem Hit.more {d : Dk.D} {n : Int} {i : Nat} {v : List UInt8} (h : Hit d n i v) : Hit d n (i + 1) v := by
  rcases h with h | ⟨j, h1, h2⟩
  · exact .inl h
  · exact .inr ⟨j, by omega, h2⟩
theorem wr_len {d : Dk.D} (hok : Dk.Ok d) {j : Nat} (hj : j < d.pend.length) : (wrt d j).2.length = 256 :=
  (hok.pend (wrt d j) (by unfold wrt; rw [List.getD_eq_getElem?_getD, List.getElem?_eq_getElem hj]; simp)).1
theorem syn_len {d : Dk.D} (hok : Dk.Ok d) (n : Int) : (synZ d n).length = 256 := by
  unfold synZ
  cases h : d.syn n with
  | none => exact Dk.zeros_length
  | some t => exact hok.syn n t h
theorem to_len {d : Dk.D} (hok : Dk.Ok d) (ks : List Int) (torn : Bool) (cut : Int) (i : Nat) (hi : i ≤ d.pend.length) (n : Int) : ((Dk.crashTo d ks torn cut i n).getD Dk.zeros).length = 256 := by
  cases h : Dk.crashTo d ks torn cut i n with
  | none => exact Dk.zeros_length
  | some t => exact Dk.crashTo_length hok ks torn cut i hi n t h
theorem hit_to {d : Dk.D} (hok : Dk.Ok d) (ks : List Int) (torn : Bool) (cut : Int) (n : Int) : ∀ i, i ≤ d.pend.length → (torn = false ∨ i < d.pend.length) → Hit d n i ((Dk.crashTo d ks torn cut i n).getD Dk.zeros)
  | 0, _, _ => .inl rfl
  | i + 1, hi, ht => by
    have ih := hit_to hok ks torn cut n i (by omega) (by rcases ht with ht | ht; exact .inl ht; exact .inr (by omega))
    have hl := to_len hok ks torn cut i (by omega) n
    have hw := wr_len hok (show i < d.pend.length by omega)
    show Hit d n (i + 1) ((Dk.mix (Dk.crashTo d ks torn cut i) (wrt d i) (Dk.cutOf ks torn cut d.pend.length i) n).getD Dk.zeros)
    have hc : Dk.cutOf ks torn cut d.pend.length i = 0 ∨ Dk.cutOf ks torn cut d.pend.length i = 256 := by
      unfold Dk.cutOf
      rw [if_neg (by rintro ⟨a, b⟩; rcases ht with ht | ht; rw [ht] at a; cases a; omega)]
      split
      · exact .inr rfl
      · exact .inl rfl
    rcases hc with hc | hc
    · rw [hc]; exact ih.more
    · rw [hc]
      unfold Dk.mix
      rw [if_neg (by omega)]
      unfold upd
      by_cases hn : n = (wrt d i).1
      · rw [if_pos hn]
        refine .inr ⟨i, by omega, hn.symm, ?_⟩
        rw [← hn]
        show List.take 256 (wrt d i).2 ++ _ = _
        rw [List.take_of_length_le (by omega), List.drop_eq_nil_of_le (by omega), List.append_nil]
      · rw [if_neg hn]; exact ih.more
def kOf (cut : Int) : Nat := (min (max cut 0) 256).toNat
theorem kOf_le (cut : Int) : kOf cut ≤ 256 := by unfold kOf; omega
theorem leaves {d : Dk.D} (hok : Dk.Ok d) (ks : List Int) (torn : Bool) (cut : Int) (n : Int) (b : List UInt8) (hb : b = Dk.cur (Dk.crash d ks torn cut) n) :
    Hit d n d.pend.length b ∨ (torn = true ∧ 0 < d.pend.length ∧ (wrt d (d.pend.length - 1)).1 = n ∧ b.take (kOf cut) = (wrt d (d.pend.length - 1)).2.take (kOf cut) ∧ ∃ v, Hit d n (d.pend.length - 1) v ∧ b.drop (kOf cut) = v.drop (kOf cut)) := by
  have hb' : b = (Dk.crashTo d ks torn cut d.pend.length n).getD Dk.zeros := hb
  by_cases ht : torn = false ∨ d.pend.length = 0
  · left
    rw [hb']
    rcases ht with ht | ht
    · exact hit_to hok ks torn cut n _ (Nat.le_refl _) (.inl ht)
    · rw [ht]; exact .inl rfl
  · have ht1 : torn = true := by cases torn <;> simp_all
    have hp : 0 < d.pend.length := by omega
    obtain ⟨L, hL⟩ : ∃ L, d.pend.length = L + 1 := ⟨d.pend.length - 1, by omega⟩
    have ih := hit_to hok ks torn cut n L (by omega) (.inr (by omega))
    have hl := to_len hok ks torn cut L (by omega) n
    have hw := wr_len hok (show L < d.pend.length by omega)
    have hk := kOf_le cut
    have hcut : Dk.cutOf ks torn cut d.pend.length L = kOf cut := by unfold Dk.cutOf kOf; rw [if_pos ⟨ht1, by omega⟩]
    rw [show d.pend.length - 1 = L by omega]
    rw [hL] at hb'
    have hb2 : b = (Dk.mix (Dk.crashTo d ks torn cut L) (wrt d L) (kOf cut) n).getD Dk.zeros := by rw [← hcut]; exact hb'
    by_cases hk0 : kOf cut = 0
    · left
      rw [hb2, hk0, hL]
      exact ih.more
    · unfold Dk.mix at hb2
      rw [if_neg hk0] at hb2
      unfold upd at hb2
      by_cases hn : n = (wrt d L).1
      · right
        rw [if_pos hn, ← hn] at hb2
        have hb3 : b = (wrt d L).2.take (kOf cut) ++ ((Dk.crashTo d ks torn cut L n).getD Dk.zeros).drop (kOf cut) := hb2
        refine ⟨ht1, hp, hn.symm, ?_, _, ih, ?_⟩
        · rw [hb3, List.take_append_of_le_length (by rw [List.length_take]; omega), List.take_take, Nat.min_self]
        · rw [hb3, List.drop_append_of_le_length (by rw [List.length_take]; omega), List.drop_eq_nil_of_le (by rw [List.length_take]; omega), List.nil_append]
      · left
        rw [if_neg hn] at hb2
        rw [hb2, hL]
        exact ih.more
/-- what is found -/
def F2 (d : Dk.D) (n : Int) (b : List UInt8) : Nat → Bool
  | 0 => decide (b = synZ d n)
  | i + 1 => F2 d n b i || ((wrt d i).1 == n && decide (b = (wrt d i).2))
def F3 (d : Dk.D) (n : Int) (b : List UInt8) (k : Nat) (f0 head : Bool) : Nat → Bool
  | 0 => f0 || (head && decide (b.drop k = (synZ d n).drop k))
  | i + 1 => F3 d n b k f0 head i || (head && (wrt d i).1 == n && decide (b.drop k = (wrt d i).2.drop k))
theorem F2_hit {d : Dk.D} {n : Int} {b : List UInt8} : ∀ {i : Nat}, Hit d n i b → F2 d n b i = true
  | 0, .inl h => by simp [F2, h]
  | 0, .inr ⟨j, hj, _⟩ => by omega
  | i + 1, .inl h => by simp [F2, F2_hit (.inl h)]
  | i + 1, .inr ⟨j, hj, h1, h2⟩ => by
    by_cases e : j = i
    · subst e; rw [F2, h1, ← h2]; simp
    · rw [F2, F2_hit (i := i) (.inr ⟨j, by omega, h1, h2⟩)]; rfl
theorem F3_f0 {d : Dk.D} {n : Int} {b : List UInt8} {k : Nat} {head : Bool} : ∀ i, F3 d n b k true head i = true
  | 0 => by simp [F3]
  | i + 1 => by simp [F3, F3_f0 i]
theorem F3_hit {d : Dk.D} {n : Int} {b v : List UInt8} {k : Nat} {f0 : Bool} (he : b.drop k = v.drop k) : ∀ {i : Nat}, Hit d n i v → F3 d n b k f0 true i = true
  | 0, .inl h => by simp [F3, he, h]
  | 0, .inr ⟨j, hj, _⟩ => by omega
  | i + 1, .inl h => by simp [F3, F3_hit he (.inl h)]
  | i + 1, .inr ⟨j, hj, h1, h2⟩ => by
    by_cases e : j = i
    · subst e; rw [F3, h1, he, ← h2]; simp
    · rw [F3, F3_hit (i := i) he (.inr ⟨j, by omega, h1, h2⟩)]; rfl

def cutOff (c k off : Nat) : Nat := if c = k then off else off + k
theorem slice_tail {w : World} {b off c k : Nat} {bs : List UInt8} (hb : BS w (some ⟨b, off, none⟩) 256 bs) (hk : k ≤ 256) (hc : 256 ≤ c) :
    (∀ w1 : World, (Instr.slice 22 (.slice (some ⟨b, off, none⟩) 256 c) (some (.int .i64 (k : Int))) none none).run Try.prog w1 = .ok (.slice (some ⟨b, cutOff c k off, none⟩) (256 - k) (c - k)) w1) ∧ BS w (some ⟨b, cutOff c k off, none⟩) (256 - k) (bs.drop k) := by
  obtain ⟨i0, hi0, hz0, hz1, hz2⟩ := info_parts rinfo8
  have hadd : (⟨b, off, none⟩ : Addr).add k = ⟨b, off + k, none⟩ := by unfold Addr.add; split <;> simp_all
  refine ⟨fun w1 => ?_, ?_⟩
  · have hsz : (sizeOf 5).run Try.prog w1 = .ok 1 w1 := by simp [sizeOf, typeInfo, hi0, hz1]
    have hu := run_underlying (P := Try.prog) (w := w1) Try.underlying22
    simp only [Instr.slice, Instr.sliceBounds, Instr.sliceBound, asIntOf, Sem.run_bind, hu, Result.andThen_ok, Sem.run_pure]
    rw [if_pos (by omega)]
    simp only [Sem.run_pure, Result.andThen_ok, hsz, Int.toNat_natCast, Nat.mul_one]
    unfold cutOff
    by_cases h : c = k
    · rw [if_pos h, if_pos h]
    · rw [if_neg h, if_neg h]; simp [hadd]
  · rcases Nat.eq_or_lt_of_le hk with h | h
    · subst h
      have : bs.drop 256 = [] := List.drop_eq_nil_of_le (by rw [hb.1]; omega)
      rw [this]
      exact BS.empty _ _
    · have h2 := hb.cut_ k 256 (by omega) (Nat.le_refl _)
      have e : cutOff c k off = off + k := by unfold cutOff; rw [if_neg (by omega)]
      rw [e]
      rw [List.take_of_length_le (by rw [List.length_drop, hb.1]; omega)] at h2
      exact h2
theorem bs_some {w : World} {A : Option Addr} {bs : List UInt8} (h : BS w A 256 bs) : ∃ b off, A = some ⟨b, off, none⟩ := by
  obtain ⟨b, off, e, _⟩ := h.2 (by omega)
  exact ⟨b, off, e⟩
theorem below_drawn {w w' : World} (h : Drawn w w') : ∀ b o v, w.cell? ⟨b, o, none⟩ = some v → w'.cell? ⟨b, o, none⟩ = some v := fun b o v hc => by obtain ⟨nn, rfl⟩ := h; exact hc
theorem drawn_trans {a b c : World} (h : Drawn a b) (k : Drawn b c) : Drawn a c := by
  obtain ⟨n, rfl⟩ := h
  obtain ⟨m, rfl⟩ := k
  exact ⟨_, World.drewN_drewN _ _ _⟩
set_option maxRecDepth 100000 in
set_option maxHeartbeats 16000000 in
theorem walk_main (A : Option Addr) (m cap : Nat) (l : List CallD) (AK : Option Addr) (nk ck : Nat) (torn : Bool) (cut : Int) (ks : List Int) (w : World) (hl : CS w A m l) (hmc : m ≤ cap) (hcm : cap ≤ maxLen) (hK : IS w AK nk ks) (hlong : longB l = false) (hnk : nk ≤ 60) :
    Calls Try.prog 8 #[.slice A m cap, .agg #[.slice AK nk ck, .bool torn, .int .i64 cut]] w fun e w' => e = .returned (.bool true) ∧ Below w.heap.size w w' := by
  have hcm' := hcm
  unfold maxLen at hcm
  have hm60 : m ≤ 60 := by have := (longB_false hlong).1; rw [hl.len] at this; exact this
  have hd60 : decide (60 < (nk : Int)) = false := by simp; omega
  have hb1 : Below w.heap.size w (w.alloc (.cells #[.slice AK nk ck, .bool torn, .int .i64 cut] 52)) := (Below.refl _ _).alloc (Nat.le_refl _) _
  have hq1 : Blk (w.alloc (.cells #[.slice AK nk ck, .bool torn, .int .i64 cut] 52)) w.heap.size 52 #[.slice AK nk ck, .bool torn, .int .i64 cut] := Blk.new w _ _
  go_enter Try.func8, Try.ntmps8
  have HB := Lib.hid (And.intro (hl.below hb1) (And.intro (hK.below hb1) (And.intro hb1 (And.intro hq1 (And.intro hlong hcm')))))
  clear hl hK hb1 hq1 hlong hcm'
  go_wp2_with fail
  generalize w.alloc (.cells #[.slice AK nk ck, .bool torn, .int .i64 cut] 52) = w1 at *
  have k0 := HB.out.2.2.2.1.cell 0
  refine (long_any A m cap l w1 HB.out.1 hmc hcm).mono ?_
  rintro e w0 ⟨rfl, hw⟩
  subst hw
  rw [HB.out.2.2.2.2.1]
  go_wp2_with fail
  refine (played_any A m cap l w1 HB.out.1 hmc HB.out.2.2.2.2.2 (by omega)).mono ?_
  rintro e w2 ⟨p, q, rfl, h2⟩
  have hpl := Dk.pl_play l m
  generalize Dk.playTo l m = d at *
  have hplen := hpl.pend
  have hq2 := HB.out.2.2.2.1.below h2.1 HB.out.2.2.2.1.lt
  have k20 := hq2.cell 0
  have k21 := hq2.cell 1
  have k22 := hq2.cell 2
  have HA := Lib.hid h2
  have HP := Lib.hid hpl
  clear h2 hpl k0 hq2
  go_wp2_with fail
  refine (own04_any AK nk ck ks torn cut w2 (HB.out.2.1.below HA.out.1) (by omega)).mono ?_
  rintro e w3 ⟨A3, c3, rfl, his, hb3⟩
  have H3 := Lib.hid (And.intro (HA.out.grow hb3) his)
  clear his hb3 HA k20 k21 k22
  go_wp2_with fail
  refine (sep_crash H3.out.1 (i := 0) rfl HP.out.ok (by omega) A3 nk c3 ks torn cut H3.out.2 (by omega)).mono ?_
  rintro e w4 ⟨x, rfl, _, h4⟩
  have H4 := Lib.hid (show Sep w1 w4 [.dsk p d, .ref q d, .dsk x (Dk.crash d ks torn cut)] from h4)
  clear h4 H3
  go_wp2_with fail
  go_loopg [8] 4 (fun gk s8 wr => ∃ (n : Nat), n ≤ 4 ∧ gk = 4 - n ∧ s8 = .int .i64 n ∧ Sep w1 wr [.dsk p d, .ref q d, .dsk x (Dk.crash d ks torn cut)])
  case atStart => exact ⟨0, by omega, by omega, rfl, H4.out⟩
  case round =>
    obtain ⟨n, hn, rfl, rfl, hS⟩ := hrel
    clear H4
    by_cases hlt : n < 4
    · have hn4 : (n : Int) < d.size := by have := HP.out.size; omega
      have e2 := read_on (d := Dk.crash d ks torn cut) (n := (n : Int)) rfl (by omega) hn4
      have hlv := leaves HP.out.ok ks torn cut n _ rfl
      have hbl := Dk.cur_length (Dk.crash_ok HP.out.ok ks torn cut) n
      generalize Dk.cur (Dk.crash d ks torn cut) n = bb at *
      have HS := Lib.hid (And.intro hS (And.intro e2 (And.intro hlv hbl)))
      clear hS e2 hlv hbl hn4
      go_wp2_with fail
      refine (sep_read HS.out.1 (i := 2) rfl (Dk.crash_ok HP.out.ok ks torn cut) n).mono ?_
      rw [HS.out.2.1]
      rintro e w5 ⟨A5, c5, rfl, hB5, hc5, hcm5, hb5, hf5⟩
      simp only [HS.out.2.2.2] at hB5 hc5 hf5 ⊢
      obtain ⟨g5, rfl, hg5, hfr5⟩ := hf5 (by omega)
      have hS5 := HS.out.1.grow hb5
      obtain ⟨sv, xs, lv, ys, F, hr⟩ := sep_rcells hS5 (i := 1) rfl
      have hxl : n < xs.length := by have := hr.slen; have := HP.out.size; omega
      have hx4 : xs.length ≤ 4096 := by have := hr.slen; have := HP.out.size; omega
      obtain ⟨g, cg, v0, rfl, cs, hv0⟩ := hr.scell hxl
      obtain ⟨A8, c8, rfl, hB8, hc8, hcm8, hl8⟩ := hv0.bytes
      have HV8 := Lib.hid cs
      obtain ⟨LA, lc, rfl⟩ := own_slice hr.lrow
      obtain ⟨q0, q1, _⟩ := hr.cells
      have hk5 := HB.out.2.2.2.1.below hS5.1 HB.out.2.2.2.1.lt
      have HR := Lib.hid (And.intro hr (And.intro hk5 (And.intro hB5 (And.intro hB8 hS5))))
      have hni : (n : Int) < (xs.length : Int) := by omega
      clear hr hv0 hk5 hB5 hB8 hS5 hfr5 hb5 hf5
      unfold maxLen at hcm8
      go_wp2_with fail
      refine (same_any (some ⟨g5, 0, none⟩) A8 256 256 c5 c8 bb _ w5 HR.out.2.2.1 HR.out.2.2.2.1 (by omega) (by omega)).mono ?_
      rintro e w6 ⟨rfl, hd6⟩
      have HD6 := Lib.hid hd6
      have q16 := below_drawn hd6 _ _ _ q1
      clear hd6 q0 q1 cs
      go_wp2_with fail
      go_loopg [11, 12] d.pend.length (fun gk s11 s12 wr => ∃ (i : Nat), i ≤ d.pend.length ∧ gk = d.pend.length - i ∧ s12 = .int .i64 i ∧ s11 = .bool (F2 d n bb i) ∧ Drawn w5 wr)
      case atStart => exact ⟨0, by omega, by omega, rfl, rfl, HD6.out⟩
      case round =>
        obtain ⟨i, hi, rfl, rfl, rfl, hdr⟩ := hrel
        clear HD6 q16
        have hq1 := below_drawn hdr _ _ _ HR.out.1.cells.2.1
        have HDr := Lib.hid hdr
        by_cases hlt2 : i < d.pend.length
        · obtain ⟨gl, cl, vd, e0, x0, x1, hvd⟩ := HR.out.1.wcell hlt2
          injection e0 with e0 _ e1
          subst e0
          subst e1
          obtain ⟨DA, dc, rfl, hdb, _, _, hdl⟩ := hvd.bytes
          have x0' := below_drawn hdr _ _ _ x0
          have x1' := below_drawn hdr _ _ _ x1
          have hF : F2 d n bb (i + 1) = (F2 d n bb i || ((wrt d i).1 == (n : Int) && decide (bb = (wrt d i).2))) := rfl
          have hii : (i : Int) < (d.pend.length : Int) := by omega
          change wr.cell? _ = some (.int .i64 (wrt d i).1) at x0'
          change BS w5 DA 256 (wrt d i).2 at hdb
          generalize F2 d n bb i = f at *
          generalize wrt d i = y at *
          have HG := Lib.hid (And.intro hF hdb)
          clear hF hdb hvd hdl x0 x1 hdr
          cases f with
          | true =>
            go_wp2_with fail
            go_roundg (d.pend.length - (i + 1))
            case measure => omega
            case rel => exact ⟨i + 1, by omega, rfl, by go_num, by rw [HG.out.1]; rfl, HDr.out⟩
          | false =>
            by_cases hy : y.1 = (n : Int)
            · have hyb : (y.1 == (n : Int)) = true := by simpa using hy
              have HY := Lib.hid hyb
              clear hy
              go_wp2_with fail
              refine (same_any (some ⟨g5, 0, none⟩) DA 256 256 c5 dc bb y.2 wr (HR.out.2.2.1.below HDr.out.below) (HG.out.2.below HDr.out.below) (by omega) (by omega)).mono ?_
              rintro e w7 ⟨rfl, hd7⟩
              have HD7 := Lib.hid hd7
              clear hd7
              go_wp2_with fail
              go_roundg (d.pend.length - (i + 1))
              case measure => omega
              case rel => exact ⟨i + 1, by omega, rfl, by go_num, by rw [HG.out.1, HY.out]; rfl, drawn_trans HDr.out HD7.out⟩
            · have hyb : (y.1 == (n : Int)) = false := by simpa using hy
              have HY := Lib.hid hyb
              clear hy
              go_wp2_with fail
              go_roundg (d.pend.length - (i + 1))
              case measure => omega
              case rel => exact ⟨i + 1, by omega, rfl, by go_num, by rw [HG.out.1, HY.out]; rfl, HDr.out⟩
        · obtain rfl : i = d.pend.length := by omega
          have hkc := HR.out.2.1
          have k1 := below_drawn hdr _ _ _ (hkc.cell 1)
          have k2 := below_drawn hdr _ _ _ (hkc.cell 2)
          clear hkc hdr
          generalize hf2 : F2 d n bb d.pend.length = f2 at *
          have HF2 := Lib.hid hf2
          clear hf2
          have hend : Sep w1 wr [.dsk p d, .ref q d, .dsk x (Dk.crash d ks torn cut)] := HR.out.2.2.2.2.grow HDr.out.below
          have HE := Lib.hid hend
          clear hend
          by_cases hp : 0 < d.pend.length
          · obtain ⟨L, hL⟩ : ∃ L, d.pend.length = L + 1 := ⟨d.pend.length - 1, by omega⟩
            have hLi : (d.pend.length : Int) - 1 = (L : Int) := by omega
            obtain ⟨gl, cl, vd, e0, x0, x1, hvd⟩ := HR.out.1.wcell (k := L) (by omega)
            injection e0 with e0 _ e1
            subst e0
            subst e1
            have x0' := below_drawn HDr.out _ _ _ x0
            have x1' := below_drawn HDr.out _ _ _ x1
            change wr.cell? _ = some (.int .i64 (wrt d L).1) at x0'
            obtain ⟨DA, dc, rfl, hdb, hdc, hdcm, hdl⟩ := hvd.bytes
            change BS w5 DA 256 (wrt d L).2 at hdb
            have hLl : (L : Int) < (d.pend.length : Int) := by omega
            have HG := Lib.hid (And.intro hdb (And.intro hdl hL))
            clear x0 x1 hvd hdb hdl hL
            have hlv := HS.out.2.2.1
            rw [show d.pend.length - 1 = L by have := HG.out.2.2; omega] at hlv
            have HLV := Lib.hid hlv
            clear hlv
            by_cases hcond : (wrt d L).1 = (n : Int) ∧ torn = true
            · obtain ⟨hN, rfl⟩ := hcond
              have hNb : ((wrt d L).1 == (n : Int)) = true := by simpa using hN
              have HN := Lib.hid hN
              clear hN
              generalize hyL : wrt d L = y at *
              have HY := Lib.hid hyL
              clear hyL
              obtain ⟨db, doff, rfl⟩ := bs_some HG.out.1
              obtain ⟨sb, soff, rfl⟩ := bs_some HR.out.2.2.2.1
              go_upto_region 18 with fail
              go_cut [14] (fun s14 wx => s14 = .int .i64 (kOf cut : Int) ∧ wx = wr)
              case first =>
                go_wp2_with fail
                all_goals
                  go_meet
                  case rel => exact ⟨by unfold kOf; congr 1; omega, rfl⟩
              case rest =>
                obtain ⟨rfl, rfl⟩ := hcut
                have hK := kOf_le cut
                have HKq := Lib.hid (show kOf cut = kOf cut from rfl)
                generalize kOf cut = K at *
                clear k1 k2 HKq
                obtain ⟨s1, t1⟩ := slice_tail HR.out.2.2.1 hK hc5
                obtain ⟨s2, t2⟩ := slice_tail HR.out.2.2.2.1 hK hc8
                have HT := Lib.hid (And.intro t1 t2)
                have hKi : (K : Int) ≤ 256 := by omega
                have hK5 : (K : Int) ≤ (c5 : Int) := by omega
                have hKd : (K : Int) ≤ (dc : Int) := by omega
                clear t1 t2
                go_upto_region 19 with fail
                go_quiet ((go_at_call 19; exact Calls.quiet_of (same_any (some ⟨g5, 0, none⟩) (some ⟨db, doff, none⟩) K K c5 dc (bb.take K) (y.2.take K) _ (BS.take_ (HR.out.2.2.1.below HDr.out.below) K hK) (BS.take_ (HG.out.1.below HDr.out.below) K hK) (by omega) (by omega))))
                have hcur : Drawn w5 (wc.drewN nq) := drawn_trans HDr.out ⟨nq, rfl⟩
                have HD2 := Lib.hid hcur
                have hq12 := below_drawn hcur _ _ _ HR.out.1.cells.2.1
                obtain ⟨g', cg', v0', e9, cs9, hv9⟩ := HR.out.1.scell (k := n) (by omega)
                simp only [Value.slice.injEq, Option.some.injEq, Addr.mk.injEq, and_true, true_and] at e9
                obtain ⟨rfl, rfl⟩ := e9
                have hv0e : v0' = .slice (some ⟨sb, soff, none⟩) 256 c8 := by
                  have h8 := HV8.out
                  rw [cs9] at h8
                  injection h8
                subst hv0e
                have cs2 := below_drawn hcur _ _ _ cs9
                have q02 := below_drawn hcur _ _ _ HR.out.1.cells.1
                clear hcur cs9 hv9 hq1
                generalize wc.drewN nq = w9 at *
                have hhead : f2 = true ∨ (decide (bb.take K = y.2.take K) = true ∧ ∃ v, Hit d n L v ∧ bb.drop K = v.drop K) := by
                  rcases HLV.out with hh | ⟨_, _, _, h4, h5⟩
                  · left; rw [← HF2.out]; exact F2_hit hh
                  · exact .inr ⟨decide_eq_true h4, h5⟩
                cases hf2 : f2 with
                | true =>
                  subst hf2
                  clear hhead
                  generalize decide (bb.take K = y.2.take K) = hd at *
                  go_upto_region 20 with fail
                  go_quiet (fail)
                  go_wp2_with fail
                  go_loopg [11, 16] L (fun gk s11 s16 wr => ∃ (i : Nat), i ≤ L ∧ gk = L - i ∧ s16 = .int .i64 i ∧ s11 = .bool true ∧ Drawn w5 wr)
                  case atStart => exact ⟨0, by omega, by omega, rfl, rfl, drawn_trans HD2.out ⟨_, rfl⟩⟩
                  case round =>
                    obtain ⟨i, hi, rfl, rfl, rfl, hdr⟩ := hrel
                    have HDq := Lib.hid hdr
                    clear hdr
                    by_cases hlt3 : i < L
                    · go_upto_region 24 with fail
                      go_quiet (fail)
                      go_wp2_with fail
                      go_roundg (L - (i + 1))
                      case measure => omega
                      case rel => exact ⟨i + 1, by omega, rfl, by go_num, rfl, drawn_trans HDq.out ⟨_, rfl⟩⟩
                    · go_wp2_with fail
                      go_roundg (4 - (n + 1))
                      case measure => omega
                      case rel => exact ⟨n + 1, by omega, rfl, by go_num, HR.out.2.2.2.2.grow HDq.out.below⟩
                | false =>
                  rw [hf2] at hhead HF2
                  subst hf2
                  obtain ⟨hdd, v, hv, hvd⟩ : decide (bb.take K = y.2.take K) = true ∧ ∃ v, Hit d n L v ∧ bb.drop K = v.drop K := by
                    rcases hhead with hh | hh
                    · cases hh
                    · exact hh
                  have HV := Lib.hid (F3_hit (f0 := false) hvd hv)
                  rw [hdd]
                  clear hhead hv hvd hdd
                  go_upto_region 20 with fail
                  go_quiet ((go_at_call 19; go_must (exact Calls.quiet_of (same_any (some ⟨g5, cutOff c5 K 0, none⟩) (some ⟨sb, cutOff c8 K soff, none⟩) (256 - K) (256 - K) (c5 - K) (c8 - K) (bb.drop K) ((synZ d n).drop K) _ (HT.out.1.below (Drawn.below (drawn_trans HD2.out ⟨_, rfl⟩))) (HT.out.2.below (Drawn.below (drawn_trans HD2.out ⟨_, rfl⟩))) (by omega) (by omega)))))
                  go_wp2_with fail
                  go_loopg [11, 16] L (fun gk s11 s16 wr => ∃ (i : Nat), i ≤ L ∧ gk = L - i ∧ s16 = .int .i64 i ∧ s11 = .bool (F3 d n bb K false true i) ∧ Drawn w5 wr)
                  case atStart => exact ⟨0, by omega, by omega, rfl, by simp [F3], drawn_trans HD2.out ⟨_, rfl⟩⟩
                  case round =>
                    obtain ⟨i, hi, rfl, rfl, rfl, hdr⟩ := hrel
                    have HDq := Lib.hid hdr
                    by_cases hlt3 : i < L
                    · obtain ⟨gl', cl', vd', e0', x0, x1, hvd'⟩ := HR.out.1.wcell (k := i) (by have := HG.out.2.2; omega)
                      simp only [Value.slice.injEq, Option.some.injEq, Addr.mk.injEq, and_true, true_and] at e0'
                      obtain ⟨rfl, rfl⟩ := e0'
                      obtain ⟨EA, ec, rfl, heb, hec, hecm, _⟩ := hvd'.bytes
                      obtain ⟨eb, eoff, rfl⟩ := bs_some heb
                      have x0i := below_drawn hdr _ _ _ x0
                      have x1i := below_drawn hdr _ _ _ x1
                      have hqi := below_drawn hdr _ _ _ HR.out.1.cells.2.1
                      change wr.cell? _ = some (.int .i64 (wrt d i).1) at x0i
                      change BS w5 (some ⟨eb, eoff, none⟩) 256 (wrt d i).2 at heb
                      obtain ⟨s3, t3⟩ := slice_tail heb hK hec
                      have hF : F3 d n bb K false true (i + 1) = (F3 d n bb K false true i || (true && (wrt d i).1 == (n : Int) && decide (bb.drop K = (wrt d i).2.drop K))) := rfl
                      have hii : (i : Int) < (d.pend.length : Int) := by have := HG.out.2.2; omega
                      generalize F3 d n bb K false true i = f at *
                      generalize wrt d i = yy at *
                      have HF := Lib.hid (And.intro hF t3)
                      unfold maxLen at hecm
                      clear hF t3 heb hvd' x0 x1 hdr
                      cases f with
                      | true =>
                        go_upto_region 24 with fail
                        go_quiet (fail)
                        go_wp2_with fail
                        go_roundg (L - (i + 1))
                        case measure => omega
                        case rel => exact ⟨i + 1, by omega, rfl, by go_num, by rw [HF.out.1]; rfl, drawn_trans HDq.out ⟨_, rfl⟩⟩
                      | false =>
                        by_cases hy : yy.1 = (n : Int)
                        · have hyb : (yy.1 == (n : Int)) = true := by simpa using hy
                          have HYY := Lib.hid hyb
                          clear hy
                          go_upto_region 24 with fail
                          go_quiet ((go_at_call 19; exact Calls.quiet_of (same_any (some ⟨g5, cutOff c5 K 0, none⟩) (some ⟨eb, cutOff ec K eoff, none⟩) (256 - K) (256 - K) (c5 - K) (ec - K) (bb.drop K) (yy.2.drop K) _ (HT.out.1.below (Drawn.below (drawn_trans HDq.out ⟨_, rfl⟩))) (HF.out.2.below (Drawn.below (drawn_trans HDq.out ⟨_, rfl⟩))) (by omega) (by omega))))
                          go_wp2_with fail
                          go_roundg (L - (i + 1))
                          case measure => omega
                          case rel => exact ⟨i + 1, by omega, rfl, by go_num, by rw [HF.out.1, HYY.out]; simp, drawn_trans HDq.out ⟨_, rfl⟩⟩
                        · have hyb : (yy.1 == (n : Int)) = false := by simpa using hy
                          have HYY := Lib.hid hyb
                          clear hy
                          go_upto_region 24 with fail
                          go_quiet (fail)
                          go_wp2_with fail
                          go_roundg (L - (i + 1))
                          case measure => omega
                          case rel => exact ⟨i + 1, by omega, rfl, by go_num, by rw [HF.out.1, HYY.out]; simp, drawn_trans HDq.out ⟨_, rfl⟩⟩
                    · obtain rfl : i = L := by omega
                      rw [HV.out]
                      clear hdr
                      go_wp2_with fail
                      go_roundg (4 - (n + 1))
                      case measure => omega
                      case rel => exact ⟨n + 1, by omega, rfl, by go_num, HR.out.2.2.2.2.grow HDq.out.below⟩
            · have hf2 : f2 = true := by
                rcases HLV.out with hh | ⟨h1, _, h3, _⟩
                · rw [← HF2.out]; exact F2_hit hh
                · exact absurd ⟨h3, h1⟩ hcond
              subst hf2
              by_cases hN : (wrt d L).1 = (n : Int)
              · have hNb : ((wrt d L).1 == (n : Int)) = true := by simpa using hN
                have ht : torn = false := by cases torn with | false => rfl | true => exact absurd ⟨hN, rfl⟩ hcond
                subst ht
                clear hN hcond
                generalize wrt d L = y at *
                go_wp2_with fail
                go_roundg (4 - (n + 1))
                case measure => omega
                case rel => exact ⟨n + 1, by omega, rfl, by go_num, HE.out⟩
              · have hNb : ((wrt d L).1 == (n : Int)) = false := by simpa using hN
                clear hN hcond
                generalize wrt d L = y at *
                go_wp2_with fail
                go_roundg (4 - (n + 1))
                case measure => omega
                case rel => exact ⟨n + 1, by omega, rfl, by go_num, HE.out⟩
          · have hf2 : f2 = true := by
              rcases HS.out.2.2.1 with hh | ⟨_, h2, _⟩
              · rw [← HF2.out]; exact F2_hit hh
              · exact absurd h2 hp
            subst hf2
            have hd1 : decide (0 ≤ (d.pend.length : Int) - 1) = false := by simp; omega
            have hp0 : ¬ (1 ≤ (d.pend.length : Int)) := by omega
            go_wp2_with fail
            go_roundg (4 - (n + 1))
            case measure => omega
            case rel => exact ⟨n + 1, by omega, rfl, by go_num, HE.out⟩
    · obtain rfl : n = 4 := by omega
      have HX := Lib.hid hS.1
      clear hS
      go_wp2_with fail
      refine (awake04_any wr).mono ?_
      rintro e w9 ⟨rfl, hb9⟩
      have H9 := Lib.hid (HX.out.trans (hb9.mono HX.out.size))
      clear hb9 HX
      go_wp2
      go_ret
      exact ⟨rfl, HB.out.2.2.1.trans (H9.out.mono HB.out.2.2.1.size)⟩


set_option maxRecDepth 100000 in
set_option maxHeartbeats 2000000 in
theorem walk (A : Option Addr) (m cap : Nat) (l : List CallD) (AK : Option Addr) (nk ck : Nat) (torn : Bool) (cut : Int) (ks : List Int) (w : World) (hl : CS w A m l) (hmc : m ≤ cap) (hcm : cap ≤ maxLen) (hK : IS w AK nk ks) (hkc : nk ≤ ck) (hkm : ck ≤ maxLen) (hc0 : -9223372036854775808 ≤ cut) (hc1 : cut ≤ 9223372036854775807) :
    Calls Try.prog 8 #[.slice A m cap, .agg #[.slice AK nk ck, .bool torn, .int .i64 cut]] w fun e w' => e = .returned (.bool true) ∧ Below w.heap.size w w' := by
  by_cases hall : longB l = false ∧ nk ≤ 60
  · exact walk_main A m cap l AK nk ck torn cut ks w hl hmc hcm hK hall.1 hall.2
  · unfold maxLen at hcm
    have hb1 : Below w.heap.size w (w.alloc (.cells #[.slice AK nk ck, .bool torn, .int .i64 cut] 52)) := (Below.refl _ _).alloc (Nat.le_refl _) _
    have hq1 : Blk (w.alloc (.cells #[.slice AK nk ck, .bool torn, .int .i64 cut] 52)) w.heap.size 52 #[.slice AK nk ck, .bool torn, .int .i64 cut] := Blk.new w _ _
    have HB := Lib.hid (And.intro (hl.below hb1) (And.intro hb1 hq1))
    clear hl hK hb1 hq1 hkm hc0 hc1
    go_enter Try.func8, Try.ntmps8
    go_wp2_with fail
    generalize w.alloc (.cells #[.slice AK nk ck, .bool torn, .int .i64 cut] 52) = w1 at *
    have k0 := HB.out.2.2.cell 0
    refine (long_any A m cap l w1 HB.out.1 hmc hcm).mono ?_
    rintro e w0 ⟨rfl, hw⟩
    subst hw
    cases hlo : longB l with
    | true =>
      clear hall
      go_wp2_with fail
      refine (awake04_any w1).mono ?_
      rintro e w9 ⟨rfl, hb9⟩
      have H9 := Lib.hid (HB.out.2.1.trans (hb9.mono HB.out.2.1.size))
      clear hb9
      go_wp2
      go_ret
      exact ⟨rfl, H9.out⟩
    | false =>
      have hd60 : decide (60 < (nk : Int)) = true := by
        simp
        rcases Nat.lt_or_ge 60 nk with h | h
        · omega
        · exact absurd ⟨hlo, h⟩ hall
      clear hall
      go_wp2_with fail
      refine (awake04_any w1).mono ?_
      rintro e w9 ⟨rfl, hb9⟩
      have H9 := Lib.hid (HB.out.2.1.trans (hb9.mono HB.out.2.1.size))
      clear hb9
      go_wp2
      go_ret
      exact ⟨rfl, H9.out⟩

theorem own : ownKnob Try.prog.godebug = none := by kernel_rfl
theorem laidOut : laidOutB Try.prog = true := by kernel_rfl
theorem params_ok : ∀ t ∈ Try.f8.params.toList, Try.prog.readableRec t = true ∧ t < Try.prog.types.size := by
  rw [Try.params8]
  intro t ht
  have ht' : t = 49 ∨ t = 52 := by
    simpa using ht
  rcases ht' with rfl | rfl
  · exact ⟨(show Try.prog.readableRec 49 = true by kernel_rfl), of_decide_eq_true (show decide (49 < Try.prog.types.size) = true by kernel_rfl)⟩
  · exact ⟨(show Try.prog.readableRec 52 = true by kernel_rfl), of_decide_eq_true (show decide (52 < Try.prog.types.size) = true by kernel_rfl)⟩

set_option maxRecDepth 100000 in
theorem contract (H : Type) (enc : TypeId × Value → H) (W : World) (base : Nat) (args : Array Value) (ds gs : List (DataW H)) (before : List MemPlace)
    (hval : ∀ (j : Nat) t v, Try.f8.params[j]? = some t → args[j]? = some v → Value.okWide Try.prog W .any base t v)
    (hW : DataW.Whole enc Try.prog Try.f8.params.toList Rows.diskLeavesSpec.vars false W args.toList ds gs before) :
    Calls Try.prog 8 args W fun e W' => ∃ v, e = .returned v ∧ Rows.diskLeavesSpec.post enc Try.prog Try.f8 false true false false W args v W' := by
  have hW' := hW
  obtain ⟨p, q, hA0, hV, rfl, hfz, hnd⟩ := hW
  have hA : DataW.TrodAll enc Try.prog W 0 (fun _ => true) true Try.f8.params.toList args.toList ds p := hA0
  rw [Try.params8] at hA hval
  obtain ⟨v0, vs0, d0, ds0, p0, q0, hargs, rfl, rfl, h0, r0⟩ := trodAll_cons hA
  obtain ⟨v1, vs1, d1, ds1, p1, q1, rfl, rfl, rfl, h1, r1⟩ := trodAll_cons r0
  obtain ⟨rfl, rfl, rfl⟩ := trodAll_nil r1
  obtain rfl : args = #[v0, v1] := by cases args; simp_all
  obtain ⟨rfl, rfl⟩ := trodVars_none hV
  obtain ⟨A0, n0, c0, l0, rfl, lh0, nc0, cm0⟩ := open_calls (hval 0 49 v0 rfl rfl) h0
  obtain ⟨A1, n1, c1, tn1, ct1, ks1, rfl, ksh1, nc1, cm1, cb1⟩ := open_crash (hval 1 52 v1 rfl rfl) h1
  refine (walk A0 n0 c0 l0 A1 n1 c1 tn1 ct1 ks1 W lh0 nc0 cm0 ksh1 nc1 cm1 cb1.1 cb1.2).mono fun e W' ⟨he, bel⟩ => ?_
  exact ⟨_, he, post_true laidOut Try.underlying4 (show Try.f8.resultTypes = #[4] from rfl) params_ok rfl hW' rfl bel⟩

theorem laid_met (os : Os) : laidMet Try.prog Rows.diskLeavesRow.laid ((World.holding Try.prog os ⟨#[], #[], []⟩).forCall (fun _ _ => 0) ⟨#[], #[.slice none 0 0, .agg #[.slice none 0 0, .bool false, .int .i64 0]], []⟩).memory :=
  laidMet_of_run' 8 (by kernel_rfl) (by kernel_rfl)
theorem reads (os : Os) {H : Type} (enc : TypeId × Value → H) : ∃ places, DataW.whole enc Try.prog ((World.holding Try.prog os ⟨#[], #[], []⟩).forCall (fun _ _ => 0) ⟨#[], #[.slice none 0 0, .agg #[.slice none 0 0, .bool false, .int .i64 0]], []⟩).memory Try.f8.params.toList Rows.diskLeavesSpec.vars false (#[Value.slice none 0 0, Value.agg #[.slice none 0 0, .bool false, .int .i64 0]] : Array Value).toList 8 = some ([.nil, .agg [.nil, .lit (.bool false), .lit (.int .i64 0)]], [], places) :=
  ⟨[], by kernel_rfl⟩
set_option maxRecDepth 100000 in
theorem lifted (os : Os) (started : os.Started) (H : Type) (enc : TypeId × Value → H) (F : Stop.Interp) :
    ReturnsInHanded {} Try.checked os 8 .any ((OpenSpec.ofChange Rows.diskLeavesSpec).preRow enc Try.prog Try.f8 Rows.diskLeavesRow.domain false Rows.diskLeavesRow.laid) (((OpenSpec.ofChange Rows.diskLeavesSpec).at F).post enc Try.prog Try.f8 false true false false) := by
  obtain ⟨places, hx⟩ := reads os enc
  refine returnsInHanded_of_row (C := Try.checked) (s := OpenSpec.ofChange Rows.diskLeavesSpec) own started (by kernel_rfl) Try.func8
    (witness_row_at (enc := enc) (C := Try.checked) false (World.holding Try.prog os ⟨#[], #[], []⟩) #[.slice none 0 0, .agg #[.slice none 0 0, .bool false, .int .i64 0]] rfl (by kernel_rfl) (by kernel_rfl) (by kernel_rfl)
      (OpenSpec.preRow_of_cond 8 hx (by kernel_rfl) (fun k hk => by cases hk) (by kernel_rfl) (laid_met os))) ?_
  intro W base args ds gs before hval hW _ _ hsz hL _ _
  exact contract H enc W base args ds gs before hval hW
theorem said : Rows.DiskLeavesSaid :=
  OpenClaim.holds_of_cond 8 Try.f8 rfl rfl rfl rfl rfl rfl rfl ⟨rfl, rfl, rfl, rfl, rfl⟩ rfl rfl rfl rfl rfl (by kernel_rfl) Try.func8 (by kernel_rfl)
    (of_decide_eq_true (by kernel_rfl)) (by unfold Func.isWrapper; first | (rw [if_pos (by decide +kernel)]; kernel_rfl) | (rw [if_neg (by decide +kernel)]; exact ⟨rfl, rfl⟩))
    (fun os started H enc _ F => by rw [OpenClaim.pre_eq_preRow]; exact lifted os started H enc F)
#print axioms said
end Go.Proofs.Ytaooimhodoefoaa.diskLeaves
