/- Sheets are laid, as the document says. -/
import Derived.Test.YtlpdjpkdgagjpaaDoorSheetSmall
import Derived.Test.YtlpdjpkdgagjpaaDoorSealRefs
namespace Go.Proofs.YtlpdjpkdgagjpaaDoor
open Go.RowKit Mem Lift
set_option linter.unusedVariables false
set_option linter.unusedSimpArgs false
set_option maxRecDepth 100000

/-- a number that is laid -/
def natK : Kind_ Nat where
  zero := 0
  k := 1
  cells := fun x => [.int .i64 (x : Int)]
  ok := fun _ _ => True
  keep := fun _ _ => trivial
theorem natK_len : ∀ x, (natK.cells x).length = natK.k := fun _ => rfl
theorem natK_one : ∀ x, ∀ u ∈ natK.cells x, u.oneCell' = true := by
  intro x u hu
  simp only [natK, List.mem_singleton] at hu
  subst hu
  rfl
theorem rinfoI : (Tryd.prog.info? 3).map (fun i => (i.zero, i.size, i.bytes)) = some (some (.int .i64 0), 1, 8) := by kernel_rfl
theorem nat_at {w : World} {A : Option Addr} {n : Nat} {l : List Nat} (h : ST natK w A n l) {i : Nat} (hi : i < n) : ∃ b off, A = some ⟨b, off, none⟩ ∧ b < w.heap.size ∧ w.cell? ⟨b, off + i, none⟩ = some (.int .i64 (l.getD i 0 : Nat)) := by
  obtain ⟨b, off, e, hb, hc, _⟩ := h.at_ hi
  have hc0 := hc 0 (by decide)
  rw [show off + i * natK.k + 0 = off + i by simp [natK]] at hc0
  exact ⟨b, off, e, hb, hc0⟩
theorem st_nat {w : World} {g x : Nat} (h : Blk w g 3 #[.int .i64 (x : Int)]) : ST natK w (some ⟨g, 0, none⟩) 1 [x] := by
  refine ⟨rfl, fun y hy => trivial, fun _ => ⟨g, 0, rfl, h.lt, fun i hi j hj => ?_⟩⟩
  obtain rfl : i = 0 := by simpa using hi
  rw [Nat.zero_add, Nat.zero_mul, Nat.zero_add, h.cell j]
  simp [natK]
theorem firstAt_drop (ss : List Nat) (j a : Nat) (h : j < ss.length) : Sh.firstAt (ss.drop j) a = if a ≤ ss.getD j 0 ∧ ss.getD j 0 < a + 242 then ((ss.getD j 0 - a : Nat) : Int) else Sh.firstAt (ss.drop (j + 1)) a := by
  rw [List.drop_eq_getElem_cons h, Sh.firstAt_cons, List.getD_eq_getElem?_getD, List.getElem?_eq_getElem h]
  rfl
/-- behind k bodies -/
structure RefA (w0 : World) (bs : List (List UInt8)) (k : Nat) (A : Option Addr) (c : Nat) (S : Option Addr) (d : Nat) (w : World) : Prop where
  row : w.ownsRow w0.heap.size 5 1 (.slice A (Sh.flat (bs.take k)).length c) (Sh.flat (bs.take k)).length (u8s (Sh.flat (bs.take k)))
  st : w.ownsRow w0.heap.size 3 1 (.slice S k d) k (rowOf natK (Sh.starts (bs.take k) 0))
  below : Below w0.heap.size w0 w
theorem own_other {w w' : World} {base base' n m size size' : Nat} {e e' : TypeId} {v v' : Value} {xs xs' : List Value} (h : w.ownsRow base e size v n xs) (ho : w.ownsRow base' e' size' v' m xs') (he : e' ≠ e) (hg : w.grownBy w' v'.ownBlock) : w'.ownsRow base e size v n xs := by
  refine own_keep h (fun k hk => hg.block k (own_lt h hk) (fun e2 => ?_))
  obtain ⟨cur, hc⟩ := own_block h hk
  obtain ⟨cur2, hc2⟩ := own_block ho e2.symm
  rw [hc] at hc2
  injection hc2 with hc2
  injection hc2 with _ hc2
  exact he hc2.symm
theorem starts_len (bs : List (List UInt8)) : ∀ t, (Sh.starts bs t).length = bs.length := by
  induction bs with
  | nil => intro t; rfl
  | cons b bs ih => intro t; rw [Sh.starts, List.length_cons, ih, List.length_cons]
theorem starts_lt (bs : List (List UInt8)) : ∀ t, ∀ s ∈ Sh.starts bs t, s < t + (Sh.flat bs).length := by
  induction bs with
  | nil => intro t s hs; cases hs
  | cons b bs ih =>
    intro t s hs
    have hp := Sh.seal_pos b
    rw [Sh.flat_cons, List.length_append]
    rw [Sh.starts, List.mem_cons] at hs
    rcases hs with rfl | hs
    · omega
    · have := ih _ _ hs; omega
/-- behind the start, and the bytes, of one more body: the start is appended first -/
theorem RefA.start {w0 w w2 w3 : World} {bs : List (List UInt8)} {k : Nat} {A : Option Addr} {c : Nat} {S : Option Addr} {d : Nat} (h : RefA w0 bs k A c S d w) (hb2 : Below w.heap.size w w2) {s : Nat} {S' : Option Addr} {d' : Nat}
    (hown : w3.ownsRow w0.heap.size 3 1 (.slice S' (k + 1) d') (k + 1) (rowOf natK (Sh.starts (bs.take k) 0) ++ rowOf natK [s])) (hg : (w2.alloc (.cells #[.int .i64 (s : Int)] 3)).grownBy w3 (Value.slice S k d).ownBlock) :
    w3.ownsRow w0.heap.size 3 1 (.slice S' (k + 1) d') (k + 1) (rowOf natK (Sh.starts (bs.take k) 0 ++ [s])) ∧ w3.ownsRow w0.heap.size 5 1 (.slice A (Sh.flat (bs.take k)).length c) (Sh.flat (bs.take k)).length (u8s (Sh.flat (bs.take k))) ∧ Below w0.heap.size w0 w3 ∧ (∀ A2 n2 c2 b2, RS w2 A2 n2 c2 b2 → RS w3 A2 n2 c2 b2) := by
  have hb3 : Below w2.heap.size w2 (w2.alloc (.cells #[.int .i64 (s : Int)] 3)) := (Below.refl _ _).alloc (Nat.le_refl _) _
  have hst := own_below (own_below h.st hb2) hb3
  have hrow := own_below (own_below h.row hb2) hb3
  have hbb := (h.below.trans (hb2.mono h.below.size))
  have hbb3 := hbb.trans (hb3.mono hbb.size)
  exact ⟨by rw [rowOf_append]; exact hown, own_other hrow hst (by decide) hg, hbb3.grown hg hbb3.size (fun j hj => own_ge hst hj), fun A2 n2 c2 b2 h2 => (h2.below hb3).other hst (by decide) hg⟩
theorem RefA.next {w0 w3 w4 : World} {bs : List (List UInt8)} {k : Nat} {A : Option Addr} {c : Nat} {fk sb : List UInt8} {S' : Option Addr} {d' s : Nat} (hst : w3.ownsRow w0.heap.size 3 1 (.slice S' (k + 1) d') (k + 1) (rowOf natK (Sh.starts (bs.take k) 0 ++ [s]))) (hrow : w3.ownsRow w0.heap.size 5 1 (.slice A fk.length c) fk.length (u8s fk)) (hb : Below w0.heap.size w0 w3)
    (hfe : Sh.flat (bs.take (k + 1)) = fk ++ sb) (hse : Sh.starts (bs.take (k + 1)) 0 = Sh.starts (bs.take k) 0 ++ [s]) {A' : Option Addr} {c' : Nat} (hown : w4.ownsRow w0.heap.size 5 1 (.slice A' (fk.length + sb.length) c') (fk.length + sb.length) (u8s fk ++ u8s sb)) (hg : w3.grownBy w4 (Value.slice A fk.length c).ownBlock) : RefA w0 bs (k + 1) A' c' S' d' w4 := by
  refine ⟨?_, ?_, hb.grown hg hb.size (fun j hj => own_ge hrow hj)⟩
  · rw [hfe, List.length_append, u8s_append]; exact hown
  · rw [hse]; exact own_other hst hrow (by decide) hg
/-- behind p sheets -/
structure RefB (w0 : World) (inc pos : Int) (bs : List (List UInt8)) (p L : Nat) (A : Option Addr) (c : Nat) (S : Option Addr) (m d : Nat) (B : Option Addr) (f : Nat) (w : World) : Prop where
  all : RS w A L c (Sh.flat bs)
  st : w.ownsRow w0.heap.size 3 1 (.slice S m d) m (rowOf natK (Sh.starts bs 0))
  row : w.ownsRow w0.heap.size 47 4 (.slice B p f) p (rowOf sheetK (Sh.laid inc pos bs p))
  below : Below w0.heap.size w0 w
theorem RefB.next {w0 wr w7 : World} {inc pos : Int} {bs : List (List UInt8)} {p L : Nat} {A : Option Addr} {c : Nat} {S : Option Addr} {m d : Nat} {B : Option Addr} {f : Nat} (h : RefB w0 inc pos bs p L A c S m d B f wr) {X : Array Value} {B' : Option Addr} {f' : Nat} {sd : Sh.Sd}
    (hls : Sh.laid inc pos bs (p + 1) = Sh.laid inc pos bs p ++ [sd]) (hown : w7.ownsRow w0.heap.size 47 4 (.slice B' (p + 1) f') (p + 1) (rowOf sheetK (Sh.laid inc pos bs p) ++ rowOf sheetK [sd]))
    (hg : ((wr.alloc (.cells X 47)).alloc (.cells X 47)).grownBy w7 (Value.slice B p f).ownBlock) : RefB w0 inc pos bs (p + 1) L A c S m d B' f' w7 := by
  have hb2 : Below wr.heap.size wr ((wr.alloc (.cells X 47)).alloc (.cells X 47)) := ((Below.refl _ _).alloc (Nat.le_refl _) _).alloc (by simp) _
  have hrow := own_below h.row hb2
  have hbb := h.below.trans (hb2.mono h.below.size)
  exact ⟨(h.all.below hb2).other hrow (by decide) hg, own_other (own_below h.st hb2) hrow (by decide) hg, by rw [hls, rowOf_append]; exact hown, hbb.grown hg hbb.size (fun j hj => own_ge hrow hj)⟩
set_option maxHeartbeats 16000000 in
theorem rlay_any (inc pos : Int) (A : Option Addr) (n c : Nat) (ls : List Bd) (bs : List (List UInt8)) (w : World) (hbs : bs = bodiesOf ls) (hl : ST bodyK w A n ls) (hn : n ≤ 100000) (hf : (Sh.flat bs).length ≤ 700000)
    (hi : -9223372036854775808 ≤ inc ∧ inc ≤ 9223372036854775807) (hp : -9223372036854775808 ≤ pos ∧ pos ≤ 9223372036854775807) :
    Calls Tryd.prog 19 #[.int .i64 inc, .int .i64 pos, .slice A n c] w (LayP w (Sh.layR inc pos bs)) := by
  cases hbad : Sh.badPos inc pos with
  | true =>
    rw [Sh.layR_bad hbad]
    have hways : decide (inc < 0) = true ∨ decide (inc < 0) = false ∧ (decide (1099511627776 ≤ inc) = true ∨ decide (1099511627776 ≤ inc) = false ∧ (decide (pos < 0) = true ∨ decide (pos < 0) = false ∧ decide (1099511627776 ≤ pos) = true)) := by
      unfold Sh.badPos at hbad
      simp only [Bool.or_eq_true, decide_eq_true_eq] at hbad
      simp only [decide_eq_true_eq, decide_eq_false_iff_not]
      omega
    clear hbad hl hf hi hp
    rcases hways with g | ⟨g, g1 | ⟨g1, g2 | ⟨g2, g3⟩⟩⟩
    all_goals
      go_enter Tryd.func19, Tryd.ntmps19
      go_wp2_with fail
      go_ret2
      exact layP_nil 1 (Below.refl _ _)
  | false =>
    obtain ⟨i0, i1, p0, p1⟩ : 0 ≤ inc ∧ inc < 1099511627776 ∧ 0 ≤ pos ∧ pos < 1099511627776 := by
      unfold Sh.badPos at hbad
      simp only [Bool.or_eq_false_iff, decide_eq_false_iff_not] at hbad
      omega
    have hR := Sh.layR_long (bs := bs) hbad
    have hR2 := Sh.layR_full (bs := bs) hbad
    have hR3 := Sh.layR_ok (bs := bs) hbad
    generalize Sh.layR inc pos bs = R at *
    have hbl : bs.length = n := by rw [hbs, bodiesOf_length, hl.len]
    have H := Lib.hid (And.intro hl (And.intro hbs (And.intro hf (And.intro trivial (And.intro hbl (And.intro hR (And.intro hR2 hR3)))))))
    clear hl hbs hf hbl hR hR2 hR3 hbad hi hp
    obtain ⟨iS, hj0, hj1, hj2, hj3⟩ := info_parts finfoSheet
    have HJ := Lib.hid (And.intro hj0 (And.intro hj1 (And.intro hj2 hj3)))
    clear hj0 hj1 hj2 hj3
    obtain ⟨iI, hj0, hj1, hj2, hj3⟩ := info_parts rinfoI
    have HN := Lib.hid (And.intro hj0 (And.intro hj1 (And.intro hj2 hj3)))
    clear hj0 hj1 hj2 hj3
    obtain ⟨i8, hi8, hz0, hz1, hz2⟩ := info_parts ninfo8
    have HI := Lib.hid (And.intro hi8 (And.intro hz0 (And.intro hz1 hz2)))
    clear hi8 hz0 hz1 hz2
    go_enter Tryd.func19, Tryd.ntmps19
    go_wp2_with fail
    go_loopw [8, 9, 10] (fun s8 s9 s10 wr => ∃ (k : Nat) (A8 : Option Addr) (c8 : Nat) (S : Option Addr) (d : Nat), k ≤ n ∧ s10 = .int .i64 k ∧ s8 = .slice A8 (Sh.flat (bs.take k)).length c8 ∧ s9 = .slice S k d ∧ RefA w bs k A8 c8 S d wr ∧ Sh.long (bs.take k) = false) (fun _ _ s10 _ => n - (intOf s10).toNat)
    case atStart => exact ⟨0, none, 0, none, 0, by omega, rfl, rfl, rfl, ⟨own_nilK _, own_nilK _, Below.refl _ _⟩, rfl⟩
    case round =>
      obtain ⟨k, A8, c8, S, d, hk, rfl, rfl, rfl, hL, hlg⟩ := hrel
      by_cases hlt : k < n
      · have hkn : (k : Int) < (n : Int) := by omega
        obtain ⟨b, off, x, rfl, hbl, c0, hx, hxc, hxm, _, hget, htk⟩ := body_at (H.out.1.below hL.below) hlt
        rw [← H.out.2.1] at hget htk
        have hfk : (Sh.flat (bs.take (k + 1))).length ≤ 700000 := by
          have h1 := H.out.2.2.1
          have h2 : Sh.flat bs = Sh.flat (bs.take (k + 1)) ++ Sh.flat (bs.drop (k + 1)) := by rw [← Sh.flat_append, List.take_append_drop]
          rw [h2, List.length_append] at h1
          omega
        have hfe : Sh.flat (bs.take (k + 1)) = Sh.flat (bs.take k) ++ Sl.sealB x.b := by rw [htk, Sh.flat_append, Sh.flat_cons, Sh.flat_nil, List.append_nil]
        have hse : Sh.starts (bs.take (k + 1)) 0 = Sh.starts (bs.take k) 0 ++ [(Sh.flat (bs.take k)).length] := by
          rw [htk, Sh.starts_append, Nat.zero_add]
          rfl
        have hlo : Sh.long (bs.take (k + 1)) = decide (4096 < x.b.length) := by rw [htk, Sh.long_append, hlg, Sh.long_cons]; simp [Sh.long]
        have hlm : 4096 < x.b.length → Sh.long bs = true := fun h => by
          refine Sh.long_true (b := x.b) ?_ h
          have : x.b ∈ bs.take (k + 1) := by rw [htk]; simp
          exact List.mem_of_mem_take this
        have hxl := hx.1
        have hxk : x.n ≤ 700000 := by
          have h1 := Sl.sealB_length x.b
          have h2 := Sl.textB_length x.b
          rw [hfe, List.length_append] at hfk
          omega
        have hseal := refSeal_any x.A x.n x.c x.b wr hx (by omega)
        obtain ⟨xA, xn, xc, xb⟩ := x
        simp only at *
        obtain ⟨fk, hfk0⟩ : ∃ fk, fk = Sh.flat (bs.take k) := ⟨_, rfl⟩
        rw [← hfk0] at hfe hse ⊢
        have hfk7 : fk.length ≤ 700000 := by rw [hfe, List.length_append] at hfk; omega
        have hsl6 : fk.length + (Sl.sealB xb).length ≤ 700000 := by rw [hfe, List.length_append] at hfk; exact hfk
        have HX := Lib.hid (And.intro hfe (And.intro hse (And.intro hlo (And.intro hlm (And.intro hxl (And.intro hL (And.intro hfk hfk0)))))))
        have HSE := Lib.hid hseal
        clear hfe hse hlo hlm hxl hL hseal hget htk hlg hx hfk hfk0
        by_cases h4 : 4096 < xn
        · have hse : Sl.sealE xb = ([], 12) := by unfold Sl.sealE; rw [if_pos (by rw [HX.out.2.2.2.2.1]; exact h4)]
          have hr := H.out.2.2.2.2.2.1 (HX.out.2.2.2.1 (by rw [HX.out.2.2.2.2.1]; exact h4))
          have hs := HSE.out
          rw [hse] at hs
          have HSE2 := Lib.hid hs
          have HR := Lib.hid hr
          clear hse hr hs
          go_wp2_with fail
          refine HSE2.out.mono ?_
          rintro e w2 ⟨v, rfl, _, hb2⟩
          have HB := Lib.hid (below_of HX.out.2.2.2.2.2.1.below HX.out.2.2.2.2.2.1.below.size hb2)
          clear hb2
          go_wp2_with fail
          go_ret2
          rw [HR.out]
          exact layP_nil 12 HB.out
        · have hse : Sl.sealE xb = (Sl.sealB xb, 0) := by unfold Sl.sealE; rw [if_neg (by rw [HX.out.2.2.2.2.1]; exact h4)]
          have hs := HSE.out
          rw [hse] at hs
          have HSE2 := Lib.hid hs
          clear hse hs
          go_wp2_with fail
          refine HSE2.out.mono ?_
          rintro e w2 ⟨v, rfl, ho2, hb2⟩
          obtain ⟨A2, c2, rfl⟩ := own_slice ho2
          have hst2 := own_below (own_below HX.out.2.2.2.2.2.1.st hb2) ((Below.refl _ _).alloc (Nat.le_refl _) (.cells #[.int .i64 (fk.length : Int)] 3))
          have hsn : ST natK (w2.alloc (.cells #[.int .i64 (fk.length : Int)] 3)) (some ⟨w2.heap.size, 0, none⟩) 1 [fk.length] := st_nat (Blk.new _ _ _)
          have hbs2 := below_of HX.out.2.2.2.2.2.1.below HX.out.2.2.2.2.2.1.below.size hb2
          have HB := Lib.hid (And.intro ho2 (And.intro hb2 (And.intro hst2 (And.intro hsn hbs2.size))))
          clear ho2 hb2 hst2 hsn hbs2
          simp only
          go_wp2_with (first
            | (at_builtin; refine wpList_append_st _ natK_len (by decide) natK_one rfl (.tmp 47) (.tmp 50) 58 rfl w.heap.size 3 iI (.int .i64 0) 8 Tryd.underlying58 HN.out.1 HN.out.2.1 HN.out.2.2.1 HN.out.2.2.2 rfl (by omega) (.slice S k d) k (rowOf natK (Sh.starts (bs.take k) 0)) rfl HB.out.2.2.1 (some ⟨w2.heap.size, 0, none⟩) 1 1 [fk.length] rfl HB.out.2.2.2.1 (by omega) (by have := HB.out.2.2.2.2; simp; omega) ?_; intro S7 d7 w7 hown7 hg7 _; have hs7 := RefA.start HX.out.2.2.2.2.2.1 HB.out.2.1 hown7 hg7; rw [← HX.out.2.2.2.2.2.2.2] at hs7; have H7 := Lib.hid (And.intro hs7 (hs7.2.2.2 _ _ _ _ (RS.of_own HB.out.1))); clear hown7 hg7 hs7)
            | (at_builtin; refine wpList_append_bs _ rfl (.tmp 52) (.tmp 53) 38 rfl w.heap.size 5 i8 Tryd.underlying38 HI.out.1 HI.out.2.1 HI.out.2.2.1 HI.out.2.2.2 (.slice A8 fk.length c8) fk.length (u8s fk) rfl H7.out.1.2.1 A2 (Sl.sealB xb).length c2 (Sl.sealB xb) rfl H7.out.2.1 (by omega) H7.out.1.2.2.1.size ?_; intro v1 w4 hown1 hg1 hat1; obtain ⟨A4, c4, rfl⟩ := own_slice hown1; have H4 := Lib.hid (RefA.next H7.out.1.1 H7.out.1.2.1 H7.out.1.2.2.1 HX.out.1 HX.out.2.1 hown1 hg1); clear hown1 hg1 hat1))
          go_roundw
          case rel => exact ⟨k + 1, A4, c4, S7, d7, by omega, by go_num, by rw [HX.out.1, List.length_append], rfl, H4.out, by rw [HX.out.2.2.1, decide_eq_false_iff_not, HX.out.2.2.2.2.1]; exact h4⟩
          case measure => simp [intOf] <;> omega
      · obtain rfl : k = n := by omega
        have htk : bs.take k = bs := List.take_of_length_le (by rw [H.out.2.2.2.2.1]; exact Nat.le_refl _)
        have hrow0 := hL.row
        have hst0 := hL.st
        have hbel0 := hL.below
        clear hL
        rw [htk] at hrow0 hst0 hlg ⊢
        obtain ⟨L, hLe⟩ : ∃ L, L = (Sh.flat bs).length := ⟨_, rfl⟩
        have hB0 : RefB w inc pos bs 0 L A8 c8 S k d none 0 wr := ⟨by rw [hLe]; exact RS.of_own hrow0, hst0, own_nilK _, hbel0⟩
        rw [← hLe]
        have HL := Lib.hid (And.intro hLe (And.intro hB0 hlg))
        have hL7 : L ≤ 700000 := by rw [hLe]; exact H.out.2.2.1
        clear hrow0 hst0 hbel0 hlg hLe hB0 htk
        go_wp2_with fail
        go_loopw [13, 14] (fun s13 s14 wr => ∃ (p a : Nat) (B : Option Addr) (f : Nat), s14 = .int .i64 a ∧ s13 = .slice B p f ∧ a = 242 * p ∧ p ≤ Sh.count bs ∧ pos + (p : Int) ≤ 1099511627776 ∧ RefB w inc pos bs p L A8 c8 S k d B f wr) (fun s13 _ _ => Sh.count bs - sliceLen s13)
        case atStart => exact ⟨0, 0, none, 0, rfl, rfl, rfl, by omega, by omega, HL.out.2.1⟩
        case round =>
          obtain ⟨p, a, B, f, rfl, rfl, hap, hpc, hpp, hB⟩ := hrel
          by_cases hlt : p < Sh.count bs
          · have haL : a < L := by
              have h1 := Sh.count_more.1 hlt
              have := HL.out.1
              omega
            have hp7 : p ≤ 100000 := by omega
            by_cases hm : a + 242 ≤ L
            · have hcut : ∀ W, (Instr.slice 38 (.slice A8 L c8) (some (.int .i64 (a : Int))) (some (.int .i64 ((a : Int) + 242))) none).run Tryd.prog W = .ok (.slice (subA A8 c8 a) (242) (c8 - a)) W := fun W => by
                have h := cut_lh A8 L c8 a (a + 242) (a : Int) ((a : Int) + 242) rfl (by omega) (by omega) (by have := hB.all.2.1; omega) W
                rwa [show a + 242 - a = 242 by omega] at h
              have hbm := subA_bs hB.all.1 c8 a (a + 242) (by omega) (by omega) hB.all.2.1
              rw [show a + 242 - a = 242 by omega] at hbm
              have hdm : ((Sh.flat bs).drop a).take (242) = ((Sh.flat bs).drop (242 * p)).take 242 := by
                have hLo := HL.out.1
                first
                | (rw [← hap, List.take_eq_take_iff, List.length_drop]; omega)
                | (rw [← hap])
              rw [hdm] at hbm
              obtain ⟨dt, hdt⟩ : ∃ dt, dt = ((Sh.flat bs).drop (242 * p)).take 242 := ⟨_, rfl⟩
              have hdl : dt.length ≤ 242 := by rw [hdt, List.length_take]; omega
              rw [← hdt] at hbm
              have hcv0 := conv_bytes0 hbm (c8 - a) wr (fun _ => rfl)
              unfold str at hcv0
              have hls := Sh.laid_succ inc pos bs p
              rw [← hdt, ← hap] at hls
              have hss : (Sh.starts bs 0).length = k := by rw [starts_len, H.out.2.2.2.2.1]
              have hfull : 1099511627776 ≤ pos + (p : Int) → R = ([], 162) := fun h => H.out.2.2.2.2.2.2.1 HL.out.2.2 (by unfold Sh.fullAt; rw [decide_eq_true_eq]; omega)
              have HB := Lib.hid (And.intro hB (And.intro hls (And.intro hss (And.intro hfull hap))))
              clear hB hbm hdm hdt hls hss hfull hap
              go_wp2_with fail
              go_loopw [16] (fun s16 wx => ∃ j : Nat, j ≤ k ∧ s16 = .int .i64 ((j : Int) - 1) ∧ wx = wr.alloc (.cells #[.int .i64 inc, .int .i64 (pos + (p : Int)), .int .i64 (Sh.firstAt ((Sh.starts bs 0).drop j) a), .string ⟨dt.toArray⟩] 47)) (fun s16 _ => (intOf s16 + 1).toNat)
              case atStart => exact ⟨k, by omega, rfl, by rw [List.drop_of_length_le (by rw [HB.out.2.2.1]; exact Nat.le_refl _)]; rfl⟩
              case round =>
                obtain ⟨j, hjk, rfl, rfl⟩ := hrel
                cases j with
                | zero =>
                  rw [List.drop_zero]
                  obtain ⟨fa, hfa⟩ : ∃ fa, Sh.firstAt (Sh.starts bs 0) a = fa := ⟨_, rfl⟩
                  rw [hfa]
                  have hls := HB.out.2.1
                  rw [hfa] at hls
                  have HLS := Lib.hid hls
                  have hbx : Below wr.heap.size wr (wr.alloc (.cells #[.int .i64 inc, .int .i64 (pos + (p : Int)), .int .i64 fa, .string ⟨dt.toArray⟩] 47)) := (Below.refl _ _).alloc (Nat.le_refl _) _
                  have hbb := HB.out.1.below.trans (hbx.mono HB.out.1.below.size)
                  clear hls hfa
                  by_cases hover : 1099511627776 ≤ pos + (p : Int)
                  · have HR := Lib.hid (And.intro (HB.out.2.2.2.1 hover) hbb)
                    clear hbx hbb
                    go_wp2_with fail
                    go_ret2
                    rw [HR.out.1]
                    exact layP_nil 162 HR.out.2
                  · have hst6 : ST sheetK ((wr.alloc (.cells #[.int .i64 inc, .int .i64 (pos + (p : Int)), .int .i64 fa, .string ⟨dt.toArray⟩] 47)).alloc (.cells #[.int .i64 inc, .int .i64 (pos + (p : Int)), .int .i64 fa, .string ⟨dt.toArray⟩] 47)) (some ⟨wr.heap.size + 1, 0, none⟩) 1 [⟨inc, pos + (p : Int), fa, dt⟩] := by
                      refine st_one ?_ hdl
                      have := Blk.new (wr.alloc (.cells #[.int .i64 inc, .int .i64 (pos + (p : Int)), .int .i64 fa, .string ⟨dt.toArray⟩] 47)) 47 #[.int .i64 inc, .int .i64 (pos + (p : Int)), .int .i64 fa, .string ⟨dt.toArray⟩]
                      rwa [show (wr.alloc (.cells #[.int .i64 inc, .int .i64 (pos + (p : Int)), .int .i64 fa, .string ⟨dt.toArray⟩] 47)).heap.size = wr.heap.size + 1 by simp] at this
                    have hrow6 : ((wr.alloc (.cells #[.int .i64 inc, .int .i64 (pos + (p : Int)), .int .i64 fa, .string ⟨dt.toArray⟩] 47)).alloc (.cells #[.int .i64 inc, .int .i64 (pos + (p : Int)), .int .i64 fa, .string ⟨dt.toArray⟩] 47)).ownsRow w.heap.size 47 4 (.slice B p f) p (rowOf sheetK (Sh.laid inc pos bs p)) := own_below HB.out.1.row (((Below.refl _ _).alloc (Nat.le_refl _) _).alloc (by simp) _)
                    have HST := Lib.hid (And.intro hst6 hrow6)
                    clear hst6 hrow6 hbx hbb
                    go_wp2_with (at_builtin; refine wpList_append_st _ sheetK_len (by decide) sheetK_one rfl (.tmp 108) (.tmp 110) 32 rfl w.heap.size 47 iS (.agg #[.int .i64 0, .int .i64 0, .int .i64 0, .string ⟨#[]⟩]) 40 Tryd.underlying32 HJ.out.1 HJ.out.2.1 HJ.out.2.2.1 HJ.out.2.2.2 rfl (by omega) (.slice B p f) p (rowOf sheetK (Sh.laid inc pos bs p)) rfl HST.out.2 (some ⟨wr.heap.size + 1, 0, none⟩) 1 1 [⟨inc, pos + (p : Int), fa, dt⟩] rfl HST.out.1 (by omega) (by have := HB.out.1.below.size; simp; omega) ?_; intro B7 d7 w7 hown7 hg7 _; have H7 := Lib.hid (RefB.next HB.out.1 HLS.out hown7 hg7); clear hown7 hg7)
                    go_roundw
                    case rel => exact ⟨p + 1, a + 242, B7, d7, by go_num, rfl, by have := HB.out.2.2.2.2; omega, by omega, by omega, H7.out⟩
                    case measure => simp [sliceLen]; omega
                | succ j =>
                  rw [show (((j + 1 : Nat) : Int) - 1) = (j : Int) by omega]
                  have hfd := firstAt_drop (Sh.starts bs 0) j a (by rw [HB.out.2.2.1]; omega)
                  generalize Sh.firstAt ((Sh.starts bs 0).drop (j + 1)) a = fa at *
                  obtain ⟨b, off, rfl, hbl, c0⟩ := nat_at (ST.of_own natK_len (by decide) (own_below HB.out.1.st ((Below.refl _ _).alloc (Nat.le_refl _) (.cells #[.int .i64 inc, .int .i64 (pos + (p : Int)), .int .i64 fa, .string ⟨dt.toArray⟩] 47))) (fun _ _ => trivial)) (i := j) (by omega)
                  have hsL : (Sh.starts bs 0).getD j 0 ≤ 700000 := by
                    have hjl : j < (Sh.starts bs 0).length := by rw [HB.out.2.2.1]; omega
                    have h1 := starts_lt bs 0 ((Sh.starts bs 0).getD j 0) (by rw [List.getD_eq_getElem?_getD, List.getElem?_eq_getElem hjl]; simp)
                    have h2 := H.out.2.2.1
                    omega
                  generalize (Sh.starts bs 0).getD j 0 = sv at *
                  have hjk' : (j : Int) < (k : Int) := by omega
                  by_cases g1 : a ≤ sv
                  · by_cases g2 : sv < a + 242
                    · rw [if_pos ⟨g1, g2⟩] at hfd
                      have g2' : (sv : Int) < (a : Int) + 242 := by omega
                      have HF := Lib.hid hfd
                      clear hfd
                      go_wp2_with fail
                      go_roundw
                      case rel => exact ⟨j, by omega, rfl, by rw [HF.out, show ((sv - a : Nat) : Int) = (sv : Int) - (a : Int) by omega]⟩
                      case measure => simp [intOf] <;> omega
                    · rw [if_neg (fun h => g2 h.2)] at hfd
                      have g2' : ¬ (sv : Int) < (a : Int) + 242 := by omega
                      have HF := Lib.hid hfd
                      clear hfd
                      go_wp2_with fail
                      go_roundw
                      case rel => exact ⟨j, by omega, rfl, by rw [HF.out]⟩
                      case measure => simp [intOf] <;> omega
                  · rw [if_neg (fun h => g1 h.1)] at hfd
                    have HF := Lib.hid hfd
                    clear hfd
                    go_wp2_with fail
                    go_roundw
                    case rel => exact ⟨j, by omega, rfl, by rw [HF.out]⟩
                    case measure => simp [intOf] <;> omega
            · have hcut : ∀ W, (Instr.slice 38 (.slice A8 L c8) (some (.int .i64 (a : Int))) (some (.int .i64 ((L : Int)))) none).run Tryd.prog W = .ok (.slice (subA A8 c8 a) (L - a) (c8 - a)) W := fun W => by
                have h := cut_lh A8 L c8 a (L) (a : Int) ((L : Int)) rfl (by omega) (by omega) (by have := hB.all.2.1; omega) W
                rwa [show L - a = L - a by omega] at h
              have hbm := subA_bs hB.all.1 c8 a (L) (by omega) (by omega) hB.all.2.1
              rw [show L - a = L - a by omega] at hbm
              have hdm : ((Sh.flat bs).drop a).take (L - a) = ((Sh.flat bs).drop (242 * p)).take 242 := by
                have hLo := HL.out.1
                first
                | (rw [← hap, List.take_eq_take_iff, List.length_drop]; omega)
                | (rw [← hap])
              rw [hdm] at hbm
              obtain ⟨dt, hdt⟩ : ∃ dt, dt = ((Sh.flat bs).drop (242 * p)).take 242 := ⟨_, rfl⟩
              have hdl : dt.length ≤ 242 := by rw [hdt, List.length_take]; omega
              rw [← hdt] at hbm
              have hcv0 := conv_bytes0 hbm (c8 - a) wr (fun _ => rfl)
              unfold str at hcv0
              have hls := Sh.laid_succ inc pos bs p
              rw [← hdt, ← hap] at hls
              have hss : (Sh.starts bs 0).length = k := by rw [starts_len, H.out.2.2.2.2.1]
              have hfull : 1099511627776 ≤ pos + (p : Int) → R = ([], 162) := fun h => H.out.2.2.2.2.2.2.1 HL.out.2.2 (by unfold Sh.fullAt; rw [decide_eq_true_eq]; omega)
              have HB := Lib.hid (And.intro hB (And.intro hls (And.intro hss (And.intro hfull hap))))
              clear hB hbm hdm hdt hls hss hfull hap
              go_wp2_with fail
              go_loopw [16] (fun s16 wx => ∃ j : Nat, j ≤ k ∧ s16 = .int .i64 ((j : Int) - 1) ∧ wx = wr.alloc (.cells #[.int .i64 inc, .int .i64 (pos + (p : Int)), .int .i64 (Sh.firstAt ((Sh.starts bs 0).drop j) a), .string ⟨dt.toArray⟩] 47)) (fun s16 _ => (intOf s16 + 1).toNat)
              case atStart => exact ⟨k, by omega, rfl, by rw [List.drop_of_length_le (by rw [HB.out.2.2.1]; exact Nat.le_refl _)]; rfl⟩
              case round =>
                obtain ⟨j, hjk, rfl, rfl⟩ := hrel
                cases j with
                | zero =>
                  rw [List.drop_zero]
                  obtain ⟨fa, hfa⟩ : ∃ fa, Sh.firstAt (Sh.starts bs 0) a = fa := ⟨_, rfl⟩
                  rw [hfa]
                  have hls := HB.out.2.1
                  rw [hfa] at hls
                  have HLS := Lib.hid hls
                  have hbx : Below wr.heap.size wr (wr.alloc (.cells #[.int .i64 inc, .int .i64 (pos + (p : Int)), .int .i64 fa, .string ⟨dt.toArray⟩] 47)) := (Below.refl _ _).alloc (Nat.le_refl _) _
                  have hbb := HB.out.1.below.trans (hbx.mono HB.out.1.below.size)
                  clear hls hfa
                  by_cases hover : 1099511627776 ≤ pos + (p : Int)
                  · have HR := Lib.hid (And.intro (HB.out.2.2.2.1 hover) hbb)
                    clear hbx hbb
                    go_wp2_with fail
                    go_ret2
                    rw [HR.out.1]
                    exact layP_nil 162 HR.out.2
                  · have hst6 : ST sheetK ((wr.alloc (.cells #[.int .i64 inc, .int .i64 (pos + (p : Int)), .int .i64 fa, .string ⟨dt.toArray⟩] 47)).alloc (.cells #[.int .i64 inc, .int .i64 (pos + (p : Int)), .int .i64 fa, .string ⟨dt.toArray⟩] 47)) (some ⟨wr.heap.size + 1, 0, none⟩) 1 [⟨inc, pos + (p : Int), fa, dt⟩] := by
                      refine st_one ?_ hdl
                      have := Blk.new (wr.alloc (.cells #[.int .i64 inc, .int .i64 (pos + (p : Int)), .int .i64 fa, .string ⟨dt.toArray⟩] 47)) 47 #[.int .i64 inc, .int .i64 (pos + (p : Int)), .int .i64 fa, .string ⟨dt.toArray⟩]
                      rwa [show (wr.alloc (.cells #[.int .i64 inc, .int .i64 (pos + (p : Int)), .int .i64 fa, .string ⟨dt.toArray⟩] 47)).heap.size = wr.heap.size + 1 by simp] at this
                    have hrow6 : ((wr.alloc (.cells #[.int .i64 inc, .int .i64 (pos + (p : Int)), .int .i64 fa, .string ⟨dt.toArray⟩] 47)).alloc (.cells #[.int .i64 inc, .int .i64 (pos + (p : Int)), .int .i64 fa, .string ⟨dt.toArray⟩] 47)).ownsRow w.heap.size 47 4 (.slice B p f) p (rowOf sheetK (Sh.laid inc pos bs p)) := own_below HB.out.1.row (((Below.refl _ _).alloc (Nat.le_refl _) _).alloc (by simp) _)
                    have HST := Lib.hid (And.intro hst6 hrow6)
                    clear hst6 hrow6 hbx hbb
                    go_wp2_with (at_builtin; refine wpList_append_st _ sheetK_len (by decide) sheetK_one rfl (.tmp 108) (.tmp 110) 32 rfl w.heap.size 47 iS (.agg #[.int .i64 0, .int .i64 0, .int .i64 0, .string ⟨#[]⟩]) 40 Tryd.underlying32 HJ.out.1 HJ.out.2.1 HJ.out.2.2.1 HJ.out.2.2.2 rfl (by omega) (.slice B p f) p (rowOf sheetK (Sh.laid inc pos bs p)) rfl HST.out.2 (some ⟨wr.heap.size + 1, 0, none⟩) 1 1 [⟨inc, pos + (p : Int), fa, dt⟩] rfl HST.out.1 (by omega) (by have := HB.out.1.below.size; simp; omega) ?_; intro B7 d7 w7 hown7 hg7 _; have H7 := Lib.hid (RefB.next HB.out.1 HLS.out hown7 hg7); clear hown7 hg7)
                    go_roundw
                    case rel => exact ⟨p + 1, a + 242, B7, d7, by go_num, rfl, by have := HB.out.2.2.2.2; omega, by omega, by omega, H7.out⟩
                    case measure => simp [sliceLen]; omega
                | succ j =>
                  rw [show (((j + 1 : Nat) : Int) - 1) = (j : Int) by omega]
                  have hfd := firstAt_drop (Sh.starts bs 0) j a (by rw [HB.out.2.2.1]; omega)
                  generalize Sh.firstAt ((Sh.starts bs 0).drop (j + 1)) a = fa at *
                  obtain ⟨b, off, rfl, hbl, c0⟩ := nat_at (ST.of_own natK_len (by decide) (own_below HB.out.1.st ((Below.refl _ _).alloc (Nat.le_refl _) (.cells #[.int .i64 inc, .int .i64 (pos + (p : Int)), .int .i64 fa, .string ⟨dt.toArray⟩] 47))) (fun _ _ => trivial)) (i := j) (by omega)
                  have hsL : (Sh.starts bs 0).getD j 0 ≤ 700000 := by
                    have hjl : j < (Sh.starts bs 0).length := by rw [HB.out.2.2.1]; omega
                    have h1 := starts_lt bs 0 ((Sh.starts bs 0).getD j 0) (by rw [List.getD_eq_getElem?_getD, List.getElem?_eq_getElem hjl]; simp)
                    have h2 := H.out.2.2.1
                    omega
                  generalize (Sh.starts bs 0).getD j 0 = sv at *
                  have hjk' : (j : Int) < (k : Int) := by omega
                  by_cases g1 : a ≤ sv
                  · by_cases g2 : sv < a + 242
                    · rw [if_pos ⟨g1, g2⟩] at hfd
                      have g2' : (sv : Int) < (a : Int) + 242 := by omega
                      have HF := Lib.hid hfd
                      clear hfd
                      go_wp2_with fail
                      go_roundw
                      case rel => exact ⟨j, by omega, rfl, by rw [HF.out, show ((sv - a : Nat) : Int) = (sv : Int) - (a : Int) by omega]⟩
                      case measure => simp [intOf] <;> omega
                    · rw [if_neg (fun h => g2 h.2)] at hfd
                      have g2' : ¬ (sv : Int) < (a : Int) + 242 := by omega
                      have HF := Lib.hid hfd
                      clear hfd
                      go_wp2_with fail
                      go_roundw
                      case rel => exact ⟨j, by omega, rfl, by rw [HF.out]⟩
                      case measure => simp [intOf] <;> omega
                  · rw [if_neg (fun h => g1 h.1)] at hfd
                    have HF := Lib.hid hfd
                    clear hfd
                    go_wp2_with fail
                    go_roundw
                    case rel => exact ⟨j, by omega, rfl, by rw [HF.out]⟩
                    case measure => simp [intOf] <;> omega
          · obtain rfl : p = Sh.count bs := by omega
            have haL : L ≤ a := by
              have h2 : ¬ Sh.count bs < Sh.count bs := by omega
              rw [Sh.count_more] at h2
              have := HL.out.1
              omega
            have hr := H.out.2.2.2.2.2.2.2 HL.out.2.2 (by unfold Sh.fullAt; rw [decide_eq_false_iff_not]; omega)
            have HR := Lib.hid (And.intro hr hB)
            clear hr hB hap
            go_wp2_with fail
            go_ret2
            rw [HR.out.1]
            have hrow := HR.out.2.row
            have hln := Sh.laid_length inc pos bs (Sh.count bs)
            refine ⟨B, f, ?_, ?_, HR.out.2.below⟩
            · simp only [hln]; rfl
            · simp only [hln]; exact hrow
end Go.Proofs.YtlpdjpkdgagjpaaDoor
