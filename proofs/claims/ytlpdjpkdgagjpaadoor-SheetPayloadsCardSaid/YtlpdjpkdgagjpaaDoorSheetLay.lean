/- Sheets are laid. -/
import Derived.Test.YtlpdjpkdgagjpaaDoorSheetFind
import Derived.Test.YtlpdjpkdgagjpaaDoorMaps
namespace Go.Proofs.YtlpdjpkdgagjpaaDoor
open Go.RowKit Mem Lift
open Go.ChangeMaps (setBlock)
set_option linter.unusedVariables false
set_option linter.unusedSimpArgs false
set_option maxRecDepth 100000

/-- a body in memory -/
structure Bd where
  A : Option Addr
  n : Nat
  c : Nat
  b : List UInt8
def bodyK : Kind_ Bd where
  zero := ⟨none, 0, 0, []⟩
  k := 1
  cells := fun x => [.slice x.A x.n x.c]
  ok := fun w x => BS w x.A x.n x.b ∧ x.n ≤ x.c ∧ x.c ≤ 9223372036854775807
  keep := fun h hb => ⟨h.1.below hb, h.2⟩
def bodiesOf (l : List Bd) : List (List UInt8) := l.map (·.b)
theorem bodiesOf_length (l : List Bd) : (bodiesOf l).length = l.length := by simp [bodiesOf]
theorem body_at {w : World} {A : Option Addr} {n : Nat} {l : List Bd} (h : ST bodyK w A n l) {i : Nat} (hi : i < n) : ∃ b off x, A = some ⟨b, off, none⟩ ∧ b < w.heap.size ∧ w.cell? ⟨b, off + i, none⟩ = some (.slice x.A x.n x.c) ∧ BS w x.A x.n x.b ∧ x.n ≤ x.c ∧ x.c ≤ 9223372036854775807 ∧ x = l.getD i bodyK.zero ∧ (bodiesOf l).getD i [] = x.b ∧ (bodiesOf l).take (i + 1) = (bodiesOf l).take i ++ [x.b] := by
  obtain ⟨b, off, e, hb, hc, ho⟩ := h.at_ hi
  have hl : i < l.length := by rw [h.len]; exact hi
  have hc0 := hc 0 (by decide)
  rw [show off + i * bodyK.k + 0 = off + i by simp [bodyK]] at hc0
  have hg : l.getD i bodyK.zero = l[i] := by rw [List.getD_eq_getElem?_getD, List.getElem?_eq_getElem hl]; rfl
  refine ⟨b, off, l.getD i bodyK.zero, e, hb, hc0, ho.1, ho.2.1, ho.2.2, rfl, ?_, ?_⟩
  · rw [hg]; unfold bodiesOf
    rw [List.getD_eq_getElem?_getD, List.getElem?_map, List.getElem?_eq_getElem hl]
    rfl
  · rw [hg, List.take_succ_eq_append_getElem (by rw [bodiesOf_length]; exact hl)]
    simp [bodiesOf]
abbrev intV : Int → Value := fun x => .int .i64 x
theorem zeroInt : ∀ w, (zeroValue 3).run Tryd.prog w = .ok (intV 0) w := by
  obtain ⟨i, hi, hz⟩ : ∃ i, Tryd.prog.info? 3 = some i ∧ i.zero = some (.int .i64 0) := by
    have h : (Tryd.prog.info? 3).map (·.zero) = some (some (.int .i64 0)) := by kernel_rfl
    cases hx : Tryd.prog.info? 3 with
    | none => rw [hx] at h; cases h
    | some i => rw [hx] at h; exact ⟨i, rfl, by simpa using h⟩
  intro w
  simp [zeroValue, typeInfo, hi, hz]
theorem finfoSheet : (Tryd.prog.info? 47).map (fun i => (i.zero, i.size, i.bytes)) = some (some (.agg #[.int .i64 0, .int .i64 0, .int .i64 0, .string ⟨#[]⟩]), 4, 40) := by kernel_rfl
/-- what Lay leaves -/
def LayP (w0 : World) (r : List Sh.Sd × Nat) (e : Ending) (w' : World) : Prop := ∃ A c, e = .returned (.tuple #[.slice A r.1.length c, .int .i64 (r.2 : Nat)]) ∧ w'.ownsRow w0.heap.size 47 4 (.slice A r.1.length c) r.1.length (rowOf sheetK r.1) ∧ Below w0.heap.size w0 w'
theorem layP_nil {w0 w' : World} (e : Nat) (hb : Below w0.heap.size w0 w') : LayP w0 ([], e) (.returned (.tuple #[.slice none 0 0, .int .i64 (e : Nat)])) w' := ⟨none, 0, rfl, own_nilK _, hb⟩
/-- behind k bodies -/
structure LayA (w0 : World) (mb : Nat) (bs : List (List UInt8)) (k : Nat) (A : Option Addr) (c : Nat) (w : World) : Prop where
  row : w.ownsRow w0.heap.size 5 1 (.slice A (Sh.flat (bs.take k)).length c) (Sh.flat (bs.take k)).length (u8s (Sh.flat (bs.take k)))
  map : MapS intV w mb (Sh.gOf (Sh.starts (bs.take k) 0))
  below : Below w0.heap.size w0 w
  ge : w0.heap.size ≤ mb
theorem LayA.next {w0 w2 w3 : World} {mb : Nat} {bs : List (List UInt8)} {k : Nat} {A A' : Option Addr} {c c' : Nat} {fk sb : List UInt8} (hrow : w2.ownsRow w0.heap.size 5 1 (.slice A fk.length c) fk.length (u8s fk)) (hmap : MapS intV w2 mb (Sh.gOf (Sh.starts (bs.take (k + 1)) 0))) (hb : Below w0.heap.size w0 w2) (hge : w0.heap.size ≤ mb) (hfe : Sh.flat (bs.take (k + 1)) = fk ++ sb)
    (hown : w3.ownsRow w0.heap.size 5 1 (.slice A' (fk.length + sb.length) c') (fk.length + sb.length) (u8s fk ++ u8s sb)) (hg : w2.grownBy w3 (Value.slice A fk.length c).ownBlock) : LayA w0 mb bs (k + 1) A' c' w3 := by
  refine ⟨?_, hmap.keep (hg.block mb hmap.lt (fun e => ?_)), hb.grown hg hb.size (fun j hj => own_ge hrow hj), hge⟩
  · rw [hfe, List.length_append, u8s_append]; exact hown
  · obtain ⟨cur, hc⟩ := own_block hrow e.symm
    exact hmap.ne hc rfl
theorem RS.of_own {w : World} {base n c : Nat} {A : Option Addr} {bs : List UInt8} (h : w.ownsRow base 5 1 (.slice A n c) n (u8s bs)) : RS w A n c bs := by
  have hc := own_capS h
  refine ⟨BS.of_own h, hc.1, hc.2, fun a e => ?_⟩
  rcases h.2 with ⟨e0, _⟩ | ⟨g, cap, cur, e0, _, hg, _⟩
  · injection e0 with e0
    rw [e] at e0
    cases e0
  · injection e0 with e0
    rw [e] at e0
    injection e0 with e0
    subst e0
    exact ⟨_, _, hg⟩
/-- 's[:m:m]' -/
theorem cut_hm (A : Option Addr) (n c m : Nat) (y : Int) (hy : y = m) (hm : m ≤ c) (W : World) : (Instr.slice 38 (.slice A n c) none (some (.int .i64 y)) (some (.int .i64 y))).run Tryd.prog W = .ok (.slice A m m) W := by
  subst hy
  rw [run_slice_hm W 38 A n c Tryd.underlying38 .i64 .i64 m m (by omega) (by omega) (by omega), size8]
  simp [Result.andThen, sliced, Addr.add]
theorem st_one {w : World} {g : Nat} {s : Sh.Sd} (h : Blk w g 47 (sdCells s)) (hs : s.data.length ≤ 242) : ST sheetK w (some ⟨g, 0, none⟩) 1 [s] := by
  refine ⟨rfl, fun x hx => ?_, fun _ => ⟨g, 0, rfl, h.lt, fun i hi j hj => ?_⟩⟩
  · rw [List.mem_singleton] at hx; subst hx; exact hs
  · obtain rfl : i = 0 := by simpa using hi
    rw [Nat.zero_add, Nat.zero_mul, Nat.zero_add, h.cell j]
    simp [sheetK, sdCells]
/-- behind p sheets -/
structure LayB (w0 : World) (mb : Nat) (inc pos : Int) (bs : List (List UInt8)) (p q : Nat) (A : Option Addr) (c : Nat) (B : Option Addr) (d : Nat) (w : World) : Prop where
  all : RS w A q c ((Sh.flat bs).drop (242 * p))
  row : w.ownsRow w0.heap.size 47 4 (.slice B p d) p (rowOf sheetK (Sh.laid inc pos bs p))
  map : MapS intV w mb (Sh.gOf (Sh.starts bs 0))
  below : Below w0.heap.size w0 w
  ge : w0.heap.size ≤ mb
  len : q = (Sh.flat bs).length - 242 * p
theorem LayB.next {w0 wr w7 : World} {mb : Nat} {inc pos : Int} {bs : List (List UInt8)} {p q : Nat} {A : Option Addr} {c : Nat} {B : Option Addr} {d : Nat} (h : LayB w0 mb inc pos bs p q A c B d wr) {X : Array Value} {B' : Option Addr} {d' m : Nat} {sd : Sh.Sd} (hm : m = q ∧ q ≤ 242 ∨ m = 242 ∧ 242 < q)
    (hls : Sh.laid inc pos bs (p + 1) = Sh.laid inc pos bs p ++ [sd]) (hown : w7.ownsRow w0.heap.size 47 4 (.slice B' (p + 1) d') (p + 1) (rowOf sheetK (Sh.laid inc pos bs p) ++ rowOf sheetK [sd]))
    (hg : ((wr.alloc (.cells X 47)).alloc (.cells X 47)).grownBy w7 (Value.slice B p d).ownBlock) : LayB w0 mb inc pos bs (p + 1) (q - m) (subA A c m) (c - m) B' d' w7 := by
  have hb2 : Below wr.heap.size wr ((wr.alloc (.cells X 47)).alloc (.cells X 47)) := ((Below.refl _ _).alloc (Nat.le_refl _) _).alloc (by simp) _
  have hfar : ∀ k, k < wr.heap.size → (Value.slice B p d).ownBlock ≠ some k → w7.heap[k]? = wr.heap[k]? := fun k hk hne => (hg.block k (by have := hb2.size; omega) (fun e => hne e.symm)).trans (hb2.block k hk)
  have hrs : RS w7 A q c ((Sh.flat bs).drop (242 * p)) := by
    refine h.all.keep (by have := hg.size; have := hb2.size; omega) (fun k cs fr hk => hfar k (heap_lt' hk) (fun e => ?_))
    obtain ⟨cur, hc⟩ := own_block h.row e
    rw [hk] at hc
    injection hc with hc
    injection hc with _ hc
    exact absurd hc (by decide)
  have hsub := hrs.sub (k := m) (by omega)
  have hdd : ((Sh.flat bs).drop (242 * p)).drop m = (Sh.flat bs).drop (242 * (p + 1)) := by
    rw [List.drop_drop]
    have hl := h.len
    rcases hm with ⟨rfl, hm⟩ | ⟨rfl, hm⟩
    · rw [List.drop_of_length_le (by omega), List.drop_of_length_le (by omega)]
    · rw [show 242 * (p + 1) = 242 * p + 242 by omega]
  rw [hdd] at hsub
  refine ⟨hsub, ?_, h.map.keep (hfar mb h.map.lt (fun e => ?_)), ?_, h.ge, by have := h.len; omega⟩
  · rw [hls, rowOf_append]; exact hown
  · obtain ⟨cur, hc⟩ := own_block h.row e
    exact h.map.ne hc rfl
  · exact (h.below.trans (hb2.mono h.below.size)).grown hg (by have := h.below.size; have := hb2.size; omega) (fun j hj => own_ge h.row hj)
theorem gOf_has {ss : List Nat} {s : Nat} {a : Int} (h : Sh.gOf ss ((s : Int) / 242) = some a) (p : Int) : Sh.gOf ss p = Sh.gOf (ss ++ [s]) p := by
  rw [Sh.gOf_snoc]
  by_cases e : Sh.gOf ss p = none ∧ ((s / 242 : Nat) : Int) = p
  · have e2 : p = (s : Int) / 242 := by omega
    rw [e2, h] at e
    cases e.1
  · rw [if_neg e]
theorem gOf_has_not {ss : List Nat} {s : Nat} (h : Sh.gOf ss ((s : Int) / 242) = none) (p : Int) : upd (Sh.gOf ss) ((s : Int) / 242) (1 + (s : Int) % 242) p = Sh.gOf (ss ++ [s]) p := by
  rw [Sh.gOf_snoc]
  unfold upd
  by_cases e : p = (s : Int) / 242
  · rw [if_pos e, if_pos ⟨by rw [e]; exact h, by omega⟩]
    congr 1 <;> omega
  · rw [if_neg e, if_neg (fun x => e (by omega))]
set_option maxHeartbeats 8000000 in
theorem lay_any (inc pos : Int) (A : Option Addr) (n c : Nat) (ls : List Bd) (bs : List (List UInt8)) (w : World) (hbs : bs = bodiesOf ls) (hl : ST bodyK w A n ls) (hn : n ≤ 100000) (hf : (Sh.flat bs).length ≤ 700000)
    (hi : -9223372036854775808 ≤ inc ∧ inc ≤ 9223372036854775807) (hp : -9223372036854775808 ≤ pos ∧ pos ≤ 9223372036854775807) (ht : Half w) :
    Calls Tryd.prog 17 #[.int .i64 inc, .int .i64 pos, .slice A n c] w (LayP w (Sh.layR inc pos bs)) := by
  cases hbad : Sh.badPos inc pos with
  | true =>
    rw [Sh.layR_bad hbad]
    have hways : decide (inc < 0) = true ∨ decide (inc < 0) = false ∧ (decide (1099511627776 ≤ inc) = true ∨ decide (1099511627776 ≤ inc) = false ∧ (decide (pos < 0) = true ∨ decide (pos < 0) = false ∧ decide (1099511627776 ≤ pos) = true)) := by
      unfold Sh.badPos at hbad
      simp only [Bool.or_eq_true, decide_eq_true_eq] at hbad
      simp only [decide_eq_true_eq, decide_eq_false_iff_not]
      omega
    clear hbad hl hf hi hp ht
    rcases hways with g | ⟨g, g1 | ⟨g1, g2 | ⟨g2, g3⟩⟩⟩
    all_goals
      go_enter Tryd.func17, Tryd.ntmps17
      go_wp2_with fail
      go_ret2
      exact layP_nil 1 (Below.refl _ _)
  | false =>
    obtain ⟨i0, i1, p0, p1⟩ : 0 ≤ inc ∧ inc < 1099511627776 ∧ 0 ≤ pos ∧ pos < 1099511627776 := by
      unfold Sh.badPos at hbad
      simp only [Bool.or_eq_false_iff, decide_eq_false_iff_not] at hbad
      omega
    have hR := Sh.layR_long (bs := bs) hbad
    have hR2 := Sh.layR_full (bs := bs) hbad
    have hR3 := Sh.layR_ok (bs := bs) hbad
    generalize Sh.layR inc pos bs = R at *
    have hbl : bs.length = n := by rw [hbs, bodiesOf_length, hl.len]
    have H := Lib.hid (And.intro hl (And.intro hbs (And.intro hf (And.intro ht (And.intro hbl (And.intro hR (And.intro hR2 hR3)))))))
    clear hl hbs hf ht hbl hR hR2 hR3 hbad hi hp
    have hmm := @run_makeMap Tryd.prog
    obtain ⟨iS, hj0, hj1, hj2, hj3⟩ := info_parts finfoSheet
    have HJ := Lib.hid (And.intro hj0 (And.intro hj1 (And.intro hj2 hj3)))
    clear hj0 hj1 hj2 hj3
    obtain ⟨i8, hi8, hz0, hz1, hz2⟩ := info_parts ninfo8
    have HI := Lib.hid (And.intro hi8 (And.intro hz0 (And.intro hz1 hz2)))
    clear hi8 hz0 hz1 hz2
    go_enter Tryd.func17, Tryd.ntmps17
    go_wp2_with fail
    have h0 : LayA w w.heap.size bs 0 none 0 (w.alloc (.map #[] 0)) := ⟨own_nilK _, MapS.new _, (Below.refl _ _).alloc (Nat.le_refl _) _, Nat.le_refl _⟩
    generalize w.alloc (.map #[] 0) = w1 at *
    obtain ⟨mb, hmb⟩ : ∃ mb, mb = w.heap.size := ⟨_, rfl⟩
    rw [← hmb] at h0 ⊢
    have H0 := Lib.hid h0
    have HM := Lib.hid hmb
    clear h0 hmm hmb
    go_loopw [8, 37] (fun s8 s37 wr => ∃ (k : Nat) (A8 : Option Addr) (c8 : Nat), k ≤ n ∧ s37 = .int .i64 k ∧ s8 = .slice A8 (Sh.flat (bs.take k)).length c8 ∧ LayA w mb bs k A8 c8 wr ∧ Sh.long (bs.take k) = false) (fun _ s37 _ => n - (intOf s37).toNat)
    case atStart => exact ⟨0, none, 0, by omega, rfl, rfl, H0.out, rfl⟩
    case round =>
      obtain ⟨k, A8, c8, hk, rfl, rfl, hL, hlg⟩ := hrel
      by_cases hlt : k < n
      · have hkn : (k : Int) < (n : Int) := by omega
        obtain ⟨b, off, x, rfl, hbl, c0, hx, hxc, hxm, _, hget, htk⟩ := body_at (H.out.1.below hL.below) hlt
        rw [← H.out.2.1] at hget htk
        have hfk : (Sh.flat (bs.take (k + 1))).length ≤ 700000 := by
          have h1 := H.out.2.2.1
          have h2 : Sh.flat bs = Sh.flat (bs.take (k + 1)) ++ Sh.flat (bs.drop (k + 1)) := by rw [← Sh.flat_append, List.take_append_drop]
          rw [h2, List.length_append] at h1
          omega
        have hfe : Sh.flat (bs.take (k + 1)) = Sh.flat (bs.take k) ++ Sl.sealB x.b := by rw [htk, Sh.flat_append, Sh.flat_cons, Sh.flat_nil, List.append_nil]
        have hse : Sh.starts (bs.take (k + 1)) 0 = Sh.starts (bs.take k) 0 ++ [(Sh.flat (bs.take k)).length] := by
          rw [htk, Sh.starts_append, Nat.zero_add]
          rfl
        have hlo : Sh.long (bs.take (k + 1)) = decide (4096 < x.b.length) := by rw [htk, Sh.long_append, hlg, Sh.long_cons]; simp [Sh.long]
        have hlm : 4096 < x.b.length → Sh.long bs = true := fun h => by
          refine Sh.long_true (b := x.b) ?_ h
          have : x.b ∈ bs.take (k + 1) := by rw [htk]; simp
          exact List.mem_of_mem_take this
        have hxl := hx.1
        have hxk : x.n ≤ 700000 := by
          have h1 := Sl.sealB_length x.b
          have h2 := Sl.textB_length x.b
          rw [hfe, List.length_append] at hfk
          omega
        have hseal := seal_any x.A x.n x.c x.b wr hx (by omega) (H.out.2.2.2.1.below hL.below)
        obtain ⟨xA, xn, xc, xb⟩ := x
        simp only at *
        obtain ⟨fk, hfk0⟩ : ∃ fk, fk = Sh.flat (bs.take k) := ⟨_, rfl⟩
        rw [← hfk0] at hfe hse ⊢
        have HX := Lib.hid (And.intro hfe (And.intro hse (And.intro hlo (And.intro hlm (And.intro hxl (And.intro hL (And.intro hfk hfk0)))))))
        have hfk7 : fk.length ≤ 700000 := by rw [hfe, List.length_append] at hfk; omega
        have HSE := Lib.hid hseal
        clear hfe hse hlo hlm hxl hL hseal hget htk hlg hx hfk hfk0
        by_cases h4 : 4096 < xn
        · have hse : Sl.sealE xb = ([], 12) := by unfold Sl.sealE; rw [if_pos (by rw [HX.out.2.2.2.2.1]; exact h4)]
          have hr := H.out.2.2.2.2.2.1 (HX.out.2.2.2.1 (by rw [HX.out.2.2.2.2.1]; exact h4))
          have hs := HSE.out
          rw [hse] at hs
          have HSE2 := Lib.hid hs
          have HR := Lib.hid hr
          clear hse hr hs
          go_wp2_with fail
          refine HSE2.out.mono ?_
          rintro e w2 ⟨v, rfl, _, hb2⟩
          have HB := Lib.hid (below_of HX.out.2.2.2.2.2.1.below HX.out.2.2.2.2.2.1.below.size hb2)
          clear hb2
          go_wp2_with fail
          go_ret2
          rw [HR.out]
          exact layP_nil 12 HB.out
        · have hse : Sl.sealE xb = (Sl.sealB xb, 0) := by unfold Sl.sealE; rw [if_neg (by rw [HX.out.2.2.2.2.1]; exact h4)]
          have hs := HSE.out
          rw [hse] at hs
          have HSE2 := Lib.hid hs
          clear hse hs
          go_wp2_with fail
          refine HSE2.out.mono ?_
          rintro e w2 ⟨v, rfl, ho2, hb2⟩
          obtain ⟨A2, c2, rfl⟩ := own_slice ho2
          have HB := Lib.hid (And.intro ho2 hb2)
          clear ho2 hb2
          simp only
          have hmap2 : MapS intV w2 mb (Sh.gOf (Sh.starts (bs.take k) 0)) := HX.out.2.2.2.2.2.1.map.keep (HB.out.2.block mb HX.out.2.2.2.2.2.1.map.lt)
          have hgp := Sh.gOf_pos (Sh.starts (bs.take k) 0) ((fk.length : Int) / 242)
          cases hg : Sh.gOf (Sh.starts (bs.take k) 0) ((fk.length : Int) / 242) with
          | some a =>
            have hlk := run_look (P := Tryd.prog) (f := intV) Tryd.underlying77 Tryd.underlying3 0 zeroInt hmap2 ((fk.length : Int) / 242) w2 rfl false
            rw [hg] at hlk
            obtain ⟨ha1, ha2⟩ := hgp a hg
            simp only [Option.getD_some, intV, Bool.false_eq_true, if_false] at hlk
            have ga : (a == 0) = false := by rw [beq_eq_false_iff_ne]; omega
            have hsl6 : fk.length + (Sl.sealB xb).length ≤ 700000 := by have h1 := HX.out.2.2.2.2.2.2.1; rw [HX.out.1, List.length_append] at h1; exact h1
            have hrow2 := own_below HX.out.2.2.2.2.2.1.row HB.out.2
            rw [← HX.out.2.2.2.2.2.2.2] at hrow2
            have HO := Lib.hid (And.intro hrow2 (And.intro (BS.of_own HB.out.1) (And.intro (below_of HX.out.2.2.2.2.2.1.below HX.out.2.2.2.2.2.1.below.size HB.out.2) (show MapS intV w2 mb (Sh.gOf (Sh.starts (bs.take (k + 1)) 0)) from by rw [HX.out.2.1]; exact hmap2.congr (gOf_has hg)))))
            clear hmap2 hg hgp hrow2
            go_wp2_with (at_builtin; refine wpList_append_bs _ rfl (.tmp 62) (.tmp 63) 38 rfl w.heap.size 5 i8 Tryd.underlying38 HI.out.1 HI.out.2.1 HI.out.2.2.1 HI.out.2.2.2 (.slice A8 fk.length c8) fk.length (u8s fk) rfl HO.out.1 A2 (Sl.sealB xb).length c2 (Sl.sealB xb) rfl HO.out.2.1 (by omega) HO.out.2.2.1.size ?_; intro v1 w4 hown1 hg1 hat1; obtain ⟨A4, c4, rfl⟩ := own_slice hown1; have H4 := Lib.hid (LayA.next HO.out.1 HO.out.2.2.2 HO.out.2.2.1 HX.out.2.2.2.2.2.1.ge HX.out.1 hown1 hg1); clear hown1 hg1 hat1)
            go_roundw
            case rel => exact ⟨k + 1, A4, c4, by omega, by go_num, by rw [HX.out.1, List.length_append], H4.out, by rw [HX.out.2.2.1, decide_eq_false_iff_not, HX.out.2.2.2.2.1]; exact h4⟩
            case measure => simp [intOf]; omega
          | none =>
            have hlk := run_look (P := Tryd.prog) (f := intV) Tryd.underlying77 Tryd.underlying3 0 zeroInt hmap2 ((fk.length : Int) / 242) w2 rfl false
            rw [hg] at hlk
            simp only [Option.getD_none, intV, Bool.false_eq_true, if_false] at hlk
            obtain ⟨o, hmu, hmo⟩ := run_upd (P := Tryd.prog) (f := intV) Tryd.underlying77 Tryd.underlying3 hmap2 ((fk.length : Int) / 242) (1 + (fk.length : Int) % 242)
            have hmu1 := hmu w2 rfl
            have hsl6 : fk.length + (Sl.sealB xb).length ≤ 700000 := by have h1 := HX.out.2.2.2.2.2.2.1; rw [HX.out.1, List.length_append] at h1; exact h1
            have hne : ∀ j, j ≠ mb → (setBlock w2 mb o).heap[j]? = w2.heap[j]? := fun j hj => by simp [setBlock, Array.getElem?_setIfInBounds, Ne.symm hj]
            have hself : (setBlock w2 mb o).heap[mb]? = some o := by simp [setBlock, Array.getElem?_setIfInBounds, hmap2.lt]
            have hrow2 := own_below HX.out.2.2.2.2.2.1.row HB.out.2
            rw [← HX.out.2.2.2.2.2.2.2] at hrow2
            have hrow3 : (setBlock w2 mb o).ownsRow w.heap.size 5 1 (.slice A8 fk.length c8) fk.length (u8s fk) := own_keep hrow2 (fun j e => hne j (fun e2 => by
              obtain ⟨cur, hc⟩ := own_block hrow2 e
              exact hmap2.ne hc e2.symm))
            have hrow4 := own_keep (w' := setBlock w2 mb o) HB.out.1 (fun j e => hne j (fun e2 => by
              obtain ⟨cur, hc⟩ := own_block HB.out.1 e
              exact hmap2.ne hc e2.symm))
            have hbs2 := below_of HX.out.2.2.2.2.2.1.below HX.out.2.2.2.2.2.1.below.size HB.out.2
            have hbs3 : Below w.heap.size w (setBlock w2 mb o) := ⟨hbs2.os, hbs2.tape, hbs2.output, by have := hbs2.size; simp [setBlock]; exact this, fun j hj => (hne j (by have := HX.out.2.2.2.2.2.1.ge; omega)).trans (hbs2.block j hj)⟩
            have HO := Lib.hid (And.intro hrow3 (And.intro (BS.of_own hrow4) (And.intro hbs3 (show MapS intV (setBlock w2 mb o) mb (Sh.gOf (Sh.starts (bs.take (k + 1)) 0)) from by rw [HX.out.2.1]; exact (hmo _ hself).congr (gOf_has_not hg)))))
            clear hmap2 hg hgp hmo hmu hne hself hrow2 hrow3 hrow4 hbs2 hbs3
            go_wp2_with (at_builtin; refine wpList_append_bs _ rfl (.tmp 62) (.tmp 63) 38 rfl w.heap.size 5 i8 Tryd.underlying38 HI.out.1 HI.out.2.1 HI.out.2.2.1 HI.out.2.2.2 (.slice A8 fk.length c8) fk.length (u8s fk) rfl HO.out.1 A2 (Sl.sealB xb).length c2 (Sl.sealB xb) rfl HO.out.2.1 (by omega) HO.out.2.2.1.size ?_; intro v1 w4 hown1 hg1 hat1; obtain ⟨A4, c4, rfl⟩ := own_slice hown1; have H4 := Lib.hid (LayA.next HO.out.1 HO.out.2.2.2 HO.out.2.2.1 HX.out.2.2.2.2.2.1.ge HX.out.1 hown1 hg1); clear hown1 hg1 hat1)
            go_roundw
            case rel => exact ⟨k + 1, A4, c4, by omega, by go_num, by rw [HX.out.1, List.length_append], H4.out, by rw [HX.out.2.2.1, decide_eq_false_iff_not, HX.out.2.2.2.2.1]; exact h4⟩
            case measure => simp [intOf]; omega
      · obtain rfl : k = n := by omega
        have htk : bs.take k = bs := List.take_of_length_le (by rw [H.out.2.2.2.2.1]; exact Nat.le_refl _)
        have hrow0 := hL.row
        have hmap0 := hL.map
        have hbel0 := hL.below
        have hge0 := hL.ge
        clear hL
        rw [htk] at hrow0 hmap0 hlg ⊢
        obtain ⟨L, hLe⟩ : ∃ L, L = (Sh.flat bs).length := ⟨_, rfl⟩
        have hB0 : LayB w mb inc pos bs 0 L A8 c8 none 0 wr := ⟨by rw [hLe]; exact RS.of_own hrow0, own_nilK _, hmap0, hbel0, hge0, by rw [hLe]; rfl⟩
        rw [← hLe]
        have HL := Lib.hid (And.intro hLe (And.intro hB0 hlg))
        have hL7 : L ≤ 700000 := by rw [hLe]; exact H.out.2.2.1
        clear hrow0 hmap0 hbel0 hge0 hlg hLe hB0 htk H0
        go_wp2_with fail
        go_loopw [8, 15, 16] (fun s8 s15 s16 wr => ∃ (p q : Nat) (A8 : Option Addr) (c8 : Nat) (B : Option Addr) (d : Nat), s16 = .int .i64 p ∧ s8 = .slice A8 q c8 ∧ s15 = .slice B p d ∧ p ≤ Sh.count bs ∧ pos + (p : Int) ≤ 1099511627776 ∧ LayB w mb inc pos bs p q A8 c8 B d wr) (fun _ _ s16 _ => Sh.count bs - (intOf s16).toNat)
        case atStart => exact ⟨0, L, A8, c8, none, 0, rfl, rfl, rfl, by omega, by omega, HL.out.2.1⟩
        case round =>
          obtain ⟨p, q, Aa, ca, B, d, rfl, rfl, rfl, hpc, hpp, hB⟩ := hrel
          have hq7 : q ≤ 700000 := by have := hB.len; have := HL.out.1; omega
          by_cases hlt : p < Sh.count bs
          · have hq0 : 0 < q := by
              have h1 := Sh.count_more.1 hlt
              have := hB.len
              omega
            have hp7 : p ≤ 100000 := by
              have h1 := Sh.count_more.1 hlt
              have := HL.out.1
              omega
            by_cases hfull : 1099511627776 - (p : Int) ≤ pos
            · have hr := H.out.2.2.2.2.2.2.1 HL.out.2.2 (by unfold Sh.fullAt; rw [decide_eq_true_eq]; omega)
              have HR := Lib.hid (And.intro hr hB.below)
              clear hr hB
              go_wp2_with fail
              go_ret2
              rw [HR.out.1]
              exact layP_nil 162 HR.out.2
            · by_cases hq2 : q ≤ 242
              · have hcut := fun W => cut_hm Aa q ca q (q : Int) rfl (by have := hB.all.2.1; omega) W
                have hbm := BS.take_ hB.all.1 q (by omega)
                have hdm : ((Sh.flat bs).drop (242 * p)).take q = ((Sh.flat bs).drop (242 * p)).take 242 := by
                  first
                  | rfl
                  | (rw [List.take_eq_take_iff]
                     have := hB.all.1.1
                     omega)
                rw [hdm] at hbm
                obtain ⟨dt, hdt⟩ : ∃ dt, dt = ((Sh.flat bs).drop (242 * p)).take 242 := ⟨_, rfl⟩
                have hdl : dt.length ≤ 242 := by rw [hdt, List.length_take]; omega
                rw [← hdt] at hbm
                have hcv := fun W (hw : ∀ a : Addr, W.cell? a = wr.cell? a) => conv_bytes0 hbm q W hw
                have hcv0 := hcv wr (fun _ => rfl)
                have hcv1 := hcv wr.drew (fun _ => rfl)
                unfold str at hcv0 hcv1
                have hgp := Sh.gOf_pos (Sh.starts bs 0) (p : Int)
                have hfa := Sh.gOf_first (Sh.starts bs 0) p
                have hls := Sh.laid_succ inc pos bs p
                rw [← hdt] at hls
                have hb5 : Below wr.heap.size wr (wr.alloc (.cells #[.int .i64 inc, .int .i64 (pos + (p : Int)), .int .i64 255, .string ⟨dt.toArray⟩] 47)) := (Below.refl _ _).alloc (Nat.le_refl _) _
                have hk5 : Blk (wr.alloc (.cells #[.int .i64 inc, .int .i64 (pos + (p : Int)), .int .i64 255, .string ⟨dt.toArray⟩] 47)) wr.heap.size 47 #[.int .i64 inc, .int .i64 (pos + (p : Int)), .int .i64 255, .string ⟨dt.toArray⟩] := Blk.new _ _ _
                have hmap5 := hB.map.keep (hb5.block mb hB.map.lt)
                have hlk := run_look (P := Tryd.prog) (f := intV) Tryd.underlying77 Tryd.underlying3 0 zeroInt hmap5 (p : Int) _ rfl false
                have HB := Lib.hid (And.intro hB (And.intro hb5 hk5))
                clear hB hbm hdm hcv hb5 hk5 hmap5 hdt
                cases hg : Sh.gOf (Sh.starts bs 0) (p : Int) with
                | some a =>
                  rw [hg] at hlk hfa
                  obtain ⟨ha1, ha2⟩ := hgp a hg
                  simp only [Option.getD_some, intV, Bool.false_eq_true, if_false] at hlk hfa
                  rw [hfa] at hls
                  have HS := Lib.hid hls
                  clear hls hfa hg hgp
                  have ga : decide (0 < a) = true := by simpa using (by omega : 0 < a)
                  have hst6 : ST sheetK ((wr.alloc (.cells #[.int .i64 inc, .int .i64 (pos + (p : Int)), .int .i64 (a - 1), .string ⟨dt.toArray⟩] 47)).alloc (.cells #[.int .i64 inc, .int .i64 (pos + (p : Int)), .int .i64 (a - 1), .string ⟨dt.toArray⟩] 47)) (some ⟨wr.heap.size + 1, 0, none⟩) 1 [⟨inc, pos + (p : Int), a - 1, dt⟩] := by
                    refine st_one ?_ hdl
                    have := Blk.new (wr.alloc (.cells #[.int .i64 inc, .int .i64 (pos + (p : Int)), .int .i64 (a - 1), .string ⟨dt.toArray⟩] 47)) 47 #[.int .i64 inc, .int .i64 (pos + (p : Int)), .int .i64 (a - 1), .string ⟨dt.toArray⟩]
                    rwa [show (wr.alloc (.cells #[.int .i64 inc, .int .i64 (pos + (p : Int)), .int .i64 (a - 1), .string ⟨dt.toArray⟩] 47)).heap.size = wr.heap.size + 1 by simp] at this
                  have hrow6 : ((wr.alloc (.cells #[.int .i64 inc, .int .i64 (pos + (p : Int)), .int .i64 (a - 1), .string ⟨dt.toArray⟩] 47)).alloc (.cells #[.int .i64 inc, .int .i64 (pos + (p : Int)), .int .i64 (a - 1), .string ⟨dt.toArray⟩] 47)).ownsRow w.heap.size 47 4 (.slice B p d) p (rowOf sheetK (Sh.laid inc pos bs p)) := own_below HB.out.1.row (((Below.refl _ _).alloc (Nat.le_refl _) _).alloc (by simp) _)
                  have HST := Lib.hid (And.intro hst6 hrow6)
                  have hcut2 := fun W => cut_l Aa q ca q (q : Int) rfl (by omega) W
                  clear hst6 hrow6
                  go_wp2_with (at_builtin; refine wpList_append_st _ sheetK_len (by decide) sheetK_one rfl (.tmp 96) (.tmp 98) 32 rfl w.heap.size 47 iS (.agg #[.int .i64 0, .int .i64 0, .int .i64 0, .string ⟨#[]⟩]) 40 Tryd.underlying32 HJ.out.1 HJ.out.2.1 HJ.out.2.2.1 HJ.out.2.2.2 rfl (by omega) (.slice B p d) p (rowOf sheetK (Sh.laid inc pos bs p)) rfl HST.out.2 (some ⟨wr.heap.size + 1, 0, none⟩) 1 1 [⟨inc, pos + (p : Int), a - 1, dt⟩] rfl HST.out.1 (by omega) (by have := HB.out.1.below.size; simp; omega) ?_; intro B7 d7 w7 hown7 hg7 _; have H7 := Lib.hid (LayB.next HB.out.1 (m := q) (by omega) HS.out hown7 hg7); clear hown7 hg7)
                  go_roundw
                  case rel => exact ⟨p + 1, q - q, subA Aa ca q, ca - q, B7, d7, by go_num, by simp, rfl, by omega, by omega, H7.out⟩
                  case measure => simp [intOf]; omega
                | none =>
                  rw [hg] at hlk hfa
                  simp only [Option.getD_none, intV, Bool.false_eq_true, if_false] at hlk hfa
                  rw [hfa] at hls
                  have HS := Lib.hid hls
                  clear hls hfa hg hgp
                  have hst6 : ST sheetK ((wr.alloc (.cells #[.int .i64 inc, .int .i64 (pos + (p : Int)), .int .i64 (255), .string ⟨dt.toArray⟩] 47)).alloc (.cells #[.int .i64 inc, .int .i64 (pos + (p : Int)), .int .i64 (255), .string ⟨dt.toArray⟩] 47)) (some ⟨wr.heap.size + 1, 0, none⟩) 1 [⟨inc, pos + (p : Int), 255, dt⟩] := by
                    refine st_one ?_ hdl
                    have := Blk.new (wr.alloc (.cells #[.int .i64 inc, .int .i64 (pos + (p : Int)), .int .i64 (255), .string ⟨dt.toArray⟩] 47)) 47 #[.int .i64 inc, .int .i64 (pos + (p : Int)), .int .i64 (255), .string ⟨dt.toArray⟩]
                    rwa [show (wr.alloc (.cells #[.int .i64 inc, .int .i64 (pos + (p : Int)), .int .i64 (255), .string ⟨dt.toArray⟩] 47)).heap.size = wr.heap.size + 1 by simp] at this
                  have hrow6 : ((wr.alloc (.cells #[.int .i64 inc, .int .i64 (pos + (p : Int)), .int .i64 (255), .string ⟨dt.toArray⟩] 47)).alloc (.cells #[.int .i64 inc, .int .i64 (pos + (p : Int)), .int .i64 (255), .string ⟨dt.toArray⟩] 47)).ownsRow w.heap.size 47 4 (.slice B p d) p (rowOf sheetK (Sh.laid inc pos bs p)) := own_below HB.out.1.row (((Below.refl _ _).alloc (Nat.le_refl _) _).alloc (by simp) _)
                  have HST := Lib.hid (And.intro hst6 hrow6)
                  have hcut2 := fun W => cut_l Aa q ca q (q : Int) rfl (by omega) W
                  clear hst6 hrow6
                  go_wp2_with (at_builtin; refine wpList_append_st _ sheetK_len (by decide) sheetK_one rfl (.tmp 96) (.tmp 98) 32 rfl w.heap.size 47 iS (.agg #[.int .i64 0, .int .i64 0, .int .i64 0, .string ⟨#[]⟩]) 40 Tryd.underlying32 HJ.out.1 HJ.out.2.1 HJ.out.2.2.1 HJ.out.2.2.2 rfl (by omega) (.slice B p d) p (rowOf sheetK (Sh.laid inc pos bs p)) rfl HST.out.2 (some ⟨wr.heap.size + 1, 0, none⟩) 1 1 [⟨inc, pos + (p : Int), 255, dt⟩] rfl HST.out.1 (by omega) (by have := HB.out.1.below.size; simp; omega) ?_; intro B7 d7 w7 hown7 hg7 _; have H7 := Lib.hid (LayB.next HB.out.1 (m := q) (by omega) HS.out hown7 hg7); clear hown7 hg7)
                  go_roundw
                  case rel => exact ⟨p + 1, q - q, subA Aa ca q, ca - q, B7, d7, by go_num, by simp, rfl, by omega, by omega, H7.out⟩
                  case measure => simp [intOf]; omega
              · have hcut := fun W => cut_hm Aa q ca 242 (242 : Int) rfl (by have := hB.all.2.1; omega) W
                have hbm := BS.take_ hB.all.1 242 (by omega)
                have hdm : ((Sh.flat bs).drop (242 * p)).take 242 = ((Sh.flat bs).drop (242 * p)).take 242 := by
                  first
                  | rfl
                  | (rw [List.take_eq_take_iff]
                     have := hB.all.1.1
                     omega)
                rw [hdm] at hbm
                obtain ⟨dt, hdt⟩ : ∃ dt, dt = ((Sh.flat bs).drop (242 * p)).take 242 := ⟨_, rfl⟩
                have hdl : dt.length ≤ 242 := by rw [hdt, List.length_take]; omega
                rw [← hdt] at hbm
                have hcv := fun W (hw : ∀ a : Addr, W.cell? a = wr.cell? a) => conv_bytes0 hbm 242 W hw
                have hcv0 := hcv wr (fun _ => rfl)
                have hcv1 := hcv wr.drew (fun _ => rfl)
                unfold str at hcv0 hcv1
                have hgp := Sh.gOf_pos (Sh.starts bs 0) (p : Int)
                have hfa := Sh.gOf_first (Sh.starts bs 0) p
                have hls := Sh.laid_succ inc pos bs p
                rw [← hdt] at hls
                have hb5 : Below wr.heap.size wr (wr.alloc (.cells #[.int .i64 inc, .int .i64 (pos + (p : Int)), .int .i64 255, .string ⟨dt.toArray⟩] 47)) := (Below.refl _ _).alloc (Nat.le_refl _) _
                have hk5 : Blk (wr.alloc (.cells #[.int .i64 inc, .int .i64 (pos + (p : Int)), .int .i64 255, .string ⟨dt.toArray⟩] 47)) wr.heap.size 47 #[.int .i64 inc, .int .i64 (pos + (p : Int)), .int .i64 255, .string ⟨dt.toArray⟩] := Blk.new _ _ _
                have hmap5 := hB.map.keep (hb5.block mb hB.map.lt)
                have hlk := run_look (P := Tryd.prog) (f := intV) Tryd.underlying77 Tryd.underlying3 0 zeroInt hmap5 (p : Int) _ rfl false
                have HB := Lib.hid (And.intro hB (And.intro hb5 hk5))
                clear hB hbm hdm hcv hb5 hk5 hmap5 hdt
                cases hg : Sh.gOf (Sh.starts bs 0) (p : Int) with
                | some a =>
                  rw [hg] at hlk hfa
                  obtain ⟨ha1, ha2⟩ := hgp a hg
                  simp only [Option.getD_some, intV, Bool.false_eq_true, if_false] at hlk hfa
                  rw [hfa] at hls
                  have HS := Lib.hid hls
                  clear hls hfa hg hgp
                  have ga : decide (0 < a) = true := by simpa using (by omega : 0 < a)
                  have hst6 : ST sheetK ((wr.alloc (.cells #[.int .i64 inc, .int .i64 (pos + (p : Int)), .int .i64 (a - 1), .string ⟨dt.toArray⟩] 47)).alloc (.cells #[.int .i64 inc, .int .i64 (pos + (p : Int)), .int .i64 (a - 1), .string ⟨dt.toArray⟩] 47)) (some ⟨wr.heap.size + 1, 0, none⟩) 1 [⟨inc, pos + (p : Int), a - 1, dt⟩] := by
                    refine st_one ?_ hdl
                    have := Blk.new (wr.alloc (.cells #[.int .i64 inc, .int .i64 (pos + (p : Int)), .int .i64 (a - 1), .string ⟨dt.toArray⟩] 47)) 47 #[.int .i64 inc, .int .i64 (pos + (p : Int)), .int .i64 (a - 1), .string ⟨dt.toArray⟩]
                    rwa [show (wr.alloc (.cells #[.int .i64 inc, .int .i64 (pos + (p : Int)), .int .i64 (a - 1), .string ⟨dt.toArray⟩] 47)).heap.size = wr.heap.size + 1 by simp] at this
                  have hrow6 : ((wr.alloc (.cells #[.int .i64 inc, .int .i64 (pos + (p : Int)), .int .i64 (a - 1), .string ⟨dt.toArray⟩] 47)).alloc (.cells #[.int .i64 inc, .int .i64 (pos + (p : Int)), .int .i64 (a - 1), .string ⟨dt.toArray⟩] 47)).ownsRow w.heap.size 47 4 (.slice B p d) p (rowOf sheetK (Sh.laid inc pos bs p)) := own_below HB.out.1.row (((Below.refl _ _).alloc (Nat.le_refl _) _).alloc (by simp) _)
                  have HST := Lib.hid (And.intro hst6 hrow6)
                  have hcut2 := fun W => cut_l Aa q ca 242 (242 : Int) rfl (by omega) W
                  clear hst6 hrow6
                  go_wp2_with (at_builtin; refine wpList_append_st _ sheetK_len (by decide) sheetK_one rfl (.tmp 96) (.tmp 98) 32 rfl w.heap.size 47 iS (.agg #[.int .i64 0, .int .i64 0, .int .i64 0, .string ⟨#[]⟩]) 40 Tryd.underlying32 HJ.out.1 HJ.out.2.1 HJ.out.2.2.1 HJ.out.2.2.2 rfl (by omega) (.slice B p d) p (rowOf sheetK (Sh.laid inc pos bs p)) rfl HST.out.2 (some ⟨wr.heap.size + 1, 0, none⟩) 1 1 [⟨inc, pos + (p : Int), a - 1, dt⟩] rfl HST.out.1 (by omega) (by have := HB.out.1.below.size; simp; omega) ?_; intro B7 d7 w7 hown7 hg7 _; have H7 := Lib.hid (LayB.next HB.out.1 (m := 242) (by omega) HS.out hown7 hg7); clear hown7 hg7)
                  go_roundw
                  case rel => exact ⟨p + 1, q - 242, subA Aa ca 242, ca - 242, B7, d7, by go_num, by simp, rfl, by omega, by omega, H7.out⟩
                  case measure => simp [intOf]; omega
                | none =>
                  rw [hg] at hlk hfa
                  simp only [Option.getD_none, intV, Bool.false_eq_true, if_false] at hlk hfa
                  rw [hfa] at hls
                  have HS := Lib.hid hls
                  clear hls hfa hg hgp
                  have hst6 : ST sheetK ((wr.alloc (.cells #[.int .i64 inc, .int .i64 (pos + (p : Int)), .int .i64 (255), .string ⟨dt.toArray⟩] 47)).alloc (.cells #[.int .i64 inc, .int .i64 (pos + (p : Int)), .int .i64 (255), .string ⟨dt.toArray⟩] 47)) (some ⟨wr.heap.size + 1, 0, none⟩) 1 [⟨inc, pos + (p : Int), 255, dt⟩] := by
                    refine st_one ?_ hdl
                    have := Blk.new (wr.alloc (.cells #[.int .i64 inc, .int .i64 (pos + (p : Int)), .int .i64 (255), .string ⟨dt.toArray⟩] 47)) 47 #[.int .i64 inc, .int .i64 (pos + (p : Int)), .int .i64 (255), .string ⟨dt.toArray⟩]
                    rwa [show (wr.alloc (.cells #[.int .i64 inc, .int .i64 (pos + (p : Int)), .int .i64 (255), .string ⟨dt.toArray⟩] 47)).heap.size = wr.heap.size + 1 by simp] at this
                  have hrow6 : ((wr.alloc (.cells #[.int .i64 inc, .int .i64 (pos + (p : Int)), .int .i64 (255), .string ⟨dt.toArray⟩] 47)).alloc (.cells #[.int .i64 inc, .int .i64 (pos + (p : Int)), .int .i64 (255), .string ⟨dt.toArray⟩] 47)).ownsRow w.heap.size 47 4 (.slice B p d) p (rowOf sheetK (Sh.laid inc pos bs p)) := own_below HB.out.1.row (((Below.refl _ _).alloc (Nat.le_refl _) _).alloc (by simp) _)
                  have HST := Lib.hid (And.intro hst6 hrow6)
                  have hcut2 := fun W => cut_l Aa q ca 242 (242 : Int) rfl (by omega) W
                  clear hst6 hrow6
                  go_wp2_with (at_builtin; refine wpList_append_st _ sheetK_len (by decide) sheetK_one rfl (.tmp 96) (.tmp 98) 32 rfl w.heap.size 47 iS (.agg #[.int .i64 0, .int .i64 0, .int .i64 0, .string ⟨#[]⟩]) 40 Tryd.underlying32 HJ.out.1 HJ.out.2.1 HJ.out.2.2.1 HJ.out.2.2.2 rfl (by omega) (.slice B p d) p (rowOf sheetK (Sh.laid inc pos bs p)) rfl HST.out.2 (some ⟨wr.heap.size + 1, 0, none⟩) 1 1 [⟨inc, pos + (p : Int), 255, dt⟩] rfl HST.out.1 (by omega) (by have := HB.out.1.below.size; simp; omega) ?_; intro B7 d7 w7 hown7 hg7 _; have H7 := Lib.hid (LayB.next HB.out.1 (m := 242) (by omega) HS.out hown7 hg7); clear hown7 hg7)
                  go_roundw
                  case rel => exact ⟨p + 1, q - 242, subA Aa ca 242, ca - 242, B7, d7, by go_num, by simp, rfl, by omega, by omega, H7.out⟩
                  case measure => simp [intOf]; omega
          · obtain rfl : p = Sh.count bs := by omega
            have hq0 : q = 0 := by
              have h1 := hB.len
              have h2 : ¬ Sh.count bs < Sh.count bs := by omega
              rw [Sh.count_more] at h2
              omega
            subst hq0
            have hr := H.out.2.2.2.2.2.2.2 HL.out.2.2 (by unfold Sh.fullAt; rw [decide_eq_false_iff_not]; omega)
            have HR := Lib.hid (And.intro hr hB)
            clear hr hB
            go_wp2_with fail
            go_ret2
            rw [HR.out.1]
            have hrow := HR.out.2.row
            have hln := Sh.laid_length inc pos bs (Sh.count bs)
            refine ⟨B, d, ?_, ?_, HR.out.2.below⟩
            · simp only [hln]; rfl
            · simp only [hln]; exact hrow
end Go.Proofs.YtlpdjpkdgagjpaaDoor
