/- A message's bytes. -/
import Derived.Test.YtlpdjpkdgagjpaaDoorMsg
import Derived.Test.YtlpdjpkdgagjpaaDoorMsgNum
import Derived.Test.YtlpdjpkdgagjpaaDoorMaps
import Derived.RegionTactic
import Derived.Deep.DeepCutAuto
namespace Go.Proofs.YtlpdjpkdgagjpaaDoor
open Go.RowKit Mem
set_option maxRecDepth 100000
set_option linter.unusedVariables false
set_option linter.unusedSimpArgs false
attribute [local go_sem ↓] Go.wp_at_zero Go.wp_at_succ

def mptr (b i : Nat) : Value := .pointer (some ⟨b, i, none⟩)
def mptrs (b : Nat) : Value := .agg #[mptr b 0, mptr b 1, mptr b 2, mptr b 3]
/-- 'a[k]' of an array by value, its elements of one cell -/
theorem run_index_cell4 {P : Program} (t e : TypeId) (n : Nat) (i : TypeInfo) (cs : Array Value) (k : Nat) (v : Value) (h : P.underlying t = some (.array n e)) (hi : P.info? e = some i) (hs : i.size = 1) (ha : ∀ w, (isAgg e).run P w = .ok false w) (hk : k < n) (hv : cs[k]? = some v) (x : Int) (hx : x = k) (w : World) :
    (Instr.index t (.agg cs) (.int .i64 x)).run P w = .ok v w := by
  subst hx
  have hn : 0 ≤ (k : Int) ∧ (k : Int) < (n : Int) := by omega
  have hk' : (k : Int) < (n : Int) := by omega
  have hsz : (sizeOf e).run P w = .ok 1 w := by simp [sizeOf, typeInfo, hi, hs]
  simp [Instr.index, run_underlying h, asIntOf, hn, hk', hk, go_sem, hsz, part, ha, hv]
theorem pinfo4 : (Tryd.prog.info? 94).map (fun i => i.size) = some 1 := by kernel_rfl
theorem isAgg_ptr4 (w : World) : (isAgg 94).run Tryd.prog w = .ok false w := by
  simp [isAgg, run_underlying Tryd.underlying94, go_sem]
theorem idx4 (b k : Nat) (hk : k < 4) (x : Int) (hx : x = k) (w : World) : (Instr.index 95 (mptrs b) (.int .i64 x)).run Tryd.prog w = .ok (mptr b k) w := by
  cases hi : Tryd.prog.info? 94 with
  | none => have := pinfo4; rw [hi] at this; cases this
  | some i =>
    have hz := pinfo4
    rw [hi] at hz
    simp only [Option.map_some, Option.some.injEq] at hz
    refine run_index_cell4 95 94 4 i _ k _ Tryd.underlying95 hi hz isAgg_ptr4 hk ?_ x hx w
    match k, hk with
    | 0, _ => rfl
    | 1, _ => rfl
    | 2, _ => rfl
    | 3, _ => rfl
set_option maxHeartbeats 2000000 in
theorem numbers_any (b : Nat) (w : World) :
    Calls Tryd.prog 49 #[.pointer (some ⟨b, 0, none⟩)] w fun e w' => e = .returned (mptrs b) ∧ Below w.heap.size w w' := by
  have hb0 : ∀ o, Below w.heap.size w (w.alloc o) := fun o => (Below.refl _ _).alloc (Nat.le_refl _) _
  have H := Lib.hid hb0
  clear hb0
  go_enter Tryd.func49, Tryd.ntmps49
  go_wp2
  go_region
  all_goals
    go_wp2
    simp [bodyPost, results, Tryd.results49, go_sem, mptrs, mptr]
    exact (H.out _).trans ⟨rfl, rfl, rfl, Nat.le_refl _, fun _ _ => rfl⟩
theorem mgcell {w : World} {b : Nat} {m : Mg.M} {A : Option Addr} {n c : Nat} (h : Blk w b 60 (mgCells m A n c)) {k : Nat} (hk : k < 4) : w.cell? ⟨b, k, none⟩ = some (.int .i64 (m.vals.getD k 0)) := by
  rw [h.cell k]
  match k, hk with
  | 0, _ => rfl
  | 1, _ => rfl
  | 2, _ => rfl
  | 3, _ => rfl
namespace Mg
def headTo (m : M) (k : Nat) : List UInt8 := (m.vals.take k).flatMap Sl.numB
def memTo (m : M) (k : Nat) : List UInt8 := (m.mem.take k).flatMap Sl.numB
theorem flat_le : ∀ l : List Int, (l.flatMap Sl.numB).length ≤ 11 * l.length
  | [] => by simp
  | x :: l => by
    have h1 := (Sl.numB_length x).2
    have h2 := flat_le l
    simp only [List.flatMap_cons, List.length_append, List.length_cons]
    omega
theorem flat_succ (l : List Int) (k : Nat) (h : k < l.length) : (l.take (k + 1)).flatMap Sl.numB = (l.take k).flatMap Sl.numB ++ Sl.numB (l.getD k 0) := by
  rw [List.take_succ_eq_append_getElem h, List.flatMap_append, List.getD_eq_getElem?_getD, List.getElem?_eq_getElem h]
  simp
theorem flat_take_le (l : List Int) (k : Nat) : ((l.take k).flatMap Sl.numB).length ≤ 11 * l.length := by
  have h1 := flat_le (l.take k)
  have h2 : (l.take k).length ≤ l.length := List.length_take_le' _ _
  omega
theorem body_le (m : M) : (body m).length ≤ 11 * (m.mem.length + 5) := by
  unfold body
  have h1 := flat_le m.vals
  have h2 := flat_le m.mem
  have h3 := (Sl.numB_length (m.mem.length : Int)).2
  have h4 : m.vals.length = 4 := rfl
  split <;> simp only [List.length_append, List.length_nil] <;> omega
/-- all that is written of a message may be written -/
structure Nums (m : M) : Prop where
  vals : ∀ x ∈ m.vals, -9223372036854775808 ≤ x ∧ x ≤ 9223372036854775807
  mem : ∀ x ∈ m.mem, -9223372036854775808 ≤ x ∧ x ≤ 9223372036854775807
theorem Nums.val {m : M} (h : Nums m) {k : Nat} (hk : k < 4) : -9223372036854775808 ≤ m.vals.getD k 0 ∧ m.vals.getD k 0 ≤ 9223372036854775807 := by
  refine h.vals _ ?_
  rw [List.getD_eq_getElem?_getD, List.getElem?_eq_getElem (show k < m.vals.length from hk)]
  simp
theorem Nums.mem_ {m : M} (h : Nums m) {k : Nat} (hk : k < m.mem.length) : -9223372036854775808 ≤ m.mem.getD k 0 ∧ m.mem.getD k 0 ≤ 9223372036854775807 := by
  refine h.mem _ ?_
  rw [List.getD_eq_getElem?_getD, List.getElem?_eq_getElem hk]
  simp
end Mg
/-- the writer, and the message beside it -/
def EncSt (w0 : World) (mb q : Nat) (m : Mg.M) (A : Option Addr) (n c : Nat) (bs : List UInt8) (w : World) : Prop :=
  ∃ G, WrAt w q bs G ∧ (∀ j, G j → q ≤ j) ∧ Blk w mb 60 (mgCells m A n c) ∧ Below w0.heap.size w0 w ∧ mb < q ∧ w0.heap.size ≤ q
theorem enc_num {w0 w : World} {mb q : Nat} {m : Mg.M} {A : Option Addr} {n c : Nat} {bs : List UInt8} (h : EncSt w0 mb q m A n c bs w) (x : Int) (hx : -9223372036854775808 ≤ x ∧ x ≤ 9223372036854775807) (hl : bs.length ≤ 100000000) :
    Calls Tryd.prog 50 #[.pointer (some ⟨q, 0, none⟩), .int .i64 x] w fun e w' => e = .returned (.tuple #[]) ∧ EncSt w0 mb q m A n c (bs ++ Sl.numB x) w' := by
  obtain ⟨G, h1, h2, h3, h4, h5, h6⟩ := h
  refine (wnum_any q bs G x w hx h1 (by omega)).mono ?_
  rintro e w' ⟨rfl, G', g1, g2, g3⟩
  have hq : q < w.heap.size := by obtain ⟨v, _, _, y, _⟩ := h1; exact WrAt.bound ⟨v, ‹_›, ‹_›, y, ‹_›⟩ q y
  refine ⟨rfl, G', g1, fun j hj => ?_, h3.keep (g2.block _ h3.lt (fun hh => by have := h2 _ hh; omega)), h4.trans (g2.below h4.size (fun i hi => by have := h2 i hi; omega)), h5, h6⟩
  rcases g3 j hj with y | y
  · exact h2 j y
  · omega
theorem enc_finish {w0 w : World} {mb q : Nat} {m : Mg.M} {A : Option Addr} {n c : Nat} {bs : List UInt8} (h : EncSt w0 mb q m A n c bs w) (hl : bs.length ≤ 100000000) :
    Calls Tryd.prog 51 #[.pointer (some ⟨q, 0, none⟩)] w fun e w' => ∃ B d, e = .returned (.slice B bs.length d) ∧ BS w' B bs.length bs ∧ Below w0.heap.size w0 w' := by
  obtain ⟨G, h1, h2, h3, h4, h5, h6⟩ := h
  refine (wbytes_any q bs G w h1 (by omega)).mono ?_
  rintro e w' ⟨v, rfl, ho, hb⟩
  have hv : ∃ A' c', v = .slice A' bs.length c' := by
    rcases ho.2 with ⟨rfl, h0⟩ | ⟨g, cap, cur, rfl, _⟩
    · exact ⟨none, 0, by rw [h0]⟩
    · exact ⟨_, _, rfl⟩
  obtain ⟨B, d, rfl⟩ := hv
  exact ⟨B, d, rfl, BS.of_own ho, h4.trans (hb.mono h4.size)⟩
set_option maxHeartbeats 8000000 in
theorem menc_any (m : Mg.M) (A : Option Addr) (n c : Nat) (w : World) (hl : IS w A n m.mem) (hn : n ≤ 1000) (hc : c ≤ 9223372036854775807) (hnum : Mg.Nums m) (ht : Half w) :
    Calls Tryd.prog 29 #[mgVal m A n c] w (SealP w (Mg.enc m)) := by
  have hb0 : Below w.heap.size w (w.alloc (.cells (mgCells m A n c) 60)) := (Below.refl _ _).alloc (Nat.le_refl _) _
  have hk0 := Blk.new w 60 (mgCells m A n c)
  have hmay := mgmay_any m A n c (w.alloc (.cells (mgCells m A n c) 60)) (hl.below hb0) (by omega) hc
  have hidx := fun k hk x hx => idx4 w.heap.size k hk x hx
  unfold mptrs mptr at hidx
  have HI := Lib.hid hidx
  have H := Lib.hid (And.intro hb0 (And.intro hk0 (And.intro hmay (And.intro hl (And.intro hnum (And.intro ht hl.1))))))
  have hble := Mg.body_le m
  rw [hl.1] at hble
  obtain ⟨R, hR⟩ : ∃ R, Mg.enc m = R := ⟨_, rfl⟩
  have HR := Lib.hid (And.intro hR hble)
  rw [hR]
  clear hb0 hk0 hmay hl hnum ht hidx hR hble
  cases hm : Mg.may m with
  | false =>
    have hrr : R = ([], 1) := by rw [← HR.out.1]; unfold Mg.enc; rw [hm, if_neg (by simp)]
    subst hrr
    have HM := Lib.hid hm
    clear hm
    go_enter Tryd.func29, Tryd.ntmps29
    go_wp2_with fail
    refine H.out.2.2.1.mono ?_
    rw [HM.out]
    rintro e w1 ⟨rfl, hb1⟩
    have H1 := Lib.hid (H.out.1.trans (hb1.mono H.out.1.size))
    clear hb1
    go_wp2_with fail
    go_ret2
    exact ⟨_, rfl, ⟨rfl, .inl ⟨rfl, rfl⟩⟩, H1.out⟩
  | true =>
    have hrr : R = Sl.sealE (Mg.body m) := by rw [← HR.out.1]; unfold Mg.enc; rw [if_pos hm]
    have HM := Lib.hid (And.intro hm hrr)
    clear hm hrr
    go_enter Tryd.func29, Tryd.ntmps29
    go_wp2_with fail
    refine H.out.2.2.1.mono ?_
    rw [HM.out.1]
    rintro e w1 ⟨rfl, hb1⟩
    have hst : EncSt w w.heap.size w1.heap.size m A n c [] (w1.alloc (.cells #[.slice none 0 0] 93)) := by
      have hbw := H.out.1.trans (hb1.mono H.out.1.size)
      have hs1 : w.heap.size + 1 ≤ w1.heap.size := by have := hb1.size; simpa using this
      exact ⟨_, WrAt.new w1, fun j hj => by omega, (H.out.2.1.below hb1 (by simp)).alloc _, hbw.alloc hbw.size _, by omega, hbw.size⟩
    have H1 := Lib.hid hst
    clear hb1 hst
    go_wp2_with fail
    generalize w1.alloc (.cells #[.slice none 0 0] 93) = w2 at *
    generalize w1.heap.size = q at *
    refine (numbers_any w.heap.size w2).mono ?_
    unfold mptrs mptr
    rintro e w3 ⟨rfl, hb3⟩
    have H3 := Lib.hid (show EncSt w w.heap.size q m A n c [] w3 by
      obtain ⟨G, h1, h2, h3, h4, h5, h6⟩ := H1.out
      exact ⟨G, h1.below hb3, h2, h3.below hb3 h3.lt, h4.trans (hb3.mono h4.size), h5, h6⟩)
    clear hb3
    go_wp2_with fail
    go_loopw [6, 13] (fun _ i wr => ∃ (k : Nat), k ≤ 4 ∧ i = .int .i64 k ∧ EncSt w w.heap.size q m A n c (Mg.headTo m k) wr) (fun _ i _ => 4 - (intOf i).toNat)
    case atStart => exact ⟨0, by omega, rfl, H3.out⟩
    case round =>
      obtain ⟨k, hk, rfl, hst⟩ := hrel
      clear H3
      by_cases hlt : k < 4
      · have hcell : wr.cell? ⟨w.heap.size, k, none⟩ = some (.int .i64 (m.vals.getD k 0)) := by
          obtain ⟨G, h1, h2, h3, _⟩ := hst
          exact mgcell h3 hlt
        have hxb := H.out.2.2.2.2.1.val hlt
        have hstep : Mg.headTo m (k + 1) = Mg.headTo m k ++ Sl.numB (m.vals.getD k 0) := Mg.flat_succ m.vals k hlt
        have hhl : (Mg.headTo m k).length ≤ 11 * 4 := Mg.flat_take_le m.vals k
        have hidx := HI.out k hlt k rfl
        generalize m.vals.getD k 0 = x at *
        have HN := Lib.hid (And.intro hst (And.intro hstep (And.intro hxb hhl)))
        clear hst hstep hxb hhl
        go_wp2_with fail
        refine (enc_num HN.out.1 x HN.out.2.2.1 (by have := HN.out.2.2.2; omega)).mono ?_
        rintro e w4 ⟨rfl, hw4⟩
        have H4 := Lib.hid hw4
        clear hw4
        go_wp2
        go_roundw
        case rel => exact ⟨k + 1, by omega, by go_num, by rw [HN.out.2.1]; exact H4.out⟩
        case measure => simp [intOf]; omega
      · obtain rfl : k = 4 := by omega
        have hcs : wr.cell? ⟨w.heap.size, 0, none⟩ = some (.int .i64 m.kind) ∧ wr.cell? ⟨w.heap.size, 4, none⟩ = some (.slice A n c) := by
          obtain ⟨G, h1, h2, h3, _⟩ := hst
          exact ⟨(mg_cells h3).1, (mg_cells h3).2.2.2.2⟩
        obtain ⟨c0, c4⟩ := hcs
        have hhl : (Mg.headTo m 4).length ≤ 11 * 4 := Mg.flat_take_le m.vals 4
        have HS := Lib.hid (And.intro hst hhl)
        clear hst hhl
        by_cases hk1 : m.kind = 1
        · have a1 : (m.kind == 1) = true := by simpa using hk1
          have hbd : Mg.body m = Mg.headTo m 4 ++ Sl.numB (n : Int) ++ Mg.memTo m n := by
            unfold Mg.body Mg.headTo Mg.memTo
            rw [if_pos hk1, ← H.out.2.2.2.2.2.2, List.take_of_length_le (Nat.le_refl _), List.append_assoc]
            rfl
          have HB := Lib.hid hbd
          clear hbd hk1
          go_wp2_with fail
          refine (enc_num HS.out.1 (n : Int) (by omega) (by have := HS.out.2; omega)).mono ?_
          rintro e w4 ⟨rfl, hw4⟩
          have hln := (Sl.numB_length (n : Int)).2
          have c4 : w4.cell? ⟨w.heap.size, 4, none⟩ = some (.slice A n c) := by
            obtain ⟨G, h1, h2, h3, _⟩ := hw4
            exact (mg_cells h3).2.2.2.2
          have H4 := Lib.hid (show EncSt w w.heap.size q m A n c (Mg.headTo m 4 ++ Sl.numB (n : Int) ++ Mg.memTo m 0) w4 by unfold Mg.memTo; simpa using hw4)
          have HN4 := Lib.hid hln
          clear hw4 hln c0
          go_wp2_with fail
          go_loopw [8, 31] (fun _ i wr => ∃ (k : Nat), k ≤ n ∧ i = .int .i64 k ∧ EncSt w w.heap.size q m A n c (Mg.headTo m 4 ++ Sl.numB (n : Int) ++ Mg.memTo m k) wr) (fun _ i _ => n - (intOf i).toNat)
          case atStart => exact ⟨0, by omega, rfl, H4.out⟩
          case round =>
            obtain ⟨k, hk, rfl, hst⟩ := hrel
            clear H4
            have hlen : (Mg.headTo m 4 ++ Sl.numB (n : Int) ++ Mg.memTo m k).length ≤ 11 * 4 + 11 + 11 * 1000 := by
              have h1 := HS.out.2
              have h2 := HN4.out
              have h3 : (Mg.memTo m k).length ≤ 11 * m.mem.length := Mg.flat_take_le m.mem k
              have h4 := H.out.2.2.2.2.2.2
              simp only [List.length_append]
              omega
            by_cases hlt : k < n
            · have hlb : Below w.heap.size w wr := by obtain ⟨G, _, _, _, h4, _⟩ := hst; exact h4
              obtain ⟨b, off, rfl, c8⟩ := is_at (H.out.2.2.2.1.below hlb) hlt
              have hxb := H.out.2.2.2.2.1.mem_ (k := k) (by rw [H.out.2.2.2.2.2.2]; exact hlt)
              have hstep : Mg.memTo m (k + 1) = Mg.memTo m k ++ Sl.numB (m.mem.getD k 0) := Mg.flat_succ m.mem k (by rw [H.out.2.2.2.2.2.2]; exact hlt)
              generalize m.mem.getD k 0 = x at *
              have HN := Lib.hid (And.intro hst (And.intro hstep (And.intro hxb hlen)))
              have hkn : (k : Int) < (n : Int) := by omega
              clear hst hstep hxb hlen hlb
              go_wp2_with fail
              refine (enc_num HN.out.1 x HN.out.2.2.1 (by have := HN.out.2.2.2; omega)).mono ?_
              rintro e w5 ⟨rfl, hw5⟩
              have H5 := Lib.hid hw5
              clear hw5
              go_wp2
              go_roundw
              case rel => exact ⟨k + 1, by omega, by go_num, by rw [HN.out.2.1, ← List.append_assoc]; exact H5.out⟩
              case measure => simp [intOf]; omega
            · obtain rfl : k = n := by omega
              have HN := Lib.hid (And.intro hst hlen)
              clear hst hlen
              go_wp2_with fail
              refine (enc_finish HN.out.1 (by have := HN.out.2; omega)).mono ?_
              rintro e w5 ⟨B, d, rfl, hbs, hb5⟩
              rw [← HB.out] at hbs ⊢
              have H5 := Lib.hid (And.intro hbs hb5)
              clear hbs hb5
              go_wp2_with fail
              refine (seal_any B _ d (Mg.body m) w5 H5.out.1 (by have := HR.out.2; omega) (H.out.2.2.2.2.2.1.below H5.out.2)).mono ?_
              rw [← HM.out.2]
              rintro e w6 ⟨v, rfl, ho6, hb6⟩
              have H6 := Lib.hid (And.intro ho6 (H5.out.2.trans (hb6.mono H5.out.2.size)))
              have H5s := H5.out.2.size
              clear hb6 ho6
              go_wp2_with fail
              go_ret2
              exact ⟨v, rfl, own_base H6.out.1 H5s, H6.out.2⟩
        · have a1 : (m.kind == 1) = false := by simpa using hk1
          have hbd : Mg.body m = Mg.headTo m 4 := by
            unfold Mg.body Mg.headTo
            rw [if_neg hk1, List.append_nil]
            rfl
          have HB := Lib.hid hbd
          clear hbd hk1
          go_wp2_with fail
          refine (enc_finish HS.out.1 (by have := HS.out.2; omega)).mono ?_
          rintro e w5 ⟨B, d, rfl, hbs, hb5⟩
          have H5 := Lib.hid (And.intro hbs hb5)
          clear hbs hb5
          go_wp2_with fail
          refine (seal_any B _ d (Mg.headTo m 4) w5 H5.out.1 (by have := HS.out.2; omega) (H.out.2.2.2.2.2.1.below H5.out.2)).mono ?_
          rw [← HB.out, ← HM.out.2]
          rintro e w6 ⟨v, rfl, ho6, hb6⟩
          have H6 := Lib.hid (And.intro ho6 (H5.out.2.trans (hb6.mono H5.out.2.size)))
          have H5s := H5.out.2.size
          clear hb6 ho6
          go_wp2_with fail
          go_ret2
          exact ⟨v, rfl, own_base H6.out.1 H5s, H6.out.2⟩
namespace Mg
theorem nums_small (m : M) (h : ∀ x ∈ m.vals, 0 ≤ x ∧ x ≤ 1099511627776) (h2 : m.mem = []) : Nums m := ⟨fun x hx => by have := h x hx; omega, fun x hx => by rw [h2] at hx; cases hx⟩
end Mg
set_option maxHeartbeats 4000000 in
theorem awake19_any (w : World) (ht : Half w) : Calls Tryd.prog 14 #[] w fun e w' => e = .returned (.bool true) ∧ Below w.heap.size w w' := by
  have hm : Mg.may ⟨7, 1, 2, 524291, []⟩ = true := by decide
  have hbl : (Mg.body ⟨7, 1, 2, 524291, []⟩).length ≤ 44 := by
    unfold Mg.body
    rw [if_neg (by decide), List.append_nil]
    exact Mg.flat_le _
  have hbl2 : 4 ≤ (Mg.body ⟨7, 1, 2, 524291, []⟩).length := by
    unfold Mg.body Mg.M.vals
    have h1 := (Sl.numB_length 7).1
    have h2 := (Sl.numB_length 1).1
    have h3 := (Sl.numB_length 2).1
    have h4 := (Sl.numB_length 524291).1
    simp only [List.flatMap_cons, List.flatMap_nil, List.length_append]
    omega
  have he : Mg.enc ⟨7, 1, 2, 524291, []⟩ = (Sl.sealB (Mg.body ⟨7, 1, 2, 524291, []⟩), 0) := by unfold Mg.enc Sl.sealE; rw [if_pos hm, if_neg (by omega)]
  have hsl : 9 ≤ (Sl.sealB (Mg.body ⟨7, 1, 2, 524291, []⟩)).length := by
    rw [Sl.sealB_length, Sl.textB_length]
    have := (Sl.numB_length (Mg.body ⟨7, 1, 2, 524291, []⟩).length).1
    omega
  have hen := menc_any ⟨7, 1, 2, 524291, []⟩ none 0 0 w (IS.empty _ _) (by omega) (by omega) (Mg.nums_small _ (by decide) rfl) ht
  rw [he] at hen
  generalize Sl.sealB (Mg.body ⟨7, 1, 2, 524291, []⟩) = S at *
  have hnum := mnumber_any 1 0 3 w
  rw [show Mg.number 1 0 3 = (524291, 0) by decide] at hnum
  have H := Lib.hid (And.intro hnum (And.intro hen hsl))
  clear hm hbl hbl2 he hen hnum ht
  go_enter Tryd.func14, Tryd.ntmps14
  go_wp2_with fail
  refine H.out.1.mono ?_
  rintro e w1 ⟨rfl, rfl⟩
  go_wp2_with fail
  refine H.out.2.1.mono ?_
  rintro e w2 ⟨v, rfl, ho, hb2⟩
  have hv : ∃ A' c', v = .slice A' S.length c' := by
    rcases ho.2 with ⟨rfl, h0⟩ | ⟨g, cap, cur, rfl, _⟩
    · exact ⟨none, 0, by rw [h0]⟩
    · exact ⟨_, _, rfl⟩
  obtain ⟨B, d, rfl⟩ := hv
  have H2 := Lib.hid hb2
  have h8 : 8 < S.length := by omega
  have h8i : decide ((8 : Int) < (S.length : Int)) = true := by simp; omega
  clear ho hb2 hsl
  go_wp2_with fail
  refine (mnodeof_any 524291 w2 (by omega)).mono ?_
  rw [show Mg.nodeOf 524291 = 3 by decide]
  rintro e w3 ⟨rfl, rfl⟩
  go_wp2_with fail
  go_ret
  exact ⟨rfl, H2.out⟩
end Go.Proofs.YtlpdjpkdgagjpaaDoor
