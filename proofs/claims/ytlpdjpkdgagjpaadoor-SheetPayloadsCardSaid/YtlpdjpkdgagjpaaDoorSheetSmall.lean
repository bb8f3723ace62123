/- The law's and the document's small functions of layer 8. -/
import Derived.Test.YtlpdjpkdgagjpaaDoorSheetLay
import Derived.Test.YtlpdjpkdgagjpaaDoorSame
import Derived.BigQuiet
import Derived.Deep.QuietTactic
import Derived.Deep.LoopGhost
namespace Go.Proofs.YtlpdjpkdgagjpaaDoor
open Go.RowKit Mem Lift
set_option linter.unusedVariables false
set_option linter.unusedSimpArgs false
set_option maxRecDepth 100000

namespace Sh
def great (bs : List (List UInt8)) : Bool := decide (40 < bs.length) || bs.any (fun b => decide (1500 < b.length))
theorem great_false {bs : List (List UInt8)} (h : great bs = false) : bs.length ≤ 40 ∧ ∀ b ∈ bs, b.length ≤ 1500 := by
  unfold great at h
  rw [Bool.or_eq_false_iff, decide_eq_false_iff_not, List.any_eq_false] at h
  refine ⟨by omega, fun b hb => ?_⟩
  have := h.2 b hb
  simpa using this
theorem great_at {bs : List (List UInt8)} {b : List UInt8} (hb : b ∈ bs) (h : 1500 < b.length) : great bs = true := by
  unfold great
  rw [Bool.or_eq_true, List.any_eq_true]
  exact .inr ⟨b, hb, by simpa using h⟩
theorem great_not {bs : List (List UInt8)} (h : bs.length ≤ 40) (h2 : ∀ k, k < bs.length → (bs.getD k []).length ≤ 1500) : great bs = false := by
  unfold great
  rw [Bool.or_eq_false_iff, decide_eq_false_iff_not, List.any_eq_false]
  refine ⟨by omega, fun b hb => ?_⟩
  obtain ⟨k, hk, rfl⟩ := List.getElem_of_mem hb
  have := h2 k hk
  rw [List.getD_eq_getElem?_getD, List.getElem?_eq_getElem hk] at this
  simpa using this
end Sh
set_option maxHeartbeats 2000000 in
theorem great08_any (A : Option Addr) (n c : Nat) (ls : List Bd) (w : World) (hl : ST bodyK w A n ls) :
    Calls Tryd.prog 15 #[.slice A n c] w fun e w' => e = .returned (.bool (Sh.great (bodiesOf ls))) ∧ w' = w := by
  have hlen : (bodiesOf ls).length = n := by rw [bodiesOf_length, hl.len]
  by_cases h40 : 40 < n
  · have hd : decide ((40 : Int) < (n : Int)) = true := by simp; omega
    have HR := Lib.hid (show Sh.great (bodiesOf ls) = true from by unfold Sh.great; rw [hlen, decide_eq_true h40]; rfl)
    clear hl hlen h40
    go_enter Tryd.func15, Tryd.ntmps15
    go_wp2_with fail
    go_ret
    exact ⟨by rw [HR.out]; rfl, rfl⟩
  · have hd : decide ((40 : Int) < (n : Int)) = false := by simp; omega
    have H := Lib.hid (And.intro hl hlen)
    clear hl hlen
    go_enter Tryd.func15, Tryd.ntmps15
    go_wp2_with fail
    go_loop [3] (fun s => ∃ k : Nat, k ≤ n ∧ s = .int .i64 k ∧ ∀ j, j < k → ((bodiesOf ls).getD j []).length ≤ 1500) (fun s => n - (intOf s).toNat)
    case atStart => exact ⟨0, by omega, rfl, fun j hj => absurd hj (by omega)⟩
    case round =>
      obtain ⟨k, hk, rfl, hj⟩ := hrel
      by_cases hlt : k < n
      · obtain ⟨b, off, x, rfl, hbl, c0, hx, hxc, hxm, _, hget, htk⟩ := body_at H.out.1 hlt
        have hkn : (k : Int) < (n : Int) := by omega
        have hxl := hx.1
        have hmem : x.b ∈ bodiesOf ls := by
          have : x.b ∈ (bodiesOf ls).take (k + 1) := by rw [htk]; simp
          exact List.mem_of_mem_take this
        obtain ⟨xA, xn, xc, xb⟩ := x
        simp only at *
        by_cases h15 : 1500 < xn
        · have HR := Lib.hid (Sh.great_at hmem (by omega))
          clear hj hx hget htk hmem hxl
          go_wp2_with fail
          go_ret
          exact ⟨by rw [HR.out]; rfl, rfl⟩
        · have HX := Lib.hid (show ∀ j, j < k + 1 → ((bodiesOf ls).getD j []).length ≤ 1500 from fun j hjk => by
            rcases Nat.lt_or_ge j k with h | h
            · exact hj j h
            · obtain rfl : j = k := by omega
              rw [hget]; omega)
          clear hj hx hget htk hmem hxl
          go_wp2_with fail
          go_round
          case rel => exact ⟨k + 1, by omega, by go_num, HX.out⟩
          case measure => simp [intOf]; omega
      · obtain rfl : k = n := by omega
        have HR := Lib.hid (Sh.great_not (by rw [H.out.2]; omega) (fun j hj2 => hj j (by rw [H.out.2] at hj2; exact hj2)))
        clear hj
        go_wp2_with fail
        go_ret
        exact ⟨by rw [HR.out]; rfl, rfl⟩
set_option maxHeartbeats 2000000 in
theorem ended08_any (A : Option Addr) (n c : Nat) (ls : List Bd) (sheets : Nat) (w : World) (hl : ST bodyK w A n ls) (hg : Sh.great (bodiesOf ls) = false) (hs : sheets ≤ 1000000) :
    Calls Tryd.prog 23 #[.slice A n c, .int .i64 (sheets : Int)] w fun e w' => e = .returned (.int .i64 (Sh.ended (bodiesOf ls) (242 * sheets) : Nat)) ∧ w' = w := by
  have hlen : (bodiesOf ls).length = n := by rw [bodiesOf_length, hl.len]
  have hgr := Sh.great_false hg
  have hn : n ≤ 40 := by rw [← hlen]; exact hgr.1
  have H := Lib.hid (And.intro hl (And.intro hlen hgr.2))
  clear hl hlen hgr hg
  go_enter Tryd.func23, Tryd.ntmps23
  go_wp2_with fail
  go_loop [5, 6] (fun s t => ∃ k at_ : Nat, k ≤ n ∧ t = .int .i64 k ∧ s = .int .i64 at_ ∧ at_ = (Sh.flat ((bodiesOf ls).take k)).length ∧ at_ ≤ 242 * sheets ∧ at_ ≤ 1506 * k) (fun _ t => n - (intOf t).toNat)
  case atStart => exact ⟨0, 0, by omega, rfl, rfl, rfl, by omega, by omega⟩
  case round =>
    obtain ⟨k, at_, hk, rfl, rfl, hat, hle, hbd⟩ := hrel
    by_cases hlt : k < n
    · obtain ⟨b, off, x, rfl, hbl, c0, hx, hxc, hxm, _, hget, htk⟩ := body_at H.out.1 hlt
      have hkn : (k : Int) < (n : Int) := by omega
      have hxl := hx.1
      have hmem : x.b ∈ bodiesOf ls := by
        have : x.b ∈ (bodiesOf ls).take (k + 1) := by rw [htk]; simp
        exact List.mem_of_mem_take this
      have hx15 := H.out.2.2 _ hmem
      have hsl := Sh.seal_len x.b (by omega)
      have hfe : (Sh.flat ((bodiesOf ls).take (k + 1))).length = at_ + (Sl.sealB x.b).length := by rw [htk, Sh.flat_append, Sh.flat_cons, Sh.flat_nil, List.append_nil, List.length_append, hat]
      have hend : 242 * sheets < at_ + (Sl.sealB x.b).length → Sh.ended (bodiesOf ls) (242 * sheets) = k := fun h => by
        have h1 := Sh.ended_eq ((bodiesOf ls).take k) ((bodiesOf ls).drop k) (242 * sheets) (by rw [← hat]; exact hle) (fun b' r' e => by
          have h2 : (bodiesOf ls).drop k = x.b :: (bodiesOf ls).drop (k + 1) := by
            rw [List.drop_eq_getElem_cons (by rw [H.out.2.1]; exact hlt)]
            congr 1
            rw [← hget, List.getD_eq_getElem?_getD, List.getElem?_eq_getElem (by rw [H.out.2.1]; exact hlt)]
            rfl
          rw [h2] at e
          injection e with e _
          rw [← e, ← hat]; exact h)
        rw [List.take_append_drop, List.length_take, H.out.2.1] at h1
        omega
      obtain ⟨xA, xn, xc, xb⟩ := x
      simp only at *
      rw [hxl] at hsl hx15
      have HX := Lib.hid (And.intro hat (And.intro hfe hend))
      by_cases h127 : 127 < xn
      · rw [if_pos h127] at hsl
        by_cases hov : 242 * sheets < at_ + xn + 6
        · have HR := Lib.hid (hend (by omega))
          have ho : (242 * (sheets : Int)) < (at_ : Int) + ((xn : Int) + 5) + 1 := by omega
          clear hx hget htk hmem hxl hsl hfe hend hat
          go_wp2_with fail
          go_ret
          exact ⟨by rw [HR.out]; rfl, rfl⟩
        · have hR : at_ + xn + 6 = (Sh.flat ((bodiesOf ls).take (k + 1))).length := by omega
          have HR := Lib.hid hR
          have ho : ¬ (242 * (sheets : Int)) < (at_ : Int) + ((xn : Int) + 5) + 1 := by omega
          clear hx hget htk hmem hxl hsl hfe hend hat hR
          go_wp2_with fail
          go_round
          case rel => exact ⟨k + 1, at_ + xn + 6, by omega, by go_num, by go_num, HR.out, by omega, by omega⟩
          case measure => simp [intOf]; omega
      · rw [if_neg h127] at hsl
        by_cases hov : 242 * sheets < at_ + xn + 5
        · have HR := Lib.hid (hend (by omega))
          have ho : (242 * (sheets : Int)) < (at_ : Int) + ((xn : Int) + 5) := by omega
          clear hx hget htk hmem hxl hsl hfe hend hat
          go_wp2_with fail
          go_ret
          exact ⟨by rw [HR.out]; rfl, rfl⟩
        · have hR : at_ + xn + 5 = (Sh.flat ((bodiesOf ls).take (k + 1))).length := by omega
          have HR := Lib.hid hR
          have ho : ¬ (242 * (sheets : Int)) < (at_ : Int) + ((xn : Int) + 5) := by omega
          clear hx hget htk hmem hxl hsl hfe hend hat hR
          go_wp2_with fail
          go_round
          case rel => exact ⟨k + 1, at_ + xn + 5, by omega, by go_num, by go_num, HR.out, by omega, by omega⟩
          case measure => simp [intOf]; omega
    · obtain rfl : k = n := by omega
      have hR : Sh.ended (bodiesOf ls) (242 * sheets) = k := by
        have h1 := Sh.ended_eq (bodiesOf ls) [] (242 * sheets) (by rw [List.take_of_length_le (by rw [H.out.2.1]; exact Nat.le_refl _)] at hat; rw [← hat]; exact hle) (fun b' r' e => by cases e)
        rw [List.append_nil, H.out.2.1] at h1
        exact h1
      have HR := Lib.hid hR
      clear hR hat
      go_wp2_with fail
      go_ret
      exact ⟨by rw [HR.out]; rfl, rfl⟩
set_option maxHeartbeats 4000000 in
theorem bodies08_eq (A B : Option Addr) (n c d : Nat) (fl : List (List UInt8 × Nat)) (ls : List Bd) (w : World) (ha : ST foundK w A n fl) (hb : ST bodyK w B n ls) (he : fl.map Prod.fst = bodiesOf ls) (hn : n ≤ 1000000) :
    Calls Tryd.prog 21 #[.slice A n c, .slice B n d] w fun e w' => e = .returned (.bool true) ∧ Drawn w w' := by
  have H := Lib.hid (And.intro ha (And.intro hb he))
  clear ha hb he
  go_enter Tryd.func21, Tryd.ntmps21
  go_wp2_with fail
  go_loopg [5] n (fun gk s wr => ∃ k q : Nat, k ≤ n ∧ gk = n - k ∧ s = .int .i64 k ∧ wr = w.drewN q)
  case atStart => exact ⟨0, 0, by omega, rfl, rfl, rfl⟩
  case round =>
    obtain ⟨k, q, hk, rfl, rfl, rfl⟩ := hrel
    by_cases hlt : k < n
    · have hkn : (k : Int) < (n : Int) := by omega
      obtain ⟨b, off, x, rfl, hbl, c0, hx, hxc, hxm, _, hget, htk⟩ := body_at H.out.2.1 hlt
      obtain ⟨b', off', rfl, _, hc, _⟩ := H.out.1.at_ hlt
      have d0 := hc 0 (by decide)
      have hfx : (fl.getD k foundK.zero).1 = x.b := by
        rw [← hget, ← H.out.2.2]
        have hkl : k < fl.length := by rw [H.out.1.len]; exact hlt
        rw [List.getD_eq_getElem?_getD, List.getD_eq_getElem?_getD, List.getElem?_map, List.getElem?_eq_getElem hkl]
        rfl
      simp only [foundK, List.getElem?_cons_zero, Nat.add_zero] at d0
      have hfx' := hfx
      simp only [foundK] at hfx'
      rw [hfx'] at d0
      have hcv := fun nq => conv_bytes0 hx x.c (w.drewN nq) (fun _ => rfl)
      unfold str at hcv
      obtain ⟨xA, xn, xc, xb⟩ := x
      simp only at *
      have HX := Lib.hid hx
      clear hx hget htk hfx hfx' hc
      go_wp2
      go_quiet (fail)
      go_wp2_with fail
      go_roundg (n - (k + 1))
      case measure => omega
      case rel => exact ⟨k + 1, _, by omega, rfl, by go_num, rfl⟩
    · obtain rfl : k = n := by omega
      go_wp2_with fail
      go_ret
      exact ⟨rfl, ⟨q, rfl⟩⟩
set_option maxHeartbeats 4000000 in
theorem same08_eq (A B : Option Addr) (n c d : Nat) (l : List Sh.Sd) (w : World) (ha : ST sheetK w A n l) (hb : ST sheetK w B n l) (hn : n ≤ 1000000) :
    Calls Tryd.prog 20 #[.slice A n c, .slice B n d] w fun e w' => e = .returned (.bool true) ∧ Drawn w w' := by
  have H := Lib.hid (And.intro ha hb)
  clear ha hb
  go_enter Tryd.func20, Tryd.ntmps20
  go_wp2_with fail
  go_loopg [5] n (fun gk s wr => ∃ k q : Nat, k ≤ n ∧ gk = n - k ∧ s = .int .i64 k ∧ wr = w.drewN q)
  case atStart => exact ⟨0, 0, by omega, rfl, rfl, rfl⟩
  case round =>
    obtain ⟨k, q, hk, rfl, rfl, rfl⟩ := hrel
    by_cases hlt : k < n
    · have hkn : (k : Int) < (n : Int) := by omega
      obtain ⟨b, off, rfl, hbl, c0, c1, c2, c3, _⟩ := sheet_at H.out.1 hlt
      obtain ⟨b', off', rfl, hbl', d0, d1, d2, d3, _⟩ := sheet_at H.out.2 hlt
      generalize l.getD k Sh.sd0 = x at *
      go_wp2
      go_quiet (fail)
      go_wp2_with fail
      go_roundg (n - (k + 1))
      case measure => omega
      case rel => exact ⟨k + 1, _, by omega, rfl, by go_num, rfl⟩
    · obtain rfl : k = n := by omega
      go_wp2_with fail
      go_ret
      exact ⟨rfl, ⟨q, rfl⟩⟩
/-- bodies of the call's own -/
def OwnBsP (w0 : World) (bs : List (List UInt8)) (e : Ending) (w' : World) : Prop := ∃ A c xs, e = .returned (.slice A bs.length c) ∧ ST bodyK w' A bs.length xs ∧ bodiesOf xs = bs ∧ Below w0.heap.size w0 w'
theorem bodyK_len : ∀ x, (bodyK.cells x).length = bodyK.k := fun _ => rfl
theorem bodyK_one : ∀ x, ∀ u ∈ bodyK.cells x, u.oneCell' = true := by
  intro x u hu
  simp only [bodyK, List.mem_singleton] at hu
  subst hu
  rfl
theorem finfoBody : (Tryd.prog.info? 38).map (fun i => (i.zero, i.size, i.bytes)) = some (some (.slice none 0 0), 1, 24) := by kernel_rfl
/-- what lies behind k bodies -/
structure OwnBs (w0 : World) (bs : List (List UInt8)) (k : Nat) (A : Option Addr) (c : Nat) (xs : List Bd) (w : World) : Prop where
  row : w.ownsRow w0.heap.size 38 1 (.slice A k c) k (rowOf bodyK xs)
  each : ∀ x ∈ xs, RS w x.A x.n x.c x.b
  eq : bodiesOf xs = bs.take k
  len : xs.length = k
  below : Below w0.heap.size w0 w
theorem RS.bd {w : World} {x : Bd} (h : RS w x.A x.n x.c x.b) : bodyK.ok w x := ⟨h.1, h.2.1, h.2.2.1⟩
theorem st_body {w : World} {g : Nat} {x : Bd} (h : Blk w g 38 #[.slice x.A x.n x.c]) (hs : bodyK.ok w x) : ST bodyK w (some ⟨g, 0, none⟩) 1 [x] := by
  refine ⟨rfl, fun y hy => ?_, fun _ => ⟨g, 0, rfl, h.lt, fun i hi j hj => ?_⟩⟩
  · rw [List.mem_singleton] at hy; subst hy; exact hs
  · obtain rfl : i = 0 := by simpa using hi
    rw [Nat.zero_add, Nat.zero_mul, Nat.zero_add, h.cell j]
    simp [bodyK]
theorem RS.alloc {w : World} {A : Option Addr} {n c : Nat} {bs : List UInt8} (h : RS w A n c bs) (o : Obj) : RS (w.alloc o) A n c bs := h.below ((Below.refl _ _).alloc (Nat.le_refl _) _)
theorem RS.other {w w' : World} {A : Option Addr} {n c base m size : Nat} {e : TypeId} {v : Value} {xs : List Value} {bs : List UInt8} (h : RS w A n c bs) (ho : w.ownsRow base e size v m xs) (he : e ≠ 5) (hg : w.grownBy w' v.ownBlock) : RS w' A n c bs := by
  refine h.keep hg.size (fun k cs fr hk => hg.block k (heap_lt' hk) (fun e2 => ?_))
  obtain ⟨cur, hc⟩ := own_block ho e2.symm
  rw [hc] at hk
  injection hk with hk
  injection hk with _ hk
  exact he hk
theorem own_step {w0 wr w1 : World} {bs : List (List UInt8)} {k : Nat} {A3 : Option Addr} {c3 : Nat} {xs : List Bd} (h : OwnBs w0 bs k A3 c3 xs wr) {A1 : Option Addr} {c1 xn : Nat} {xb : List UInt8} (hown : w1.ownsRow wr.heap.size 5 1 (.slice A1 xn c1) xn (u8s xb)) (hb : Below wr.heap.size wr w1) :
    (w1.alloc (.cells #[.slice A1 xn c1] 38)).ownsRow w0.heap.size 38 1 (.slice A3 k c3) k (rowOf bodyK xs) ∧ ST bodyK (w1.alloc (.cells #[.slice A1 xn c1] 38)) (some ⟨w1.heap.size, 0, none⟩) 1 [⟨A1, xn, c1, xb⟩] ∧ (∀ x ∈ xs ++ [⟨A1, xn, c1, xb⟩], RS (w1.alloc (.cells #[.slice A1 xn c1] 38)) x.A x.n x.c x.b) ∧ Below w0.heap.size w0 (w1.alloc (.cells #[.slice A1 xn c1] 38)) := by
  have hb2 : Below w1.heap.size w1 (w1.alloc (.cells #[.slice A1 xn c1] 38)) := (Below.refl _ _).alloc (Nat.le_refl _) _
  have hr1 : RS (w1.alloc (.cells #[.slice A1 xn c1] 38)) A1 xn c1 xb := (RS.of_own hown).alloc _
  have hbb := h.below.trans (hb.mono h.below.size)
  refine ⟨own_below (own_below h.row hb) hb2, st_body (x := ⟨A1, xn, c1, xb⟩) (Blk.new _ _ _) hr1.bd, fun x hx => ?_, hbb.trans (hb2.mono hbb.size)⟩
  rw [List.mem_append, List.mem_singleton] at hx
  rcases hx with hx | rfl
  · exact ((h.each x hx).below hb).below hb2
  · exact hr1
theorem own_next {w0 wr w1 w7 : World} {bs : List (List UInt8)} {k : Nat} {A3 : Option Addr} {c3 : Nat} {xs : List Bd} (h : OwnBs w0 bs k A3 c3 xs wr) {A1 : Option Addr} {c1 xn : Nat} {xb : List UInt8} {Z : World}
    (h1 : Z.ownsRow w0.heap.size 38 1 (.slice A3 k c3) k (rowOf bodyK xs) ∧ ST bodyK Z (some ⟨w1.heap.size, 0, none⟩) 1 [⟨A1, xn, c1, xb⟩] ∧ (∀ x ∈ xs ++ [⟨A1, xn, c1, xb⟩], RS Z x.A x.n x.c x.b) ∧ Below w0.heap.size w0 Z) (htk : bs.take (k + 1) = bs.take k ++ [xb])
    {A7 : Option Addr} {c7 : Nat} (hown : w7.ownsRow w0.heap.size 38 1 (.slice A7 (k + 1) c7) (k + 1) (rowOf bodyK xs ++ rowOf bodyK [⟨A1, xn, c1, xb⟩])) (hg : Z.grownBy w7 (Value.slice A3 k c3).ownBlock) : OwnBs w0 bs (k + 1) A7 c7 (xs ++ [⟨A1, xn, c1, xb⟩]) w7 := by
  refine ⟨by rw [rowOf_append]; exact hown, fun x hx => (h1.2.2.1 x hx).other h1.1 (by decide) hg, ?_, by rw [List.length_append, h.len]; rfl, h1.2.2.2.grown hg h1.2.2.2.size (fun j hj => own_ge h1.1 hj)⟩
  rw [htk, ← h.eq]
  simp [bodiesOf]
set_option maxHeartbeats 4000000 in
theorem own08_any (A : Option Addr) (n c : Nat) (ls : List Bd) (bs : List (List UInt8)) (w : World) (hbs : bs = bodiesOf ls) (hl : ST bodyK w A n ls) (hn : n ≤ 100000) (hb : ∀ b ∈ bs, b.length ≤ 100000) :
    Calls Tryd.prog 18 #[.slice A n c] w (OwnBsP w bs) := by
  have hlen : bs.length = n := by rw [hbs, bodiesOf_length, hl.len]
  have H := Lib.hid (And.intro hl (And.intro hbs (And.intro hlen hb)))
  clear hl hbs hlen hb
  obtain ⟨i8, hi8, hz0, hz1, hz2⟩ := info_parts ninfo8
  have HI := Lib.hid (And.intro hi8 (And.intro hz0 (And.intro hz1 hz2)))
  clear hi8 hz0 hz1 hz2
  obtain ⟨iB, hj0, hj1, hj2, hj3⟩ := info_parts finfoBody
  have HJ := Lib.hid (And.intro hj0 (And.intro hj1 (And.intro hj2 hj3)))
  clear hj0 hj1 hj2 hj3
  go_enter Tryd.func18, Tryd.ntmps18
  go_wp2_with fail
  go_loopw [3, 4] (fun s3 s4 wr => ∃ (k : Nat) (A3 : Option Addr) (c3 : Nat) (xs : List Bd), k ≤ n ∧ s4 = .int .i64 k ∧ s3 = .slice A3 k c3 ∧ OwnBs w bs k A3 c3 xs wr) (fun _ s4 _ => n - (intOf s4).toNat)
  case atStart => exact ⟨0, none, 0, [], by omega, rfl, rfl, own_nilK _, (fun x hx => by cases hx), rfl, rfl, Below.refl _ _⟩
  case round =>
    obtain ⟨k, A3, c3, xs, hk, rfl, rfl, hO⟩ := hrel
    by_cases hlt : k < n
    · obtain ⟨b, off, x, rfl, hbl, c0, hx, hxc, hxm, _, hget, htk⟩ := body_at (H.out.1.below hO.below) hlt
      rw [← H.out.2.1] at hget htk
      have hkn : (k : Int) < (n : Int) := by omega
      have hmem : x.b ∈ bs := by
        have : x.b ∈ bs.take (k + 1) := by rw [htk]; simp
        exact List.mem_of_mem_take this
      have hx15 := H.out.2.2.2 _ hmem
      have hxl := hx.1
      obtain ⟨xA, xn, xc, xb⟩ := x
      simp only at *
      have hoe : (wr.alloc (.cells #[] 5)).ownsRow wr.heap.size 5 1 (.slice (some ⟨wr.heap.size, 0, none⟩) 0 0) 0 [] := World.ownsRow_made wr #[] 0 (Nat.le_refl _) (by simp [maxLen]) (by simp)
      have hba := hx.below ((Below.refl _ _).alloc (Nat.le_refl _) (.cells #[] 5))
      have HX := Lib.hid (And.intro hO (And.intro hoe (And.intro hba (And.intro htk hxl))))
      clear hO hoe hba htk hget hmem hx
      have hxn : xn ≤ 100000 := by omega
      clear hx15 hxl
      go_wp2_with (first
        | (at_builtin; refine wpList_append_bs _ rfl (.tmp 12) (.tmp 16) 38 rfl wr.heap.size 5 i8 Tryd.underlying38 HI.out.1 HI.out.2.1 HI.out.2.2.1 HI.out.2.2.2 (.slice (some ⟨wr.heap.size, 0, none⟩) 0 0) 0 [] rfl HX.out.2.1 xA xn xc xb rfl HX.out.2.2.1 (by omega) (by simp) ?_; intro v1 w1 hown1 hg1 _; rw [List.nil_append, Nat.zero_add] at hown1; obtain ⟨A1, c1, rfl⟩ := own_slice hown1; have hb1 : Below wr.heap.size wr w1 := ((Below.refl _ _).alloc (Nat.le_refl _) _).grown hg1 (by simp) (by simp [Value.ownBlock]); have H1 := Lib.hid (own_step HX.out.1 hown1 hb1); clear hown1 hg1 hb1)
        | (at_builtin; refine wpList_append_st _ bodyK_len (by decide) bodyK_one rfl (.tmp 11) (.tmp 18) 30 rfl w.heap.size 38 iB (.slice none 0 0) 24 Tryd.underlying30 HJ.out.1 HJ.out.2.1 HJ.out.2.2.1 HJ.out.2.2.2 rfl (by omega) (.slice A3 k c3) k (rowOf bodyK xs) rfl H1.out.1 (some ⟨w1.heap.size, 0, none⟩) 1 1 [⟨A1, xn, c1, xb⟩] rfl H1.out.2.1 (by omega) H1.out.2.2.2.size ?_; intro A7 c7 w7 hown7 hg7 _; have H7 := Lib.hid (own_next HX.out.1 H1.out HX.out.2.2.2.1 hown7 hg7); clear hown7 hg7))
      go_roundw
      case rel => exact ⟨k + 1, A7, c7, xs ++ [⟨A1, xn, c1, xb⟩], by omega, by go_num, rfl, H7.out⟩
      case measure => simp [intOf]; omega
    · obtain rfl : k = n := by omega
      have HX := Lib.hid hO
      clear hO
      go_wp2_with fail
      go_ret
      have hr := HX.out.row
      have hst := ST.of_own bodyK_len (by decide) hr (fun x hx => (HX.out.each x hx).bd)
      have he := HX.out.eq
      rw [List.take_of_length_le (by rw [H.out.2.2.1]; exact Nat.le_refl _)] at he
      refine ⟨A3, c3, xs, ?_, ?_, he, HX.out.below⟩
      · rw [H.out.2.2.1]; rfl
      · rw [H.out.2.2.1]; exact hst
end Go.Proofs.YtlpdjpkdgagjpaaDoor
