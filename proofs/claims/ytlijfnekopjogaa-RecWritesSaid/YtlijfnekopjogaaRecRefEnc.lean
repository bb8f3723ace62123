/- RecRefEnc: joined out of RecRefE, RecRefF, RecRefG. -/
import Derived.Test.YtlijfnekopjogaaRecEncs
import Derived.Test.YtlijfnekopjogaaOutB
import Derived.Test.YtlijfnekopjogaaRecD0
import Derived.Deep.DeepCutAuto
import Derived.Deep.LoopGhost
import Derived.Test.YtlijfnekopjogaaRecMayR
/- The document's bytes of a record: a number, a value, lists of numbers and of locks (printed by gen_renc.py). -/
namespace Go.Proofs.Ytlijfnekopjogaa
open Go Go.RowKit Mem Rc
set_option maxRecDepth 100000
set_option linter.unusedVariables false
set_option linter.unusedSimpArgs false

theorem own_one8 (w : World) (v : Value) : (w.alloc (.cells #[v] 5)).ownsRow w.heap.size 5 1 (.slice (some ⟨w.heap.size, 0, none⟩) 1 1) 1 [v] :=
  ⟨rfl, .inr ⟨w.heap.size, 1, #[v], rfl, Nat.le_refl _, heap_alloc_new w _, Nat.le_refl _, by simp [maxLen], by simp, by simp⟩⟩
theorem str_data (s : ByteArray) : str s.data.toList = .string s := rfl
theorem fnum_any (n : Int) (w : World) (hn : -9223372036854775808 ≤ n ∧ n ≤ 9223372036854775807) : Calls Try.prog 21 #[.int .i64 n] w (OwnB 5 w (Sl.numB n)) := by
  have H0 := Lib.hid (refNum_any n w hn)
  clear hn
  go_enter Try.func21, Try.ntmps21
  go_wp2_with fail
  refine H0.out.mono ?_
  rintro e w1 ⟨v, rfl, ho, hb⟩
  have H := Lib.hid (And.intro ho hb)
  clear ho hb
  go_wp2_with fail
  go_ret
  exact ⟨v, rfl, H.out.1, H.out.2⟩
theorem ftext_any (s : ByteArray) (w : World) (hs : s.size ≤ 1000) : Calls Try.prog 23 #[.string s] w (OwnB 5 w (Sl.textB s.data.toList)) := by
  have h := refText_any s.data.toList w (by rw [Array.length_toList]; show s.size ≤ _; omega)
  rwa [str_data] at h
set_option maxHeartbeats 4000000 in
theorem fval_any (v : V) (w : World) (hv : vC.fine v) : Calls Try.prog 24 #[vVal v] w (OwnB 5 w (vC.enc v)) := by
  obtain ⟨has, data⟩ := v
  cases has with
  | false =>
    have hb0 : Below w.heap.size w (w.alloc (.cells #[.bool false, .string data] 23)) := (Below.refl _ _).alloc (Nat.le_refl _) _
    have ho := own_base (own_one8 (w.alloc (.cells #[.bool false, .string data] 23)) (.int .u8 0)) hb0.size
    simp only [World.size_alloc] at ho
    have H := Lib.hid (And.intro ho (hb0.trans (((Below.refl _ _).alloc (Nat.le_refl _) (.cells #[.int .u8 0] 5)).mono hb0.size)))
    clear hb0 ho hv
    go_enter Try.func24, Try.ntmps24
    go_wp2_with fail
    go_ret
    exact ⟨_, rfl, H.out.1, H.out.2⟩
  | true =>
    have hd : data.size ≤ 32 := by
      rcases hv with h | h
      · exact h.2
      · exact absurd h.1 (by simp)
    obtain ⟨W, hW⟩ : ∃ W, w.alloc (.cells #[.bool true, .string data] 23) = W := ⟨_, rfl⟩
    have hb0 : Below w.heap.size w W := by rw [← hW]; exact (Below.refl _ _).alloc (Nat.le_refl _) _
    have hB : Blk W w.heap.size 23 #[.bool true, .string data] := by rw [← hW]; exact Blk.new _ _ _
    have c0 : W.cell? ⟨w.heap.size, 0, none⟩ = some (.bool true) := hB.cell 0
    obtain ⟨W1, hW1⟩ : ∃ W1, W.alloc (.cells #[.int .u8 1] 5) = W1 := ⟨_, rfl⟩
    have hb1 : Below W.heap.size W W1 := by rw [← hW1]; exact (Below.refl _ _).alloc (Nat.le_refl _) _
    have c1 : W1.cell? ⟨w.heap.size, 1, none⟩ = some (.string data) := cell_below hb1 (hB.cell 1)
    have hO : Out w (some ⟨W.heap.size, 0, none⟩) 1 1 [1] W1 := ⟨by rw [← hW1]; exact own_base (own_one8 W (.int .u8 1)) hb0.size, hb0.trans (hb1.mono hb0.size)⟩
    have H := Lib.hid (And.intro hO (ftext_any data W1 (by omega)))
    have hl := len_text hd
    clear hb0 hB hb1 hO hv hd
    go_enter Try.func24, Try.ntmps24
    go_wp2_with fail
    refine H.out.2.mono ?_
    rintro e w2 ⟨v2, rfl, ho2, hb2⟩
    obtain ⟨B2, f2, rfl, hO2, hB2⟩ := H.out.1.next ho2 hb2
    have H2 := Lib.hid (And.intro hO2 hB2)
    clear ho2 hb2 hO2 hB2
    go_wp2_with (at_builtin; refine wpList_out rfl (.tmp 9) (.tmp 12) rfl H2.out.1 rfl rfl H2.out.2 (by omega) ?_; intro A3 d3 w3 hO3; have H3 := Lib.hid hO3; clear hO3)
    go_ret
    refine ⟨_, rfl, ?_, H3.out.below⟩
    rw [show (vC.enc ⟨true, data⟩) = [1] ++ Sl.textB data.data.toList from rfl, List.length_append]
    exact H3.out.own
set_option maxHeartbeats 8000000 in
theorem fints_any (A : Option Addr) (n c : Nat) (l : List Int) (w : World) (hl : IS w A n l) (hn : n ≤ 1000) (hk : ∀ k, k < n → nOk (l.getD k 0)) : Calls Try.prog 25 #[.slice A n c] w (OwnB 5 w (iC.enc l)) := by
  rw [show iC.enc l = Sl.numB (l.length : Int) ++ l.flatMap Sl.numB from rfl, hl.1]
  have H := Lib.hid (And.intro hl (And.intro hl.1 hk))
  have g1 := num_le (n : Int)
  clear hl hk
  go_enter Try.func25, Try.ntmps25
  go_wp2_with fail
  refine (fnum_any (n : Int) w (by omega)).mono ?_
  rintro e w1 ⟨v1, rfl, ho1, hb1⟩
  obtain ⟨A1, d1, rfl, hO1⟩ := Out.first ho1 hb1 (Below.refl _ _)
  have H1 := Lib.hid hO1
  clear ho1 hb1 hO1
  go_wp2_with fail
  go_loopg [3, 4] n (fun gk s3 s4 wr => ∃ (k : Nat) (A' : Option Addr) (N d : Nat), k ≤ n ∧ gk = n - k ∧ s4 = .int .i64 k ∧ s3 = .slice A' N d ∧ N ≤ 11 + 11 * k ∧ Out w A' N d (Sl.numB (n : Int) ++ (l.take k).flatMap Sl.numB) wr)
  case atStart => exact ⟨0, _, _, _, by omega, by omega, rfl, rfl, by omega, by simpa using H1.out⟩
  case round =>
    obtain ⟨k, A', N, d, hk, rfl, rfl, rfl, hNk, hO⟩ := hrel
    clear H1
    by_cases hlt : k < n
    · obtain ⟨b, off, rfl, c0⟩ := is_at (H.out.1.below hO.below) hlt
      have hstep := flatB_succ l k (by rw [H.out.2.1]; exact hlt)
      have hxb := H.out.2.2 k hlt
      have g2 := num_le (l.getD k 0)
      generalize l.getD k 0 = y at *
      have H0 := Lib.hid hO
      have HX := Lib.hid (And.intro hstep (show -9223372036854775808 ≤ y ∧ y ≤ 9223372036854775807 by unfold nOk at hxb; omega))
      have hkn : (k : Int) < (n : Int) := by omega
      clear hO hstep hxb
      go_wp2_with fail
      refine (fnum_any y _ HX.out.2).mono ?_
      rintro e x0 ⟨v0, rfl, ho, hb⟩
      obtain ⟨B0, f0, rfl, hO, hB⟩ := H0.out.next ho hb
      have G0 := Lib.hid (And.intro hO hB)
      clear ho hb hO hB
      go_wp2_with (at_builtin; refine wpList_out rfl (.tmp 14) (.tmp 19) rfl G0.out.1 rfl rfl G0.out.2 (by omega) ?_; intro A1 d1 w1 hO; have H1 := Lib.hid hO; clear hO)
      go_roundg (n - (k + 1))
      case measure => omega
      case rel => exact ⟨k + 1, _, _, _, by omega, rfl, by go_num, rfl, by omega, by rw [HX.out.1, ← List.append_assoc]; exact H1.out⟩
    · obtain rfl : k = n := by omega
      have HF := Lib.hid (show Out w A' N d (Sl.numB (k : Int) ++ l.flatMap Sl.numB) wr by rw [List.take_of_length_le (by rw [H.out.2.1]; exact Nat.le_refl _)] at hO; exact hO)
      have hN := HF.out.len
      clear hO
      go_wp2_with fail
      go_ret
      exact ⟨_, rfl, by rw [hN]; exact HF.out.own, HF.out.below⟩
set_option maxHeartbeats 8000000 in
theorem flocksE_any (A : Option Addr) (n c : Nat) (l : List L) (w : World) (hl : ST lockK w A n l) (hn : n ≤ 1000) (hk : ∀ k, k < n → (l.getD k L.zero).key.size ≤ 32) : Calls Try.prog 26 #[.slice A n c] w (OwnB 5 w (lsC.enc l)) := by
  rw [show lsC.enc l = Sl.numB (l.length : Int) ++ l.flatMap lC.enc from rfl, hl.len]
  have H := Lib.hid (And.intro hl (And.intro hl.len hk))
  have g1 := num_le (n : Int)
  clear hl hk
  go_enter Try.func26, Try.ntmps26
  go_wp2_with fail
  refine (fnum_any (n : Int) w (by omega)).mono ?_
  rintro e w1 ⟨v1, rfl, ho1, hb1⟩
  obtain ⟨A1, d1, rfl, hO1⟩ := Out.first ho1 hb1 (Below.refl _ _)
  have H1 := Lib.hid hO1
  clear ho1 hb1 hO1
  go_wp2_with fail
  go_loopg [3, 4] n (fun gk s3 s4 wr => ∃ (k : Nat) (A' : Option Addr) (N d : Nat), k ≤ n ∧ gk = n - k ∧ s4 = .int .i64 k ∧ s3 = .slice A' N d ∧ N ≤ 11 + 44 * k ∧ Out w A' N d (Sl.numB (n : Int) ++ (l.take k).flatMap lC.enc) wr)
  case atStart => exact ⟨0, _, _, _, by omega, by omega, rfl, rfl, by omega, by simpa using H1.out⟩
  case round =>
    obtain ⟨k, A', N, d, hk, rfl, rfl, rfl, hNk, hO⟩ := hrel
    clear H1
    by_cases hlt : k < n
    · obtain ⟨b, off, hA, hbl, c0', c1'⟩ := lock_at H.out.1 hlt
      obtain ⟨y, hy⟩ : ∃ y, l.getD k L.zero = y := ⟨_, rfl⟩
      have hstep := flatE_succ lC.enc l L.zero k (by rw [H.out.2.1]; exact hlt)
      have hxb := H.out.2.2 k hlt
      rw [hy] at c0' c1' hstep hxb
      subst hA
      have HC := Lib.hid (And.intro c0' c1')
      have c0 := cell_below hO.below c0'
      have g2 := len_text hxb
      obtain ⟨bs2, hbs2⟩ : ∃ b, Sl.textB y.key.data.toList = b := ⟨_, rfl⟩
      have htx := fun W => ftext_any y.key W (by omega)
      rw [hbs2] at g2 htx
      rw [show lC.enc y = Sl.textB y.key.data.toList ++ [if y.x then 1 else 0] from rfl, hbs2] at hstep
      have H0 := Lib.hid hO
      have HX := Lib.hid (And.intro hstep htx)
      have hkn : (k : Int) < (n : Int) := by omega
      clear hO hstep hxb hbs2 htx c0' c1' hy
      cases hx : y.x with
      | true =>
        go_wp2_with fail
        refine (HX.out.2 _).mono ?_
        rintro e x0 ⟨v0, rfl, ho, hb⟩
        obtain ⟨B0, f0, rfl, hO, hB⟩ := H0.out.next ho hb
        have G0 := Lib.hid (And.intro hO hB)
        clear ho hb hO hB
        go_wp2_with (at_builtin; first | (refine wpList_out rfl (.tmp 14) (.tmp 20) rfl G0.out.1 rfl rfl G0.out.2 (by omega) ?_; intro A1 d1 w1 hO; have c1 := cell_below hO.below HC.out.2; rw [hx] at c1; have H1 := Lib.hid hO; clear hO) | (have HM := Lib.hid (BS.made w1 #[.int .u8 1] 5 (0, 0) [1] rfl); have HG := Lib.hid (H1.out.grow ((Below.refl _ w1).alloc (Nat.le_refl _) (.cells #[.int .u8 1] 5))); refine wpList_out rfl (.tmp 27) (.tmp 28) rfl HG.out rfl rfl HM.out (by omega) ?_; intro A2 d2 w2 hO; have H2 := Lib.hid hO; clear hO))
        go_roundg (n - (k + 1))
        case measure => omega
        case rel => exact ⟨k + 1, _, _, _, by omega, rfl, by go_num, rfl, by omega, by rw [HX.out.1, hx, ← List.append_assoc, ← List.append_assoc]; exact H2.out⟩
      | false =>
        go_wp2_with fail
        refine (HX.out.2 _).mono ?_
        rintro e x0 ⟨v0, rfl, ho, hb⟩
        obtain ⟨B0, f0, rfl, hO, hB⟩ := H0.out.next ho hb
        have G0 := Lib.hid (And.intro hO hB)
        clear ho hb hO hB
        go_wp2_with (at_builtin; first | (refine wpList_out rfl (.tmp 14) (.tmp 20) rfl G0.out.1 rfl rfl G0.out.2 (by omega) ?_; intro A1 d1 w1 hO; have c1 := cell_below hO.below HC.out.2; rw [hx] at c1; have H1 := Lib.hid hO; clear hO) | (have HM := Lib.hid (BS.made w1 #[.int .u8 0] 5 (0, 0) [0] rfl); have HG := Lib.hid (H1.out.grow ((Below.refl _ w1).alloc (Nat.le_refl _) (.cells #[.int .u8 0] 5))); refine wpList_out rfl (.tmp 30) (.tmp 31) rfl HG.out rfl rfl HM.out (by omega) ?_; intro A2 d2 w2 hO; have H2 := Lib.hid hO; clear hO))
        go_roundg (n - (k + 1))
        case measure => omega
        case rel => exact ⟨k + 1, _, _, _, by omega, rfl, by go_num, rfl, by omega, by rw [HX.out.1, hx, ← List.append_assoc, ← List.append_assoc]; exact H2.out⟩
    · obtain rfl : k = n := by omega
      have HF := Lib.hid (show Out w A' N d (Sl.numB (k : Int) ++ l.flatMap lC.enc) wr by rw [List.take_of_length_le (by rw [H.out.2.1]; exact Nat.le_refl _)] at hO; exact hO)
      have hN := HF.out.len
      clear hO
      go_wp2_with fail
      go_ret
      exact ⟨_, rfl, by rw [hN]; exact HF.out.own, HF.out.below⟩
end Go.Proofs.Ytlijfnekopjogaa

/- The document's bytes of a checkpoint's lists (printed by gen_renc.py). -/
namespace Go.Proofs.Ytlijfnekopjogaa
open Go Go.RowKit Mem Rc
set_option maxRecDepth 100000
set_option linter.unusedVariables false
set_option linter.unusedSimpArgs false

/-- 'append(out, b...)', and what the append leaves alone -/
theorem wpList_outG7 {w0 w : World} {A : Option Addr} {n d : Nat} {bs : List UInt8} {ops : Array Oper} {rest : List Oper} {o : Oper} {a : Act} {Q : Exit → Act → World → Prop} (hgd : Region.wanted o (yielded ops a.tmps) = true) (s x : Operand)
    (ho : o.op = .call { callee := .builtin .append, args := #[s, x], argTypes := #[33, 33] })
    (h : Out w0 A n d bs w) (hs : a.eval s = .slice A n d) {B : Option Addr} {m f : Nat} {b2 : List UInt8} (hx : a.eval x = .slice B m f) (hb : BS w B m b2) (hnm : n + m ≤ 1000000000)
    (k : ∀ A' d' w', Out w0 A' (n + m) d' (bs ++ b2) w' → (∀ i, i < w.heap.size → (Value.slice A n d).ownBlock ≠ some i → w'.heap[i]? = w.heap[i]?) → ((Value.slice A' (n + m) d').ownBlock = (Value.slice A n d).ownBlock ∨ (Value.slice A' (n + m) d').ownBlock = some w.heap.size) → w.heap.size ≤ w'.heap.size → wpList Try.prog ops Q rest (a.put o.dst (.slice A' (n + m) d')) w') : wpList Try.prog ops Q (o :: rest) a w := by
  obtain ⟨i0, h0, h1, h2, h3⟩ := out_info
  refine wpList_append_bs w hgd s x 33 ho w0.heap.size 5 i0 Try.underlying33 h0 h1 h2 h3 (.slice A n d) n (u8s bs) hs h.own B m f b2 hx hb (by omega) h.below.size ?_
  intro v' w' hown hg hat
  have hv : ∃ A' d', v' = .slice A' (n + m) d' := by
    rcases hown.2 with ⟨rfl, e⟩ | ⟨g, cap, cur, rfl, _⟩
    · exact ⟨none, 0, by rw [e]⟩
    · exact ⟨_, _, rfl⟩
  obtain ⟨A', d', rfl⟩ := hv
  exact k A' d' w' ⟨by rw [u8s_append]; exact hown, h.below.grown hg h.below.size (fun j hj => own_ge h.own hj)⟩ (fun i hi hne => hg.block i hi (fun e => hne e.symm)) hat hg.size
/-- what is gathered, a row's copy beside it -/
structure OutT (w0 : World) (A : Option Addr) (n d : Nat) (bs : List UInt8) (cb : Nat) (cs : Array Value) (w : World) : Prop where
  out : Out w0 A n d bs w
  cel : Blk w cb 52 cs
  apart : (Value.slice A n d).ownBlock ≠ some cb
theorem OutT.next {w0 w w' : World} {A : Option Addr} {n d : Nat} {bs b2 : List UInt8} {cb : Nat} {cs : Array Value} {v : Value} (h : OutT w0 A n d bs cb cs w) (ho : w'.ownsRow w.heap.size 5 1 v b2.length (u8s b2)) (hb : Below w.heap.size w w') : ∃ B f, v = .slice B b2.length f ∧ OutT w0 A n d bs cb cs w' ∧ BS w' B b2.length b2 := by
  obtain ⟨B, f, rfl, h1, h2⟩ := h.out.next ho hb
  exact ⟨B, f, rfl, ⟨h1, h.cel.below hb h.cel.lt, h.apart⟩, h2⟩
theorem wpList_outT {w0 w : World} {A : Option Addr} {n d : Nat} {bs : List UInt8} {cb : Nat} {cs : Array Value} {ops : Array Oper} {rest : List Oper} {o : Oper} {a : Act} {Q : Exit → Act → World → Prop} (hgd : Region.wanted o (yielded ops a.tmps) = true) (s x : Operand)
    (ho : o.op = .call { callee := .builtin .append, args := #[s, x], argTypes := #[33, 33] })
    (h : OutT w0 A n d bs cb cs w) (hs : a.eval s = .slice A n d) {B : Option Addr} {m f : Nat} {b2 : List UInt8} (hx : a.eval x = .slice B m f) (hb : BS w B m b2) (hnm : n + m ≤ 1000000000)
    (k : ∀ A' d' w', OutT w0 A' (n + m) d' (bs ++ b2) cb cs w' → wpList Try.prog ops Q rest (a.put o.dst (.slice A' (n + m) d')) w') : wpList Try.prog ops Q (o :: rest) a w :=
  wpList_outG7 hgd s x ho h.out hs hx hb hnm fun A' d' w' h1 h2 h3 h4 => k A' d' w' ⟨h1, h.cel.keep (h2 cb h.cel.lt h.apart), fun e => by
    rcases h3 with h5 | h5
    · exact h.apart (by rw [← h5]; exact e)
    · rw [h5] at e; injection e with e; have := h.cel.lt; omega⟩
structure LsH (x : MD) (w W : World) (nr nd ne np : Nat) : Prop where
  hb : Below w.heap.size w W
  ok : MOk W x
  ff : FF x
  lr : x.rows.length = nr
  ld : x.dirty.length = nd
  le : x.deeds.length = ne
  lp : x.past.length = np
  c12 : W.cell? ⟨w.heap.size, 12, none⟩ = some (.slice x.rA nr x.rc)
  c13 : W.cell? ⟨w.heap.size, 13, none⟩ = some (.slice x.dA nd x.dc)
  c14 : W.cell? ⟨w.heap.size, 14, none⟩ = some (.slice x.eA ne x.ec)
  c15 : W.cell? ⟨w.heap.size, 15, none⟩ = some (.slice x.pA np x.pc)
theorem i64_of {n : Int} (h : nOk n) : -9223372036854775808 ≤ n ∧ n ≤ 9223372036854775807 := by unfold nOk at h; omega
set_option maxHeartbeats 16000000 in
theorem flists_any (x : MD) (w : World) (hok : MOk w x) (hf : FF x) : Calls Try.prog 22 #[mVal x] w (OwnB 5 w (rwsC.enc x.m.rows ++ (dsC.enc x.m.dirty ++ (desC.enc x.m.deeds ++ iC.enc x.m.past)))) := by
  rw [enc_rows, enc_deeds, show dsC.enc x.m.dirty = Sl.numB (x.dirty.length : Int) ++ x.dirty.flatMap dC.enc from rfl, show x.m.past = x.past from rfl]
  obtain ⟨W, hW⟩ : ∃ W, w.alloc (.cells (mCells x) 30) = W := ⟨_, rfl⟩
  have hb0 : Below w.heap.size w W := by rw [← hW]; exact (Below.refl _ _).alloc (Nat.le_refl _) _
  have hx0 : Blk W w.heap.size 30 (mCells x) := by rw [← hW]; exact Blk.new _ _ _
  obtain ⟨nr, hnr⟩ : ∃ nr, x.rows.length = nr := ⟨_, rfl⟩
  obtain ⟨nd, hnd⟩ : ∃ nd, x.dirty.length = nd := ⟨_, rfl⟩
  obtain ⟨ne, hne⟩ : ∃ ne, x.deeds.length = ne := ⟨_, rfl⟩
  obtain ⟨np, hnp⟩ : ∃ np, x.past.length = np := ⟨_, rfl⟩
  rw [hnr, hnd, hne]
  have H := Lib.hid (LsH.mk hb0 (hok.below hb0) hf hnr hnd hne hnp ((hx0.cell 12).trans (by rw [← hnr]; rfl)) ((hx0.cell 13).trans (by rw [← hnd]; rfl)) ((hx0.cell 14).trans (by rw [← hne]; rfl)) ((hx0.cell 15).trans (by rw [← hnp]; rfl)))
  have hr64 : nr ≤ 64 := by rw [← hnr]; exact hf.rlen
  have hd64 : nd ≤ 64 := by rw [← hnd]; exact hf.dlen
  have he64 : ne ≤ 64 := by rw [← hne]; exact hf.elen
  have hp256 : np ≤ 256 := by rw [← hnp]; exact hf.plen
  have g1 := num_le (nr : Int)
  have g2 := num_le (nd : Int)
  have g3 := num_le (ne : Int)
  have c12 := H.out.c12
  clear hb0 hx0 hok hf hnr hnd hne hnp
  go_enter Try.func22, Try.ntmps22
  go_wp2_with fail
  refine (fnum_any (nr : Int) W (by omega)).mono ?_
  rintro e w1 ⟨v1, rfl, ho1, hb1⟩
  obtain ⟨A1, d1, rfl, hO1⟩ := Out.first ho1 hb1 (Below.refl _ _)
  obtain ⟨HD, hHD⟩ : ∃ b, Sl.numB (nr : Int) = b := ⟨_, rfl⟩
  rw [hHD] at hO1 g1 ⊢
  have HH := Lib.hid hHD
  have H1 := Lib.hid hO1
  clear ho1 hb1 hO1 hHD c12
  go_wp2_with fail
  go_loopg [3, 4] nr (fun gk s3 s4 wr => ∃ (k : Nat) (A' : Option Addr) (N d : Nat), k ≤ nr ∧ gk = nr - k ∧ s4 = .int .i64 k ∧ s3 = .slice A' N d ∧ N ≤ 11 + 3000 * k ∧ Out W A' N d (HD ++ (x.rows.take k).flatMap (fun y : RwD => rwC.enc y.r)) wr)
  case atStart => exact ⟨0, _, _, _, by omega, by omega, rfl, rfl, by omega, by simpa using H1.out⟩
  case round =>
    obtain ⟨k, A', N, d, hk, rfl, rfl, rfl, hNk, hO⟩ := hrel
    clear H1
    by_cases hlt : k < nr
    · obtain ⟨b, off, hA, hbl, e0, e1, e2, e3, e4, e5, e6, e7, aok⟩ := row_at H.out.ok.rows (by rw [H.out.lr]; exact hlt)
      obtain ⟨y, hy⟩ : ∃ y, x.rows.getD k RwD.zero = y := ⟨_, rfl⟩
      have hstep := flatE_succ (fun y : RwD => rwC.enc y.r) x.rows RwD.zero k (by rw [H.out.lr]; exact hlt)
      have hfy := H.out.ff.rows k (by rw [H.out.lr]; exact hlt)
      rw [hy] at e0 e1 e2 e3 e4 e5 e6 e7 aok hstep hfy
      have hsl := cell_below hO.below H.out.c12
      rw [hA] at hsl
      have hkn : (k : Int) < (nr : Int) := by omega
      have a0 := cell_below hO.below e0
      have a1 := cell_below hO.below e1
      have a2 := cell_below hO.below e2
      have a3 := cell_below hO.below e3
      have a4 := cell_below hO.below e4
      have a5 := cell_below hO.below e5
      have a6 := cell_below hO.below e6
      have a7 := cell_below hO.below e7
      obtain ⟨nm, hnm⟩ : ∃ nm, y.r.mem.length = nm := ⟨_, rfl⟩
      obtain ⟨nl, hnl⟩ : ∃ nl, y.r.locks.length = nl := ⟨_, rfl⟩
      have HI := Lib.hid (show ∀ W', Below W.heap.size W W' → Calls Try.prog 25 #[.slice y.mA nm y.mc] W' (OwnB 5 W' (iC.enc y.r.mem)) from fun W' hb => fints_any y.mA nm y.mc y.r.mem W' (by have g := aok.mem.below hb; rw [hnm] at g; exact g) (by have := hfy.len; omega) (fun k hk => hfy.mem k (by rw [hnm]; exact hk)))
      have HL := Lib.hid (show ∀ W', Below W.heap.size W W' → Calls Try.prog 26 #[.slice y.lA nl y.lc] W' (OwnB 5 W' (lsC.enc y.r.locks)) from fun W' hb => flocksE_any y.lA nl y.lc y.r.locks W' (by have g := aok.locks.below hb; rw [hnl] at g; exact g) (by have := hfy.llen; omega) (fun k hk => hfy.locks k (by rw [hnl]; exact hk)))
      have HF := Lib.hid hfy
      have HM := Lib.hid (And.intro hnm hnl)
      have ztx := num_le y.r.tx
      have zst := num_le y.r.st
      have zfi := num_le y.r.fi
      have zla := num_le y.r.la
      have zun := num_le y.r.un
      have zco := num_le y.r.co
      have zm := len_ints (l := y.r.mem) hfy.len
      have zl := len_locks (l := y.r.locks) hfy.llen hfy.locks
      rw [show rwC.enc y.r = Sl.numB y.r.tx ++ (Sl.numB y.r.st ++ (Sl.numB y.r.fi ++ (Sl.numB y.r.la ++ (Sl.numB y.r.un ++ (Sl.numB y.r.co ++ (iC.enc y.r.mem ++ lsC.enc y.r.locks)))))) from rfl] at hstep
      obtain ⟨bm, hbm⟩ : ∃ b, iC.enc y.r.mem = b := ⟨_, rfl⟩
      obtain ⟨bl, hbl2⟩ : ∃ b, lsC.enc y.r.locks = b := ⟨_, rfl⟩
      rw [hbm] at HI hstep zm
      rw [hbl2] at HL hstep zl
      have HS := Lib.hid hstep
      have HO := Lib.hid hO
      have hB0 : Blk (wr.alloc (.cells #[.int .i64 0, .int .i64 0, .int .i64 0, .int .i64 0, .int .i64 0, .int .i64 0, .slice none 0 0, .slice none 0 0] 52)) wr.heap.size 52 #[.int .i64 0, .int .i64 0, .int .i64 0, .int .i64 0, .int .i64 0, .int .i64 0, .slice none 0 0, .slice none 0 0] := Blk.new _ _ _
      clear hfy hnm hnl hbm hbl2 hstep hO aok hA hbl hy e0 e1 e2 e3 e4 e5 e6 e7
      go_upto_region 6 with (refine wpList_store_row y (by rfl) _ _ (by rfl) (by rfl) (by rfl) hB0 (by rfl) ?_; intro w0 hB5 hF5 hS5)
      have hb5 : Below wr.heap.size wr w0 := ((Below.refl _ wr).alloc (Nat.le_refl _) _).trans (hF5.below (by simp) (fun j hj => by have e : j = wr.heap.size := hj; omega))
      have hT : OutT W A' N d (HD ++ (x.rows.take k).flatMap (fun y : RwD => rwC.enc y.r)) wr.heap.size (rwCells y) w0 := ⟨HO.out.grow hb5, hB5, fun e => by have := own_lt HO.out.own e; omega⟩
      obtain ⟨G, hG⟩ : ∃ G, wr.heap.size = G := ⟨_, rfl⟩
      rw [hG] at hT
      have r0 : w0.cell? ⟨G, 0, none⟩ = some (.int .i64 y.r.tx) := hT.cel.cell 0
      have H0 := Lib.hid hT
      clear hB0 hB5 hF5 hS5 hb5 hT a0 a1 a2 a3 a4 a5 a6 a7 hsl
      go_wp2_with fail
      refine (fnum_any y.r.tx _ (i64_of HF.out.tx)).mono ?_
      rintro e x0 ⟨v0, rfl, ho, hb⟩
      obtain ⟨B0, f0, rfl, hO, hB⟩ := H0.out.next ho hb
      have G0 := Lib.hid (And.intro hO hB)
      clear ho hb hO hB
      go_wp2_with (at_builtin; refine wpList_outT rfl (.tmp 24) (.tmp 27) rfl G0.out.1 rfl rfl G0.out.2 (by omega) ?_; intro A1 d1 w1 hO; have r1 : w1.cell? ⟨G, 1, none⟩ = some (.int .i64 y.r.st) := hO.cel.cell 1; have H1 := Lib.hid hO; clear hO)
      refine (fnum_any y.r.st _ (i64_of HF.out.st)).mono ?_
      rintro e x1 ⟨v1, rfl, ho, hb⟩
      obtain ⟨B1, f1, rfl, hO, hB⟩ := H1.out.next ho hb
      have G1 := Lib.hid (And.intro hO hB)
      clear ho hb hO hB
      go_wp2_with (at_builtin; refine wpList_outT rfl (.tmp 29) (.tmp 32) rfl G1.out.1 rfl rfl G1.out.2 (by omega) ?_; intro A2 d2 w2 hO; have r2 : w2.cell? ⟨G, 2, none⟩ = some (.int .i64 y.r.fi) := hO.cel.cell 2; have H2 := Lib.hid hO; clear hO)
      refine (fnum_any y.r.fi _ (i64_of HF.out.fi)).mono ?_
      rintro e x2 ⟨v2, rfl, ho, hb⟩
      obtain ⟨B2, f2, rfl, hO, hB⟩ := H2.out.next ho hb
      have G2 := Lib.hid (And.intro hO hB)
      clear ho hb hO hB
      go_wp2_with (at_builtin; refine wpList_outT rfl (.tmp 34) (.tmp 37) rfl G2.out.1 rfl rfl G2.out.2 (by omega) ?_; intro A3 d3 w3 hO; have r3 : w3.cell? ⟨G, 3, none⟩ = some (.int .i64 y.r.la) := hO.cel.cell 3; have H3 := Lib.hid hO; clear hO)
      refine (fnum_any y.r.la _ (i64_of HF.out.la)).mono ?_
      rintro e x3 ⟨v3, rfl, ho, hb⟩
      obtain ⟨B3, f3, rfl, hO, hB⟩ := H3.out.next ho hb
      have G3 := Lib.hid (And.intro hO hB)
      clear ho hb hO hB
      go_wp2_with (at_builtin; refine wpList_outT rfl (.tmp 39) (.tmp 42) rfl G3.out.1 rfl rfl G3.out.2 (by omega) ?_; intro A4 d4 w4 hO; have r4 : w4.cell? ⟨G, 4, none⟩ = some (.int .i64 y.r.un) := hO.cel.cell 4; have H4 := Lib.hid hO; clear hO)
      refine (fnum_any y.r.un _ (i64_of HF.out.un)).mono ?_
      rintro e x4 ⟨v4, rfl, ho, hb⟩
      obtain ⟨B4, f4, rfl, hO, hB⟩ := H4.out.next ho hb
      have G4 := Lib.hid (And.intro hO hB)
      clear ho hb hO hB
      go_wp2_with (at_builtin; refine wpList_outT rfl (.tmp 44) (.tmp 47) rfl G4.out.1 rfl rfl G4.out.2 (by omega) ?_; intro A5 d5 w5 hO; have r5 : w5.cell? ⟨G, 5, none⟩ = some (.int .i64 y.r.co) := hO.cel.cell 5; have H5 := Lib.hid hO; clear hO)
      refine (fnum_any y.r.co _ (i64_of HF.out.co)).mono ?_
      rintro e x5 ⟨v5, rfl, ho, hb⟩
      obtain ⟨B5, f5, rfl, hO, hB⟩ := H5.out.next ho hb
      have G5 := Lib.hid (And.intro hO hB)
      clear ho hb hO hB
      go_wp2_with (at_builtin; refine wpList_outT rfl (.tmp 49) (.tmp 52) rfl G5.out.1 rfl rfl G5.out.2 (by omega) ?_; intro A6 d6 w6 hO; have r6 : w6.cell? ⟨G, 6, none⟩ = some (.slice y.mA nm y.mc) := (hO.cel.cell 6).trans (by rw [← HM.out.1]; rfl); have H6 := Lib.hid hO; clear hO)
      refine (HI.out _ H6.out.out.below).mono ?_
      rintro e x6 ⟨v6, rfl, ho, hb⟩
      obtain ⟨B6, f6, rfl, hO, hB⟩ := H6.out.next ho hb
      have G6 := Lib.hid (And.intro hO hB)
      clear ho hb hO hB
      go_wp2_with (at_builtin; refine wpList_outT rfl (.tmp 54) (.tmp 57) rfl G6.out.1 rfl rfl G6.out.2 (by omega) ?_; intro A7 d7 w7 hO; have r7 : w7.cell? ⟨G, 7, none⟩ = some (.slice y.lA nl y.lc) := (hO.cel.cell 7).trans (by rw [← HM.out.2]; rfl); have H7 := Lib.hid hO; clear hO)
      refine (HL.out _ H7.out.out.below).mono ?_
      rintro e x7 ⟨v7, rfl, ho, hb⟩
      obtain ⟨B7, f7, rfl, hO, hB⟩ := H7.out.next ho hb
      have G7 := Lib.hid (And.intro hO hB)
      clear ho hb hO hB
      go_wp2_with (at_builtin; refine wpList_outT rfl (.tmp 59) (.tmp 62) rfl G7.out.1 rfl rfl G7.out.2 (by omega) ?_; intro A8 d8 w8 hO; have H8 := Lib.hid hO; clear hO)
      go_roundg (nr - (k + 1))
      case measure => omega
      case rel => exact ⟨k + 1, _, _, _, by omega, rfl, by go_num, rfl, by omega, by have g := H8.out.out; simp only [List.append_assoc] at g; rw [HS.out]; exact g⟩
    · obtain rfl : k = nr := by omega
      have hO2 : Out W A' N d (HD ++ x.rows.flatMap (fun y : RwD => rwC.enc y.r)) wr := by rw [List.take_of_length_le (by rw [H.out.lr]; exact Nat.le_refl _)] at hO; exact hO
      have c12 := cell_below hO.below H.out.c12
      have c13 := cell_below hO.below H.out.c13
      obtain ⟨R1, hR1⟩ : ∃ b, HD ++ x.rows.flatMap (fun y : RwD => rwC.enc y.r) = b := ⟨_, rfl⟩
      rw [hR1] at hO2
      have HR1 := Lib.hid hR1
      have H0 := Lib.hid hO2
      clear hO hO2 hR1
      go_wp2_with fail
      refine (fnum_any (nd : Int) _ (by omega)).mono ?_
      rintro e x0 ⟨v0, rfl, ho, hb⟩
      obtain ⟨B0, f0, rfl, hO, hB⟩ := H0.out.next ho hb
      have G0 := Lib.hid (And.intro hO hB)
      clear ho hb hO hB
      go_wp2_with (at_builtin; refine wpList_out rfl (.tmp 64) (.tmp 68) rfl G0.out.1 rfl rfl G0.out.2 (by omega) ?_; intro A1 d1 w1 hO; have H1 := Lib.hid hO; clear hO)
      obtain ⟨HD2, hHD2⟩ : ∃ b, R1 ++ Sl.numB (nd : Int) = b := ⟨_, rfl⟩
      have HH2 := Lib.hid hHD2
      have hO := H1.out
      rw [hHD2] at hO
      obtain ⟨N2, hN2⟩ : ∃ b, N + (Sl.numB (nd : Int)).length = b := ⟨_, rfl⟩
      have hNN : N2 ≤ 200000 := by omega
      rw [hN2] at hO ⊢
      have H2 := Lib.hid hO
      clear hO hHD2 hN2 H1
      go_loopg [3, 6] nd (fun gk s3 s4 wr => ∃ (k : Nat) (A' : Option Addr) (N d : Nat), k ≤ nd ∧ gk = nd - k ∧ s4 = .int .i64 k ∧ s3 = .slice A' N d ∧ N ≤ 200000 + 22 * k ∧ Out W A' N d (HD2 ++ (x.dirty.take k).flatMap dC.enc) wr)
      case atStart => exact ⟨0, _, _, _, by omega, by omega, rfl, rfl, by omega, by simpa using H2.out⟩
      case round =>
        obtain ⟨j, A', N, d, hj, rfl, rfl, rfl, hNk, hO⟩ := hrel
        clear H2
        by_cases hlt : j < nd
        · obtain ⟨b, off, hA, hbl, e0, e1⟩ := dirty_at H.out.ok.dirty (by rw [H.out.ld]; exact hlt)
          obtain ⟨y, hy⟩ : ∃ y, x.dirty.getD j D.zero = y := ⟨_, rfl⟩
          have hstep := flatE_succ dC.enc x.dirty D.zero j (by rw [H.out.ld]; exact hlt)
          have hfy := H.out.ff.dirty j (by rw [H.out.ld]; exact hlt)
          rw [hy] at e0 e1 hstep hfy
          have hsl := cell_below hO.below H.out.c13
          rw [hA] at hsl
          have hkn : (j : Int) < (nd : Int) := by omega
          have a0 := cell_below hO.below e0
          have zp := num_le y.page
          have zr := num_le y.rc
          rw [show dC.enc y = Sl.numB y.page ++ Sl.numB y.rc from rfl] at hstep
          have HS := Lib.hid (And.intro hstep (And.intro hfy (And.intro hA e1)))
          have H0 := Lib.hid hO
          clear hfy hstep hO hbl hy e0 e1 hA
          go_wp2_with fail
          refine (fnum_any y.page _ (i64_of HS.out.2.1.1)).mono ?_
          rintro e x0 ⟨v0, rfl, ho, hb⟩
          obtain ⟨B0, f0, rfl, hO, hB⟩ := H0.out.next ho hb
          have G0 := Lib.hid (And.intro hO hB)
          clear ho hb hO hB
          go_wp2_with (at_builtin; refine wpList_out rfl (.tmp 77) (.tmp 84) rfl G0.out.1 rfl rfl G0.out.2 (by omega) ?_; intro A1 d1 w1 hO; have hsl := cell_below hO.below H.out.c13; rw [HS.out.2.2.1] at hsl; have a1 := cell_below hO.below HS.out.2.2.2; have H1 := Lib.hid hO; clear hO)
          refine (fnum_any y.rc _ (i64_of HS.out.2.1.2)).mono ?_
          rintro e x1 ⟨v1, rfl, ho, hb⟩
          obtain ⟨B1, f1, rfl, hO, hB⟩ := H1.out.next ho hb
          have G1 := Lib.hid (And.intro hO hB)
          clear ho hb hO hB
          go_wp2_with (at_builtin; refine wpList_out rfl (.tmp 86) (.tmp 93) rfl G1.out.1 rfl rfl G1.out.2 (by omega) ?_; intro A2 d2 w2 hO; have H2 := Lib.hid hO; clear hO)
          go_roundg (nd - (j + 1))
          case measure => omega
          case rel => exact ⟨j + 1, _, _, _, by omega, rfl, by go_num, rfl, by omega, by have g := H2.out; rw [HS.out.1]; simp only [List.append_assoc] at g ⊢; exact g⟩
        · obtain rfl : j = nd := by omega
          have hO2 : Out W A' N d (HD2 ++ x.dirty.flatMap dC.enc) wr := by rw [List.take_of_length_le (by rw [H.out.ld]; exact Nat.le_refl _)] at hO; exact hO
          have c13 := cell_below hO.below H.out.c13
          have c14 := cell_below hO.below H.out.c14
          obtain ⟨R2, hR2⟩ : ∃ b, HD2 ++ x.dirty.flatMap dC.enc = b := ⟨_, rfl⟩
          rw [hR2] at hO2
          have HR2 := Lib.hid hR2
          have H0 := Lib.hid hO2
          clear hO hO2 hR2
          go_wp2_with fail
          refine (fnum_any (ne : Int) _ (by omega)).mono ?_
          rintro e x0 ⟨v0, rfl, ho, hb⟩
          obtain ⟨B0, f0, rfl, hO, hB⟩ := H0.out.next ho hb
          have G0 := Lib.hid (And.intro hO hB)
          clear ho hb hO hB
          go_wp2_with (at_builtin; refine wpList_out rfl (.tmp 95) (.tmp 99) rfl G0.out.1 rfl rfl G0.out.2 (by omega) ?_; intro A1 d1 w1 hO; have H1 := Lib.hid hO; clear hO)
          obtain ⟨HD3, hHD3⟩ : ∃ b, R2 ++ Sl.numB (ne : Int) = b := ⟨_, rfl⟩
          have HH3 := Lib.hid hHD3
          have hO := H1.out
          rw [hHD3] at hO
          obtain ⟨N3, hN3⟩ : ∃ b, N + (Sl.numB (ne : Int)).length = b := ⟨_, rfl⟩
          have hNN3 : N3 ≤ 210000 := by omega
          rw [hN3] at hO ⊢
          have H2 := Lib.hid hO
          clear hO hHD3 hN3 H1
          go_loopg [3, 7] ne (fun gk s3 s4 wr => ∃ (k : Nat) (A' : Option Addr) (N d : Nat), k ≤ ne ∧ gk = ne - k ∧ s4 = .int .i64 k ∧ s3 = .slice A' N d ∧ N ≤ 210000 + 110 * k ∧ Out W A' N d (HD3 ++ (x.deeds.take k).flatMap (fun y : DeD => deC.enc y.d)) wr)
          case atStart => exact ⟨0, _, _, _, by omega, by omega, rfl, rfl, by omega, by simpa using H2.out⟩
          case round =>
            obtain ⟨i, A', N, d, hi, rfl, rfl, rfl, hNk, hO⟩ := hrel
            clear H2
            by_cases hlt : i < ne
            · obtain ⟨b, off, hA, hbl, e0, e1, aok⟩ := deed_at H.out.ok.deeds (by rw [H.out.le]; exact hlt)
              obtain ⟨y, hy⟩ : ∃ y, x.deeds.getD i DeD.zero = y := ⟨_, rfl⟩
              have hstep := flatE_succ (fun y : DeD => deC.enc y.d) x.deeds DeD.zero i (by rw [H.out.le]; exact hlt)
              have hfy := H.out.ff.deeds i (by rw [H.out.le]; exact hlt)
              rw [hy] at e0 e1 aok hstep hfy
              obtain ⟨nm, hnm⟩ : ∃ nm, y.d.mem.length = nm := ⟨_, rfl⟩
              rw [hnm] at e1
              have hsl := cell_below hO.below H.out.c14
              rw [hA] at hsl
              have hkn : (i : Int) < (ne : Int) := by omega
              have a0 := cell_below hO.below e0
              have zt := num_le y.d.tx
              have zm := len_ints (l := y.d.mem) hfy.len
              rw [show deC.enc y.d = Sl.numB y.d.tx ++ iC.enc y.d.mem from rfl] at hstep
              have HI := Lib.hid (show ∀ W', Below W.heap.size W W' → Calls Try.prog 25 #[.slice y.mA nm y.mc] W' (OwnB 5 W' (iC.enc y.d.mem)) from fun W' hb => fints_any y.mA nm y.mc y.d.mem W' (by have g := aok.mem.below hb; rw [hnm] at g; exact g) (by have := hfy.len; omega) (fun k hk => hfy.mem k (by rw [hnm]; exact hk)))
              have HS := Lib.hid (And.intro hstep (And.intro hfy (And.intro hA e1)))
              have H0 := Lib.hid hO
              clear hfy hstep hO hbl hy e0 e1 hA aok hnm
              go_wp2_with fail
              refine (fnum_any y.d.tx _ (i64_of HS.out.2.1.tx)).mono ?_
              rintro e x0 ⟨v0, rfl, ho, hb⟩
              obtain ⟨B0, f0, rfl, hO, hB⟩ := H0.out.next ho hb
              have G0 := Lib.hid (And.intro hO hB)
              clear ho hb hO hB
              go_wp2_with (at_builtin; refine wpList_out rfl (.tmp 108) (.tmp 115) rfl G0.out.1 rfl rfl G0.out.2 (by omega) ?_; intro A1 d1 w1 hO; have hsl := cell_below hO.below H.out.c14; rw [HS.out.2.2.1] at hsl; have a1 := cell_below hO.below HS.out.2.2.2; have H1 := Lib.hid hO; clear hO)
              refine (HI.out _ H1.out.below).mono ?_
              rintro e x1 ⟨v1, rfl, ho, hb⟩
              obtain ⟨B1, f1, rfl, hO, hB⟩ := H1.out.next ho hb
              have G1 := Lib.hid (And.intro hO hB)
              clear ho hb hO hB
              go_wp2_with (at_builtin; refine wpList_out rfl (.tmp 117) (.tmp 124) rfl G1.out.1 rfl rfl G1.out.2 (by omega) ?_; intro A2 d2 w2 hO; have H2 := Lib.hid hO; clear hO)
              go_roundg (ne - (i + 1))
              case measure => omega
              case rel => exact ⟨i + 1, _, _, _, by omega, rfl, by go_num, rfl, by omega, by have g := H2.out; rw [HS.out.1]; simp only [List.append_assoc] at g ⊢; exact g⟩
            · obtain rfl : i = ne := by omega
              have hO2 : Out W A' N d (HD3 ++ x.deeds.flatMap (fun y : DeD => deC.enc y.d)) wr := by rw [List.take_of_length_le (by rw [H.out.le]; exact Nat.le_refl _)] at hO; exact hO
              have c14 := cell_below hO.below H.out.c14
              have c15 := cell_below hO.below H.out.c15
              have zp := len_ints (l := x.past) (m := 256) (by rw [H.out.lp]; exact hp256)
              have H0 := Lib.hid hO2
              clear hO hO2
              go_wp2_with fail
              refine (fints_any x.pA np x.pc x.past _ (by have g := (H.out.ok.below H0.out.below).past; rw [H.out.lp] at g; exact g) (by omega) (fun k hk => H.out.ff.past k (by rw [H.out.lp]; exact hk))).mono ?_
              rintro e x0 ⟨v0, rfl, ho, hb⟩
              obtain ⟨B0, f0, rfl, hO, hB⟩ := H0.out.next ho hb
              have G0 := Lib.hid (And.intro hO hB)
              clear ho hb hO hB
              go_wp2_with (at_builtin; refine wpList_out rfl (.tmp 126) (.tmp 129) rfl G0.out.1 rfl rfl G0.out.2 (by omega) ?_; intro A1 d1 w1 hO; have H1 := Lib.hid hO; clear hO)
              go_ret
              have hE : Sl.numB (k : Int) ++ x.rows.flatMap (fun y : RwD => rwC.enc y.r) ++ (Sl.numB (j : Int) ++ x.dirty.flatMap dC.enc ++ (Sl.numB (i : Int) ++ x.deeds.flatMap (fun y : DeD => deC.enc y.d) ++ iC.enc x.past)) = HD3 ++ x.deeds.flatMap (fun y : DeD => deC.enc y.d) ++ iC.enc x.past := by
                rw [← HH3.out, ← HR2.out, ← HH2.out, ← HR1.out, ← HH.out]
                simp only [List.append_assoc]
              rw [show HD = Sl.numB (k : Int) from HH.out.symm]
              refine ⟨_, rfl, ?_, H.out.hb.trans (H1.out.below.mono H.out.hb.size)⟩
              rw [hE, H1.out.len]
              exact own_base H1.out.own H.out.hb.size
end Go.Proofs.Ytlijfnekopjogaa

/- The document's bytes of a record (printed by gen_renc.py). -/
namespace Go.Proofs.Ytlijfnekopjogaa
open Go Go.RowKit Mem Rc
set_option maxRecDepth 100000
set_option linter.unusedVariables false
set_option linter.unusedSimpArgs false

theorem lists_le {x : MD} (h : FF x) : (rwsC.enc x.m.rows ++ (dsC.enc x.m.dirty ++ (desC.enc x.m.deeds ++ iC.enc x.m.past))).length ≤ 300000 := by
  have h1 := len_rows h
  have h2 := len_dirtys h
  have h3 := len_deeds h
  have h4 := len_ints h.plen
  rw [show x.m.dirty = x.dirty from rfl, show x.m.past = x.past from rfl]
  simp only [List.length_append]
  omega
structure EnH (x : MD) (w W : World) (nm nl : Nat) : Prop where
  hb : Below w.heap.size w W
  hx : Blk W w.heap.size 30 (mCells x)
  ok : MOk W x
  ff : FF x
  lm : x.mem.length = nm
  ll : x.locks.length = nl
theorem own_nil0 (w : World) (base : Nat) : w.ownsRow base 5 1 (.slice none 0 0) ([] : List UInt8).length (u8s []) := ⟨rfl, .inl ⟨rfl, rfl⟩⟩
set_option maxHeartbeats 16000000 in
theorem frenc1 (x : MD) (w W : World) (hW : w.alloc (.cells (mCells x) 30) = W) (nm nl : Nat) (h : EnH x w W nm nl) (hk : x.kind = 1) (hmay : Rc.may x.m = true) (hm : Calls Try.prog 14 #[mVal x] W fun e w' => e = .returned (.bool (Rc.may x.m)) ∧ Below W.heap.size W w') :
    Calls Try.prog 12 #[mVal x] w (RecP w (Rc.enc x.m)) := by
  have H := Lib.hid h
  have HK := Lib.hid hk
  have HM := Lib.hid (And.intro hm hmay)
  clear h hk hm hmay
  have hbody : Rc.body x.m = Sl.numB (1 : Int) ++ (Sl.numB x.tx ++ (Sl.numB x.prev ++ (Sl.textB x.key.data.toList ++ (vC.enc x.old ++ (vC.enc x.new))))) := by unfold Rc.body; rw [show x.m.kind = 1 from HK.out]; rfl
  have hk0 := num_le (1 : Int)
  have t0 : ∀ W' : World, Calls Try.prog 21 #[.int .i64 1] W' (OwnB 5 W' (Sl.numB (1 : Int))) := fun W' => fnum_any 1 W' (by omega)
  have z1 := num_le x.tx
  have t1 : ∀ W' : World, Below W.heap.size W W' → Calls Try.prog 21 #[.int .i64 x.tx] W' (OwnB 5 W' (Sl.numB x.tx)) := fun W' hb => fnum_any x.tx W' (i64_of H.out.ff.tx)
  have z2 := num_le x.prev
  have t2 : ∀ W' : World, Below W.heap.size W W' → Calls Try.prog 21 #[.int .i64 x.prev] W' (OwnB 5 W' (Sl.numB x.prev)) := fun W' hb => fnum_any x.prev W' (i64_of H.out.ff.prev)
  have z3 := len_text H.out.ff.key
  have t3 : ∀ W' : World, Below W.heap.size W W' → Calls Try.prog 23 #[.string x.key] W' (OwnB 5 W' (Sl.textB x.key.data.toList)) := fun W' hb => ftext_any x.key W' (by have := H.out.ff.key; omega)
  have z4 := len_val H.out.ff.old
  have t4 : ∀ W' : World, Below W.heap.size W W' → Calls Try.prog 24 #[vVal x.old] W' (OwnB 5 W' (vC.enc x.old)) := fun W' hb => fval_any x.old W' H.out.ff.old
  have z5 := len_val H.out.ff.new
  have t5 : ∀ W' : World, Below W.heap.size W W' → Calls Try.prog 24 #[vVal x.new] W' (OwnB 5 W' (vC.enc x.new)) := fun W' hb => fval_any x.new W' H.out.ff.new
  obtain ⟨q0, hq0⟩ : ∃ b, Sl.numB (1 : Int) = b := ⟨_, rfl⟩
  rw [hq0] at hbody hk0 t0
  obtain ⟨q1, hq1⟩ : ∃ b, Sl.numB x.tx = b := ⟨_, rfl⟩
  rw [hq1] at hbody z1 t1
  obtain ⟨q2, hq2⟩ : ∃ b, Sl.numB x.prev = b := ⟨_, rfl⟩
  rw [hq2] at hbody z2 t2
  obtain ⟨q3, hq3⟩ : ∃ b, Sl.textB x.key.data.toList = b := ⟨_, rfl⟩
  rw [hq3] at hbody z3 t3
  obtain ⟨q4, hq4⟩ : ∃ b, vC.enc x.old = b := ⟨_, rfl⟩
  rw [hq4] at hbody z4 t4
  obtain ⟨q5, hq5⟩ : ∃ b, vC.enc x.new = b := ⟨_, rfl⟩
  rw [hq5] at hbody z5 t5
  have T := Lib.hid (And.intro t0 (And.intro t1 (And.intro t2 (And.intro t3 (And.intro t4 (t5))))))
  have HB := Lib.hid hbody
  clear hbody t0 t1 t2 t3 t4 t5 hq0 hq1 hq2 hq3 hq4 hq5
  go_enter Try.func12, Try.ntmps12
  have hx0 := H.out.hx
  go_wp2_with (refine wpList_load_rec' _ (by rfl) (by rfl) (by rfl) hx0 ?_)
  refine HM.out.1.mono ?_
  rw [HM.out.2]
  rintro e y1 ⟨rfl, hb1⟩
  have HY := Lib.hid hb1
  have hq := H.out.hx.below hb1 H.out.hx.lt
  have k0 : y1.cell? ⟨w.heap.size, 0, none⟩ = some (.int .i64 1) := (hq.cell 0).trans (by show some (Value.int .i64 x.kind) = _; rw [HK.out])
  clear hq hb1 hx0
  go_wp2_with fail
  refine (T.out.1 _).mono ?_
  rintro e w0 ⟨r0, rfl, ho, hb⟩
  obtain ⟨A0, d0, rfl, hO⟩ := Out.first ho hb HY.out
  have H0 := Lib.hid hO
  have hq := H.out.hx.below hO.below H.out.hx.lt
  have k0 : w0.cell? ⟨w.heap.size, 0, none⟩ = some (.int .i64 1) := (hq.cell 0).trans (by show some (Value.int .i64 x.kind) = _; rw [HK.out])
  have k1 : w0.cell? ⟨w.heap.size, 1, none⟩ = some (.int .i64 x.tx) := hq.cell 1
  clear ho hb hO
  clear hq
  go_wp2_with fail
  refine (T.out.2.1 _ H0.out.below).mono ?_
  rintro e x0 ⟨v0, rfl, ho, hb⟩
  obtain ⟨B0, f0, rfl, hO, hB⟩ := H0.out.next ho hb
  have G0 := Lib.hid (And.intro hO hB)
  clear ho hb hO hB
  go_wp2_with (at_builtin; refine wpList_out rfl (.tmp 21) (.tmp 24) rfl G0.out.1 rfl rfl G0.out.2 (by omega) ?_; intro A1 d1 w1 hO; have hq := H.out.hx.below hO.below H.out.hx.lt; have k0 : w1.cell? ⟨w.heap.size, 0, none⟩ = some (.int .i64 1) := (hq.cell 0).trans (by show some (Value.int .i64 x.kind) = _; rw [HK.out]); have k2 : w1.cell? ⟨w.heap.size, 2, none⟩ = some (.int .i64 x.prev) := hq.cell 2; clear hq; have H1 := Lib.hid hO; clear hO)
  refine (T.out.2.2.1 _ H1.out.below).mono ?_
  rintro e x1 ⟨v1, rfl, ho, hb⟩
  obtain ⟨B1, f1, rfl, hO, hB⟩ := H1.out.next ho hb
  have G1 := Lib.hid (And.intro hO hB)
  clear ho hb hO hB
  go_wp2_with (at_builtin; refine wpList_out rfl (.tmp 29) (.tmp 32) rfl G1.out.1 rfl rfl G1.out.2 (by omega) ?_; intro A2 d2 w2 hO; have hq := H.out.hx.below hO.below H.out.hx.lt; have k0 : w2.cell? ⟨w.heap.size, 0, none⟩ = some (.int .i64 1) := (hq.cell 0).trans (by show some (Value.int .i64 x.kind) = _; rw [HK.out]); have k4 : w2.cell? ⟨w.heap.size, 4, none⟩ = some (.string x.key) := hq.cell 4; clear hq; have H2 := Lib.hid hO; clear hO)
  refine (T.out.2.2.2.1 _ H2.out.below).mono ?_
  rintro e x2 ⟨v2, rfl, ho, hb⟩
  obtain ⟨B2, f2, rfl, hO, hB⟩ := H2.out.next ho hb
  have G2 := Lib.hid (And.intro hO hB)
  clear ho hb hO hB
  go_wp2_with (at_builtin; refine wpList_out rfl (.tmp 50) (.tmp 53) rfl G2.out.1 rfl rfl G2.out.2 (by omega) ?_; intro A3 d3 w3 hO; have hq := H.out.hx.below hO.below H.out.hx.lt; have k0 : w3.cell? ⟨w.heap.size, 0, none⟩ = some (.int .i64 1) := (hq.cell 0).trans (by show some (Value.int .i64 x.kind) = _; rw [HK.out]); have k5 : w3.cell? ⟨w.heap.size, 5, none⟩ = some (.bool x.old.has) := hq.cell 5; have k6 : w3.cell? ⟨w.heap.size, 6, none⟩ = some (.string x.old.data) := hq.cell 6; clear hq; have H3 := Lib.hid hO; clear hO)
  refine (T.out.2.2.2.2.1 _ H3.out.below).mono ?_
  rintro e x3 ⟨v3, rfl, ho, hb⟩
  obtain ⟨B3, f3, rfl, hO, hB⟩ := H3.out.next ho hb
  have G3 := Lib.hid (And.intro hO hB)
  clear ho hb hO hB
  go_wp2_with (at_builtin; refine wpList_out rfl (.tmp 58) (.tmp 61) rfl G3.out.1 rfl rfl G3.out.2 (by omega) ?_; intro A4 d4 w4 hO; have hq := H.out.hx.below hO.below H.out.hx.lt; have k0 : w4.cell? ⟨w.heap.size, 0, none⟩ = some (.int .i64 1) := (hq.cell 0).trans (by show some (Value.int .i64 x.kind) = _; rw [HK.out]); have k7 : w4.cell? ⟨w.heap.size, 7, none⟩ = some (.bool x.new.has) := hq.cell 7; have k8 : w4.cell? ⟨w.heap.size, 8, none⟩ = some (.string x.new.data) := hq.cell 8; clear hq; have H4 := Lib.hid hO; clear hO)
  refine (T.out.2.2.2.2.2 _ H4.out.below).mono ?_
  rintro e x4 ⟨v4, rfl, ho, hb⟩
  obtain ⟨B4, f4, rfl, hO, hB⟩ := H4.out.next ho hb
  have G4 := Lib.hid (And.intro hO hB)
  clear ho hb hO hB
  go_upto_region 24 with (at_builtin; refine wpList_out rfl (.tmp 71) (.tmp 74) rfl G4.out.1 rfl rfl G4.out.2 (by omega) ?_; intro A5 d5 w5 hO; have hq := H.out.hx.below hO.below H.out.hx.lt; have k0 : w5.cell? ⟨w.heap.size, 0, none⟩ = some (.int .i64 1) := (hq.cell 0).trans (by show some (Value.int .i64 x.kind) = _; rw [HK.out]); clear hq; have H5 := Lib.hid hO; clear hO)
  have HO := Lib.hid (show Out W A5 (q0.length + q1.length + q2.length + q3.length + q4.length + q5.length) d5 (Rc.body x.m) w5 by have g := H5.out; rw [HB.out]; first | (simp only [List.append_assoc, List.append_nil] at g ⊢; exact g) | exact g | (simp only [List.append_nil]; exact g))
  have hlen : (Rc.body x.m).length = q0.length + q1.length + q2.length + q3.length + q4.length + q5.length := HO.out.len
  obtain ⟨NN, hNN⟩ : ∃ b, q0.length + q1.length + q2.length + q3.length + q4.length + q5.length = b := ⟨_, rfl⟩
  rw [hNN] at hlen ⊢
  have HO2 := Lib.hid (by have g := HO.out; rw [hNN] at g; exact g)
  have HW := Lib.hid (And.intro (H.out.hb.trans (HO.out.below.mono H.out.hb.size)) hlen)
  clear hNN hlen
  rcases Nat.lt_or_ge 4096 NN with hL | hL
  · have hd : decide ((4096 : Int) < (NN : Int)) = true := decide_eq_true (by omega)
    have he : Rc.enc x.m = ([], 12) := by unfold Rc.enc; rw [if_pos HM.out.2, if_pos (by rw [HW.out.2]; exact hL)]
    have HE := Lib.hid he
    clear he
    go_wp2_with fail
    go_ret2
    rw [HE.out]
    exact ⟨_, rfl, own_nil0 _ _, HW.out.1⟩
  · have hd : decide ((4096 : Int) < (NN : Int)) = false := decide_eq_false (by omega)
    have he : Rc.enc x.m = (Rc.body x.m, 0) := by unfold Rc.enc; rw [if_pos HM.out.2, if_neg (by rw [HW.out.2]; omega)]
    have HE := Lib.hid he
    clear he
    go_wp2_with fail
    go_ret2
    rw [HE.out]
    exact ⟨_, rfl, by dsimp only; rw [HW.out.2]; exact own_base HO2.out.own H.out.hb.size, HW.out.1⟩
set_option maxHeartbeats 16000000 in
theorem frenc2 (x : MD) (w W : World) (hW : w.alloc (.cells (mCells x) 30) = W) (nm nl : Nat) (h : EnH x w W nm nl) (hk : x.kind = 2) (hmay : Rc.may x.m = true) (hm : Calls Try.prog 14 #[mVal x] W fun e w' => e = .returned (.bool (Rc.may x.m)) ∧ Below W.heap.size W w') :
    Calls Try.prog 12 #[mVal x] w (RecP w (Rc.enc x.m)) := by
  have H := Lib.hid h
  have HK := Lib.hid hk
  have HM := Lib.hid (And.intro hm hmay)
  clear h hk hm hmay
  have hbody : Rc.body x.m = Sl.numB (2 : Int) ++ (Sl.numB x.tx ++ (Sl.numB x.prev ++ (Sl.numB x.nxt ++ (Sl.textB x.key.data.toList ++ (vC.enc x.new))))) := by unfold Rc.body; rw [show x.m.kind = 2 from HK.out]; rfl
  have hk0 := num_le (2 : Int)
  have t0 : ∀ W' : World, Calls Try.prog 21 #[.int .i64 2] W' (OwnB 5 W' (Sl.numB (2 : Int))) := fun W' => fnum_any 2 W' (by omega)
  have z1 := num_le x.tx
  have t1 : ∀ W' : World, Below W.heap.size W W' → Calls Try.prog 21 #[.int .i64 x.tx] W' (OwnB 5 W' (Sl.numB x.tx)) := fun W' hb => fnum_any x.tx W' (i64_of H.out.ff.tx)
  have z2 := num_le x.prev
  have t2 : ∀ W' : World, Below W.heap.size W W' → Calls Try.prog 21 #[.int .i64 x.prev] W' (OwnB 5 W' (Sl.numB x.prev)) := fun W' hb => fnum_any x.prev W' (i64_of H.out.ff.prev)
  have z3 := num_le x.nxt
  have t3 : ∀ W' : World, Below W.heap.size W W' → Calls Try.prog 21 #[.int .i64 x.nxt] W' (OwnB 5 W' (Sl.numB x.nxt)) := fun W' hb => fnum_any x.nxt W' (i64_of H.out.ff.nxt)
  have z4 := len_text H.out.ff.key
  have t4 : ∀ W' : World, Below W.heap.size W W' → Calls Try.prog 23 #[.string x.key] W' (OwnB 5 W' (Sl.textB x.key.data.toList)) := fun W' hb => ftext_any x.key W' (by have := H.out.ff.key; omega)
  have z5 := len_val H.out.ff.new
  have t5 : ∀ W' : World, Below W.heap.size W W' → Calls Try.prog 24 #[vVal x.new] W' (OwnB 5 W' (vC.enc x.new)) := fun W' hb => fval_any x.new W' H.out.ff.new
  obtain ⟨q0, hq0⟩ : ∃ b, Sl.numB (2 : Int) = b := ⟨_, rfl⟩
  rw [hq0] at hbody hk0 t0
  obtain ⟨q1, hq1⟩ : ∃ b, Sl.numB x.tx = b := ⟨_, rfl⟩
  rw [hq1] at hbody z1 t1
  obtain ⟨q2, hq2⟩ : ∃ b, Sl.numB x.prev = b := ⟨_, rfl⟩
  rw [hq2] at hbody z2 t2
  obtain ⟨q3, hq3⟩ : ∃ b, Sl.numB x.nxt = b := ⟨_, rfl⟩
  rw [hq3] at hbody z3 t3
  obtain ⟨q4, hq4⟩ : ∃ b, Sl.textB x.key.data.toList = b := ⟨_, rfl⟩
  rw [hq4] at hbody z4 t4
  obtain ⟨q5, hq5⟩ : ∃ b, vC.enc x.new = b := ⟨_, rfl⟩
  rw [hq5] at hbody z5 t5
  have T := Lib.hid (And.intro t0 (And.intro t1 (And.intro t2 (And.intro t3 (And.intro t4 (t5))))))
  have HB := Lib.hid hbody
  clear hbody t0 t1 t2 t3 t4 t5 hq0 hq1 hq2 hq3 hq4 hq5
  go_enter Try.func12, Try.ntmps12
  have hx0 := H.out.hx
  go_wp2_with (refine wpList_load_rec' _ (by rfl) (by rfl) (by rfl) hx0 ?_)
  refine HM.out.1.mono ?_
  rw [HM.out.2]
  rintro e y1 ⟨rfl, hb1⟩
  have HY := Lib.hid hb1
  have hq := H.out.hx.below hb1 H.out.hx.lt
  have k0 : y1.cell? ⟨w.heap.size, 0, none⟩ = some (.int .i64 2) := (hq.cell 0).trans (by show some (Value.int .i64 x.kind) = _; rw [HK.out])
  clear hq hb1 hx0
  go_wp2_with fail
  refine (T.out.1 _).mono ?_
  rintro e w0 ⟨r0, rfl, ho, hb⟩
  obtain ⟨A0, d0, rfl, hO⟩ := Out.first ho hb HY.out
  have H0 := Lib.hid hO
  have hq := H.out.hx.below hO.below H.out.hx.lt
  have k0 : w0.cell? ⟨w.heap.size, 0, none⟩ = some (.int .i64 2) := (hq.cell 0).trans (by show some (Value.int .i64 x.kind) = _; rw [HK.out])
  have k1 : w0.cell? ⟨w.heap.size, 1, none⟩ = some (.int .i64 x.tx) := hq.cell 1
  clear ho hb hO
  clear hq
  go_wp2_with fail
  refine (T.out.2.1 _ H0.out.below).mono ?_
  rintro e x0 ⟨v0, rfl, ho, hb⟩
  obtain ⟨B0, f0, rfl, hO, hB⟩ := H0.out.next ho hb
  have G0 := Lib.hid (And.intro hO hB)
  clear ho hb hO hB
  go_wp2_with (at_builtin; refine wpList_out rfl (.tmp 21) (.tmp 24) rfl G0.out.1 rfl rfl G0.out.2 (by omega) ?_; intro A1 d1 w1 hO; have hq := H.out.hx.below hO.below H.out.hx.lt; have k0 : w1.cell? ⟨w.heap.size, 0, none⟩ = some (.int .i64 2) := (hq.cell 0).trans (by show some (Value.int .i64 x.kind) = _; rw [HK.out]); have k2 : w1.cell? ⟨w.heap.size, 2, none⟩ = some (.int .i64 x.prev) := hq.cell 2; clear hq; have H1 := Lib.hid hO; clear hO)
  refine (T.out.2.2.1 _ H1.out.below).mono ?_
  rintro e x1 ⟨v1, rfl, ho, hb⟩
  obtain ⟨B1, f1, rfl, hO, hB⟩ := H1.out.next ho hb
  have G1 := Lib.hid (And.intro hO hB)
  clear ho hb hO hB
  go_wp2_with (at_builtin; refine wpList_out rfl (.tmp 29) (.tmp 32) rfl G1.out.1 rfl rfl G1.out.2 (by omega) ?_; intro A2 d2 w2 hO; have hq := H.out.hx.below hO.below H.out.hx.lt; have k0 : w2.cell? ⟨w.heap.size, 0, none⟩ = some (.int .i64 2) := (hq.cell 0).trans (by show some (Value.int .i64 x.kind) = _; rw [HK.out]); have k3 : w2.cell? ⟨w.heap.size, 3, none⟩ = some (.int .i64 x.nxt) := hq.cell 3; clear hq; have H2 := Lib.hid hO; clear hO)
  refine (T.out.2.2.2.1 _ H2.out.below).mono ?_
  rintro e x2 ⟨v2, rfl, ho, hb⟩
  obtain ⟨B2, f2, rfl, hO, hB⟩ := H2.out.next ho hb
  have G2 := Lib.hid (And.intro hO hB)
  clear ho hb hO hB
  go_wp2_with (at_builtin; refine wpList_out rfl (.tmp 37) (.tmp 40) rfl G2.out.1 rfl rfl G2.out.2 (by omega) ?_; intro A3 d3 w3 hO; have hq := H.out.hx.below hO.below H.out.hx.lt; have k0 : w3.cell? ⟨w.heap.size, 0, none⟩ = some (.int .i64 2) := (hq.cell 0).trans (by show some (Value.int .i64 x.kind) = _; rw [HK.out]); have k4 : w3.cell? ⟨w.heap.size, 4, none⟩ = some (.string x.key) := hq.cell 4; clear hq; have H3 := Lib.hid hO; clear hO)
  refine (T.out.2.2.2.2.1 _ H3.out.below).mono ?_
  rintro e x3 ⟨v3, rfl, ho, hb⟩
  obtain ⟨B3, f3, rfl, hO, hB⟩ := H3.out.next ho hb
  have G3 := Lib.hid (And.intro hO hB)
  clear ho hb hO hB
  go_wp2_with (at_builtin; refine wpList_out rfl (.tmp 50) (.tmp 53) rfl G3.out.1 rfl rfl G3.out.2 (by omega) ?_; intro A4 d4 w4 hO; have hq := H.out.hx.below hO.below H.out.hx.lt; have k0 : w4.cell? ⟨w.heap.size, 0, none⟩ = some (.int .i64 2) := (hq.cell 0).trans (by show some (Value.int .i64 x.kind) = _; rw [HK.out]); have k7 : w4.cell? ⟨w.heap.size, 7, none⟩ = some (.bool x.new.has) := hq.cell 7; have k8 : w4.cell? ⟨w.heap.size, 8, none⟩ = some (.string x.new.data) := hq.cell 8; clear hq; have H4 := Lib.hid hO; clear hO)
  refine (T.out.2.2.2.2.2 _ H4.out.below).mono ?_
  rintro e x4 ⟨v4, rfl, ho, hb⟩
  obtain ⟨B4, f4, rfl, hO, hB⟩ := H4.out.next ho hb
  have G4 := Lib.hid (And.intro hO hB)
  clear ho hb hO hB
  go_upto_region 24 with (at_builtin; refine wpList_out rfl (.tmp 71) (.tmp 74) rfl G4.out.1 rfl rfl G4.out.2 (by omega) ?_; intro A5 d5 w5 hO; have hq := H.out.hx.below hO.below H.out.hx.lt; have k0 : w5.cell? ⟨w.heap.size, 0, none⟩ = some (.int .i64 2) := (hq.cell 0).trans (by show some (Value.int .i64 x.kind) = _; rw [HK.out]); clear hq; have H5 := Lib.hid hO; clear hO)
  have HO := Lib.hid (show Out W A5 (q0.length + q1.length + q2.length + q3.length + q4.length + q5.length) d5 (Rc.body x.m) w5 by have g := H5.out; rw [HB.out]; first | (simp only [List.append_assoc, List.append_nil] at g ⊢; exact g) | exact g | (simp only [List.append_nil]; exact g))
  have hlen : (Rc.body x.m).length = q0.length + q1.length + q2.length + q3.length + q4.length + q5.length := HO.out.len
  obtain ⟨NN, hNN⟩ : ∃ b, q0.length + q1.length + q2.length + q3.length + q4.length + q5.length = b := ⟨_, rfl⟩
  rw [hNN] at hlen ⊢
  have HO2 := Lib.hid (by have g := HO.out; rw [hNN] at g; exact g)
  have HW := Lib.hid (And.intro (H.out.hb.trans (HO.out.below.mono H.out.hb.size)) hlen)
  clear hNN hlen
  rcases Nat.lt_or_ge 4096 NN with hL | hL
  · have hd : decide ((4096 : Int) < (NN : Int)) = true := decide_eq_true (by omega)
    have he : Rc.enc x.m = ([], 12) := by unfold Rc.enc; rw [if_pos HM.out.2, if_pos (by rw [HW.out.2]; exact hL)]
    have HE := Lib.hid he
    clear he
    go_wp2_with fail
    go_ret2
    rw [HE.out]
    exact ⟨_, rfl, own_nil0 _ _, HW.out.1⟩
  · have hd : decide ((4096 : Int) < (NN : Int)) = false := decide_eq_false (by omega)
    have he : Rc.enc x.m = (Rc.body x.m, 0) := by unfold Rc.enc; rw [if_pos HM.out.2, if_neg (by rw [HW.out.2]; omega)]
    have HE := Lib.hid he
    clear he
    go_wp2_with fail
    go_ret2
    rw [HE.out]
    exact ⟨_, rfl, by dsimp only; rw [HW.out.2]; exact own_base HO2.out.own H.out.hb.size, HW.out.1⟩
set_option maxHeartbeats 16000000 in
theorem frenc3 (x : MD) (w W : World) (hW : w.alloc (.cells (mCells x) 30) = W) (nm nl : Nat) (h : EnH x w W nm nl) (hk : x.kind = 3) (hmay : Rc.may x.m = true) (hm : Calls Try.prog 14 #[mVal x] W fun e w' => e = .returned (.bool (Rc.may x.m)) ∧ Below W.heap.size W w') :
    Calls Try.prog 12 #[mVal x] w (RecP w (Rc.enc x.m)) := by
  have H := Lib.hid h
  have HK := Lib.hid hk
  have HM := Lib.hid (And.intro hm hmay)
  clear h hk hm hmay
  have hbody : Rc.body x.m = Sl.numB (3 : Int) ++ (Sl.numB x.tx ++ (Sl.numB x.prev ++ (Sl.numB x.coord ++ (iC.enc x.mem ++ (lsC.enc x.locks))))) := by unfold Rc.body; rw [show x.m.kind = 3 from HK.out]; rfl
  have hk0 := num_le (3 : Int)
  have t0 : ∀ W' : World, Calls Try.prog 21 #[.int .i64 3] W' (OwnB 5 W' (Sl.numB (3 : Int))) := fun W' => fnum_any 3 W' (by omega)
  have z1 := num_le x.tx
  have t1 : ∀ W' : World, Below W.heap.size W W' → Calls Try.prog 21 #[.int .i64 x.tx] W' (OwnB 5 W' (Sl.numB x.tx)) := fun W' hb => fnum_any x.tx W' (i64_of H.out.ff.tx)
  have z2 := num_le x.prev
  have t2 : ∀ W' : World, Below W.heap.size W W' → Calls Try.prog 21 #[.int .i64 x.prev] W' (OwnB 5 W' (Sl.numB x.prev)) := fun W' hb => fnum_any x.prev W' (i64_of H.out.ff.prev)
  have z3 := num_le x.coord
  have t3 : ∀ W' : World, Below W.heap.size W W' → Calls Try.prog 21 #[.int .i64 x.coord] W' (OwnB 5 W' (Sl.numB x.coord)) := fun W' hb => fnum_any x.coord W' (i64_of H.out.ff.coord)
  have z4 := len_ints (l := x.mem) H.out.ff.mlen
  have t4 : ∀ W' : World, Below W.heap.size W W' → Calls Try.prog 25 #[.slice x.mA nm x.mc] W' (OwnB 5 W' (iC.enc x.mem)) := fun W' hb => fints_any x.mA nm x.mc x.mem W' (by have g := (H.out.ok.below hb).mem; rw [H.out.lm] at g; exact g) (by have := H.out.ff.mlen; have := H.out.lm; omega) (fun k hk => H.out.ff.mem k (by rw [H.out.lm]; exact hk))
  have z5 := len_locks (l := x.locks) H.out.ff.llen H.out.ff.locks
  have t5 : ∀ W' : World, Below W.heap.size W W' → Calls Try.prog 26 #[.slice x.lA nl x.lc] W' (OwnB 5 W' (lsC.enc x.locks)) := fun W' hb => flocksE_any x.lA nl x.lc x.locks W' (by have g := (H.out.ok.below hb).locks; rw [H.out.ll] at g; exact g) (by have := H.out.ff.llen; have := H.out.ll; omega) (fun k hk => H.out.ff.locks k (by rw [H.out.ll]; exact hk))
  obtain ⟨q0, hq0⟩ : ∃ b, Sl.numB (3 : Int) = b := ⟨_, rfl⟩
  rw [hq0] at hbody hk0 t0
  obtain ⟨q1, hq1⟩ : ∃ b, Sl.numB x.tx = b := ⟨_, rfl⟩
  rw [hq1] at hbody z1 t1
  obtain ⟨q2, hq2⟩ : ∃ b, Sl.numB x.prev = b := ⟨_, rfl⟩
  rw [hq2] at hbody z2 t2
  obtain ⟨q3, hq3⟩ : ∃ b, Sl.numB x.coord = b := ⟨_, rfl⟩
  rw [hq3] at hbody z3 t3
  obtain ⟨q4, hq4⟩ : ∃ b, iC.enc x.mem = b := ⟨_, rfl⟩
  rw [hq4] at hbody z4 t4
  obtain ⟨q5, hq5⟩ : ∃ b, lsC.enc x.locks = b := ⟨_, rfl⟩
  rw [hq5] at hbody z5 t5
  have T := Lib.hid (And.intro t0 (And.intro t1 (And.intro t2 (And.intro t3 (And.intro t4 (t5))))))
  have HB := Lib.hid hbody
  clear hbody t0 t1 t2 t3 t4 t5 hq0 hq1 hq2 hq3 hq4 hq5
  go_enter Try.func12, Try.ntmps12
  have hx0 := H.out.hx
  go_wp2_with (refine wpList_load_rec' _ (by rfl) (by rfl) (by rfl) hx0 ?_)
  refine HM.out.1.mono ?_
  rw [HM.out.2]
  rintro e y1 ⟨rfl, hb1⟩
  have HY := Lib.hid hb1
  have hq := H.out.hx.below hb1 H.out.hx.lt
  have k0 : y1.cell? ⟨w.heap.size, 0, none⟩ = some (.int .i64 3) := (hq.cell 0).trans (by show some (Value.int .i64 x.kind) = _; rw [HK.out])
  clear hq hb1 hx0
  go_wp2_with fail
  refine (T.out.1 _).mono ?_
  rintro e w0 ⟨r0, rfl, ho, hb⟩
  obtain ⟨A0, d0, rfl, hO⟩ := Out.first ho hb HY.out
  have H0 := Lib.hid hO
  have hq := H.out.hx.below hO.below H.out.hx.lt
  have k0 : w0.cell? ⟨w.heap.size, 0, none⟩ = some (.int .i64 3) := (hq.cell 0).trans (by show some (Value.int .i64 x.kind) = _; rw [HK.out])
  have k1 : w0.cell? ⟨w.heap.size, 1, none⟩ = some (.int .i64 x.tx) := hq.cell 1
  clear ho hb hO
  clear hq
  go_wp2_with fail
  refine (T.out.2.1 _ H0.out.below).mono ?_
  rintro e x0 ⟨v0, rfl, ho, hb⟩
  obtain ⟨B0, f0, rfl, hO, hB⟩ := H0.out.next ho hb
  have G0 := Lib.hid (And.intro hO hB)
  clear ho hb hO hB
  go_wp2_with (at_builtin; refine wpList_out rfl (.tmp 21) (.tmp 24) rfl G0.out.1 rfl rfl G0.out.2 (by omega) ?_; intro A1 d1 w1 hO; have hq := H.out.hx.below hO.below H.out.hx.lt; have k0 : w1.cell? ⟨w.heap.size, 0, none⟩ = some (.int .i64 3) := (hq.cell 0).trans (by show some (Value.int .i64 x.kind) = _; rw [HK.out]); have k2 : w1.cell? ⟨w.heap.size, 2, none⟩ = some (.int .i64 x.prev) := hq.cell 2; clear hq; have H1 := Lib.hid hO; clear hO)
  refine (T.out.2.2.1 _ H1.out.below).mono ?_
  rintro e x1 ⟨v1, rfl, ho, hb⟩
  obtain ⟨B1, f1, rfl, hO, hB⟩ := H1.out.next ho hb
  have G1 := Lib.hid (And.intro hO hB)
  clear ho hb hO hB
  go_wp2_with (at_builtin; refine wpList_out rfl (.tmp 29) (.tmp 32) rfl G1.out.1 rfl rfl G1.out.2 (by omega) ?_; intro A2 d2 w2 hO; have hq := H.out.hx.below hO.below H.out.hx.lt; have k0 : w2.cell? ⟨w.heap.size, 0, none⟩ = some (.int .i64 3) := (hq.cell 0).trans (by show some (Value.int .i64 x.kind) = _; rw [HK.out]); have k9 : w2.cell? ⟨w.heap.size, 9, none⟩ = some (.int .i64 x.coord) := hq.cell 9; clear hq; have H2 := Lib.hid hO; clear hO)
  refine (T.out.2.2.2.1 _ H2.out.below).mono ?_
  rintro e x2 ⟨v2, rfl, ho, hb⟩
  obtain ⟨B2, f2, rfl, hO, hB⟩ := H2.out.next ho hb
  have G2 := Lib.hid (And.intro hO hB)
  clear ho hb hO hB
  go_wp2_with (at_builtin; refine wpList_out rfl (.tmp 79) (.tmp 82) rfl G2.out.1 rfl rfl G2.out.2 (by omega) ?_; intro A3 d3 w3 hO; have hq := H.out.hx.below hO.below H.out.hx.lt; have k0 : w3.cell? ⟨w.heap.size, 0, none⟩ = some (.int .i64 3) := (hq.cell 0).trans (by show some (Value.int .i64 x.kind) = _; rw [HK.out]); have k10 : w3.cell? ⟨w.heap.size, 10, none⟩ = some (.slice x.mA nm x.mc) := (hq.cell 10).trans (by rw [← H.out.lm]; rfl); clear hq; have H3 := Lib.hid hO; clear hO)
  refine (T.out.2.2.2.2.1 _ H3.out.below).mono ?_
  rintro e x3 ⟨v3, rfl, ho, hb⟩
  obtain ⟨B3, f3, rfl, hO, hB⟩ := H3.out.next ho hb
  have G3 := Lib.hid (And.intro hO hB)
  clear ho hb hO hB
  go_wp2_with (at_builtin; refine wpList_out rfl (.tmp 92) (.tmp 95) rfl G3.out.1 rfl rfl G3.out.2 (by omega) ?_; intro A4 d4 w4 hO; have hq := H.out.hx.below hO.below H.out.hx.lt; have k0 : w4.cell? ⟨w.heap.size, 0, none⟩ = some (.int .i64 3) := (hq.cell 0).trans (by show some (Value.int .i64 x.kind) = _; rw [HK.out]); have k11 : w4.cell? ⟨w.heap.size, 11, none⟩ = some (.slice x.lA nl x.lc) := (hq.cell 11).trans (by rw [← H.out.ll]; rfl); clear hq; have H4 := Lib.hid hO; clear hO)
  refine (T.out.2.2.2.2.2 _ H4.out.below).mono ?_
  rintro e x4 ⟨v4, rfl, ho, hb⟩
  obtain ⟨B4, f4, rfl, hO, hB⟩ := H4.out.next ho hb
  have G4 := Lib.hid (And.intro hO hB)
  clear ho hb hO hB
  go_upto_region 24 with (at_builtin; refine wpList_out rfl (.tmp 100) (.tmp 103) rfl G4.out.1 rfl rfl G4.out.2 (by omega) ?_; intro A5 d5 w5 hO; have hq := H.out.hx.below hO.below H.out.hx.lt; have k0 : w5.cell? ⟨w.heap.size, 0, none⟩ = some (.int .i64 3) := (hq.cell 0).trans (by show some (Value.int .i64 x.kind) = _; rw [HK.out]); clear hq; have H5 := Lib.hid hO; clear hO)
  have HO := Lib.hid (show Out W A5 (q0.length + q1.length + q2.length + q3.length + q4.length + q5.length) d5 (Rc.body x.m) w5 by have g := H5.out; rw [HB.out]; first | (simp only [List.append_assoc, List.append_nil] at g ⊢; exact g) | exact g | (simp only [List.append_nil]; exact g))
  have hlen : (Rc.body x.m).length = q0.length + q1.length + q2.length + q3.length + q4.length + q5.length := HO.out.len
  obtain ⟨NN, hNN⟩ : ∃ b, q0.length + q1.length + q2.length + q3.length + q4.length + q5.length = b := ⟨_, rfl⟩
  rw [hNN] at hlen ⊢
  have HO2 := Lib.hid (by have g := HO.out; rw [hNN] at g; exact g)
  have HW := Lib.hid (And.intro (H.out.hb.trans (HO.out.below.mono H.out.hb.size)) hlen)
  clear hNN hlen
  rcases Nat.lt_or_ge 4096 NN with hL | hL
  · have hd : decide ((4096 : Int) < (NN : Int)) = true := decide_eq_true (by omega)
    have he : Rc.enc x.m = ([], 12) := by unfold Rc.enc; rw [if_pos HM.out.2, if_pos (by rw [HW.out.2]; exact hL)]
    have HE := Lib.hid he
    clear he
    go_wp2_with fail
    go_ret2
    rw [HE.out]
    exact ⟨_, rfl, own_nil0 _ _, HW.out.1⟩
  · have hd : decide ((4096 : Int) < (NN : Int)) = false := decide_eq_false (by omega)
    have he : Rc.enc x.m = (Rc.body x.m, 0) := by unfold Rc.enc; rw [if_pos HM.out.2, if_neg (by rw [HW.out.2]; omega)]
    have HE := Lib.hid he
    clear he
    go_wp2_with fail
    go_ret2
    rw [HE.out]
    exact ⟨_, rfl, by dsimp only; rw [HW.out.2]; exact own_base HO2.out.own H.out.hb.size, HW.out.1⟩
set_option maxHeartbeats 16000000 in
theorem frenc4 (x : MD) (w W : World) (hW : w.alloc (.cells (mCells x) 30) = W) (nm nl : Nat) (h : EnH x w W nm nl) (hk : x.kind = 4) (hmay : Rc.may x.m = true) (hm : Calls Try.prog 14 #[mVal x] W fun e w' => e = .returned (.bool (Rc.may x.m)) ∧ Below W.heap.size W w') :
    Calls Try.prog 12 #[mVal x] w (RecP w (Rc.enc x.m)) := by
  have H := Lib.hid h
  have HK := Lib.hid hk
  have HM := Lib.hid (And.intro hm hmay)
  clear h hk hm hmay
  have hbody : Rc.body x.m = Sl.numB (4 : Int) ++ (Sl.numB x.tx ++ (Sl.numB x.prev)) := by unfold Rc.body; rw [show x.m.kind = 4 from HK.out]; rfl
  have hk0 := num_le (4 : Int)
  have t0 : ∀ W' : World, Calls Try.prog 21 #[.int .i64 4] W' (OwnB 5 W' (Sl.numB (4 : Int))) := fun W' => fnum_any 4 W' (by omega)
  have z1 := num_le x.tx
  have t1 : ∀ W' : World, Below W.heap.size W W' → Calls Try.prog 21 #[.int .i64 x.tx] W' (OwnB 5 W' (Sl.numB x.tx)) := fun W' hb => fnum_any x.tx W' (i64_of H.out.ff.tx)
  have z2 := num_le x.prev
  have t2 : ∀ W' : World, Below W.heap.size W W' → Calls Try.prog 21 #[.int .i64 x.prev] W' (OwnB 5 W' (Sl.numB x.prev)) := fun W' hb => fnum_any x.prev W' (i64_of H.out.ff.prev)
  obtain ⟨q0, hq0⟩ : ∃ b, Sl.numB (4 : Int) = b := ⟨_, rfl⟩
  rw [hq0] at hbody hk0 t0
  obtain ⟨q1, hq1⟩ : ∃ b, Sl.numB x.tx = b := ⟨_, rfl⟩
  rw [hq1] at hbody z1 t1
  obtain ⟨q2, hq2⟩ : ∃ b, Sl.numB x.prev = b := ⟨_, rfl⟩
  rw [hq2] at hbody z2 t2
  have T := Lib.hid (And.intro t0 (And.intro t1 (t2)))
  have HB := Lib.hid hbody
  clear hbody t0 t1 t2 hq0 hq1 hq2
  go_enter Try.func12, Try.ntmps12
  have hx0 := H.out.hx
  go_wp2_with (refine wpList_load_rec' _ (by rfl) (by rfl) (by rfl) hx0 ?_)
  refine HM.out.1.mono ?_
  rw [HM.out.2]
  rintro e y1 ⟨rfl, hb1⟩
  have HY := Lib.hid hb1
  have hq := H.out.hx.below hb1 H.out.hx.lt
  have k0 : y1.cell? ⟨w.heap.size, 0, none⟩ = some (.int .i64 4) := (hq.cell 0).trans (by show some (Value.int .i64 x.kind) = _; rw [HK.out])
  clear hq hb1 hx0
  go_wp2_with fail
  refine (T.out.1 _).mono ?_
  rintro e w0 ⟨r0, rfl, ho, hb⟩
  obtain ⟨A0, d0, rfl, hO⟩ := Out.first ho hb HY.out
  have H0 := Lib.hid hO
  have hq := H.out.hx.below hO.below H.out.hx.lt
  have k0 : w0.cell? ⟨w.heap.size, 0, none⟩ = some (.int .i64 4) := (hq.cell 0).trans (by show some (Value.int .i64 x.kind) = _; rw [HK.out])
  have k1 : w0.cell? ⟨w.heap.size, 1, none⟩ = some (.int .i64 x.tx) := hq.cell 1
  clear ho hb hO
  clear hq
  go_wp2_with fail
  refine (T.out.2.1 _ H0.out.below).mono ?_
  rintro e x0 ⟨v0, rfl, ho, hb⟩
  obtain ⟨B0, f0, rfl, hO, hB⟩ := H0.out.next ho hb
  have G0 := Lib.hid (And.intro hO hB)
  clear ho hb hO hB
  go_wp2_with (at_builtin; refine wpList_out rfl (.tmp 21) (.tmp 24) rfl G0.out.1 rfl rfl G0.out.2 (by omega) ?_; intro A1 d1 w1 hO; have hq := H.out.hx.below hO.below H.out.hx.lt; have k0 : w1.cell? ⟨w.heap.size, 0, none⟩ = some (.int .i64 4) := (hq.cell 0).trans (by show some (Value.int .i64 x.kind) = _; rw [HK.out]); have k2 : w1.cell? ⟨w.heap.size, 2, none⟩ = some (.int .i64 x.prev) := hq.cell 2; clear hq; have H1 := Lib.hid hO; clear hO)
  refine (T.out.2.2 _ H1.out.below).mono ?_
  rintro e x1 ⟨v1, rfl, ho, hb⟩
  obtain ⟨B1, f1, rfl, hO, hB⟩ := H1.out.next ho hb
  have G1 := Lib.hid (And.intro hO hB)
  clear ho hb hO hB
  go_upto_region 24 with (at_builtin; refine wpList_out rfl (.tmp 29) (.tmp 32) rfl G1.out.1 rfl rfl G1.out.2 (by omega) ?_; intro A2 d2 w2 hO; have hq := H.out.hx.below hO.below H.out.hx.lt; have k0 : w2.cell? ⟨w.heap.size, 0, none⟩ = some (.int .i64 4) := (hq.cell 0).trans (by show some (Value.int .i64 x.kind) = _; rw [HK.out]); clear hq; have H2 := Lib.hid hO; clear hO)
  have HO := Lib.hid (show Out W A2 (q0.length + q1.length + q2.length) d2 (Rc.body x.m) w2 by have g := H2.out; rw [HB.out]; first | (simp only [List.append_assoc, List.append_nil] at g ⊢; exact g) | exact g | (simp only [List.append_nil]; exact g))
  have hlen : (Rc.body x.m).length = q0.length + q1.length + q2.length := HO.out.len
  obtain ⟨NN, hNN⟩ : ∃ b, q0.length + q1.length + q2.length = b := ⟨_, rfl⟩
  rw [hNN] at hlen ⊢
  have HO2 := Lib.hid (by have g := HO.out; rw [hNN] at g; exact g)
  have HW := Lib.hid (And.intro (H.out.hb.trans (HO.out.below.mono H.out.hb.size)) hlen)
  clear hNN hlen
  rcases Nat.lt_or_ge 4096 NN with hL | hL
  · have hd : decide ((4096 : Int) < (NN : Int)) = true := decide_eq_true (by omega)
    have he : Rc.enc x.m = ([], 12) := by unfold Rc.enc; rw [if_pos HM.out.2, if_pos (by rw [HW.out.2]; exact hL)]
    have HE := Lib.hid he
    clear he
    go_wp2_with fail
    go_ret2
    rw [HE.out]
    exact ⟨_, rfl, own_nil0 _ _, HW.out.1⟩
  · have hd : decide ((4096 : Int) < (NN : Int)) = false := decide_eq_false (by omega)
    have he : Rc.enc x.m = (Rc.body x.m, 0) := by unfold Rc.enc; rw [if_pos HM.out.2, if_neg (by rw [HW.out.2]; omega)]
    have HE := Lib.hid he
    clear he
    go_wp2_with fail
    go_ret2
    rw [HE.out]
    exact ⟨_, rfl, by dsimp only; rw [HW.out.2]; exact own_base HO2.out.own H.out.hb.size, HW.out.1⟩
set_option maxHeartbeats 16000000 in
theorem frenc5 (x : MD) (w W : World) (hW : w.alloc (.cells (mCells x) 30) = W) (nm nl : Nat) (h : EnH x w W nm nl) (hk : x.kind = 5) (hmay : Rc.may x.m = true) (hm : Calls Try.prog 14 #[mVal x] W fun e w' => e = .returned (.bool (Rc.may x.m)) ∧ Below W.heap.size W w') :
    Calls Try.prog 12 #[mVal x] w (RecP w (Rc.enc x.m)) := by
  have H := Lib.hid h
  have HK := Lib.hid hk
  have HM := Lib.hid (And.intro hm hmay)
  clear h hk hm hmay
  have hbody : Rc.body x.m = Sl.numB (5 : Int) ++ (Sl.numB x.tx ++ (Sl.numB x.prev)) := by unfold Rc.body; rw [show x.m.kind = 5 from HK.out]; rfl
  have hk0 := num_le (5 : Int)
  have t0 : ∀ W' : World, Calls Try.prog 21 #[.int .i64 5] W' (OwnB 5 W' (Sl.numB (5 : Int))) := fun W' => fnum_any 5 W' (by omega)
  have z1 := num_le x.tx
  have t1 : ∀ W' : World, Below W.heap.size W W' → Calls Try.prog 21 #[.int .i64 x.tx] W' (OwnB 5 W' (Sl.numB x.tx)) := fun W' hb => fnum_any x.tx W' (i64_of H.out.ff.tx)
  have z2 := num_le x.prev
  have t2 : ∀ W' : World, Below W.heap.size W W' → Calls Try.prog 21 #[.int .i64 x.prev] W' (OwnB 5 W' (Sl.numB x.prev)) := fun W' hb => fnum_any x.prev W' (i64_of H.out.ff.prev)
  obtain ⟨q0, hq0⟩ : ∃ b, Sl.numB (5 : Int) = b := ⟨_, rfl⟩
  rw [hq0] at hbody hk0 t0
  obtain ⟨q1, hq1⟩ : ∃ b, Sl.numB x.tx = b := ⟨_, rfl⟩
  rw [hq1] at hbody z1 t1
  obtain ⟨q2, hq2⟩ : ∃ b, Sl.numB x.prev = b := ⟨_, rfl⟩
  rw [hq2] at hbody z2 t2
  have T := Lib.hid (And.intro t0 (And.intro t1 (t2)))
  have HB := Lib.hid hbody
  clear hbody t0 t1 t2 hq0 hq1 hq2
  go_enter Try.func12, Try.ntmps12
  have hx0 := H.out.hx
  go_wp2_with (refine wpList_load_rec' _ (by rfl) (by rfl) (by rfl) hx0 ?_)
  refine HM.out.1.mono ?_
  rw [HM.out.2]
  rintro e y1 ⟨rfl, hb1⟩
  have HY := Lib.hid hb1
  have hq := H.out.hx.below hb1 H.out.hx.lt
  have k0 : y1.cell? ⟨w.heap.size, 0, none⟩ = some (.int .i64 5) := (hq.cell 0).trans (by show some (Value.int .i64 x.kind) = _; rw [HK.out])
  clear hq hb1 hx0
  go_wp2_with fail
  refine (T.out.1 _).mono ?_
  rintro e w0 ⟨r0, rfl, ho, hb⟩
  obtain ⟨A0, d0, rfl, hO⟩ := Out.first ho hb HY.out
  have H0 := Lib.hid hO
  have hq := H.out.hx.below hO.below H.out.hx.lt
  have k0 : w0.cell? ⟨w.heap.size, 0, none⟩ = some (.int .i64 5) := (hq.cell 0).trans (by show some (Value.int .i64 x.kind) = _; rw [HK.out])
  have k1 : w0.cell? ⟨w.heap.size, 1, none⟩ = some (.int .i64 x.tx) := hq.cell 1
  clear ho hb hO
  clear hq
  go_wp2_with fail
  refine (T.out.2.1 _ H0.out.below).mono ?_
  rintro e x0 ⟨v0, rfl, ho, hb⟩
  obtain ⟨B0, f0, rfl, hO, hB⟩ := H0.out.next ho hb
  have G0 := Lib.hid (And.intro hO hB)
  clear ho hb hO hB
  go_wp2_with (at_builtin; refine wpList_out rfl (.tmp 21) (.tmp 24) rfl G0.out.1 rfl rfl G0.out.2 (by omega) ?_; intro A1 d1 w1 hO; have hq := H.out.hx.below hO.below H.out.hx.lt; have k0 : w1.cell? ⟨w.heap.size, 0, none⟩ = some (.int .i64 5) := (hq.cell 0).trans (by show some (Value.int .i64 x.kind) = _; rw [HK.out]); have k2 : w1.cell? ⟨w.heap.size, 2, none⟩ = some (.int .i64 x.prev) := hq.cell 2; clear hq; have H1 := Lib.hid hO; clear hO)
  refine (T.out.2.2 _ H1.out.below).mono ?_
  rintro e x1 ⟨v1, rfl, ho, hb⟩
  obtain ⟨B1, f1, rfl, hO, hB⟩ := H1.out.next ho hb
  have G1 := Lib.hid (And.intro hO hB)
  clear ho hb hO hB
  go_upto_region 24 with (at_builtin; refine wpList_out rfl (.tmp 29) (.tmp 32) rfl G1.out.1 rfl rfl G1.out.2 (by omega) ?_; intro A2 d2 w2 hO; have hq := H.out.hx.below hO.below H.out.hx.lt; have k0 : w2.cell? ⟨w.heap.size, 0, none⟩ = some (.int .i64 5) := (hq.cell 0).trans (by show some (Value.int .i64 x.kind) = _; rw [HK.out]); clear hq; have H2 := Lib.hid hO; clear hO)
  have HO := Lib.hid (show Out W A2 (q0.length + q1.length + q2.length) d2 (Rc.body x.m) w2 by have g := H2.out; rw [HB.out]; first | (simp only [List.append_assoc, List.append_nil] at g ⊢; exact g) | exact g | (simp only [List.append_nil]; exact g))
  have hlen : (Rc.body x.m).length = q0.length + q1.length + q2.length := HO.out.len
  obtain ⟨NN, hNN⟩ : ∃ b, q0.length + q1.length + q2.length = b := ⟨_, rfl⟩
  rw [hNN] at hlen ⊢
  have HO2 := Lib.hid (by have g := HO.out; rw [hNN] at g; exact g)
  have HW := Lib.hid (And.intro (H.out.hb.trans (HO.out.below.mono H.out.hb.size)) hlen)
  clear hNN hlen
  rcases Nat.lt_or_ge 4096 NN with hL | hL
  · have hd : decide ((4096 : Int) < (NN : Int)) = true := decide_eq_true (by omega)
    have he : Rc.enc x.m = ([], 12) := by unfold Rc.enc; rw [if_pos HM.out.2, if_pos (by rw [HW.out.2]; exact hL)]
    have HE := Lib.hid he
    clear he
    go_wp2_with fail
    go_ret2
    rw [HE.out]
    exact ⟨_, rfl, own_nil0 _ _, HW.out.1⟩
  · have hd : decide ((4096 : Int) < (NN : Int)) = false := decide_eq_false (by omega)
    have he : Rc.enc x.m = (Rc.body x.m, 0) := by unfold Rc.enc; rw [if_pos HM.out.2, if_neg (by rw [HW.out.2]; omega)]
    have HE := Lib.hid he
    clear he
    go_wp2_with fail
    go_ret2
    rw [HE.out]
    exact ⟨_, rfl, by dsimp only; rw [HW.out.2]; exact own_base HO2.out.own H.out.hb.size, HW.out.1⟩
set_option maxHeartbeats 16000000 in
theorem frenc6 (x : MD) (w W : World) (hW : w.alloc (.cells (mCells x) 30) = W) (nm nl : Nat) (h : EnH x w W nm nl) (hk : x.kind = 6) (hmay : Rc.may x.m = true) (hm : Calls Try.prog 14 #[mVal x] W fun e w' => e = .returned (.bool (Rc.may x.m)) ∧ Below W.heap.size W w') :
    Calls Try.prog 12 #[mVal x] w (RecP w (Rc.enc x.m)) := by
  have H := Lib.hid h
  have HK := Lib.hid hk
  have HM := Lib.hid (And.intro hm hmay)
  clear h hk hm hmay
  have hbody : Rc.body x.m = Sl.numB (6 : Int) ++ (Sl.numB x.tx ++ (Sl.numB x.prev)) := by unfold Rc.body; rw [show x.m.kind = 6 from HK.out]; rfl
  have hk0 := num_le (6 : Int)
  have t0 : ∀ W' : World, Calls Try.prog 21 #[.int .i64 6] W' (OwnB 5 W' (Sl.numB (6 : Int))) := fun W' => fnum_any 6 W' (by omega)
  have z1 := num_le x.tx
  have t1 : ∀ W' : World, Below W.heap.size W W' → Calls Try.prog 21 #[.int .i64 x.tx] W' (OwnB 5 W' (Sl.numB x.tx)) := fun W' hb => fnum_any x.tx W' (i64_of H.out.ff.tx)
  have z2 := num_le x.prev
  have t2 : ∀ W' : World, Below W.heap.size W W' → Calls Try.prog 21 #[.int .i64 x.prev] W' (OwnB 5 W' (Sl.numB x.prev)) := fun W' hb => fnum_any x.prev W' (i64_of H.out.ff.prev)
  obtain ⟨q0, hq0⟩ : ∃ b, Sl.numB (6 : Int) = b := ⟨_, rfl⟩
  rw [hq0] at hbody hk0 t0
  obtain ⟨q1, hq1⟩ : ∃ b, Sl.numB x.tx = b := ⟨_, rfl⟩
  rw [hq1] at hbody z1 t1
  obtain ⟨q2, hq2⟩ : ∃ b, Sl.numB x.prev = b := ⟨_, rfl⟩
  rw [hq2] at hbody z2 t2
  have T := Lib.hid (And.intro t0 (And.intro t1 (t2)))
  have HB := Lib.hid hbody
  clear hbody t0 t1 t2 hq0 hq1 hq2
  go_enter Try.func12, Try.ntmps12
  have hx0 := H.out.hx
  go_wp2_with (refine wpList_load_rec' _ (by rfl) (by rfl) (by rfl) hx0 ?_)
  refine HM.out.1.mono ?_
  rw [HM.out.2]
  rintro e y1 ⟨rfl, hb1⟩
  have HY := Lib.hid hb1
  have hq := H.out.hx.below hb1 H.out.hx.lt
  have k0 : y1.cell? ⟨w.heap.size, 0, none⟩ = some (.int .i64 6) := (hq.cell 0).trans (by show some (Value.int .i64 x.kind) = _; rw [HK.out])
  clear hq hb1 hx0
  go_wp2_with fail
  refine (T.out.1 _).mono ?_
  rintro e w0 ⟨r0, rfl, ho, hb⟩
  obtain ⟨A0, d0, rfl, hO⟩ := Out.first ho hb HY.out
  have H0 := Lib.hid hO
  have hq := H.out.hx.below hO.below H.out.hx.lt
  have k0 : w0.cell? ⟨w.heap.size, 0, none⟩ = some (.int .i64 6) := (hq.cell 0).trans (by show some (Value.int .i64 x.kind) = _; rw [HK.out])
  have k1 : w0.cell? ⟨w.heap.size, 1, none⟩ = some (.int .i64 x.tx) := hq.cell 1
  clear ho hb hO
  clear hq
  go_wp2_with fail
  refine (T.out.2.1 _ H0.out.below).mono ?_
  rintro e x0 ⟨v0, rfl, ho, hb⟩
  obtain ⟨B0, f0, rfl, hO, hB⟩ := H0.out.next ho hb
  have G0 := Lib.hid (And.intro hO hB)
  clear ho hb hO hB
  go_wp2_with (at_builtin; refine wpList_out rfl (.tmp 21) (.tmp 24) rfl G0.out.1 rfl rfl G0.out.2 (by omega) ?_; intro A1 d1 w1 hO; have hq := H.out.hx.below hO.below H.out.hx.lt; have k0 : w1.cell? ⟨w.heap.size, 0, none⟩ = some (.int .i64 6) := (hq.cell 0).trans (by show some (Value.int .i64 x.kind) = _; rw [HK.out]); have k2 : w1.cell? ⟨w.heap.size, 2, none⟩ = some (.int .i64 x.prev) := hq.cell 2; clear hq; have H1 := Lib.hid hO; clear hO)
  refine (T.out.2.2 _ H1.out.below).mono ?_
  rintro e x1 ⟨v1, rfl, ho, hb⟩
  obtain ⟨B1, f1, rfl, hO, hB⟩ := H1.out.next ho hb
  have G1 := Lib.hid (And.intro hO hB)
  clear ho hb hO hB
  go_upto_region 24 with (at_builtin; refine wpList_out rfl (.tmp 29) (.tmp 32) rfl G1.out.1 rfl rfl G1.out.2 (by omega) ?_; intro A2 d2 w2 hO; have hq := H.out.hx.below hO.below H.out.hx.lt; have k0 : w2.cell? ⟨w.heap.size, 0, none⟩ = some (.int .i64 6) := (hq.cell 0).trans (by show some (Value.int .i64 x.kind) = _; rw [HK.out]); clear hq; have H2 := Lib.hid hO; clear hO)
  have HO := Lib.hid (show Out W A2 (q0.length + q1.length + q2.length) d2 (Rc.body x.m) w2 by have g := H2.out; rw [HB.out]; first | (simp only [List.append_assoc, List.append_nil] at g ⊢; exact g) | exact g | (simp only [List.append_nil]; exact g))
  have hlen : (Rc.body x.m).length = q0.length + q1.length + q2.length := HO.out.len
  obtain ⟨NN, hNN⟩ : ∃ b, q0.length + q1.length + q2.length = b := ⟨_, rfl⟩
  rw [hNN] at hlen ⊢
  have HO2 := Lib.hid (by have g := HO.out; rw [hNN] at g; exact g)
  have HW := Lib.hid (And.intro (H.out.hb.trans (HO.out.below.mono H.out.hb.size)) hlen)
  clear hNN hlen
  rcases Nat.lt_or_ge 4096 NN with hL | hL
  · have hd : decide ((4096 : Int) < (NN : Int)) = true := decide_eq_true (by omega)
    have he : Rc.enc x.m = ([], 12) := by unfold Rc.enc; rw [if_pos HM.out.2, if_pos (by rw [HW.out.2]; exact hL)]
    have HE := Lib.hid he
    clear he
    go_wp2_with fail
    go_ret2
    rw [HE.out]
    exact ⟨_, rfl, own_nil0 _ _, HW.out.1⟩
  · have hd : decide ((4096 : Int) < (NN : Int)) = false := decide_eq_false (by omega)
    have he : Rc.enc x.m = (Rc.body x.m, 0) := by unfold Rc.enc; rw [if_pos HM.out.2, if_neg (by rw [HW.out.2]; omega)]
    have HE := Lib.hid he
    clear he
    go_wp2_with fail
    go_ret2
    rw [HE.out]
    exact ⟨_, rfl, by dsimp only; rw [HW.out.2]; exact own_base HO2.out.own H.out.hb.size, HW.out.1⟩
set_option maxHeartbeats 16000000 in
theorem frenc7 (x : MD) (w W : World) (hW : w.alloc (.cells (mCells x) 30) = W) (nm nl : Nat) (h : EnH x w W nm nl) (hk : x.kind = 7) (hmay : Rc.may x.m = true) (hm : Calls Try.prog 14 #[mVal x] W fun e w' => e = .returned (.bool (Rc.may x.m)) ∧ Below W.heap.size W w') :
    Calls Try.prog 12 #[mVal x] w (RecP w (Rc.enc x.m)) := by
  have H := Lib.hid h
  have HK := Lib.hid hk
  have HM := Lib.hid (And.intro hm hmay)
  clear h hk hm hmay
  have hbody : Rc.body x.m = Sl.numB (7 : Int) ++ (([] : List UInt8)) := by unfold Rc.body; rw [show x.m.kind = 7 from HK.out]; rfl
  have hk0 := num_le (7 : Int)
  have t0 : ∀ W' : World, Calls Try.prog 21 #[.int .i64 7] W' (OwnB 5 W' (Sl.numB (7 : Int))) := fun W' => fnum_any 7 W' (by omega)
  obtain ⟨q0, hq0⟩ : ∃ b, Sl.numB (7 : Int) = b := ⟨_, rfl⟩
  rw [hq0] at hbody hk0 t0
  have T := Lib.hid t0
  have HB := Lib.hid hbody
  clear hbody t0 hq0
  go_enter Try.func12, Try.ntmps12
  have hx0 := H.out.hx
  go_wp2_with (refine wpList_load_rec' _ (by rfl) (by rfl) (by rfl) hx0 ?_)
  refine HM.out.1.mono ?_
  rw [HM.out.2]
  rintro e y1 ⟨rfl, hb1⟩
  have HY := Lib.hid hb1
  have hq := H.out.hx.below hb1 H.out.hx.lt
  have k0 : y1.cell? ⟨w.heap.size, 0, none⟩ = some (.int .i64 7) := (hq.cell 0).trans (by show some (Value.int .i64 x.kind) = _; rw [HK.out])
  clear hq hb1 hx0
  go_wp2_with fail
  refine (T.out _).mono ?_
  rintro e w0 ⟨r0, rfl, ho, hb⟩
  obtain ⟨A0, d0, rfl, hO⟩ := Out.first ho hb HY.out
  have H0 := Lib.hid hO
  have hq := H.out.hx.below hO.below H.out.hx.lt
  have k0 : w0.cell? ⟨w.heap.size, 0, none⟩ = some (.int .i64 7) := (hq.cell 0).trans (by show some (Value.int .i64 x.kind) = _; rw [HK.out])
  clear ho hb hO
  clear hq
  go_upto_region 24 with fail
  have HO := Lib.hid (show Out W A0 (q0.length) d0 (Rc.body x.m) w0 by have g := H0.out; rw [HB.out]; first | (simp only [List.append_assoc, List.append_nil] at g ⊢; exact g) | exact g | (simp only [List.append_nil]; exact g))
  have hlen : (Rc.body x.m).length = q0.length := HO.out.len
  obtain ⟨NN, hNN⟩ : ∃ b, q0.length = b := ⟨_, rfl⟩
  rw [hNN] at hlen ⊢
  have HO2 := Lib.hid (by have g := HO.out; rw [hNN] at g; exact g)
  have HW := Lib.hid (And.intro (H.out.hb.trans (HO.out.below.mono H.out.hb.size)) hlen)
  clear hNN hlen
  rcases Nat.lt_or_ge 4096 NN with hL | hL
  · have hd : decide ((4096 : Int) < (NN : Int)) = true := decide_eq_true (by omega)
    have he : Rc.enc x.m = ([], 12) := by unfold Rc.enc; rw [if_pos HM.out.2, if_pos (by rw [HW.out.2]; exact hL)]
    have HE := Lib.hid he
    clear he
    go_wp2_with fail
    go_ret2
    rw [HE.out]
    exact ⟨_, rfl, own_nil0 _ _, HW.out.1⟩
  · have hd : decide ((4096 : Int) < (NN : Int)) = false := decide_eq_false (by omega)
    have he : Rc.enc x.m = (Rc.body x.m, 0) := by unfold Rc.enc; rw [if_pos HM.out.2, if_neg (by rw [HW.out.2]; omega)]
    have HE := Lib.hid he
    clear he
    go_wp2_with fail
    go_ret2
    rw [HE.out]
    exact ⟨_, rfl, by dsimp only; rw [HW.out.2]; exact own_base HO2.out.own H.out.hb.size, HW.out.1⟩
set_option maxHeartbeats 16000000 in
theorem frenc8 (x : MD) (w W : World) (hW : w.alloc (.cells (mCells x) 30) = W) (nm nl : Nat) (h : EnH x w W nm nl) (hk : x.kind = 8) (hmay : Rc.may x.m = true) (hm : Calls Try.prog 14 #[mVal x] W fun e w' => e = .returned (.bool (Rc.may x.m)) ∧ Below W.heap.size W w') :
    Calls Try.prog 12 #[mVal x] w (RecP w (Rc.enc x.m)) := by
  have H := Lib.hid h
  have HK := Lib.hid hk
  have HM := Lib.hid (And.intro hm hmay)
  clear h hk hm hmay
  have hbody : Rc.body x.m = Sl.numB (8 : Int) ++ ((rwsC.enc x.m.rows ++ (dsC.enc x.m.dirty ++ (desC.enc x.m.deeds ++ iC.enc x.m.past)))) := by unfold Rc.body; rw [show x.m.kind = 8 from HK.out]; rfl
  have hk0 := num_le (8 : Int)
  have t0 : ∀ W' : World, Calls Try.prog 21 #[.int .i64 8] W' (OwnB 5 W' (Sl.numB (8 : Int))) := fun W' => fnum_any 8 W' (by omega)
  have z1 := lists_le H.out.ff
  have t1 : ∀ W' : World, Below W.heap.size W W' → Calls Try.prog 22 #[mVal x] W' (OwnB 5 W' ((rwsC.enc x.m.rows ++ (dsC.enc x.m.dirty ++ (desC.enc x.m.deeds ++ iC.enc x.m.past))))) := fun W' hb => flists_any x W' (H.out.ok.below hb) H.out.ff
  obtain ⟨q0, hq0⟩ : ∃ b, Sl.numB (8 : Int) = b := ⟨_, rfl⟩
  rw [hq0] at hbody hk0 t0
  obtain ⟨q1, hq1⟩ : ∃ b, (rwsC.enc x.m.rows ++ (dsC.enc x.m.dirty ++ (desC.enc x.m.deeds ++ iC.enc x.m.past))) = b := ⟨_, rfl⟩
  rw [hq1] at hbody z1 t1
  have T := Lib.hid (And.intro t0 (t1))
  have HB := Lib.hid hbody
  clear hbody t0 t1 hq0 hq1
  go_enter Try.func12, Try.ntmps12
  have hx0 := H.out.hx
  go_wp2_with (refine wpList_load_rec' _ (by rfl) (by rfl) (by rfl) hx0 ?_)
  refine HM.out.1.mono ?_
  rw [HM.out.2]
  rintro e y1 ⟨rfl, hb1⟩
  have HY := Lib.hid hb1
  have hq := H.out.hx.below hb1 H.out.hx.lt
  have k0 : y1.cell? ⟨w.heap.size, 0, none⟩ = some (.int .i64 8) := (hq.cell 0).trans (by show some (Value.int .i64 x.kind) = _; rw [HK.out])
  clear hq hb1 hx0
  go_wp2_with fail
  refine (T.out.1 _).mono ?_
  rintro e w0 ⟨r0, rfl, ho, hb⟩
  obtain ⟨A0, d0, rfl, hO⟩ := Out.first ho hb HY.out
  have H0 := Lib.hid hO
  have hq := H.out.hx.below hO.below H.out.hx.lt
  have k0 : w0.cell? ⟨w.heap.size, 0, none⟩ = some (.int .i64 8) := (hq.cell 0).trans (by show some (Value.int .i64 x.kind) = _; rw [HK.out])
  have hbx := hq
  clear ho hb hO
  go_wp2_with (refine wpList_load_rec' _ (by rfl) (by rfl) (by rfl) hbx ?_)
  refine (T.out.2 _ H0.out.below).mono ?_
  rintro e x0 ⟨v0, rfl, ho, hb⟩
  obtain ⟨B0, f0, rfl, hO, hB⟩ := H0.out.next ho hb
  have G0 := Lib.hid (And.intro hO hB)
  clear ho hb hO hB
  go_upto_region 24 with (at_builtin; refine wpList_out rfl (.tmp 14) (.tmp 16) rfl G0.out.1 rfl rfl G0.out.2 (by omega) ?_; intro A1 d1 w1 hO; have hq := H.out.hx.below hO.below H.out.hx.lt; have k0 : w1.cell? ⟨w.heap.size, 0, none⟩ = some (.int .i64 8) := (hq.cell 0).trans (by show some (Value.int .i64 x.kind) = _; rw [HK.out]); clear hq; have H1 := Lib.hid hO; clear hO)
  have HO := Lib.hid (show Out W A1 (q0.length + q1.length) d1 (Rc.body x.m) w1 by have g := H1.out; rw [HB.out]; first | (simp only [List.append_assoc, List.append_nil] at g ⊢; exact g) | exact g | (simp only [List.append_nil]; exact g))
  have hlen : (Rc.body x.m).length = q0.length + q1.length := HO.out.len
  obtain ⟨NN, hNN⟩ : ∃ b, q0.length + q1.length = b := ⟨_, rfl⟩
  rw [hNN] at hlen ⊢
  have HO2 := Lib.hid (by have g := HO.out; rw [hNN] at g; exact g)
  have HW := Lib.hid (And.intro (H.out.hb.trans (HO.out.below.mono H.out.hb.size)) hlen)
  clear hNN hlen
  rcases Nat.lt_or_ge 4096 NN with hL | hL
  · have hd : decide ((4096 : Int) < (NN : Int)) = true := decide_eq_true (by omega)
    have he : Rc.enc x.m = ([], 12) := by unfold Rc.enc; rw [if_pos HM.out.2, if_pos (by rw [HW.out.2]; exact hL)]
    have HE := Lib.hid he
    clear he
    go_wp2_with fail
    go_ret2
    rw [HE.out]
    exact ⟨_, rfl, own_nil0 _ _, HW.out.1⟩
  · have hd : decide ((4096 : Int) < (NN : Int)) = false := decide_eq_false (by omega)
    have he : Rc.enc x.m = (Rc.body x.m, 0) := by unfold Rc.enc; rw [if_pos HM.out.2, if_neg (by rw [HW.out.2]; omega)]
    have HE := Lib.hid he
    clear he
    go_wp2_with fail
    go_ret2
    rw [HE.out]
    exact ⟨_, rfl, by dsimp only; rw [HW.out.2]; exact own_base HO2.out.own H.out.hb.size, HW.out.1⟩
set_option maxHeartbeats 16000000 in
theorem frenc9 (x : MD) (w W : World) (hW : w.alloc (.cells (mCells x) 30) = W) (nm nl : Nat) (h : EnH x w W nm nl) (hk : x.kind = 9) (hmay : Rc.may x.m = true) (hm : Calls Try.prog 14 #[mVal x] W fun e w' => e = .returned (.bool (Rc.may x.m)) ∧ Below W.heap.size W w') :
    Calls Try.prog 12 #[mVal x] w (RecP w (Rc.enc x.m)) := by
  have H := Lib.hid h
  have HK := Lib.hid hk
  have HM := Lib.hid (And.intro hm hmay)
  clear h hk hm hmay
  have hbody : Rc.body x.m = Sl.numB (9 : Int) ++ (Sl.numB x.tx ++ (iC.enc x.mem)) := by unfold Rc.body; rw [show x.m.kind = 9 from HK.out]; rfl
  have hk0 := num_le (9 : Int)
  have t0 : ∀ W' : World, Calls Try.prog 21 #[.int .i64 9] W' (OwnB 5 W' (Sl.numB (9 : Int))) := fun W' => fnum_any 9 W' (by omega)
  have z1 := num_le x.tx
  have t1 : ∀ W' : World, Below W.heap.size W W' → Calls Try.prog 21 #[.int .i64 x.tx] W' (OwnB 5 W' (Sl.numB x.tx)) := fun W' hb => fnum_any x.tx W' (i64_of H.out.ff.tx)
  have z2 := len_ints (l := x.mem) H.out.ff.mlen
  have t2 : ∀ W' : World, Below W.heap.size W W' → Calls Try.prog 25 #[.slice x.mA nm x.mc] W' (OwnB 5 W' (iC.enc x.mem)) := fun W' hb => fints_any x.mA nm x.mc x.mem W' (by have g := (H.out.ok.below hb).mem; rw [H.out.lm] at g; exact g) (by have := H.out.ff.mlen; have := H.out.lm; omega) (fun k hk => H.out.ff.mem k (by rw [H.out.lm]; exact hk))
  obtain ⟨q0, hq0⟩ : ∃ b, Sl.numB (9 : Int) = b := ⟨_, rfl⟩
  rw [hq0] at hbody hk0 t0
  obtain ⟨q1, hq1⟩ : ∃ b, Sl.numB x.tx = b := ⟨_, rfl⟩
  rw [hq1] at hbody z1 t1
  obtain ⟨q2, hq2⟩ : ∃ b, iC.enc x.mem = b := ⟨_, rfl⟩
  rw [hq2] at hbody z2 t2
  have T := Lib.hid (And.intro t0 (And.intro t1 (t2)))
  have HB := Lib.hid hbody
  clear hbody t0 t1 t2 hq0 hq1 hq2
  go_enter Try.func12, Try.ntmps12
  have hx0 := H.out.hx
  go_wp2_with (refine wpList_load_rec' _ (by rfl) (by rfl) (by rfl) hx0 ?_)
  refine HM.out.1.mono ?_
  rw [HM.out.2]
  rintro e y1 ⟨rfl, hb1⟩
  have HY := Lib.hid hb1
  have hq := H.out.hx.below hb1 H.out.hx.lt
  have k0 : y1.cell? ⟨w.heap.size, 0, none⟩ = some (.int .i64 9) := (hq.cell 0).trans (by show some (Value.int .i64 x.kind) = _; rw [HK.out])
  clear hq hb1 hx0
  go_wp2_with fail
  refine (T.out.1 _).mono ?_
  rintro e w0 ⟨r0, rfl, ho, hb⟩
  obtain ⟨A0, d0, rfl, hO⟩ := Out.first ho hb HY.out
  have H0 := Lib.hid hO
  have hq := H.out.hx.below hO.below H.out.hx.lt
  have k0 : w0.cell? ⟨w.heap.size, 0, none⟩ = some (.int .i64 9) := (hq.cell 0).trans (by show some (Value.int .i64 x.kind) = _; rw [HK.out])
  have k1 : w0.cell? ⟨w.heap.size, 1, none⟩ = some (.int .i64 x.tx) := hq.cell 1
  clear ho hb hO
  clear hq
  go_wp2_with fail
  refine (T.out.2.1 _ H0.out.below).mono ?_
  rintro e x0 ⟨v0, rfl, ho, hb⟩
  obtain ⟨B0, f0, rfl, hO, hB⟩ := H0.out.next ho hb
  have G0 := Lib.hid (And.intro hO hB)
  clear ho hb hO hB
  go_wp2_with (at_builtin; refine wpList_out rfl (.tmp 21) (.tmp 24) rfl G0.out.1 rfl rfl G0.out.2 (by omega) ?_; intro A1 d1 w1 hO; have hq := H.out.hx.below hO.below H.out.hx.lt; have k0 : w1.cell? ⟨w.heap.size, 0, none⟩ = some (.int .i64 9) := (hq.cell 0).trans (by show some (Value.int .i64 x.kind) = _; rw [HK.out]); have k10 : w1.cell? ⟨w.heap.size, 10, none⟩ = some (.slice x.mA nm x.mc) := (hq.cell 10).trans (by rw [← H.out.lm]; rfl); clear hq; have H1 := Lib.hid hO; clear hO)
  refine (T.out.2.2 _ H1.out.below).mono ?_
  rintro e x1 ⟨v1, rfl, ho, hb⟩
  obtain ⟨B1, f1, rfl, hO, hB⟩ := H1.out.next ho hb
  have G1 := Lib.hid (And.intro hO hB)
  clear ho hb hO hB
  go_upto_region 24 with (at_builtin; refine wpList_out rfl (.tmp 92) (.tmp 95) rfl G1.out.1 rfl rfl G1.out.2 (by omega) ?_; intro A2 d2 w2 hO; have hq := H.out.hx.below hO.below H.out.hx.lt; have k0 : w2.cell? ⟨w.heap.size, 0, none⟩ = some (.int .i64 9) := (hq.cell 0).trans (by show some (Value.int .i64 x.kind) = _; rw [HK.out]); clear hq; have H2 := Lib.hid hO; clear hO)
  have HO := Lib.hid (show Out W A2 (q0.length + q1.length + q2.length) d2 (Rc.body x.m) w2 by have g := H2.out; rw [HB.out]; first | (simp only [List.append_assoc, List.append_nil] at g ⊢; exact g) | exact g | (simp only [List.append_nil]; exact g))
  have hlen : (Rc.body x.m).length = q0.length + q1.length + q2.length := HO.out.len
  obtain ⟨NN, hNN⟩ : ∃ b, q0.length + q1.length + q2.length = b := ⟨_, rfl⟩
  rw [hNN] at hlen ⊢
  have HO2 := Lib.hid (by have g := HO.out; rw [hNN] at g; exact g)
  have HW := Lib.hid (And.intro (H.out.hb.trans (HO.out.below.mono H.out.hb.size)) hlen)
  clear hNN hlen
  rcases Nat.lt_or_ge 4096 NN with hL | hL
  · have hd : decide ((4096 : Int) < (NN : Int)) = true := decide_eq_true (by omega)
    have he : Rc.enc x.m = ([], 12) := by unfold Rc.enc; rw [if_pos HM.out.2, if_pos (by rw [HW.out.2]; exact hL)]
    have HE := Lib.hid he
    clear he
    go_wp2_with fail
    go_ret2
    rw [HE.out]
    exact ⟨_, rfl, own_nil0 _ _, HW.out.1⟩
  · have hd : decide ((4096 : Int) < (NN : Int)) = false := decide_eq_false (by omega)
    have he : Rc.enc x.m = (Rc.body x.m, 0) := by unfold Rc.enc; rw [if_pos HM.out.2, if_neg (by rw [HW.out.2]; omega)]
    have HE := Lib.hid he
    clear he
    go_wp2_with fail
    go_ret2
    rw [HE.out]
    exact ⟨_, rfl, by dsimp only; rw [HW.out.2]; exact own_base HO2.out.own H.out.hb.size, HW.out.1⟩
set_option maxHeartbeats 16000000 in
theorem frenc10 (x : MD) (w W : World) (hW : w.alloc (.cells (mCells x) 30) = W) (nm nl : Nat) (h : EnH x w W nm nl) (hk : x.kind = 10) (hmay : Rc.may x.m = true) (hm : Calls Try.prog 14 #[mVal x] W fun e w' => e = .returned (.bool (Rc.may x.m)) ∧ Below W.heap.size W w') :
    Calls Try.prog 12 #[mVal x] w (RecP w (Rc.enc x.m)) := by
  have H := Lib.hid h
  have HK := Lib.hid hk
  have HM := Lib.hid (And.intro hm hmay)
  clear h hk hm hmay
  have hbody : Rc.body x.m = Sl.numB (10 : Int) ++ (Sl.numB x.tx) := by unfold Rc.body; rw [show x.m.kind = 10 from HK.out]; rfl
  have hk0 := num_le (10 : Int)
  have t0 : ∀ W' : World, Calls Try.prog 21 #[.int .i64 10] W' (OwnB 5 W' (Sl.numB (10 : Int))) := fun W' => fnum_any 10 W' (by omega)
  have z1 := num_le x.tx
  have t1 : ∀ W' : World, Below W.heap.size W W' → Calls Try.prog 21 #[.int .i64 x.tx] W' (OwnB 5 W' (Sl.numB x.tx)) := fun W' hb => fnum_any x.tx W' (i64_of H.out.ff.tx)
  obtain ⟨q0, hq0⟩ : ∃ b, Sl.numB (10 : Int) = b := ⟨_, rfl⟩
  rw [hq0] at hbody hk0 t0
  obtain ⟨q1, hq1⟩ : ∃ b, Sl.numB x.tx = b := ⟨_, rfl⟩
  rw [hq1] at hbody z1 t1
  have T := Lib.hid (And.intro t0 (t1))
  have HB := Lib.hid hbody
  clear hbody t0 t1 hq0 hq1
  go_enter Try.func12, Try.ntmps12
  have hx0 := H.out.hx
  go_wp2_with (refine wpList_load_rec' _ (by rfl) (by rfl) (by rfl) hx0 ?_)
  refine HM.out.1.mono ?_
  rw [HM.out.2]
  rintro e y1 ⟨rfl, hb1⟩
  have HY := Lib.hid hb1
  have hq := H.out.hx.below hb1 H.out.hx.lt
  have k0 : y1.cell? ⟨w.heap.size, 0, none⟩ = some (.int .i64 10) := (hq.cell 0).trans (by show some (Value.int .i64 x.kind) = _; rw [HK.out])
  clear hq hb1 hx0
  go_wp2_with fail
  refine (T.out.1 _).mono ?_
  rintro e w0 ⟨r0, rfl, ho, hb⟩
  obtain ⟨A0, d0, rfl, hO⟩ := Out.first ho hb HY.out
  have H0 := Lib.hid hO
  have hq := H.out.hx.below hO.below H.out.hx.lt
  have k0 : w0.cell? ⟨w.heap.size, 0, none⟩ = some (.int .i64 10) := (hq.cell 0).trans (by show some (Value.int .i64 x.kind) = _; rw [HK.out])
  have k1 : w0.cell? ⟨w.heap.size, 1, none⟩ = some (.int .i64 x.tx) := hq.cell 1
  clear ho hb hO
  clear hq
  go_wp2_with fail
  refine (T.out.2 _ H0.out.below).mono ?_
  rintro e x0 ⟨v0, rfl, ho, hb⟩
  obtain ⟨B0, f0, rfl, hO, hB⟩ := H0.out.next ho hb
  have G0 := Lib.hid (And.intro hO hB)
  clear ho hb hO hB
  go_upto_region 24 with (at_builtin; refine wpList_out rfl (.tmp 21) (.tmp 24) rfl G0.out.1 rfl rfl G0.out.2 (by omega) ?_; intro A1 d1 w1 hO; have hq := H.out.hx.below hO.below H.out.hx.lt; have k0 : w1.cell? ⟨w.heap.size, 0, none⟩ = some (.int .i64 10) := (hq.cell 0).trans (by show some (Value.int .i64 x.kind) = _; rw [HK.out]); clear hq; have H1 := Lib.hid hO; clear hO)
  have HO := Lib.hid (show Out W A1 (q0.length + q1.length) d1 (Rc.body x.m) w1 by have g := H1.out; rw [HB.out]; first | (simp only [List.append_assoc, List.append_nil] at g ⊢; exact g) | exact g | (simp only [List.append_nil]; exact g))
  have hlen : (Rc.body x.m).length = q0.length + q1.length := HO.out.len
  obtain ⟨NN, hNN⟩ : ∃ b, q0.length + q1.length = b := ⟨_, rfl⟩
  rw [hNN] at hlen ⊢
  have HO2 := Lib.hid (by have g := HO.out; rw [hNN] at g; exact g)
  have HW := Lib.hid (And.intro (H.out.hb.trans (HO.out.below.mono H.out.hb.size)) hlen)
  clear hNN hlen
  rcases Nat.lt_or_ge 4096 NN with hL | hL
  · have hd : decide ((4096 : Int) < (NN : Int)) = true := decide_eq_true (by omega)
    have he : Rc.enc x.m = ([], 12) := by unfold Rc.enc; rw [if_pos HM.out.2, if_pos (by rw [HW.out.2]; exact hL)]
    have HE := Lib.hid he
    clear he
    go_wp2_with fail
    go_ret2
    rw [HE.out]
    exact ⟨_, rfl, own_nil0 _ _, HW.out.1⟩
  · have hd : decide ((4096 : Int) < (NN : Int)) = false := decide_eq_false (by omega)
    have he : Rc.enc x.m = (Rc.body x.m, 0) := by unfold Rc.enc; rw [if_pos HM.out.2, if_neg (by rw [HW.out.2]; omega)]
    have HE := Lib.hid he
    clear he
    go_wp2_with fail
    go_ret2
    rw [HE.out]
    exact ⟨_, rfl, by dsimp only; rw [HW.out.2]; exact own_base HO2.out.own H.out.hb.size, HW.out.1⟩
theorem frenc_any (x : MD) (w : World) (hok : MOk w x) (hs : Small x) : Calls Try.prog 12 #[mVal x] w (RecP w (Rc.enc x.m)) := by
  obtain ⟨W, hW⟩ : ∃ W, w.alloc (.cells (mCells x) 30) = W := ⟨_, rfl⟩
  have hb0 : Below w.heap.size w W := by rw [← hW]; exact (Below.refl _ _).alloc (Nat.le_refl _) _
  have hx0 : Blk W w.heap.size 30 (mCells x) := by rw [← hW]; exact Blk.new _ _ _
  have hm := fmay_any x W (hok.below hb0) hs
  cases hmay : Rc.may x.m with
  | false =>
    have HE := Lib.hid (show Rc.enc x.m = ([], 1) by unfold Rc.enc; rw [hmay, if_neg (by decide)])
    rw [hmay] at hm
    have H := Lib.hid (And.intro hb0 hm)
    clear hb0 hok hm hmay
    go_enter Try.func12, Try.ntmps12
    go_wp2_with (refine wpList_load_rec' _ (by rfl) (by rfl) (by rfl) hx0 ?_)
    refine H.out.2.mono ?_
    rintro e w1 ⟨rfl, hb1⟩
    have HW := Lib.hid (H.out.1.trans (hb1.mono H.out.1.size))
    clear hb1 hx0
    go_wp2_with fail
    go_ret2
    rw [HE.out]
    exact ⟨_, rfl, own_nil0 _ _, HW.out⟩
  | true =>
    have h : EnH x w W x.mem.length x.locks.length := ⟨hb0, hx0, hok.below hb0, ff_of_may hmay, rfl, rfl⟩
    have hk : Rc.kindOk x.kind = true := (may_parts hmay).1
    rcases kind_cases hk with e | e | e | e | e | e | e | e | e | e
    · exact frenc1 x w W hW _ _ h e hmay hm
    · exact frenc2 x w W hW _ _ h e hmay hm
    · exact frenc3 x w W hW _ _ h e hmay hm
    · exact frenc4 x w W hW _ _ h e hmay hm
    · exact frenc5 x w W hW _ _ h e hmay hm
    · exact frenc6 x w W hW _ _ h e hmay hm
    · exact frenc7 x w W hW _ _ h e hmay hm
    · exact frenc8 x w W hW _ _ h e hmay hm
    · exact frenc9 x w W hW _ _ h e hmay hm
    · exact frenc10 x w W hW _ _ h e hmay hm
end Go.Proofs.Ytlijfnekopjogaa
