/- What trothlaw03's laws write: Part, long, written. -/
import Derived.Test.YtbghpdfhloalhaaDoorLaw03
import Derived.Test.YtbghpdfhloalhaaDoorRowsOf
namespace Go.Proofs.YtbghpdfhloalhaaDoor
open Go.RowKit Mem Lift
set_option linter.unusedVariables false
set_option linter.unusedSimpArgs false

structure PartD where
  kind : Int
  n : Int
  text : List UInt8
/-- a part's cells; in memory nothing but numbers' bounds -/
def partK : Kind_ PartD where
  zero := ⟨0, 0, []⟩
  k := 3
  cells := fun x => [.int .i64 x.kind, .int .i64 x.n, .string ⟨x.text.toArray⟩]
  ok := fun _ x => (-9223372036854775808 ≤ x.kind ∧ x.kind ≤ 9223372036854775807) ∧ (-9223372036854775808 ≤ x.n ∧ x.n ≤ 9223372036854775807) ∧ x.text.length ≤ 9223372036854775807
  keep := fun h _ => h
theorem part_cells {H : Type} {enc : TypeId × Value → H} {W : World} (cs : List Value) (h : Rd enc Tryd.prog W 42 cs) : ∃ x : PartD, cs = partK.cells x ∧ partK.ok W x := by
  obtain ⟨hl, hf⟩ := h.struct Tryd.underlying42
  rw [show Tryd.prog.cellsOf 42 = 3 by kernel_rfl] at hl
  match cs, hl with
  | [a, b, c], _ =>
    have h0 : Rd enc Tryd.prog W 3 [a] := by
      have y : Rd enc Tryd.prog W 3 ((([a, b, c] : List Value).drop 0).take (Tryd.prog.cellsOf 3)) := hf 0 _ rfl
      rw [show Tryd.prog.cellsOf 3 = 1 by kernel_rfl] at y
      exact y
    have h1 : Rd enc Tryd.prog W 3 [b] := by
      have y : Rd enc Tryd.prog W 3 ((([a, b, c] : List Value).drop 1).take (Tryd.prog.cellsOf 3)) := hf 1 _ rfl
      rw [show Tryd.prog.cellsOf 3 = 1 by kernel_rfl] at y
      exact y
    have h2 : Rd enc Tryd.prog W 9 [c] := by
      have y : Rd enc Tryd.prog W 9 ((([a, b, c] : List Value).drop 2).take (Tryd.prog.cellsOf 9)) := hf 2 _ rfl
      rw [show Tryd.prog.cellsOf 9 = 1 by kernel_rfl] at y
      exact y
    obtain ⟨kind, e0, w0⟩ := h0.int Tryd.underlying3
    obtain ⟨n, e1, w1⟩ := h1.int Tryd.underlying3
    obtain ⟨⟨⟨s⟩⟩, e2, w2⟩ := h2.string Tryd.underlying9
    simp only [List.cons.injEq, and_true] at e0 e1 e2
    subst e0 e1 e2
    exact ⟨⟨kind, n, s⟩, rfl, bounds_i64 w0, bounds_i64 w1, w2⟩
theorem part_at {w : World} {A : Option Addr} {n : Nat} {l : List PartD} (h : ST partK w A n l) {i : Nat} (hi : i < n) : ∃ b off, A = some ⟨b, off, none⟩ ∧ b < w.heap.size ∧ w.cell? ⟨b, off + i * 3, none⟩ = some (.int .i64 (l.getD i partK.zero).kind) ∧ w.cell? ⟨b, off + i * 3 + 1, none⟩ = some (.int .i64 (l.getD i partK.zero).n) ∧
    w.cell? ⟨b, off + i * 3 + 2, none⟩ = some (.string ⟨(l.getD i partK.zero).text.toArray⟩) ∧ partK.ok w (l.getD i partK.zero) := by
  obtain ⟨b, off, rfl, hlt, hc, hok⟩ := h.at_ hi
  exact ⟨b, off, rfl, hlt, hc 0 (by decide), hc 1 (by decide), hc 2 (by decide), hok⟩

def longPt (x : PartD) : Bool := decide (300 < x.text.length)
def longP (l : List PartD) : Bool := decide (60 < l.length) || l.any longPt
theorem longP_false {l : List PartD} (h : longP l = false) : l.length ≤ 60 ∧ ∀ x ∈ l, x.text.length ≤ 300 := by
  unfold longP at h
  rw [Bool.or_eq_false_iff] at h
  refine ⟨by simpa using h.1, fun x hx => ?_⟩
  have h2 := List.any_eq_false.1 h.2 x hx
  unfold longPt at h2
  simpa using h2
theorem any_take_succP {α : Type} {f : α → Bool} {l : List α} {z : α} {k : Nat} (hk : k < l.length) (h1 : (l.take k).any f = false) (h2 : f (l.getD k z) = false) : (l.take (k + 1)).any f = false := by
  rw [List.take_succ_eq_append_getElem hk, List.any_append, h1]
  rw [List.getD_eq_getElem?_getD, List.getElem?_eq_getElem hk] at h2
  simpa using h2
set_option maxRecDepth 100000 in
set_option maxHeartbeats 1000000 in
theorem long03_any (A : Option Addr) (n c : Nat) (l : List PartD) (w : World) (hl : ST partK w A n l) (hn : n ≤ c) (hc : c ≤ 9223372036854775807) :
    Calls Tryd.prog 18 #[.slice A n c] w fun e w' => e = .returned (.bool (longP l)) ∧ w = w' := by
  have hlen := hl.len
  by_cases h60 : 60 < n
  · have hR : longP l = true := by unfold longP; rw [hlen, decide_eq_true h60]; rfl
    rw [hR]
    have hd : decide (60 < (n : Int)) = true := by simp; omega
    clear hl hlen hR
    go_enter Tryd.func18, Tryd.ntmps18
    go_wp2
    go_ret
    exact ⟨rfl, rfl⟩
  · have hd : decide (60 < (n : Int)) = false := by simp; omega
    have HL := Lib.hid (And.intro hl hlen)
    clear hl hlen
    go_enter Tryd.func18, Tryd.ntmps18
    go_wp2
    go_loop [3] (fun i => ∃ k : Nat, k ≤ n ∧ i = .int .i64 k ∧ (l.take k).any longPt = false) (fun i => n - (intOf i).toNat)
    case atStart => exact ⟨0, by omega, rfl, by simp⟩
    case round =>
      obtain ⟨k, hk, rfl, hno⟩ := hrel
      by_cases hlt : k < n
      · obtain ⟨b, off, rfl, _, _, _, c2, _⟩ := part_at HL.out.1 hlt
        have hkl : k < l.length := by rw [HL.out.2]; exact hlt
        have hkm := HL.out.1.mem_ hlt
        have hany := fun h => any_take_succP hkl hno (show longPt (l.getD k partK.zero) = false from h)
        have hall : longPt (l.getD k partK.zero) = true → longP l = true := fun h => by
          unfold longP
          rw [List.any_eq_true.2 ⟨_, hkm, h⟩, Bool.or_true]
        unfold longPt at hany hall
        generalize l.getD k partK.zero = x at *
        have hts := ba_size x.text
        have H := Lib.hid (And.intro hany hall)
        clear hany hall hno hkl hkm
        by_cases h3 : 300 < x.text.length
        · have hd3 : decide (300 < (x.text.length : Int)) = true := by simp; omega
          go_wp2
          go_ret
          refine ⟨?_, rfl⟩
          rw [H.out.2 (by rw [decide_eq_true h3])]; rfl
        · have hd3 : decide (300 < (x.text.length : Int)) = false := by simp; omega
          go_wp2
          go_round
          case rel => exact ⟨k + 1, by omega, by go_num, H.out.1 (by rw [decide_eq_false h3])⟩
          case measure => simp [intOf]; omega
      · obtain rfl : k = n := by omega
        have hR : longP l = false := by
          unfold longP
          rw [List.take_of_length_le (by rw [HL.out.2]; omega)] at hno
          rw [hno, HL.out.2, decide_eq_false h60]
          rfl
        have H := Lib.hid hR
        clear hR hno
        go_wp2
        go_ret
        exact ⟨by rw [H.out]; rfl, rfl⟩

def byteOf (n : Int) : UInt8 := UInt8.ofNat (n % 256).toNat
theorem byteOf_wrap (n : Int) : n % 256 = ((byteOf n).toNat : Int) := by
  unfold byteOf
  rw [UInt8.toNat_ofNat']
  omega
/-- what a part is written as -/
def partB (x : PartD) : List UInt8 := if x.kind = 0 then Sl.numB x.n else if x.kind = 1 then [byteOf x.n] else if x.kind = 2 then [if decide (0 < x.n) = true then 1 else 0] else Sl.textB x.text
def partsB (l : List PartD) : List UInt8 := l.flatMap partB
theorem partsB_succ {l : List PartD} {k : Nat} (hk : k < l.length) : partsB (l.take (k + 1)) = partsB (l.take k) ++ partB (l.getD k partK.zero) := by
  unfold partsB
  rw [List.take_succ_eq_append_getElem hk, List.flatMap_append, List.getD_eq_getElem?_getD, List.getElem?_eq_getElem hk]
  simp
theorem partB_le (x : PartD) (h : x.text.length ≤ 300) : 1 ≤ (partB x).length ∧ (partB x).length ≤ 400 := by
  unfold partB
  have h1 := Sl.numB_length x.n
  have h2 := Sl.numB_length x.text.length
  split
  · omega
  · split
    · simp
    · split
      · simp
      · rw [Sl.textB_length]; omega
theorem partsB_le (l : List PartD) (h : ∀ x ∈ l, x.text.length ≤ 300) : l.length ≤ (partsB l).length ∧ (partsB l).length ≤ 400 * l.length := by
  induction l with
  | nil => simp [partsB]
  | cons x l ih =>
    have h1 := partB_le x (h x (by simp))
    have h2 := ih (fun y hy => h y (by simp [hy]))
    unfold partsB at h2 ⊢
    rw [List.flatMap_cons, List.length_append, List.length_cons]
    omega
theorem partsB_take_le (l : List PartD) (k : Nat) (h : ∀ x ∈ l, x.text.length ≤ 300) (hl : l.length ≤ 60) : (partsB (l.take k)).length ≤ 24000 := by
  have := partsB_le (l.take k) (fun x hx => h x (List.mem_of_mem_take hx))
  rw [List.length_take] at this
  omega
set_option maxRecDepth 100000 in
set_option maxHeartbeats 2000000 in
theorem written_any (A : Option Addr) (n c : Nat) (l : List PartD) (w : World) (hl : ST partK w A n l) (hn : n ≤ c) (hc : c ≤ 9223372036854775807) (hs : longP l = false) :
    Calls Tryd.prog 21 #[.slice A n c] w (OwnB 5 w (partsB l)) := by
  have hlf := longP_false hs
  have hn60 : n ≤ 60 := by rw [← hl.len]; exact hlf.1
  have HL := Lib.hid (And.intro hl (And.intro hlf.2 hlf.1))
  have hW := WrAt.new w
  have H0 := Lib.hid (And.intro hW ((Below.refl w.heap.size w).alloc (Nat.le_refl _) (.cells #[.slice none 0 0] 47)))
  clear hl hs hlf hW
  go_enter Tryd.func21, Tryd.ntmps21
  go_wp2_with fail
  go_loopw [4] (fun i wr => ∃ (k : Nat) (F : Nat → Prop), k ≤ n ∧ i = .int .i64 k ∧ WrAt wr w.heap.size (partsB (l.take k)) F ∧ (∀ j, F j → w.heap.size ≤ j) ∧ Below w.heap.size w wr) (fun i _ => n - (intOf i).toNat)
  case atStart => exact ⟨0, _, by omega, rfl, H0.out.1, fun j hj => by omega, H0.out.2⟩
  case round =>
    obtain ⟨k, F, hk, rfl, hwr, hF, hb⟩ := hrel
    have hle := partsB_take_le l k HL.out.2.1 HL.out.2.2
    by_cases hlt : k < n
    · obtain ⟨b, off, rfl, hblt, c0, c1, c2, hok⟩ := part_at (HL.out.1.below hb) hlt
      have hkl : k < l.length := by rw [HL.out.1.len]; exact hlt
      have hstep := partsB_succ hkl
      have htx := HL.out.2.1 _ (HL.out.1.mem_ hlt)
      have hrel : ∀ (x : PartD) (bs : List UInt8) (e : Ending) (w' : World), l.getD k partK.zero = x → partB x = bs → WrTo wr F w.heap.size (partsB (l.take k) ++ bs) e w' → e = .returned (.tuple #[]) ∧ ∃ (k' : Nat) (F' : Nat → Prop), k' ≤ n ∧ (Value.int .i64 ((k : Int) + 1)) = .int .i64 k' ∧ WrAt w' w.heap.size (partsB (l.take k')) F' ∧ (∀ j, F' j → w.heap.size ≤ j) ∧ Below w.heap.size w w' ∧ k' = k + 1 := by
        intro x bs e w' ex eb h
        obtain ⟨he, F1, h1, h2, h3⟩ := h
        refine ⟨he, k + 1, F1, by omega, by simp, ?_, fun j hj => ?_, ?_, rfl⟩
        · rw [hstep, ex, eb]; exact h1
        · rcases h3 j hj with h4 | h4
          · exact hF j h4
          · exact Nat.le_trans hb.size h4
        · exact hb.trans (h2.below hb.size hF)
      generalize l.getD k partK.zero = x at *
      have hts := ba_size x.text
      unfold partB at hrel
      have H := Lib.hid (And.intro hwr (And.intro hrel (And.intro hok htx)))
      have hb8 := byteOf_wrap x.n
      clear hwr hrel hok htx hstep
      by_cases k0 : x.kind = 0
      · have hg0 : (x.kind == 0) = true := by simp [k0]
        go_wp2_with fail
        refine (wnum_any w.heap.size _ F x.n wr H.out.2.2.1.2.1 H.out.1 (by omega)).mono ?_
        intro e w1 h1
        have h2 := H.out.2.1 x _ e w1 rfl (by rw [if_pos k0]) h1
        obtain ⟨rfl, h2⟩ := h2
        have H2 := Lib.hid h2
        clear h1 h2
        go_wp2
        go_roundw
        case rel => obtain ⟨k', F', a1, a2, a3, a4, a5, rfl⟩ := H2.out; exact ⟨k + 1, F', a1, by go_num, a3, a4, a5⟩
        case measure => simp [intOf]; omega
      · have hg0 : (x.kind == 0) = false := by simp [k0]
        by_cases k1 : x.kind = 1
        · have hg1 : (x.kind == 1) = true := by simp [k1]
          go_wp2_with fail
          rw [hb8]
          refine (wbyte_any w.heap.size _ F (byteOf x.n) wr H.out.1 (by omega)).mono ?_
          intro e w1 h1
          have h2 := H.out.2.1 x _ e w1 rfl (by rw [if_neg k0, if_pos k1]) h1
          obtain ⟨rfl, h2⟩ := h2
          have H2 := Lib.hid h2
          clear h1 h2
          go_wp2
          go_roundw
          case rel => obtain ⟨k', F', a1, a2, a3, a4, a5, rfl⟩ := H2.out; exact ⟨k + 1, F', a1, by go_num, a3, a4, a5⟩
          case measure => simp [intOf]; omega
        · have hg1 : (x.kind == 1) = false := by simp [k1]
          by_cases k2 : x.kind = 2
          · have hg2 : (x.kind == 2) = true := by simp [k2]
            go_wp2_with fail
            refine (wflag_any w.heap.size _ F (decide (0 < x.n)) wr H.out.1 (by omega)).mono ?_
            intro e w1 h1
            have h2 := H.out.2.1 x _ e w1 rfl (by rw [if_neg k0, if_neg k1, if_pos k2]) h1
            obtain ⟨rfl, h2⟩ := h2
            have H2 := Lib.hid h2
            clear h1 h2
            go_wp2
            go_roundw
            case rel => obtain ⟨k', F', a1, a2, a3, a4, a5, rfl⟩ := H2.out; exact ⟨k + 1, F', a1, by go_num, a3, a4, a5⟩
            case measure => simp [intOf]; omega
          · have hg2 : (x.kind == 2) = false := by simp [k2]
            go_wp2_with fail
            refine (wtext_any w.heap.size _ F x.text wr H.out.1 (by have := H.out.2.2.2; omega)).mono ?_
            intro e w1 h1
            have h2 := H.out.2.1 x _ e w1 rfl (by rw [if_neg k0, if_neg k1, if_neg k2]) h1
            obtain ⟨rfl, h2⟩ := h2
            have H2 := Lib.hid h2
            clear h1 h2
            go_wp2
            go_roundw
            case rel => obtain ⟨k', F', a1, a2, a3, a4, a5, rfl⟩ := H2.out; exact ⟨k + 1, F', a1, by go_num, a3, a4, a5⟩
            case measure => simp [intOf]; omega
    · obtain rfl : k = n := by omega
      rw [List.take_of_length_le (by rw [HL.out.1.len]; omega)] at hwr hle
      have H := Lib.hid (And.intro hwr (And.intro hF hb))
      clear hwr hF hb
      go_wp2_with fail
      refine (wbytes_any w.heap.size (partsB l) F wr H.out.1 (by omega)).mono ?_
      rintro e w1 ⟨v, rfl, ho, hb1⟩
      have H1 := Lib.hid (And.intro ho hb1)
      clear ho hb1
      go_wp2
      go_ret
      exact ⟨v, rfl, own_base H1.out.1 H.out.2.2.size, H.out.2.2.trans (H1.out.2.mono H.out.2.2.size)⟩
end Go.Proofs.YtbghpdfhloalhaaDoor
