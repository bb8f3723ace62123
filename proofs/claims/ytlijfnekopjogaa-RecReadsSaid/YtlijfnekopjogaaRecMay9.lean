/- Which numbers, nodes and members may be; a decision's record. -/
import Derived.Test.YtlijfnekopjogaaMem
import Derived.Test.YtlijfnekopjogaaInts
import Derived.Test.YtlijfnekopjogaaRowK
import Derived.Test.YtlijfnekopjogaaConv
import Derived.Deep.LoopGhost
namespace Go.Proofs.Ytlijfnekopjogaa
open Go.RowKit Mem
set_option maxRecDepth 100000
set_option linter.unusedVariables false
set_option linter.unusedSimpArgs false

/-! the plain part -/
namespace Rc
def node (n : Int) : Bool := decide (0 ≤ n) && decide (n < 8)
def seq (n least : Int) : Bool := decide (least ≤ n) && decide (n ≤ 1099511627776)
/-- the k-th member may be, behind the one ahead of it -/
def okAt (l : List Int) (k : Nat) : Bool := node (l.getD k 0) && (decide (k = 0) || decide (l.getD (k - 1) 0 < l.getD k 0))
def up (l : List Int) : Bool := (List.range l.length).all (okAt l)
def members (l : List Int) : Bool := decide (l.length ≤ 8) && up l
theorem up_true {l : List Int} (h : ∀ k, k < l.length → okAt l k = true) : up l = true := by
  unfold up; rw [List.all_eq_true]; intro k hk; exact h k (List.mem_range.1 hk)
theorem up_false {l : List Int} {k : Nat} (hk : k < l.length) (h : okAt l k = false) : up l = false := by
  unfold up; rw [List.all_eq_false]; exact ⟨k, List.mem_range.2 hk, by rw [h]; simp⟩
/-- numbers that rise from 0 to 7 are eight at most -/
theorem up_le {l : List Int} (h : up l = true) : ∀ k, k < l.length → (k : Int) ≤ l.getD k 0 := by
  unfold up at h
  rw [List.all_eq_true] at h
  intro k
  induction k with
  | zero =>
    intro hk
    have h0 := h 0 (List.mem_range.2 hk)
    unfold okAt node at h0
    simp only [Bool.and_eq_true, decide_eq_true_eq] at h0
    exact h0.1.1
  | succ k ih =>
    intro hk
    have h1 := h (k + 1) (List.mem_range.2 hk)
    unfold okAt at h1
    simp only [Bool.and_eq_true, Bool.or_eq_true, decide_eq_true_eq, Nat.add_sub_cancel] at h1
    have h2 := ih (by omega)
    rcases h1.2 with h3 | h3 <;> omega
theorem up_len {l : List Int} (h : up l = true) : l.length ≤ 8 := by
  rcases Nat.lt_or_ge 8 l.length with h8 | h8
  · have h1 := up_le h 8 h8
    unfold up at h
    rw [List.all_eq_true] at h
    have h2 := h 8 (List.mem_range.2 h8)
    unfold okAt node at h2
    simp only [Bool.and_eq_true, decide_eq_true_eq] at h2
    omega
  · exact h8
theorem members_up (l : List Int) : members l = up l := by
  unfold members
  cases h : up l with
  | false => simp
  | true => simp [up_len h]
end Rc
theorem is_at {w : World} {A : Option Addr} {n : Nat} {l : List Int} (h : IS w A n l) {k : Nat} (hk : k < n) : ∃ b off, A = some ⟨b, off, none⟩ ∧ w.cell? ⟨b, off + k, none⟩ = some (.int .i64 (l.getD k 0)) := by
  obtain ⟨b, off, rfl, _, hc⟩ := h.2 (by omega)
  exact ⟨b, off, rfl, hc k (by rw [h.1]; exact hk)⟩
theorem rnode_any (x : Int) (w : World) : Calls Try.prog 33 #[.int .i64 x] w fun e w' => e = .returned (.bool (Rc.node x)) ∧ w' = w := by
  unfold Rc.node
  by_cases h : 0 ≤ x
  · have hd : decide (0 ≤ x) = true := by simpa using h
    have H := Lib.hid hd
    go_enter Try.func33, Try.ntmps33
    go_wp2
    go_ret
    exact ⟨by rw [H.out, Bool.true_and]; rfl, rfl⟩
  · have hd : decide (0 ≤ x) = false := by simpa using h
    have H := Lib.hid hd
    go_enter Try.func33, Try.ntmps33
    go_wp2
    go_ret
    exact ⟨by first | rfl | (rw [H.out, Bool.false_and]; rfl), rfl⟩
theorem rseq_any (x m : Int) (w : World) : Calls Try.prog 32 #[.int .i64 x, .int .i64 m] w fun e w' => e = .returned (.bool (Rc.seq x m)) ∧ w' = w := by
  unfold Rc.seq
  by_cases h : m ≤ x
  · have hd : decide (m ≤ x) = true := by simpa using h
    have H := Lib.hid hd
    go_enter Try.func32, Try.ntmps32
    go_wp2
    go_ret
    exact ⟨by rw [H.out, Bool.true_and]; rfl, rfl⟩
  · have hd : decide (m ≤ x) = false := by simpa using h
    have H := Lib.hid hd
    go_enter Try.func32, Try.ntmps32
    go_wp2
    go_ret
    exact ⟨by first | rfl | (rw [H.out, Bool.false_and]; rfl), rfl⟩
theorem rlower_any (x y : Int) (w : World) : Calls Try.prog 73 #[.int .i64 x, .int .i64 y] w fun e w' => e = .returned (.bool (decide (x < y))) ∧ w' = w := by
  go_enter Try.func73, Try.ntmps73
  go_wp2
  go_ret
  exact ⟨rfl, rfl⟩
set_option maxHeartbeats 2000000 in
theorem rising_int (A : Option Addr) (n c : Nat) (l : List Int) (w : World) (hl : IS w A n l) (hn : n ≤ 1000000) (hc : c ≤ 9223372036854775807) :
    Calls Try.prog 71 #[.slice A n c, .int .i64 8, .func (.func 33) #[] #[], .func (.func 73) #[] #[]] w fun e w' => e = .returned (.bool (Rc.members l)) ∧ w' = w := by
  have H := Lib.hid (And.intro hl hl.1)
  clear hl
  by_cases h8 : n ≤ 8
  · have hd : decide ((8 : Int) < (n : Int)) = false := by simp; omega
    have hm : Rc.members l = Rc.up l := Rc.members_up l
    have HM := Lib.hid hm
    clear hm
    go_enter Try.func71, Try.ntmps71
    go_wp2
    go_loop [17] (fun s => ∃ k : Nat, k ≤ n ∧ s = .int .i64 k ∧ ∀ j, j < k → Rc.okAt l j = true) (fun s => n - (intOf s).toNat)
    case atStart => exact ⟨0, by omega, rfl, fun j hj => absurd hj (by omega)⟩
    case round =>
      obtain ⟨k, hk, rfl, hj⟩ := hrel
      by_cases hlt : k < n
      · obtain ⟨b, off, rfl, c0⟩ := is_at H.out.1 hlt
        have hkn : (k : Int) < (n : Int) := by omega
        cases hnd : Rc.node (l.getD k 0) with
        | false =>
          have hf : Rc.okAt l k = false := by unfold Rc.okAt; rw [hnd]; rfl
          have HF := Lib.hid (And.intro (HM.out.trans (Rc.up_false (by rw [H.out.2]; exact hlt) hf)) hnd)
          clear hf hj hnd
          generalize l.getD k 0 = x at *
          go_wp2_with fail
          refine (rnode_any x w).mono ?_
          rw [HF.out.2]
          rintro e w' ⟨rfl, rfl⟩
          go_wp2_with fail
          go_ret
          exact ⟨by rw [HF.out.1]; rfl, rfl⟩
        | true =>
          rcases Nat.eq_zero_or_pos k with rfl | hkp
          · have hf : Rc.okAt l 0 = true := by unfold Rc.okAt; rw [hnd]; rfl
            have HF := Lib.hid (And.intro hf hnd)
            clear hf hj hnd
            rw [Nat.add_zero] at c0
            generalize l.getD 0 0 = x at *
            go_wp2_with fail
            refine (rnode_any x w).mono ?_
            rw [HF.out.2]
            rintro e w' ⟨rfl, rfl⟩
            go_wp2_with fail
            go_round
            case rel => exact ⟨1, by omega, rfl, fun j hj => by obtain rfl : j = 0 := by omega
                                                                exact HF.out.1⟩
            case measure => simp [intOf]; omega
          · obtain ⟨b', off', e', c1⟩ := is_at H.out.1 (k := k - 1) (by omega)
            injection e' with e'
            injection e' with e1 e2
            subst e1
            subst e2
            have hkp' : decide ((0 : Int) < (k : Int)) = true := by simp; omega
            have hs0 : IntKind.i64.wrap ((k : Int) - 1) = ((k - 1 : Nat) : Int) := by rw [IntKind.wrap_i64]; omega
            have hs1 : ((k - 1 : Nat) : Int) < (n : Int) := by omega
            cases hlo : decide (l.getD (k - 1) 0 < l.getD k 0) with
            | false =>
              have hf : Rc.okAt l k = false := by
                unfold Rc.okAt; rw [hnd, hlo, decide_eq_false (by omega : ¬ k = 0)]; rfl
              have HF := Lib.hid (And.intro (HM.out.trans (Rc.up_false (by rw [H.out.2]; exact hlt) hf)) (And.intro hnd hlo))
              clear hf hj hnd hlo
              generalize l.getD k 0 = x at *
              generalize l.getD (k - 1) 0 = y at *
              generalize k - 1 = j at *
              go_wp2_with fail
              refine (rnode_any x w).mono ?_
              rw [HF.out.2.1]
              rintro e w' ⟨rfl, rfl⟩
              go_wp2_with fail
              refine (rlower_any y x _).mono ?_
              rw [HF.out.2.2]
              rintro e w' ⟨rfl, rfl⟩
              go_wp2_with fail
              go_ret
              exact ⟨by rw [HF.out.1]; rfl, rfl⟩
            | true =>
              have hf : Rc.okAt l k = true := by
                unfold Rc.okAt; rw [hnd, hlo]; simp
              have HF := Lib.hid (And.intro (show ∀ j, j < k + 1 → Rc.okAt l j = true from fun j hjk => by
                rcases Nat.lt_or_ge j k with h1 | h1
                · exact hj j h1
                · obtain rfl : j = k := by omega
                  exact hf) (And.intro hnd hlo))
              clear hf hj hnd hlo
              generalize l.getD k 0 = x at *
              generalize l.getD (k - 1) 0 = y at *
              generalize k - 1 = j at *
              go_wp2_with fail
              refine (rnode_any x w).mono ?_
              rw [HF.out.2.1]
              rintro e w' ⟨rfl, rfl⟩
              go_wp2_with fail
              refine (rlower_any y x _).mono ?_
              rw [HF.out.2.2]
              rintro e w' ⟨rfl, rfl⟩
              go_wp2_with fail
              go_round
              case rel => exact ⟨k + 1, by omega, by go_num, HF.out.1⟩
              case measure => simp [intOf]; omega
      · obtain rfl : k = n := by omega
        have HF := Lib.hid (HM.out.trans (Rc.up_true (fun j h => hj j (by rw [H.out.2] at h; exact h))))
        clear hj
        go_wp2_with fail
        go_ret
        exact ⟨by rw [HF.out]; rfl, rfl⟩
  · have hd : decide ((8 : Int) < (n : Int)) = true := by simp; omega
    have HM := Lib.hid (show Rc.members l = false by unfold Rc.members; rw [H.out.2, decide_eq_false h8]; rfl)
    clear h8
    go_enter Try.func71, Try.ntmps71
    go_wp2
    go_ret
    exact ⟨by rw [HM.out]; rfl, rfl⟩
theorem rmembers_any (A : Option Addr) (n c : Nat) (l : List Int) (w : World) (hl : IS w A n l) (hn : n ≤ 1000000) (hc : c ≤ 9223372036854775807) :
    Calls Try.prog 34 #[.slice A n c] w fun e w' => e = .returned (.bool (Rc.members l)) ∧ w' = w := by
  have H := Lib.hid (rising_int A n c l w hl hn hc)
  clear hl
  go_enter Try.func34, Try.ntmps34
  go_wp2_with fail
  refine H.out.mono ?_
  rintro e w' ⟨rfl, rfl⟩
  go_wp2_with fail
  go_ret
  exact ⟨rfl, rfl⟩
theorem rlocks_nil (w : World) : Calls Try.prog 35 #[.slice none 0 0] w fun e w' => e = .returned (.bool true) ∧ w' = w := by
  have hr : ∀ W, Calls Try.prog 74 #[.slice none 0 0, .int .i64 64, .func (.func 75) #[] #[], .func (.func 76) #[] #[]] W fun e w' => e = .returned (.bool true) ∧ w' = W := fun W => by
    go_enter Try.func74, Try.ntmps74
    go_wp2
    go_loop [17] (fun s => s = .int .i64 0) (fun _ => 0)
    case atStart => exact rfl
    case round =>
      subst hrel
      go_wp2_with fail
      go_ret
      exact ⟨rfl, rfl⟩
  have H := Lib.hid hr
  clear hr
  go_enter Try.func35, Try.ntmps35
  go_wp2_with fail
  refine (H.out w).mono ?_
  rintro e w' ⟨rfl, rfl⟩
  go_wp2_with fail
  go_ret
  exact ⟨rfl, rfl⟩
def bareV (bs : List Bool) : Value := .agg (bs.map Value.bool).toArray
abbrev bare9 : Value := .agg #[.bool true, .bool true, .bool true, .bool true, .bool true, .bool true, .bool false, .bool true, .bool true]
theorem wants9 (w : World) : Calls Try.prog 61 #[.int .i64 9] w fun e w' => e = .returned bare9 ∧ Below w.heap.size w w' := by
  go_enter Try.func61, Try.ntmps61
  go_wp2
  exact bodyPost_ret (v := bare9) (by simp [results, Try.results61, go_sem]) rfl ⟨rfl, ((Below.refl _ _).alloc (Nat.le_refl _) _).alloc (by simp) _⟩
abbrev dec9 (tx : Int) (A : Option Addr) (n c : Nat) : Value := .agg #[.int .i64 9, .int .i64 tx, .int .i64 0, .int .i64 0, .string ⟨#[]⟩, .bool false, .string ⟨#[]⟩, .bool false, .string ⟨#[]⟩, .int .i64 0, .slice A n c, .slice none 0 0, .slice none 0 0, .slice none 0 0, .slice none 0 0, .slice none 0 0]
abbrev decCells (tx : Int) (A : Option Addr) (n c : Nat) : Array Value := #[.int .i64 9, .int .i64 tx, .int .i64 0, .int .i64 0, .string ⟨#[]⟩, .bool false, .string ⟨#[]⟩, .bool false, .string ⟨#[]⟩, .int .i64 0, .slice A n c, .slice none 0 0, .slice none 0 0, .slice none 0 0, .slice none 0 0, .slice none 0 0]
theorem dec_cells {w : World} {b : Nat} {tx : Int} {A : Option Addr} {n c : Nat} (h : Blk w b 30 (decCells tx A n c)) :
    w.cell? ⟨b, 0, none⟩ = some (.int .i64 9) ∧ w.cell? ⟨b, 1, none⟩ = some (.int .i64 tx) ∧ w.cell? ⟨b, 2, none⟩ = some (.int .i64 0) ∧ w.cell? ⟨b, 3, none⟩ = some (.int .i64 0) ∧ w.cell? ⟨b, 4, none⟩ = some (.string ⟨#[]⟩) ∧ w.cell? ⟨b, 5, none⟩ = some (.bool false) ∧ w.cell? ⟨b, 6, none⟩ = some (.string ⟨#[]⟩) ∧ w.cell? ⟨b, 7, none⟩ = some (.bool false) ∧ w.cell? ⟨b, 8, none⟩ = some (.string ⟨#[]⟩) ∧ w.cell? ⟨b, 9, none⟩ = some (.int .i64 0) ∧ w.cell? ⟨b, 10, none⟩ = some (.slice A n c) ∧ w.cell? ⟨b, 11, none⟩ = some (.slice none 0 0) ∧ w.cell? ⟨b, 12, none⟩ = some (.slice none 0 0) ∧ w.cell? ⟨b, 13, none⟩ = some (.slice none 0 0) ∧ w.cell? ⟨b, 14, none⟩ = some (.slice none 0 0) ∧ w.cell? ⟨b, 15, none⟩ = some (.slice none 0 0) :=
  ⟨h.cell 0, h.cell 1, h.cell 2, h.cell 3, h.cell 4, h.cell 5, h.cell 6, h.cell 7, h.cell 8, h.cell 9, h.cell 10, h.cell 11, h.cell 12, h.cell 13, h.cell 14, h.cell 15⟩
set_option maxHeartbeats 2000000 in
theorem spare9 (tx : Int) (A : Option Addr) (n c : Nat) (w : World) : Calls Try.prog 28 #[dec9 tx A n c] w fun e w' => e = .returned (.bool false) ∧ Below w.heap.size w w' := by
  have hb0 : Below w.heap.size w (w.alloc (.cells (decCells tx A n c) 30)) := (Below.refl _ _).alloc (Nat.le_refl _) _
  have hk0 := Blk.new w 30 (decCells tx A n c)
  have H := Lib.hid (And.intro hb0 hk0)
  clear hb0 hk0
  go_enter Try.func28, Try.ntmps28
  go_wp2_with fail
  refine (wants9 _).mono ?_
  rintro e w1 ⟨rfl, hb1⟩
  have hk1 := H.out.2.below hb1 (by simp)
  obtain ⟨c0, c1, c2, c3, c4, c5, c6, c7, c8, c9, c10, c11, c12, c13, c14, c15⟩ := dec_cells hk1
  have hlt := hk1.lt
  have H1 := Lib.hid (H.out.1.trans (hb1.mono H.out.1.size))
  clear hb1 hk1
  go_wp2_with fail
  go_ret
  exact ⟨rfl, (H1.out.alloc H1.out.size _).alloc (by have := H1.out.size; simp; omega) _⟩
set_option maxHeartbeats 2000000 in
/-- a decision may be -/
theorem rmay9 (tx : Int) (A : Option Addr) (n c : Nat) (l : List Int) (w : World) (hl : IS w A n l) (hn : n ≤ 1000000) (hc : c ≤ 9223372036854775807) :
    Calls Try.prog 13 #[dec9 tx A n c] w fun e w' => e = .returned (.bool (Rc.seq tx 1 && Rc.members l)) ∧ Below w.heap.size w w' := by
  have hb0 : Below w.heap.size w (w.alloc (.cells (decCells tx A n c) 30)) := (Below.refl _ _).alloc (Nat.le_refl _) _
  have hk0 := Blk.new w 30 (decCells tx A n c)
  have H := Lib.hid (And.intro hb0 (And.intro hk0 hl))
  have hkind : ∀ W, Calls Try.prog 27 #[.int .i64 9] W fun e w' => e = .returned (.bool true) ∧ w' = W := fun W => by
    go_enter Try.func27, Try.ntmps27
    go_wp2
    go_ret
    exact ⟨rfl, rfl⟩
  have HK := Lib.hid hkind
  clear hb0 hk0 hl hkind
  go_enter Try.func13, Try.ntmps13
  go_wp2_with fail
  refine (HK.out _).mono ?_
  rintro e w1 ⟨rfl, rfl⟩
  go_wp2_with fail
  refine (spare9 tx A n c _).mono ?_
  rintro e w1 ⟨rfl, hb1⟩
  have hk1 := H.out.2.1.below hb1 (by simp)
  obtain ⟨c0, c1, c2, c3, c4, c5, c6, c7, c8, c9, c10, c11, c12, c13, c14, c15⟩ := dec_cells hk1
  have hlt := hk1.lt
  have hbw := H.out.1.trans (hb1.mono H.out.1.size)
  have H1 := Lib.hid (And.intro hbw (H.out.2.2.below hbw))
  clear hb1 hk1 hbw
  go_wp2_with fail
  refine (rseq_any tx 1 w1).mono ?_
  cases hs : Rc.seq tx 1 with
  | false =>
    rintro e w2 ⟨rfl, rfl⟩
    have HS := Lib.hid hs
    clear hs
    go_wp2_with fail
    go_ret
    exact ⟨by rw [HS.out]; rfl, H1.out.1⟩
  | true =>
    rintro e w2 ⟨rfl, rfl⟩
    have HS := Lib.hid hs
    clear hs
    go_wp2_with fail
    refine (rseq_any 0 0 w2).mono ?_
    rw [show Rc.seq 0 0 = true by decide]
    rintro e w3 ⟨rfl, rfl⟩
    go_wp2_with fail
    refine (rseq_any 0 0 w3).mono ?_
    rw [show Rc.seq 0 0 = true by decide]
    rintro e w4 ⟨rfl, rfl⟩
    go_wp2_with fail
    refine (rnode_any 0 w4).mono ?_
    rw [show Rc.node 0 = true by decide]
    rintro e w5 ⟨rfl, rfl⟩
    go_wp2_with fail
    refine (rmembers_any A n c l w5 H1.out.2 hn hc).mono ?_
    cases hm : Rc.members l with
    | false =>
      rintro e w6 ⟨rfl, rfl⟩
      have HM := Lib.hid hm
      clear hm
      go_wp2_with fail
      go_ret
      exact ⟨by rw [HS.out, HM.out]; rfl, H1.out.1⟩
    | true =>
      rintro e w6 ⟨rfl, rfl⟩
      have HM := Lib.hid hm
      clear hm
      go_wp2_with fail
      refine (rlocks_nil w6).mono ?_
      rintro e w7 ⟨rfl, rfl⟩
      go_wp2_with fail
      go_ret
      exact ⟨by rw [HS.out, HM.out]; rfl, H1.out.1⟩
end Go.Proofs.Ytlijfnekopjogaa
