/- Package page's Set, of whatever page. -/
import Derived.Test.YtfcmlfcpgboigaaPageInsert
import Derived.Test.YtfcmlfcpgboigaaPageFind
import Derived.Test.YtfcmlfcpgboigaaPageDec
namespace Go.Proofs.Ytfcmlfcpgboigaa
open Go.RowKit Mem
set_option maxRecDepth 100000
set_option linter.unusedVariables false
set_option linter.unusedSimpArgs false

namespace Pg
def room (l : List C) (key : ByteArray) : Bool := decide (l.length < 4) || decide (idx l key < l.length)
/-- the cells, the key's among them -/
def withKey (l : List C) (key : ByteArray) : List C := if isAt l key then l else l.take (pos l key) ++ [⟨key, false, ⟨#[]⟩⟩] ++ l.drop (pos l key)
def put (l : List C) (key : ByteArray) (has : Bool) (data : ByteArray) : List C := (withKey l key).set (pos l key) ⟨((withKey l key).getD (pos l key) C.zero).key, has, data⟩
def bad (lsn0 : Int) (l : List C) (lsn : Int) (key : ByteArray) (has : Bool) (data : ByteArray) : Prop := may lsn0 l = false ∨ fits ⟨key, has, data⟩ = false ∨ lsn < 1 ∨ 1099511627776 < lsn
instance (lsn0 : Int) (l : List C) (lsn : Int) (key : ByteArray) (has : Bool) (data : ByteArray) : Decidable (bad lsn0 l lsn key has data) := by unfold bad; exact inferInstance
def set (lsn0 : Int) (l : List C) (lsn : Int) (key : ByteArray) (has : Bool) (data : ByteArray) : Int × List C × Nat :=
  if bad lsn0 l lsn key has data then (0, [], 1) else if room l key = false then (0, [], 100) else (lsn, put l key has data, 0)
theorem pos_le (l : List C) (key : ByteArray) : pos l key ≤ l.length := List.findIdx_le_length
theorem isAt_lt {l : List C} {key : ByteArray} (h : isAt l key = true) : pos l key < l.length := by
  unfold isAt at h
  simp only [Bool.and_eq_true, decide_eq_true_eq] at h
  exact h.1
theorem pos_withKey (l : List C) (key : ByteArray) : pos l key < (withKey l key).length := by
  unfold withKey
  have := pos_le l key
  split
  · rename_i h; exact isAt_lt h
  · simp only [List.length_append, List.length_take, List.length_drop, List.length_cons, List.length_nil]
    omega
end Pg
theorem rowOf_set (l : List Pg.C) (k : Nat) (has : Bool) (data : ByteArray) (hk : k < l.length) :
    ((rowOf cellK l).set (k * 3 + 1) (.bool has)).set (k * 3 + 2) (.string data) = rowOf cellK (l.set k ⟨(l.getD k Pg.C.zero).key, has, data⟩) := by
  have h1 : l = l.take k ++ l.getD k Pg.C.zero :: l.drop (k + 1) := by
    rw [← Pg.drop_cons l k hk, List.take_append_drop]
  have hl : (l.take k).length = k := by rw [List.length_take]; omega
  have hp : (rowOf cellK (l.take k)).length = k * 3 := by rw [rowOf_len, hl]
  generalize hx : l.getD k Pg.C.zero = x at *
  generalize l.take k = P at *
  generalize l.drop (k + 1) = D at *
  subst h1
  have e1 : rowOf cellK (P ++ x :: D) = rowOf cellK P ++ ([.string x.key, .bool x.has, .string x.data] ++ rowOf cellK D) := by
    rw [rowOf_append]; simp [rowOf, cellK]
  have e2 : (P ++ x :: D).set k ⟨x.key, has, data⟩ = P ++ ⟨x.key, has, data⟩ :: D := by
    rw [List.set_append_right _ _ (by omega), hl, Nat.sub_self]; rfl
  have e3 : rowOf cellK (P ++ ⟨x.key, has, data⟩ :: D) = rowOf cellK P ++ ([.string x.key, .bool has, .string data] ++ rowOf cellK D) := by
    rw [rowOf_append]; simp [rowOf, cellK]
  rw [e1, e2, e3, List.set_append_right _ _ (by omega), List.set_append_right _ _ (by omega), hp]
  rw [show k * 3 + 1 - k * 3 = 1 by omega, show k * 3 + 2 - k * 3 = 2 by omega]
  rfl
/-- the end of a Set: the value's cells, the answer's -/
theorem set_tail {w0 W : World} {g N cap rb k base : Nat} {l : List Pg.C} {cs : Array Value} {lsn : Int} {has : Bool} {data : ByteArray} (hrow : W.ownsRow base 40 3 (.slice (some ⟨g, 0, none⟩) N cap) N (rowOf cellK l)) (hl : l.length = N) (hk : k < N)
    (hrb : Blk W rb 24 cs) (hcs : cs.size = 2) (hbe : Below w0.heap.size w0 W) (h1 : w0.heap.size ≤ rb) (h2 : rb < base) :
    ((((W.setCell ⟨g, k * 3 + 1, none⟩ (.bool has)).setCell ⟨g, k * 3 + 1 + 1, none⟩ (.string data)).setCell ⟨rb, 0, none⟩ (.int .i64 lsn)).setCell ⟨rb, 1, none⟩ (.slice (some ⟨g, 0, none⟩) N cap)).cell? ⟨rb, 0, none⟩ = some (.int .i64 lsn) ∧
    ((((W.setCell ⟨g, k * 3 + 1, none⟩ (.bool has)).setCell ⟨g, k * 3 + 1 + 1, none⟩ (.string data)).setCell ⟨rb, 0, none⟩ (.int .i64 lsn)).setCell ⟨rb, 1, none⟩ (.slice (some ⟨g, 0, none⟩) N cap)).cell? ⟨rb, 1, none⟩ = some (.slice (some ⟨g, 0, none⟩) N cap) ∧
    ((((W.setCell ⟨g, k * 3 + 1, none⟩ (.bool has)).setCell ⟨g, k * 3 + 1 + 1, none⟩ (.string data)).setCell ⟨rb, 0, none⟩ (.int .i64 lsn)).setCell ⟨rb, 1, none⟩ (.slice (some ⟨g, 0, none⟩) N cap)).ownsRow w0.heap.size 40 3 (.slice (some ⟨g, 0, none⟩) N cap) N (rowOf cellK (l.set k ⟨(l.getD k Pg.C.zero).key, has, data⟩)) ∧
    Below w0.heap.size w0 ((((W.setCell ⟨g, k * 3 + 1, none⟩ (.bool has)).setCell ⟨g, k * 3 + 1 + 1, none⟩ (.string data)).setCell ⟨rb, 0, none⟩ (.int .i64 lsn)).setCell ⟨rb, 1, none⟩ (.slice (some ⟨g, 0, none⟩) N cap)) := by
  have hgb : base ≤ g := own_ge hrow rfl
  have hgne : ¬ rb = g := by omega
  obtain ⟨r1, _⟩ := hrow.stored (k * 3 + 1) (.bool has)
  obtain ⟨r2, _⟩ := r1.stored (k * 3 + 1 + 1) (.string data)
  rw [rowOf_set l k has data (by omega)] at r2
  have b0 := (hrb.keep (Below.heap_setCell _ ⟨g, k * 3 + 1, none⟩ (.bool has) rb hgne)).keep (Below.heap_setCell _ ⟨g, k * 3 + 1 + 1, none⟩ (.string data) rb hgne)
  have b1 := (b0.put 0 (.int .i64 lsn)).put 1 (.slice (some ⟨g, 0, none⟩) N cap)
  refine ⟨?_, ?_, own_base (own_keep r2 (fun j e => ?_)) (by omega), ?_⟩
  · rw [b1.cell 0, Array.getElem?_setIfInBounds, if_neg (by omega), Array.getElem?_setIfInBounds, if_pos rfl, if_pos (by omega)]
  · rw [b1.cell 1, Array.getElem?_setIfInBounds, if_pos rfl, if_pos (by rw [Array.size_setIfInBounds]; omega)]
  · have hj : j = g := by simpa [Value.ownBlock] using e.symm
    rw [Below.heap_setCell _ _ _ j (by simp only; omega), Below.heap_setCell _ _ _ j (by simp only; omega)]
  · exact (((hbe.setCell (by simp only; omega) _).setCell (by simp only; omega) _).setCell (by simp only; omega) _).setCell (by simp only; omega) _
set_option maxHeartbeats 2000000 in
theorem clone_any (A : Option Addr) (n c : Nat) (l : List Pg.C) (w : World) (hl : ST cellK w A n l) (hA : A = none → n = 0 ∧ c = 0) (hn : n ≤ 1000000) : Calls Try.prog 55 #[.slice A n c] w (fun e w' => ∃ A' c', e = .returned (.slice A' n c') ∧ w'.ownsRow w.heap.size 40 3 (.slice A' n c') n (rowOf cellK l) ∧ Below w.heap.size w w') := by
  cases A with
  | none =>
    obtain ⟨rfl, rfl⟩ := hA rfl
    refine (clone_nil w).mono ?_
    rintro e w' ⟨rfl, rfl⟩
    have : l = [] := List.eq_nil_of_length_eq_zero hl.len
    subst this
    exact ⟨none, 0, rfl, own_nilK _, Below.refl _ _⟩
  | some a =>
    obtain ⟨i0, hi0, hz0, hz1, hz2⟩ := info_parts infoC
    have hq := fun W => Lib.run_eql_slice_nil (P := Try.prog) W 22 40 (some a) n c 0 0 Try.underlying22
    have hbx : Below w.heap.size w (w.alloc (.cells #[] 40)) := (Below.refl _ w).alloc (Nat.le_refl _) _
    have how : (w.alloc (.cells #[] 40)).ownsRow w.heap.size 40 3 (.slice (some ⟨w.heap.size, 0, none⟩) 0 0) 0 [] := own_emptyK (heap_alloc_new w _)
    have H := Lib.hid (And.intro (hl.below hbx) (And.intro how hbx))
    have HI := Lib.hid (And.intro hi0 (And.intro hz0 (And.intro hz1 hz2)))
    clear hi0 hz0 hz1 hz2 hbx how hl hA
    go_enter Try.func55, Try.ntmps55
    go_wp2_with ((refine wpList_append_st _ cellK_len (by decide) cellK_one rfl (.tmp 5) (.tmp 6) 22 rfl w.heap.size 40 i0 _ 40 Try.underlying22 HI.out.1 HI.out.2.1 HI.out.2.2.1 HI.out.2.2.2 rfl (by omega) (.slice (some ⟨w.heap.size, 0, none⟩) 0 0) 0 [] rfl H.out.2.1 (some a) n c l rfl H.out.1 (by omega) (by simp) ?_); intro A2 c2 w2 hown2 hg2 hat2; have H2 := Lib.hid (And.intro hown2 hg2); clear hown2 hg2 hat2)
    go_ret
    have h1 := H2.out.1
    rw [List.nil_append, Nat.zero_add] at h1
    refine ⟨A2, c2, ?_, h1, H.out.2.2.grown H2.out.2 (by simp) (fun k e => by simp [Value.ownBlock] at e; omega)⟩
    rfl
theorem insert_any (base : Nat) (A : Option Addr) (n c i b : Nat) (l : List Pg.C) (x : Pg.C) (w : World) (hln : l.length = n) (hn : n ≤ 1000) (hi : i ≤ n) (hown : w.ownsRow base 40 3 (.slice A n c) n (rowOf cellK l)) (hbase : base ≤ w.heap.size) (hx : Blk w b 40 (cCells x)) (hxs : x.key.size ≤ 9223372036854775807 ∧ x.data.size ≤ 9223372036854775807) (hne : (Value.slice A n c).ownBlock ≠ some b) :
    Calls Try.prog 57 #[.slice A n c, .int .i64 (i : Int), .slice (some ⟨b, 0, none⟩) 1 1] w (InsP w base (.slice A n c) (l.take i ++ [x] ++ l.drop i)) := by
  by_cases hin : i = n
  · have e : l.take i ++ [x] ++ l.drop i = l ++ [x] := by rw [List.take_of_length_le (by omega), List.drop_of_length_le (by omega), List.append_nil]
    rw [e]
    subst hin
    refine ins_end base A i c b l x w hln hn hown hbase ⟨rfl, fun y hy => ?_, fun _ => ⟨b, 0, rfl, hx.lt, fun k hk j hj => ?_⟩⟩
    · rw [List.mem_singleton] at hy
      subst hy
      exact hxs
    · obtain rfl : k = 0 := by simp at hk; omega
      have hj3 : j < 3 := hj
      rw [show (0 : Nat) + 0 * cellK.k + j = j by omega, hx.cell j]
      match j, hj3 with
      | 0, _ => rfl
      | 1, _ => rfl
      | 2, _ => rfl
  · rcases hown.2 with ⟨_, h0⟩ | ⟨g, cap, cur, e, hb, hg, hnc, hcm, hcs, hcu⟩
    · omega
    · injection e with e1 _ e2
      subst e1 e2
      have hbg : b ≠ g := fun h => hne (by simp [Value.ownBlock, h])
      by_cases hr : n + 1 ≤ c
      · exact ins_shift base g c i n b cur l x w hln hn (by omega) hr hcm hb hg hcs hcu hx hbg
      · exact ins_grow base g c i n b cur l x w hln hn (by omega) hnc (by omega) hb hg hcs hcu hx hbg
set_option maxHeartbeats 16000000 in
theorem pset_any (lsn0 : Int) (A : Option Addr) (n c : Nat) (l : List Pg.C) (lsn : Int) (key : ByteArray) (has : Bool) (data : ByteArray) (w : World) (hl : ST cellK w A n l) (hA : A = none → n = 0 ∧ c = 0) (hn : n ≤ 1000000) (hks : key.size ≤ 9223372036854775807) :
    Calls Try.prog 18 #[pVal lsn0 A n c, .int .i64 lsn, .string key, vVal has data] w (PagP w (Pg.set lsn0 l lsn key has data)) := by
  have hb3 : Below w.heap.size w (((w.alloc (.cells #[.int .i64 lsn0, .slice A n c] 24)).alloc (.cells #[.bool has, .string data] 26)).alloc (.cells #[.int .i64 0, .slice none 0 0] 24)) := (((Below.refl _ _).alloc (Nat.le_refl _) _).alloc (by simp) _).alloc (by simp; omega) _
  have hp := ((Blk.new w 24 #[.int .i64 lsn0, .slice A n c]).alloc (.cells #[.bool has, .string data] 26)).alloc (.cells #[.int .i64 0, .slice none 0 0] 24)
  have hq := (Blk.new (w.alloc (.cells #[.int .i64 lsn0, .slice A n c] 24)) 26 #[.bool has, .string data]).alloc (.cells #[.int .i64 0, .slice none 0 0] 24)
  have hr := Blk.new ((w.alloc (.cells #[.int .i64 lsn0, .slice A n c] 24)).alloc (.cells #[.bool has, .string data] 26)) 24 #[.int .i64 0, .slice none 0 0]
  have hs3 : (((w.alloc (.cells #[.int .i64 lsn0, .slice A n c] 24)).alloc (.cells #[.bool has, .string data] 26)).alloc (.cells #[.int .i64 0, .slice none 0 0] 24)).heap.size = w.heap.size + 3 := by simp
  simp only [World.size_alloc] at hp hq hr
  obtain ⟨R, hR⟩ : ∃ R, Pg.set lsn0 l lsn key has data = R := ⟨_, rfl⟩
  rw [hR]
  have H := Lib.hid (And.intro hb3 (And.intro hp (And.intro hq (And.intro hr (And.intro hs3 (And.intro hl (And.intro hl.len hR)))))))
  clear hb3 hp hq hr hs3 hl hR
  have hall : ∀ W, Below w.heap.size (((w.alloc (.cells #[.int .i64 lsn0, .slice A n c] 24)).alloc (.cells #[.bool has, .string data] 26)).alloc (.cells #[.int .i64 0, .slice none 0 0] 24)) W → True := fun _ _ => trivial
  clear hall
  go_enter Try.func18, Try.ntmps18
  go_wp2_with fail
  generalize ((w.alloc (.cells #[.int .i64 lsn0, .slice A n c] 24)).alloc (.cells #[.bool has, .string data] 26)).alloc (.cells #[.int .i64 0, .slice none 0 0] 24) = w1 at *
  refine (pmay_any lsn0 A n c l w1 (H.out.2.2.2.2.2.1.below H.out.1) hn).mono ?_
  rintro e w2 ⟨rfl, hb2⟩
  have q0 : w2.cell? ⟨w.heap.size + 1, 0, none⟩ = some (.bool has) := (H.out.2.2.1.below hb2 (by have := H.out.2.2.2.2.1; omega)).cell 0
  have q1 : w2.cell? ⟨w.heap.size + 1, 1, none⟩ = some (.string data) := (H.out.2.2.1.below hb2 (by have := H.out.2.2.2.2.1; omega)).cell 1
  have hr2 := H.out.2.2.2.1.below hb2 (by have := H.out.2.2.2.2.1; omega)
  have r0 : w2.cell? ⟨w.heap.size + 1 + 1, 0, none⟩ = some (.int .i64 0) := hr2.cell 0
  have r1 : w2.cell? ⟨w.heap.size + 1 + 1, 1, none⟩ = some (.slice none 0 0) := hr2.cell 1
  have g0 := hr2.free 0
  have g1 := hr2.free 1
  have H2 := Lib.hid (And.intro hb2 (And.intro hr2 (H.out.1.trans (hb2.mono H.out.1.size))))
  clear hb2 hr2
  cases hm : Pg.may lsn0 l with
  | false =>
    have hRR : R = (0, [], 1) := by rw [← H.out.2.2.2.2.2.2.2]; unfold Pg.set; rw [if_pos (.inl hm)]
    subst hRR
    have HM := Lib.hid hm
    clear hm
    go_wp2_with fail
    have hW := (H2.out.2.1.put 0 (.int .i64 0)).put 1 (.slice none 0 0)
    have y0 : ((w2.setCell ⟨w.heap.size + 1 + 1, 0, none⟩ (.int .i64 0)).setCell ⟨w.heap.size + 1 + 1, 1, none⟩ (.slice none 0 0)).cell? ⟨w.heap.size + 1 + 1, 0, none⟩ = some (.int .i64 0) := hW.cell 0
    have y1 : ((w2.setCell ⟨w.heap.size + 1 + 1, 0, none⟩ (.int .i64 0)).setCell ⟨w.heap.size + 1 + 1, 1, none⟩ (.slice none 0 0)).cell? ⟨w.heap.size + 1 + 1, 1, none⟩ = some (.slice none 0 0) := hW.cell 1
    exact bodyPost_ret (v := .tuple #[pVal 0 none 0 0, .int .i64 1]) (by simp [results, Try.results18, go_sem, y0, y1]) rfl ⟨none, 0, rfl, own_nilK _, ((H2.out.2.2).setCell (by simp only; omega) _).setCell (by simp only; omega) _⟩
  | true =>
    have HM := Lib.hid hm
    clear hm
    go_wp2_with fail
    refine (fits_any ⟨key, has, data⟩ w2).mono ?_
    rintro e w3 ⟨rfl, hb3⟩
    have hb13 := H2.out.1.trans (hb3.mono H2.out.1.size)
    have hp3 := H.out.2.1.below hb13 (by have := H.out.2.2.2.2.1; omega)
    have p0 : w3.cell? ⟨w.heap.size, 0, none⟩ = some (.int .i64 lsn0) := hp3.cell 0
    have p1 : w3.cell? ⟨w.heap.size, 1, none⟩ = some (.slice A n c) := hp3.cell 1
    have hr3 := H2.out.2.1.below hb3 H2.out.2.1.lt
    have r0 : w3.cell? ⟨w.heap.size + 1 + 1, 0, none⟩ = some (.int .i64 0) := hr3.cell 0
    have r1 : w3.cell? ⟨w.heap.size + 1 + 1, 1, none⟩ = some (.slice none 0 0) := hr3.cell 1
    have g0 := hr3.free 0
    have g1 := hr3.free 1
    have H3 := Lib.hid (And.intro hb13 (And.intro hr3 (H.out.1.trans (hb13.mono H.out.1.size))))
    clear hb3 hb13 hp3 hr3 q0 q1
    cases hf : Pg.fits ⟨key, has, data⟩ with
    | false =>
      have hRR : R = (0, [], 1) := by rw [← H.out.2.2.2.2.2.2.2]; unfold Pg.set; rw [if_pos (.inr (.inl hf))]
      subst hRR
      have HF := Lib.hid hf
      clear hf
      go_wp2_with fail
      have hW := (H3.out.2.1.put 0 (.int .i64 0)).put 1 (.slice none 0 0)
      have y0 : ((w3.setCell ⟨w.heap.size + 1 + 1, 0, none⟩ (.int .i64 0)).setCell ⟨w.heap.size + 1 + 1, 1, none⟩ (.slice none 0 0)).cell? ⟨w.heap.size + 1 + 1, 0, none⟩ = some (.int .i64 0) := hW.cell 0
      have y1 : ((w3.setCell ⟨w.heap.size + 1 + 1, 0, none⟩ (.int .i64 0)).setCell ⟨w.heap.size + 1 + 1, 1, none⟩ (.slice none 0 0)).cell? ⟨w.heap.size + 1 + 1, 1, none⟩ = some (.slice none 0 0) := hW.cell 1
      exact bodyPost_ret (v := .tuple #[pVal 0 none 0 0, .int .i64 1]) (by simp [results, Try.results18, go_sem, y0, y1]) rfl ⟨none, 0, rfl, own_nilK _, ((H3.out.2.2).setCell (by simp only; omega) _).setCell (by simp only; omega) _⟩
    | true =>
      have HF := Lib.hid hf
      clear hf
      by_cases t1 : lsn < 1
      · have d1 : decide (lsn < 1) = true := by simpa using t1
        have hRR : R = (0, [], 1) := by rw [← H.out.2.2.2.2.2.2.2]; unfold Pg.set; rw [if_pos (.inr (.inr (.inl t1)))]
        subst hRR
        clear t1
        go_wp2_with fail
        have hW := (H3.out.2.1.put 0 (.int .i64 0)).put 1 (.slice none 0 0)
        have y0 : ((w3.setCell ⟨w.heap.size + 1 + 1, 0, none⟩ (.int .i64 0)).setCell ⟨w.heap.size + 1 + 1, 1, none⟩ (.slice none 0 0)).cell? ⟨w.heap.size + 1 + 1, 0, none⟩ = some (.int .i64 0) := hW.cell 0
        have y1 : ((w3.setCell ⟨w.heap.size + 1 + 1, 0, none⟩ (.int .i64 0)).setCell ⟨w.heap.size + 1 + 1, 1, none⟩ (.slice none 0 0)).cell? ⟨w.heap.size + 1 + 1, 1, none⟩ = some (.slice none 0 0) := hW.cell 1
        exact bodyPost_ret (v := .tuple #[pVal 0 none 0 0, .int .i64 1]) (by simp [results, Try.results18, go_sem, y0, y1]) rfl ⟨none, 0, rfl, own_nilK _, ((H3.out.2.2).setCell (by simp only; omega) _).setCell (by simp only; omega) _⟩
      · have d1 : decide (lsn < 1) = false := by simpa using t1
        by_cases t2 : 1099511627776 < lsn
        · have d2 : decide (1099511627776 < lsn) = true := by simpa using t2
          have hRR : R = (0, [], 1) := by rw [← H.out.2.2.2.2.2.2.2]; unfold Pg.set; rw [if_pos (.inr (.inr (.inr t2)))]
          subst hRR
          clear t1 t2
          go_wp2_with fail
          have hW := (H3.out.2.1.put 0 (.int .i64 0)).put 1 (.slice none 0 0)
          have y0 : ((w3.setCell ⟨w.heap.size + 1 + 1, 0, none⟩ (.int .i64 0)).setCell ⟨w.heap.size + 1 + 1, 1, none⟩ (.slice none 0 0)).cell? ⟨w.heap.size + 1 + 1, 0, none⟩ = some (.int .i64 0) := hW.cell 0
          have y1 : ((w3.setCell ⟨w.heap.size + 1 + 1, 0, none⟩ (.int .i64 0)).setCell ⟨w.heap.size + 1 + 1, 1, none⟩ (.slice none 0 0)).cell? ⟨w.heap.size + 1 + 1, 1, none⟩ = some (.slice none 0 0) := hW.cell 1
          exact bodyPost_ret (v := .tuple #[pVal 0 none 0 0, .int .i64 1]) (by simp [results, Try.results18, go_sem, y0, y1]) rfl ⟨none, 0, rfl, own_nilK _, ((H3.out.2.2).setCell (by simp only; omega) _).setCell (by simp only; omega) _⟩
        · have d2 : decide (1099511627776 < lsn) = false := by simpa using t2
          have hnb : ¬ Pg.bad lsn0 l lsn key has data := by
            unfold Pg.bad
            rw [HM.out, HF.out]
            simp only [Bool.true_eq_false, false_or]
            omega
          have hln4 := (Pg.may_parts HM.out).2.2.2
          have hRs : R = if Pg.room l key = false then (0, [], 100) else (lsn, Pg.put l key has data, 0) := by rw [← H.out.2.2.2.2.2.2.2]; unfold Pg.set; rw [if_neg hnb]
          have HB := Lib.hid (And.intro hRs hln4)
          clear hRs hnb t1 t2 hln4
          go_wp2_with fail
          have hrm := proom_any lsn0 A n c l key w3 (H.out.2.2.2.2.2.1.below H3.out.2.2) hn
          refine hrm.mono ?_
          clear hrm
          rintro e w4 ⟨rfl, hb4⟩
          have hb14 := H3.out.1.trans (hb4.mono H3.out.1.size)
          have hp4 := H.out.2.1.below hb14 (by have := H.out.2.2.2.2.1; omega)
          have p1 : w4.cell? ⟨w.heap.size, 1, none⟩ = some (.slice A n c) := hp4.cell 1
          have hr4 := H3.out.2.1.below hb4 H3.out.2.1.lt
          have r0 : w4.cell? ⟨w.heap.size + 1 + 1, 0, none⟩ = some (.int .i64 0) := hr4.cell 0
          have r1 : w4.cell? ⟨w.heap.size + 1 + 1, 1, none⟩ = some (.slice none 0 0) := hr4.cell 1
          have g0 := hr4.free 0
          have g1 := hr4.free 1
          have H4 := Lib.hid (And.intro hb14 (And.intro hr4 (H.out.1.trans (hb14.mono H.out.1.size))))
          clear hb4 hb14 hp4 hr4 p0
          have hrd : (decide (l.length < 4) || decide (Pg.idx l key < l.length)) = Pg.room l key := rfl
          rw [hrd]
          clear hrd
          cases hro : Pg.room l key with
          | false =>
            have hRR : R = (0, [], 100) := by rw [HB.out.1, if_pos hro]
            subst hRR
            clear hro
            go_wp2_with fail
            have hW := (H4.out.2.1.put 0 (.int .i64 0)).put 1 (.slice none 0 0)
            have y0 : ((w4.setCell ⟨w.heap.size + 1 + 1, 0, none⟩ (.int .i64 0)).setCell ⟨w.heap.size + 1 + 1, 1, none⟩ (.slice none 0 0)).cell? ⟨w.heap.size + 1 + 1, 0, none⟩ = some (.int .i64 0) := hW.cell 0
            have y1 : ((w4.setCell ⟨w.heap.size + 1 + 1, 0, none⟩ (.int .i64 0)).setCell ⟨w.heap.size + 1 + 1, 1, none⟩ (.slice none 0 0)).cell? ⟨w.heap.size + 1 + 1, 1, none⟩ = some (.slice none 0 0) := hW.cell 1
            exact bodyPost_ret (v := .tuple #[pVal 0 none 0 0, .int .i64 100]) (by simp [results, Try.results18, go_sem, y0, y1]) rfl ⟨none, 0, rfl, own_nilK _, ((H4.out.2.2).setCell (by simp only; omega) _).setCell (by simp only; omega) _⟩
          | true =>
            have hRR : R = (lsn, Pg.put l key has data, 0) := by rw [HB.out.1, if_neg (by rw [hro]; simp)]
            subst hRR
            clear hro
            go_wp2_with fail
            refine (clone_any A n c l w4 (H.out.2.2.2.2.2.1.below H4.out.2.2) hA hn).mono ?_
            rintro e w5 ⟨A5, c5, rfl, ho5, hb5⟩
            have hb56 : Below w5.heap.size w5 (w5.alloc (.cells #[.int .i64 lsn, .slice A5 n c5] 24)) := (Below.refl _ _).alloc (Nat.le_refl _) _
            have hb46 := hb5.trans (hb56.mono hb5.size)
            have hb16 := H4.out.1.trans (hb46.mono H4.out.1.size)
            have hok : ∀ x ∈ l, cellK.ok w5 x := fun x hx => H.out.2.2.2.2.2.1.ok x hx
            have hfd := find_any lsn A5 n c5 l key (w5.alloc (.cells #[.int .i64 lsn, .slice A5 n c5] 24)) ((ST.of_own cellK_len (by decide) ho5 hok).below hb56) hn
            have hnb5 : (Value.slice A5 n c5).ownBlock ≠ some w5.heap.size := fun e => by have := own_lt ho5 e; omega
            have hs35 : w.heap.size + 3 ≤ w4.heap.size := by have := H4.out.1.size; have := H.out.2.2.2.2.1; omega
            have hs45 : w4.heap.size ≤ w5.heap.size := hb5.size
            have H6 := Lib.hid (And.intro (own_below ho5 hb56) (And.intro (Blk.new w5 24 #[.int .i64 lsn, .slice A5 n c5]) (And.intro hfd (And.intro hb16 (And.intro (H4.out.2.1.below hb46 H4.out.2.1.lt) (And.intro hnb5 (H.out.1.trans (hb16.mono H.out.1.size))))))))
            clear ho5 hb5 hb56 hb46 hb16 hok hfd hnb5 p1
            go_wp2_with fail
            generalize w5.alloc (.cells #[.int .i64 lsn, .slice A5 n c5] 24) = w6 at *
            generalize w5.heap.size = ob at *
            refine H6.out.2.2.1.mono ?_
            rintro e w7 ⟨rfl, hb7⟩
            have hb17 := H6.out.2.2.2.1.trans (hb7.mono H6.out.2.2.2.1.size)
            have hbw7 := H6.out.2.2.2.2.2.2.trans (hb7.mono H6.out.2.2.2.2.2.2.size)
            have hq7 := H.out.2.2.1.below hb17 (by have := H.out.2.2.2.2.1; omega)
            have hr7 := H6.out.2.2.2.2.1.below hb7 H6.out.2.2.2.2.1.lt
            have ho7 := H6.out.2.1.below hb7 H6.out.2.1.lt
            have hw7 := own_below H6.out.1 hb7
            have H7 := Lib.hid (And.intro hw7 (And.intro ho7 (And.intro hq7 (And.intro hr7 hbw7))))
            have hsz7 : ob < w7.heap.size := ho7.lt
            clear hb17 hbw7 hq7 hr7 ho7 hw7 hb7
            have hpl := Pg.pos_le l key
            have hln := H.out.2.2.2.2.2.2.1
            have hpw := Pg.pos_withKey l key
            have hput : Pg.put l key has data = (Pg.withKey l key).set (Pg.pos l key) ⟨((Pg.withKey l key).getD (Pg.pos l key) Pg.C.zero).key, has, data⟩ := rfl
            cases his : Pg.isAt l key with
            | true =>
              have hwk : Pg.withKey l key = l := by unfold Pg.withKey; rw [if_pos his]
              rw [hwk] at hpw hput
              generalize Pg.pos l key = k at *
              have hkn : k < n := by omega
              obtain ⟨g, cap, hv, _, hgl⟩ := H7.out.1.form (by omega)
              injection hv with hv1 _ hv2
              subst hv1 hv2
              have hgge : w4.heap.size ≤ g := own_ge H7.out.1 rfl
              have hgob : g ≠ ob := fun e => H6.out.2.2.2.2.2.1 (by rw [← e]; rfl)
              have n1 : ob ≠ g := fun e => hgob e.symm
              have n2 : ¬ g = w.heap.size + 1 := by omega
              have n3 : ¬ w.heap.size + 1 = g := by omega
              have n4 : ¬ w.heap.size + 1 + 1 = g := by omega
              have n5 : ¬ ob = w.heap.size + 1 + 1 := by omega
              have n6 : ¬ w.heap.size + 1 + 1 = ob := by omega
              have hrl := rowOf_len l
              have e1 := H7.out.1.cellAt (k * 3 + 1) (by omega)
              have e2 := H7.out.1.cellAt (k * 3 + 2) (by omega)
              have hg1 : (rowOf cellK l)[k * 3 + 1]? = some (.bool (l.getD k Pg.C.zero).has) := (rowOf_get cellK_len l k 1 (by omega) (by show 1 < 3; omega)).trans rfl
              have hg2 : (rowOf cellK l)[k * 3 + 2]? = some (.string (l.getD k Pg.C.zero).data) := (rowOf_get cellK_len l k 2 (by omega) (by show 2 < 3; omega)).trans rfl
              rw [hg1] at e1
              rw [hg2] at e2
              have f1 := H7.out.1.frozenAt (k * 3 + 1)
              have f2 := H7.out.1.frozenAt (k * 3 + 2)
              have o0 : w7.cell? ⟨ob, 0, none⟩ = some (.int .i64 lsn) := H7.out.2.1.cell 0
              have o1 : w7.cell? ⟨ob, 1, none⟩ = some (.slice (some ⟨g, 0, none⟩) n c5) := H7.out.2.1.cell 1
              have q0 : w7.cell? ⟨w.heap.size + 1, 0, none⟩ = some (.bool has) := H7.out.2.2.1.cell 0
              have q1 : w7.cell? ⟨w.heap.size + 1, 1, none⟩ = some (.string data) := H7.out.2.2.1.cell 1
              have r0 : w7.cell? ⟨w.heap.size + 1 + 1, 0, none⟩ = some (.int .i64 0) := H7.out.2.2.2.1.cell 0
              have r1 : w7.cell? ⟨w.heap.size + 1 + 1, 1, none⟩ = some (.slice none 0 0) := H7.out.2.2.2.1.cell 1
              have g0 := H7.out.2.2.2.1.free 0
              have g1 := H7.out.2.2.2.1.free 1
              have hkI : (k : Int) < (n : Int) := by omega
              have HT := Lib.hid (And.intro hput (And.intro hpw hln))
              clear hput hpw hln hg1 hg2 hrl hwk his hpl
              generalize (l.getD k Pg.C.zero).has = hh at *
              generalize (l.getD k Pg.C.zero).data = dd at *
              go_wp2_with fail
              obtain ⟨y0, y1, hrow, hbe⟩ := set_tail (w0 := w) (lsn := lsn) (has := has) (data := data) H7.out.1 HT.out.2.2 hkn H7.out.2.2.2.1 rfl H7.out.2.2.2.2 (by omega) (by omega)
              have hpl : (Pg.put l key has data).length = n := by rw [HT.out.1, List.length_set, HT.out.2.2]
              rw [← HT.out.1, ← hpl] at hrow
              rw [← hpl] at y0 y1 hbe ⊢
              exact bodyPost_ret (v := .tuple #[pVal lsn (some ⟨g, 0, none⟩) (Pg.put l key has data).length c5, .int .i64 0]) (by simp [results, Try.results18, go_sem, y0, y1]) rfl ⟨_, c5, rfl, hrow, hbe⟩
            | false =>
              have hwk : Pg.withKey l key = l.take (Pg.pos l key) ++ [⟨key, false, ⟨#[]⟩⟩] ++ l.drop (Pg.pos l key) := by unfold Pg.withKey; rw [if_neg (by rw [his]; simp)]
              have hll : (l.take (Pg.pos l key) ++ [(⟨key, false, ⟨#[]⟩⟩ : Pg.C)] ++ l.drop (Pg.pos l key)).length = n + 1 := by
                simp only [List.length_append, List.length_take, List.length_drop, List.length_cons, List.length_nil]
                omega
              rw [hwk] at hpw hput
              have hin := insert_any w4.heap.size A5 n c5 (Pg.pos l key) w7.heap.size l ⟨key, false, ⟨#[]⟩⟩ (w7.alloc (.cells (cCells ⟨key, false, ⟨#[]⟩⟩) 40)) hln (by have := HB.out.2; omega) (by omega) (H7.out.1.alloc _) (by simp; omega) (Blk.new _ _ _) ⟨hks, Nat.zero_le _⟩ (fun e => by have := own_lt H7.out.1 e; omega)
              generalize hkk : Pg.pos l key = k at *
              generalize hL1 : l.take k ++ [(⟨key, false, ⟨#[]⟩⟩ : Pg.C)] ++ l.drop k = L1 at *
              have o1 : w7.cell? ⟨ob, 1, none⟩ = some (.slice A5 n c5) := H7.out.2.1.cell 1
              have HT := Lib.hid (And.intro hput (And.intro hpw (And.intro hll hin)))
              clear hput hpw hln hwk his hpl hll hin hL1 hkk
              go_wp2_with fail
              refine HT.out.2.2.2.mono ?_
              rintro e w8 ⟨A8, c8, rfl, ho8, hg8⟩
              have hgg : ∀ j, j < w7.heap.size → (Value.slice A5 n c5).ownBlock ≠ some j → w8.heap[j]? = w7.heap[j]? := fun j hj hne => by
                rw [hg8.block j (by simp; omega) (fun e => hne e.symm), Below.heap_alloc w7 _ j hj]
              have ho8b := H7.out.2.1.keep (hgg ob hsz7 H6.out.2.2.2.2.2.1)
              have hlow : ∀ j, j < w4.heap.size → w8.heap[j]? = w7.heap[j]? := fun j hj => hgg j (by omega) (fun e => by have := own_ge H7.out.1 e; omega)
              have hq8 := H7.out.2.2.1.keep (hlow (w.heap.size + 1) (by omega))
              have hr8 := H7.out.2.2.2.1.keep (hlow (w.heap.size + 1 + 1) (by omega))
              have hs8 : w7.heap.size + 1 ≤ w8.heap.size := by have := hg8.size; simpa using this
              have hbw8 : Below w.heap.size w w8 := (H7.out.2.2.2.2.alloc H7.out.2.2.2.2.size (.cells (cCells ⟨key, false, ⟨#[]⟩⟩) 40)).grown hg8 (by have := H7.out.2.2.2.2.size; simp; omega) (fun j e => by have := own_ge H7.out.1 e; omega)
              obtain ⟨g, cap, hv, _, hgl⟩ := ho8.form (by have := HT.out.2.2.1; omega)
              injection hv with hv1 _ hv2
              subst hv1 hv2
              have hgge : w4.heap.size ≤ g := own_ge ho8 rfl
              have hgob : g ≠ ob := fun e => by
                rcases ho8.2 with ⟨e1, _⟩ | ⟨g', cap', cur, e1, _, hgc, _⟩
                · cases e1
                · injection e1 with e1 _ _
                  injection e1 with e1
                  injection e1 with e1
                  subst e1
                  have hz : w8.heap[ob]? = some (.cells #[.int .i64 lsn, .slice A5 n c5] 24 (0, 0)) := ho8b
                  rw [← e, hgc] at hz
                  injection hz with hz
                  injection hz with _ hz
                  exact absurd hz (by decide)
              have H8 := Lib.hid (And.intro ho8 (And.intro ho8b (And.intro hq8 (And.intro hr8 hbw8))))
              clear ho8 hg8 hgg ho8b hlow hq8 hr8 hbw8 o1
              have n1 : ob ≠ g := fun e => hgob e.symm
              have n2 : ¬ g = w.heap.size + 1 := by omega
              have n3 : ¬ w.heap.size + 1 = g := by omega
              have n4 : ¬ w.heap.size + 1 + 1 = g := by omega
              have n5 : ¬ ob = w.heap.size + 1 + 1 := by omega
              have n6 : ¬ w.heap.size + 1 + 1 = ob := by omega
              have n7 : ¬ w.heap.size + 1 = ob := by omega
              have e1 := H8.out.1.cellAt (k * 3 + 1) (by have := HT.out.2.1; omega)
              have e2 := H8.out.1.cellAt (k * 3 + 2) (by have := HT.out.2.1; omega)
              have hg1 : (rowOf cellK L1)[k * 3 + 1]? = some (.bool (L1.getD k Pg.C.zero).has) := (rowOf_get cellK_len L1 k 1 HT.out.2.1 (by show 1 < 3; omega)).trans rfl
              have hg2 : (rowOf cellK L1)[k * 3 + 2]? = some (.string (L1.getD k Pg.C.zero).data) := (rowOf_get cellK_len L1 k 2 HT.out.2.1 (by show 2 < 3; omega)).trans rfl
              rw [hg1] at e1
              rw [hg2] at e2
              have f1 := H8.out.1.frozenAt (k * 3 + 1)
              have f2 := H8.out.1.frozenAt (k * 3 + 2)
              have o0 : w8.cell? ⟨ob, 0, none⟩ = some (.int .i64 lsn) := H8.out.2.1.cell 0
              have o1 : w8.cell? ⟨ob, 1, none⟩ = some (.slice A5 n c5) := H8.out.2.1.cell 1
              have fo := H8.out.2.1.free 1
              have q0 : w8.cell? ⟨w.heap.size + 1, 0, none⟩ = some (.bool has) := H8.out.2.2.1.cell 0
              have q1 : w8.cell? ⟨w.heap.size + 1, 1, none⟩ = some (.string data) := H8.out.2.2.1.cell 1
              have r0 : w8.cell? ⟨w.heap.size + 1 + 1, 0, none⟩ = some (.int .i64 0) := H8.out.2.2.2.1.cell 0
              have r1 : w8.cell? ⟨w.heap.size + 1 + 1, 1, none⟩ = some (.slice none 0 0) := H8.out.2.2.2.1.cell 1
              have g0 := H8.out.2.2.2.1.free 0
              have g1 := H8.out.2.2.2.1.free 1
              have hkL := HT.out.2.1
              have hkI : (k : Int) < (L1.length : Int) := by omega
              have hsv := (H8.out.2.2.2.1.keep (Below.heap_setCell w8 ⟨ob, 1, none⟩ (.slice (some ⟨g, 0, none⟩) L1.length c8) _ (by simp only; omega)))
              have hjg : ∀ j, (Value.slice (some ⟨g, 0, none⟩) L1.length c8).ownBlock = some j → j ≠ (⟨ob, 1, none⟩ : Addr).block := fun j e h => by
                have h2 : j = g := by simpa [Value.ownBlock] using e.symm
                have h3 : j = ob := h
                omega
              have hrowv := own_keep H8.out.1 (fun j e => Below.heap_setCell w8 ⟨ob, 1, none⟩ (.slice (some ⟨g, 0, none⟩) L1.length c8) j (hjg j e))
              clear hjg
              have hbev : Below w.heap.size w (w8.setCell ⟨ob, 1, none⟩ (.slice (some ⟨g, 0, none⟩) L1.length c8)) := H8.out.2.2.2.2.setCell (by simp only; omega) _
              have HV := Lib.hid (And.intro hsv (And.intro hrowv hbev))
              clear hg1 hg2 hsv hrowv hbev
              generalize (L1.getD k Pg.C.zero).has = hh at *
              generalize (L1.getD k Pg.C.zero).data = dd at *
              generalize hLN : L1.length = N at *
              go_wp2_with fail
              obtain ⟨y0, y1, hrow, hbe⟩ := set_tail (w0 := w) (lsn := lsn) (has := has) (data := data) HV.out.2.1 hLN hkL HV.out.1 rfl HV.out.2.2 (by omega) (by omega)
              have hpl : (Pg.put l key has data).length = N := by rw [HT.out.1, List.length_set, hLN]
              rw [← HT.out.1, ← hpl] at hrow
              rw [← hpl] at y0 y1 hbe ⊢
              exact bodyPost_ret (v := .tuple #[pVal lsn (some ⟨g, 0, none⟩) (Pg.put l key has data).length c8, .int .i64 0]) (by simp [results, Try.results18, go_sem, y0, y1]) rfl ⟨_, c8, rfl, hrow, hbe⟩
end Go.Proofs.Ytfcmlfcpgboigaa
