/- PageBack: behind a change the key has that value, all others what they had; changed back, all keys have what they had; no condition. -/
import Derived.Test.YtfcmlfcpgboigaaPageRefGet
import Derived.Test.YtfcmlfcpgboigaaPageCopy
import Derived.Test.YtfcmlfcpgboigaaPageOpen
import Derived.Test.YtfcmlfcpgboigaaPageMaths
import Derived.Test.YtfcmlfcpgboigaaLift
import Derived.ChangeMaps5
import Derived.Deep.RegionHeld3
import Derived.Deep.DeepMust
namespace Go.Proofs.Ytfcmlfcpgboigaa.pageBack
open Go.ChangeMaps Go.ChangeShapes Go.WideShapes Go.ChangeAt Go.RowKit Mem Lift
set_option linter.unusedVariables false
set_option linter.unusedSimpArgs false
set_option maxRecDepth 100000

abbrev pgCells (lsn : Int) (A : Option Addr) (n c : Nat) : Array Value := #[.int .i64 lsn, .slice A n c]
theorem below_ud {w w' : World} (h : Below w.drew.heap.size w.drew w') : Below w.heap.size w w' := ⟨h.os, h.tape, h.output, h.size, h.block⟩
theorem great_not {l : List Pg.C} (h : Pg.great l = false) : l.length ≤ 20 := by
  unfold Pg.great at h
  rw [Bool.or_eq_false_iff] at h
  simpa using h.1
theorem own_none {w : World} {base n c : Nat} {e : TypeId} {size : Nat} {A : Option Addr} {xs : List Value} (h : w.ownsRow base e size (.slice A n c) n xs) : A = none → n = 0 ∧ c = 0 := by
  intro hA
  rcases h.2 with ⟨e, h0⟩ | ⟨g, cap, cur, e, _⟩
  · injection e with _ _ e; exact ⟨h0, e⟩
  · injection e with e; rw [hA] at e; cases e
theorem cell_alloc_some' {w : World} {a : Addr} {v : Value} (o : Obj) (h : w.cell? a = some v) : (w.alloc o).cell? a = some v := (World.cell?_of_block (Below.heap_alloc w o a.block (World.block_lt_of_cell? w a h))).trans h
theorem cell_store2 {w : World} {a : Addr} {v u1 u2 : Value} {q : Nat} (h : w.cell? a = some v) (hq : a.block ≠ q) : ((w.setCell ⟨q, 0, none⟩ u1).setCell ⟨q, 1, none⟩ u2).cell? a = some v := by
  rw [World.cell?_of_block (Below.heap_setCell _ _ _ a.block hq), World.cell?_of_block (Below.heap_setCell _ _ _ a.block hq)]
  exact h
/-- what stands in the law's own variables, and that no older memory has turned -/
def Held (w0 : World) (r : Nat) (lsn : Int) (A : Option Addr) (n c : Nat) (has : Bool) (data : ByteArray) (w : World) : Prop :=
  w.cell? ⟨r, 0, none⟩ = some (.int .i64 lsn) ∧ w.cell? ⟨r, 1, none⟩ = some (.slice A n c) ∧ w.cell? ⟨r + 1, 0, none⟩ = some (.bool has) ∧ w.cell? ⟨r + 1, 1, none⟩ = some (.string data) ∧ Below w0.heap.size w0 w
theorem Held.below {w0 w w' : World} {r : Nat} {lsn : Int} {A : Option Addr} {n c : Nat} {has : Bool} {data : ByteArray} (h : Held w0 r lsn A n c has data w) (hb : Below w.heap.size w w') : Held w0 r lsn A n c has data w' := by
  have hk : ∀ (a : Addr) v, w.cell? a = some v → w'.cell? a = some v := fun a v h => (World.cell?_of_block (hb.block _ (World.block_lt_of_cell? w a h))).trans h
  exact ⟨hk _ _ h.1, hk _ _ h.2.1, hk _ _ h.2.2.1, hk _ _ h.2.2.2.1, h.2.2.2.2.trans (hb.mono h.2.2.2.2.size)⟩
theorem fin_store {w3 w5 : World} {qb base : Nat} {A : Option Addr} {c : Nat} {l : List Pg.C} (x : Int) (hq : Blk w5 qb 24 (pgCells 0 none 0 0)) (hrow : w5.ownsRow base 40 3 (.slice A l.length c) l.length (rowOf cellK l)) (hqb : qb < base) (h3 : w3.heap.size ≤ qb) (hbe : Below w3.heap.size w3 w5) :
    Blk ((w5.setCell ⟨qb, 0, none⟩ (.int .i64 x)).setCell ⟨qb, 1, none⟩ (.slice A l.length c)) qb 24 (pgCells x A l.length c) ∧ ((w5.setCell ⟨qb, 0, none⟩ (.int .i64 x)).setCell ⟨qb, 1, none⟩ (.slice A l.length c)).ownsRow w3.heap.size 40 3 (.slice A l.length c) l.length (rowOf cellK l) ∧ Below w3.heap.size w3 ((w5.setCell ⟨qb, 0, none⟩ (.int .i64 x)).setCell ⟨qb, 1, none⟩ (.slice A l.length c)) := by
  refine ⟨(hq.put 0 (.int .i64 x)).put 1 (.slice A l.length c), own_base (own_keep hrow (fun k e => ?_)) (by omega), (hbe.setCell (by simp only; omega) _).setCell (by simp only; omega) _⟩
  have hk := own_ge hrow e
  rw [Below.heap_setCell _ _ _ k (by simp only; omega), Below.heap_setCell _ _ _ k (by simp only; omega)]
theorem set_ways3 {lsn0 lsn : Int} {l : List Pg.C} {key : ByteArray} {has : Bool} {data : ByteArray} {ql : Int} {qk : List Pg.C} {qe : Nat} (h : Pg.set lsn0 l lsn key has data = (ql, qk, qe)) : (qe = 0 ∧ ql = lsn ∧ qk = Pg.put l key has data ∧ ¬ Pg.bad lsn0 l lsn key has data ∧ Pg.room l key = true) ∨ qe = 1 ∧ qk = [] ∨ qe = 100 ∧ qk = [] := by
  unfold Pg.set at h
  by_cases hb : Pg.bad lsn0 l lsn key has data
  · rw [if_pos hb] at h; cases h; exact .inr (.inl ⟨rfl, rfl⟩)
  · rw [if_neg hb] at h
    cases hr : Pg.room l key with
    | false => rw [if_pos hr] at h; cases h; exact .inr (.inr ⟨rfl, rfl⟩)
    | true => rw [if_neg (by rw [hr]; decide)] at h; cases h; exact .inl ⟨rfl, rfl, rfl, hb, rfl⟩
section
variable {P : Program} {ops : Array Oper} {Q : Exit → Act → World → Prop} {md : Region.Mode} {S : World → Prop}
theorem anyH_skip {i d : Nat} {oi : Oper} {fuel : Nat} {listed : Array Bool} {tmps : Array Value} {ds : List Deferred} {w : World} (hi : ops[i]? = some oi)
    (hs : Region.noSelect ops = true) (hf : Region.free md ops listed i = true) (hr : (Region.ready md ops listed).contains i = true)
    (hQ : ∀ c a w, Q (.panic c) (a.put oi.dst undef) w → Q (.panic c) a w) (hd : oi.dst = some d) (hw : Region.wanted oi (yielded ops tmps) = false) (hS : S w)
    (h : wpAnyH P md ops Q S fuel (listed.setIfInBounds i true) { tmps := tmps.setIfInBounds d undef, defers := ds } w) : wpAnyH P md ops Q S (fuel + 1) listed { tmps := tmps, defers := ds } w :=
  wpAnyH_take hi hs hf hr hQ (Or.inr ⟨hw, rfl⟩) hS (by rw [hd]; exact h)
theorem anyH_take {i d : Nat} {oi : Oper} {v : Value} {fuel : Nat} {listed : Array Bool} {tmps : Array Value} {ds : List Deferred} {w : World} (hi : ops[i]? = some oi)
    (hs : Region.noSelect ops = true) (hf : Region.free md ops listed i = true) (hr : (Region.ready md ops listed).contains i = true)
    (hQ : ∀ c a w, Q (.panic c) (a.put oi.dst v) w → Q (.panic c) a w) (hd : oi.dst = some d) (hw : Region.wanted oi (yielded ops tmps) = true)
    (hy : ∀ W : World, S W → (execOp (Act.eval { tmps := tmps, defers := ds }) oi).run P W = .ok (.value v) W) (hS : S w)
    (h : wpAnyH P md ops Q S fuel (listed.setIfInBounds i true) { tmps := tmps.setIfInBounds d v, defers := ds } w) : wpAnyH P md ops Q S (fuel + 1) listed { tmps := tmps, defers := ds } w :=
  wpAnyH_take hi hs hf hr hQ (Or.inl ⟨hw, hy⟩) hS (by rw [hd]; exact h)
end
/-- what a Set answers has short texts -/
theorem set_small {lsn0 lsn : Int} {l : List Pg.C} {key : ByteArray} {has : Bool} {data : ByteArray} : (∀ x ∈ (Pg.set lsn0 l lsn key has data).2.1, x.key.size ≤ 9223372036854775807 ∧ x.data.size ≤ 9223372036854775807) ∧ (Pg.set lsn0 l lsn key has data).2.1.length ≤ 4 := by
  unfold Pg.set
  by_cases hb : Pg.bad lsn0 l lsn key has data
  · rw [if_pos hb]
    exact ⟨fun x hx => (by cases hx), by simp⟩
  · rw [if_neg hb]
    cases hro : Pg.room l key with
    | false => exact ⟨fun x hx => (by cases hx), by simp⟩
    | true =>
      have hm := Pg.may_put hb hro
      obtain ⟨h1, _, _, h4⟩ := Pg.may_parts hm
      refine ⟨fun x hx => ?_, h4⟩
      have := Pg.fits_sizes (Pg.rise_fits _ _ h1 x hx)
      omega
/-- what stands behind the first change, in three values' places and two pages' -/
def Kept (wx : World) (r : Nat) (lsn : Int) (A : Option Addr) (n c : Nat) (has : Bool) (data : ByteArray) (r2 : Nat) (wh : Bool) (wd : ByteArray) (qb : Nat) (a : Int) (A5 : Option Addr) (m c5 : Nat) (W : World) : Prop :=
  W.cell? ⟨r, 0, none⟩ = some (.int .i64 lsn) ∧ W.cell? ⟨r, 1, none⟩ = some (.slice A n c) ∧ W.cell? ⟨r + 1, 0, none⟩ = some (.bool has) ∧ W.cell? ⟨r + 1, 1, none⟩ = some (.string data) ∧ W.cell? ⟨r2, 0, none⟩ = some (.bool wh) ∧ W.cell? ⟨r2, 1, none⟩ = some (.string wd) ∧ W.cell? ⟨qb, 0, none⟩ = some (.int .i64 a) ∧ W.cell? ⟨qb, 1, none⟩ = some (.slice A5 m c5) ∧ Below wx.heap.size wx W
theorem Kept.below {wx w w' : World} {r : Nat} {lsn : Int} {A : Option Addr} {n c : Nat} {has : Bool} {data : ByteArray} {r2 : Nat} {wh : Bool} {wd : ByteArray} {qb : Nat} {a : Int} {A5 : Option Addr} {m c5 : Nat} (h : Kept wx r lsn A n c has data r2 wh wd qb a A5 m c5 w) (hb : Below w.heap.size w w') : Kept wx r lsn A n c has data r2 wh wd qb a A5 m c5 w' := by
  have hk : ∀ (a : Addr) v, w.cell? a = some v → w'.cell? a = some v := fun a v h => (World.cell?_of_block (hb.block _ (World.block_lt_of_cell? w a h))).trans h
  obtain ⟨h1, h2, h3, h4, h5, h6, h7, h8, h9⟩ := h
  exact ⟨hk _ _ h1, hk _ _ h2, hk _ _ h3, hk _ _ h4, hk _ _ h5, hk _ _ h6, hk _ _ h7, hk _ _ h8, h9.trans (hb.mono h9.size)⟩
theorem good_get {lsn0 lsn b : Int} {l : List Pg.C} {key : ByteArray} {has : Bool} {data : ByteArray} {wh : Bool} {wd : ByteArray} (hw : Pg.get l key = (wh, wd)) (hb : ¬ Pg.bad lsn0 l lsn key has data) (hro : Pg.room l key = true) (h1 : 1 ≤ b) (h2 : b ≤ 1099511627776) : Pg.set lsn (Pg.put l key has data) b key wh wd = (b, Pg.put (Pg.put l key has data) key wh wd, 0) := by
  have hm := Pg.may_put hb hro
  unfold Pg.bad at hb
  simp only [not_or, Int.not_lt] at hb
  obtain ⟨g1, g2, g3, g4⟩ := hb
  have hv := Pg.get_ok (key := key) (Pg.may_parts (show Pg.may lsn0 l = true by simpa using g1)).1
  rw [hw] at hv
  unfold Pg.set
  rw [if_neg, if_neg]
  · rw [Pg.room_put]; decide
  · unfold Pg.bad
    rw [hm]
    have g2' : Pg.fits ⟨key, has, data⟩ = true := by simpa using g2
    unfold Pg.fits at g2' ⊢
    rw [Bool.and_eq_true] at g2'
    rw [g2'.1]
    simp only at hv ⊢
    rw [hv]
    simp
    omega
theorem get_back {l : List Pg.C} {key other : ByteArray} {has : Bool} {data : ByteArray} {wh : Bool} {wd : ByteArray} (hw : Pg.get l key = (wh, wd)) : Pg.get (Pg.put (Pg.put l key has data) key wh wd) other = Pg.get l other := by
  by_cases h : (key.toList == other.toList) = true
  · have h' : key = other := by
      exact Pg.key_ext h
    subst h'
    rw [Pg.get_put, hw]
  · rw [Pg.get_other _ _ _ _ _ (by simpa using h), Pg.get_other _ _ _ _ _ (by simpa using h)]
set_option maxHeartbeats 16000000 in
theorem walk (lsn : Int) (A : Option Addr) (n c : Nat) (l : List Pg.C) (a b : Int) (key : ByteArray) (has : Bool) (data : ByteArray) (other : ByteArray) (w : World)
    (hl : ST cellK w A n l) (hnc : n ≤ c) (hcm : c ≤ maxLen) (hl1 : -9223372036854775808 ≤ lsn) (hl2 : lsn ≤ 9223372036854775807) (ha1 : -9223372036854775808 ≤ a) (ha2 : a ≤ 9223372036854775807) (hb1 : -9223372036854775808 ≤ b) (hb2 : b ≤ 9223372036854775807) (hkm : key.size ≤ maxLen) (hdm : data.size ≤ maxLen) (hom : other.size ≤ maxLen) :
    Calls Try.prog 3 #[pVal lsn A n c, .int .i64 a, .int .i64 b, .string key, vVal has data, .string other] w fun e w' => e = .returned (.bool true) ∧ Below w.heap.size w w' := by
  have hb0 : Below w.heap.size w ((w.alloc (.cells (pgCells lsn A n c) 24)).alloc (.cells #[.bool has, .string data] 26)) := ((Below.refl _ _).alloc (Nat.le_refl _) _).alloc (by simp) _
  have hk0 := (Blk.new w 24 (pgCells lsn A n c)).alloc (.cells #[.bool has, .string data] 26)
  have hv0 := Blk.new (w.alloc (.cells (pgCells lsn A n c) 24)) 26 #[.bool has, .string data]
  simp only [World.size_alloc] at hv0
  have H := Lib.hid (And.intro hb0 (And.intro hk0 (And.intro hv0 (And.intro hl hl.len))))
  clear hb0 hk0 hv0 hl
  go_enter Try.func3, Try.ntmps3
  go_wp2_with fail
  generalize hW0 : (w.alloc (.cells (pgCells lsn A n c) 24)).alloc (.cells #[.bool has, .string data] 26) = W0 at *
  clear hW0
  refine (great10_any lsn A n c l W0 (H.out.2.2.2.1.below H.out.1)).mono ?_
  rintro e w1 ⟨rfl, hb1'⟩
  have hv1 := H.out.2.2.1.below hb1' H.out.2.2.1.lt
  have hk1 := H.out.2.1.below hb1' H.out.2.1.lt
  have v0 : w1.cell? ⟨w.heap.size + 1, 0, none⟩ = some (.bool has) := hv1.cell 0
  have v1 : w1.cell? ⟨w.heap.size + 1, 1, none⟩ = some (.string data) := hv1.cell 1
  have c0 : w1.cell? ⟨w.heap.size, 0, none⟩ = some (.int .i64 lsn) := hk1.cell 0
  have c1 : w1.cell? ⟨w.heap.size, 1, none⟩ = some (.slice A n c) := hk1.cell 1
  have H1 := Lib.hid (And.intro hk1 (And.intro hv1 (H.out.1.trans (hb1'.mono H.out.1.size))))
  clear hb1' hv1 hk1
  by_cases hgd : Pg.great l = true ∨ 100 < key.size ∨ 100 < other.size ∨ 100 < data.size
  · have hways : Pg.great l = true ∨ Pg.great l = false ∧ decide ((100 : Int) < (key.size : Int)) = true ∨ Pg.great l = false ∧ decide ((100 : Int) < (key.size : Int)) = false ∧ decide ((100 : Int) < (other.size : Int)) = true ∨ Pg.great l = false ∧ decide ((100 : Int) < (key.size : Int)) = false ∧ decide ((100 : Int) < (other.size : Int)) = false ∧ decide ((100 : Int) < (data.size : Int)) = true := by
      cases h : Pg.great l with
      | true => exact .inl rfl
      | false =>
        rw [h] at hgd
        by_cases h1 : 100 < key.size
        · exact .inr (.inl ⟨rfl, by simp; omega⟩)
        · by_cases h2 : 100 < other.size
          · exact .inr (.inr (.inl ⟨rfl, by simp; omega, by simp; omega⟩))
          · exact .inr (.inr (.inr ⟨rfl, by simp; omega, by simp; omega, by simp at hgd; simp; omega⟩))
    clear hgd
    rcases hways with g | ⟨g, d1⟩ | ⟨g, d1, d2⟩ | ⟨g, d1, d2, d3⟩
    all_goals
      rw [g]
      go_wp2_with fail
      refine (awake10_any w1).mono ?_
      rintro e w2 ⟨rfl, hb2'⟩
      have H2 := Lib.hid (H1.out.2.2.trans (hb2'.mono H1.out.2.2.size))
      clear hb2'
      go_wp2_with fail
      go_ret
      exact ⟨rfl, H2.out⟩
  · have hgf : Pg.great l = false := by
      cases h : Pg.great l with
      | true => exact absurd (.inl h) hgd
      | false => rfl
    have d1 : decide ((100 : Int) < (key.size : Int)) = false := by simp; omega
    have d2 : decide ((100 : Int) < (other.size : Int)) = false := by simp; omega
    have d3 : decide ((100 : Int) < (data.size : Int)) = false := by simp; omega
    have hks : key.size ≤ 9223372036854775807 := by omega
    have hn20 : n ≤ 20 := by rw [← H.out.2.2.2.2]; exact great_not hgf
    rw [hgf]
    clear hgf hgd
    go_wp2_with fail
    refine (rget10_any lsn A n c l key w1 (H.out.2.2.2.1.below H1.out.2.2) (by omega)).mono ?_
    rintro e w2 ⟨rfl, hb2'⟩
    obtain ⟨WAS, hwas⟩ : ∃ x, Pg.get l key = x := ⟨_, rfl⟩
    rw [hwas]
    obtain ⟨wh, wd⟩ := WAS
    simp only
    have hb23 : Below w2.heap.size w2 (w2.alloc (.cells #[.bool wh, .string wd] 26)) := (Below.refl _ _).alloc (Nat.le_refl _) _
    have hb13 := hb2'.trans (hb23.mono hb2'.size)
    have hwk := Blk.new w2 26 #[.bool wh, .string wd]
    have H3 := Lib.hid (And.intro (H1.out.1.below hb13 H1.out.1.lt) (And.intro (H1.out.2.1.below hb13 H1.out.2.1.lt) (And.intro hwk (H1.out.2.2.trans (hb13.mono H1.out.2.2.size)))))
    have HW := Lib.hid hwas
    clear hb2' hb23 hb13 hwk hwas v0 v1 c0 c1
    go_upto_region 4 with fail
    generalize w2.alloc (.cells #[.bool wh, .string wd] 26) = w3 at *
    have hset := fun (A' : Option Addr) (c' : Nat) (W : World) (h : ST cellK W A' n l) (h0 : A' = none → n = 0 ∧ c' = 0) => pset_any lsn A' n c' l a key has data W h h0 (by omega) hks
    obtain ⟨R, hR⟩ : ∃ R, Pg.set lsn l a key has data = R := ⟨_, rfl⟩
    rw [hR] at hset
    obtain ⟨ql, qk, qe⟩ := R
    have HR := Lib.hid (And.intro hset hR)
    clear hset hR
    have HS : Held w3 w.heap.size lsn A n c has data w3.drew := ⟨H3.out.1.cell 0, H3.out.1.cell 1, H3.out.2.1.cell 0, H3.out.2.1.cell 1, (Below.refl _ w3).drew⟩
    have hn1 : w.heap.size < w3.heap.size := H3.out.1.lt
    have hn2 : w.heap.size + 1 < w3.heap.size := H3.out.2.1.lt
    have hcopy : ∀ W, Held w3 w.heap.size lsn A n c has data W → Calls Try.prog 19 #[pVal lsn A n c] W fun e w' => ∃ A4 c4, e = .returned (pVal lsn A4 n c4) ∧ Held w3 w.heap.size lsn A n c has data w' ∧ ST cellK w' A4 n l ∧ (A4 = none → n = 0 ∧ c4 = 0) ∧ (∀ k o, k < W.heap.size → w'.cell? ⟨k, o, none⟩ = W.cell? ⟨k, o, none⟩) ∧ (∀ k o, k < W.heap.size → w'.frozen? ⟨k, o, none⟩ = W.frozen? ⟨k, o, none⟩) ∧ w3.heap.size ≤ w'.heap.size ∧ (∀ k, k < W.heap.size → k < w'.heap.size) ∧ RowKit.Hid (∀ k, k < W.heap.size → w'.heap[k]? = W.heap[k]?) := by
      intro W hW
      refine (copy10_any lsn A n c l W (H.out.2.2.2.1.below (H3.out.2.2.2.trans (hW.2.2.2.2.mono H3.out.2.2.2.size))) (by omega)).mono ?_
      rintro e w' ⟨A4, c4, rfl, ho4, hb4⟩
      have hst := ST.of_own (K := cellK) (l := l) cellK_len (by decide) ho4 (H.out.2.2.2.1.ok · ·)
      rw [H.out.2.2.2.2] at ho4 hst ⊢
      exact ⟨A4, c4, rfl, hW.below hb4, hst, own_none ho4, fun k o hk => World.cell?_of_block (hb4.block k hk), fun k o hk => World.frozen?_of_block (hb4.block k hk), (hW.below hb4).2.2.2.2.size, fun k hk => Nat.lt_of_lt_of_le hk hb4.size, Lib.hid hb4.block⟩
    have hsetc : ∀ (A4 : Option Addr) (c4 : Nat) (W : World), Held w3 w.heap.size lsn A n c has data W → ST cellK W A4 n l → (A4 = none → n = 0 ∧ c4 = 0) → Calls Try.prog 18 #[pVal lsn A4 n c4, .int .i64 a, .string key, vVal has data] W fun e w' => ∃ A5 c5, e = .returned (.tuple #[pVal ql A5 qk.length c5, .int .i64 (qe : Nat)]) ∧ Held w3 w.heap.size lsn A n c has data w' ∧ w'.ownsRow W.heap.size 40 3 (.slice A5 qk.length c5) qk.length (rowOf cellK qk) ∧ (∀ k o, k < W.heap.size → w'.cell? ⟨k, o, none⟩ = W.cell? ⟨k, o, none⟩) ∧ (∀ k o, k < W.heap.size → w'.frozen? ⟨k, o, none⟩ = W.frozen? ⟨k, o, none⟩) ∧ w3.heap.size ≤ W.heap.size ∧ (∀ k, k < W.heap.size → k < w'.heap.size) ∧ RowKit.Hid (∀ k, k < W.heap.size → w'.heap[k]? = W.heap[k]?) := by
      intro A4 c4 W hW hst hno
      refine (HR.out.1 A4 c4 W hst hno).mono ?_
      rintro e w' ⟨A5, c5, rfl, ho5, hb5⟩
      exact ⟨A5, c5, rfl, hW.below hb5, ho5, fun k o hk => World.cell?_of_block (hb5.block k hk), fun k o hk => World.frozen?_of_block (hb5.block k hk), hW.2.2.2.2.size, fun k hk => Nat.lt_of_lt_of_le hk hb5.size, Lib.hid hb5.block⟩
    have HC := Lib.hid (And.intro hcopy hsetc)
    clear hcopy hsetc
    unfold Held at HS HC
    go_cut [14, 15] (fun s14 s15 wx => ∃ (qb : Nat) (A5 : Option Addr) (c5 : Nat), s14 = .pointer (some ⟨qb, 0, none⟩) ∧ s15 = .int .i64 (qe : Int) ∧ Blk wx qb 24 (pgCells ql A5 qk.length c5) ∧ wx.ownsRow w3.heap.size 40 3 (.slice A5 qk.length c5) qk.length (rowOf cellK qk) ∧ Below w3.heap.size w3 wx)
    case first =>
      go_region_held3 (fun w' => w'.cell? ⟨w.heap.size, 0, none⟩ = some (.int .i64 lsn) ∧ w'.cell? ⟨w.heap.size, 1, none⟩ = some (.slice A n c) ∧ w'.cell? ⟨w.heap.size + 1, 0, none⟩ = some (.bool has) ∧ w'.cell? ⟨w.heap.size + 1, 1, none⟩ = some (.string data) ∧ Below w3.heap.size w3 w')
        ((first
          | exact HS
          | exact ⟨cell_alloc_some' _ HS.1, cell_alloc_some' _ HS.2.1, cell_alloc_some' _ HS.2.2.1, cell_alloc_some' _ HS.2.2.2.1, HS.2.2.2.2.alloc HS.2.2.2.2.size _⟩
          | exact ⟨cell_store2 HS.1 (by simp only; omega), cell_store2 HS.2.1 (by simp only; omega), cell_store2 HS.2.2.1 (by simp only; omega), cell_store2 HS.2.2.2.1 (by simp only; omega), (HS.2.2.2.2.setCell (by simp only; omega) _).setCell (by simp only; omega) _⟩))
        (first
          | (go_at_call 19; go_must (refine (HC.out.1 _ (by assumption)).mono ?_; rintro e w4 ⟨A4, c4, rfl, HS, hst4, hno4, hc4, hf4, hs4, hk4, hh4⟩))
          | (go_at_call 18; go_must (refine (HC.out.2 A4 c4 _ (by assumption) (by first | exact hst4 | exact hst4.below ((Below.refl _ _).alloc (Nat.le_refl _) _)) hno4).mono ?_; rintro e w5 ⟨A5, c5, rfl, HS, ho5, hc5, hf5, hs5, hk5, hh5⟩; have HS0 := HS)))
      all_goals
        go_wp2_with fail
        go_meet
        case rel =>
          first
            | exact ⟨_, A5, c5, rfl, rfl, Blk.new w5 24 (pgCells ql A5 qk.length c5), own_base (own_below ho5 ((Below.refl _ _).alloc (Nat.le_refl _) _)) hs5, HS.2.2.2.2.alloc HS.2.2.2.2.size _⟩
            | exact ⟨_, A5, c5, rfl, rfl, fin_store ql ((Blk.new w4 24 (pgCells 0 none 0 0)).keep (hh5.out _ (by simp))) ho5 (by simp) hs4 HS0.2.2.2.2⟩
            | exact ⟨w3.heap.size, A5, c5, rfl, rfl, fin_store (w3 := w3) (qb := w3.heap.size) ql (((show Blk _ w3.heap.size 24 (pgCells 0 none 0 0) from Blk.new w3 24 (pgCells 0 none 0 0)).keep (hh4.out w3.heap.size (by simp))).keep (hh5.out w3.heap.size (hk4 w3.heap.size (by simp)))) ho5 (hk4 w3.heap.size (by simp)) (Nat.le_refl _) HS0.2.2.2.2⟩
    case rest =>
      obtain ⟨qb, A5, c5, rfl, rfl, hqk, hrow, hb5⟩ := hcut
      have hx := H3.out.2.2.2.trans (hb5.mono H3.out.2.2.2.size)
      have hp5 := H3.out.1.below hb5 H3.out.1.lt
      have hv5 := H3.out.2.1.below hb5 H3.out.2.1.lt
      have hw5 := H3.out.2.2.1.below hb5 H3.out.2.2.1.lt
      have HX := Lib.hid (And.intro hx (And.intro hp5 (And.intro hv5 (And.intro hw5 (And.intro hqk hrow)))))
      clear hx hp5 hv5 hw5 hqk hrow hb5 HS HC hn1 hn2
      rcases set_ways3 HR.out.2 with hq | hq | hq
      rotate_left
      · obtain ⟨rfl, rfl⟩ := hq
        have q1 := (show _ = some (Value.slice A5 0 c5) from HX.out.2.2.2.2.1.cell 1)
        go_wp2_with fail
        refine (awake10_any _).mono ?_
        rintro e w6 ⟨rfl, hb6⟩
        have H6 := Lib.hid (HX.out.1.trans (hb6.mono HX.out.1.size))
        clear hb6
        go_wp2_with fail
        go_ret
        exact ⟨rfl, H6.out⟩
      · obtain ⟨rfl, rfl⟩ := hq
        have q1 := (show _ = some (Value.slice A5 0 c5) from HX.out.2.2.2.2.1.cell 1)
        go_wp2_with fail
        refine (awake10_any _).mono ?_
        rintro e w6 ⟨rfl, hb6⟩
        have H6 := Lib.hid (HX.out.1.trans (hb6.mono HX.out.1.size))
        clear hb6
        go_wp2_with fail
        go_ret
        exact ⟨rfl, H6.out⟩
      · obtain ⟨rfl, hql, hqke, hbad, hroom⟩ := hq
        obtain rfl := hql.symm
        have HQ := Lib.hid (And.intro hqke (And.intro hbad hroom))
        clear hqke hbad hroom hql
        go_upto_region 7 with fail
        obtain ⟨OV, hov⟩ : ∃ x, Pg.get l other = x := ⟨_, rfl⟩
        obtain ⟨oh, od⟩ := OV
        have hgk : Pg.get qk key = (has, data) := by rw [HQ.out.1]; exact Pg.get_put ..
        have HO := Lib.hid (And.intro hov hgk)
        clear hov hgk
        have HS : Kept wc w.heap.size lsn A n c has data w2.heap.size wh wd qb a A5 qk.length c5 wc.drew := ⟨HX.out.2.1.cell 0, HX.out.2.1.cell 1, HX.out.2.2.1.cell 0, HX.out.2.2.1.cell 1, HX.out.2.2.2.1.cell 0, HX.out.2.2.2.1.cell 1, HX.out.2.2.2.2.1.cell 0, HX.out.2.2.2.2.1.cell 1, (Below.refl _ wc).drew⟩
        have hl4 : qk.length ≤ 1000000 := by
          have := (Pg.may_parts (Pg.may_put HQ.out.2.1 HQ.out.2.2)).2.2.2
          rw [HQ.out.1]; omega
        have hstq : ST cellK wc A5 qk.length qk := ST.of_own cellK_len (by decide) HX.out.2.2.2.2.2 (by
          intro x hx
          have := (set_small (lsn0 := lsn) (lsn := a) (l := l) (key := key) (has := has) (data := data)).1 x (by rw [HR.out.2]; exact hx)
          exact ⟨this.1, this.2⟩)
        have hgetk : ∀ (k : ByteArray) W, Kept wc w.heap.size lsn A n c has data w2.heap.size wh wd qb a A5 qk.length c5 W → Calls Try.prog 20 #[pVal a A5 qk.length c5, .string k] W fun e w' => e = .returned (vVal (Pg.get qk k).1 (Pg.get qk k).2) ∧ Kept wc w.heap.size lsn A n c has data w2.heap.size wh wd qb a A5 qk.length c5 w' := by
          intro k W hW
          refine (pget_any a A5 qk.length c5 qk k W (hstq.below hW.2.2.2.2.2.2.2.2) hl4).mono ?_
          rintro e w' ⟨rfl, hb⟩
          exact ⟨rfl, hW.below hb⟩
        have hreto : ∀ W, Kept wc w.heap.size lsn A n c has data w2.heap.size wh wd qb a A5 qk.length c5 W → Calls Try.prog 17 #[pVal lsn A n c, .string other] W fun e w' => e = .returned (vVal oh od) ∧ Kept wc w.heap.size lsn A n c has data w2.heap.size wh wd qb a A5 qk.length c5 w' := by
          intro W hW
          refine (rget10_any lsn A n c l other W (H.out.2.2.2.1.below (HX.out.1.trans (hW.2.2.2.2.2.2.2.2.mono HX.out.1.size))) (by omega)).mono ?_
          rintro e w' ⟨rfl, hb⟩
          rw [HO.out.1]
          exact ⟨rfl, hW.below hb⟩
        have HC := Lib.hid (And.intro hgetk hreto)
        have HT := Lib.hid hstq
        clear hgetk hreto hstq
        unfold Kept at HS HC
        go_cut [82] (fun s82 wx => s82 = .bool false ∧ RowKit.Hid (Kept wc w.heap.size lsn A n c has data w2.heap.size wh wd qb a A5 qk.length c5 wx))
        case first =>
          cases hko : (key.toList == other.toList) with
          | true =>
            obtain rfl := Pg.key_ext hko
            clear hko
            refine wp_region_held_drew (S := fun w' => w'.cell? ⟨w.heap.size, 0, none⟩ = some (.int .i64 lsn) ∧ w'.cell? ⟨w.heap.size, 1, none⟩ = some (.slice A n c) ∧ w'.cell? ⟨w.heap.size + 1, 0, none⟩ = some (.bool has) ∧ w'.cell? ⟨w.heap.size + 1, 1, none⟩ = some (.string data) ∧ w'.cell? ⟨w2.heap.size, 0, none⟩ = some (.bool wh) ∧ w'.cell? ⟨w2.heap.size, 1, none⟩ = some (.string wd) ∧ w'.cell? ⟨qb, 0, none⟩ = some (.int .i64 a) ∧ w'.cell? ⟨qb, 1, none⟩ = some (.slice A5 qk.length c5) ∧ Below wc.heap.size wc w') (by kernel_rfl) HS (fun hHeld => ?_)
            refine anyH_take (i := 0) (d := 58) (v := pVal a A5 qk.length c5) rfl (by kernel_rfl) (by kernel_rfl) (by kernel_rfl) (fun _ _ _ h => h) rfl (by rfl) (fun w' hSw => by (try dsimp only at hSw); go_simp; first | done | with_reducible rfl) (by assumption) ?_
            simp only [List.setIfInBounds_toArray, List.set_cons_zero, List.set_cons_succ]
            refine anyH_take (i := 1) (d := 59) (v := .string key) rfl (by kernel_rfl) (by kernel_rfl) (by kernel_rfl) (fun _ _ _ h => h) rfl (by rfl) (fun w' hSw => by (try dsimp only at hSw); go_simp; first | done | with_reducible rfl) (by assumption) ?_
            simp only [List.setIfInBounds_toArray, List.set_cons_zero, List.set_cons_succ]
            refine anyH_take (i := 3) (d := 61) (v := vVal has data) rfl (by kernel_rfl) (by kernel_rfl) (by kernel_rfl) (fun _ _ _ h => h) rfl (by rfl) (fun w' hSw => by (try dsimp only at hSw); go_simp; first | done | with_reducible rfl) (by assumption) ?_
            simp only [List.setIfInBounds_toArray, List.set_cons_zero, List.set_cons_succ]
            refine wpAnyH_ready (rs := [2]) (by kernel_rfl) (by simp) ?_
            refine AllReadyH.cons rfl (fun K hK => ?_) AllReadyH.nil
            go_simp
            refine (HC.out.1 key _ (by assumption)).mono ?_
            rintro e w7 ⟨rfl, HS⟩
            rw [HO.out.2]
            refine hK.out _ _ (by first | exact HS | (dsimp only; exact HS)) (fun hHeld => ?_)
            clear hK K
            simp only [Act.put, List.setIfInBounds_toArray, List.set_cons_zero, List.set_cons_succ]
            refine anyH_take (i := 4) (d := 62) (v := .bool false) rfl (by kernel_rfl) (by kernel_rfl) (by kernel_rfl) (fun _ _ _ h => h) rfl (by rfl) (fun w' hSw => by (try dsimp only at hSw); go_simp; first | done | with_reducible rfl) (by assumption) ?_
            simp only [List.setIfInBounds_toArray, List.set_cons_zero, List.set_cons_succ]
            refine anyH_take (i := 5) (d := 63) (v := .bool false) rfl (by kernel_rfl) (by kernel_rfl) (by kernel_rfl) (fun _ _ _ h => h) rfl (by rfl) (fun w' hSw => by (try dsimp only at hSw); go_simp; first | done | with_reducible rfl) (by assumption) ?_
            simp only [List.setIfInBounds_toArray, List.set_cons_zero, List.set_cons_succ]
            refine anyH_take (i := 6) (d := 64) (v := .pointer (some ⟨qb, 0, none⟩)) rfl (by kernel_rfl) (by kernel_rfl) (by kernel_rfl) (fun _ _ _ h => h) rfl (by rfl) (fun w' hSw => by (try dsimp only at hSw); go_simp; first | done | with_reducible rfl) (by assumption) ?_
            simp only [List.setIfInBounds_toArray, List.set_cons_zero, List.set_cons_succ]
            refine anyH_take (i := 7) (d := 65) (v := .int .i64 a) rfl (by kernel_rfl) (by kernel_rfl) (by kernel_rfl) (fun _ _ _ h => h) rfl (by rfl) (fun w' hSw => by (try dsimp only at hSw); go_simp; first | done | with_reducible rfl) (by assumption) ?_
            simp only [List.setIfInBounds_toArray, List.set_cons_zero, List.set_cons_succ]
            refine anyH_take (i := 8) (d := 66) (v := .int .i64 a) rfl (by kernel_rfl) (by kernel_rfl) (by kernel_rfl) (fun _ _ _ h => h) rfl (by rfl) (fun w' hSw => by (try dsimp only at hSw); go_simp; first | done | with_reducible rfl) (by assumption) ?_
            simp only [List.setIfInBounds_toArray, List.set_cons_zero, List.set_cons_succ]
            refine anyH_take (i := 9) (d := 67) (v := .bool false) rfl (by kernel_rfl) (by kernel_rfl) (by kernel_rfl) (fun _ _ _ h => h) rfl (by rfl) (fun w' hSw => by (try dsimp only at hSw); go_simp; first | done | with_reducible rfl) (by assumption) ?_
            simp only [List.setIfInBounds_toArray, List.set_cons_zero, List.set_cons_succ]
            refine anyH_take (i := 10) (d := 68) (v := .bool false) rfl (by kernel_rfl) (by kernel_rfl) (by kernel_rfl) (fun _ _ _ h => h) rfl (by rfl) (fun w' hSw => by (try dsimp only at hSw); go_simp; first | done | with_reducible rfl) (by assumption) ?_
            simp only [List.setIfInBounds_toArray, List.set_cons_zero, List.set_cons_succ]
            refine anyH_take (i := 11) (d := 69) (v := .bool false) rfl (by kernel_rfl) (by kernel_rfl) (by kernel_rfl) (fun _ _ _ h => h) rfl (by rfl) (fun w' hSw => by (try dsimp only at hSw); go_simp; first | done | with_reducible rfl) (by assumption) ?_
            simp only [List.setIfInBounds_toArray, List.set_cons_zero, List.set_cons_succ]
            refine anyH_take (i := 12) (d := 70) (v := .string key) rfl (by kernel_rfl) (by kernel_rfl) (by kernel_rfl) (fun _ _ _ h => h) rfl (by rfl) (fun w' hSw => by (try dsimp only at hSw); go_simp; first | done | with_reducible rfl) (by assumption) ?_
            simp only [List.setIfInBounds_toArray, List.set_cons_zero, List.set_cons_succ]
            refine anyH_take (i := 13) (d := 71) (v := .string key) rfl (by kernel_rfl) (by kernel_rfl) (by kernel_rfl) (fun _ _ _ h => h) rfl (by rfl) (fun w' hSw => by (try dsimp only at hSw); go_simp; first | done | with_reducible rfl) (by assumption) ?_
            simp only [List.setIfInBounds_toArray, List.set_cons_zero, List.set_cons_succ]
            refine anyH_take (i := 14) (d := 72) (v := .bool false) rfl (by kernel_rfl) (by kernel_rfl) (by kernel_rfl) (fun _ _ _ h => h) rfl (by rfl) (fun w' hSw => by (try dsimp only at hSw); go_simp; first | done | with_reducible rfl) (by assumption) ?_
            simp only [List.setIfInBounds_toArray, List.set_cons_zero, List.set_cons_succ]
            refine anyH_take (i := 15) (d := 73) (v := .bool false) rfl (by kernel_rfl) (by kernel_rfl) (by kernel_rfl) (fun _ _ _ h => h) rfl (by rfl) (fun w' hSw => by (try dsimp only at hSw); go_simp; first | done | with_reducible rfl) (by assumption) ?_
            simp only [List.setIfInBounds_toArray, List.set_cons_zero, List.set_cons_succ]
            refine anyH_skip (i := 16) (d := 74) rfl (by kernel_rfl) (by kernel_rfl) (by kernel_rfl) (fun _ _ _ h => h) rfl (by rfl) (by assumption) ?_
            simp only [List.setIfInBounds_toArray, List.set_cons_zero, List.set_cons_succ]
            refine anyH_skip (i := 17) (d := 75) rfl (by kernel_rfl) (by kernel_rfl) (by kernel_rfl) (fun _ _ _ h => h) rfl (by rfl) (by assumption) ?_
            simp only [List.setIfInBounds_toArray, List.set_cons_zero, List.set_cons_succ]
            refine anyH_skip (i := 18) (d := 76) rfl (by kernel_rfl) (by kernel_rfl) (by kernel_rfl) (fun _ _ _ h => h) rfl (by rfl) (by assumption) ?_
            simp only [List.setIfInBounds_toArray, List.set_cons_zero, List.set_cons_succ]
            refine anyH_skip (i := 19) (d := 77) rfl (by kernel_rfl) (by kernel_rfl) (by kernel_rfl) (fun _ _ _ h => h) rfl (by rfl) (by assumption) ?_
            simp only [List.setIfInBounds_toArray, List.set_cons_zero, List.set_cons_succ]
            refine anyH_skip (i := 20) (d := 78) rfl (by kernel_rfl) (by kernel_rfl) (by kernel_rfl) (fun _ _ _ h => h) rfl (by rfl) (by assumption) ?_
            simp only [List.setIfInBounds_toArray, List.set_cons_zero, List.set_cons_succ]
            refine anyH_skip (i := 21) (d := 79) rfl (by kernel_rfl) (by kernel_rfl) (by kernel_rfl) (fun _ _ _ h => h) rfl (by rfl) (by assumption) ?_
            simp only [List.setIfInBounds_toArray, List.set_cons_zero, List.set_cons_succ]
            refine anyH_skip (i := 22) (d := 80) rfl (by kernel_rfl) (by kernel_rfl) (by kernel_rfl) (fun _ _ _ h => h) rfl (by rfl) (by assumption) ?_
            simp only [List.setIfInBounds_toArray, List.set_cons_zero, List.set_cons_succ]
            refine anyH_take (i := 23) (d := 81) (v := .bool false) rfl (by kernel_rfl) (by kernel_rfl) (by kernel_rfl) (fun _ _ _ h => h) rfl (by rfl) (fun w' hSw => by (try dsimp only at hSw); go_simp; first | done | with_reducible rfl) (by assumption) ?_
            simp only [List.setIfInBounds_toArray, List.set_cons_zero, List.set_cons_succ]
            refine anyH_take (i := 24) (d := 82) (v := .bool false) rfl (by kernel_rfl) (by kernel_rfl) (by kernel_rfl) (fun _ _ _ h => h) rfl (by rfl) (fun w' hSw => by (try dsimp only at hSw); go_simp; first | done | with_reducible rfl) (by assumption) ?_
            simp only [List.setIfInBounds_toArray, List.set_cons_zero, List.set_cons_succ]
            refine wpAnyH_done (by kernel_rfl) ?_ _
            go_wp2_with fail
            go_meet
            case rel => exact ⟨rfl, Lib.hid HS⟩
          | false =>
            have hne : ¬ other.toList = key.toList := by
              intro e
              rw [e, beq_self_eq_true] at hko
              cases hko
            have hgo : Pg.get qk other = (oh, od) := by rw [HQ.out.1, Pg.get_other _ _ _ _ _ hko, HO.out.1]
            clear hko
            refine wp_region_held_drew (S := fun w' => w'.cell? ⟨w.heap.size, 0, none⟩ = some (.int .i64 lsn) ∧ w'.cell? ⟨w.heap.size, 1, none⟩ = some (.slice A n c) ∧ w'.cell? ⟨w.heap.size + 1, 0, none⟩ = some (.bool has) ∧ w'.cell? ⟨w.heap.size + 1, 1, none⟩ = some (.string data) ∧ w'.cell? ⟨w2.heap.size, 0, none⟩ = some (.bool wh) ∧ w'.cell? ⟨w2.heap.size, 1, none⟩ = some (.string wd) ∧ w'.cell? ⟨qb, 0, none⟩ = some (.int .i64 a) ∧ w'.cell? ⟨qb, 1, none⟩ = some (.slice A5 qk.length c5) ∧ Below wc.heap.size wc w') (by kernel_rfl) HS (fun hHeld => ?_)
            refine anyH_take (i := 0) (d := 58) (v := pVal a A5 qk.length c5) rfl (by kernel_rfl) (by kernel_rfl) (by kernel_rfl) (fun _ _ _ h => h) rfl (by rfl) (fun w' hSw => by (try dsimp only at hSw); go_simp; first | done | with_reducible rfl) (by assumption) ?_
            simp only [List.setIfInBounds_toArray, List.set_cons_zero, List.set_cons_succ]
            refine anyH_take (i := 1) (d := 59) (v := .string key) rfl (by kernel_rfl) (by kernel_rfl) (by kernel_rfl) (fun _ _ _ h => h) rfl (by rfl) (fun w' hSw => by (try dsimp only at hSw); go_simp; first | done | with_reducible rfl) (by assumption) ?_
            simp only [List.setIfInBounds_toArray, List.set_cons_zero, List.set_cons_succ]
            refine anyH_take (i := 3) (d := 61) (v := vVal has data) rfl (by kernel_rfl) (by kernel_rfl) (by kernel_rfl) (fun _ _ _ h => h) rfl (by rfl) (fun w' hSw => by (try dsimp only at hSw); go_simp; first | done | with_reducible rfl) (by assumption) ?_
            simp only [List.setIfInBounds_toArray, List.set_cons_zero, List.set_cons_succ]
            refine wpAnyH_ready (rs := [2]) (by kernel_rfl) (by simp) ?_
            refine AllReadyH.cons rfl (fun K hK => ?_) AllReadyH.nil
            go_simp
            refine (HC.out.1 key _ (by assumption)).mono ?_
            rintro e w7 ⟨rfl, HS⟩
            rw [HO.out.2]
            refine hK.out _ _ (by first | exact HS | (dsimp only; exact HS)) (fun hHeld => ?_)
            clear hK K
            simp only [Act.put, List.setIfInBounds_toArray, List.set_cons_zero, List.set_cons_succ]
            refine anyH_take (i := 4) (d := 62) (v := .bool false) rfl (by kernel_rfl) (by kernel_rfl) (by kernel_rfl) (fun _ _ _ h => h) rfl (by rfl) (fun w' hSw => by (try dsimp only at hSw); go_simp; first | done | with_reducible rfl) (by assumption) ?_
            simp only [List.setIfInBounds_toArray, List.set_cons_zero, List.set_cons_succ]
            refine anyH_take (i := 5) (d := 63) (v := .bool false) rfl (by kernel_rfl) (by kernel_rfl) (by kernel_rfl) (fun _ _ _ h => h) rfl (by rfl) (fun w' hSw => by (try dsimp only at hSw); go_simp; first | done | with_reducible rfl) (by assumption) ?_
            simp only [List.setIfInBounds_toArray, List.set_cons_zero, List.set_cons_succ]
            refine anyH_take (i := 6) (d := 64) (v := .pointer (some ⟨qb, 0, none⟩)) rfl (by kernel_rfl) (by kernel_rfl) (by kernel_rfl) (fun _ _ _ h => h) rfl (by rfl) (fun w' hSw => by (try dsimp only at hSw); go_simp; first | done | with_reducible rfl) (by assumption) ?_
            simp only [List.setIfInBounds_toArray, List.set_cons_zero, List.set_cons_succ]
            refine anyH_take (i := 7) (d := 65) (v := .int .i64 a) rfl (by kernel_rfl) (by kernel_rfl) (by kernel_rfl) (fun _ _ _ h => h) rfl (by rfl) (fun w' hSw => by (try dsimp only at hSw); go_simp; first | done | with_reducible rfl) (by assumption) ?_
            simp only [List.setIfInBounds_toArray, List.set_cons_zero, List.set_cons_succ]
            refine anyH_take (i := 8) (d := 66) (v := .int .i64 a) rfl (by kernel_rfl) (by kernel_rfl) (by kernel_rfl) (fun _ _ _ h => h) rfl (by rfl) (fun w' hSw => by (try dsimp only at hSw); go_simp; first | done | with_reducible rfl) (by assumption) ?_
            simp only [List.setIfInBounds_toArray, List.set_cons_zero, List.set_cons_succ]
            refine anyH_take (i := 9) (d := 67) (v := .bool false) rfl (by kernel_rfl) (by kernel_rfl) (by kernel_rfl) (fun _ _ _ h => h) rfl (by rfl) (fun w' hSw => by (try dsimp only at hSw); go_simp; first | done | with_reducible rfl) (by assumption) ?_
            simp only [List.setIfInBounds_toArray, List.set_cons_zero, List.set_cons_succ]
            refine anyH_take (i := 10) (d := 68) (v := .bool false) rfl (by kernel_rfl) (by kernel_rfl) (by kernel_rfl) (fun _ _ _ h => h) rfl (by rfl) (fun w' hSw => by (try dsimp only at hSw); go_simp; first | done | with_reducible rfl) (by assumption) ?_
            simp only [List.setIfInBounds_toArray, List.set_cons_zero, List.set_cons_succ]
            refine anyH_take (i := 11) (d := 69) (v := .bool false) rfl (by kernel_rfl) (by kernel_rfl) (by kernel_rfl) (fun _ _ _ h => h) rfl (by rfl) (fun w' hSw => by (try dsimp only at hSw); go_simp; first | done | with_reducible rfl) (by assumption) ?_
            simp only [List.setIfInBounds_toArray, List.set_cons_zero, List.set_cons_succ]
            refine anyH_take (i := 12) (d := 70) (v := .string other) rfl (by kernel_rfl) (by kernel_rfl) (by kernel_rfl) (fun _ _ _ h => h) rfl (by rfl) (fun w' hSw => by (try dsimp only at hSw); go_simp; first | done | with_reducible rfl) (by assumption) ?_
            simp only [List.setIfInBounds_toArray, List.set_cons_zero, List.set_cons_succ]
            refine anyH_take (i := 13) (d := 71) (v := .string key) rfl (by kernel_rfl) (by kernel_rfl) (by kernel_rfl) (fun _ _ _ h => h) rfl (by rfl) (fun w' hSw => by (try dsimp only at hSw); go_simp; first | done | with_reducible rfl) (by assumption) ?_
            simp only [List.setIfInBounds_toArray, List.set_cons_zero, List.set_cons_succ]
            refine anyH_take (i := 14) (d := 72) (v := .bool true) rfl (by kernel_rfl) (by kernel_rfl) (by kernel_rfl) (fun _ _ _ h => h) rfl (by rfl) (fun w' hSw => by (try dsimp only at hSw); go_simp; first | done | with_reducible rfl) (by assumption) ?_
            simp only [List.setIfInBounds_toArray, List.set_cons_zero, List.set_cons_succ]
            refine anyH_take (i := 15) (d := 73) (v := .bool true) rfl (by kernel_rfl) (by kernel_rfl) (by kernel_rfl) (fun _ _ _ h => h) rfl (by rfl) (fun w' hSw => by (try dsimp only at hSw); go_simp; first | done | with_reducible rfl) (by assumption) ?_
            simp only [List.setIfInBounds_toArray, List.set_cons_zero, List.set_cons_succ]
            refine anyH_take (i := 16) (d := 74) (v := pVal a A5 qk.length c5) rfl (by kernel_rfl) (by kernel_rfl) (by kernel_rfl) (fun _ _ _ h => h) rfl (by rfl) (fun w' hSw => by (try dsimp only at hSw); go_simp; first | done | with_reducible rfl) (by assumption) ?_
            simp only [List.setIfInBounds_toArray, List.set_cons_zero, List.set_cons_succ]
            refine anyH_take (i := 17) (d := 75) (v := .string other) rfl (by kernel_rfl) (by kernel_rfl) (by kernel_rfl) (fun _ _ _ h => h) rfl (by rfl) (fun w' hSw => by (try dsimp only at hSw); go_simp; first | done | with_reducible rfl) (by assumption) ?_
            simp only [List.setIfInBounds_toArray, List.set_cons_zero, List.set_cons_succ]
            refine anyH_take (i := 19) (d := 77) (v := pVal lsn A n c) rfl (by kernel_rfl) (by kernel_rfl) (by kernel_rfl) (fun _ _ _ h => h) rfl (by rfl) (fun w' hSw => by (try dsimp only at hSw); go_simp; first | done | with_reducible rfl) (by assumption) ?_
            simp only [List.setIfInBounds_toArray, List.set_cons_zero, List.set_cons_succ]
            refine anyH_take (i := 20) (d := 78) (v := .string other) rfl (by kernel_rfl) (by kernel_rfl) (by kernel_rfl) (fun _ _ _ h => h) rfl (by rfl) (fun w' hSw => by (try dsimp only at hSw); go_simp; first | done | with_reducible rfl) (by assumption) ?_
            simp only [List.setIfInBounds_toArray, List.set_cons_zero, List.set_cons_succ]
            refine wpAnyH_ready (rs := [18]) (by kernel_rfl) (by simp) ?_
            refine AllReadyH.cons rfl (fun K hK => ?_) AllReadyH.nil
            go_simp
            refine (HC.out.1 other _ (by assumption)).mono ?_
            rintro e w8 ⟨rfl, HS⟩
            rw [hgo]
            refine hK.out _ _ (by first | exact HS | (dsimp only; exact HS)) (fun hHeld => ?_)
            clear hK K
            simp only [Act.put, List.setIfInBounds_toArray, List.set_cons_zero, List.set_cons_succ]
            refine wpAnyH_ready (rs := [21]) (by kernel_rfl) (by simp) ?_
            refine AllReadyH.cons rfl (fun K hK => ?_) AllReadyH.nil
            go_simp
            refine (HC.out.2 _ (by assumption)).mono ?_
            rintro e w9 ⟨rfl, HS⟩
            refine hK.out _ _ (by first | exact HS | (dsimp only; exact HS)) (fun hHeld => ?_)
            clear hK K
            try simp only [Act.put, List.setIfInBounds_toArray, List.set_cons_zero, List.set_cons_succ]
            refine anyH_take (i := 22) (d := 80) (v := .bool false) rfl (by kernel_rfl) (by kernel_rfl) (by kernel_rfl) (fun _ _ _ h => h) rfl (by rfl) (fun w' hSw => by (try dsimp only at hSw); go_simp; first | done | with_reducible rfl) (by assumption) ?_
            simp only [List.setIfInBounds_toArray, List.set_cons_zero, List.set_cons_succ]
            refine anyH_take (i := 23) (d := 81) (v := .bool false) rfl (by kernel_rfl) (by kernel_rfl) (by kernel_rfl) (fun _ _ _ h => h) rfl (by rfl) (fun w' hSw => by (try dsimp only at hSw); go_simp; first | done | with_reducible rfl) (by assumption) ?_
            simp only [List.setIfInBounds_toArray, List.set_cons_zero, List.set_cons_succ]
            refine anyH_take (i := 24) (d := 82) (v := .bool false) rfl (by kernel_rfl) (by kernel_rfl) (by kernel_rfl) (fun _ _ _ h => h) rfl (by rfl) (fun w' hSw => by (try dsimp only at hSw); go_simp; first | done | with_reducible rfl) (by assumption) ?_
            simp only [List.setIfInBounds_toArray, List.set_cons_zero, List.set_cons_succ]
            refine wpAnyH_done (by kernel_rfl) ?_ _
            go_wp2_with fail
            go_meet
            case rel => exact ⟨rfl, Lib.hid HS⟩
        case rest =>
          rename_i wold
          obtain ⟨rfl, HK7⟩ := hcut
          clear HS HC
          by_cases hbr : b < 1 ∨ 1099511627776 < b
          · have hbw : decide (b < 1) = true ∨ decide (b < 1) = false ∧ decide (1099511627776 < b) = true := by
              by_cases h : b < 1
              · exact .inl (decide_eq_true h)
              · exact .inr ⟨decide_eq_false h, decide_eq_true (by omega)⟩
            clear hbr
            rcases hbw with g1 | ⟨g1, g2⟩
            all_goals
              go_wp2_with fail
              refine (awake10_any _).mono ?_
              rintro e w10 ⟨rfl, hb10⟩
              have H10 := Lib.hid (HX.out.1.trans ((HK7.out.2.2.2.2.2.2.2.2.trans (hb10.mono HK7.out.2.2.2.2.2.2.2.2.size)).mono HX.out.1.size))
              clear hb10
              go_wp2_with fail
              go_ret
              exact ⟨rfl, H10.out⟩
          · have g1 : decide (b < 1) = false := by simp; omega
            have g2 : decide (1099511627776 < b) = false := by simp; omega
            have hs2 := good_get HW.out HQ.out.2.1 HQ.out.2.2 (show 1 ≤ b by omega) (show b ≤ 1099511627776 by omega)
            rw [← HQ.out.1] at hs2
            obtain ⟨qk2, hq2⟩ : ∃ x, Pg.put qk key wh wd = x := ⟨_, rfl⟩
            rw [hq2] at hs2
            have hset2 := pset_any a A5 qk.length c5 qk b key wh wd
            rw [hs2] at hset2
            have hgk2 : Pg.get qk2 key = (wh, wd) := by rw [← hq2]; exact Pg.get_put ..
            have hgo2 : Pg.get qk2 other = (oh, od) := by rw [← hq2, HQ.out.1, get_back HW.out, HO.out.1]
            have hrm2 : (decide (qk2.length < 4) || decide (Pg.idx qk2 key < qk2.length)) = true := by
              have := Pg.room_put qk key wh wd
              rw [hq2] at this
              exact this
            have hsm2 := set_small (lsn0 := a) (l := qk) (lsn := b) (key := key) (has := wh) (data := wd)
            rw [hs2] at hsm2
            have hno5 := own_none HX.out.2.2.2.2.2
            have HN := Lib.hid (And.intro hgk2 (And.intro hgo2 (And.intro hrm2 (And.intro hsm2 (And.intro hno5 hl4)))))
            have HN1 := Lib.hid hset2
            clear hgk2 hgo2 hrm2 hsm2 hno5 hset2 hs2 hq2 hl4
            have k5 := HK7.out.2.2.2.2.1
            have k6 := HK7.out.2.2.2.2.2.1
            have k7 := HK7.out.2.2.2.2.2.2.1
            have k8 := HK7.out.2.2.2.2.2.2.2.1
            go_wp2_with fail
            refine (HN1.out wc (HT.out.below HK7.out.2.2.2.2.2.2.2.2) HN.out.2.2.2.2.1 HN.out.2.2.2.2.2 hks).mono ?_
            rintro e w10 ⟨A6, c6, rfl, ho6, hb6⟩
            clear k5 k6 k7 k8
            have hk10 := HK7.out.below hb6
            have hba : Below w10.heap.size w10 (w10.alloc (.cells (pgCells b A6 qk2.length c6) 24)) := (Below.refl _ _).alloc (Nat.le_refl _) _
            have hka := hk10.below hba
            have hna := Blk.new w10 24 (pgCells b A6 qk2.length c6)
            have hst6 : ST cellK w10 A6 qk2.length qk2 := ST.of_own cellK_len (by decide) ho6 (fun x hx => HN.out.2.2.2.1.1 x hx)
            have HA := Lib.hid (And.intro hka (And.intro hna (hst6.below hba)))
            clear hk10 hba hka hna hst6 ho6 hb6
            go_upto_region 12 with fail
            generalize w10.alloc (.cells (pgCells b A6 qk2.length c6) 24) = w11 at *
            have hfin := HX.out.1.trans (HA.out.1.2.2.2.2.2.2.2.2.mono HX.out.1.size)
            have HF := Lib.hid hfin
            clear hfin
            have HS : Kept w11 w.heap.size lsn A n c has data w2.heap.size wh wd w10.heap.size b A6 qk2.length c6 w11.drew := ⟨HA.out.1.1, HA.out.1.2.1, HA.out.1.2.2.1, HA.out.1.2.2.2.1, HA.out.1.2.2.2.2.1, HA.out.1.2.2.2.2.2.1, HA.out.2.1.cell 0, HA.out.2.1.cell 1, (Below.refl _ w11).drew⟩
            have hlq2 : qk2.length ≤ 1000000 := by have := HN.out.2.2.2.1.2; omega
            have hg1 : ∀ W, Kept w11 w.heap.size lsn A n c has data w2.heap.size wh wd w10.heap.size b A6 qk2.length c6 W → Calls Try.prog 20 #[pVal b A6 qk2.length c6, .string key] W fun e w' => e = .returned (vVal wh wd) ∧ Kept w11 w.heap.size lsn A n c has data w2.heap.size wh wd w10.heap.size b A6 qk2.length c6 w' := by
              intro W hW
              refine (pget_any b A6 qk2.length c6 qk2 key W (HA.out.2.2.below hW.2.2.2.2.2.2.2.2) hlq2).mono ?_
              rintro e w' ⟨rfl, hb⟩
              rw [HN.out.1]
              exact ⟨rfl, hW.below hb⟩
            have hg2 : ∀ W, Kept w11 w.heap.size lsn A n c has data w2.heap.size wh wd w10.heap.size b A6 qk2.length c6 W → Calls Try.prog 20 #[pVal b A6 qk2.length c6, .string other] W fun e w' => e = .returned (vVal oh od) ∧ Kept w11 w.heap.size lsn A n c has data w2.heap.size wh wd w10.heap.size b A6 qk2.length c6 w' := by
              intro W hW
              refine (pget_any b A6 qk2.length c6 qk2 other W (HA.out.2.2.below hW.2.2.2.2.2.2.2.2) hlq2).mono ?_
              rintro e w' ⟨rfl, hb⟩
              rw [HN.out.2.1]
              exact ⟨rfl, hW.below hb⟩
            have hg3 : ∀ W, Kept w11 w.heap.size lsn A n c has data w2.heap.size wh wd w10.heap.size b A6 qk2.length c6 W → Calls Try.prog 17 #[pVal lsn A n c, .string other] W fun e w' => e = .returned (vVal oh od) ∧ Kept w11 w.heap.size lsn A n c has data w2.heap.size wh wd w10.heap.size b A6 qk2.length c6 w' := by
              intro W hW
              refine (rget10_any lsn A n c l other W (H.out.2.2.2.1.below (HF.out.trans (hW.2.2.2.2.2.2.2.2.mono HF.out.size))) (by omega)).mono ?_
              rintro e w' ⟨rfl, hb⟩
              rw [HO.out.1]
              exact ⟨rfl, hW.below hb⟩
            have hg4 : ∀ W, Kept w11 w.heap.size lsn A n c has data w2.heap.size wh wd w10.heap.size b A6 qk2.length c6 W → Calls Try.prog 21 #[pVal b A6 qk2.length c6, .string key] W fun e w' => e = .returned (.bool true) ∧ Kept w11 w.heap.size lsn A n c has data w2.heap.size wh wd w10.heap.size b A6 qk2.length c6 w' := by
              intro W hW
              refine (proom_any b A6 qk2.length c6 qk2 key W (HA.out.2.2.below hW.2.2.2.2.2.2.2.2) hlq2).mono ?_
              rintro e w' ⟨rfl, hb⟩
              rw [HN.out.2.2.1]
              exact ⟨rfl, hW.below hb⟩
            have hg5 : ∀ W, Kept w11 w.heap.size lsn A n c has data w2.heap.size wh wd w10.heap.size b A6 qk2.length c6 W → Calls Try.prog 16 #[] W fun e w' => e = .returned (.bool true) ∧ Kept w11 w.heap.size lsn A n c has data w2.heap.size wh wd w10.heap.size b A6 qk2.length c6 w' := by
              intro W hW
              refine (awake10_any W).mono ?_
              rintro e w' ⟨rfl, hb⟩
              exact ⟨rfl, hW.below hb⟩
            have HC := Lib.hid (And.intro hg1 (And.intro hg2 (And.intro hg3 (And.intro hg4 hg5))))
            clear hg1 hg2 hg3 hg4 hg5
            unfold Kept at HS HC
            go_region_held3 (fun w' => w'.cell? ⟨w.heap.size, 0, none⟩ = some (.int .i64 lsn) ∧ w'.cell? ⟨w.heap.size, 1, none⟩ = some (.slice A n c) ∧ w'.cell? ⟨w.heap.size + 1, 0, none⟩ = some (.bool has) ∧ w'.cell? ⟨w.heap.size + 1, 1, none⟩ = some (.string data) ∧ w'.cell? ⟨w2.heap.size, 0, none⟩ = some (.bool wh) ∧ w'.cell? ⟨w2.heap.size, 1, none⟩ = some (.string wd) ∧ w'.cell? ⟨w10.heap.size, 0, none⟩ = some (.int .i64 b) ∧ w'.cell? ⟨w10.heap.size, 1, none⟩ = some (.slice A6 qk2.length c6) ∧ Below w11.heap.size w11 w')
              ((exact HS))
              (first
                | (go_at_call 20; go_must (first | ((with_reducible refine (HC.out.1 _ (by assumption)).mono ?_); rintro e w12 ⟨rfl, HS⟩) | ((with_reducible refine (HC.out.2.1 _ (by assumption)).mono ?_); rintro e w12 ⟨rfl, HS⟩)))
                | (go_at_call 17; go_must ((with_reducible refine (HC.out.2.2.1 _ (by assumption)).mono ?_); rintro e w13 ⟨rfl, HS⟩))
                | (go_at_call 21; go_must ((with_reducible refine (HC.out.2.2.2.1 _ (by assumption)).mono ?_); rintro e w14 ⟨rfl, HS⟩))
                | (go_at_call 16; go_must ((with_reducible refine (HC.out.2.2.2.2 _ (by assumption)).mono ?_); rintro e w15 ⟨rfl, HS⟩)))
            all_goals
              go_wp2_with fail
              go_ret
              exact ⟨rfl, HF.out.trans (HS.2.2.2.2.2.2.2.2.mono HF.out.size)⟩

theorem own : ownKnob Try.prog.godebug = none := by kernel_rfl
theorem laidOut : laidOutB Try.prog = true := by kernel_rfl
theorem params_ok : ∀ t ∈ Try.f3.params.toList, Try.prog.readableRec t = true ∧ t < Try.prog.types.size := by
  rw [Try.params3]
  intro t ht
  have ht' : t = 24 ∨ t = 3 ∨ t = 9 ∨ t = 26 := by
    have ha : t = 24 ∨ t = 3 ∨ t = 9 ∨ t = 26 ∨ t = 9 := by simpa using ht
    rcases ha with h | h | h | h | h <;> simp [h]
  rcases ht' with rfl | rfl | rfl | rfl
  · exact ⟨(show Try.prog.readableRec 24 = true by kernel_rfl), of_decide_eq_true (show decide (24 < Try.prog.types.size) = true by kernel_rfl)⟩
  · exact ⟨(show Try.prog.readableRec 3 = true by kernel_rfl), of_decide_eq_true (show decide (3 < Try.prog.types.size) = true by kernel_rfl)⟩
  · exact ⟨(show Try.prog.readableRec 9 = true by kernel_rfl), of_decide_eq_true (show decide (9 < Try.prog.types.size) = true by kernel_rfl)⟩
  · exact ⟨(show Try.prog.readableRec 26 = true by kernel_rfl), of_decide_eq_true (show decide (26 < Try.prog.types.size) = true by kernel_rfl)⟩

set_option maxRecDepth 100000 in
theorem contract (H : Type) (enc : TypeId × Value → H) (W : World) (base : Nat) (args : Array Value) (ds gs : List (DataW H)) (before : List MemPlace)
    (hval : ∀ (j : Nat) t v, Try.f3.params[j]? = some t → args[j]? = some v → Value.okWide Try.prog W .any base t v)
    (hW : DataW.Whole enc Try.prog Try.f3.params.toList Rows.pageBackSpec.vars false W args.toList ds gs before) :
    Calls Try.prog 3 args W fun e W' => ∃ v, e = .returned v ∧ Rows.pageBackSpec.post enc Try.prog Try.f3 false true false false W args v W' := by
  have hW' := hW
  obtain ⟨p, q, hA0, hV, rfl, hfz, hnd⟩ := hW
  have hA : DataW.TrodAll enc Try.prog W 0 (fun _ => true) true Try.f3.params.toList args.toList ds p := hA0
  rw [Try.params3] at hA hval
  obtain ⟨v0, vs0, d0, ds0, p0, q0, hargs, rfl, rfl, h0, r0⟩ := trodAll_cons hA
  obtain ⟨v1, vs1, d1, ds1, p1, q1, rfl, rfl, rfl, h1, r1⟩ := trodAll_cons r0
  obtain ⟨v2, vs2, d2, ds2, p2, q2, rfl, rfl, rfl, h2, r2⟩ := trodAll_cons r1
  obtain ⟨v3, vs3, d3, ds3, p3, q3, rfl, rfl, rfl, h3, r3⟩ := trodAll_cons r2
  obtain ⟨v4, vs4, d4, ds4, p4, q4, rfl, rfl, rfl, h4, r4⟩ := trodAll_cons r3
  obtain ⟨v5, vs5, d5, ds5, p5, q5, rfl, rfl, rfl, h5, r5⟩ := trodAll_cons r4
  obtain ⟨rfl, rfl, rfl⟩ := trodAll_nil r5
  obtain rfl : args = #[v0, v1, v2, v3, v4, v5] := by cases args; simp_all
  obtain ⟨rfl, rfl⟩ := trodVars_none hV
  obtain ⟨x0, A0, n0, c0, l0, rfl, xb0, lh0, nc0, cm0⟩ := open_page (hval 0 24 v0 rfl rfl) h0
  obtain ⟨x1, rfl, rfl, rfl, w1⟩ := open_int Try.underlying3 (hval 1 3 v1 rfl rfl) h1
  have b1 := bounds_i64 w1
  obtain ⟨x2, rfl, rfl, rfl, w2⟩ := open_int Try.underlying3 (hval 2 3 v2 rfl rfl) h2
  have b2 := bounds_i64 w2
  obtain ⟨x3, rfl, rfl, rfl, sw3⟩ := open_string Try.underlying9 (hval 3 9 v3 rfl rfl) h3
  obtain ⟨x4, y4, rfl, yb4⟩ := open_value (hval 4 26 v4 rfl rfl) h4
  obtain ⟨x5, rfl, rfl, rfl, sw5⟩ := open_string Try.underlying9 (hval 5 9 v5 rfl rfl) h5
  refine (walk x0 A0 n0 c0 l0 x1 x2 x3 x4 y4 x5 W lh0 nc0 cm0 xb0.1 xb0.2 b1.1 b1.2 b2.1 b2.2 sw3 yb4 sw5).mono fun e W' ⟨he, bel⟩ => ?_
  exact ⟨_, he, post_true laidOut Try.underlying4 (show Try.f3.resultTypes = #[4] from rfl) params_ok rfl hW' rfl bel⟩

theorem laid_met (os : Os) : laidMet Try.prog Rows.pageBackRow.laid ((World.holding Try.prog os ⟨#[], #[], []⟩).forCall (fun _ _ => 0) ⟨#[], #[.agg #[.int .i64 0, .slice none 0 0], .int .i64 0, .int .i64 0, .string ⟨#[]⟩, .agg #[.bool false, .string ⟨#[]⟩], .string ⟨#[]⟩], []⟩).memory :=
  laidMet_of_run' 8 (by kernel_rfl) (by kernel_rfl)
theorem reads (os : Os) {H : Type} (enc : TypeId × Value → H) : ∃ places, DataW.whole enc Try.prog ((World.holding Try.prog os ⟨#[], #[], []⟩).forCall (fun _ _ => 0) ⟨#[], #[.agg #[.int .i64 0, .slice none 0 0], .int .i64 0, .int .i64 0, .string ⟨#[]⟩, .agg #[.bool false, .string ⟨#[]⟩], .string ⟨#[]⟩], []⟩).memory Try.f3.params.toList Rows.pageBackSpec.vars false (#[Value.agg #[.int .i64 0, .slice none 0 0], Value.int .i64 0, Value.int .i64 0, Value.string ⟨#[]⟩, Value.agg #[.bool false, .string ⟨#[]⟩], Value.string ⟨#[]⟩] : Array Value).toList 8 = some ([.agg [.lit (.int .i64 0), .nil], .lit (.int .i64 0), .lit (.int .i64 0), .lit (.string []), .agg [.lit (.bool false), .lit (.string [])], .lit (.string [])], [], places) :=
  ⟨[], by kernel_rfl⟩
set_option maxRecDepth 100000 in
theorem lifted (os : Os) (started : os.Started) (H : Type) (enc : TypeId × Value → H) (F : Stop.Interp) :
    ReturnsInHanded {} Try.checked os 3 .any ((OpenSpec.ofChange Rows.pageBackSpec).preRow enc Try.prog Try.f3 Rows.pageBackRow.domain false Rows.pageBackRow.laid) (((OpenSpec.ofChange Rows.pageBackSpec).at F).post enc Try.prog Try.f3 false true false false) := by
  obtain ⟨places, hx⟩ := reads os enc
  refine returnsInHanded_of_row (C := Try.checked) (s := OpenSpec.ofChange Rows.pageBackSpec) own started (by kernel_rfl) Try.func3
    (witness_row_at (enc := enc) (C := Try.checked) false (World.holding Try.prog os ⟨#[], #[], []⟩) #[.agg #[.int .i64 0, .slice none 0 0], .int .i64 0, .int .i64 0, .string ⟨#[]⟩, .agg #[.bool false, .string ⟨#[]⟩], .string ⟨#[]⟩] rfl (by kernel_rfl) (by kernel_rfl) (by kernel_rfl)
      (OpenSpec.preRow_of_cond 8 hx (by kernel_rfl) (fun k hk => by cases hk) (by kernel_rfl) (laid_met os))) ?_
  intro W base args ds gs before hval hW _ _ hsz hL _ _
  exact contract H enc W base args ds gs before hval hW
theorem said : Rows.PageBackSaid :=
  OpenClaim.holds_of_cond 3 Try.f3 rfl rfl rfl rfl rfl rfl rfl ⟨rfl, rfl, rfl, rfl, rfl⟩ rfl rfl rfl rfl rfl (by kernel_rfl) Try.func3 (by kernel_rfl)
    (of_decide_eq_true (by kernel_rfl)) (by unfold Func.isWrapper; first | (rw [if_pos (by decide +kernel)]; kernel_rfl) | (rw [if_neg (by decide +kernel)]; exact ⟨rfl, rfl⟩))
    (fun os started H enc _ F => by rw [OpenClaim.pre_eq_preRow]; exact lifted os started H enc F)
#print axioms said
end Go.Proofs.Ytfcmlfcpgboigaa.pageBack
