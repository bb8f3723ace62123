/- What a reader of layer 3 does. -/
import Derived.Test.YtlijfnekopjogaaNumWalks
import Derived.Test.YtlijfnekopjogaaConv
import Derived.Test.YtlijfnekopjogaaSealMath
namespace Go.Proofs.Ytlijfnekopjogaa
open Go.RowKit Mem
set_option linter.unusedVariables false
set_option linter.unusedSimpArgs false

/-- A READER IN MEMORY, its blocks in F. -/
def RdT (T : TypeId) (w : World) (q : Nat) (r : Sl.R) (F : Nat → Prop) : Prop :=
  ∃ A n c, Blk w q T #[.slice A n c, .int .i64 r.e] ∧ BS w A n r.b ∧ n ≤ c ∧ c ≤ 9223372036854775807 ∧ F q ∧ (∀ a, 0 < n → A = some a → F a.block ∧ a.block ≠ q) ∧ ∀ k, F k → k < w.heap.size
abbrev RdAt := RdT 111
/-- three numbers that a take answers -/
def NumP (w : World) (t : Nat × Nat × Nat) (e : Ending) (w' : World) : Prop := e = .returned (.tuple #[.int .i64 t.1, .int .i64 t.2.1, .int .i64 t.2.2]) ∧ w = w'
set_option maxHeartbeats 1000000 in
theorem number_any (A : Option Addr) (n cap : Nat) (bs : List UInt8) (most : Int) (w : World) (hbs : BS w A n bs) (hn : n ≤ 140737488351232) (hm : -9223372036854775808 ≤ most ∧ most ≤ 9223372036854775807) :
    Calls Try.prog 80 #[.slice A n cap, .int .i64 most] w (NumP w (Sl.number bs most)) := by
  have hb := Num.takeGo_bounds bs 0 0 (by omega)
  rw [Nat.zero_add, show Num.takeGo 0 0 bs = Num.takeShort bs from rfl] at hb
  have hts := takeShort_any A n cap bs w hbs hn
  unfold Sl.number
  generalize Num.takeShort bs = t at *
  obtain ⟨z, k, e⟩ := t
  simp only at hb ⊢
  by_cases he : e = 0
  · subst he
    rw [if_neg (by simp)]
    by_cases h1 : most < 0
    · rw [if_pos (.inl h1)]
      have hg : decide (most < 0) = true := by simpa using h1
      have H := Lib.hid (And.intro hts hb)
      clear hts hb
      go_enter Try.func80, Try.ntmps80
      go_wp2_with fail
      refine H.out.1.mono ?_
      rintro e1 w1 ⟨rfl, rfl⟩
      go_wp2
      go_ret3
      exact ⟨rfl, rfl⟩
    · have hg : decide (most < 0) = false := by simpa using h1
      obtain ⟨m, rfl⟩ := Int.eq_ofNat_of_zero_le (show 0 ≤ most by omega)
      by_cases h2 : m < z
      · rw [if_pos (.inr (by omega))]
        have hg2 : decide (m < z) = true := by simpa using h2
        have hz := hb.1
        have H := Lib.hid (And.intro hts hb)
        clear hts hb
        go_enter Try.func80, Try.ntmps80
        go_wp2_with fail
        refine H.out.1.mono ?_
        rintro e1 w1 ⟨rfl, rfl⟩
        go_wp2
        go_ret3
        exact ⟨rfl, rfl⟩
      · rw [if_neg (by omega)]
        have hg2 : decide (m < z) = false := by simpa using h2
        have hz := hb.1
        have H := Lib.hid (And.intro hts hb)
        clear hts hb
        go_enter Try.func80, Try.ntmps80
        go_wp2_with fail
        refine H.out.1.mono ?_
        rintro e1 w1 ⟨rfl, rfl⟩
        go_wp2
        go_ret3
        exact ⟨rfl, rfl⟩
  · rw [if_pos he]
    have hg : ((e : Int) != 0) = true := by rw [bne_iff_ne]; omega
    have H := Lib.hid (And.intro hts hb)
    clear hts hb he
    go_enter Try.func80, Try.ntmps80
    go_wp2_with fail
    refine H.out.1.mono ?_
    rintro e1 w1 ⟨rfl, rfl⟩
    go_wp2
    go_ret3
    exact ⟨rfl, rfl⟩
/-- what 'try' leaves: the closure's world, and the reader turned in it -/
def TryP (w : World) (q : Nat) (r : Sl.R) (x : Nat × Nat) (A : Option Addr) (n c : Nat) (K : World → Prop) (e : Ending) (w' : World) : Prop :=
  e = .returned (.tuple #[]) ∧ ∃ w1, (r.e = 0 → K w1) ∧ (r.e ≠ 0 → w1 = w) ∧ (w' = w1 ∧ r.e ≠ 0 ∨ r.e = 0 ∧ x.2 ≠ 0 ∧ w' = w1.setCell ⟨q, 1, none⟩ (.int .i64 x.2) ∨ r.e = 0 ∧ x.2 = 0 ∧ w' = w1.setCell ⟨q, 0, none⟩ (.slice (subA A c x.1) (n - x.1) (c - x.1)))
theorem enters {g : Nat} {fn : Func} (hf : Try.prog.funcs[g]? = some fn) (hn : (fn.name == "runtime.NumGoroutine") = false) (hb : fn.body.isNone = false) (a : Array Value) (w : World) : (callFunc g a).run Try.prog w = .ok (.enter g a) w := by
  have hn' : ¬ fn.name = "runtime.NumGoroutine" := by simpa using hn
  have hb' : ¬ fn.body = none := by intro e; rw [e] at hb; cases hb
  simp [callFunc, hf, hn', hb']
set_option maxHeartbeats 1000000 in
theorem try_any (q g : Nat) (caps : Array Value) (r : Sl.R) (A : Option Addr) (n c : Nat) (w : World) (x : Nat × Nat) (K : World → Prop) (hblk : Blk w q 111 #[.slice A n c, .int .i64 r.e])
    (hcf : ∀ a w, (callFunc g a).run Try.prog w = .ok (.enter g a) w) (hx : x.2 = 0 → x.1 ≤ n) (hc : c ≤ 9223372036854775807) (hnc : n ≤ c)
    (hdo : r.e = 0 → Calls Try.prog g (#[.slice A n c] ++ caps) w fun e w' => e = .returned (.tuple #[.int .i64 x.1, .int .i64 x.2]) ∧ K w' ∧ w'.heap[q]? = w.heap[q]?) :
    Calls Try.prog 78 #[.pointer (some ⟨q, 0, none⟩), .func (.func g) #[] caps] w (TryP w q r x A n c K) := by
  have c0 : w.cell? ⟨q, 0, none⟩ = some (.slice A n c) := hblk.cell 0
  have c1 : w.cell? ⟨q, 1, none⟩ = some (.int .i64 r.e) := hblk.cell 1
  by_cases he : r.e = 0
  · have hdo := hdo he
    rw [he] at c1
    have H := Lib.hid (And.intro hdo (And.intro hblk (And.intro hx he)))
    clear hdo hblk hx he
    go_enter Try.func78, Try.ntmps78
    go_wp2_with fail
    refine H.out.1.mono ?_
    rintro e w1 ⟨rfl, hK, hq⟩
    obtain ⟨k, er⟩ := x
    have c10 : w1.cell? ⟨q, 0, none⟩ = some (.slice A n c) := (World.cell?_of_block hq).trans c0
    have c11 : w1.cell? ⟨q, 1, none⟩ = some (.int .i64 0) := (World.cell?_of_block hq).trans c1
    have f10 := (H.out.2.1.keep hq).free 0
    have f11 := (H.out.2.1.keep hq).free 1
    by_cases hz : er = 0
    · subst hz
      have hkn : k ≤ n := H.out.2.2.1 rfl
      have hcut := fun W => cut_l A n c k k rfl hkn W
      have HK := Lib.hid (And.intro hK hq)
      clear hK hq
      go_wp2
      go_end0
      exact ⟨rfl, w1, fun _ => HK.out.1, fun e => absurd H.out.2.2.2 e, .inr (.inr ⟨H.out.2.2.2, rfl, rfl⟩)⟩
    · have hg : ((er : Int) != 0) = true := by rw [bne_iff_ne]; omega
      have HK := Lib.hid (And.intro hK (And.intro hq hz))
      clear hK hq hz
      go_wp2
      go_end0
      exact ⟨rfl, w1, fun _ => HK.out.1, fun e => absurd H.out.2.2.2 e, .inr (.inl ⟨H.out.2.2.2, HK.out.2.2, rfl⟩)⟩
  · have hg : ((r.e : Int) != 0) = true := by rw [bne_iff_ne]; omega
    have H := Lib.hid he
    clear hdo hblk hx he
    go_enter Try.func78, Try.ntmps78
    go_wp2
    go_end0
    exact ⟨rfl, w, fun e => absurd e H.out, fun _ => rfl, .inl ⟨rfl, H.out⟩⟩
section
variable {T : TypeId} {w w' : World} {q : Nat} {r : Sl.R} {F G : Nat → Prop}
theorem RdT.keep (h : RdT T w q r F) (hs : w.heap.size ≤ w'.heap.size) (hk : ∀ k, F k → w'.heap[k]? = w.heap[k]?) : RdT T w' q r F := by
  obtain ⟨A, n, c, h1, h2, h3, h4, h5, h6, h7⟩ := h
  refine ⟨A, n, c, h1.keep (hk q h5), ⟨h2.1, fun hn => ?_⟩, h3, h4, h5, h6, fun k x => Nat.lt_of_lt_of_le (h7 k x) hs⟩
  obtain ⟨b, off, rfl, hb, hc⟩ := h2.2 hn
  exact ⟨b, off, rfl, by omega, fun j hj => (World.cell?_of_block (hk b (h6 _ hn rfl).1)).trans (hc j hj)⟩
theorem RdT.bound (h : RdT T w q r F) : ∀ k, F k → k < w.heap.size := by obtain ⟨_, _, _, _, _, _, _, _, _, h7⟩ := h; exact h7
theorem RdT.below (h : RdT T w q r F) (hb : Below w.heap.size w w') : RdT T w' q r F := h.keep hb.size (fun k x => hb.block k (h.bound k x))
theorem RdT.fr (h : RdT T w q r F) (hf : Fr G w w') (hd : ∀ k, F k → ¬ G k) : RdT T w' q r F := h.keep hf.size (fun k x => hf.block k (h.bound k x) (hd k x))
theorem RdT.self (h : RdT T w q r F) : F q := by obtain ⟨_, _, _, _, _, _, _, h5, _⟩ := h; exact h5
/-- the reader behind 'try', in the closure's world -/
theorem RdT.tried {A : Option Addr} {n c : Nat} {x : Nat × Nat} {w1 : World} (h1 : Blk w1 q T #[.slice A n c, .int .i64 r.e]) (h2 : BS w1 A n r.b) (h3 : n ≤ c) (h4 : c ≤ 9223372036854775807) (h5 : F q) (h6 : ∀ a, 0 < n → A = some a → F a.block ∧ a.block ≠ q) (h7 : ∀ k, F k → k < w1.heap.size)
    (hx : x.2 = 0 → x.1 ≤ n)
    (ht : w' = w1 ∧ r.e ≠ 0 ∨ r.e = 0 ∧ x.2 ≠ 0 ∧ w' = w1.setCell ⟨q, 1, none⟩ (.int .i64 x.2) ∨ r.e = 0 ∧ x.2 = 0 ∧ w' = w1.setCell ⟨q, 0, none⟩ (.slice (subA A c x.1) (n - x.1) (c - x.1))) :
    RdT T w' q (Sl.try_ r x) F ∧ Fr (fun k => k = q) w1 w' ∧ w'.heap.size = w1.heap.size := by
  have hbs : ∀ (i : Nat) (u : Value) {A' : Option Addr} {m : Nat} {bs : List UInt8}, BS w1 A' m bs → (∀ a, 0 < m → A' = some a → a.block ≠ q) → BS (w1.setCell ⟨q, i, none⟩ u) A' m bs := by
    intro i u A' m bs hb ha
    refine ⟨hb.1, fun hm => ?_⟩
    obtain ⟨b, off, rfl, hlt, hc⟩ := hb.2 hm
    exact ⟨b, off, rfl, by simp [World.setCell]; exact hlt, fun j hj => (World.cell?_of_block (Below.heap_setCell w1 _ u b (ha _ hm rfl))).trans (hc j hj)⟩
  have hsz : ∀ (a : Addr) (u : Value), (w1.setCell a u).heap.size = w1.heap.size := fun a u => by simp [World.setCell]
  rcases ht with ⟨rfl, he⟩ | ⟨he, hne, rfl⟩ | ⟨he, hz, rfl⟩
  · unfold Sl.try_
    rw [if_pos he]
    exact ⟨⟨A, n, c, h1, h2, h3, h4, h5, h6, h7⟩, Fr.refl _ _, rfl⟩
  · unfold Sl.try_
    rw [if_neg (by omega), if_pos hne]
    refine ⟨⟨A, n, c, h1.put 1 _, hbs _ _ h2 (fun a hn e => (h6 a hn e).2), h3, h4, h5, h6, fun k x => by rw [hsz]; exact h7 k x⟩, (Fr.refl _ _).setCell _ _ (fun _ => rfl), hsz _ _⟩
  · unfold Sl.try_
    rw [if_neg (by omega), if_neg (by omega)]
    have hk := hx hz
    have hsub : ∀ a, 0 < n - x.1 → subA A c x.1 = some a → F a.block ∧ a.block ≠ q := by
      intro a hn e
      obtain ⟨b, off, rfl, _, _⟩ := h2.2 (by omega)
      unfold subA at e
      rw [if_neg (by omega), Option.map_some, addr_add] at e
      injection e with e
      subst e
      exact h6 ⟨b, off, none⟩ (by omega) rfl
    have hb2 := subA_bs h2 c x.1 n hk (Nat.le_refl _) h3
    rw [List.take_of_length_le (by rw [List.length_drop, h2.1]; omega)] at hb2
    refine ⟨⟨subA A c x.1, n - x.1, c - x.1, ?_, hbs _ _ hb2 (fun a hn e => (hsub a hn e).2), by omega, by omega, h5, hsub, fun k x => by rw [hsz]; exact h7 k x⟩, (Fr.refl _ _).setCell _ _ (fun _ => rfl), hsz _ _⟩
    have := h1.put 0 (.slice (subA A c x.1) (n - x.1) (c - x.1))
    rw [he] at this
    exact this
end
/-- WHAT A CALL OF A READER LEAVES: a value, and the reader. -/
def RdToT (T : TypeId) (w : World) (F : Nat → Prop) (q : Nat) (v : Value) (r : Sl.R) (e : Ending) (w' : World) : Prop := e = .returned v ∧ RdT T w' q r F ∧ Fr (fun k => k = q) w w'
abbrev RdTo := RdToT 111
/-- what a closure leaves: two numbers, and its answer in a variable -/
def CloP (w : World) (bo : Nat) (T : TypeId) (u : Value) (x : Nat × Nat) (e : Ending) (w' : World) : Prop :=
  e = .returned (.tuple #[.int .i64 x.1, .int .i64 x.2]) ∧ Fr (fun k => k = bo) w w' ∧ Blk w' bo T #[u]
theorem clo_set {w : World} {bo : Nat} {T : TypeId} {z : Value} (h : Blk w bo T #[z]) (u : Value) (x : Nat × Nat) : CloP w bo T u x (.returned (.tuple #[.int .i64 x.1, .int .i64 x.2])) (w.setCell ⟨bo, 0, none⟩ u) :=
  ⟨rfl, (Fr.refl _ _).setCell _ _ (fun _ => rfl), h.put 0 u⟩
theorem clo_not {w : World} {bo : Nat} {T : TypeId} {z : Value} (h : Blk w bo T #[z]) (x : Nat × Nat) : CloP w bo T z x (.returned (.tuple #[.int .i64 x.1, .int .i64 x.2])) w :=
  ⟨rfl, Fr.refl _ _, h⟩
set_option maxHeartbeats 1000000 in
theorem numF_any (A : Option Addr) (n cap : Nat) (bs : List UInt8) (most : Int) (bm bo : Nat) (w : World) (hbs : BS w A n bs) (hn : n ≤ 140737488351232) (hm : -9223372036854775808 ≤ most ∧ most ≤ 9223372036854775807)
    (h1 : Blk w bm 3 #[.int .i64 most]) (h2 : Blk w bo 3 #[.int .i64 0]) :
    Calls Try.prog 79 #[.slice A n cap, .pointer (some ⟨bm, 0, none⟩), .pointer (some ⟨bo, 0, none⟩)] w (CloP w bo 3 (.int .i64 (Sl.number bs most).1) (Sl.number bs most).2) := by
  have c1 : w.cell? ⟨bm, 0, none⟩ = some (.int .i64 most) := h1.cell 0
  have c2 : w.cell? ⟨bo, 0, none⟩ = some (.int .i64 0) := h2.cell 0
  have f2 := h2.free 0
  have hnum := number_any A n cap bs most w hbs hn hm
  generalize Sl.number bs most = t at *
  have H := Lib.hid (And.intro hnum h2)
  clear hbs hn hm h1 h2 hnum
  go_enter Try.func79, Try.ntmps79
  go_wp2_with fail
  refine H.out.1.mono ?_
  rintro e w1 ⟨rfl, rfl⟩
  go_wp2
  go_ret2
  exact clo_set H.out.2 _ t.2
set_option maxHeartbeats 1000000 in
theorem flagF_any (A : Option Addr) (n cap : Nat) (bs : List UInt8) (bo : Nat) (w : World) (hbs : BS w A n bs) (hn : n ≤ 140737488351232) (h2 : Blk w bo 4 #[.bool false]) :
    Calls Try.prog 111 #[.slice A n cap, .pointer (some ⟨bo, 0, none⟩)] w (CloP w bo 4 (.bool (Sl.flagF bs).1) (Sl.flagF bs).2) := by
  have c2 : w.cell? ⟨bo, 0, none⟩ = some (.bool false) := h2.cell 0
  have f2 := h2.free 0
  by_cases h0 : n = 0
  · subst h0
    have e : Sl.flagF bs = (false, 0, 10) := by unfold Sl.flagF; rw [if_pos hbs.1]
    rw [e]
    have H := Lib.hid h2
    clear hbs hn h2 e
    go_enter Try.func111, Try.ntmps111
    go_wp2
    go_ret2
    exact clo_not H.out (0, 10)
  · have e : Sl.flagF bs = if 1 < (bs.getD 0 0).toNat then (false, 0, 11) else (decide ((bs.getD 0 0).toNat = 1), 1, 0) := by unfold Sl.flagF; rw [if_neg (by rw [hbs.1]; exact h0)]
    rw [e]
    obtain ⟨b, off, rfl, hc⟩ := hbs.at_ (k := 0) (by omega)
    rw [Nat.add_zero] at hc
    generalize bs.getD 0 0 = x at *
    have hxl := x.toNat_lt
    have hg : ((n : Int) == 0) = false := by rw [beq_eq_false_iff_ne]; omega
    have hn0 : 0 < n := by omega
    have H := Lib.hid h2
    clear hbs h2 e h0
    by_cases h1 : 1 < x.toNat
    · rw [if_pos h1]
      have hg1 : decide (1 < (x.toNat : Int)) = true := by simp; omega
      go_enter Try.func111, Try.ntmps111
      go_wp2
      go_ret2
      exact clo_not H.out (0, 11)
    · rw [if_neg h1]
      have hg1 : decide (1 < (x.toNat : Int)) = false := by simp; omega
      have he : decide (x.toNat = 1) = ((x.toNat : Int) == 1) := by
        by_cases h : x.toNat = 1
        · rw [h]; rfl
        · rw [decide_eq_false h]; symm; rw [beq_eq_false_iff_ne]; omega
      rw [he]
      clear he
      generalize hb : ((x.toNat : Int) == 1) = b1
      go_enter Try.func111, Try.ntmps111
      go_wp2
      go_ret2
      exact clo_set H.out (.bool b1) (1, 0)
set_option maxHeartbeats 1000000 in
theorem textF_any (A : Option Addr) (n cap : Nat) (bs : List UInt8) (most : Int) (bm bo : Nat) (w : World) (hbs : BS w A n bs) (hn : n ≤ 140737488351232) (hnc : n ≤ cap) (hcm : cap ≤ 9223372036854775807) (hm : -9223372036854775808 ≤ most ∧ most ≤ 9223372036854775807)
    (h1 : Blk w bm 3 #[.int .i64 most]) (h2 : Blk w bo 9 #[str []]) :
    Calls Try.prog 108 #[.slice A n cap, .pointer (some ⟨bm, 0, none⟩), .pointer (some ⟨bo, 0, none⟩)] w (CloP w bo 9 (str (Sl.textF bs most).1) (Sl.textF bs most).2) := by
  have c1 : w.cell? ⟨bm, 0, none⟩ = some (.int .i64 most) := h1.cell 0
  have c2 : w.cell? ⟨bo, 0, none⟩ = some (str []) := h2.cell 0
  have f2 := h2.free 0
  have hnum := number_any A n cap bs most w hbs hn hm
  have hle := Sl.number_le bs most
  have hmo := (Sl.number_most bs most hm.2).1
  unfold Sl.textF
  generalize Sl.number bs most = t at *
  obtain ⟨z, k, e⟩ := t
  rw [hbs.1] at hle ⊢
  simp only at hle hmo ⊢
  have H := Lib.hid (And.intro hnum (And.intro h2 hbs))
  clear hnum h1 h2 hbs
  by_cases he : e = 0
  · subst he
    rw [if_neg (by simp)]
    by_cases hk : n - k < z
    · rw [if_pos hk]
      have hg : decide ((n : Int) - (k : Int) < (z : Int)) = true := by simp; omega
      go_enter Try.func108, Try.ntmps108
      go_wp2_with fail
      refine H.out.1.mono ?_
      rintro e w1 ⟨rfl, rfl⟩
      go_wp2
      go_ret2
      exact clo_not H.out.2.1 (0, 10)
    · rw [if_neg hk]
      have hg : decide ((n : Int) - (k : Int) < (z : Int)) = false := by simp; omega
      have hcut := fun W => cut_lh A n cap k (k + z) (k : Int) ((k : Int) + (z : Int)) rfl (by omega) (by omega) (by omega) W
      have hcv := conv_bytes0 (subA_bs H.out.2.2 cap k (k + z) (by omega) (by omega) hnc) (cap - k) w (fun _ => rfl)
      rw [show k + z - k = z by omega] at hcut hcv
      generalize ((bs.drop k).take z) = l at *
      unfold str at hcv c2
      go_enter Try.func108, Try.ntmps108
      go_wp2_with fail
      refine H.out.1.mono ?_
      rintro e w1 ⟨rfl, rfl⟩
      go_wp2
      go_ret2
      exact clo_set H.out.2.1 (str l) (k + z, 0)
  · rw [if_pos he]
    have hg : ((e : Int) != 0) = true := by rw [bne_iff_ne]; omega
    clear he
    go_enter Try.func108, Try.ntmps108
    go_wp2_with fail
    refine H.out.1.mono ?_
    rintro e1 w1 ⟨rfl, rfl⟩
    go_wp2
    go_ret2
    exact clo_not H.out.2.1 (0, e)
theorem endF_any (A : Option Addr) (n cap : Nat) (bs : List UInt8) (w : World) (hbs : bs.length = n) (hn : n ≤ 140737488351232) :
    Calls Try.prog 93 #[.slice A n cap] w fun e w' => e = .returned (.tuple #[.int .i64 (Sl.endF bs).1, .int .i64 (Sl.endF bs).2]) ∧ w' = w := by
  unfold Sl.endF
  rw [hbs]
  clear hbs
  by_cases h0 : 0 < n
  · rw [if_pos h0]
    go_enter Try.func93, Try.ntmps93
    go_wp2
    go_ret2
    exact ⟨rfl, rfl⟩
  · rw [if_neg h0]
    go_enter Try.func93, Try.ntmps93
    go_wp2
    go_ret2
    exact ⟨rfl, rfl⟩

end Go.Proofs.Ytlijfnekopjogaa
