/- SlotAll: joined out of SlotRead, SlotLoad, SlotSave, Ref11, SlotMath, Slot11. -/
import Derived.Test.YtfcmlfcpgboigaaPageMaths
import Derived.Test.YtfcmlfcpgboigaaSealRead2
import Derived.Test.YtfcmlfcpgboigaaMasterMath
import Derived.Test.YtfcmlfcpgboigaaPageEnc
import Derived.Test.YtfcmlfcpgboigaaPageRefDec
import Derived.Test.YtfcmlfcpgboigaaPageRefEnc
import Derived.Test.YtfcmlfcpgboigaaStampRefs
import Derived.Test.YtfcmlfcpgboigaaPutsZ
import Derived.Test.YtfcmlfcpgboigaaOwnDisk
import Derived.Test.YtfcmlfcpgboigaaPageSame
/- What package slot reads: a sector's place; the page and the turn of a payload. -/
namespace Go.Proofs.Ytfcmlfcpgboigaa
open Go.RowKit Mem
set_option maxRecDepth 100000
set_option linter.unusedVariables false
set_option linter.unusedSimpArgs false

namespace Sp
def out (base n : Int) : Prop := base < 0 ∨ 4096 < base ∨ n < 0 ∨ 4096 < n
instance (base n : Int) : Decidable (out base n) := by unfold out; exact inferInstance
def place (base n t : Int) : Int × Nat := if out base n then (0, 1) else (base + 2 * n + t % 2, 0)
def read (bs : List UInt8) : Int × List Pg.C × Int :=
  if (Rm.next ⟨bs, 0⟩ 1099511627776).e ≠ 0 then (0, [], 0)
  else if (Pg.dec (Rm.next ⟨bs, 0⟩ 1099511627776).b).2.2 ≠ 0 then (0, [], 0)
  else ((Pg.dec (Rm.next ⟨bs, 0⟩ 1099511627776).b).1, (Pg.dec (Rm.next ⟨bs, 0⟩ 1099511627776).b).2.1, Rm.one ⟨bs, 0⟩ 1099511627776)
end Sp
theorem i64_odd (t : Int) : bits .and .i64 t 1 = t % 2 := by
  show IntKind.i64.wrap ((BitVec.ofInt 64 t &&& BitVec.ofInt 64 ((1 : Nat) : Int)).toNat : Int) = _
  have h2 : (BitVec.ofInt 64 ((1 : Nat) : Int)).toNat = 1 := rfl
  rw [BitVec.toNat_and, h2, Nat.and_one_is_mod]
  have h3 : (((BitVec.ofInt 64 t).toNat % 2 : Nat) : Int) = t % 2 := by
    rw [BitVec.toNat_ofInt]
    have h4 : 0 ≤ t % ((2 ^ 64 : Nat) : Int) := Int.emod_nonneg _ (by decide)
    have h5 : t % ((2 ^ 64 : Nat) : Int) % 2 = t % 2 := Int.emod_emod_of_dvd t (by decide)
    generalize t % ((2 ^ 64 : Nat) : Int) = y at *
    omega
  rw [h3]
  exact IntWalk.i64_in _ (by omega)
theorem splace_any (base n t : Int) (w : World) :
    Calls Try.prog 91 #[.int .i64 base, .int .i64 n, .int .i64 t] w fun e w' => e = .returned (.tuple #[.int .i64 (Sp.place base n t).1, .int .i64 ((Sp.place base n t).2 : Nat)]) ∧ w' = w := by
  by_cases h : Sp.out base n
  · have hp : Sp.place base n t = (0, 1) := by unfold Sp.place; rw [if_pos h]
    rw [hp]
    unfold Sp.out at h
    by_cases h1 : base < 0
    · have d1 : decide (base < 0) = true := by simpa using h1
      go_enter Try.func91, Try.ntmps91
      go_wp2
      go_ret2
      exact ⟨rfl, rfl⟩
    · have d1 : decide (base < 0) = false := by simpa using h1
      by_cases h2 : 4096 < base
      · have d2 : decide (4096 < base) = true := by simpa using h2
        go_enter Try.func91, Try.ntmps91
        go_wp2
        go_ret2
        exact ⟨rfl, rfl⟩
      · have d2 : decide (4096 < base) = false := by simpa using h2
        by_cases h3 : n < 0
        · have d3 : decide (n < 0) = true := by simpa using h3
          go_enter Try.func91, Try.ntmps91
          go_wp2
          go_ret2
          exact ⟨rfl, rfl⟩
        · have d3 : decide (n < 0) = false := by simpa using h3
          have d4 : decide (4096 < n) = true := by simp; omega
          go_enter Try.func91, Try.ntmps91
          go_wp2
          go_ret2
          exact ⟨rfl, rfl⟩
  · have hp : Sp.place base n t = (base + 2 * n + t % 2, 0) := by unfold Sp.place; rw [if_neg h]
    rw [hp]
    unfold Sp.out at h
    have d1 : decide (base < 0) = false := by simp; omega
    have d2 : decide (4096 < base) = false := by simp; omega
    have d3 : decide (n < 0) = false := by simp; omega
    have d4 : decide (4096 < n) = false := by simp; omega
    have ho := i64_odd t
    have hm : t % 2 = 0 ∨ t % 2 = 1 := by omega
    generalize hz : t % 2 = z at *
    have w1 : IntKind.i64.wrap (2 * n) = 2 * n := IntWalk.i64_in _ (by omega)
    have w2 : IntKind.i64.wrap (base + 2 * n) = base + 2 * n := IntWalk.i64_in _ (by omega)
    have w3 : IntKind.i64.wrap (base + 2 * n + z) = base + 2 * n + z := IntWalk.i64_in _ (by omega)
    clear h hp
    go_enter Try.func91, Try.ntmps91
    go_wp2
    go_ret2
    exact ⟨rfl, rfl⟩
/-- a page of the call's own, and a number -/
def PagT (w : World) (r : Int × List Pg.C × Int) (e : Ending) (w' : World) : Prop :=
  ∃ A c, e = .returned (.tuple #[pVal r.1 A r.2.1.length c, .int .i64 r.2.2]) ∧ w'.ownsRow w.heap.size 40 3 (.slice A r.2.1.length c) r.2.1.length (rowOf cellK r.2.1) ∧ Below w.heap.size w w'
set_option maxHeartbeats 8000000 in
theorem sread_any (A : Option Addr) (n cap : Nat) (bs : List UInt8) (w : World) (hbs : BS w A n bs) (hn : n ≤ 100000) (hnc : n ≤ cap) (hcm : cap ≤ 9223372036854775807) :
    Calls Try.prog 92 #[.slice A n cap] w (PagT w (Sp.read bs)) := by
  obtain ⟨D, hD⟩ : ∃ D, Sp.read bs = D := ⟨_, rfl⟩
  rw [hD]
  have hb0 : Below w.heap.size w (w.alloc (.cells #[.int .i64 0, .slice none 0 0] 24)) := (Below.refl _ _).alloc (Nat.le_refl _) _
  have hk0 := Blk.new w 24 #[.int .i64 0, .slice none 0 0]
  have hrd := read_new A n cap bs _ (hbs.below hb0) (by omega)
  have hs0 : (w.alloc (.cells #[.int .i64 0, .slice none 0 0] 24)).heap.size = w.heap.size + 1 := by simp
  have H := Lib.hid (And.intro hb0 (And.intro hk0 (And.intro hrd (And.intro hbs.1 (And.intro hs0 hbs)))))
  clear hb0 hk0 hrd hbs hs0
  go_enter Try.func92, Try.ntmps92
  go_wp2_with fail
  generalize hW0 : w.alloc (.cells #[.int .i64 0, .slice none 0 0] 24) = w1 at *
  clear hW0
  refine H.out.2.2.1.mono ?_
  rintro e w2 ⟨q, F, rfl, hr2, hb2, hF2⟩
  have hnum := rnum_any q ⟨bs, 0⟩ F 1099511627776 w2 hr2 (by omega) (by have := H.out.2.2.2.1; simp only; omega)
  have hq2 : q < w2.heap.size := hr2.bound q hr2.self
  have hqF := hF2 q hr2.self
  have hbd := hr2.bound
  have H2 := Lib.hid (And.intro hb2 (And.intro hF2 hbd))
  clear hr2 hb2 hF2 hbd
  go_wp2_with fail
  refine hnum.mono ?_
  clear hnum
  rintro e w3 ⟨rfl, hr3, hf3⟩
  have hx0 : ((Sl.out (⟨bs, 0⟩ : Sl.R) 0 (Sl.number bs 1099511627776).1 : Nat) : Int) = Rm.one ⟨bs, 0⟩ 1099511627776 := rfl
  have hr0 : Sl.try_ (⟨bs, 0⟩ : Sl.R) (Sl.number bs 1099511627776).2 = Rm.next ⟨bs, 0⟩ 1099511627776 := rfl
  simp only [hx0, hr0] at hr3 ⊢
  have hback := Rm.next_back ⟨bs, 0⟩ 1099511627776
  unfold Sp.read at hD
  have hob2 := Rm.one_bound (⟨bs, 0⟩ : Sl.R) 1099511627776 (by omega) (by omega)
  generalize Rm.next ⟨bs, 0⟩ 1099511627776 = r at *
  generalize Rm.one ⟨bs, 0⟩ 1099511627776 = turn at *
  have hb3 : Below w1.heap.size w1 w3 := H2.out.1.trans (hf3.below H2.out.1.size (fun i hi => by omega))
  have hbw3 := H.out.1.trans (hb3.mono H.out.1.size)
  have hk3 := H.out.2.1.below hb3 H.out.2.1.lt
  have H3 := Lib.hid (And.intro hr3 (And.intro hbw3 hk3))
  have HD := Lib.hid (And.intro hD hback)
  clear hr3 hf3 hb3 hbw3 hk3 hD hback hx0 hr0
  go_wp2_with fail
  refine (rerr_any q r F w3 H3.out.1).mono ?_
  rintro e w4 ⟨rfl, rfl⟩
  have z0 : w3.cell? ⟨w.heap.size, 0, none⟩ = some (.int .i64 0) := H3.out.2.2.cell 0
  have z1 : w3.cell? ⟨w.heap.size, 1, none⟩ = some (.slice none 0 0) := H3.out.2.2.cell 1
  have g0 := H3.out.2.2.free 0
  have g1 := H3.out.2.2.free 1
  by_cases he : r.e ≠ 0
  · have e1 : ((r.e : Int) != 0) = true := by rw [bne_iff_ne]; omega
    have hDD : D = (0, [], 0) := by rw [← HD.out.1, if_pos he]
    subst hDD
    clear he
    go_wp2_with fail
    have hW := (H3.out.2.2.put 0 (.int .i64 0)).put 1 (.slice none 0 0)
    have y0 : ((w3.setCell ⟨w.heap.size, 0, none⟩ (.int .i64 0)).setCell ⟨w.heap.size, 1, none⟩ (.slice none 0 0)).cell? ⟨w.heap.size, 0, none⟩ = some (.int .i64 0) := hW.cell 0
    have y1 : ((w3.setCell ⟨w.heap.size, 0, none⟩ (.int .i64 0)).setCell ⟨w.heap.size, 1, none⟩ (.slice none 0 0)).cell? ⟨w.heap.size, 1, none⟩ = some (.slice none 0 0) := hW.cell 1
    exact bodyPost_ret (v := .tuple #[pVal 0 none 0 0, .int .i64 0]) (by simp [results, Try.results92, go_sem, y0, y1]) rfl ⟨none, 0, rfl, own_nilK _, (H3.out.2.1.setCell (by simp) _).setCell (by simp) _⟩
  · have e1 : ((r.e : Int) != 0) = false := by simp at he; simp [he]
    have he0 : r.e = 0 := by omega
    obtain ⟨_, hbk⟩ := HD.out.2 he0
    have hnl := (Sl.numB_length turn).1
    have hlen : (Sl.numB turn).length + r.b.length = n := by rw [← H.out.2.2.2.1, ← hbk, List.length_append]
    have hn0 : 0 < n := by omega
    have hbs3 := H.out.2.2.2.2.2.below H3.out.2.1
    obtain ⟨b, off, rfl, _, _⟩ := hbs3.2 hn0
    have hcut := hbs3.cut_ (n - r.b.length) n (by omega) (Nat.le_refl _)
    have hk1 : n - r.b.length = (Sl.numB turn).length := by omega
    have hdr : (bs.drop (n - r.b.length)).take (n - (n - r.b.length)) = r.b := by
      rw [hk1, ← hbk, List.drop_left, List.take_of_length_le (by omega)]
    rw [hdr] at hcut
    have hsub : IntKind.i64.wrap ((n : Int) - (r.b.length : Int)) = ((n - r.b.length : Nat) : Int) := by
      rw [← Int.ofNat_sub (by omega)]
      exact IntWalk.i64_in _ (by omega)
    have hDD : D = if (Pg.dec r.b).2.2 ≠ 0 then (0, [], 0) else ((Pg.dec r.b).1, (Pg.dec r.b).2.1, turn) := by rw [← HD.out.1, if_neg he]
    generalize hK : n - r.b.length = K at *
    have hLK : r.b.length = n - K := by omega
    have hKc : K ≤ cap := by omega
    have hKn : K ≤ n := by omega
    have hdec := pdec_any (some ⟨b, off + K, none⟩) (n - K) (cap - K) r.b w3 hcut (by omega)
    have hdec0 : cap = K → Calls Try.prog 45 #[.slice (some ⟨b, off, none⟩) (n - K) 0] w3 (PagP w3 (Pg.dec r.b)) := fun h0 => by
      have hm0 : n - K = 0 := by omega
      have hr0 : r.b = [] := List.eq_nil_of_length_eq_zero (by omega)
      rw [hm0, hr0]
      exact pdec_any _ 0 0 [] w3 (BS.empty _ _) (by omega)
    obtain ⟨E, hE⟩ : ∃ E, Pg.dec r.b = E := ⟨_, rfl⟩
    rw [hE] at hdec hDD hdec0
    have H4 := Lib.hid (And.intro hdec (And.intro hDD hdec0))
    clear hdec hDD hE hcut hdr hbs3 he hbk HD hdec0 hK hLK hk1 hlen
    have hleft := rleft_any q r F w3 H3.out.1
    generalize r.b.length = L at *
    have HL := Lib.hid hleft
    clear hleft
    go_wp2_with fail
    refine HL.out.mono ?_
    rintro e w9 ⟨rfl, rfl⟩
    go_wp2_with fail
    case' inl => refine (H4.out.2.2 (by assumption)).mono ?_
    case' inr => refine H4.out.1.mono ?_
    all_goals
      rintro e w5 ⟨A5, c5, rfl, ho5, hb5⟩
      obtain ⟨lsn5, l5, e5⟩ := E
      simp only at ho5 ⊢
      have hbz : Below w5.heap.size w5 (w5.alloc (.cells #[.int .i64 lsn5, .slice A5 l5.length c5] 24)) := (Below.refl _ _).alloc (Nat.le_refl _) _
      have hb6 := hb5.trans (hbz.mono hb5.size)
      have hk6 := H3.out.2.2.below hb5 H3.out.2.2.lt
      have hq6 := Blk.new w5 24 #[.int .i64 lsn5, .slice A5 l5.length c5]
      have hbw6 := H3.out.2.1.trans (hb5.mono H3.out.2.1.size)
      have hlt6 : w.heap.size < w5.heap.size := by have := H3.out.2.2.lt; have := hb5.size; omega
      have H6 := Lib.hid (And.intro ho5 (And.intro hk6 (And.intro hq6 hbw6)))
      have HX := Lib.hid H4.out.2.1
      clear ho5 hb5 hbz hb6 hbw6
      have z0 : w5.cell? ⟨w.heap.size, 0, none⟩ = some (.int .i64 0) := hk6.cell 0
      have z1 : w5.cell? ⟨w.heap.size, 1, none⟩ = some (.slice none 0 0) := hk6.cell 1
      have g0 := hk6.free 0
      have g1 := hk6.free 1
      have q0 : (w5.alloc (.cells #[.int .i64 lsn5, .slice A5 l5.length c5] 24)).cell? ⟨w5.heap.size, 0, none⟩ = some (.int .i64 lsn5) := hq6.cell 0
      have q1 : (w5.alloc (.cells #[.int .i64 lsn5, .slice A5 l5.length c5] 24)).cell? ⟨w5.heap.size, 1, none⟩ = some (.slice A5 l5.length c5) := hq6.cell 1
      clear hk6 hq6 H4
      by_cases h5 : e5 ≠ 0
      · have e2 : ((e5 : Int) != 0) = true := by rw [bne_iff_ne]; omega
        have hDD : D = (0, [], 0) := by rw [HX.out, if_pos h5]
        subst hDD
        clear h5
        go_wp2_with fail
        have hW := ((H6.out.2.1.put 0 (.int .i64 0)).put 1 (.slice none 0 0)).alloc (.cells #[.int .i64 lsn5, .slice A5 l5.length c5] 24)
        have hbe := ((H6.out.2.2.2.setCell (by simp) (.int .i64 0) : Below w.heap.size w (w5.setCell ⟨w.heap.size, 0, none⟩ (.int .i64 0))).setCell (by simp) (.slice none 0 0) : Below w.heap.size w ((w5.setCell ⟨w.heap.size, 0, none⟩ (.int .i64 0)).setCell ⟨w.heap.size, 1, none⟩ (.slice none 0 0)))
        have hbe2 := hbe.alloc hbe.size (.cells #[.int .i64 lsn5, .slice A5 l5.length c5] 24)
        have y0 : (((w5.setCell ⟨w.heap.size, 0, none⟩ (.int .i64 0)).setCell ⟨w.heap.size, 1, none⟩ (.slice none 0 0)).alloc (.cells #[.int .i64 lsn5, .slice A5 l5.length c5] 24)).cell? ⟨w.heap.size, 0, none⟩ = some (.int .i64 0) := hW.cell 0
        have y1 : (((w5.setCell ⟨w.heap.size, 0, none⟩ (.int .i64 0)).setCell ⟨w.heap.size, 1, none⟩ (.slice none 0 0)).alloc (.cells #[.int .i64 lsn5, .slice A5 l5.length c5] 24)).cell? ⟨w.heap.size, 1, none⟩ = some (.slice none 0 0) := hW.cell 1
        exact bodyPost_ret (v := .tuple #[pVal 0 none 0 0, .int .i64 0]) (by simp [results, Try.results92, go_sem, y0, y1]) rfl ⟨none, 0, rfl, own_nilK _, hbe2⟩
      · have e2 : ((e5 : Int) != 0) = false := by simp at h5; simp [h5]
        have hDD : D = (lsn5, l5, turn) := by rw [HX.out, if_neg h5]
        subst hDD
        clear h5
        go_wp2_with fail
        have hW := ((H6.out.2.1.put 0 (.int .i64 lsn5)).put 1 (.slice A5 l5.length c5)).alloc (.cells #[.int .i64 lsn5, .slice A5 l5.length c5] 24)
        have hbe := ((H6.out.2.2.2.setCell (by simp) (.int .i64 lsn5) : Below w.heap.size w (w5.setCell ⟨w.heap.size, 0, none⟩ (.int .i64 lsn5))).setCell (by simp) (.slice A5 l5.length c5) : Below w.heap.size w ((w5.setCell ⟨w.heap.size, 0, none⟩ (.int .i64 lsn5)).setCell ⟨w.heap.size, 1, none⟩ (.slice A5 l5.length c5)))
        have hbe2 := hbe.alloc hbe.size (.cells #[.int .i64 lsn5, .slice A5 l5.length c5] 24)
        have y0 : (((w5.setCell ⟨w.heap.size, 0, none⟩ (.int .i64 lsn5)).setCell ⟨w.heap.size, 1, none⟩ (.slice A5 l5.length c5)).alloc (.cells #[.int .i64 lsn5, .slice A5 l5.length c5] 24)).cell? ⟨w.heap.size, 0, none⟩ = some (.int .i64 lsn5) := hW.cell 0
        have y1 : (((w5.setCell ⟨w.heap.size, 0, none⟩ (.int .i64 lsn5)).setCell ⟨w.heap.size, 1, none⟩ (.slice A5 l5.length c5)).alloc (.cells #[.int .i64 lsn5, .slice A5 l5.length c5] 24)).cell? ⟨w.heap.size, 1, none⟩ = some (.slice A5 l5.length c5) := hW.cell 1
        refine bodyPost_ret (v := .tuple #[pVal lsn5 A5 l5.length c5, .int .i64 turn]) (by simp [results, Try.results92, go_sem, y0, y1]) rfl ⟨A5, c5, rfl, ?_, hbe2⟩
        exact own_base (own_keep H6.out.1 (fun k e => by
          have hk1 := own_ge H6.out.1 e
          have hk2 := H3.out.2.2.lt
          have hk3 := own_lt H6.out.1 e
          rw [Below.heap_alloc _ _ k (by simpa [World.setCell] using hk3), Below.heap_setCell _ _ _ k (by simp only; omega), Below.heap_setCell _ _ _ k (by simp only; omega)])) H3.out.2.1.size
end Go.Proofs.Ytfcmlfcpgboigaa

/- What package slot loads: Load. -/
namespace Go.Proofs.Ytfcmlfcpgboigaa
open Go.RowKit Mem
set_option maxRecDepth 100000
set_option linter.unusedVariables false
set_option linter.unusedSimpArgs false

namespace Sp
abbrev B : Type := Int × List Pg.C × Int
def none_ : B := (0, [], 0)
def take (bs : List UInt8) (k : Int) (best : B) : B := if best.2.2 < (read bs).2.2 ∧ (read bs).2.2 % 2 = k then read bs else best
/-- what a sector's bytes do to the best page so far -/
def look (g : List UInt8 × Nat) (k : Int) (best : B) : Nat × B := if g.2 = 50 then (0, best) else if g.2 = 0 then (0, take g.1 k best) else (g.2, best)
def bestTo (at_ : Int) (g : Int → List UInt8 × Nat) : Nat → B
  | 0 => none_
  | k + 1 => (look (g (at_ + k)) k (bestTo at_ g k)).2
def load (base n : Int) (g : Int → List UInt8 × Nat) : B × Nat :=
  if out base n then (none_, 1)
  else if (look (g (base + 2 * n)) 0 none_).1 ≠ 0 then (none_, (look (g (base + 2 * n)) 0 none_).1)
  else if (look (g (base + 2 * n + 1)) 1 (look (g (base + 2 * n)) 0 none_).2).1 ≠ 0 then (none_, (look (g (base + 2 * n + 1)) 1 (look (g (base + 2 * n)) 0 none_).2).1)
  else ((look (g (base + 2 * n + 1)) 1 (look (g (base + 2 * n)) 0 none_).2).2, 0)
end Sp
/-- a page of the call's own, its turn, and an error -/
def PagTE (w : World) (r : Sp.B × Nat) (e : Ending) (w' : World) : Prop :=
  ∃ A c, e = .returned (.tuple #[pVal r.1.1 A r.1.2.1.length c, .int .i64 r.1.2.2, .int .i64 (r.2 : Nat)]) ∧ w'.ownsRow w.heap.size 40 3 (.slice A r.1.2.1.length c) r.1.2.1.length (rowOf cellK r.1.2.1) ∧ Below w.heap.size w w'
abbrev pCells (lsn : Int) (A : Option Addr) (n c : Nat) : Array Value := #[.int .i64 lsn, .slice A n c]
/-- the best page so far: its variable, its row, the answer's variable -/
structure SLd (w0 : World) (b : Sp.B) (A : Option Addr) (c : Nat) (w : World) : Prop where
  res : Blk w w0.heap.size 24 (pCells 0 none 0 0)
  best : Blk w (w0.heap.size + 1) 24 (pCells b.1 A b.2.1.length c)
  row : w.ownsRow (w0.heap.size + 2) 40 3 (.slice A b.2.1.length c) b.2.1.length (rowOf cellK b.2.1)
  below : Below w0.heap.size w0 w
theorem SLd.grow {w0 w w' : World} {b : Sp.B} {A : Option Addr} {c : Nat} (h : SLd w0 b A c w) (hb : Below w.heap.size w w') : SLd w0 b A c w' :=
  ⟨h.res.below hb h.res.lt, h.best.below hb h.best.lt, own_below h.row hb, h.below.trans (hb.mono h.below.size)⟩
set_option maxHeartbeats 8000000 in
theorem sload_any (X : Option Addr) (base n : Int) (g : Int → List UInt8 × Nat) (w : World) (hg : ∀ k W, Below w.heap.size w W → Calls Try.prog 65 #[.pointer X, .int .i64 k] W (BytesE W (g k))) (hgl : ∀ k, (g k).1.length ≤ 1000) :
    Calls Try.prog 49 #[.pointer X, .int .i64 base, .int .i64 n] w (PagTE w (Sp.load base n g)) := by
  obtain ⟨R, hR⟩ : ∃ R, Sp.load base n g = R := ⟨_, rfl⟩
  rw [hR]
  have hb1 : Below w.heap.size w (w.alloc (.cells (pCells 0 none 0 0) 24)) := (Below.refl _ _).alloc (Nat.le_refl _) _
  have hb2 : Below w.heap.size w ((w.alloc (.cells (pCells 0 none 0 0) 24)).alloc (.cells (pCells 0 none 0 0) 24)) := hb1.alloc (by simp) _
  have k1 : Blk ((w.alloc (.cells (pCells 0 none 0 0) 24)).alloc (.cells (pCells 0 none 0 0) 24)) w.heap.size 24 (pCells 0 none 0 0) := (Blk.new w 24 _).alloc _
  have k2 : Blk ((w.alloc (.cells (pCells 0 none 0 0) 24)).alloc (.cells (pCells 0 none 0 0) 24)) (w.heap.size + 1) 24 (pCells 0 none 0 0) := by
    have := Blk.new (w.alloc (.cells (pCells 0 none 0 0) 24)) 24 (pCells 0 none 0 0)
    simpa using this
  have hst : SLd w Sp.none_ none 0 ((w.alloc (.cells (pCells 0 none 0 0) 24)).alloc (.cells (pCells 0 none 0 0) 24)) := ⟨k1, k2, own_nilK _, hb2⟩
  have hpl := fun t W => splace_any base n t W
  have H := Lib.hid (And.intro hg (And.intro hgl (And.intro hst (And.intro hpl hR))))
  clear hb1 hb2 k1 k2 hst hg hgl hpl hR
  go_enter Try.func49, Try.ntmps49
  go_wp2_with fail
  generalize (w.alloc (.cells (pCells 0 none 0 0) 24)).alloc (.cells (pCells 0 none 0 0) 24) = w2 at *
  go_loopw [10, 17] (fun a i wr => ∃ (k : Nat) (b : Sp.B) (A : Option Addr) (c : Nat), k ≤ 2 ∧ a = .int .i64 b.2.2 ∧ i = .int .i64 k ∧ (0 < k → ¬ Sp.out base n) ∧ Sp.bestTo (base + 2 * n) g k = b ∧ (∀ j : Nat, j < k → (Sp.look (g (base + 2 * n + j)) j (Sp.bestTo (base + 2 * n) g j)).1 = 0) ∧ SLd w b A c wr) (fun _ i _ => 2 - (intOf i).toNat)
  case atStart => exact ⟨0, _, none, 0, by omega, rfl, rfl, fun h => absurd h (by omega), rfl, fun j hj => absurd hj (by omega), H.out.2.2.1⟩
  case round =>
    obtain ⟨k, b, A, c, hk, rfl, rfl, hout, hbt, hz, hst⟩ := hrel
    by_cases hlt : k < 2
    · have hkk : (k : Int) < 2 := by omega
      have HS := Lib.hid (And.intro hout (And.intro hbt (And.intro hz hst)))
      clear hout hbt hz hst
      go_wp2_with fail
      refine (H.out.2.2.2.1 (k : Int) wr).mono ?_
      rintro e w3 ⟨rfl, hw3⟩
      obtain rfl : wr = w3 := hw3.symm
      have z0 : wr.cell? ⟨w.heap.size, 0, none⟩ = some (.int .i64 0) := HS.out.2.2.2.res.cell 0
      have z1 : wr.cell? ⟨w.heap.size, 1, none⟩ = some (.slice none 0 0) := HS.out.2.2.2.res.cell 1
      have g0 := HS.out.2.2.2.res.free 0
      have g1 := HS.out.2.2.2.res.free 1
      by_cases ho : Sp.out base n
      · have hp : Sp.place base n k = (0, 1) := by unfold Sp.place; rw [if_pos ho]
        have hRR : R = (Sp.none_, 1) := by rw [← H.out.2.2.2.2]; unfold Sp.load; rw [if_pos ho]
        rw [hp]
        subst hRR
        clear hp ho
        go_wp2_with fail
        have hW := (HS.out.2.2.2.res.put 0 (.int .i64 0)).put 1 (.slice none 0 0)
        have y0 : ((wr.setCell ⟨w.heap.size, 0, none⟩ (.int .i64 0)).setCell ⟨w.heap.size, 1, none⟩ (.slice none 0 0)).cell? ⟨w.heap.size, 0, none⟩ = some (.int .i64 0) := hW.cell 0
        have y1 : ((wr.setCell ⟨w.heap.size, 0, none⟩ (.int .i64 0)).setCell ⟨w.heap.size, 1, none⟩ (.slice none 0 0)).cell? ⟨w.heap.size, 1, none⟩ = some (.slice none 0 0) := hW.cell 1
        exact bodyPost_ret (v := .tuple #[pVal 0 none 0 0, .int .i64 0, .int .i64 1]) (by simp [results, Try.results49, go_sem, y0, y1]) rfl ⟨none, 0, rfl, own_nilK _, (HS.out.2.2.2.below.setCell (by simp) _).setCell (by simp) _⟩
      · have hp : Sp.place base n k = (base + 2 * n + (k : Int), 0) := by
          unfold Sp.place
          rw [if_neg ho, show (k : Int) % 2 = (k : Int) by omega]
        rw [hp]
        have hget := H.out.1 (base + 2 * n + (k : Int)) wr HS.out.2.2.2.below
        have hgl := H.out.2.1 (base + 2 * n + (k : Int))
        have hnext : Sp.bestTo (base + 2 * n) g (k + 1) = (Sp.look (g (base + 2 * n + (k : Int))) k b).2 := by rw [← HS.out.2.1]; rfl
        have hz2 : (Sp.look (g (base + 2 * n + (k : Int))) k b).1 = 0 → ∀ j : Nat, j < k + 1 → (Sp.look (g (base + 2 * n + j)) j (Sp.bestTo (base + 2 * n) g j)).1 = 0 := fun h j hj => by
          rcases Nat.lt_or_ge j k with h1 | h1
          · exact HS.out.2.2.1 j h1
          · obtain rfl : j = k := by omega
            rw [HS.out.2.1]; exact h
        have hcode : (Sp.look (g (base + 2 * n + (k : Int))) k b).1 ≠ 0 → R = (Sp.none_, (Sp.look (g (base + 2 * n + (k : Int))) k b).1) := by
          intro hne
          rw [← H.out.2.2.2.2]
          unfold Sp.load
          rw [if_neg ho]
          have hb := HS.out.2.1
          have hzz := HS.out.2.2.1
          have hk2 : k = 0 ∨ k = 1 := by omega
          rcases hk2 with rfl | rfl
          · have hb0 : b = Sp.none_ := hb.symm
            subst hb0
            have e0 : base + 2 * n + ((0 : Nat) : Int) = base + 2 * n := by omega
            rw [e0] at hne ⊢
            have hne' : (Sp.look (g (base + 2 * n)) 0 Sp.none_).1 ≠ 0 := hne
            rw [if_pos hne']; rfl
          · have hb1 : (Sp.look (g (base + 2 * n)) 0 Sp.none_).2 = b := by
              rw [← hb]
              show _ = (Sp.look (g (base + 2 * n + ((0 : Nat) : Int))) ((0 : Nat) : Int) Sp.none_).2
              rw [show base + 2 * n + ((0 : Nat) : Int) = base + 2 * n by omega]; rfl
            have hz0 : (Sp.look (g (base + 2 * n)) 0 Sp.none_).1 = 0 := by
              have := hzz 0 (by omega)
              rw [show base + 2 * n + ((0 : Nat) : Int) = base + 2 * n by omega] at this
              exact this
            have hne' : (Sp.look (g (base + 2 * n + 1)) 1 b).1 ≠ 0 := hne
            rw [if_neg (by rw [hz0]; simp), hb1, if_pos hne']; rfl
        generalize base + 2 * n + (k : Int) = at_ at *
        obtain ⟨G, hG⟩ : ∃ G, g at_ = G := ⟨_, rfl⟩
        rw [hG] at hget hgl hnext hz2 hcode
        obtain ⟨gs, ge⟩ := G
        simp only at hgl
        have HN := Lib.hid (And.intro hget (And.intro hnext (And.intro hz2 (And.intro hcode ho))))
        clear hget hnext hz2 hcode hG hp ho
        go_wp2_with fail
        refine HN.out.1.mono ?_
        rintro e w4 ⟨B4, c4, rfl, hB4, h5, h6, hb4⟩
        simp only at hB4 h5 ⊢
        have hst4 := HS.out.2.2.2.grow hb4
        have z0 : w4.cell? ⟨w.heap.size, 0, none⟩ = some (.int .i64 0) := hst4.res.cell 0
        have z1 : w4.cell? ⟨w.heap.size, 1, none⟩ = some (.slice none 0 0) := hst4.res.cell 1
        have g0 := hst4.res.free 0
        have g1 := hst4.res.free 1
        have H4 := Lib.hid (And.intro hB4 hst4)
        clear hB4 hst4 hb4
        by_cases h50 : ge = 50
        · subst h50
          have hlk : Sp.look (gs, 50) k b = (0, b) := rfl
          have HK := Lib.hid hlk
          clear hlk
          go_wp2_with fail
          refine ⟨⟨k + 1, b, A, c, by omega, rfl, by go_num, fun _ => HN.out.2.2.2.2, ?_, HN.out.2.2.1 (by rw [HK.out]), H4.out.2⟩, by simp [intOf]; omega⟩
          rw [HN.out.2.1, HK.out]
        · have e50 : ((ge : Int) == 50) = false := by rw [beq_eq_false_iff_ne]; omega
          by_cases h0 : ge = 0
          · subst h0
            have hlk : Sp.look (gs, 0) k b = (0, Sp.take gs k b) := rfl
            unfold Sp.take at hlk
            have hrd := sread_any B4 gs.length c4 gs w4 H4.out.1 (by omega) h5 h6
            generalize Sp.read gs = D at *
            obtain ⟨lsn5, l5, turn5⟩ := D
            simp only at hlk
            have HK := Lib.hid (And.intro hlk hrd)
            clear hlk hrd h50
            go_wp2_with fail
            refine HK.out.2.mono ?_
            rintro e w5 ⟨A5, c5, rfl, ho5, hb5⟩
            simp only at ho5 ⊢
            have hst5 := H4.out.2.grow hb5
            have p0 : w5.cell? ⟨w.heap.size + 1, 0, none⟩ = some (.int .i64 b.1) := hst5.best.cell 0
            have p1 : w5.cell? ⟨w.heap.size + 1, 1, none⟩ = some (.slice A b.2.1.length c) := hst5.best.cell 1
            have f0 := hst5.best.free 0
            have f1 := hst5.best.free 1
            have hlt5 : w.heap.size + 1 < w5.heap.size := hst5.best.lt
            have hq := Blk.new w5 24 (pCells lsn5 A5 l5.length c5)
            have q0 : (w5.alloc (.cells #[.int .i64 lsn5, .slice A5 l5.length c5] 24)).cell? ⟨w5.heap.size, 0, none⟩ = some (.int .i64 lsn5) := hq.cell 0
            have q1 : (w5.alloc (.cells #[.int .i64 lsn5, .slice A5 l5.length c5] 24)).cell? ⟨w5.heap.size, 1, none⟩ = some (.slice A5 l5.length c5) := hq.cell 1
            have hs4 : w.heap.size + 2 ≤ w4.heap.size := H4.out.2.best.lt
            have H5 := Lib.hid (And.intro ho5 hst5)
            have hod := i64_odd turn5
            clear ho5 hb5 hst5 hq z0 z1 g0 g1
            by_cases t1 : b.2.2 < turn5
            · have d1 : decide (b.2.2 < turn5) = true := by simpa using t1
              by_cases t2 : turn5 % 2 = (k : Int)
              · have d2 : (turn5 % 2 == (k : Int)) = true := by simpa using t2
                have HT := Lib.hid (And.intro t1 t2)
                clear t1 t2
                go_wp2_with fail
                have hlk := HK.out.1
                rw [if_pos ⟨HT.out.1, HT.out.2⟩] at hlk
                refine ⟨⟨k + 1, (lsn5, l5, turn5), A5, c5, by omega, rfl, by go_num, fun _ => HN.out.2.2.2.2, ?_, HN.out.2.2.1 (by rw [hlk]), ?_⟩, by simp [intOf]; omega⟩
                · rw [HN.out.2.1, hlk]
                · have hW := ((H5.out.2.best.put 0 (.int .i64 lsn5)).put 1 (.slice A5 l5.length c5)).alloc (.cells #[.int .i64 lsn5, .slice A5 l5.length c5] 24)
                  have hbe := ((H5.out.2.below.setCell (by simp) (.int .i64 lsn5) : Below w.heap.size w (w5.setCell ⟨w.heap.size + 1, 0, none⟩ (.int .i64 lsn5))).setCell (by simp) (.slice A5 l5.length c5) : Below w.heap.size w ((w5.setCell ⟨w.heap.size + 1, 0, none⟩ (.int .i64 lsn5)).setCell ⟨w.heap.size + 1, 1, none⟩ (.slice A5 l5.length c5)))
                  refine ⟨((H5.out.2.res.far (by simp) _).far (by simp) _).alloc _, hW, ?_, hbe.alloc hbe.size _⟩
                  exact own_base (own_keep H5.out.1 (fun j e => by
                    have hk1 := own_ge H5.out.1 e
                    have hk3 := own_lt H5.out.1 e
                    rw [Below.heap_alloc _ _ j (by simpa [World.setCell] using hk3), Below.heap_setCell _ _ _ j (by simp only; omega), Below.heap_setCell _ _ _ j (by simp only; omega)])) hs4
              · have d2 : (turn5 % 2 == (k : Int)) = false := by simpa using t2
                have HT := Lib.hid t2
                clear t1 t2
                go_wp2_with fail
                have hlk := HK.out.1
                rw [if_neg (fun h => HT.out h.2)] at hlk
                refine ⟨⟨k + 1, b, A, c, by omega, rfl, by go_num, fun _ => HN.out.2.2.2.2, ?_, HN.out.2.2.1 (by rw [hlk]), H5.out.2.grow ((Below.refl _ _).alloc (Nat.le_refl _) _)⟩, by simp [intOf]; omega⟩
                rw [HN.out.2.1, hlk]
            · have d1 : decide (b.2.2 < turn5) = false := by simpa using t1
              have HT := Lib.hid t1
              clear t1
              go_wp2_with fail
              have hlk := HK.out.1
              rw [if_neg (fun h => HT.out h.1)] at hlk
              refine ⟨⟨k + 1, b, A, c, by omega, rfl, by go_num, fun _ => HN.out.2.2.2.2, ?_, HN.out.2.2.1 (by rw [hlk]), H5.out.2.grow ((Below.refl _ _).alloc (Nat.le_refl _) _)⟩, by simp [intOf]; omega⟩
              rw [HN.out.2.1, hlk]
          · have e0 : ((ge : Int) == 0) = false := by rw [beq_eq_false_iff_ne]; omega
            have hlk : Sp.look (gs, ge) k b = (ge, b) := by unfold Sp.look; rw [if_neg h50, if_neg h0]
            have hRR := HN.out.2.2.2.1 (by rw [hlk]; exact h0)
            rw [hlk] at hRR
            subst hRR
            clear h50 h0 hlk
            go_wp2_with fail
            have hW := (H4.out.2.res.put 0 (.int .i64 0)).put 1 (.slice none 0 0)
            have y0 : ((w4.setCell ⟨w.heap.size, 0, none⟩ (.int .i64 0)).setCell ⟨w.heap.size, 1, none⟩ (.slice none 0 0)).cell? ⟨w.heap.size, 0, none⟩ = some (.int .i64 0) := hW.cell 0
            have y1 : ((w4.setCell ⟨w.heap.size, 0, none⟩ (.int .i64 0)).setCell ⟨w.heap.size, 1, none⟩ (.slice none 0 0)).cell? ⟨w.heap.size, 1, none⟩ = some (.slice none 0 0) := hW.cell 1
            exact bodyPost_ret (v := .tuple #[pVal 0 none 0 0, .int .i64 0, .int .i64 ge]) (by simp [results, Try.results49, go_sem, y0, y1]) rfl ⟨none, 0, rfl, own_nilK _, (H4.out.2.below.setCell (by simp) _).setCell (by simp) _⟩
    · obtain rfl : k = 2 := by omega
      have hRR : R = (b, 0) := by
        rw [← H.out.2.2.2.2]
        have ho := hout (by omega)
        have e0 : base + 2 * n + ((0 : Nat) : Int) = base + 2 * n := by omega
        have h0 : (Sp.look (g (base + 2 * n)) 0 Sp.none_).1 = 0 := by
          have := hz 0 (by omega)
          rw [e0] at this
          exact this
        have hb1 : Sp.bestTo (base + 2 * n) g 1 = (Sp.look (g (base + 2 * n)) 0 Sp.none_).2 := by
          show (Sp.look (g (base + 2 * n + ((0 : Nat) : Int))) ((0 : Nat) : Int) Sp.none_).2 = _
          rw [e0]; rfl
        have h1 : (Sp.look (g (base + 2 * n + 1)) 1 (Sp.look (g (base + 2 * n)) 0 Sp.none_).2).1 = 0 := by
          have := hz 1 (by omega)
          rw [hb1] at this
          exact this
        unfold Sp.load
        rw [if_neg ho, if_neg (by rw [h0]; simp), if_neg (by rw [h1]; simp), ← hbt]
        show (_, 0) = ((Sp.look (g (base + 2 * n + ((1 : Nat) : Int))) ((1 : Nat) : Int) (Sp.bestTo (base + 2 * n) g 1)).2, 0)
        rw [hb1]; rfl
      subst hRR
      obtain ⟨lsn, l, last⟩ := b
      have z0 : wr.cell? ⟨w.heap.size, 0, none⟩ = some (.int .i64 0) := hst.res.cell 0
      have z1 : wr.cell? ⟨w.heap.size, 1, none⟩ = some (.slice none 0 0) := hst.res.cell 1
      have g0 := hst.res.free 0
      have g1 := hst.res.free 1
      have p0 : wr.cell? ⟨w.heap.size + 1, 0, none⟩ = some (.int .i64 lsn) := hst.best.cell 0
      have p1 : wr.cell? ⟨w.heap.size + 1, 1, none⟩ = some (.slice A l.length c) := hst.best.cell 1
      have HS := Lib.hid hst
      clear hst hout hbt hz
      go_wp2_with fail
      have hW := (HS.out.res.put 0 (.int .i64 lsn)).put 1 (.slice A l.length c)
      have y0 : ((wr.setCell ⟨w.heap.size, 0, none⟩ (.int .i64 lsn)).setCell ⟨w.heap.size, 1, none⟩ (.slice A l.length c)).cell? ⟨w.heap.size, 0, none⟩ = some (.int .i64 lsn) := hW.cell 0
      have y1 : ((wr.setCell ⟨w.heap.size, 0, none⟩ (.int .i64 lsn)).setCell ⟨w.heap.size, 1, none⟩ (.slice A l.length c)).cell? ⟨w.heap.size, 1, none⟩ = some (.slice A l.length c) := hW.cell 1
      refine bodyPost_ret (v := .tuple #[pVal lsn A l.length c, .int .i64 last, .int .i64 0]) (by simp [results, Try.results49, go_sem, y0, y1]) rfl ⟨A, c, rfl, ?_, (HS.out.below.setCell (by simp) _).setCell (by simp) _⟩
      exact own_base (own_keep HS.out.row (fun j e => by
        have hk1 := own_ge HS.out.row e
        rw [Below.heap_setCell _ _ _ j (by simp only; omega), Below.heap_setCell _ _ _ j (by simp only; omega)])) (by omega)
end Go.Proofs.Ytfcmlfcpgboigaa

/- What package slot saves: Save. -/
namespace Go.Proofs.Ytfcmlfcpgboigaa
open Go.RowKit Mem
set_option maxRecDepth 100000
set_option linter.unusedVariables false
set_option linter.unusedSimpArgs false

namespace Sp
/-- a save that is refused -/
def bad (base n turn lsn : Int) (l : List Pg.C) : Prop := out base n ∨ Pg.may lsn l = false ∨ turn < 1 ∨ 1099511627776 < turn
instance (base n turn lsn : Int) (l : List Pg.C) : Decidable (bad base n turn lsn l) := by unfold bad; exact inferInstance
def body (turn lsn : Int) (l : List Pg.C) : List UInt8 := Sl.numB turn ++ Pg.body lsn l
theorem body_le {turn lsn : Int} {l : List Pg.C} (h : Pg.may lsn l = true) : (body turn lsn l).length ≤ 222 := by
  have := Pg.body_small h
  have := (Sl.numB_length turn).2
  unfold body
  rw [List.length_append]
  omega
def at_ (base n turn : Int) : Int := base + 2 * n + turn % 2
def save (d : Dk.D) (base n turn lsn : Int) (l : List Pg.C) : Nat × Dk.D :=
  if bad base n turn lsn l then (1, d)
  else if (Dk.put2 d (at_ base n turn) (body turn lsn l)).1 ≠ 0 then Dk.put2 d (at_ base n turn) (body turn lsn l)
  else Dk.sync (Dk.put2 d (at_ base n turn) (body turn lsn l)).2
end Sp
/-- what a save comes to, the disk left open: its Put, its Sync -/
def SaveP (w : World) (bad : Prop) (pe : Nat) (Q : World → World → Prop) (R : World → World → Ending → World → Prop) (e : Ending) (w' : World) : Prop :=
  ∃ W, Below w.heap.size w W ∧ (bad ∧ e = .returned (.int .i64 1) ∧ w' = W ∨ ¬ bad ∧ pe ≠ 0 ∧ e = .returned (.int .i64 pe) ∧ Q W w' ∨ ¬ bad ∧ pe = 0 ∧ ∃ W2, Q W W2 ∧ R W W2 e w')
set_option maxHeartbeats 8000000 in
theorem ssave_gen (X : Option Addr) (base n turn lsn : Int) (A : Option Addr) (m c : Nat) (l : List Pg.C) (w : World) (pe : Nat) (Q : World → World → Prop) (R : World → World → Ending → World → Prop)
    (hl : ST cellK w A m l) (hm : m ≤ 1000000) (hlsn : -9223372036854775808 ≤ lsn ∧ lsn ≤ 9223372036854775807)
    (hput : ¬ Sp.bad base n turn lsn l → ∀ W B len cap, Below w.heap.size w W → BS W B len (Sp.body turn lsn l) → Calls Try.prog 72 #[.pointer X, .int .i64 (Sp.at_ base n turn), .slice B len cap] W fun e w' => e = .returned (.int .i64 pe) ∧ Q W w')
    (hsync : pe = 0 → ∀ W W2, Below w.heap.size w W → Q W W2 → Calls Try.prog 31 #[.pointer X] W2 (R W W2))
    (hR : ∀ W W2 e w', R W W2 e w' → ∃ x : Int, e = .returned (.int .i64 x)) :
    Calls Try.prog 48 #[.pointer X, .int .i64 base, .int .i64 n, .int .i64 turn, pVal lsn A m c] w (SaveP w (Sp.bad base n turn lsn l) pe Q R) := by
  have hb0 : Below w.heap.size w (w.alloc (.cells (pCells lsn A m c) 24)) := (Below.refl _ _).alloc (Nat.le_refl _) _
  have hk0 := Blk.new w 24 (pCells lsn A m c)
  have hpl := fun W => splace_any base n turn W
  have hpen := penc_any lsn A m c l (w.alloc (.cells (pCells lsn A m c) 24)) (hl.below hb0) hm hlsn
  have hcases := Pg.enc_cases lsn l
  have H := Lib.hid (And.intro hb0 (And.intro hk0 (And.intro hpl (And.intro hpen (And.intro hput (And.intro hsync hR))))))
  clear hb0 hk0 hpl hpen hput hsync hR hl
  by_cases ho : Sp.out base n
  · have hp : Sp.place base n turn = (0, 1) := by unfold Sp.place; rw [if_pos ho]
    have hbad : Sp.bad base n turn lsn l := .inl ho
    have HB := Lib.hid (And.intro hp hbad)
    clear hp hbad ho hcases
    go_enter Try.func48, Try.ntmps48
    go_wp2_with fail
    generalize hW0 : w.alloc (.cells (pCells lsn A m c) 24) = W0 at *
    clear hW0
    refine (H.out.2.2.1 W0).mono ?_
    rw [HB.out.1]
    rintro e w1 ⟨rfl, hw1⟩
    obtain rfl : W0 = w1 := hw1.symm
    have c0 : W0.cell? ⟨w.heap.size, 0, none⟩ = some (.int .i64 lsn) := H.out.2.1.cell 0
    have c1 : W0.cell? ⟨w.heap.size, 1, none⟩ = some (.slice A m c) := H.out.2.1.cell 1
    go_wp2_with fail
    refine H.out.2.2.2.1.mono ?_
    rintro e w2 ⟨v2, rfl, ho2, hb2⟩
    have H2 := Lib.hid (H.out.1.trans (hb2.mono H.out.1.size))
    clear ho2 hb2 c0 c1
    go_wp2_with fail
    go_ret
    exact ⟨w2, H2.out, .inl ⟨HB.out.2, rfl, rfl⟩⟩
  · have hp : Sp.place base n turn = (Sp.at_ base n turn, 0) := by unfold Sp.place Sp.at_; rw [if_neg ho]
    rcases hcases with ⟨h1, h2⟩ | ⟨h1, h2, h3, h4⟩
    · have hbad : Sp.bad base n turn lsn l := .inr (.inl h1)
      have HB := Lib.hid (And.intro hp (And.intro hbad h2))
      clear hp hbad ho h1 h2
      generalize Sp.at_ base n turn = at_ at *
      go_enter Try.func48, Try.ntmps48
      go_wp2_with fail
      generalize hW0 : w.alloc (.cells (pCells lsn A m c) 24) = W0 at *
      clear hW0
      refine (H.out.2.2.1 W0).mono ?_
      rw [HB.out.1]
      rintro e w1 ⟨rfl, hw1⟩
      obtain rfl : W0 = w1 := hw1.symm
      have c0 : W0.cell? ⟨w.heap.size, 0, none⟩ = some (.int .i64 lsn) := H.out.2.1.cell 0
      have c1 : W0.cell? ⟨w.heap.size, 1, none⟩ = some (.slice A m c) := H.out.2.1.cell 1
      go_wp2_with fail
      refine H.out.2.2.2.1.mono ?_
      rw [HB.out.2.2]
      rintro e w2 ⟨v2, rfl, ho2, hb2⟩
      have H2 := Lib.hid (H.out.1.trans (hb2.mono H.out.1.size))
      clear ho2 hb2 c0 c1
      go_wp2_with fail
      go_ret
      exact ⟨w2, H2.out, .inl ⟨HB.out.2.1, rfl, rfl⟩⟩
    · by_cases ht : turn < 1 ∨ 1099511627776 < turn
      · have hbad : Sp.bad base n turn lsn l := .inr (.inr ht)
        have HB := Lib.hid (And.intro hp (And.intro hbad h2))
        have ht' : decide (turn < 1) = true ∨ decide (turn < 1) = false ∧ decide (1099511627776 < turn) = true := by
          by_cases h : turn < 1
          · exact .inl (by simpa using h)
          · exact .inr ⟨by simpa using h, by simp; omega⟩
        clear hp hbad ho h1 h2 h3 h4 ht
        generalize Sp.at_ base n turn = at_ at *
        rcases ht' with t1 | ⟨t1, t2⟩
        all_goals
          go_enter Try.func48, Try.ntmps48
          go_wp2_with fail
          generalize hW0 : w.alloc (.cells (pCells lsn A m c) 24) = W0 at *
          clear hW0
          refine (H.out.2.2.1 W0).mono ?_
          rw [HB.out.1]
          rintro e w1 ⟨rfl, hw1⟩
          obtain rfl : W0 = w1 := hw1.symm
          have c0 : W0.cell? ⟨w.heap.size, 0, none⟩ = some (.int .i64 lsn) := H.out.2.1.cell 0
          have c1 : W0.cell? ⟨w.heap.size, 1, none⟩ = some (.slice A m c) := H.out.2.1.cell 1
          go_wp2_with fail
          refine H.out.2.2.2.1.mono ?_
          rw [HB.out.2.2]
          rintro e w2 ⟨v2, rfl, ho2, hb2⟩
          have H2 := Lib.hid (H.out.1.trans (hb2.mono H.out.1.size))
          clear ho2 hb2 c0 c1
          go_wp2_with fail
          go_ret
          exact ⟨w2, H2.out, .inl ⟨HB.out.2.1, rfl, rfl⟩⟩
      · have hbad : ¬ Sp.bad base n turn lsn l := by
          unfold Sp.bad
          rw [h1]
          simp [ho]
          omega
        have t1 : decide (turn < 1) = false := by simp; omega
        have t2 : decide (1099511627776 < turn) = false := by simp; omega
        have hput := H.out.2.2.2.2.1 hbad
        have hbo : Sp.body turn lsn l = Sl.numB turn ++ Pg.body lsn l := rfl
        have hnl := (Sl.numB_length turn).2
        have HB := Lib.hid (And.intro hp (And.intro hbad (And.intro h2 (And.intro hput hbo))))
        clear hp hbad ho h1 h2 h4 hput hbo
        generalize Sp.at_ base n turn = at_ at *
        generalize Sp.body turn lsn l = BD at *
        generalize Pg.body lsn l = PB at *
        obtain ⟨i0, hi0, hz0, hz1, hz2⟩ := info_parts ninfo8
        have HI := Lib.hid (And.intro hi0 (And.intro hz0 (And.intro hz1 hz2)))
        clear hi0 hz0 hz1 hz2
        go_enter Try.func48, Try.ntmps48
        go_wp2_with fail
        generalize hW0 : w.alloc (.cells (pCells lsn A m c) 24) = W0 at *
        clear hW0
        refine (H.out.2.2.1 W0).mono ?_
        rw [HB.out.1]
        rintro e w1 ⟨rfl, hw1⟩
        obtain rfl : W0 = w1 := hw1.symm
        have c0 : W0.cell? ⟨w.heap.size, 0, none⟩ = some (.int .i64 lsn) := H.out.2.1.cell 0
        have c1 : W0.cell? ⟨w.heap.size, 1, none⟩ = some (.slice A m c) := H.out.2.1.cell 1
        go_wp2_with fail
        refine H.out.2.2.2.1.mono ?_
        rw [HB.out.2.2.1]
        rintro e w2 ⟨v2, rfl, ho2, hb2⟩
        obtain ⟨B2, d2, rfl⟩ := own_slice ho2
        have hbw2 := H.out.1.trans (hb2.mono H.out.1.size)
        have hbx : Below w2.heap.size w2 (w2.alloc (.cells #[.slice none 0 0] 114)) := (Below.refl _ _).alloc (Nat.le_refl _) _
        have H2 := Lib.hid (And.intro (WrAt.new w2) (And.intro (BS.of_own ho2) (And.intro hbw2 hbx)))
        clear ho2 hb2 hbw2 hbx c0 c1
        simp only at H2 ⊢
        go_wp2_with fail
        generalize w2.alloc (.cells #[.slice none 0 0] 114) = w3 at *
        refine (wnum_any w2.heap.size [] _ turn w3 (by omega) H2.out.1 (by simp)).mono ?_
        rintro e w4 ⟨rfl, G, hw4, hf4, hG⟩
        rw [List.nil_append] at hw4
        have hb24 : Below w2.heap.size w2 w4 := H2.out.2.2.2.trans (hf4.below H2.out.2.2.2.size (fun i hi => by omega))
        have H4 := Lib.hid (And.intro hw4 (And.intro (H2.out.2.1.below hb24) (H2.out.2.2.1.trans (hb24.mono H2.out.2.2.1.size))))
        clear hw4 hf4 hG hb24
        go_wp2_with fail
        refine (wbytes_any w2.heap.size _ G w4 H4.out.1 (by omega)).mono ?_
        rintro e w5 ⟨v5, rfl, ho5, hb5⟩
        obtain ⟨B5, d5, rfl⟩ := own_slice ho5
        have H5 := Lib.hid (And.intro ho5 (And.intro (H4.out.2.1.below hb5) (And.intro (H4.out.2.2.trans (hb5.mono H4.out.2.2.size)) (And.intro hb5 hb5.size))))
        clear ho5 hb5
        go_wp2_with (at_builtin; refine wpList_append_bs _ rfl (.tmp 47) (.tmp 48) 42 rfl w4.heap.size 5 i0 Try.underlying42 HI.out.1 HI.out.2.1 HI.out.2.2.1 HI.out.2.2.2 (.slice B5 (Sl.numB turn).length d5) (Sl.numB turn).length (u8s (Sl.numB turn)) rfl H5.out.1 B2 PB.length d2 PB rfl H5.out.2.1 (by omega) H5.out.2.2.2.2 ?_; intro v6 w6 hown6 hg6 hat6; obtain ⟨B6, d6, rfl⟩ := own_slice hown6; have hb6 : Below w4.heap.size w4 w6 := H5.out.2.2.2.1.grown hg6 H5.out.2.2.2.2 (fun k e => own_ge H5.out.1 e); have H6 := Lib.hid (And.intro hown6 (H4.out.2.2.trans (hb6.mono H4.out.2.2.size))); clear hown6 hg6 hat6 hb6)
        have hbs6 := H6.out.1
        rw [← u8s_append, ← List.length_append, ← HB.out.2.2.2.2] at hbs6
        have hpt := HB.out.2.2.2.1 w6 B6 _ d6 H6.out.2 (BS.of_own hbs6)
        rw [HB.out.2.2.2.2, List.length_append] at hpt
        have HP := Lib.hid hpt
        clear hbs6 hpt
        refine HP.out.mono ?_
        rintro e w7 ⟨rfl, hq7⟩
        by_cases hpe : pe = 0
        · subst hpe
          have hsy := H.out.2.2.2.2.2.1 rfl w6 w7 H6.out.2 hq7
          have HS := Lib.hid (And.intro hsy hq7)
          clear hsy hq7
          go_wp2_with fail
          refine HS.out.1.mono ?_
          intro e w8 hr8
          obtain ⟨x, rfl⟩ := H.out.2.2.2.2.2.2 _ _ _ _ hr8
          have HR := Lib.hid hr8
          clear hr8
          go_wp2_with fail
          go_ret
          exact ⟨w6, H6.out.2, .inr (.inr ⟨HB.out.2.1, rfl, w7, HS.out.2, HR.out⟩)⟩
        · have e1 : ((pe : Int) != 0) = true := by rw [bne_iff_ne]; omega
          have HQ := Lib.hid (And.intro hq7 hpe)
          clear hq7 hpe
          go_wp2_with fail
          go_ret
          exact ⟨w6, H6.out.2, .inr (.inl ⟨HB.out.2.1, HQ.out.2, rfl, HQ.out.1⟩)⟩
theorem ssave_any (p : Nat) (d : Dk.D) (F : Nat → Prop) (base n turn lsn : Int) (A : Option Addr) (m c : Nat) (l : List Pg.C) (w : World) (hD : DiskAt w p d F) (hok : Dk.Ok d) (hlen : d.pend.length ≤ 999999) (hsy : d.syncs ≤ 999999)
    (hl : ST cellK w A m l) (hm : m ≤ 1000000) (hlsn : -9223372036854775808 ≤ lsn ∧ lsn ≤ 9223372036854775807) :
    Calls Try.prog 48 #[.pointer (some ⟨p, 0, none⟩), .int .i64 base, .int .i64 n, .int .i64 turn, pVal lsn A m c] w (WriteTo w F p (Sp.save d base n turn lsn l)) := by
  have hps := Dk.put2_syncs d (Sp.at_ base n turn) (Sp.body turn lsn l)
  have hpo := Dk.put2_okD hok (Sp.at_ base n turn) (Sp.body turn lsn l)
  obtain ⟨P, hP⟩ : ∃ P, Dk.put2 d (Sp.at_ base n turn) (Sp.body turn lsn l) = P := ⟨_, rfl⟩
  rw [hP] at hps hpo
  refine (ssave_gen (some ⟨p, 0, none⟩) base n turn lsn A m c l w P.1 (fun W w' => DiskTo W F p P.2 w') (fun W W2 e w' => WriteTo W F p (Dk.sync P.2) e w') hl hm hlsn ?_ ?_ ?_).mono ?_
  · intro _ W B len cap hb hbs
    have := put_any p d F (Sp.at_ base n turn) B len cap _ W (hD.below_ hb) hok hbs (by omega)
    rw [hP] at this
    exact this
  · rintro _ W W2 hb ⟨F2, h1, h2, h3⟩
    refine (sync_any p P.2 F2 W2 h1 hpo (by omega)).mono ?_
    rintro e w' ⟨rfl, F3, h4, h5, h6⟩
    refine ⟨rfl, F3, h4, h2.trans h5 (fun i hi hx => ?_), fun i hx => ?_⟩
    · rcases h3 i hx with y | y
      · exact y
      · omega
    · have hs6 := h2.size
      rcases h6 i hx with y | y
      · exact h3 i y
      · exact .inr (by omega)
  · rintro W W2 e w' ⟨rfl, _⟩
    exact ⟨_, rfl⟩
  · rintro e w' ⟨W, hb, h⟩
    rcases h with ⟨h1, rfl, rfl⟩ | ⟨h1, h2, rfl, h3⟩ | ⟨h1, h2, W2, h3, h4⟩
    · have : Sp.save d base n turn lsn l = (1, d) := by unfold Sp.save; rw [if_pos h1]
      rw [this]
      exact ⟨rfl, F, hD.below_ hb, Fr.of_below hb F, fun k hk => .inl hk⟩
    · have : Sp.save d base n turn lsn l = P := by unfold Sp.save; rw [if_neg h1, hP, if_pos h2]
      rw [this]
      exact writeTo_from hb hD.bound ⟨rfl, h3⟩
    · have : Sp.save d base n turn lsn l = Dk.sync P.2 := by unfold Sp.save; rw [if_neg h1, hP, if_neg (by rw [h2]; simp)]
      rw [this]
      exact writeTo_from hb hD.bound h4
theorem ssave_nil (base n turn lsn : Int) (A : Option Addr) (m c : Nat) (l : List Pg.C) (w : World) (hl : ST cellK w A m l) (hm : m ≤ 1000000) (hlsn : -9223372036854775808 ≤ lsn ∧ lsn ≤ 9223372036854775807) :
    Calls Try.prog 48 #[.pointer none, .int .i64 base, .int .i64 n, .int .i64 turn, pVal lsn A m c] w fun e w' => e = .returned (.int .i64 (if Sp.bad base n turn lsn l then 1 else 2)) ∧ Below w.heap.size w w' := by
  refine (ssave_gen none base n turn lsn A m c l w 2 (fun W w' => Below W.heap.size W w') (fun _ _ _ _ => False) hl hm hlsn ?_ ?_ ?_).mono ?_
  · intro hb W B len cap hbw hbs
    have hmay : Pg.may lsn l = true := by
      cases h : Pg.may lsn l with
      | true => rfl
      | false => exact absurd (.inr (.inl h)) hb
    have hle := Sp.body_le (turn := turn) hmay
    exact put_nil _ W B len cap (by rw [← hbs.1]; omega)
  · intro h; cases h
  · intro _ _ _ _ h; exact h.elim
  · rintro e w' ⟨W, hb, h⟩
    rcases h with ⟨h1, rfl, rfl⟩ | ⟨h1, h2, rfl, h3⟩ | ⟨h1, h2, _⟩
    · exact ⟨by rw [if_pos h1], hb⟩
    · exact ⟨by rw [if_neg h1]; rfl, hb.trans (h3.mono hb.size)⟩
    · cases h2
end Go.Proofs.Ytfcmlfcpgboigaa

/- The document's layer 11: One, Load, Body. -/
namespace Go.Proofs.Ytfcmlfcpgboigaa
open Go.RowKit Mem
set_option maxRecDepth 100000
set_option linter.unusedVariables false
set_option linter.unusedSimpArgs false

namespace Sp
/-- the page of a sector, by the document -/
def one (s : List UInt8) (odd : Int) : B := if (Stamp.openR s).2 ≠ 0 then none_ else take (Stamp.openR s).1 odd none_
def best (a b : B) : B := if a.2.2 < b.2.2 then b else a
def load2 (s t : List UInt8) : B := best (one s 0) (one t 1)
def bodyE (turn lsn : Int) (l : List Pg.C) : List UInt8 := Sl.numB turn ++ (Pg.enc lsn l).1
theorem take_read (bs : List UInt8) (odd : Int) : take bs odd none_ =
    if (Rm.next ⟨bs, 0⟩ 1099511627776).e = 0 ∧ 0 < Rm.one ⟨bs, 0⟩ 1099511627776 ∧ Rm.one ⟨bs, 0⟩ 1099511627776 % 2 = odd then
      if (Pg.dec (Rm.next ⟨bs, 0⟩ 1099511627776).b).2.2 ≠ 0 then none_ else ((Pg.dec (Rm.next ⟨bs, 0⟩ 1099511627776).b).1, (Pg.dec (Rm.next ⟨bs, 0⟩ 1099511627776).b).2.1, Rm.one ⟨bs, 0⟩ 1099511627776)
    else none_ := by
  unfold take read
  generalize Rm.next ⟨bs, 0⟩ 1099511627776 = r
  generalize Rm.one ⟨bs, 0⟩ 1099511627776 = t
  have hn : ∀ x : B, x.2.2 = 0 → (if none_.2.2 < x.2.2 ∧ x.2.2 % 2 = odd then x else none_) = none_ := fun x hx => by
    rw [if_neg]
    intro h
    have h1 : (0 : Int) < x.2.2 := h.1
    omega
  by_cases h1 : r.e ≠ 0
  · rw [if_pos h1, hn _ rfl, if_neg (fun h => h1 h.1)]
  · rw [if_neg h1]
    have h1' : r.e = 0 := by omega
    by_cases h2 : (Pg.dec r.b).2.2 ≠ 0
    · rw [if_pos h2, hn _ rfl]
      split <;> rfl
    · rw [if_neg h2]
      show (if (0 : Int) < t ∧ t % 2 = odd then _ else _) = _
      by_cases h3 : 0 < t ∧ t % 2 = odd
      · rw [if_pos h3, if_pos ⟨h1', h3.1, h3.2⟩, if_neg h2]
      · rw [if_neg h3, if_neg (fun h => h3 ⟨h.2.1, h.2.2⟩)]
end Sp
set_option maxHeartbeats 8000000 in
theorem ref11body_any (turn lsn : Int) (A : Option Addr) (n c : Nat) (l : List Pg.C) (w : World) (hl : ST cellK w A n l) (hn : n ≤ 1000000) (hlsn : -9223372036854775808 ≤ lsn ∧ lsn ≤ 9223372036854775807) (ht : -9223372036854775808 ≤ turn ∧ turn ≤ 9223372036854775807) :
    Calls Try.prog 51 #[.int .i64 turn, pVal lsn A n c] w (OwnB 5 w (Sp.bodyE turn lsn l)) := by
  obtain ⟨i0, hi0, hz0, hz1, hz2⟩ := info_parts ninfo8
  have HI := Lib.hid (And.intro hi0 (And.intro hz0 (And.intro hz1 hz2)))
  have hb0 : Below w.heap.size w (w.alloc (.cells (pCells lsn A n c) 24)) := (Below.refl _ _).alloc (Nat.le_refl _) _
  have hk0 := Blk.new w 24 (pCells lsn A n c)
  have hel : (Pg.enc lsn l).1.length ≤ 211 := by
    rcases Pg.enc_cases lsn l with ⟨_, h⟩ | ⟨_, h, h3, _⟩
    · rw [h]; simp
    · rw [h]; exact h3
  have H := Lib.hid (And.intro hb0 (And.intro hk0 hl))
  clear hb0 hk0 hl hi0 hz0 hz1 hz2
  have hbo : Sp.bodyE turn lsn l = Sl.numB turn ++ (Pg.enc lsn l).1 := rfl
  rw [hbo]
  clear hbo
  have hnl := (Sl.numB_length turn).2
  obtain ⟨E, hE⟩ : ∃ E, Pg.enc lsn l = E := ⟨_, rfl⟩
  rw [hE] at hel ⊢
  have HE := Lib.hid hE
  clear hE
  obtain ⟨PB, ec⟩ := E
  simp only at hel ⊢
  go_enter Try.func51, Try.ntmps51
  go_wp2_with fail
  generalize hW0 : w.alloc (.cells (pCells lsn A n c) 24) = W0 at *
  clear hW0
  refine (refNum_any turn W0 ht).mono ?_
  rintro e w1 ⟨v1, rfl, ho1, hb1⟩
  obtain ⟨A1, d1, rfl⟩ := own_slice ho1
  have hk1 := H.out.2.1.below hb1 H.out.2.1.lt
  have c0 : w1.cell? ⟨w.heap.size, 0, none⟩ = some (.int .i64 lsn) := hk1.cell 0
  have c1 : w1.cell? ⟨w.heap.size, 1, none⟩ = some (.slice A n c) := hk1.cell 1
  have H1 := Lib.hid (And.intro ho1 hb1)
  clear ho1 hb1 hk1
  go_wp2_with fail
  have hen := penc10_any lsn A n c l w1 (H.out.2.2.below (H.out.1.trans (H1.out.2.mono H.out.1.size))) hn hlsn
  rw [HE.out] at hen
  refine hen.mono ?_
  clear hen
  rintro e w2 ⟨v2, rfl, ho2, hb2⟩
  obtain ⟨A2, d2, rfl⟩ := own_slice ho2
  have hbw := H1.out.2.trans (hb2.mono H1.out.2.size)
  have H2 := Lib.hid (And.intro (BS.of_own ho2) (And.intro (own_below H1.out.1 hb2) (And.intro hbw hbw.size)))
  clear ho2 hb2 hbw c0 c1
  simp only at H2 ⊢
  go_wp2_with (at_builtin; refine wpList_append_bs _ rfl (.tmp 15) (.tmp 16) 42 rfl W0.heap.size 5 i0 Try.underlying42 HI.out.1 HI.out.2.1 HI.out.2.2.1 HI.out.2.2.2 (.slice A1 (Sl.numB turn).length d1) _ _ rfl H2.out.2.1 A2 PB.length d2 PB rfl H2.out.1 (by omega) H2.out.2.2.2 ?_; intro v3 w3 hown3 hg3 hat3; have hb3 : Below W0.heap.size W0 w3 := H2.out.2.2.1.grown hg3 H2.out.2.2.2 (fun k e => own_ge H2.out.2.1 e); have H3 := Lib.hid (And.intro hown3 (H.out.1.trans (hb3.mono H.out.1.size))); clear hown3 hg3 hat3 hb3)
  go_ret
  have ho := H3.out.1
  rw [← u8s_append, ← List.length_append] at ho
  exact ⟨_, rfl, own_base ho H.out.1.size, H3.out.2⟩
set_option maxHeartbeats 8000000 in
theorem ref11one_any (A : Option Addr) (n cap : Nat) (bs : List UInt8) (odd : Int) (w : World) (hbs : BS w A n bs) (hn : n ≤ 140737488351232) (hnc : n ≤ cap) (hcm : cap ≤ 9223372036854775807) :
    Calls Try.prog 93 #[.slice A n cap, .int .i64 odd] w (PagT w (Sp.one bs odd)) := by
  have hb0 : Below w.heap.size w (w.alloc (.cells (pCells 0 none 0 0) 24)) := (Below.refl _ _).alloc (Nat.le_refl _) _
  have hblk := Blk.new w 24 (pCells 0 none 0 0)
  have hop := refOpen_any A n cap bs (w.alloc (.cells (pCells 0 none 0 0) 24)) (hbs.below hb0) hn hnc hcm
  obtain ⟨R, hR⟩ : ∃ R, Sp.one bs odd = R := ⟨_, rfl⟩
  rw [hR]
  have hlen : (Stamp.openR bs).1.length ≤ 1000 := by
    unfold Stamp.openR
    split
    · simp
    · split
      · rw [Stamp.openB_length _ (by omega)]; omega
      · simp
  unfold Sp.one at hR
  generalize Stamp.openR bs = g at *
  obtain ⟨ps, er⟩ := g
  simp only at hR hlen
  have HR := Lib.hid hR
  have H := Lib.hid (And.intro hb0 (And.intro hblk hop))
  clear hb0 hblk hop hR hbs
  go_enter Try.func93, Try.ntmps93
  go_wp2_with fail
  generalize hW0 : w.alloc (.cells (pCells 0 none 0 0) 24) = W0 at *
  clear hW0
  refine H.out.2.2.mono ?_
  rintro e w1 ⟨B1, c1, rfl, hB1, hc1, hm1, hb1⟩
  simp only at hB1 hc1 ⊢
  have hk1 := H.out.2.1.below hb1 H.out.2.1.lt
  have hbw1 := H.out.1.trans (hb1.mono H.out.1.size)
  by_cases he : er = 0
  · subst he
    have hrr : R = Sp.take ps odd Sp.none_ := by rw [← HR.out, if_neg (by simp)]
    rw [Sp.take_read] at hrr
    have hrf := rf_new hB1 hc1 hm1
    have hbx : Below w1.heap.size w1 (w1.alloc (.cells #[.slice B1 ps.length c1, .int .i64 0] 137)) := (Below.refl _ _).alloc (Nat.le_refl _) _
    have hlt1 : w.heap.size < w1.heap.size := hk1.lt
    have H1 := Lib.hid (And.intro hrf (And.intro (hk1.below hbx hk1.lt) (And.intro (hbw1.trans (hbx.mono hbw1.size)) hrr)))
    clear hrf hk1 hbw1 hbx hrr hB1 hb1 HR
    go_wp2_with fail
    generalize w1.alloc (.cells #[.slice B1 ps.length c1, .int .i64 0] 137) = w2 at *
    generalize (fun k => k = w1.heap.size ∨ 0 < ps.length ∧ ∃ b off, B1 = some ⟨b, off, none⟩ ∧ k = b ∧ b < w1.heap.size) = F at *
    refine (refRNum_any w1.heap.size ⟨ps, 0⟩ F 1099511627776 w2 H1.out.1 (by omega) (by simp only; omega)).mono ?_
    rintro e w3 ⟨rfl, hr3, hf3⟩
    have hx0 : ((Sl.out (⟨ps, 0⟩ : Sl.R) 0 (Sl.number ps 1099511627776).1 : Nat) : Int) = Rm.one ⟨ps, 0⟩ 1099511627776 := rfl
    have hr0 : Sl.try_ (⟨ps, 0⟩ : Sl.R) (Sl.number ps 1099511627776).2 = Rm.next ⟨ps, 0⟩ 1099511627776 := rfl
    simp only [hx0, hr0] at hr3 ⊢
    have hrr := H1.out.2.2.2
    have hob := Rm.one_bound (⟨ps, 0⟩ : Sl.R) 1099511627776 (by omega) (by omega)
    have hle : (Rm.next (⟨ps, 0⟩ : Sl.R) 1099511627776).b.length ≤ 1000 := Nat.le_trans (Rm.try_le' _ _) hlen
    generalize Rm.next ⟨ps, 0⟩ 1099511627776 = r at *
    generalize Rm.one ⟨ps, 0⟩ 1099511627776 = turn at *
    have hk3 := H1.out.2.1.keep (hf3.block _ H1.out.2.1.lt (by omega))
    have hb3 := H1.out.2.2.1.trans (hf3.below H1.out.2.2.1.size (fun i hi => by omega))
    obtain ⟨A3, n3, c3, hq3, hB3, hn3, hc3, hF3, _, _⟩ := hr3
    have x0 : w3.cell? ⟨w1.heap.size, 0, none⟩ = some (.slice A3 n3 c3) := hq3.cell 0
    have x1 : w3.cell? ⟨w1.heap.size, 1, none⟩ = some (.int .i64 (r.e : Nat)) := hq3.cell 1
    have z0 : w3.cell? ⟨w.heap.size, 0, none⟩ = some (.int .i64 0) := hk3.cell 0
    have z1 : w3.cell? ⟨w.heap.size, 1, none⟩ = some (.slice none 0 0) := hk3.cell 1
    have f0 := hk3.free 0
    have f1 := hk3.free 1
    have htm : turn.tmod 2 = turn % 2 := Int.tmod_eq_emod_of_nonneg hob.1
    have H3 := Lib.hid (And.intro hk3 (And.intro hb3 (And.intro hB3 hrr)))
    clear hk3 hb3 hB3 hrr hq3 hf3 hx0 hr0
    by_cases hcond : r.e = 0 ∧ 0 < turn ∧ turn % 2 = odd
    · obtain ⟨k1, k2, k3⟩ := hcond
      have g1 : ((r.e : Int) != 0) = false := by rw [k1]; rfl
      have g2 : decide (turn < 1) = false := by simp; omega
      have g3 : (turn % 2 != odd) = false := by simpa using k3
      have hRR := H3.out.2.2.2
      rw [if_pos ⟨k1, k2, k3⟩] at hRR
      have hdec := pdec10_any A3 n3 c3 r.b w3 H3.out.2.2.1 (by have := H3.out.2.2.1.1; omega) hn3 hc3
      generalize Pg.dec r.b = E at *
      have HD := Lib.hid (And.intro hdec hRR)
      clear k1 k2 k3 hRR hdec
      go_wp2_with fail
      refine HD.out.1.mono ?_
      rintro e w5 ⟨A5, c5, rfl, ho5, hb5⟩
      obtain ⟨lsn5, l5, e5⟩ := E
      simp only at ho5 ⊢
      have hk5 := H3.out.1.below hb5 H3.out.1.lt
      have hbw5 := H3.out.2.1.trans (hb5.mono H3.out.2.1.size)
      have hlt5 : w.heap.size < w5.heap.size := hk5.lt
      have hq5 := Blk.new w5 24 (pCells lsn5 A5 l5.length c5)
      have z0 : w5.cell? ⟨w.heap.size, 0, none⟩ = some (.int .i64 0) := hk5.cell 0
      have z1 : w5.cell? ⟨w.heap.size, 1, none⟩ = some (.slice none 0 0) := hk5.cell 1
      have f0 := hk5.free 0
      have f1 := hk5.free 1
      have q0 : (w5.alloc (.cells #[.int .i64 lsn5, .slice A5 l5.length c5] 24)).cell? ⟨w5.heap.size, 0, none⟩ = some (.int .i64 lsn5) := hq5.cell 0
      have q1 : (w5.alloc (.cells #[.int .i64 lsn5, .slice A5 l5.length c5] 24)).cell? ⟨w5.heap.size, 1, none⟩ = some (.slice A5 l5.length c5) := hq5.cell 1
      have H6 := Lib.hid (And.intro ho5 (And.intro hk5 hbw5))
      have HX := Lib.hid HD.out.2
      clear ho5 hb5 hk5 hq5 hbw5 HD x0 x1
      by_cases h5 : e5 ≠ 0
      · have e2 : ((e5 : Int) != 0) = true := by rw [bne_iff_ne]; omega
        have hDD : R = Sp.none_ := by rw [HX.out, if_pos h5]
        subst hDD
        clear h5
        go_wp2_with fail
        have hW := ((H6.out.2.1.put 0 (.int .i64 0)).put 1 (.slice none 0 0)).alloc (.cells #[.int .i64 lsn5, .slice A5 l5.length c5] 24)
        have hbe := ((H6.out.2.2.setCell (by simp) (.int .i64 0) : Below w.heap.size w (w5.setCell ⟨w.heap.size, 0, none⟩ (.int .i64 0))).setCell (by simp) (.slice none 0 0) : Below w.heap.size w ((w5.setCell ⟨w.heap.size, 0, none⟩ (.int .i64 0)).setCell ⟨w.heap.size, 1, none⟩ (.slice none 0 0)))
        have hbe2 := hbe.alloc hbe.size (.cells #[.int .i64 lsn5, .slice A5 l5.length c5] 24)
        have y0 : (((w5.setCell ⟨w.heap.size, 0, none⟩ (.int .i64 0)).setCell ⟨w.heap.size, 1, none⟩ (.slice none 0 0)).alloc (.cells #[.int .i64 lsn5, .slice A5 l5.length c5] 24)).cell? ⟨w.heap.size, 0, none⟩ = some (.int .i64 0) := hW.cell 0
        have y1 : (((w5.setCell ⟨w.heap.size, 0, none⟩ (.int .i64 0)).setCell ⟨w.heap.size, 1, none⟩ (.slice none 0 0)).alloc (.cells #[.int .i64 lsn5, .slice A5 l5.length c5] 24)).cell? ⟨w.heap.size, 1, none⟩ = some (.slice none 0 0) := hW.cell 1
        exact bodyPost_ret (v := .tuple #[pVal 0 none 0 0, .int .i64 0]) (by simp [results, Try.results93, go_sem, y0, y1]) rfl ⟨none, 0, rfl, own_nilK _, hbe2⟩
      · have e2 : ((e5 : Int) != 0) = false := by simp at h5; simp [h5]
        have hDD : R = (lsn5, l5, turn) := by rw [HX.out, if_neg h5]
        subst hDD
        clear h5
        go_wp2_with fail
        have hW := ((H6.out.2.1.put 0 (.int .i64 lsn5)).put 1 (.slice A5 l5.length c5)).alloc (.cells #[.int .i64 lsn5, .slice A5 l5.length c5] 24)
        have hbe := ((H6.out.2.2.setCell (by simp) (.int .i64 lsn5) : Below w.heap.size w (w5.setCell ⟨w.heap.size, 0, none⟩ (.int .i64 lsn5))).setCell (by simp) (.slice A5 l5.length c5) : Below w.heap.size w ((w5.setCell ⟨w.heap.size, 0, none⟩ (.int .i64 lsn5)).setCell ⟨w.heap.size, 1, none⟩ (.slice A5 l5.length c5)))
        have hbe2 := hbe.alloc hbe.size (.cells #[.int .i64 lsn5, .slice A5 l5.length c5] 24)
        have y0 : (((w5.setCell ⟨w.heap.size, 0, none⟩ (.int .i64 lsn5)).setCell ⟨w.heap.size, 1, none⟩ (.slice A5 l5.length c5)).alloc (.cells #[.int .i64 lsn5, .slice A5 l5.length c5] 24)).cell? ⟨w.heap.size, 0, none⟩ = some (.int .i64 lsn5) := hW.cell 0
        have y1 : (((w5.setCell ⟨w.heap.size, 0, none⟩ (.int .i64 lsn5)).setCell ⟨w.heap.size, 1, none⟩ (.slice A5 l5.length c5)).alloc (.cells #[.int .i64 lsn5, .slice A5 l5.length c5] 24)).cell? ⟨w.heap.size, 1, none⟩ = some (.slice A5 l5.length c5) := hW.cell 1
        refine bodyPost_ret (v := .tuple #[pVal lsn5 A5 l5.length c5, .int .i64 turn]) (by simp [results, Try.results93, go_sem, y0, y1]) rfl ⟨A5, c5, rfl, ?_, hbe2⟩
        exact own_base (own_keep H6.out.1 (fun k e => by
          have hk1 := own_ge H6.out.1 e
          have hk2 := H3.out.1.lt
          have hk3 := own_lt H6.out.1 e
          rw [Below.heap_alloc _ _ k (by simpa [World.setCell] using hk3), Below.heap_setCell _ _ _ k (by simp only; omega), Below.heap_setCell _ _ _ k (by simp only; omega)])) H3.out.2.1.size
    · have hRR : R = Sp.none_ := by rw [H3.out.2.2.2, if_neg hcond]
      subst hRR
      have hg : (((r.e : Int) != 0) = true) ∨ (((r.e : Int) != 0) = false ∧ decide (turn < 1) = true) ∨ (((r.e : Int) != 0) = false ∧ decide (turn < 1) = false ∧ (turn % 2 != odd) = true) := by
        by_cases k1 : r.e = 0
        · have g1 : ((r.e : Int) != 0) = false := by rw [k1]; rfl
          by_cases k2 : turn < 1
          · exact .inr (.inl ⟨g1, by simpa using k2⟩)
          · exact .inr (.inr ⟨g1, by simpa using k2, by simpa using fun k3 => hcond ⟨k1, by omega, k3⟩⟩)
        · exact .inl (by rw [bne_iff_ne]; omega)
      clear hcond
      rcases hg with g1 | ⟨g1, g2⟩ | ⟨g1, g2, g3⟩
      all_goals
        go_wp2_with fail
        have hW := (H3.out.1.put 0 (.int .i64 0)).put 1 (.slice none 0 0)
        have y0 : ((w3.setCell ⟨w.heap.size, 0, none⟩ (.int .i64 0)).setCell ⟨w.heap.size, 1, none⟩ (.slice none 0 0)).cell? ⟨w.heap.size, 0, none⟩ = some (.int .i64 0) := hW.cell 0
        have y1 : ((w3.setCell ⟨w.heap.size, 0, none⟩ (.int .i64 0)).setCell ⟨w.heap.size, 1, none⟩ (.slice none 0 0)).cell? ⟨w.heap.size, 1, none⟩ = some (.slice none 0 0) := hW.cell 1
        exact bodyPost_ret (v := .tuple #[pVal 0 none 0 0, .int .i64 0]) (by simp [results, Try.results93, go_sem, y0, y1]) rfl ⟨none, 0, rfl, own_nilK _, (H3.out.2.1.setCell (by simp) _).setCell (by simp) _⟩
  · have hg : ((er : Int) != 0) = true := by rw [bne_iff_ne]; omega
    have hRR : R = Sp.none_ := by rw [← HR.out, if_pos he]
    subst hRR
    have z0 : w1.cell? ⟨w.heap.size, 0, none⟩ = some (.int .i64 0) := hk1.cell 0
    have z1 : w1.cell? ⟨w.heap.size, 1, none⟩ = some (.slice none 0 0) := hk1.cell 1
    have f0 := hk1.free 0
    have f1 := hk1.free 1
    have H3 := Lib.hid (And.intro hk1 hbw1)
    clear he hk1 hbw1 hB1 hb1
    go_wp2_with fail
    have hW := (H3.out.1.put 0 (.int .i64 0)).put 1 (.slice none 0 0)
    have y0 : ((w1.setCell ⟨w.heap.size, 0, none⟩ (.int .i64 0)).setCell ⟨w.heap.size, 1, none⟩ (.slice none 0 0)).cell? ⟨w.heap.size, 0, none⟩ = some (.int .i64 0) := hW.cell 0
    have y1 : ((w1.setCell ⟨w.heap.size, 0, none⟩ (.int .i64 0)).setCell ⟨w.heap.size, 1, none⟩ (.slice none 0 0)).cell? ⟨w.heap.size, 1, none⟩ = some (.slice none 0 0) := hW.cell 1
    exact bodyPost_ret (v := .tuple #[pVal 0 none 0 0, .int .i64 0]) (by simp [results, Try.results93, go_sem, y0, y1]) rfl ⟨none, 0, rfl, own_nilK _, (H3.out.2.setCell (by simp) _).setCell (by simp) _⟩
set_option maxHeartbeats 8000000 in
theorem ref11load_any (A : Option Addr) (n c : Nat) (s : List UInt8) (B : Option Addr) (m d : Nat) (t : List UInt8) (w : World) (hs : BS w A n s) (ht : BS w B m t) (hn : n ≤ 140737488351232) (hm : m ≤ 140737488351232) (hnc : n ≤ c) (hmd : m ≤ d) (hc : c ≤ 9223372036854775807) (hd : d ≤ 9223372036854775807) :
    Calls Try.prog 52 #[.slice A n c, .slice B m d] w (PagT w (Sp.load2 s t)) := by
  have hb0 : Below w.heap.size w (w.alloc (.cells (pCells 0 none 0 0) 24)) := (Below.refl _ _).alloc (Nat.le_refl _) _
  have hblk := Blk.new w 24 (pCells 0 none 0 0)
  have h1 := ref11one_any A n c s 0 (w.alloc (.cells (pCells 0 none 0 0) 24)) (hs.below hb0) hn hnc hc
  obtain ⟨R, hR⟩ : ∃ R, Sp.load2 s t = R := ⟨_, rfl⟩
  rw [hR]
  have h2 := fun W (h : Below w.heap.size w W) => ref11one_any B m d t 1 W (ht.below h) hm hmd hd
  unfold Sp.load2 Sp.best at hR
  generalize Sp.one s 0 = x at *
  generalize Sp.one t 1 = y at *
  obtain ⟨lx, kx, tx⟩ := x
  obtain ⟨ly, ky, ty⟩ := y
  simp only at hR
  have H := Lib.hid (And.intro hb0 (And.intro hblk (And.intro h1 (And.intro h2 hR))))
  clear hb0 hblk h1 h2 hR hs ht
  go_enter Try.func52, Try.ntmps52
  go_wp2_with fail
  generalize hW0 : w.alloc (.cells (pCells 0 none 0 0) 24) = W0 at *
  clear hW0
  refine H.out.2.2.1.mono ?_
  rintro e w1 ⟨A1, c1, rfl, ho1, hb1⟩
  simp only at ho1 ⊢
  have hb10 : Below w1.heap.size w1 (w1.alloc (.cells (pCells lx A1 kx.length c1) 24)) := (Below.refl _ _).alloc (Nat.le_refl _) _
  have hb01 := hb1.trans (hb10.mono hb1.size)
  have hbw1 := H.out.1.trans (hb01.mono H.out.1.size)
  have hlt1 : w.heap.size < w1.heap.size := by have := H.out.2.1.lt; have := hb1.size; omega
  have H1 := Lib.hid (And.intro (own_base (own_below ho1 hb10) H.out.1.size) (And.intro (Blk.new w1 24 (pCells lx A1 kx.length c1)) (And.intro (H.out.2.1.below hb01 H.out.2.1.lt) hbw1)))
  have hne1 : (Value.slice A1 kx.length c1).ownBlock ≠ some w.heap.size := fun e => by have := own_ge ho1 e; have := H.out.2.1.lt; omega
  clear ho1 hb1 hb10 hb01 hbw1
  go_wp2_with fail
  generalize w1.alloc (.cells (pCells lx A1 kx.length c1) 24) = w2 at *
  generalize w1.heap.size = q1 at *
  refine (H.out.2.2.2.1 w2 H1.out.2.2.2).mono ?_
  rintro e w3 ⟨A3, c3, rfl, ho3, hb3⟩
  simp only at ho3 ⊢
  have hk3 := H1.out.2.2.1.below hb3 H1.out.2.2.1.lt
  have hq13 := H1.out.2.1.below hb3 H1.out.2.1.lt
  have z0 : w3.cell? ⟨w.heap.size, 0, none⟩ = some (.int .i64 0) := hk3.cell 0
  have z1 : w3.cell? ⟨w.heap.size, 1, none⟩ = some (.slice none 0 0) := hk3.cell 1
  have f0 := hk3.free 0
  have f1 := hk3.free 1
  have hlt3 : w.heap.size < w3.heap.size := hk3.lt
  have hlt4 : q1 < w3.heap.size := hq13.lt
  have a0 : w3.cell? ⟨q1, 0, none⟩ = some (.int .i64 lx) := hq13.cell 0
  have a1 : w3.cell? ⟨q1, 1, none⟩ = some (.slice A1 kx.length c1) := hq13.cell 1
  have hq3 := Blk.new w3 24 (pCells ly A3 ky.length c3)
  have b0 : (w3.alloc (.cells #[.int .i64 ly, .slice A3 ky.length c3] 24)).cell? ⟨w3.heap.size, 0, none⟩ = some (.int .i64 ly) := hq3.cell 0
  have b1 : (w3.alloc (.cells #[.int .i64 ly, .slice A3 ky.length c3] 24)).cell? ⟨w3.heap.size, 1, none⟩ = some (.slice A3 ky.length c3) := hq3.cell 1
  have hbw3 := H1.out.2.2.2.trans (hb3.mono H1.out.2.2.2.size)
  have hs2 : w.heap.size < w2.heap.size := H1.out.2.2.1.lt
  have H6 := Lib.hid (And.intro ho3 (And.intro hk3 (And.intro hbw3 (own_below H1.out.1 hb3))))
  clear ho3 hb3 hk3 hq13 hq3 hbw3
  by_cases hlt : tx < ty
  · have d1 : decide (tx < ty) = true := by simpa using hlt
    have hRR : R = (ly, ky, ty) := by rw [← H.out.2.2.2.2, if_pos hlt]
    subst hRR
    clear hlt
    go_wp2_with fail
    have hW := ((H6.out.2.1.put 0 (.int .i64 ly)).put 1 (.slice A3 ky.length c3)).alloc (.cells #[.int .i64 ly, .slice A3 ky.length c3] 24)
    have hbe := ((H6.out.2.2.1.setCell (by simp) (.int .i64 ly) : Below w.heap.size w (w3.setCell ⟨w.heap.size, 0, none⟩ (.int .i64 ly))).setCell (by simp) (.slice A3 ky.length c3) : Below w.heap.size w ((w3.setCell ⟨w.heap.size, 0, none⟩ (.int .i64 ly)).setCell ⟨w.heap.size, 1, none⟩ (.slice A3 ky.length c3)))
    have hbe2 := hbe.alloc hbe.size (.cells #[.int .i64 ly, .slice A3 ky.length c3] 24)
    have y0 : (((w3.setCell ⟨w.heap.size, 0, none⟩ (.int .i64 ly)).setCell ⟨w.heap.size, 1, none⟩ (.slice A3 ky.length c3)).alloc (.cells #[.int .i64 ly, .slice A3 ky.length c3] 24)).cell? ⟨w.heap.size, 0, none⟩ = some (.int .i64 ly) := hW.cell 0
    have y1 : (((w3.setCell ⟨w.heap.size, 0, none⟩ (.int .i64 ly)).setCell ⟨w.heap.size, 1, none⟩ (.slice A3 ky.length c3)).alloc (.cells #[.int .i64 ly, .slice A3 ky.length c3] 24)).cell? ⟨w.heap.size, 1, none⟩ = some (.slice A3 ky.length c3) := hW.cell 1
    refine bodyPost_ret (v := .tuple #[pVal ly A3 ky.length c3, .int .i64 ty]) (by simp [results, Try.results52, go_sem, y0, y1]) rfl ⟨A3, c3, rfl, ?_, hbe2⟩
    exact own_base (own_keep H6.out.1 (fun k e => by
      have hk1 := own_ge H6.out.1 e
      have hk3 := own_lt H6.out.1 e
      rw [Below.heap_alloc _ _ k (by simpa [World.setCell] using hk3), Below.heap_setCell _ _ _ k (by simp only; omega), Below.heap_setCell _ _ _ k (by simp only; omega)])) H1.out.2.2.2.size
  · have d1 : decide (tx < ty) = false := by simpa using hlt
    have hRR : R = (lx, kx, tx) := by rw [← H.out.2.2.2.2, if_neg hlt]
    subst hRR
    clear hlt
    go_wp2_with fail
    have hW := ((H6.out.2.1.put 0 (.int .i64 lx)).put 1 (.slice A1 kx.length c1)).alloc (.cells #[.int .i64 ly, .slice A3 ky.length c3] 24)
    have hbe := ((H6.out.2.2.1.setCell (by simp) (.int .i64 lx) : Below w.heap.size w (w3.setCell ⟨w.heap.size, 0, none⟩ (.int .i64 lx))).setCell (by simp) (.slice A1 kx.length c1) : Below w.heap.size w ((w3.setCell ⟨w.heap.size, 0, none⟩ (.int .i64 lx)).setCell ⟨w.heap.size, 1, none⟩ (.slice A1 kx.length c1)))
    have hbe2 := hbe.alloc hbe.size (.cells #[.int .i64 ly, .slice A3 ky.length c3] 24)
    have y0 : (((w3.setCell ⟨w.heap.size, 0, none⟩ (.int .i64 lx)).setCell ⟨w.heap.size, 1, none⟩ (.slice A1 kx.length c1)).alloc (.cells #[.int .i64 ly, .slice A3 ky.length c3] 24)).cell? ⟨w.heap.size, 0, none⟩ = some (.int .i64 lx) := hW.cell 0
    have y1 : (((w3.setCell ⟨w.heap.size, 0, none⟩ (.int .i64 lx)).setCell ⟨w.heap.size, 1, none⟩ (.slice A1 kx.length c1)).alloc (.cells #[.int .i64 ly, .slice A3 ky.length c3] 24)).cell? ⟨w.heap.size, 1, none⟩ = some (.slice A1 kx.length c1) := hW.cell 1
    refine bodyPost_ret (v := .tuple #[pVal lx A1 kx.length c1, .int .i64 tx]) (by simp [results, Try.results52, go_sem, y0, y1]) rfl ⟨A1, c1, rfl, ?_, hbe2⟩
    exact own_keep H6.out.2.2.2 (fun k e => by
      have hk2 : k ≠ w.heap.size := fun h => hne1 (by rw [← h]; exact e)
      have hk3 := own_lt H6.out.2.2.2 e
      rw [Below.heap_alloc _ _ k (by simpa [World.setCell] using hk3), Below.heap_setCell _ _ _ k (by simp only; omega), Below.heap_setCell _ _ _ k (by simp only; omega)])
end Go.Proofs.Ytfcmlfcpgboigaa

/- Pages on a disk, as plain data: what is loaded of what was saved. -/
namespace Go.Proofs.Ytfcmlfcpgboigaa
open Go.RowKit Mem
set_option maxRecDepth 100000
set_option linter.unusedVariables false
set_option linter.unusedSimpArgs false

namespace Sp
open Stamp
/-- what a sector says: the page in it, of the right oddness -/
def sec (s : List UInt8) (odd : Int) : B := match Dk.opn s with
  | some p => take p odd none_
  | none => none_
theorem none_last : none_.2.2 = 0 := rfl
theorem read_last (bs : List UInt8) : 0 ≤ (read bs).2.2 := by
  unfold read
  split
  · exact Int.le_refl _
  · split
    · exact Int.le_refl _
    · exact (Rm.one_bound _ _ (by omega) (by omega)).1
theorem take_last (bs : List UInt8) (odd : Int) : 0 ≤ (take bs odd none_).2.2 ∧ ((take bs odd none_).2.2 = 0 → take bs odd none_ = none_) := by
  unfold take
  by_cases h : none_.2.2 < (read bs).2.2 ∧ (read bs).2.2 % 2 = odd
  · rw [if_pos h]
    have h1 : (0 : Int) < (read bs).2.2 := h.1
    exact ⟨by omega, fun h2 => by omega⟩
  · rw [if_neg h]
    exact ⟨Int.le_refl _, fun _ => rfl⟩
theorem sec_last (s : List UInt8) (odd : Int) : 0 ≤ (sec s odd).2.2 ∧ ((sec s odd).2.2 = 0 → sec s odd = none_) := by
  unfold sec
  cases Dk.opn s
  · exact ⟨Int.le_refl _, fun _ => rfl⟩
  · exact take_last _ _
theorem take_best (p : List UInt8) (odd : Int) (b : B) (hb : 0 ≤ b.2.2) : take p odd b = best b (take p odd none_) := by
  unfold take best
  by_cases h1 : none_.2.2 < (read p).2.2 ∧ (read p).2.2 % 2 = odd
  · rw [if_pos h1]
    by_cases h2 : b.2.2 < (read p).2.2
    · rw [if_pos ⟨h2, h1.2⟩, if_pos h2]
    · rw [if_neg (fun h => h2 h.1), if_neg h2]
  · have h3 : ¬ (b.2.2 < (read p).2.2 ∧ (read p).2.2 % 2 = odd) := fun h => h1 ⟨by have := h.1; rw [none_last]; omega, h.2⟩
    rw [if_neg h1, if_neg h3, if_neg (by rw [none_last]; omega)]
theorem best_none (b : B) (hb : 0 ≤ b.2.2) (hz : b.2.2 = 0 → b = none_) : best none_ b = b := by
  unfold best
  by_cases h : none_.2.2 < b.2.2
  · rw [if_pos h]
  · rw [if_neg h, hz (by rw [none_last] at h; omega)]
theorem best_last (a b : B) (ha : 0 ≤ a.2.2) : 0 ≤ (best a b).2.2 := by
  unfold best
  split
  · rename_i h; omega
  · exact ha
theorem look_q {z : Int} {k : Nat} {d : Dk.D} (h : Dk.Q z k d) {N : Int} (h0 : 0 ≤ N) (h1 : N < z) (odd : Int) (b : B) (hb : 0 ≤ b.2.2) : look (Dk.get2 d N) odd b = (0, best b (sec (Dk.cur d N) odd)) := by
  rw [Dk.get_q h h0 h1]
  unfold sec
  cases Dk.opn (Dk.cur d N) with
  | none =>
    show (0, b) = _
    unfold best
    rw [if_neg (by rw [none_last]; omega)]
  | some p =>
    show (0, take p odd b) = _
    rw [take_best p odd b hb]
theorem load_q {z : Int} {k : Nat} {d : Dk.D} (h : Dk.Q z k d) {base n : Int} (ho : ¬ out base n) (hz : base + 2 * n + 1 < z) :
    load base n (Dk.get2 d) = (best (sec (Dk.cur d (base + 2 * n)) 0) (sec (Dk.cur d (base + 2 * n + 1)) 1), 0) := by
  have ho' : 0 ≤ base ∧ 0 ≤ n := by unfold out at ho; omega
  have l0 := sec_last (Dk.cur d (base + 2 * n)) 0
  unfold load
  rw [if_neg ho, look_q h (by omega) (by omega) 0 none_ (Int.le_refl _), if_neg (by simp), best_none _ l0.1 l0.2]
  rw [look_q h (by omega) hz 1 _ l0.1, if_neg (by simp)]
theorem load_err0 (base n : Int) (g : Int → List UInt8 × Nat) (e : Nat) (h0 : e ≠ 0) (h1 : e ≠ 50) (ho : ¬ out base n) (hg : g (base + 2 * n) = ([], e)) : load base n g = (none_, e) := by
  have : look ([], e) 0 none_ = (e, none_) := by unfold look; rw [if_neg h1, if_neg h0]
  unfold load
  rw [if_neg ho, hg, this, if_pos h0]
theorem load_out (base n : Int) (g : Int → List UInt8 × Nat) (ho : out base n) : load base n g = (none_, 1) := by unfold load; rw [if_pos ho]
/-- the second sector is not there -/
theorem load_past {z : Int} {k : Nat} {d : Dk.D} (h : Dk.Q z k d) {base n : Int} (ho : ¬ out base n) (hz : z ≤ base + 2 * n + 1) : load base n (Dk.get2 d) = (none_, 1) := by
  have ho' : 0 ≤ base ∧ 0 ≤ n := by unfold out at ho; omega
  have hs := h.size
  by_cases h2 : z ≤ base + 2 * n
  · exact load_err0 base n _ 1 (by simp) (by simp) ho (Dk.get_out d _ (.inr (by omega)))
  · have l0 := sec_last (Dk.cur d (base + 2 * n)) 0
    have g1 : Dk.get2 d (base + 2 * n + 1) = ([], 1) := Dk.get_out d _ (.inr (by omega))
    have g2 : ∀ b, look ([], 1) 1 b = (1, b) := fun b => rfl
    unfold load
    rw [if_neg ho, look_q h (by omega) (by omega) 0 none_ (Int.le_refl _), if_neg (by simp), g1, g2, if_pos (by simp)]
theorem read_body {turn lsn : Int} {l : List Pg.C} (hm : Pg.may lsn l = true) (h1 : 1 ≤ turn) (h2 : turn ≤ 1099511627776) (rest : List UInt8) : read (body turn lsn l ++ rest) = (lsn, l, turn) := by
  obtain ⟨a1, a2⟩ := Rm.one_num turn 1099511627776 (by omega) h2 (by omega) (Pg.body lsn l ++ rest)
  have hd := Pg.dec_body hm rest
  unfold read body
  rw [List.append_assoc, a1, a2, if_neg (by simp), hd, if_neg (by simp)]
theorem sec_sec {d : Dk.D} {N turn lsn : Int} {l : List Pg.C} (hm : Pg.may lsn l = true) (h1 : 1 ≤ turn) (h2 : turn ≤ 1099511627776) : sec (Dk.secOf d N (body turn lsn l)) (turn % 2) = (lsn, l, turn) := by
  have hb := body_le (turn := turn) hm
  unfold sec
  rw [Dk.opn_sec (by omega)]
  show take (Dk.wantOf (body turn lsn l)) _ _ = _
  unfold Dk.wantOf take
  rw [read_body hm h1 h2, if_pos ⟨by show (0 : Int) < turn; omega, rfl⟩]
theorem zeros_none : Dk.opn Dk.zeros = none := by decide +kernel
theorem sec_zeros (n : Int) : sec Dk.zeros n = none_ := by
  unfold sec
  rw [zeros_none]
theorem one_sec (s : List UInt8) (n : Int) (h : s.length = 256) : one s n = sec s n := by
  have e : openR s = if openOk s then (openB s, 0) else ([], 50) := by unfold openR; rw [if_neg (by omega)]
  unfold one sec Dk.opn
  rw [e]
  cases openOk s <;> simp
theorem not_bad {base n turn lsn : Int} {l : List Pg.C} (h : ¬ bad base n turn lsn l) : ¬ out base n ∧ Pg.may lsn l = true ∧ 1 ≤ turn ∧ turn ≤ 1099511627776 := by
  unfold bad at h
  refine ⟨fun h1 => h (.inl h1), ?_, ?_, ?_⟩
  · cases h1 : Pg.may lsn l with
    | true => rfl
    | false => exact absurd (.inr (.inl h1)) h
  · rcases Int.lt_or_le turn 1 with h1 | h1
    · exact absurd (.inr (.inr (.inl h1))) h
    · exact h1
  · rcases Int.lt_or_le 1099511627776 turn with h1 | h1
    · exact absurd (.inr (.inr (.inr h1))) h
    · exact h1
theorem save_bad {d : Dk.D} {base n turn lsn : Int} {l : List Pg.C} (h : bad base n turn lsn l) : save d base n turn lsn l = (1, d) := by unfold save; rw [if_pos h]
theorem save_q {z : Int} {k : Nat} {d : Dk.D} (h : Dk.Q z k d) {base n turn lsn : Int} {l : List Pg.C} (hb : ¬ bad base n turn lsn l) (hz : at_ base n turn < z) : save d base n turn lsn l = (0, Dk.kept d (at_ base n turn) (body turn lsn l)) := by
  obtain ⟨h1, h2, h3, h4⟩ := not_bad hb
  have hl := body_le (turn := turn) h2
  have ha : 0 ≤ at_ base n turn := by unfold at_; unfold out at h1; omega
  unfold save
  rw [if_neg hb, Dk.put_q h ha hz (by omega), if_neg (by simp), Dk.sync_put h]
theorem save_past {z : Int} {k : Nat} {d : Dk.D} (h : Dk.Q z k d) {base n turn lsn : Int} {l : List Pg.C} (hb : ¬ bad base n turn lsn l) (hz : z ≤ at_ base n turn) : save d base n turn lsn l = (1, d) := by
  obtain ⟨h1, h2, h3, h4⟩ := not_bad hb
  have hl := body_le (turn := turn) h2
  have hs := h.size
  have hp : Dk.put2 d (at_ base n turn) (body turn lsn l) = (1, d) := by
    have hx : Dk.at_ d (at_ base n turn) = 1 := by unfold Dk.at_; exact if_pos (Or.inr (by omega))
    have hr : Dk.read d (at_ base n turn) = ([], 1) := by unfold Dk.read; rw [hx]; rfl
    unfold Dk.put2
    rw [if_neg (by omega), hr, if_pos (by simp)]
  unfold save
  rw [if_neg hb, hp, if_pos (by simp)]
theorem cur_new (z n : Int) : Dk.cur (Dk.new z) n = Dk.zeros := rfl
/-- a page that was saved on a new disk -/
theorem load_saved {z : Int} (hz0 : 1 ≤ z ∧ z ≤ 4096) {base n turn lsn : Int} {l : List Pg.C} (hb : ¬ bad base n turn lsn l) (hz : base + 2 * n + 1 < z) :
    load base n (Dk.get2 (save (Dk.new z) base n turn lsn l).2) = ((lsn, l, turn), 0) := by
  obtain ⟨h1, h2, h3, h4⟩ := not_bad hb
  have ho' : 0 ≤ base ∧ 0 ≤ n := by unfold out at h1; omega
  have hl := body_le (turn := turn) h2
  have hq := Dk.q_new z hz0
  have ha : at_ base n turn < z := by unfold at_; omega
  have ha0 : 0 ≤ at_ base n turn := by unfold at_; omega
  rw [save_q hq hb ha]
  have hk := Dk.kept_q hq (N := at_ base n turn) ha0 ha (p := body turn lsn l) (by omega)
  rw [load_q hk h1 hz, Dk.kept_cur hq, Dk.kept_cur hq]
  have hss := sec_sec (d := Dk.new z) (N := at_ base n turn) h2 h3 h4
  have hsn : ∀ m, sec (Dk.cur (Dk.new z) m) 0 = none_ := fun m => by rw [cur_new, sec_zeros]
  have hsn1 : ∀ m, sec (Dk.cur (Dk.new z) m) 1 = none_ := fun m => by rw [cur_new, sec_zeros]
  have ht : turn % 2 = 0 ∨ turn % 2 = 1 := by omega
  rcases ht with ht | ht
  · have e0 : base + 2 * n = at_ base n turn := by unfold at_; omega
    have e1 : ¬ base + 2 * n + 1 = at_ base n turn := by unfold at_; omega
    rw [if_pos e0, if_neg e1, hsn1]
    rw [ht] at hss
    rw [hss]
    unfold best
    rw [if_neg (by rw [none_last]; show ¬ turn < 0; omega)]
  · have e0 : ¬ base + 2 * n = at_ base n turn := by unfold at_; omega
    have e1 : base + 2 * n + 1 = at_ base n turn := by unfold at_; omega
    rw [if_neg e0, if_pos e1, hsn]
    rw [ht] at hss
    rw [hss]
    unfold best
    rw [if_pos (by rw [none_last]; show 0 < turn; omega)]
end Sp
end Go.Proofs.Ytfcmlfcpgboigaa

/- Pages on a disk of the call's own: saved, loaded; the law's awake of layer 11. -/
namespace Go.Proofs.Ytfcmlfcpgboigaa
open Go.RowKit Mem
set_option maxRecDepth 100000
set_option linter.unusedVariables false
set_option linter.unusedSimpArgs false

theorem own_ssave {w0 w : World} {p : Nat} {d : Dk.D} (h : OwnD w0 w p d) (base n turn lsn : Int) (A : Option Addr) (m c : Nat) (l : List Pg.C) (hok : Dk.Ok d) (hlen : d.pend.length ≤ 999999) (hsy : d.syncs ≤ 999999)
    (hl : ST cellK w A m l) (hm : m ≤ 1000000) (hlsn : -9223372036854775808 ≤ lsn ∧ lsn ≤ 9223372036854775807) :
    Calls Try.prog 48 #[.pointer (some ⟨p, 0, none⟩), .int .i64 base, .int .i64 n, .int .i64 turn, pVal lsn A m c] w fun e w' => e = .returned (.int .i64 ((Sp.save d base n turn lsn l).1 : Nat)) ∧ OwnD w0 w' p (Sp.save d base n turn lsn l).2 := by
  obtain ⟨h1, F, h2, h3⟩ := h
  refine (ssave_any p d F base n turn lsn A m c l w h2 hok hlen hsy hl hm hlsn).mono ?_
  rintro e w' ⟨rfl, hT⟩
  exact ⟨rfl, OwnD.to h1 h3 hT⟩
/-- a page that was made behind the disk is kept -/
theorem own_ssave2 {w0 w1 w : World} {p : Nat} {d : Dk.D} (h : OwnD w0 w1 p d) (hb : Below w1.heap.size w1 w) (base n turn lsn : Int) (A : Option Addr) (m c : Nat) (l : List Pg.C) (hok : Dk.Ok d) (hlen : d.pend.length ≤ 999999) (hsy : d.syncs ≤ 999999)
    (hl : ST cellK w A m l) (hm : m ≤ 1000000) (hlsn : -9223372036854775808 ≤ lsn ∧ lsn ≤ 9223372036854775807) :
    Calls Try.prog 48 #[.pointer (some ⟨p, 0, none⟩), .int .i64 base, .int .i64 n, .int .i64 turn, pVal lsn A m c] w fun e w' => e = .returned (.int .i64 ((Sp.save d base n turn lsn l).1 : Nat)) ∧ OwnD w0 w' p (Sp.save d base n turn lsn l).2 ∧ w.heap.size ≤ w'.heap.size ∧ ∀ k, w1.heap.size ≤ k → k < w.heap.size → w'.heap[k]? = w.heap[k]? := by
  obtain ⟨h1, F, h2, h3⟩ := h
  refine (ssave_any p d F base n turn lsn A m c l w (h2.below_ hb) hok hlen hsy hl hm hlsn).mono ?_
  rintro e w' ⟨rfl, hT⟩
  refine ⟨rfl, OwnD.to (h1.trans (hb.mono h1.size)) h3 hT, ?_, ?_⟩
  · obtain ⟨F', _, g2, _⟩ := hT
    exact g2.size
  · intro k hk1 hk2
    obtain ⟨F', _, g2, _⟩ := hT
    exact g2.block k hk2 (fun hF => by have := h2.bound k hF; omega)
theorem own_sload {w0 w : World} {p : Nat} {d : Dk.D} (h : OwnD w0 w p d) (base n : Int) (hok : Dk.Ok d) :
    Calls Try.prog 49 #[.pointer (some ⟨p, 0, none⟩), .int .i64 base, .int .i64 n] w (PagTE w (Sp.load base n (Dk.get2 d))) := by
  obtain ⟨h1, F, h2, h3⟩ := h
  exact sload_any (some ⟨p, 0, none⟩) base n (Dk.get2 d) w (fun k W hb => get_any p d F k W (h2.below_ hb) hok) (Dk.get_len hok)
theorem nil_sload (n : Int) (hn : 0 ≤ n ∧ n ≤ 4096) (w : World) : Calls Try.prog 49 #[.pointer none, .int .i64 0, .int .i64 n] w (PagTE w (Sp.none_, 2)) := by
  have h := sload_any none 0 n (fun _ => ([], 2)) w (fun k W hb => get_nil k W) (by simp)
  rw [Sp.load_err0 0 n _ 2 (by simp) (by simp) (by unfold Sp.out; omega) rfl] at h
  exact h
theorem sec_first (z N : Int) (p : List UInt8) : (Dk.secOf (Dk.new z) N p).getD 0 0 = 1 := by
  have : Stamp.nextB (Dk.cur (Dk.new z) N) = 1 := by rw [Sp.cur_new]; decide +kernel
  unfold Dk.secOf
  rw [this]
  rfl
set_option maxHeartbeats 8000000 in
theorem awake11_any (w : World) : Calls Try.prog 47 #[] w fun e w' => e = .returned (.bool true) ∧ Below w.heap.size w w' := by
  obtain ⟨l, hl⟩ : ∃ l : List Pg.C, [⟨⟨#[97]⟩, false, ⟨#[]⟩⟩] = l := ⟨_, rfl⟩
  have hm : Pg.may 4 l = true := by rw [← hl]; decide +kernel
  have hbad : ¬ Sp.bad 10 3 1 4 l := by
    unfold Sp.bad Sp.out
    rw [hm]
    simp
  have hat : Sp.at_ 10 3 1 = 17 := by decide
  have hq := Dk.q_new 20 (by omega)
  have hs := Sp.save_q hq hbad (by rw [hat]; omega)
  have hld := Sp.load_saved (z := 20) (by omega) hbad (by omega)
  have hbl := Sp.body_le (turn := 1) hm
  rw [hat] at hs
  have hk := Dk.kept_q hq (N := 17) (by omega) (by omega) (p := Sp.body 1 4 l) (by omega)
  have hrd := Dk.read_q hk (N := 17) (by omega) (by omega)
  rw [Dk.kept_cur hq, if_pos rfl] at hrd
  have hsl := Dk.secOf_length (Dk.new 20) 17 (Sp.body 1 4 l) (by omega)
  have hfi := sec_first 20 17 (Sp.body 1 4 l)
  rw [hs] at hld
  simp only at hld
  have hll : l.length = 1 := by rw [← hl]; rfl
  generalize Dk.secOf (Dk.new 20) 17 (Sp.body 1 4 l) = S at *
  have hok := hk.ok
  generalize Dk.kept (Dk.new 20) 17 (Sp.body 1 4 l) = d at *
  have H := Lib.hid (And.intro hs (And.intro hld (And.intro hrd (And.intro hsl (And.intro hfi (And.intro hok hl))))))
  clear hs hld hrd hsl hfi hok hl hk hq hbl hat hbad hm
  go_enter Try.func47, Try.ntmps47
  go_wp2_with fail
  refine (own_new 20 (by omega) w w (Below.refl _ _)).mono ?_
  rintro e w1 ⟨p, rfl, ho⟩
  have hc := st_made w1 ⟨⟨#[97]⟩, false, ⟨#[]⟩⟩ ⟨by decide, by decide⟩
  rw [H.out.2.2.2.2.2.2] at hc
  have hb1 : Below w1.heap.size w1 (w1.alloc (.cells (cCells ⟨⟨#[97]⟩, false, ⟨#[]⟩⟩) 40)) := (Below.refl _ _).alloc (Nat.le_refl _) _
  have hb2 : Below w1.heap.size w1 ((w1.alloc (.cells (cCells ⟨⟨#[97]⟩, false, ⟨#[]⟩⟩) 40)).alloc (.cells (pCells 4 (some ⟨w1.heap.size, 0, none⟩) 1 1) 24)) := hb1.alloc (by simp) _
  have hk2 : Blk ((w1.alloc (.cells (cCells ⟨⟨#[97]⟩, false, ⟨#[]⟩⟩) 40)).alloc (.cells (pCells 4 (some ⟨w1.heap.size, 0, none⟩) 1 1) 24)) (w1.heap.size + 1) 24 (pCells 4 (some ⟨w1.heap.size, 0, none⟩) 1 1) := by
    have := Blk.new (w1.alloc (.cells (cCells ⟨⟨#[97]⟩, false, ⟨#[]⟩⟩) 40)) 24 (pCells 4 (some ⟨w1.heap.size, 0, none⟩) 1 1)
    simpa using this
  have hc2 := hc.below ((Below.refl _ _).alloc (Nat.le_refl _) (.cells (pCells 4 (some ⟨w1.heap.size, 0, none⟩) 1 1) 24))
  have hsv := own_ssave2 ho hb2 10 3 1 4 (some ⟨w1.heap.size, 0, none⟩) 1 1 l (Dk.new_ok 20 (by omega)) (by simp [Dk.new]) (by simp [Dk.new]) hc2 (by omega) (by omega)
  rw [H.out.1] at hsv
  have hb12 : w1.heap.size + 1 < ((w1.alloc (.cells (cCells ⟨⟨#[97]⟩, false, ⟨#[]⟩⟩) 40)).alloc (.cells (pCells 4 (some ⟨w1.heap.size, 0, none⟩) 1 1) 24)).heap.size := by simp
  have H1 := Lib.hid (And.intro hsv (And.intro hk2 hc2))
  clear ho hc hb1 hb2 hk2 hc2 hsv
  go_wp2_with fail
  generalize (w1.alloc (.cells #[.string ⟨#[97]⟩, .bool false, .string ⟨#[]⟩] 40)).alloc (.cells #[.int .i64 4, .slice (some ⟨w1.heap.size, 0, none⟩) 1 1] 24) = w2 at *
  generalize w1.heap.size = q at *
  refine H1.out.1.mono ?_
  rintro e w3 ⟨rfl, ho3, hs3, hkp⟩
  have hk3 := H1.out.2.1.keep (hkp (q + 1) (by omega) hb12)
  have hst3 : ST cellK w3 (some ⟨q, 0, none⟩) 1 l := by
    obtain ⟨g1, g2, g3⟩ := H1.out.2.2
    refine ⟨g1, g2, fun h => ?_⟩
    obtain ⟨b, off, e, h1, h2⟩ := g3 h
    injection e with e
    injection e with e1 e2 _
    subst e1 e2
    exact ⟨q, 0, rfl, by omega, fun i hi j hj => (World.cell?_of_block (hkp q (Nat.le_refl _) (by omega))).trans (h2 i hi j hj)⟩
  have hld := own_sload ho3 10 3 H.out.2.2.2.2.2.1
  rw [H.out.2.1] at hld
  have H3 := Lib.hid (And.intro ho3 (And.intro hk3 (And.intro hst3 hld)))
  clear ho3 hkp hk3 hst3 hld hs3 hb12
  go_wp2_with fail
  refine H3.out.2.2.2.mono ?_
  rintro e w4 ⟨A4, c4, rfl, ho4, hb4⟩
  simp only [hll] at ho4 ⊢
  have hb5 : Below w4.heap.size w4 (w4.alloc (.cells (pCells 4 A4 1 c4) 24)) := (Below.refl _ _).alloc (Nat.le_refl _) _
  have hb35 := hb4.trans (hb5.mono hb4.size)
  have hst4 : ST cellK (w4.alloc (.cells (pCells 4 A4 1 c4) 24)) A4 1 l := (ST.of_own (K := cellK) (l := l) cellK_len (by decide) ho4 (H3.out.2.2.1.ok · ·)).below hb5
  have hlt4 : q + 1 < w4.heap.size := by have := H3.out.2.1.lt; have := hb4.size; omega
  have H5 := Lib.hid (And.intro (H3.out.1.grow hb35) (And.intro (H3.out.2.1.below hb35 H3.out.2.1.lt) (And.intro (H3.out.2.2.1.below hb35) (And.intro (Blk.new w4 24 (pCells 4 A4 1 c4)) hst4))))
  clear ho4 hb4 hb5 hb35 hst4
  go_wp2_with fail
  generalize w4.alloc (.cells #[.int .i64 4, .slice A4 1 c4] 24) = w5 at *
  have hrd := own_read H5.out.1 H.out.2.2.2.2.2.1 17
  rw [H.out.2.2.1] at hrd
  refine hrd.mono ?_
  clear hrd
  rintro e w6 ⟨A6, c6, rfl, hB6, hc6, hm6, hb6, _⟩
  simp only [H.out.2.2.2.1] at hB6 hc6 ⊢
  have hk6 := H5.out.2.1.below hb6 H5.out.2.1.lt
  have hz6 := H5.out.2.2.2.1.below hb6 H5.out.2.2.2.1.lt
  have p0 : w6.cell? ⟨q + 1, 0, none⟩ = some (.int .i64 4) := hk6.cell 0
  have p1 : w6.cell? ⟨q + 1, 1, none⟩ = some (.slice (some ⟨q, 0, none⟩) 1 1) := hk6.cell 1
  have z0 : w6.cell? ⟨w4.heap.size, 0, none⟩ = some (.int .i64 4) := hz6.cell 0
  have z1 : w6.cell? ⟨w4.heap.size, 1, none⟩ = some (.slice A4 1 c4) := hz6.cell 1
  have H6 := Lib.hid (And.intro hB6 (And.intro (H5.out.2.2.1.below hb6) (And.intro (H5.out.2.2.2.2.below hb6) (H5.out.1.grow hb6).1)))
  clear hB6 hb6 hk6 hz6
  go_wp2_with fail
  refine (same10_eq 4 (some ⟨q, 0, none⟩) A4 1 1 c4 l w6 H6.out.2.1 H6.out.2.2.1 (by omega)).mono ?_
  rintro e w7 ⟨rfl, hb7⟩
  obtain ⟨b, off, rfl, hlb, hcb⟩ := (H6.out.1.below hb7).2 (by omega)
  have hc0 : w7.cell? ⟨b, off, none⟩ = some (.int .u8 1) := by
    have h := hcb 0 (by rw [H.out.2.2.2.1]; omega)
    rw [H.out.2.2.2.2.1] at h
    exact h
  have H7 := Lib.hid (H6.out.2.2.2.trans (hb7.mono H6.out.2.2.2.size))
  clear hb7 hcb
  go_wp2_with fail
  go_ret
  exact ⟨rfl, H7.out⟩
end Go.Proofs.Ytfcmlfcpgboigaa
