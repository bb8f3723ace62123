/- SlotLoads: whatever stands in both sectors, what is loaded is the document's; no condition. -/
import Derived.Test.YtfcmlfcpgboigaaSlotAll
import Derived.Test.YtfcmlfcpgboigaaLift
namespace Go.Proofs.Ytfcmlfcpgboigaa.slotLoads
open Go.ChangeShapes Go.WideShapes Go.ChangeAt Go.RowKit Mem Lift
set_option linter.unusedVariables false
set_option linter.unusedSimpArgs false
set_option maxRecDepth 100000

theorem below_then {w w1 w2 : World} (h : Below w.heap.size w w1) (k : Below w1.heap.size w1 w2) : Below w.heap.size w w2 := h.trans (k.mono h.size)
theorem openR_cases (s : List UInt8) (h : s.length = 256) : (Stamp.openR s).2 = 0 ∨ Stamp.openR s = ([], 50) := by
  unfold Stamp.openR
  rw [if_neg (by omega)]
  cases Stamp.openOk s <;> simp
theorem one_last (s : List UInt8) (n : Int) (h : s.length = 256) : 0 ≤ (Sp.one s n).2.2 ∧ ((Sp.one s n).2.2 = 0 → Sp.one s n = Sp.none_) := by
  rw [Sp.one_sec s n h]; exact Sp.sec_last s n
theorem look_one (s : List UInt8) (n : Int) (b : Sp.B) (h : s.length = 256) (hb : 0 ≤ b.2.2) : Sp.look (Stamp.openR s) n b = (0, Sp.best b (Sp.one s n)) := by
  rcases openR_cases s h with h0 | h0
  · have e : Sp.one s n = Sp.take (Stamp.openR s).1 n Sp.none_ := by unfold Sp.one; rw [if_neg (by rw [h0]; simp)]
    rw [e]
    unfold Sp.look
    rw [if_neg (by omega), if_pos h0, Sp.take_best _ _ _ hb]
  · have e : Sp.one s n = Sp.none_ := by unfold Sp.one; rw [h0]; rfl
    rw [e, h0]
    unfold Sp.look Sp.best
    rw [if_pos rfl, if_neg (by rw [Sp.none_last]; omega)]
theorem load_of (g : Int → List UInt8 × Nat) (s t : List UInt8) (hs : s.length = 256) (ht : t.length = 256) (h0 : g 4 = Stamp.openR s) (h1 : g 5 = Stamp.openR t) :
    Sp.load 2 1 g = (Sp.load2 s t, 0) := by
  have l0 := one_last s 0 hs
  have e4 : (2 : Int) + 2 * 1 = 4 := by omega
  have e5 : (4 : Int) + 1 = 5 := by omega
  unfold Sp.load
  rw [if_neg (by unfold Sp.out; omega), e4, e5, h0, h1, look_one s 0 Sp.none_ hs (Int.le_refl _), if_neg (by simp), Sp.best_none _ l0.1 l0.2, look_one t 1 _ ht l0.1, if_neg (by simp)]
  rfl
/-- both sectors, written -/
def dd (s t : List UInt8) : Dk.D := Dk.put (Dk.put (Dk.new 6) 4 s) 5 t
theorem dd_facts (s t : List UInt8) (hs : s.length = 256) (ht : t.length = 256) : Dk.write (Dk.new 6) 4 s = (0, Dk.put (Dk.new 6) 4 s) ∧ Dk.Ok (Dk.put (Dk.new 6) 4 s) ∧ Dk.write (Dk.put (Dk.new 6) 4 s) 5 t = (0, dd s t) ∧ Dk.Ok (dd s t) ∧ Dk.get2 (dd s t) 4 = Stamp.openR s ∧ Dk.get2 (dd s t) 5 = Stamp.openR t := by
  have o1 : Dk.Ok (Dk.put (Dk.new 6) 4 s) := Dk.put_ok (Dk.new_ok 6 (by omega)) 4 s hs (by simp [Dk.new])
  have o2 : Dk.Ok (dd s t) := Dk.put_ok o1 5 t ht (by simp [Dk.new, Dk.put])
  refine ⟨Dk.write_on _ _ _ (by simp [Dk.new]) hs rfl rfl, o1, Dk.write_on _ _ _ (by simp [Dk.new, Dk.put]) ht rfl rfl, o2, ?_, ?_⟩
  · have hr : Dk.read (dd s t) 4 = (s, 0) := rfl
    unfold Dk.get2
    rw [hr]
    rfl
  · have hr : Dk.read (dd s t) 5 = (t, 0) := rfl
    unfold Dk.get2
    rw [hr]
    rfl
/-- what is decoded has short texts -/
theorem dec_ok_small (b : List UInt8) : ∀ x ∈ (Pg.dec b).2.1, x.key.size ≤ 9223372036854775807 ∧ x.data.size ≤ 9223372036854775807 := by
  intro x hx
  rcases Pg.dec_cases b with ⟨_, _, h⟩ | ⟨_, h, _⟩
  · rw [h] at hx; cases hx
  · have := Pg.fits_sizes (Pg.rise_fits _ _ (Pg.may_parts h).1 x hx)
    omega
theorem read_small (b : List UInt8) : ∀ x ∈ (Sp.read b).2.1, x.key.size ≤ 9223372036854775807 ∧ x.data.size ≤ 9223372036854775807 := by
  unfold Sp.read
  split
  · intro x hx; cases hx
  · split
    · intro x hx; cases hx
    · exact dec_ok_small _
theorem one_small (s : List UInt8) (n : Int) : ∀ x ∈ (Sp.one s n).2.1, x.key.size ≤ 9223372036854775807 ∧ x.data.size ≤ 9223372036854775807 := by
  unfold Sp.one Sp.take
  split
  · intro x hx; cases hx
  · split
    · exact read_small _
    · intro x hx; cases hx
theorem load2_small (s t : List UInt8) : ∀ x ∈ (Sp.load2 s t).2.1, x.key.size ≤ 9223372036854775807 ∧ x.data.size ≤ 9223372036854775807 := by
  unfold Sp.load2 Sp.best
  split
  · exact one_small _ _
  · exact one_small _ _
theorem one_len (s : List UInt8) (n : Int) : (Sp.one s n).2.1.length ≤ 4 := by
  have hd : ∀ b, (Pg.dec b).2.1.length ≤ 4 := fun b => by
    rcases Pg.dec_cases b with ⟨_, _, h⟩ | ⟨_, h, _⟩
    · rw [h]; simp
    · exact (Pg.may_parts h).2.2.2
  have hr : ∀ b, (Sp.read b).2.1.length ≤ 4 := fun b => by
    unfold Sp.read
    split
    · simp
    · split
      · simp
      · exact hd _
  unfold Sp.one Sp.take
  split
  · simp [Sp.none_]
  · split
    · exact hr _
    · simp [Sp.none_]
theorem load2_len (s t : List UInt8) : (Sp.load2 s t).2.1.length ≤ 4 := by
  unfold Sp.load2 Sp.best
  split
  · exact one_len _ _
  · exact one_len _ _
theorem own_write2 {w0 w : World} {p : Nat} {d : Dk.D} (h : OwnD w0 w p d) (hok : Dk.Ok d) (n : Int) (A : Option Addr) (m cap : Nat) (bs : List UInt8) (hm : 0 < m) (hbs : BS w0 A m bs) (hlen : d.pend.length ≤ 1000000) :
    Calls Try.prog 27 #[.pointer (some ⟨p, 0, none⟩), .int .i64 n, .slice A m cap] w fun e w' => e = .returned (.int .i64 ((Dk.write d n bs).1 : Int)) ∧ OwnD w0 w' p (Dk.write d n bs).2 := by
  obtain ⟨h1, F, h2, h3⟩ := h
  refine (write_any p d F n A m cap bs w h2 hok (hbs.below h1) (fun a e x => ?_) hlen).mono ?_
  · obtain ⟨b, off, rfl, hb, _⟩ := hbs.2 hm
    injection e with e
    subst e
    have := h3 _ x
    simp only at this
    omega
  · rintro e w' ⟨rfl, hT⟩
    exact ⟨rfl, OwnD.to h1 h3 hT⟩
/-- two rows of the call's own, apart -/
structure Pair (w0 w : World) (v u : Value) (n m : Nat) (l k : List UInt8) : Prop where
  a : w.ownsRow w0.heap.size 5 1 v n (u8s l)
  b : w.ownsRow w0.heap.size 5 1 u m (u8s k)
  ne : ∀ j, v.ownBlock = some j → u.ownBlock ≠ some j
  below : Below w0.heap.size w0 w
theorem Pair.swap {w0 w : World} {v u : Value} {n m : Nat} {l k : List UInt8} (h : Pair w0 w v u n m l k) : Pair w0 w u v m n k l := ⟨h.b, h.a, fun j hj e => h.ne j e hj, h.below⟩
theorem Pair.grow {w0 w w1 : World} {v u v' : Value} {n m n' : Nat} {l k l' : List UInt8} (h : Pair w0 w v u n m l k) (o : Obj) (hg : (w.alloc o).grownBy w1 v.ownBlock) (ho : w1.ownsRow w0.heap.size 5 1 v' n' (u8s l')) (hat : v'.ownBlock = v.ownBlock ∨ v'.ownBlock = some (w.alloc o).heap.size) : Pair w0 w1 v' u n' m l' k := by
  have hu : ∀ j, u.ownBlock = some j → j < w.heap.size := fun j hj => own_lt h.b hj
  refine ⟨ho, own_keep h.b (fun j hj => ?_), fun j hj e => ?_, ?_⟩
  · have h1 := hg.block j (by simp; have := hu j hj; omega) (fun e => h.ne j (by simpa using e.symm) hj)
    rw [h1, Below.heap_alloc w o j (hu j hj)]
  · rcases hat with hat | hat
    · rw [hat] at hj; exact h.ne j hj e
    · rw [hat] at hj
      have := hu j e
      simp at hj
      omega
  · exact (h.below.alloc h.below.size o).grown hg (by simp; have := h.below.size; omega) (fun j hj => own_ge h.a hj)
theorem second (w1 : World) (m : Nat) (B : Option Addr) (cs : List UInt8) (h : BS w1 B m cs) : BS (w1.alloc (.cells #[] 5)) B m cs ∧ (w1.alloc (.cells #[] 5)).ownsRow w1.heap.size 5 1 (.slice (some ⟨w1.heap.size, 0, none⟩) 0 0) 0 (u8s []) :=
  ⟨h.keep (by simp) (fun b hb => Below.heap_alloc _ _ _ hb), own_of_blk (l := []) (heap_alloc_new w1 _) rfl rfl (Nat.le_refl _) (by unfold maxLen; omega)⟩
theorem pair_of {w w1 w2 : World} {v1 v2 : Value} {n m : Nat} {l k : List UInt8} (h1 : w1.ownsRow w.heap.size 5 1 v1 n (u8s [] ++ u8s l)) (hb : Below w.heap.size w w1) (h2 : w2.ownsRow w1.heap.size 5 1 v2 m (u8s [] ++ u8s k)) (hg : (w1.alloc (.cells #[] 5)).grownBy w2 (Value.slice (some ⟨w1.heap.size, 0, none⟩) 0 0).ownBlock) : Pair w w2 v1 v2 n m l k := by
  refine ⟨own_keep h1 (fun j hj => ?_), own_base h2 hb.size, fun j hj e => ?_, ?_⟩
  · have hl := own_lt h1 hj
    rw [hg.block j (by simp; omega) (fun e => by simp [Value.ownBlock] at e; omega), Below.heap_alloc w1 _ j hl]
  · have := own_lt h1 hj
    have := own_ge h2 e
    omega
  · exact (hb.alloc hb.size _).grown hg (by simp; have := hb.size; omega) (fun j hj => by simp [Value.ownBlock] at hj; have := hb.size; omega)
set_option maxHeartbeats 8000000 in
theorem walk (A : Option Addr) (n c : Nat) (bs : List UInt8) (B : Option Addr) (m d : Nat) (cs : List UInt8) (w : World) (hA : BS w A n bs) (hn : n ≤ c) (hc : c ≤ maxLen) (hB : BS w B m cs) (hm : m ≤ d) (hd : d ≤ maxLen) :
    Calls Try.prog 12 #[.slice A n c, .slice B m d] w fun e w' => e = .returned (.bool true) ∧ Below w.heap.size w w' := by
  unfold maxLen at hc hd
  by_cases h1 : 256 < n ∨ 256 < m
  · clear hA hB
    by_cases h2 : 256 < n
    · have g1 : decide (256 < (n : Int)) = true := by simp; omega
      go_enter Try.func12, Try.ntmps12
      go_wp2_with fail
      refine (awake11_any w).mono ?_
      rintro e w1 ⟨rfl, hb1⟩
      have H1 := Lib.hid hb1
      clear hb1
      go_wp2
      go_ret
      exact ⟨rfl, H1.out⟩
    · have g1 : decide (256 < (n : Int)) = false := by simp; omega
      have g2 : decide (256 < (m : Int)) = true := by simp; omega
      go_enter Try.func12, Try.ntmps12
      go_wp2_with fail
      refine (awake11_any w).mono ?_
      rintro e w1 ⟨rfl, hb1⟩
      have H1 := Lib.hid hb1
      clear hb1
      go_wp2
      go_ret
      exact ⟨rfl, H1.out⟩
  have g1 : decide (256 < (n : Int)) = false := by simp; omega
  have g2 : decide (256 < (m : Int)) = false := by simp; omega
  obtain ⟨i0, hi0, hz0, hz1, hz2⟩ := info_parts ninfo8
  have HI := Lib.hid (And.intro hi0 (And.intro hz0 (And.intro hz1 hz2)))
  have HA := Lib.hid (And.intro hA hB)
  have hA' : BS (w.alloc (.cells #[] 5)) A n bs := hA.keep (by simp) (fun b hb => Below.heap_alloc _ _ _ hb)
  have hE : (w.alloc (.cells #[] 5)).ownsRow w.heap.size 5 1 (.slice (some ⟨w.heap.size, 0, none⟩) 0 0) 0 (u8s []) := own_of_blk (l := []) (heap_alloc_new w _) rfl rfl (Nat.le_refl _) (by unfold maxLen; omega)
  have H0 := Lib.hid (And.intro hA' hE)
  clear hA hB hA' hE hi0 hz0 hz1 hz2
  go_enter Try.func12, Try.ntmps12
  go_wp2_with (first
    | (at_builtin; refine wpList_append_bs _ rfl (.tmp 23) (.tmp 24) 42 rfl w.heap.size 5 i0 Try.underlying42 HI.out.1 HI.out.2.1 HI.out.2.2.1 HI.out.2.2.2 (.slice (some ⟨w.heap.size, 0, none⟩) 0 0) 0 (u8s []) rfl H0.out.2 A n c bs rfl H0.out.1 (by omega) (by simp) ?_; intro v1 w1 hown1 hg1 hat1; have hbw1 := ((Below.refl w.heap.size w).alloc (Nat.le_refl _) (.cells #[] 5)).grown hg1 (by simp) (fun j hj => own_ge H0.out.2 hj); have H1 := Lib.hid (second w1 m B cs (HA.out.2.below hbw1)); have H1b := Lib.hid (And.intro hown1 hbw1); clear hown1 hg1 hat1 hbw1)
    | (at_builtin; refine wpList_append_bs _ rfl (.tmp 26) (.tmp 27) 42 rfl w1.heap.size 5 i0 Try.underlying42 HI.out.1 HI.out.2.1 HI.out.2.2.1 HI.out.2.2.2 (.slice (some ⟨w1.heap.size, 0, none⟩) 0 0) 0 (u8s []) rfl H1.out.2 B m d cs rfl H1.out.1 (by omega) (by simp) ?_; intro v2 w2 hown2 hg2 hat2; have H2 := Lib.hid (And.intro hown2 hg2); clear hown2 hg2 hat2))
  rw [Nat.zero_add] at H1b H2
  have hpair := pair_of H1b.out.1 H1b.out.2 H2.out.1 H2.out.2
  have HP := Lib.hid hpair
  clear hpair H2 H1 H1b H0
  go_loopw [5] (fun v wr => ∃ (L : Nat) (l : List UInt8), L ≤ 256 ∧ Pair w wr v v2 L m l cs) (fun v _ => 256 - sliceLen v)
  case atStart => exact ⟨_, _, by omega, HP.out⟩
  case round =>
    obtain ⟨L, l, hL, hp⟩ := hrel
    obtain ⟨A1, c1, rfl⟩ := own_slice hp.a
    by_cases hlt : L < 256
    · have hB0 : BS (wr.alloc (.cells #[Value.int .u8 0] 5)) (some ⟨wr.heap.size, 0, none⟩) 1 [0] := BS.made wr _ _ _ [0] rfl
      have HO := Lib.hid (And.intro (hp.a.alloc (.cells #[Value.int .u8 0] 5)) (And.intro hp hB0))
      have hs := hp.below.size
      clear hp hB0
      go_wp2_with (at_builtin; refine wpList_append_bs _ rfl (.tmp 32) (.tmp 33) 42 rfl w.heap.size 5 i0 Try.underlying42 HI.out.1 HI.out.2.1 HI.out.2.2.1 HI.out.2.2.2 (.slice A1 L c1) L (u8s l) rfl HO.out.1 (some ⟨wr.heap.size, 0, none⟩) 1 1 [0] rfl HO.out.2.2 (by omega) (by simp; omega) ?_; intro v9 w9 hown9 hg9 hat9)
      rw [← u8s_append] at hown9
      have HG := Lib.hid (HO.out.2.1.grow _ hg9 hown9 hat9)
      obtain ⟨A9, c9, rfl⟩ := own_slice hown9
      clear hown9 hg9 hat9
      go_roundw
      case rel => exact ⟨L + 1, _, by omega, HG.out⟩
      case measure => simp [sliceLen]; omega
    obtain rfl : L = 256 := by omega
    have HP := Lib.hid hp
    clear hp
    generalize wr = w3 at *
    generalize l = la at *
    go_wp2_with fail
    go_loopw [6] (fun v wr => ∃ (L : Nat) (l : List UInt8), L ≤ 256 ∧ Pair w wr v (.slice A1 256 c1) L 256 l la) (fun v _ => 256 - sliceLen v)
    case atStart => exact ⟨_, _, by omega, HP.out.swap⟩
    case round =>
      obtain ⟨L, l, hL, hp⟩ := hrel
      obtain ⟨A2, c2, rfl⟩ := own_slice hp.a
      by_cases hlt : L < 256
      · have hB0 : BS (wr.alloc (.cells #[Value.int .u8 0] 5)) (some ⟨wr.heap.size, 0, none⟩) 1 [0] := BS.made wr _ _ _ [0] rfl
        have HO := Lib.hid (And.intro (hp.a.alloc (.cells #[Value.int .u8 0] 5)) (And.intro hp hB0))
        have hs := hp.below.size
        clear hp hB0
        go_wp2_with (at_builtin; refine wpList_append_bs _ rfl (.tmp 38) (.tmp 39) 42 rfl w.heap.size 5 i0 Try.underlying42 HI.out.1 HI.out.2.1 HI.out.2.2.1 HI.out.2.2.2 (.slice A2 L c2) L (u8s l) rfl HO.out.1 (some ⟨wr.heap.size, 0, none⟩) 1 1 [0] rfl HO.out.2.2 (by omega) (by simp; omega) ?_; intro v9 w9 hown9 hg9 hat9)
        rw [← u8s_append] at hown9
        have HG := Lib.hid (HO.out.2.1.grow _ hg9 hown9 hat9)
        obtain ⟨A9, c9, rfl⟩ := own_slice hown9
        clear hown9 hg9 hat9
        go_roundw
        case rel => exact ⟨L + 1, _, by omega, HG.out⟩
        case measure => simp [sliceLen]; omega
      obtain rfl : L = 256 := by omega
      have HQ := Lib.hid hp.swap
      clear hp
      have hla := own_len HQ.out.a
      have hlb := own_len HQ.out.b
      obtain ⟨f1, f2, f3, f4, f5, f6⟩ := dd_facts la l hla hlb
      have hload := load_of (Dk.get2 (dd la l)) la l hla hlb f5 f6
      have hca := own_cap HQ.out.a
      have hcb := own_cap HQ.out.b
      have hsm := load2_small la l
      have hln := load2_len la l
      have HD := Lib.hid (And.intro f1 (And.intro f2 (And.intro f3 (And.intro f4 (And.intro hload hsm)))))
      clear f1 f2 f3 f4 f5 f6 hload hsm
      obtain ⟨bm, hbm⟩ : ∃ x, Sp.load2 la l = x := ⟨_, rfl⟩
      rw [hbm] at HD hln
      obtain ⟨lsn2, l2, t2⟩ := bm
      simp only at HD hln
      have HB := Lib.hid hbm
      clear hbm
      go_wp2_with fail
      refine (own_new 6 (by omega) wr wr (Below.refl _ _)).mono ?_
      rintro e w4 ⟨p, rfl, ho4⟩
      have H4 := Lib.hid ho4
      clear ho4
      go_wp2_with fail
      refine (own_write2 H4.out (Dk.new_ok 6 (by omega)) 4 A1 256 c1 la (by omega) (BS.of_own HQ.out.a) (by simp [Dk.new])).mono ?_
      rw [HD.out.1]
      rintro e w5 ⟨rfl, ho5⟩
      have H5 := Lib.hid ho5
      clear ho5
      go_wp2_with fail
      refine (own_write2 H5.out HD.out.2.1 5 A2 256 c2 l (by omega) (BS.of_own HQ.out.b) (by simp [Dk.new, Dk.put])).mono ?_
      rw [HD.out.2.2.1]
      rintro e w6 ⟨rfl, ho6⟩
      have H6 := Lib.hid ho6
      clear ho6
      go_wp2_with fail
      have hld := own_sload H6.out 2 1 HD.out.2.2.2.1
      rw [HD.out.2.2.2.2.1] at hld
      refine hld.mono ?_
      clear hld
      rintro e w7 ⟨A7, c7, rfl, ho7, hb7⟩
      simp only at ho7 ⊢
      have hb78 : Below w7.heap.size w7 (w7.alloc (.cells (pCells lsn2 A7 l2.length c7) 24)) := (Below.refl _ _).alloc (Nat.le_refl _) _
      have hb8 := (H6.out.grow (hb7.trans (hb78.mono hb7.size))).1
      have H8 := Lib.hid (And.intro ((ST.of_own (K := cellK) (l := l2) cellK_len (by decide) ho7 HD.out.2.2.2.2.2).below hb78) (And.intro (Blk.new w7 24 (pCells lsn2 A7 l2.length c7)) hb8))
      clear ho7 hb7 hb78 hb8
      go_wp2_with fail
      generalize w7.alloc (.cells #[.int .i64 lsn2, .slice A7 l2.length c7] 24) = w8 at *
      generalize w7.heap.size = q1 at *
      have hrl := ref11load_any A1 256 c1 la A2 256 c2 l w8 ((BS.of_own HQ.out.a).below H8.out.2.2) ((BS.of_own HQ.out.b).below H8.out.2.2) (by omega) (by omega) hca.1 hcb.1 hca.2 hcb.2
      rw [HB.out] at hrl
      refine hrl.mono ?_
      clear hrl
      rintro e w9 ⟨A9, c9, rfl, ho9, hb9⟩
      simp only at ho9 ⊢
      have hb90 : Below w9.heap.size w9 (w9.alloc (.cells (pCells lsn2 A9 l2.length c9) 24)) := (Below.refl _ _).alloc (Nat.le_refl _) _
      have hb80 := hb9.trans (hb90.mono hb9.size)
      have hk1 := H8.out.2.1.below hb80 H8.out.2.1.lt
      have hk2 := Blk.new w9 24 (pCells lsn2 A9 l2.length c9)
      have hlt9 : q1 < w9.heap.size := by have := H8.out.2.1.lt; have := hb9.size; omega
      have a0 : (w9.alloc (.cells (pCells lsn2 A9 l2.length c9) 24)).cell? ⟨q1, 0, none⟩ = some (.int .i64 lsn2) := hk1.cell 0
      have a1 : (w9.alloc (.cells (pCells lsn2 A9 l2.length c9) 24)).cell? ⟨q1, 1, none⟩ = some (.slice A7 l2.length c7) := hk1.cell 1
      have b0 : (w9.alloc (.cells (pCells lsn2 A9 l2.length c9) 24)).cell? ⟨w9.heap.size, 0, none⟩ = some (.int .i64 lsn2) := hk2.cell 0
      have b1 : (w9.alloc (.cells (pCells lsn2 A9 l2.length c9) 24)).cell? ⟨w9.heap.size, 1, none⟩ = some (.slice A9 l2.length c9) := hk2.cell 1
      have hsa := same10_eq lsn2 A7 A9 l2.length c7 c9 l2 _ (H8.out.1.below hb80) ((ST.of_own (K := cellK) (l := l2) cellK_len (by decide) ho9 HD.out.2.2.2.2.2).below hb90) (by omega)
      have hbw := below_then HQ.out.below (H8.out.2.2.trans (hb80.mono H8.out.2.2.size))
      have H10 := Lib.hid (And.intro hsa hbw)
      clear ho9 hb9 hb90 hb80 hk1 hk2 hsa hbw
      go_wp2_with fail
      refine H10.out.1.mono ?_
      rintro e w11 ⟨rfl, hb11⟩
      have H11 := Lib.hid (below_then H10.out.2 hb11)
      clear hb11
      go_wp2_with fail
      refine (awake11_any w11).mono ?_
      rintro e w12 ⟨rfl, hb12⟩
      have H12 := Lib.hid (below_then H11.out hb12)
      clear hb12
      go_wp2_with fail
      go_ret
      exact ⟨rfl, H12.out⟩

theorem own : ownKnob Try.prog.godebug = none := by kernel_rfl
theorem laidOut : laidOutB Try.prog = true := by kernel_rfl
theorem params_ok : ∀ t ∈ Try.f12.params.toList, Try.prog.readableRec t = true ∧ t < Try.prog.types.size := by
  rw [Try.params12]
  intro t ht
  have ht' : t = 42 := by
    simpa using ht
  subst ht'
  exact ⟨(show Try.prog.readableRec 42 = true by kernel_rfl), of_decide_eq_true (show decide (42 < Try.prog.types.size) = true by kernel_rfl)⟩

set_option maxRecDepth 100000 in
theorem contract (H : Type) (enc : TypeId × Value → H) (W : World) (base : Nat) (args : Array Value) (ds gs : List (DataW H)) (before : List MemPlace)
    (hval : ∀ (j : Nat) t v, Try.f12.params[j]? = some t → args[j]? = some v → Value.okWide Try.prog W .any base t v)
    (hW : DataW.Whole enc Try.prog Try.f12.params.toList Rows.slotLoadsSpec.vars false W args.toList ds gs before) :
    Calls Try.prog 12 args W fun e W' => ∃ v, e = .returned v ∧ Rows.slotLoadsSpec.post enc Try.prog Try.f12 false true false false W args v W' := by
  have hW' := hW
  obtain ⟨p, q, hA0, hV, rfl, hfz, hnd⟩ := hW
  have hA : DataW.TrodAll enc Try.prog W 0 (fun _ => true) true Try.f12.params.toList args.toList ds p := hA0
  rw [Try.params12] at hA hval
  obtain ⟨v0, vs0, d0, ds0, p0, q0, hargs, rfl, rfl, h0, r0⟩ := trodAll_cons hA
  obtain ⟨v1, vs1, d1, ds1, p1, q1, rfl, rfl, rfl, h1, r1⟩ := trodAll_cons r0
  obtain ⟨rfl, rfl, rfl⟩ := trodAll_nil r1
  obtain rfl : args = #[v0, v1] := by cases args; simp_all
  obtain ⟨rfl, rfl⟩ := trodVars_none hV
  obtain ⟨A0, n0, c0, bs0, rfl, bs0h, nc0, cm0, dd0⟩ := open_bytes Try.underlying42 Try.underlying5 (show Try.prog.cellsOf 5 = 1 by kernel_rfl) (hval 0 42 v0 rfl rfl) h0
  obtain ⟨A1, n1, c1, bs1, rfl, bs1h, nc1, cm1, dd1⟩ := open_bytes Try.underlying42 Try.underlying5 (show Try.prog.cellsOf 5 = 1 by kernel_rfl) (hval 1 42 v1 rfl rfl) h1
  refine (walk A0 n0 c0 bs0 A1 n1 c1 bs1 W bs0h nc0 cm0 bs1h nc1 cm1).mono fun e W' ⟨he, bel⟩ => ?_
  exact ⟨_, he, post_true laidOut Try.underlying4 (show Try.f12.resultTypes = #[4] from rfl) params_ok rfl hW' rfl bel⟩

theorem laid_met (os : Os) : laidMet Try.prog Rows.slotLoadsRow.laid ((World.holding Try.prog os ⟨#[], #[], []⟩).forCall (fun _ _ => 0) ⟨#[], #[.slice none 0 0, .slice none 0 0], []⟩).memory :=
  laidMet_of_run' 8 (by kernel_rfl) (by kernel_rfl)
theorem reads (os : Os) {H : Type} (enc : TypeId × Value → H) : ∃ places, DataW.whole enc Try.prog ((World.holding Try.prog os ⟨#[], #[], []⟩).forCall (fun _ _ => 0) ⟨#[], #[.slice none 0 0, .slice none 0 0], []⟩).memory Try.f12.params.toList Rows.slotLoadsSpec.vars false (#[Value.slice none 0 0, Value.slice none 0 0] : Array Value).toList 8 = some ([.nil, .nil], [], places) :=
  ⟨[], by kernel_rfl⟩
set_option maxRecDepth 100000 in
theorem lifted (os : Os) (started : os.Started) (H : Type) (enc : TypeId × Value → H) (F : Stop.Interp) :
    ReturnsInHanded {} Try.checked os 12 .any ((OpenSpec.ofChange Rows.slotLoadsSpec).preRow enc Try.prog Try.f12 Rows.slotLoadsRow.domain false Rows.slotLoadsRow.laid) (((OpenSpec.ofChange Rows.slotLoadsSpec).at F).post enc Try.prog Try.f12 false true false false) := by
  obtain ⟨places, hx⟩ := reads os enc
  refine returnsInHanded_of_row (C := Try.checked) (s := OpenSpec.ofChange Rows.slotLoadsSpec) own started (by kernel_rfl) Try.func12
    (witness_row_at (enc := enc) (C := Try.checked) false (World.holding Try.prog os ⟨#[], #[], []⟩) #[.slice none 0 0, .slice none 0 0] rfl (by kernel_rfl) (by kernel_rfl) (by kernel_rfl)
      (OpenSpec.preRow_of_cond 8 hx (by kernel_rfl) (fun k hk => by cases hk) (by kernel_rfl) (laid_met os))) ?_
  intro W base args ds gs before hval hW _ _ hsz hL _ _
  exact contract H enc W base args ds gs before hval hW
theorem said : Rows.SlotLoadsSaid :=
  OpenClaim.holds_of_cond 12 Try.f12 rfl rfl rfl rfl rfl rfl rfl ⟨rfl, rfl, rfl, rfl, rfl⟩ rfl rfl rfl rfl rfl (by kernel_rfl) Try.func12 (by kernel_rfl)
    (of_decide_eq_true (by kernel_rfl)) (by unfold Func.isWrapper; first | (rw [if_pos (by decide +kernel)]; kernel_rfl) | (rw [if_neg (by decide +kernel)]; exact ⟨rfl, rfl⟩))
    (fun os started H enc _ F => by rw [OpenClaim.pre_eq_preRow]; exact lifted os started H enc F)
#print axioms said
end Go.Proofs.Ytfcmlfcpgboigaa.slotLoads
