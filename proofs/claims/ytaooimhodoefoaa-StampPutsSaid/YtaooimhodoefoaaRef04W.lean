/- The document's disk: Write, New. -/
import Derived.Test.YtaooimhodoefoaaRef04R
import Derived.Test.YtaooimhodoefoaaSteps
import Derived.Deep.DrawnRows
namespace Go.Proofs.Ytaooimhodoefoaa
open Go.RowKit Mem
set_option linter.unusedVariables false
set_option linter.unusedSimpArgs false
attribute [local go_sem ↓] Go.wp_at_zero Go.wp_at_succ

theorem rinfoW : (Try.prog.info? 65).map (fun i => (i.zero, i.size, i.bytes)) = some (some (.agg #[.int .i64 0, .slice none 0 0]), 2, 32) := by kernel_rfl
theorem rinfoS : (Try.prog.info? 22).map (fun i => (i.zero, i.size, i.bytes)) = some (some (.slice none 0 0), 1, 24) := by kernel_rfl
theorem one2 (n : Int) (A : Option Addr) (m c : Nat) : ∀ u ∈ ([.int .i64 n, .slice A m c] : List Value), u.oneCell' = true := by
  intro u hu
  simp only [List.mem_cons, List.not_mem_nil, or_false] at hu
  rcases hu with rfl | rfl <;> rfl
theorem own_grows {w w' : World} {e : TypeId} {size n base : Nat} {v : Value} {xs : List Value} {row : Option Nat} (h : w.ownsRow base e size v n xs) (hg : w.grownBy w' row) (hne : ∀ k, v.ownBlock = some k → row ≠ some k) : w'.ownsRow base e size v n xs :=
  own_keep h (fun k e => hg.block k (own_lt h e) (fun x => hne k e (by simpa using x.symm)))
theorem rwrite_end {w2 w3 w4 : World} {q : Nat} {d : Dk.D} {sv lv : Value} {xs ys : List Value} {G : Nat → Prop} {n : Int} {bs : List UInt8} {g1 cap1 g2 cap2 : Nat} (h : RefIn w2 q d sv xs lv ys G)
    (ho1 : w3.ownsRow w2.heap.size 5 1 (.slice (some ⟨g1, 0, none⟩) 256 cap1) 256 (u8s bs)) (hg1 : ((w2.alloc (.cells #[] 5)).drew).grownBy w3 (some w2.heap.size))
    (ho2 : w4.ownsRow 0 65 2 (.slice (some ⟨g2, 0, none⟩) (d.pend.length + 1) cap2) (d.pend.length + 1) (ys ++ [.int .i64 n, .slice (some ⟨g1, 0, none⟩) 256 cap1]))
    (hg2 : (w3.alloc (.cells #[.int .i64 n, .slice (some ⟨g1, 0, none⟩) 256 cap1] 65)).grownBy w4 lv.ownBlock)
    (hat2 : lv.ownBlock = some g2 ∨ g2 = (w3.alloc (.cells #[.int .i64 n, .slice (some ⟨g1, 0, none⟩) 256 cap1] 65)).heap.size) :
    RefTo w2 G q (Dk.put d n bs) (w4.setCell ⟨q, 1, none⟩ (.slice (some ⟨g2, 0, none⟩) (d.pend.length + 1) cap2)) := by
  have hql := h.blk.lt
  have hs3 : w2.heap.size + 1 ≤ w3.heap.size := by have := hg1.size; rwa [show ((w2.alloc (.cells #[] 5)).drew).heap.size = w2.heap.size + 1 from Array.size_push _] at this
  have hs4 : w3.heap.size + 1 ≤ w4.heap.size := by have := hg2.size; simpa using this
  have hk3 : ∀ k, k < w2.heap.size → w3.heap[k]? = w2.heap[k]? := fun k hk => by
    rw [hg1.block k (by show k < (w2.alloc _).heap.size; simp; omega) (by simp; omega)]
    exact alloc_old w2 _ hk
  have hk4 : ∀ k, k < w3.heap.size → lv.ownBlock ≠ some k → w4.heap[k]? = w3.heap[k]? := fun k hk hne => by
    rw [hg2.block k (by simp; omega) (fun e => hne e.symm)]
    exact alloc_old w3 _ hk
  have hk5 : ∀ k, k ≠ q → (w4.setCell ⟨q, 1, none⟩ (.slice (some ⟨g2, 0, none⟩) (d.pend.length + 1) cap2)).heap[k]? = w4.heap[k]? := fun k hk => Below.heap_setCell w4 _ _ k hk
  have hlv : ∀ k, lv.ownBlock = some k → k < w2.heap.size := fun k e => own_lt h.lrow e
  have hk : ∀ k, k < w2.heap.size → lv.ownBlock ≠ some k → k ≠ q → (w4.setCell ⟨q, 1, none⟩ (.slice (some ⟨g2, 0, none⟩) (d.pend.length + 1) cap2)).heap[k]? = w2.heap[k]? := fun k a b c => by rw [hk5 k c, hk4 k (by omega) b, hk3 k a]
  have hq4 : w4.heap[q]? = w2.heap[q]? := by rw [hk4 q (by omega) (fun e => h.ql e rfl), hk3 q hql]
  have hsec : ∀ {v : Value} {b : List UInt8}, SecAt w2 G v b → SecAt (w4.setCell ⟨q, 1, none⟩ (.slice (some ⟨g2, 0, none⟩) (d.pend.length + 1) cap2)) (fun k => G k ∨ (w2.heap.size ≤ k ∧ k < w4.heap.size)) v b := by
    rintro v b ⟨b0, off, c, C, fr, h1, h2, h3, r⟩
    refine ⟨b0, off, c, C, fr, h1, .inl h2, ?_, r⟩
    refine (hk b0 (lt_of_block h3) (fun e => ?_) (blk_ne h3 h.blk (by decide))).trans h3
    obtain ⟨cur, hg⟩ := own_block h.lrow e
    exact blk_ne h3 hg (by decide) rfl
  have hg1lt : g1 < w3.heap.size := own_lt ho1 rfl
  have hg1ge : w2.heap.size ≤ g1 := by
    rcases ho1.2 with ⟨e, _⟩ | ⟨g, c, cur, e, hb, _⟩
    · cases e
    · injection e with e; injection e with e; injection e with e; subst e; exact hb
  have hnew : SecAt (w4.setCell ⟨q, 1, none⟩ (.slice (some ⟨g2, 0, none⟩) (d.pend.length + 1) cap2)) (fun k => G k ∨ (w2.heap.size ≤ k ∧ k < w4.heap.size)) (.slice (some ⟨g1, 0, none⟩) 256 cap1) bs := by
    obtain ⟨b0, off, c, C, fr, h1, h2, h3, r⟩ := SecAt.of_own (n := 0) ho1
    have e : g1 = b0 := by simpa [Value.ownBlock] using h2
    subst e
    refine ⟨g1, off, c, C, fr, h1, .inr ⟨hg1ge, by omega⟩, ?_, r⟩
    rw [hk5 g1 (by omega), hk4 g1 hg1lt (fun e => by have := hlv g1 e; omega)]
    exact h3
  have hyl : ys.length = d.pend.length * 2 := h.lrow.1
  refine ⟨fun k => G k ∨ (w2.heap.size ≤ k ∧ k < w4.heap.size), ⟨sv, xs, .slice (some ⟨g2, 0, none⟩) (d.pend.length + 1) cap2, ys ++ [.int .i64 n, .slice (some ⟨g1, 0, none⟩) 256 cap1], ?_⟩, ?_, ?_⟩
  · refine ⟨(h.blk.keep hq4).put 1 _, own_keep h.srow (fun k e => hk k (own_lt h.srow e) (fun x => h.sl e x rfl) (h.qs e)), h.slen, fun i v e => hsec (h.syn i v e), ?_, fun i hi => ?_, .inl h.footq, fun k e => .inl (h.foots k e), fun k e => ?_, fun k x => ?_⟩
    · have e1 : (Dk.put d n bs).pend.length = d.pend.length + 1 := by simp [Dk.put]
      rw [e1]
      refine own_keep ho2 (fun k e => hk5 k ?_)
      simp [Value.ownBlock] at e
      subst e
      rcases hat2 with hat2 | hat2
      · exact h.ql hat2
      · rw [hat2]; simp; omega
    · simp only [Dk.put, List.length_append, List.length_singleton] at hi
      rcases Nat.lt_or_ge i d.pend.length with hl | hl
      · obtain ⟨h1, v, h2, h3⟩ := h.list i hl
        have e : (Dk.put d n bs).pend.getD i (0, []) = d.pend.getD i (0, []) := by
          simp only [Dk.put, List.getD_eq_getElem?_getD, List.getElem?_append_left hl]
        rw [e]
        refine ⟨by rw [List.getElem?_append_left (by omega)]; exact h1, v, by rw [List.getElem?_append_left (by omega)]; exact h2, hsec h3⟩
      · obtain rfl : i = d.pend.length := by omega
        have e : (Dk.put d n bs).pend.getD d.pend.length (0, []) = (n, bs) := by
          simp [Dk.put, List.getD_eq_getElem?_getD]
        rw [e]
        refine ⟨?_, .slice (some ⟨g1, 0, none⟩) 256 cap1, ?_, hnew⟩
        · rw [List.getElem?_append_right (by omega), hyl, Nat.sub_self]; rfl
        · rw [List.getElem?_append_right (by omega), hyl, show d.pend.length * 2 + 1 - d.pend.length * 2 = 1 by omega]; rfl
    · simp [Value.ownBlock] at e
      subst e
      rcases hat2 with hat2 | hat2
      · exact .inl (h.footl _ hat2)
      · exact .inr ⟨by rw [hat2]; simp; omega, own_lt ho2 rfl⟩
    · rw [setCell_size]
      rcases x with x | x
      · have := h.bound k x; omega
      · exact x.2
  · refine ⟨?_, ?_, ?_, ?_, fun k hk1 hk2 => ?_⟩
    · exact hg2.os.trans hg1.os
    · exact hg2.tape.trans hg1.tape
    · exact hg2.output.trans hg1.output
    · rw [setCell_size]; omega
    · exact hk k hk1 (fun e => hk2 (h.footl k e)) (fun e => hk2 (by rw [e]; exact h.footq))
  · intro k x
    rcases x with x | x
    · exact .inl x
    · exact .inr x.1
set_option maxRecDepth 100000 in
set_option maxHeartbeats 4000000 in
theorem rwrite_ok (q : Nat) (d : Dk.D) (G : Nat → Prop) (n : Int) (A : Option Addr) (cap : Nat) (bs : List UInt8) (w : World) (hD : RefAt w q d G) (hok : Dk.Ok d) (hbs : BS w A 256 bs) (hout : ∀ a, A = some a → a.block ≠ q)
    (ha : Dk.at_ d n = 0) (hst : (Dk.step d).1 = 0) (hlen : d.pend.length ≤ 1000000) :
    Calls Try.prog 37 #[.pointer (some ⟨q, 0, none⟩), .int .i64 n, .slice A 256 cap] w (RWriteTo w G q (0, Dk.put (Dk.step d).2 n bs)) := by
  obtain ⟨sv, xs, lv, ys, hd⟩ := hD
  obtain ⟨c0, _⟩ := hd.cells
  have H0 := Lib.hid (And.intro hd (And.intro hok (And.intro hbs (And.intro hout hlen))))
  clear hd hok hbs hout hlen
  obtain ⟨i0, hi0, hz0, hz1, hz2⟩ := info_parts rinfo8
  obtain ⟨iw, hiw, hzw, hzw1, hzw2⟩ := info_parts rinfoW
  have HI := Lib.hid (And.intro hi0 (And.intro hz0 (And.intro hz1 hz2)))
  have HJ := Lib.hid (And.intro hiw (And.intro hzw (And.intro hzw1 hzw2)))
  clear hi0 hz0 hz1 hz2 hiw hzw hzw1 hzw2
  go_enter Try.func37, Try.ntmps37
  go_wp2_with fail
  refine (ris_any q d sv xs n w c0 H0.out.1.srow H0.out.1.slen).mono ?_
  rintro e w1 ⟨rfl, hw1⟩
  subst hw1
  rw [ha]
  go_wp2_with fail
  refine (rstep_any q d sv xs lv ys G w H0.out.1 H0.out.2.1).mono ?_
  rintro e w2 ⟨rfl, hd2, hf2, hs2⟩
  rw [hst]
  obtain ⟨_, c1, _⟩ := hd2.cells
  have hb2 : BS w2 A 256 bs := BS.fr H0.out.2.2.1 hf2 (fun a e x => H0.out.2.2.2.1 a e x)
  have f1 := hd2.blk.free 1
  have H := Lib.hid (And.intro hd2 (And.intro hf2 (And.intro hs2 hb2)))
  clear hd2 hf2 hs2 hb2 c0
  have hblkE : ((w2.alloc (.cells #[] 5)).drew).heap[w2.heap.size]? = some (.cells #[] 5 (0, 0)) := heap_alloc_new w2 _
  have hbsE : BS ((w2.alloc (.cells #[] 5)).drew) A 256 bs := H.out.2.2.2.keep (by show _ ≤ (w2.alloc _).heap.size; simp) (fun b hb => alloc_old w2 _ hb)
  have HE := Lib.hid (And.intro hblkE hbsE)
  clear hblkE hbsE
  go_upto_region 7 with fail
  have HS0 : w2.cell? ⟨q, 1, none⟩ = some lv ∧ w2.frozen? ⟨q, 1, none⟩ = false := ⟨c1, f1⟩
  have hqlt : q < w2.heap.size := H.out.1.blk.lt
  have c1a : (w2.alloc (.cells #[] 5)).cell? ⟨q, 1, none⟩ = some lv := (held_alloc _ HS0).1
  have hrow2' := H.out.1.lrow
  rw [Dk.step_pend] at hrow2'
  have hrow2 := Lib.hid hrow2'
  clear hrow2'
  have hqne := fun k (e : lv.ownBlock = some k) => H.out.1.ql e
  have HQ := Lib.hid hqne
  clear hqne
  go_region_law (first
    | (refine step_app_bytes (by rfl) (.tmp 23) (.tmp 24) 22 (by rfl) 5 i0 Try.underlying22 HI.out.1 HI.out.2.1 HI.out.2.2.1 HI.out.2.2.2 w2.heap.size (by simp [Act.eval, Act.put]) HE.out.1 A 256 cap bs (by simp [Act.eval, Act.put]) HE.out.2 (by omega) (by omega) ?_
       intro g1 cap1 w3 hown1 hg1 hat1
       have HS : w3.cell? ⟨q, 1, none⟩ = some lv ∧ w3.frozen? ⟨q, 1, none⟩ = false := held_keep (hg1.block q (by show q < (w2.alloc _).heap.size; simp; omega) (by simp; omega)) (held_alloc _ HS0)
       have c13 := HS.1
       have c13a := (held_alloc (.cells #[.int .i64 n, .slice (some ⟨g1, 0, none⟩) 256 cap1] 65) HS).1
       have hlr : w2.ownsRow 0 65 2 lv d.pend.length ys → w3.ownsRow 0 65 2 lv d.pend.length ys := fun hr => own_keep hr (fun k e => (hg1.block k (by have := own_lt hr e; show k < (w2.alloc _).heap.size; simp; omega) (by have := own_lt hr e; simp; omega)).trans (alloc_old w2 _ (own_lt hr e)))
       have H3 := Lib.hid (And.intro hown1 (And.intro hg1 (And.intro hat1 (And.intro HS hlr))))
       clear hown1 hg1 hat1 HS hlr)
    | (refine step_app_one (by rfl) (.tmp 21) (.tmp 27) 61 (by rfl) 0 65 iw (.agg #[.int .i64 0, .slice none 0 0]) 2 32 Try.underlying61 HJ.out.1 HJ.out.2.1 HJ.out.2.2.1 HJ.out.2.2.2 rfl (by omega) lv d.pend.length ys (by simp [Act.eval, Act.put]) (own_keep (H3.out.2.2.2.2 hrow2.out) (fun k e => alloc_old w3 _ (own_lt (H3.out.2.2.2.2 hrow2.out) e))) w3.heap.size [.int .i64 n, .slice (some ⟨g1, 0, none⟩) 256 cap1] (by simp [Act.eval, Act.put]) rfl (heap_alloc_new w3 _) (one2 _ _ _ _) H0.out.2.2.2.2 (by omega) (by omega) ?_
       intro g2 cap2 w4 hown2 hg2 hat2
       have HS : w4.cell? ⟨q, 1, none⟩ = some lv ∧ w4.frozen? ⟨q, 1, none⟩ = false := held_keep (hg2.block q (World.block_lt_of_cell? _ ⟨q, 1, none⟩ c13a) (fun e => HQ.out q e.symm rfl)) (held_alloc _ H3.out.2.2.2.1)
       have c14 := HS.1
       have f14 := HS.2
       have H4 := Lib.hid (And.intro hown2 (And.intro hg2 hat2))
       clear hown2 hg2 hat2 HS))
  all_goals
    go_wp2
    go_ret
    have hH := H.out.1
    have hend := rwrite_end (d := (Dk.step d).2) (n := n) (bs := bs) hH H3.out.1 H3.out.2.1 (by simp only [Dk.step_pend]; exact H4.out.1) H4.out.2.1 H4.out.2.2
    simp only [Dk.step_pend] at hend
    refine ⟨rfl, ?_⟩
    obtain ⟨G', a1, a2, a3⟩ := hend
    exact ⟨G', a1, (H.out.2.1.mono (fun i _ e => by rw [e]; exact hH.footq)).trans a2 (fun _ _ x => x), fun k x => (a3 k x).imp id (fun y => by rw [← H.out.2.2.1]; exact y)⟩
theorem RefAt.to {w : World} {q : Nat} {d : Dk.D} {G : Nat → Prop} (h : RefAt w q d G) : RefTo w G q d w := ⟨G, h, Fr.refl _ _, fun _ x => .inl x⟩
set_option maxRecDepth 100000 in
set_option maxHeartbeats 2000000 in
theorem rwrite_any (q : Nat) (d : Dk.D) (G : Nat → Prop) (n : Int) (A : Option Addr) (m cap : Nat) (bs : List UInt8) (w : World) (hD : RefAt w q d G) (hok : Dk.Ok d) (hbs : BS w A m bs) (hout : ∀ a, A = some a → a.block ≠ q) (hlen : d.pend.length ≤ 1000000) :
    Calls Try.prog 37 #[.pointer (some ⟨q, 0, none⟩), .int .i64 n, .slice A m cap] w (RWriteTo w G q (Dk.write d n bs)) := by
  have hm := hbs.1
  rcases at_01 d n with ha | ha
  · by_cases h256 : m = 256
    · subst h256
      rcases step_01 d with hs | hs
      · have hR : Dk.write d n bs = (0, Dk.put (Dk.step d).2 n bs) := by unfold Dk.write; rw [if_neg (by omega), if_neg (by omega), if_neg (by omega)]
        rw [hR]
        exact rwrite_ok q d G n A cap bs w hD hok hbs hout ha hs hlen
      · have hR : Dk.write d n bs = (40, (Dk.step d).2) := by unfold Dk.write; rw [if_neg (by omega), if_neg (by omega), if_pos (by omega)]
        rw [hR]
        obtain ⟨sv, xs, lv, ys, hd⟩ := hD
        obtain ⟨c0, _⟩ := hd.cells
        have H := Lib.hid (And.intro hd hok)
        clear hd hok hR hbs hout hm
        go_enter Try.func37, Try.ntmps37
        go_wp2_with fail
        refine (ris_any q d sv xs n w c0 H.out.1.srow H.out.1.slen).mono ?_
        rintro e w1 ⟨rfl, hw1⟩
        subst hw1
        rw [ha]
        go_wp2_with fail
        refine (rstep_any q d sv xs lv ys G w H.out.1 H.out.2).mono ?_
        intro e w1 hst
        have hst2 := hst.1
        have HS := Lib.hid (RStepTo.to H.out.1.footq hst)
        clear hst
        subst hst2
        rw [hs]
        go_wp2
        go_ret
        exact ⟨rfl, HS.out⟩
    · have hR : Dk.write d n bs = (12, d) := by unfold Dk.write; rw [if_neg (by omega), if_pos (by omega)]
      rw [hR]
      have HD := Lib.hid (RefAt.to hD)
      obtain ⟨sv, xs, lv, ys, hd⟩ := hD
      obtain ⟨c0, _⟩ := hd.cells
      have hg : ((m : Int) != 256) = true := by rw [bne_iff_ne]; omega
      have H := Lib.hid hd
      clear hd hok hR hbs hout hm
      go_enter Try.func37, Try.ntmps37
      go_wp2_with fail
      refine (ris_any q d sv xs n w c0 H.out.srow H.out.slen).mono ?_
      rintro e w1 ⟨rfl, hw1⟩
      subst hw1
      rw [ha]
      go_wp2
      go_ret
      exact ⟨rfl, HD.out⟩
  · have hR : Dk.write d n bs = (1, d) := by unfold Dk.write; rw [if_pos (by omega)]
    rw [hR]
    have HD := Lib.hid (RefAt.to hD)
    obtain ⟨sv, xs, lv, ys, hd⟩ := hD
    obtain ⟨c0, _⟩ := hd.cells
    have H := Lib.hid hd
    clear hd hok hR hbs hout hm
    go_enter Try.func37, Try.ntmps37
    go_wp2_with fail
    refine (ris_any q d sv xs n w c0 H.out.srow H.out.slen).mono ?_
    rintro e w1 ⟨rfl, hw1⟩
    subst hw1
    rw [ha]
    go_wp2
    go_ret
    exact ⟨rfl, HD.out⟩

/-! sectors that are laid one by one -/
/-- each sector in a block of its own -/
def Uniq (w : World) (xs : List Value) : Prop := ∃ gs : List Nat, gs.length = xs.length ∧ gs.Nodup ∧ ∀ (i : Nat) (hi : i < gs.length), ∃ c C, xs[i]? = some (.slice (some ⟨gs[i], 0, none⟩) 256 c) ∧ w.heap[gs[i]]? = some (.cells C 5 (0, 0)) ∧ 256 ≤ C.size
theorem Uniq.keep {w w' : World} {xs : List Value} (h : Uniq w xs) (hk : ∀ (k : Nat) C f, w.heap[k]? = some (Obj.cells C 5 f) → w'.heap[k]? = w.heap[k]?) : Uniq w' xs := by
  obtain ⟨gs, h1, h2, h3⟩ := h
  refine ⟨gs, h1, h2, fun i hi => ?_⟩
  obtain ⟨c, C, h4, h5, h6⟩ := h3 i hi
  exact ⟨c, C, h4, (hk _ _ _ h5).trans h5, h6⟩
theorem uniq_nil (w : World) : Uniq w [] := ⟨[], rfl, List.nodup_nil, fun i hi => absurd hi (by simp)⟩
theorem Uniq.push {w w' : World} {xs : List Value} (h : Uniq w xs) (hk : ∀ (k : Nat) C f, w.heap[k]? = some (Obj.cells C 5 f) → w'.heap[k]? = w.heap[k]?) {g c : Nat} {C : Array Value} (hg : w'.heap[g]? = some (.cells C 5 (0, 0))) (hC : 256 ≤ C.size) (hge : w.heap.size ≤ g) : Uniq w' (xs ++ [.slice (some ⟨g, 0, none⟩) 256 c]) := by
  obtain ⟨gs, h1, h2, h3⟩ := h
  refine ⟨gs ++ [g], by simp [h1], ?_, fun i hi => ?_⟩
  · rw [List.nodup_append]
    refine ⟨h2, by simp, fun a ha b hb => ?_⟩
    simp at hb
    subst hb
    obtain ⟨i, hi, rfl⟩ := List.getElem_of_mem ha
    obtain ⟨_, _, _, h5, _⟩ := h3 i hi
    have := lt_of_block h5
    omega
  · rcases Nat.lt_or_ge i gs.length with hl | hl
    · obtain ⟨c', C', h4, h5, h6⟩ := h3 i hl
      rw [List.getElem_append_left hl]
      exact ⟨c', C', by rw [List.getElem?_append_left (by omega)]; exact h4, (hk _ _ _ h5).trans h5, h6⟩
    · obtain rfl : i = gs.length := by simp at hi; omega
      rw [List.getElem_append_right (Nat.le_refl _)]
      simp only [Nat.sub_self, List.getElem_cons_zero]
      exact ⟨c, C, by rw [h1, List.getElem?_append_right (Nat.le_refl _)]; simp, hg, hC⟩
/-- a sector more -/
theorem rpush_end {w2 w3 w4 : World} {q : Nat} {d : Dk.D} {sv lv : Value} {xs ys : List Value} {G : Nat → Prop} {bs : List UInt8} {g1 c1 g2 cap2 : Nat} {C1 : Array Value} {o : Obj} (h : RefIn w2 q d sv xs lv ys G) (hu : Uniq w2 xs)
    (hk3 : ∀ k, k < w2.heap.size → w3.heap[k]? = w2.heap[k]?) (hs3 : w2.heap.size ≤ w3.heap.size) (hfr : Below w2.heap.size w2 w3)
    (hg1 : w3.heap[g1]? = some (.cells C1 5 (0, 0))) (hg1ge : w2.heap.size ≤ g1) (hC : 256 ≤ C1.size) (hc1 : 256 ≤ c1) (hc2 : c1 ≤ maxLen) (hbs : bs.length = 256) (hcell : ∀ j, j < 256 → C1[j]? = some (Mem.u8 (bs.getD j 0))) (hb : bs = (d.syn (xs.length : Nat)).getD Dk.zeros)
    (ho2 : w4.ownsRow 0 22 1 (.slice (some ⟨g2, 0, none⟩) (xs.length + 1) cap2) (xs.length + 1) (xs ++ [.slice (some ⟨g1, 0, none⟩) 256 c1])) (hg2 : (w3.alloc o).grownBy w4 sv.ownBlock) (hat2 : sv.ownBlock = some g2 ∨ g2 = (w3.alloc o).heap.size) :
    RefIn (w4.setCell ⟨q, 0, none⟩ (.slice (some ⟨g2, 0, none⟩) (xs.length + 1) cap2)) q { d with size := d.size + 1 } (.slice (some ⟨g2, 0, none⟩) (xs.length + 1) cap2) (xs ++ [.slice (some ⟨g1, 0, none⟩) 256 c1]) lv ys (fun k => G k ∨ (w2.heap.size ≤ k ∧ k < w4.heap.size)) ∧
    Uniq (w4.setCell ⟨q, 0, none⟩ (.slice (some ⟨g2, 0, none⟩) (xs.length + 1) cap2)) (xs ++ [.slice (some ⟨g1, 0, none⟩) 256 c1]) ∧ Fr G w2 (w4.setCell ⟨q, 0, none⟩ (.slice (some ⟨g2, 0, none⟩) (xs.length + 1) cap2)) := by
  have hql := h.blk.lt
  have hs4 : w3.heap.size + 1 ≤ w4.heap.size := by have := hg2.size; simpa using this
  have hk4 : ∀ k, k < w3.heap.size → sv.ownBlock ≠ some k → w4.heap[k]? = w3.heap[k]? := fun k hk hne => by
    rw [hg2.block k (by simp; omega) (fun e => hne e.symm)]
    exact alloc_old w3 _ hk
  have hk5 : ∀ k, k ≠ q → (w4.setCell ⟨q, 0, none⟩ (.slice (some ⟨g2, 0, none⟩) (xs.length + 1) cap2)).heap[k]? = w4.heap[k]? := fun k hk => Below.heap_setCell w4 _ _ k hk
  have hsvl : ∀ k, sv.ownBlock = some k → k < w2.heap.size := fun k e => own_lt h.srow e
  have hk : ∀ k, k < w2.heap.size → sv.ownBlock ≠ some k → k ≠ q → (w4.setCell ⟨q, 0, none⟩ (.slice (some ⟨g2, 0, none⟩) (xs.length + 1) cap2)).heap[k]? = w2.heap[k]? := fun k a b c => by rw [hk5 k c, hk4 k (by omega) b, hk3 k a]
  have hq4 : w4.heap[q]? = w2.heap[q]? := by rw [hk4 q (by omega) (fun e => h.qs e rfl), hk3 q hql]
  have hbyte : ∀ (k : Nat) C f, w2.heap[k]? = some (Obj.cells C 5 f) → (w4.setCell ⟨q, 0, none⟩ (.slice (some ⟨g2, 0, none⟩) (xs.length + 1) cap2)).heap[k]? = w2.heap[k]? := fun k C f h3 => by
    refine hk k (lt_of_block h3) (fun e => ?_) (blk_ne h3 h.blk (by decide))
    obtain ⟨cur, hg⟩ := own_block h.srow e
    exact blk_ne h3 hg (by decide) rfl
  have hsec : ∀ {v : Value} {b : List UInt8}, SecAt w2 G v b → SecAt (w4.setCell ⟨q, 0, none⟩ (.slice (some ⟨g2, 0, none⟩) (xs.length + 1) cap2)) (fun k => G k ∨ (w2.heap.size ≤ k ∧ k < w4.heap.size)) v b := by
    rintro v b ⟨b0, off, c, C, fr, h1, h2, h3, r⟩
    exact ⟨b0, off, c, C, fr, h1, .inl h2, (hbyte _ _ _ h3).trans h3, r⟩
  have hg1lt : g1 < w3.heap.size := lt_of_block hg1
  have hg1' : (w4.setCell ⟨q, 0, none⟩ (.slice (some ⟨g2, 0, none⟩) (xs.length + 1) cap2)).heap[g1]? = some (.cells C1 5 (0, 0)) := by
    rw [hk5 g1 (by omega), hk4 g1 hg1lt (fun e => by have := hsvl g1 e; omega)]
    exact hg1
  refine ⟨⟨(h.blk.keep hq4).put 0 _, ?_, by have := h.slen; simp; omega, fun i v e => ?_, own_keep h.lrow (fun k e => hk k (own_lt h.lrow e) (fun x => h.sl x e rfl) (h.ql e)), fun i hi => ?_, .inl h.footq, fun k e => ?_, fun k e => .inl (h.footl k e), fun k x => ?_⟩, hu.push hbyte hg1' hC hg1ge, ?_⟩
  · rw [List.length_append, List.length_singleton]
    refine own_keep ho2 (fun k e => hk5 k ?_)
    simp [Value.ownBlock] at e
    subst e
    rcases hat2 with hat2 | hat2
    · exact h.qs hat2
    · rw [hat2]; simp; omega
  · rcases Nat.lt_or_ge i xs.length with hl | hl
    · rw [List.getElem?_append_left hl] at e
      exact hsec (h.syn i v e)
    · rw [List.getElem?_append_right hl] at e
      have hi : i = xs.length := by
        rcases Nat.lt_or_ge (i - xs.length) 1 with h0 | h0
        · omega
        · rw [List.getElem?_eq_none (by simpa using h0)] at e; cases e
      subst hi
      simp at e
      subst e
      show SecAt _ _ _ ((d.syn (xs.length : Nat)).getD Dk.zeros)
      rw [← hb]
      exact ⟨g1, 0, c1, C1, (0, 0), rfl, .inr ⟨hg1ge, by omega⟩, hg1', hbs, hc1, hc2, fun j hj => by rw [Nat.zero_add]; exact hcell j hj⟩
  · obtain ⟨h1, v, h2, h3⟩ := h.list i hi
    exact ⟨h1, v, h2, hsec h3⟩
  · simp [Value.ownBlock] at e
    subst e
    rcases hat2 with hat2 | hat2
    · exact .inl (h.foots _ hat2)
    · exact .inr ⟨by rw [hat2]; simp; omega, own_lt ho2 rfl⟩
  · rw [setCell_size]
    rcases x with x | x
    · have := h.bound k x; omega
    · exact x.2
  · refine ⟨hg2.os.trans hfr.os, hg2.tape.trans hfr.tape, hg2.output.trans hfr.output, by rw [setCell_size]; omega, fun k hk1 hk2 => ?_⟩
    exact hk k hk1 (fun e => hk2 (h.foots k e)) (fun e => hk2 (by rw [e]; exact h.footq))
end Go.Proofs.Ytaooimhodoefoaa
