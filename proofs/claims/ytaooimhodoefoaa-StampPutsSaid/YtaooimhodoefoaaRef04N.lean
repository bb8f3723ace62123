/- The document's disk: New. -/
import Derived.Test.YtaooimhodoefoaaRef04W
namespace Go.Proofs.Ytaooimhodoefoaa
open Go.RowKit Mem
set_option linter.unusedVariables false
set_option linter.unusedSimpArgs false
attribute [local go_sem ↓] Go.wp_at_zero Go.wp_at_succ

theorem rnew_bad (n : Int) (hn : n < 1 ∨ 4096 < n) (w : World) : Calls Try.prog 43 #[.int .i64 n] w fun e w' => e = .returned (.tuple #[.pointer none, .int .i64 1]) ∧ w = w' := by
  by_cases h1 : n < 1
  · have hd : decide (n < 1) = true := by simpa using h1
    go_enter Try.func43, Try.ntmps43
    go_wp2
    go_ret2
    exact ⟨rfl, rfl⟩
  · have hd : decide (n < 1) = false := by simpa using h1
    have hd1 : decide (4096 < n) = true := by simp; omega
    go_enter Try.func43, Try.ntmps43
    go_wp2
    go_ret2
    exact ⟨rfl, rfl⟩
theorem one1 (A : Option Addr) (m c : Nat) : ∀ u ∈ ([.slice A m c] : List Value), u.oneCell' = true := by
  intro u hu
  simp only [List.mem_cons, List.not_mem_nil, or_false] at hu
  subst hu
  rfl
/-- the document's disk of a call's own -/
def OwnR (w0 w : World) (q : Nat) (d : Dk.D) : Prop := Below w0.heap.size w0 w ∧ ∃ G, RefAt w q d G ∧ ∀ k, G k → w0.heap.size ≤ k
def RNewTo (w : World) (n : Int) (e : Ending) (w' : World) : Prop := ∃ q, e = .returned (.tuple #[.pointer (some ⟨q, 0, none⟩), .int .i64 0]) ∧ OwnR w w' q (Dk.new n)
structure NewI (w wr : World) (q k : Nat) (sv : Value) (xs : List Value) : Prop where
  r : RefIn wr q (Dk.new k) sv xs (.slice none 0 0) [] (fun j => w.heap.size ≤ j ∧ j < wr.heap.size)
  u : Uniq wr xs
  b : Below w.heap.size w wr
  len : xs.length = k
theorem grown_undrew {w w' : World} {row : Option Nat} (h : w.drew.grownBy w' row) : w.grownBy w' row := ⟨h.os, h.tape, h.output, h.size, h.block⟩
theorem new_step {w wr w4 : World} {q k : Nat} {sv : Value} {xs : List Value} {g2 cap2 : Nat} (h : NewI w wr q k sv xs)
    (ho2 : w4.ownsRow 0 22 1 (.slice (some ⟨g2, 0, none⟩) (xs.length + 1) cap2) (xs.length + 1) (xs ++ [.slice (some ⟨wr.heap.size, 0, none⟩) 256 256]))
    (hg2 : ((wr.alloc (.cells (zerosA 256) 5)).alloc (.cells #[.slice (some ⟨wr.heap.size, 0, none⟩) 256 256] 22)).drew.grownBy w4 sv.ownBlock)
    (hat2 : sv.ownBlock = some g2 ∨ g2 = ((wr.alloc (.cells (zerosA 256) 5)).alloc (.cells #[.slice (some ⟨wr.heap.size, 0, none⟩) 256 256] 22)).drew.heap.size) :
    NewI w (w4.setCell ⟨q, 0, none⟩ (.slice (some ⟨g2, 0, none⟩) (xs.length + 1) cap2)) q (k + 1) (.slice (some ⟨g2, 0, none⟩) (xs.length + 1) cap2) (xs ++ [.slice (some ⟨wr.heap.size, 0, none⟩) 256 256]) := by
  obtain ⟨a1, a2, a3⟩ := rpush_end (w3 := wr.alloc (.cells (zerosA 256) 5)) (g1 := wr.heap.size) (c1 := 256) (C1 := zerosA 256) (bs := Dk.zeros) h.r h.u (fun k hk => alloc_old wr _ hk) (by simp) ((Below.refl _ _).alloc (Nat.le_refl _) _) (heap_alloc_new wr _) (Nat.le_refl _) (by rw [zerosA_size]; omega) (Nat.le_refl _) (by simp [maxLen]) Dk.zeros_length (fun j hj => by
      rw [zerosA_get 256 j hj]
      have : Dk.zeros.getD j 0 = 0 := by
        unfold Dk.zeros
        rw [List.getD_eq_getElem?_getD, List.getElem?_replicate]
        split <;> rfl
      rw [this]) rfl ho2 (grown_undrew hg2) hat2
  have hb := h.b
  have hs := a3.size
  have hb' : Below w.heap.size w (w4.setCell ⟨q, 0, none⟩ (.slice (some ⟨g2, 0, none⟩) (xs.length + 1) cap2)) := hb.trans (a3.below hb.size (fun i x => x.1))
  refine ⟨?_, a2, hb', by simp [h.len]⟩
  have e : ({ Dk.new (k : Int) with size := (Dk.new (k : Int)).size + 1 } : Dk.D) = Dk.new ((k + 1 : Nat) : Int) := by simp [Dk.new]
  rw [e] at a1
  exact ⟨a1.blk, a1.srow, a1.slen, fun i v hv => (a1.syn i v hv).mono (fun j x => by
      rcases x with x | x
      · exact ⟨x.1, by have := x.2; omega⟩
      · exact ⟨by have := hb.size; omega, by rw [setCell_size]; exact x.2⟩), a1.lrow, fun i hi => absurd hi (by simp [Dk.new]), by
      rcases a1.footq with x | x
      · exact ⟨x.1, a1.blk.lt⟩
      · exact ⟨by have := hb.size; omega, a1.blk.lt⟩, fun j e => by
      have := a1.bound j (a1.foots j e)
      rcases a1.foots j e with x | x
      · exact ⟨x.1, this⟩
      · exact ⟨by have := hb.size; omega, this⟩, fun j e => by simp [Value.ownBlock] at e, fun j x => x.2⟩
set_option maxRecDepth 100000 in
set_option maxHeartbeats 4000000 in
theorem rnew_any (n : Int) (hn : 1 ≤ n ∧ n ≤ 4096) (w : World) : Calls Try.prog 43 #[.int .i64 n] w (RNewTo w n) := by
  obtain ⟨N, rfl⟩ : ∃ N : Nat, n = N := ⟨n.toNat, by omega⟩
  have hd : decide ((N : Int) < 1) = false := by simp; omega
  have hd1 : decide (4096 < (N : Int)) = false := by simp; omega
  have hN1 : 1 ≤ N := by omega
  have hN2 : N ≤ 4096 := by omega
  clear hn
  obtain ⟨i0, hi0, hz0, hz1, hz2⟩ := info_parts rinfo8
  have hmk : ∀ w, (Instr.makeSlice 22 (.int .i64 256) (.int .i64 256)).run Try.prog w = .ok (.slice (some ⟨w.heap.size, 0, none⟩) 256 256) (w.alloc (.cells (zerosA 256) 5)) := run_make_lit (P := Try.prog) 22 5 i0 Try.underlying22 hi0 hz0 hz1 hz2 256 256 rfl (by omega)
  obtain ⟨js, hjs, hzs, hzs1, hzs2⟩ := info_parts rinfoS
  have HJ := Lib.hid (And.intro hjs (And.intro hzs (And.intro hzs1 hzs2)))
  clear hi0 hz0 hz1 hz2 hjs hzs hzs1 hzs2
  have hstart : NewI w (w.alloc (.cells #[.slice none 0 0, .slice none 0 0, .int .i64 (-1), .bool false, .int .i64 0] 63)) w.heap.size 0 (.slice none 0 0) [] := by
    refine ⟨⟨Blk.new w _ _, ⟨rfl, .inl ⟨rfl, rfl⟩⟩, rfl, fun i v e => by simp at e, ⟨rfl, .inl ⟨rfl, rfl⟩⟩, fun i hi => absurd hi (by simp [Dk.new]), ⟨Nat.le_refl _, by simp⟩, fun k e => by simp [Value.ownBlock] at e, fun k e => by simp [Value.ownBlock] at e, fun k x => x.2⟩, uniq_nil _, (Below.refl _ _).alloc (Nat.le_refl _) _, rfl⟩
  have H := Lib.hid hstart
  clear hstart
  go_enter Try.func43, Try.ntmps43
  go_wp2_with fail
  go_loopg [5] N (fun gk i wr => ∃ (k : Nat) (sv : Value) (xs : List Value), k ≤ N ∧ gk = N - k ∧ i = .int .i64 k ∧ NewI w wr w.heap.size k sv xs)
  case atStart => exact ⟨0, _, _, by omega, by omega, rfl, H.out⟩
  case round =>
    obtain ⟨k, sv, xs, hk, rfl, rfl, hI⟩ := hrel
    clear H
    by_cases hlt : k < N
    · obtain ⟨c0, _⟩ := hI.r.cells
      have f0 := hI.r.blk.free 0
      have HS0 : wr.cell? ⟨w.heap.size, 0, none⟩ = some sv ∧ wr.frozen? ⟨w.heap.size, 0, none⟩ = false := ⟨c0, f0⟩
      have c0a := (held_alloc (.cells (zerosA 256) 5) HS0).1
      have c0b := (held_alloc (.cells #[.slice (some ⟨wr.heap.size, 0, none⟩) 256 256] 22) (held_alloc (.cells (zerosA 256) 5) HS0)).1
      have hrow : ((wr.alloc (.cells (zerosA 256) 5)).alloc (.cells #[.slice (some ⟨wr.heap.size, 0, none⟩) 256 256] 22)).drew.ownsRow 0 22 1 sv xs.length xs := own_keep hI.r.srow (fun k e => by
        show ((wr.alloc _).alloc _).heap[k]? = _
        rw [alloc_old _ _ (by have := own_lt hI.r.srow e; simp; omega), alloc_old _ _ (own_lt hI.r.srow e)])
      have hblk : ((wr.alloc (.cells (zerosA 256) 5)).alloc (.cells #[.slice (some ⟨wr.heap.size, 0, none⟩) 256 256] 22)).drew.heap[wr.heap.size + 1]? = some (.cells #[.slice (some ⟨wr.heap.size, 0, none⟩) 256 256] 22 (0, 0)) := by
        have := heap_alloc_new (wr.alloc (.cells (zerosA 256) 5)) (.cells #[.slice (some ⟨wr.heap.size, 0, none⟩) 256 256] 22)
        rw [show (wr.alloc (.cells (zerosA 256) 5)).heap.size = wr.heap.size + 1 by simp] at this
        exact this
      have hql : w.heap.size < wr.heap.size := hI.r.blk.lt
      have HI := Lib.hid (And.intro hI (And.intro hrow (And.intro hblk HS0)))
      have HQ := Lib.hid (show ∀ k, sv.ownBlock = some k → k ≠ w.heap.size from fun k e => hI.r.qs e)
      have hxl : xs.length ≤ 4096 := by rw [hI.len]; omega
      clear hI hrow hblk HS0 f0
      go_upto_region 7 with fail
      go_region_law (first
        | (refine step_app_one (by rfl) (.tmp 23) (.tmp 25) 60 (by rfl) 0 22 js (.slice none 0 0) 1 24 Try.underlying60 HJ.out.1 HJ.out.2.1 HJ.out.2.2.1 HJ.out.2.2.2 rfl (by omega) sv xs.length xs (by simp [Act.eval, Act.put]) HI.out.2.1 (wr.heap.size + 1) [.slice (some ⟨wr.heap.size, 0, none⟩) 256 256] (by simp [Act.eval, Act.put]) rfl HI.out.2.2.1 (one1 _ _ _) (by omega) (by omega) (by omega) ?_
           intro g2 cap2 w4 hown2 hg2 hat2
           have HS : w4.cell? ⟨w.heap.size, 0, none⟩ = some sv ∧ w4.frozen? ⟨w.heap.size, 0, none⟩ = false := held_keep (hg2.block w.heap.size (by show w.heap.size < ((wr.alloc _).alloc _).heap.size; simp; omega) (fun e => HQ.out w.heap.size e.symm rfl)) (held_alloc _ (held_alloc _ HI.out.2.2.2))
           have c14 := HS.1
           have f14 := HS.2
           have H4 := Lib.hid (And.intro hown2 (And.intro hg2 hat2))
           clear hown2 hg2 hat2 HS))
      all_goals
        go_wp2_with fail
        go_roundg (N - (k + 1))
        case measure => omega
        case rel => exact ⟨k + 1, _, _, by omega, rfl, by go_num, new_step HI.out.1 H4.out.1 H4.out.2.1 H4.out.2.2⟩
    · obtain rfl : k = N := by omega
      have HI := Lib.hid hI
      clear hI
      go_wp2_with fail
      go_ret2
      exact ⟨w.heap.size, rfl, HI.out.b, _, ⟨_, _, _, _, HI.out.r⟩, fun j x => x.1⟩
end Go.Proofs.Ytaooimhodoefoaa
