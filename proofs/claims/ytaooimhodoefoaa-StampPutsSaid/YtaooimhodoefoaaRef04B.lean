/- The document's disk: one byte of a sector that is turned. -/
import Derived.Test.YtaooimhodoefoaaRef04N
namespace Go.Proofs.Ytaooimhodoefoaa
open Go.RowKit Mem
set_option linter.unusedVariables false
set_option linter.unusedSimpArgs false

theorem RefIn.congr {w : World} {q : Nat} {d d' : Dk.D} {sv lv : Value} {xs ys : List Value} {G : Nat → Prop} (h : RefIn w q d sv xs lv ys G) (h1 : d'.fuse = d.fuse) (h2 : d'.down = d.down) (h3 : d'.syncs = d.syncs) (h4 : d'.size = d.size) (h5 : d'.pend = d.pend)
    (h6 : ∀ i : Nat, i < xs.length → (d'.syn i).getD Dk.zeros = (d.syn i).getD Dk.zeros) : RefIn w q d' sv xs lv ys G := by
  refine ⟨by rw [h1, h2, h3]; exact h.blk, h.srow, by rw [h4]; exact h.slen, fun i v e => ?_, by rw [h5]; exact h.lrow, fun i hi => ?_, h.footq, h.foots, h.footl, h.bound⟩
  · have hl : i < xs.length := by
      rcases Nat.lt_or_ge i xs.length with hl | hl
      · exact hl
      · rw [List.getElem?_eq_none hl] at e; cases e
    rw [h6 i hl]; exact h.syn i v e
  · rw [h5] at hi ⊢; exact h.list i hi
theorem nodup_inj {α : Type} {l : List α} (h : l.Nodup) {i j : Nat} (hi : i < l.length) (hj : j < l.length) (e : l[i] = l[j]) : i = j := by
  have hp := List.pairwise_iff_getElem.1 h
  rcases Nat.lt_trichotomy i j with hl | hl | hl
  · exact absurd e (hp i j hi hj hl)
  · exact hl
  · exact absurd e.symm (hp j i hj hi hl)
theorem RefIn.byte {w : World} {q : Nat} {d : Dk.D} {sv lv : Value} {xs : List Value} {G : Nat → Prop} (h : RefIn w q d sv xs lv [] G) (hp : d.pend = []) (hu : Uniq w xs) {N k : Nat} (hN : N < xs.length) (hk : k < 256) (b : UInt8) :
    ∃ g c, (∃ C, w.heap[g]? = some (.cells C 5 (0, 0))) ∧ xs[N]? = some (.slice (some ⟨g, 0, none⟩) 256 c) ∧ 256 ≤ c ∧ G g ∧ w.cell? ⟨g, k, none⟩ = some (Mem.u8 (((d.syn N).getD Dk.zeros).getD k 0)) ∧ w.frozen? ⟨g, k, none⟩ = false ∧
      RefIn (w.setCell ⟨g, k, none⟩ (Mem.u8 b)) q { d with syn := upd d.syn N (((d.syn N).getD Dk.zeros).set k b) } sv xs lv [] G ∧ Uniq (w.setCell ⟨g, k, none⟩ (Mem.u8 b)) xs := by
  obtain ⟨gs, u1, u2, u3⟩ := hu
  obtain ⟨c, C, e1, e2, e3⟩ := u3 N (by omega)
  obtain ⟨b0, off, c', C', fr, f1, f2, f3, f4, f5, f6, f7⟩ := h.syn N _ e1
  injection f1 with f1 _ f1c
  injection f1 with f1
  injection f1 with f1 f1o
  subst f1 f1o f1c
  rw [e2] at f3
  injection f3 with f3
  injection f3 with f3 _ f3r
  subst f3 f3r
  generalize hg : gs[N] = g at *
  have hkk : ∀ j, j ≠ g → (w.setCell ⟨g, k, none⟩ (Mem.u8 b)).heap[j]? = w.heap[j]? := fun j hj => Below.heap_setCell w _ _ j hj
  have hself : (w.setCell ⟨g, k, none⟩ (Mem.u8 b)).heap[g]? = some (.cells (C.setIfInBounds k (Mem.u8 b)) 5 (0, 0)) := heap_setCell_same w g k C 5 (Mem.u8 b) e2
  have hnq : g ≠ q := blk_ne e2 h.blk (by decide)
  have hsec : ∀ (i : Nat) v bs, i ≠ N → xs[i]? = some v → SecAt w G v bs → SecAt (w.setCell ⟨g, k, none⟩ (Mem.u8 b)) G v bs := by
    intro i v bs hi hv hs
    obtain ⟨b1, off1, c1, C1, fr1, g1, g2, g3, r⟩ := hs
    refine ⟨b1, off1, c1, C1, fr1, g1, g2, (hkk b1 ?_).trans g3, r⟩
    have hil : i < gs.length := by
      rw [u1]
      rcases Nat.lt_or_ge i xs.length with hl | hl
      · exact hl
      · rw [List.getElem?_eq_none hl] at hv; cases hv
    obtain ⟨c2, C2, k1, k2, k3⟩ := u3 i hil
    rw [hv, g1] at k1
    injection k1 with k1
    injection k1 with k1
    injection k1 with k1
    injection k1 with k1
    rw [k1, ← hg]
    intro e
    exact hi (nodup_inj u2 hil _ e)
  refine ⟨g, c, ⟨_, e2⟩, e1, f5, f2, ?_, ?_, ⟨?_, own_keep h.srow (fun j e => hkk j ?_), h.slen, fun i v e => ?_, own_keep h.lrow (fun j e => hkk j ?_), fun i hi => ?_, h.footq, h.foots, h.footl, fun j x => by rw [setCell_size]; exact h.bound j x⟩, ⟨gs, u1, u2, fun i hi => ?_⟩⟩
  · rw [cell_of_row w g k C 5 (0, 0) e2]
    have := f7 k hk
    rwa [Nat.zero_add] at this
  · simp [World.frozen?, e2]
  · exact h.blk.keep (hkk q (fun e => hnq e.symm))
  · intro e'
    obtain ⟨cur, hcur⟩ := own_block h.srow e
    exact blk_ne e2 hcur (by decide) e'.symm
  · by_cases hi : i = N
    · subst hi
      rw [e1] at e
      injection e with e
      subst e
      have es : (upd d.syn (i : Int) (((d.syn i).getD Dk.zeros).set k b) (i : Int)).getD Dk.zeros = ((d.syn i).getD Dk.zeros).set k b := by simp [upd]
      show SecAt _ _ _ ((upd d.syn (i : Int) (((d.syn i).getD Dk.zeros).set k b) (i : Int)).getD Dk.zeros)
      rw [es]
      refine ⟨g, 0, c, _, (0, 0), rfl, f2, hself, by rw [List.length_set]; exact f4, f5, f6, fun j hj => ?_⟩
      rw [Nat.zero_add, Array.getElem?_setIfInBounds]
      by_cases hjk : k = j
      · subst hjk
        rw [if_pos rfl, if_pos (by omega), List.getD_eq_getElem?_getD, List.getElem?_set, if_pos rfl, if_pos (by omega)]
        rfl
      · rw [if_neg hjk, List.getD_eq_getElem?_getD, List.getElem?_set, if_neg hjk, ← List.getD_eq_getElem?_getD]
        have := f7 j hj
        rwa [Nat.zero_add] at this
    · have es : upd d.syn (N : Int) (((d.syn N).getD Dk.zeros).set k b) (i : Int) = d.syn i := by
        unfold upd
        rw [if_neg (by omega)]
      show SecAt _ _ _ ((upd d.syn (N : Int) (((d.syn N).getD Dk.zeros).set k b) (i : Int)).getD Dk.zeros)
      rw [es]
      exact hsec i v _ hi e (h.syn i v e)
  · intro e'
    obtain ⟨cur, hcur⟩ := own_block h.lrow e
    exact blk_ne e2 hcur (by decide) e'.symm
  · rw [show ({ d with syn := upd d.syn (N : Int) (((d.syn N).getD Dk.zeros).set k b) } : Dk.D).pend = [] from hp] at hi
    exact absurd hi (by simp)
  · obtain ⟨c2, C2, k1, k2, k3⟩ := u3 i hi
    by_cases hi2 : gs[i] = g
    · have : C2 = C := by
        rw [hi2, e2] at k2
        injection k2 with k2
        injection k2 with k2
        exact k2.symm
      subst this
      exact ⟨c2, _, k1, by rw [hi2]; exact hself, by simpa using k3⟩
    · exact ⟨c2, C2, k1, (hkk _ hi2).trans k2, k3⟩
/-- one byte more of a write -/
theorem mix_byte (syn : Int → Option (List UInt8)) (hs : ∀ n s, syn n = some s → s.length = 256) (N : Nat) (s : List UInt8) (hl : s.length = 256) (k : Nat) (hk : k < 256) (i : Nat) :
    (Dk.mix syn ((N : Int), s) (k + 1) (i : Int)).getD Dk.zeros = (upd (Dk.mix syn ((N : Int), s) k) (N : Int) (((Dk.mix syn ((N : Int), s) k (N : Int)).getD Dk.zeros).set k (s.getD k 0)) (i : Int)).getD Dk.zeros := by
  have hz : ((syn (N : Int)).getD Dk.zeros).length = 256 := by
    cases hq : syn (N : Int) with
    | none => exact Dk.zeros_length
    | some t => exact hs _ t hq
  have hm : ∀ c, (Dk.mix syn ((N : Int), s) c (N : Int)).getD Dk.zeros = s.take c ++ ((syn (N : Int)).getD Dk.zeros).drop c := by
    intro c
    unfold Dk.mix
    by_cases hc : c = 0
    · subst hc; simp
    · rw [if_neg hc]; simp [upd]
  by_cases hi : (i : Int) = (N : Int)
  · rw [hi, hm, hm]
    simp only [upd, if_true, Option.getD_some]
    generalize (syn (N : Int)).getD Dk.zeros = z at *
    rw [List.set_append_right _ _ (by rw [List.length_take]; omega), List.length_take, Nat.min_eq_left (by omega), Nat.sub_self]
    rw [List.drop_eq_getElem_cons (show k < z.length by omega), List.set_cons_zero]
    rw [List.take_succ_eq_append_getElem (show k < s.length by omega), List.append_assoc, List.getD_eq_getElem?_getD, List.getElem?_eq_getElem (show k < s.length by omega)]
    rfl
  · have h1 : ∀ c, Dk.mix syn ((N : Int), s) c (i : Int) = syn (i : Int) := by
      intro c
      unfold Dk.mix
      split
      · rfl
      · simp only [upd]; rw [if_neg hi]
    rw [h1]
    simp only [upd, if_neg hi, h1]
end Go.Proofs.Ytaooimhodoefoaa
