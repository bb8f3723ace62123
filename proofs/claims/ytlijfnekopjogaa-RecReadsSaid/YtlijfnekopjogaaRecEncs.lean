/- RecEncs: joined out of RecFF, RecEnc. -/
import Derived.Test.YtlijfnekopjogaaRecMayP
import Derived.Test.YtlijfnekopjogaaRecW9
/- What may be may be written, and is not long. -/
namespace Go.Proofs.Ytlijfnekopjogaa
open Go Go.RowKit Mem Rc
set_option maxRecDepth 100000
set_option linter.unusedVariables false
set_option linter.unusedSimpArgs false
namespace Rc
structure FMay (m : M) : Prop where
  kind : 0 ≤ m.kind ∧ m.kind ≤ 10
  tx : nC.fine m.tx
  prev : nC.fine m.prev
  nxt : nC.fine m.nxt
  coord : nC.fine m.coord
  key : m.key.size ≤ 32
  old : vC.fine m.old
  new : vC.fine m.new
  mem : members m.mem = true
  locks : locks m.locks = true
  rows : rows m.rows = true
  dirty : dirty m.dirty = true
  deeds : deeds m.deeds = true
  past : past m.past = true
theorem fmay {m : M} (h : may m = true) : FMay m := by
  obtain ⟨h1, h2, h3, h4, h5⟩ := may_parts h
  obtain ⟨s1, s2, s3, s4, s5, s6, s7, s8, s9⟩ := spare_parts h2
  have hk : 0 ≤ m.kind ∧ m.kind ≤ 10 := by rcases kind_cases h1 with e | e | e | e | e | e | e | e | e | e <;> omega
  have z0 : nC.fine (0 : Int) := ⟨Int.le_refl _, by show (0 : Int) ≤ 1099511627776; omega⟩
  have zb : (⟨#[]⟩ : ByteArray).size ≤ 32 := Nat.zero_le _
  by_cases e : m.kind = 7 ∨ m.kind = 8
  · obtain ⟨ht, hc⟩ := h3 e
    unfold check at hc
    simp only [Bool.and_eq_true] at hc
    have hw : (wants m.kind).prev = true ∧ (wants m.kind).next = true ∧ (wants m.kind).key = true ∧ (wants m.kind).old = true ∧ (wants m.kind).new = true ∧ (wants m.kind).coord = true ∧ (wants m.kind).members = true ∧ (wants m.kind).locks = true := by
      rcases e with e | e <;> rw [e] <;> exact ⟨rfl, rfl, rfl, rfl, rfl, rfl, rfl, rfl⟩
    exact ⟨hk, by rw [ht]; exact z0, by rw [s1 hw.1]; exact z0, by rw [s2 hw.2.1]; exact z0, by rw [s6 hw.2.2.2.2.2.1]; exact z0, by rw [s3 hw.2.2.1]; exact zb, by rw [s4 hw.2.2.2.1]; exact zero_fine, by rw [s5 hw.2.2.2.2.1]; exact zero_fine,
      by rw [s7 hw.2.2.2.2.2.2.1]; rfl, by rw [s8 hw.2.2.2.2.2.2.2]; rfl, hc.1.1.1, hc.1.1.2, hc.1.2, hc.2⟩
  · have hr := h5 e
    unfold rest at hr
    simp only [Bool.and_eq_true] at hr
    obtain ⟨⟨⟨⟨⟨r1, r2⟩, r3⟩, r4⟩, r5⟩, r6⟩ := hr
    have hl : (wants m.kind).lists = true := by
      rcases kind_cases h1 with e1 | e1 | e1 | e1 | e1 | e1 | e1 | e1 | e1 | e1 <;> first | (rw [e1]; rfl) | omega
    obtain ⟨l1, l2, l3, l4⟩ := s9 hl
    have hkv : m.key.size ≤ 32 ∧ vC.fine m.old ∧ vC.fine m.new := by
      by_cases e2 : m.kind = 1 ∨ m.kind = 2
      · obtain ⟨k1, k2, k3⟩ := h4 e2
        exact ⟨by have := key_small k1; omega, val_fine k2, val_fine k3⟩
      · have hw : (wants m.kind).key = true ∧ (wants m.kind).old = true ∧ (wants m.kind).new = true := by
          rcases kind_cases h1 with e1 | e1 | e1 | e1 | e1 | e1 | e1 | e1 | e1 | e1 <;> first | (rw [e1]; exact ⟨rfl, rfl, rfl⟩) | omega
        exact ⟨by rw [s3 hw.1]; exact zb, by rw [s4 hw.2.1]; exact zero_fine, by rw [s5 hw.2.2]; exact zero_fine⟩
    exact ⟨hk, seq_fine r1 (by omega), seq_fine r2 (by omega), seq_fine r3 (by omega), node_fine r4, hkv.1, hkv.2.1, hkv.2.2, r5, r6, by rw [l1]; rfl, by rw [l2]; rfl, by rw [l3]; rfl, by rw [l4]; rfl⟩
theorem nOk_fine {n : Int} (h : nC.fine n) : nOk n := by
  have h1 : 0 ≤ n ∧ n ≤ 1099511627776 := h
  exact ⟨by omega, by omega⟩
theorem members_len {l : List Int} (h : members l = true) : l.length ≤ 8 := by
  unfold members up at h
  rw [Bool.and_eq_true, decide_eq_true_eq] at h
  exact h.1
theorem all_getD {α : Type} {l : List α} {P : α → Prop} (h : ∀ a ∈ l, P a) (z : α) (k : Nat) (hk : k < l.length) : P (l.getD k z) := by
  rw [List.getD_eq_getElem?_getD, List.getElem?_eq_getElem hk]
  exact h _ (List.getElem_mem hk)
theorem members_ok {l : List Int} (h : members l = true) : ∀ k, k < l.length → nOk (l.getD k 0) := fun k hk => all_getD (P := nOk) (fun a ha => nOk_fine ((mem_fine h).2 a ha)) 0 k hk
theorem locks_len {l : List L} (h : locks l = true) : l.length ≤ 64 := (rising_all h).1
theorem locks_ok {l : List L} (h : locks l = true) : ∀ k, k < l.length → (l.getD k L.zero).key.size ≤ 32 := fun k hk => all_getD (P := fun x : L => x.key.size ≤ 32) (fun a ha => by have := key_small ((rising_all h).2 a ha); omega) L.zero k hk
theorem rwf {x : Rw} (h : rowOk x = true) : RwF x := by
  have h0 := h
  unfold rowOk at h
  simp only [Bool.and_eq_true, decide_eq_true_eq] at h
  obtain ⟨⟨⟨⟨⟨⟨⟨⟨h1, h2⟩, h3⟩, h4⟩, h5⟩, h6⟩, h7⟩, h8⟩, h9⟩ := h
  exact ⟨nOk_fine (seq_fine h1 (by omega)), ⟨by omega, by omega⟩, nOk_fine (seq_fine h4 (by omega)), nOk_fine (seq_fine h5 (by omega)), nOk_fine (seq_fine h6 (by omega)), nOk_fine (node_fine h7), members_len h8, members_ok h8, locks_len h9, locks_ok h9⟩
theorem def_ {x : De} (h : deedOk x = true) : DeF x := by
  unfold deedOk at h
  simp only [Bool.and_eq_true] at h
  exact ⟨nOk_fine (seq_fine h.1 (by omega)), members_len h.2, members_ok h.2⟩
theorem ff_of_may {x : MD} (h : may x.m = true) : FF x := by
  have g := fmay h
  have hr := rising_all g.rows
  have hd := rising_all g.dirty
  have he := rising_all g.deeds
  have hp := rising_all g.past
  have e1 : x.m.rows.length = x.rows.length := List.length_map _
  have e2 : x.m.deeds.length = x.deeds.length := List.length_map _
  refine ⟨⟨by have : 0 ≤ x.kind := g.kind.1; omega, by have : x.kind ≤ 10 := g.kind.2; omega⟩, nOk_fine g.tx, nOk_fine g.prev, nOk_fine g.nxt, nOk_fine g.coord, g.key, g.old, g.new, members_len g.mem, members_ok g.mem, locks_len g.locks, locks_ok g.locks,
    by rw [← e1]; exact hr.1, fun k hk => all_getD (P := fun y : RwD => RwF y.r) (fun a ha => rwf (hr.2 a.r (List.mem_map_of_mem ha))) RwD.zero k hk, hd.1,
    fun k hk => all_getD (P := fun y : D => nOk y.page ∧ nOk y.rc) (fun a ha => ?_) D.zero k hk, by rw [← e2]; exact he.1,
    fun k hk => all_getD (P := fun y : DeD => DeF y.d) (fun a ha => def_ (he.2 a.d (List.mem_map_of_mem ha))) DeD.zero k hk, hp.1, fun k hk => all_getD (P := nOk) (fun a ha => nOk_fine (seq_fine (hp.2 a ha) (by omega))) 0 k hk⟩
  have h1 := hd.2 a ha
  unfold dirtyOk at h1
  simp only [Bool.and_eq_true, decide_eq_true_eq] at h1
  exact ⟨⟨by omega, by omega⟩, nOk_fine (seq_fine h1.2 (by omega))⟩
end Rc
theorem len_rows {x : MD} (h : FF x) : (rwsC.enc x.m.rows).length ≤ 200000 := by
  rw [enc_rows, List.length_append]
  have g1 := num_le (x.rows.length : Int)
  have g2 := flatE_take 3000 (fun x : RwD => rwC.enc x.r) x.rows RwD.zero x.rows.length (fun j hj => len_row (h.rows j hj))
  rw [List.take_length] at g2
  have g3 := h.rlen
  omega
theorem len_dirtys {x : MD} (h : FF x) : (dsC.enc x.dirty).length ≤ 2000 := by
  show (Sl.numB (x.dirty.length : Int) ++ x.dirty.flatMap (fun x : D => dC.enc x)).length ≤ 2000
  rw [List.length_append]
  have g1 := num_le (x.dirty.length : Int)
  have g2 := flatE_take 22 (fun x : D => dC.enc x) x.dirty D.zero x.dirty.length (fun j hj => len_dirty (h.dirty j hj))
  rw [List.take_length] at g2
  have g3 := h.dlen
  omega
theorem len_deeds {x : MD} (h : FF x) : (desC.enc x.m.deeds).length ≤ 10000 := by
  rw [enc_deeds, List.length_append]
  have g1 := num_le (x.deeds.length : Int)
  have g2 := flatE_take 110 (fun x : DeD => deC.enc x.d) x.deeds DeD.zero x.deeds.length (fun j hj => len_deed (h.deeds j hj))
  rw [List.take_length] at g2
  have g3 := h.elen
  omega
theorem body_le {x : MD} (h : FF x) (hk : Rc.kindOk x.kind = true) : (Rc.body x.m).length ≤ 1000000 := by
  unfold Rc.body
  rw [show x.m.kind = x.kind from rfl, List.length_append]
  have h0 := num_le x.kind
  have h1 := num_le x.tx
  have h2 := num_le x.prev
  have h3 := num_le x.nxt
  have h4 := num_le x.coord
  have h5 := len_text h.key
  have h6 := len_val h.old
  have h7 := len_val h.new
  have h8 := len_ints h.mlen
  have h9 := len_locks h.llen h.locks
  have h10 := len_rows h
  have h11 := len_dirtys h
  have h12 := len_deeds h
  have h13 := len_ints h.plen
  rcases kind_cases hk with e | e | e | e | e | e | e | e | e | e
  all_goals rw [e] at h0 ⊢
  · show _ + (Sl.numB x.tx ++ (Sl.numB x.prev ++ (Sl.textB x.key.data.toList ++ (vC.enc x.old ++ vC.enc x.new)))).length ≤ _
    simp only [List.length_append]; omega
  · show _ + (Sl.numB x.tx ++ (Sl.numB x.prev ++ (Sl.numB x.nxt ++ (Sl.textB x.key.data.toList ++ vC.enc x.new)))).length ≤ _
    simp only [List.length_append]; omega
  · show _ + (Sl.numB x.tx ++ (Sl.numB x.prev ++ (Sl.numB x.coord ++ (iC.enc x.mem ++ lsC.enc x.locks)))).length ≤ _
    simp only [List.length_append]; omega
  iterate 3
    · show _ + (Sl.numB x.tx ++ Sl.numB x.prev).length ≤ _
      simp only [List.length_append]; omega
  · show _ + ([] : List UInt8).length ≤ _
    simp only [List.length_nil]; omega
  · show _ + (rwsC.enc x.m.rows ++ (dsC.enc x.dirty ++ (desC.enc x.m.deeds ++ iC.enc x.past))).length ≤ _
    simp only [List.length_append]; omega
  · show _ + (Sl.numB x.tx ++ iC.enc x.mem).length ≤ _
    simp only [List.length_append]; omega
  · show _ + (Sl.numB x.tx).length ≤ _
    omega
end Go.Proofs.Ytlijfnekopjogaa

/- A record's bytes, or the error; how many they are: rec.Encode, rec.Size. -/
namespace Go.Proofs.Ytlijfnekopjogaa
open Go Go.RowKit Mem Rc
set_option maxRecDepth 100000
set_option linter.unusedVariables false
set_option linter.unusedSimpArgs false

/-- bytes of one's own, and an error -/
def RecP (w : World) (r : List UInt8 × Nat) (e : Ending) (w' : World) : Prop :=
  ∃ v, e = .returned (.tuple #[v, .int .i64 (r.2 : Int)]) ∧ w'.ownsRow w.heap.size 5 1 v r.1.length (u8s r.1) ∧ Below w.heap.size w w'
set_option maxHeartbeats 8000000 in
theorem rencode_any (x : MD) (w : World) (hok : MOk w x) (hs : Small x) : Calls Try.prog 10 #[mVal x] w (RecP w (Rc.enc x.m)) := by
  obtain ⟨W, hW⟩ : ∃ W, w.alloc (.cells (mCells x) 30) = W := ⟨_, rfl⟩
  have hb : Below w.heap.size w W := by rw [← hW]; exact (Below.refl _ _).alloc (Nat.le_refl _) _
  have hr : Blk W w.heap.size 30 (mCells x) := by rw [← hW]; exact Blk.new _ _ _
  have HM := Lib.hid (may_any x W (hok.below hb) hs)
  have H := Lib.hid (And.intro hb (And.intro (hok.below hb) hr))
  obtain ⟨R, hR⟩ : ∃ R, Rc.enc x.m = R := ⟨_, rfl⟩
  rw [hR]
  have HR := Lib.hid hR
  clear hb hok hs hR
  cases hm : Rc.may x.m with
  | false =>
    have hrr : R = ([], 1) := by rw [← HR.out]; unfold Rc.enc; rw [hm, if_neg (by simp)]
    have HY := Lib.hid hm
    subst hrr
    clear hm
    go_enter Try.func10, Try.ntmps10
    go_wp2_with (refine wpList_load_rec (by rfl) (by rfl) (by rfl) (by assumption) ?_)
    refine HM.out.mono ?_
    rw [HY.out]
    rintro e w1 ⟨rfl, hb1⟩
    have H1 := Lib.hid hb1
    clear hb1
    go_wp2
    go_ret2
    exact ⟨_, rfl, ⟨rfl, .inl ⟨rfl, rfl⟩⟩, H.out.1.trans (H1.out.mono H.out.1.size)⟩
  | true =>
    have hf := ff_of_may hm
    have hk := (may_parts hm).1
    have hle := body_le hf hk
    have hrr : R = if 4096 < (Rc.body x.m).length then ([], 12) else (Rc.body x.m, 0) := by rw [← HR.out]; unfold Rc.enc; rw [hm, if_pos rfl]
    have HY := Lib.hid (And.intro hm (And.intro hf (And.intro hk (And.intro hle hrr))))
    clear hm hf hk hle hrr
    go_enter Try.func10, Try.ntmps10
    go_wp2_with (refine wpList_load_rec (by rfl) (by rfl) (by rfl) (by assumption) ?_)
    refine HM.out.mono ?_
    rw [HY.out.1]
    rintro e w1 ⟨rfl, hb1⟩
    have hr1 := hr.below hb1 hr.lt
    have HB := Lib.hid (rbytes_any x w1 HY.out.2.2.1 (H.out.2.1.below hb1) HY.out.2.1 (by have := HY.out.2.2.2.1; omega))
    have H1 := Lib.hid (H.out.1.trans (hb1.mono H.out.1.size))
    clear hb1 hr
    go_wp2_with (refine wpList_load_rec (by rfl) (by rfl) (by rfl) (by assumption) ?_)
    refine HB.out.mono ?_
    rintro e w2 ⟨v, rfl, ho, hb2⟩
    obtain ⟨A, c, rfl⟩ := own_slice ho
    have H2 := Lib.hid (And.intro ho (H1.out.trans (hb2.mono H1.out.size)))
    clear ho hb2 hr1
    by_cases h4 : 4096 < (Rc.body x.m).length
    · have hrr : R = ([], 12) := by rw [HY.out.2.2.2.2, if_pos h4]
      have hd : decide ((4096 : Int) < ((Rc.body x.m).length : Int)) = true := decide_eq_true (by omega)
      have HX := Lib.hid hrr
      clear hrr
      generalize hn : (Rc.body x.m).length = n at *
      have HN := Lib.hid hn
      clear h4 hn
      go_wp2
      go_ret2
      rw [HX.out]
      exact ⟨_, rfl, ⟨rfl, .inl ⟨rfl, rfl⟩⟩, H2.out.2⟩
    · have hrr : R = (Rc.body x.m, 0) := by rw [HY.out.2.2.2.2, if_neg h4]
      have hd : decide ((4096 : Int) < ((Rc.body x.m).length : Int)) = false := decide_eq_false (by omega)
      have HX := Lib.hid (And.intro hrr H2.out)
      clear hrr H2
      generalize hn : (Rc.body x.m).length = n at *
      have HN := Lib.hid hn
      clear h4 hn
      go_wp2
      go_ret2
      rw [HX.out.1]
      exact ⟨.slice A n c, rfl, by show World.ownsRow _ _ _ _ _ (Rc.body x.m).length (u8s (Rc.body x.m)); rw [HN.out]; exact own_base HX.out.2.1 H1.out.size, HX.out.2.2⟩
set_option maxHeartbeats 8000000 in
theorem rsize_any (x : MD) (w : World) (hok : MOk w x) (hs : Small x) : Calls Try.prog 16 #[mVal x] w fun e w' => e = .returned (.int .i64 ((Rc.enc x.m).1.length : Nat)) ∧ Below w.heap.size w w' := by
  obtain ⟨W, hW⟩ : ∃ W, w.alloc (.cells (mCells x) 30) = W := ⟨_, rfl⟩
  have hb : Below w.heap.size w W := by rw [← hW]; exact (Below.refl _ _).alloc (Nat.le_refl _) _
  have hr : Blk W w.heap.size 30 (mCells x) := by rw [← hW]; exact Blk.new _ _ _
  have HM := Lib.hid (rencode_any x W (hok.below hb) hs)
  have H := Lib.hid hb
  generalize Rc.enc x.m = R at *
  clear hb hok hs
  go_enter Try.func16, Try.ntmps16
  go_wp2_with (refine wpList_load_rec (by rfl) (by rfl) (by rfl) (by assumption) ?_)
  refine HM.out.mono ?_
  rintro e w1 ⟨v, rfl, ho, hb1⟩
  obtain ⟨A, c, rfl⟩ := own_slice ho
  have H1 := Lib.hid (H.out.trans (hb1.mono H.out.size))
  clear ho hb1 hr
  go_wp2
  go_ret
  exact ⟨rfl, H1.out⟩
end Go.Proofs.Ytlijfnekopjogaa
