/- The coder writes: the fields, a record's bytes (printed by gen_wf2.py). -/
import Derived.Test.YtlijfnekopjogaaRecW8
namespace Go.Proofs.Ytlijfnekopjogaa
open Go Go.RowKit Mem Rc
set_option maxRecDepth 100000
set_option linter.unusedVariables false
set_option linter.unusedSimpArgs false

theorem enc_rows (x : MD) : rwsC.enc x.m.rows = Sl.numB (x.rows.length : Int) ++ x.rows.flatMap (fun x : RwD => rwC.enc x.r) := by
  show Sl.numB ((x.rows.map RwD.r).length : Int) ++ (x.rows.map RwD.r).flatMap rwC.enc = _
  rw [List.length_map, List.flatMap_map]
theorem enc_deeds (x : MD) : desC.enc x.m.deeds = Sl.numB (x.deeds.length : Int) ++ x.deeds.flatMap (fun x : DeD => deC.enc x.d) := by
  show Sl.numB ((x.deeds.map DeD.d).length : Int) ++ (x.deeds.map DeD.d).flatMap deC.enc = _
  rw [List.length_map, List.flatMap_map]
theorem enc_k1 (bs : List UInt8) (x : MD) (hx : x.kind = 1) : bs ++ [x.tx, x.prev].flatMap Sl.numB ++ Sl.textB x.key.data.toList ++ vC.enc x.old ++ vC.enc x.new = bs ++ (fC x.kind).enc x.m := by
  rw [hx]
  show _ = bs ++ (Sl.numB x.tx ++ (Sl.numB x.prev ++ (Sl.textB x.key.data.toList ++ (vC.enc x.old ++ (vC.enc x.new)))))
  simp [List.append_assoc]
theorem enc_k2 (bs : List UInt8) (x : MD) (hx : x.kind = 2) : bs ++ [x.tx, x.prev, x.nxt].flatMap Sl.numB ++ Sl.textB x.key.data.toList ++ vC.enc x.new = bs ++ (fC x.kind).enc x.m := by
  rw [hx]
  show _ = bs ++ (Sl.numB x.tx ++ (Sl.numB x.prev ++ (Sl.numB x.nxt ++ (Sl.textB x.key.data.toList ++ (vC.enc x.new)))))
  simp [List.append_assoc]
theorem enc_k3 (bs : List UInt8) (x : MD) (hx : x.kind = 3) : bs ++ [x.tx, x.prev, x.coord].flatMap Sl.numB ++ iC.enc x.mem ++ lsC.enc x.locks = bs ++ (fC x.kind).enc x.m := by
  rw [hx]
  show _ = bs ++ (Sl.numB x.tx ++ (Sl.numB x.prev ++ (Sl.numB x.coord ++ (iC.enc x.mem ++ (lsC.enc x.locks)))))
  simp [List.append_assoc]
theorem enc_k4 (bs : List UInt8) (x : MD) (hx : x.kind = 4) : bs ++ [x.tx, x.prev].flatMap Sl.numB = bs ++ (fC x.kind).enc x.m := by
  rw [hx]
  show _ = bs ++ (Sl.numB x.tx ++ (Sl.numB x.prev))
  simp [List.append_assoc]
theorem enc_k5 (bs : List UInt8) (x : MD) (hx : x.kind = 5) : bs ++ [x.tx, x.prev].flatMap Sl.numB = bs ++ (fC x.kind).enc x.m := by
  rw [hx]
  show _ = bs ++ (Sl.numB x.tx ++ (Sl.numB x.prev))
  simp [List.append_assoc]
theorem enc_k6 (bs : List UInt8) (x : MD) (hx : x.kind = 6) : bs ++ [x.tx, x.prev].flatMap Sl.numB = bs ++ (fC x.kind).enc x.m := by
  rw [hx]
  show _ = bs ++ (Sl.numB x.tx ++ (Sl.numB x.prev))
  simp [List.append_assoc]
theorem enc_k7 (bs : List UInt8) (x : MD) (hx : x.kind = 7) : bs = bs ++ (fC x.kind).enc x.m := by
  rw [hx]
  show _ = bs ++ ([])
  simp [List.append_assoc]
theorem enc_k8 (bs : List UInt8) (x : MD) (hx : x.kind = 8) : bs ++ (Sl.numB (x.rows.length : Int) ++ x.rows.flatMap (fun x : RwD => rwC.enc x.r)) ++ (Sl.numB (x.dirty.length : Int) ++ x.dirty.flatMap (fun x : D => dC.enc x)) ++ (Sl.numB (x.deeds.length : Int) ++ x.deeds.flatMap (fun x : DeD => deC.enc x.d)) ++ iC.enc x.past = bs ++ (fC x.kind).enc x.m := by
  rw [hx]
  show _ = bs ++ (rwsC.enc x.m.rows ++ ((Sl.numB (x.dirty.length : Int) ++ x.dirty.flatMap (fun x : D => dC.enc x)) ++ (desC.enc x.m.deeds ++ (iC.enc x.past))))
  simp [List.append_assoc, enc_rows, enc_deeds]
theorem enc_k9 (bs : List UInt8) (x : MD) (hx : x.kind = 9) : bs ++ Sl.numB x.tx ++ iC.enc x.mem = bs ++ (fC x.kind).enc x.m := by
  rw [hx]
  show _ = bs ++ (Sl.numB x.tx ++ (iC.enc x.mem))
  simp [List.append_assoc]
theorem enc_k10 (bs : List UInt8) (x : MD) (hx : x.kind = 10) : bs ++ Sl.numB x.tx = bs ++ (fC x.kind).enc x.m := by
  rw [hx]
  show _ = bs ++ (Sl.numB x.tx)
  simp [List.append_assoc]
theorem cw_fields_any (q : Nat) (bs : List UInt8) (F : Nat → Prop) (rb : Nat) (x : MD) (w0 w : World) (hk : Rc.kindOk x.kind = true) (hw : WrAt w q bs F) (h0 : Below w0.heap.size w0 w) (hF : ∀ k, F k → w0.heap.size ≤ k) (hr : Blk w rb 30 (mCells x)) (hrb : ¬ F rb) (hok : MOk w0 x) (hf : FF x) (hl : bs.length + 20000000 ≤ 140737488351232) :
    Calls Try.prog 46 #[cw q, .pointer (some ⟨rb, 0, none⟩)] w (WrTo w F q (bs ++ (fC x.kind).enc x.m)) := by
  rcases kind_cases hk with e | e | e | e | e | e | e | e | e | e
  · rw [← enc_k1 bs x e]
    exact cw_fields1 q bs F rb x w0 w e hw h0 hF hr hrb hok hf hl
  · rw [← enc_k2 bs x e]
    exact cw_fields2 q bs F rb x w0 w e hw h0 hF hr hrb hok hf hl
  · rw [← enc_k3 bs x e]
    exact cw_fields3 q bs F rb x w0 w e hw h0 hF hr hrb hok hf hl
  · rw [← enc_k4 bs x e]
    exact cw_fields4 q bs F rb x w0 w e hw h0 hF hr hrb hok hf hl
  · rw [← enc_k5 bs x e]
    exact cw_fields5 q bs F rb x w0 w e hw h0 hF hr hrb hok hf hl
  · rw [← enc_k6 bs x e]
    exact cw_fields6 q bs F rb x w0 w e hw h0 hF hr hrb hok hf hl
  · rw [← enc_k7 bs x e]
    exact cw_fields7 q bs F rb x w0 w e hw h0 hF hr hrb hok hf hl
  · rw [← enc_k8 bs x e]
    exact cw_fields8 q bs F rb x w0 w e hw h0 hF hr hrb hok hf hl
  · rw [← enc_k9 bs x e]
    exact cw_fields9 q bs F rb x w0 w e hw h0 hF hr hrb hok hf hl
  · rw [← enc_k10 bs x e]
    exact cw_fields10 q bs F rb x w0 w e hw h0 hF hr hrb hok hf hl
set_option maxHeartbeats 4000000 in
theorem rbytes_any (x : MD) (w : World) (hk : Rc.kindOk x.kind = true) (hok : MOk w x) (hf : FF x) (hlen : (Rc.body x.m).length ≤ 140737488351232) :
    Calls Try.prog 20 #[mVal x] w (OwnB 5 w (Rc.body x.m)) := by
  have hb1 : Below w.heap.size w (w.alloc (.cells (mCells x) 30)) := (Below.refl _ _).alloc (Nat.le_refl _) _
  obtain ⟨W1, hW1⟩ : ∃ W1, w.alloc (.cells (mCells x) 30) = W1 := ⟨_, rfl⟩
  have hs1 : W1.heap.size = w.heap.size + 1 := by rw [← hW1]; simp
  have hr1 : Blk W1 w.heap.size 30 (mCells x) := by rw [← hW1]; exact Blk.new _ _ _
  rw [hW1] at hb1
  obtain ⟨W2, hW2⟩ : ∃ W2, W1.alloc (.cells #[.slice none 0 0] 88) = W2 := ⟨_, rfl⟩
  have hb2 : Below W1.heap.size W1 W2 := by rw [← hW2]; exact (Below.refl _ _).alloc (Nat.le_refl _) _
  have hw2 : WrAt W2 W1.heap.size [] (fun k => k = W1.heap.size) := by rw [← hW2]; exact WrAt.new W1
  have hr2 := hr1.below hb2 hr1.lt
  have ck : W2.cell? ⟨w.heap.size, 0, none⟩ = some (.int .i64 x.kind) := hr2.cell 0
  have HN := Lib.hid (wnum_any W1.heap.size [] _ x.kind W2 hf.kind hw2 (by simp))
  have hb02 : Below w.heap.size w W2 := hb1.trans (hb2.mono hb1.size)
  have H := Lib.hid (And.intro hb02 (And.intro hr2 (And.intro hok (And.intro hf (And.intro hk (And.intro hs1 (And.intro hb2.size (And.intro hw2.bound hlen))))))))
  clear hb1 hs1 hr1 hb2 hw2 hr2 hb02 hok hf hk hlen
  go_enter Try.func20, Try.ntmps20
  go_wp2_with fail
  refine HN.out.mono ?_
  rintro e w3 ⟨rfl, F3, h1, h2, h3⟩
  have hF3 : ∀ k, F3 k → W1.heap.size ≤ k := fun k hk => by
    rcases h3 k hk with y | y
    · exact Nat.le_of_eq (Eq.symm y)
    · exact Nat.le_trans H.out.2.2.2.2.2.2.1 y
  have hb3 : Below w.heap.size w w3 := H.out.1.trans (h2.below H.out.1.size (fun k hk => by have h4 : k = W1.heap.size := hk; have h5 := H.out.2.2.2.2.2.1; omega))
  have hr3 : Blk w3 w.heap.size 30 (mCells x) := H.out.2.1.keep (h2.block _ H.out.2.1.lt (fun h => by have h4 : w.heap.size = W1.heap.size := h; have h5 := H.out.2.2.2.2.2.1; omega))
  have HF := Lib.hid (cw_fields_any W1.heap.size ([] ++ Sl.numB x.kind) F3 w.heap.size x w w3 H.out.2.2.2.2.1 h1 hb3 (fun k hk => by have h4 := hF3 k hk; have h5 := H.out.2.2.2.2.2.1; omega) hr3 (fun h => by have h4 := hF3 _ h; have h5 := H.out.2.2.2.2.2.1; omega) H.out.2.2.1 H.out.2.2.2.1 (by have := num_le x.kind; simp only [List.nil_append]; omega))
  have H3 := Lib.hid (And.intro hb3 hF3)
  clear h1 h2 h3 hF3 hb3 hr3
  go_wp2_with fail
  refine HF.out.mono ?_
  rintro e w4 ⟨rfl, F4, h1, h2, h3⟩
  have hb4 : Below w.heap.size w w4 := H3.out.1.trans (h2.below H3.out.1.size (fun k hk => by have h4 := H3.out.2 k hk; have h5 := H.out.2.2.2.2.2.1; omega))
  have HB := Lib.hid (wbytes_any W1.heap.size _ F4 w4 h1 H.out.2.2.2.2.2.2.2.2)
  have H4 := Lib.hid hb4
  clear h1 h2 h3 hb4
  go_wp2_with fail
  refine HB.out.mono ?_
  rintro e w5 ⟨v, rfl, ho, hb5⟩
  have H5 := Lib.hid (And.intro ho hb5)
  clear ho hb5
  go_wp2
  go_ret
  exact ⟨v, rfl, own_base H5.out.1 H4.out.size, H4.out.trans (H5.out.2.mono H4.out.size)⟩
end Go.Proofs.Ytlijfnekopjogaa
