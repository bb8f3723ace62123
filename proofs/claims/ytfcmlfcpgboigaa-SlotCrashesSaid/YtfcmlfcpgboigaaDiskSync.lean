/- What the functions of package disk do: maps.Copy, Sync. -/
import Derived.Test.YtfcmlfcpgboigaaDiskWrite
import Derived.Maps.Range
import Derived.Laws.CopyRow
namespace Go.Proofs.Ytfcmlfcpgboigaa
open Go.RowKit Mem
open Go.ChangeMaps (setBlock)
set_option linter.unusedVariables false
set_option linter.unusedSimpArgs false

/-- what dst reads as, behind the entries in 'seen' -/
def copied (l : List (Ent (List UInt8))) (f : Int → Option (List UInt8)) (seen : Array Nat) : Int → Option (List UInt8) := fun n =>
  match l.find? (fun e => e.k == n) with
  | some e => if seen.contains e.b then some e.v else f n
  | none => f n
theorem copied_start (l : List (Ent (List UInt8))) (f : Int → Option (List UInt8)) (n : Int) : copied l f #[] n = f n := by
  unfold copied
  split <;> simp
theorem find_key {l : List (Ent (List UInt8))} {e : Ent (List UInt8)} (hn : (l.map (·.k)).Nodup) (he : e ∈ l) : l.find? (fun x => x.k == e.k) = some e := by
  induction l with
  | nil => cases he
  | cons a l ih =>
    rw [List.map_cons, List.nodup_cons] at hn
    rw [List.find?_cons]
    rcases List.mem_cons.1 he with rfl | he
    · simp
    · have : a.k ≠ e.k := fun x => hn.1 (by rw [x]; exact List.mem_map.2 ⟨e, he, rfl⟩)
      rw [show (a.k == e.k) = false by simpa using this]
      exact ih hn.2 he
theorem born_inj {l : List (Ent (List UInt8))} (hb : (l.map (·.b)).Nodup) {x y : Ent (List UInt8)} (hx : x ∈ l) (hy : y ∈ l) (h : x.b = y.b) : x = y := by
  induction l with
  | nil => cases hx
  | cons a l ih =>
    rw [List.map_cons, List.nodup_cons] at hb
    rcases List.mem_cons.1 hx with e1 | h1
    · rcases List.mem_cons.1 hy with e2 | h2
      · rw [e1, e2]
      · exact absurd (by rw [← e1, h]; exact List.mem_map.2 ⟨y, h2, rfl⟩) hb.1
    · rcases List.mem_cons.1 hy with e2 | h2
      · exact absurd (by rw [← e2, ← h]; exact List.mem_map.2 ⟨x, h1, rfl⟩) hb.1
      · exact ih hb.2 h1 h2
theorem copied_step {l : List (Ent (List UInt8))} {clock : Nat} (hg : Mem.Good l clock) (f : Int → Option (List UInt8)) (seen : Array Nat) {e : Ent (List UInt8)} (he : e ∈ l) (n : Int) : upd (copied l f seen) e.k e.v n = copied l f (seen.push e.b) n := by
  unfold upd
  by_cases hn : n = e.k
  · subst hn
    rw [if_pos rfl]
    unfold copied
    rw [find_key hg.1 he]
    simp
  · rw [if_neg hn]
    unfold copied
    cases hf : l.find? (fun x => x.k == n) with
    | none => rfl
    | some x =>
      have hxk : x.k = n := by simpa using List.find?_some hf
      have hxl : x ∈ l := List.mem_of_find?_eq_some hf
      have hne : x.b ≠ e.b := fun h => hn (by rw [← hxk, born_inj hg.2.1 hxl he h])
      simp [hne]
theorem copied_end (l : List (Ent (List UInt8))) (f : Int → Option (List UInt8)) (seen : Array Nat) (h : (leftOf (ents str l) seen).size = 0) (n : Int) : copied l f seen n = (getE l n).or (f n) := by
  unfold copied getE
  cases hf : l.find? (fun e => e.k == n) with
  | none => simp
  | some e =>
    have he : e ∈ l := List.mem_of_find?_eq_some hf
    have hs : seen.contains e.b = true := by
      rcases Bool.eq_false_or_eq_true (seen.contains e.b) with h1 | h1
      · exact h1
      · have : ent str e ∈ leftOf (ents str l) seen := by
          unfold leftOf
          rw [Array.mem_filter]
          refine ⟨?_, by simpa [ent] using h1⟩
          simp only [ents, List.mem_toArray]
          exact List.mem_map.2 ⟨e, he, rfl⟩
        rw [Array.eq_empty_of_size_eq_zero h] at this
        simp at this
    simp only [hs, if_true]
    simp
set_option maxRecDepth 100000 in
set_option maxHeartbeats 2000000 in
theorem copy_any (r1 r2 : Nat) (f g : Int → Option (List UInt8)) (w : World) (h1 : MapS str w r1 f) (h2 : MapS str w r2 g) (hne : r1 ≠ r2) :
    Calls Try.prog 68 #[.map (some r1), .map (some r2)] w fun e w' => e = .returned (.tuple #[]) ∧ MapS str w' r1 (fun n => (g n).or (f n)) ∧ MapS str w' r2 g ∧ Fr (fun k => k = r1) w w' := by
  have hl2 := h2.lt
  have hl1 := h1.lt
  obtain ⟨l, clock, hm2, hgood, hget⟩ := h2
  have hrg := run_range_map (P := Try.prog) w 101 3 9 r2 (ents str l) clock Try.underlying101 hm2
  go_enter Try.func68, Try.ntmps68
  have hold : ∀ x ∈ (ents str l).toList, x.born < clock := by
    intro x hx
    simp only [ents] at hx
    obtain ⟨e, he, rfl⟩ := List.mem_map.1 hx
    exact hgood.2.2 e he
  have hnb : ((ents str l).toList.map (·.born)).Nodup := by
    have : (ents str l).toList.map (·.born) = l.map (·.b) := by simp [ents, ent, Function.comp_def]
    rw [this]; exact hgood.2.1
  have H := Lib.hid (And.intro h1 (And.intro hm2 (And.intro hgood (And.intro hget (And.intro hold hnb)))))
  clear h1 hm2 hgood hget hold hnb
  go_wp2
  go_loopw [8] (fun _ wr => ∃ (seen : Array Nat), wr.heap[w.heap.size]? = some (.mapIter (some r2) clock seen clock) ∧ wr.heap[r2]? = some (.map (ents str l) clock) ∧ MapS str wr r1 (copied l f seen) ∧ Fr (fun k => k = r1) w wr)
    (fun _ wr => wr.rangeLeft r2 w.heap.size)
  case atStart =>
    refine ⟨#[], heap_alloc_new w _, by rw [alloc_old w _ hl2]; exact H.out.2.1, ?_, (Fr.refl _ _).alloc _⟩
    exact (H.out.1.keep (alloc_old w _ hl1)).congr (fun n => (copied_start l f n).symm)
  case round =>
    obtain ⟨seen, hit, hm, hr1, hfr⟩ := hrel
    have hleft : wr.rangeLeft r2 w.heap.size = (leftOf (ents str l) seen).size := by simp only [World.rangeLeft, hm, hit]
    rcases run_next_at (P := Try.prog) wr 0 w.heap.size r2 clock clock seen (ents str l) clock hit hm H.out.2.2.2.2.1 (Nat.le_refl _) with ⟨h0, hrun⟩ | ⟨e, he, wx, hwx, hrun⟩
    · have HR := Lib.hid (And.intro hit (And.intro hm (And.intro hr1 (And.intro hfr h0))))
      clear hit hm hr1 hfr h0 hleft
      go_wp2
      go_end0
      refine ⟨rfl, HR.out.2.2.1.congr (fun n => ?_), ⟨l, clock, HR.out.2.1, H.out.2.2.1, H.out.2.2.2.1⟩, HR.out.2.2.2.1⟩
      rw [copied_end l f seen HR.out.2.2.2.2 n, H.out.2.2.2.1]
    · have hshr := left_shrinks (ents str l) seen e he
      obtain ⟨x, hx, rfl⟩ : ∃ x ∈ l, ent str x = e := by
        have h3 : e ∈ (ents str l).toList := by
          unfold leftOf at he
          simp at he
          simpa using he.1
        simp only [ents] at h3
        exact List.mem_map.1 h3
      have hkx : ∀ k : Nat, wx.heap[k]? = wr.heap[k]? := by rcases hwx with rfl | rfl <;> exact fun _ => rfl
      have hfx : Fr (fun k => k = r1) w wx := by
        rcases hwx with rfl | rfl
        · exact hfr
        · exact hfr.drew 1
      have hlt : w.heap.size < wx.heap.size := by
        rcases Nat.lt_or_ge w.heap.size wx.heap.size with h | h
        · exact h
        · have := hkx w.heap.size
          rw [hit, Array.getElem?_eq_none h] at this
          cases this
      have hk4 : ∀ k : Nat, k ≠ w.heap.size → (setBlock wx w.heap.size (.mapIter (some r2) clock (seen.push (ent str x).born) clock)).heap[k]? = wr.heap[k]? := by
        intro k hk
        rw [← hkx k]
        show (wx.heap.setIfInBounds _ _)[k]? = _
        rw [Array.getElem?_setIfInBounds, if_neg (fun e => hk e.symm)]
      have hi4 : (setBlock wx w.heap.size (.mapIter (some r2) clock (seen.push (ent str x).born) clock)).heap[w.heap.size]? = some (.mapIter (some r2) clock (seen.push (ent str x).born) clock) := by
        show (wx.heap.setIfInBounds _ _)[_]? = _
        rw [Array.getElem?_setIfInBounds, if_pos rfl, if_pos hlt]
      have hf4 : Fr (fun k => k = r1) w (setBlock wx w.heap.size (.mapIter (some r2) clock (seen.push (ent str x).born) clock)) := hfx.setBlock _ _ (fun h => absurd h (Nat.lt_irrefl _))
      generalize setBlock wx w.heap.size (.mapIter (some r2) clock (seen.push (ent str x).born) clock) = w4 at *
      have hm4 : w4.heap[r2]? = some (.map (ents str l) clock) := (hk4 r2 (by omega)).trans hm
      have hen := run_entry_at (P := Try.prog) w4 w.heap.size r2 clock seen (ents str l) clock (ent str x) hi4 hm4 (by simp only [ents]; exact List.mem_map.2 ⟨x, hx, rfl⟩) H.out.2.2.2.2.2
      have hM4 : MapS str w4 r1 (copied l f seen) := hr1.keep (hk4 r1 (by omega))
      obtain ⟨o, hmu, hmo⟩ := run_upd (P := Try.prog) (f := str) Try.underlying101 Try.underlying3 hM4 x.k x.v
      have hmu' := hmu w4 rfl
      have hk5 : ∀ k : Nat, k ≠ r1 → (setBlock w4 r1 o).heap[k]? = w4.heap[k]? := by
        intro k hk
        show (w4.heap.setIfInBounds _ _)[k]? = _
        rw [Array.getElem?_setIfInBounds, if_neg (fun e => hk e.symm)]
      have hM5 : MapS str (setBlock w4 r1 o) r1 (copied l f (seen.push x.b)) := by
        refine (hmo _ ?_).congr (fun n => copied_step H.out.2.2.1 f seen hx n)
        show (w4.heap.setIfInBounds _ _)[_]? = _
        rw [Array.getElem?_setIfInBounds, if_pos rfl, if_pos hM4.lt]
      have hi5 : (setBlock w4 r1 o).heap[w.heap.size]? = some (.mapIter (some r2) clock (seen.push x.b) clock) := (hk5 _ (by omega)).trans hi4
      have hm5 : (setBlock w4 r1 o).heap[r2]? = some (.map (ents str l) clock) := (hk5 _ (fun e => hne e.symm)).trans hm4
      have hf5 : Fr (fun k => k = r1) w (setBlock w4 r1 o) := hf4.setBlock _ _ (fun _ => rfl)
      have hle5 : (setBlock w4 r1 o).rangeLeft r2 w.heap.size < wr.rangeLeft r2 w.heap.size := by
        rw [hleft]
        simp only [World.rangeLeft, hm5, hi5]
        exact hshr
      have HR := Lib.hid (And.intro hi5 (And.intro hm5 (And.intro hM5 (And.intro hf5 hle5))))
      clear hit hm hr1 hfr hleft he hshr hkx hfx hlt hk4 hi4 hf4 hm4 hM4 hmu hmo hk5 hM5 hi5 hm5 hf5 hle5 hwx
      simp only [ent] at hrun hen
      go_wp2
      go_roundw
      case rel => exact ⟨_, HR.out.1, HR.out.2.1, HR.out.2.2.1, HR.out.2.2.2.1⟩
      case measure => exact HR.out.2.2.2.2

/-- 'clear(v)', v a row of one's own -/
theorem run_clear_row {P : Program} {t e ty : TypeId} (ht : P.underlying t = some (.slice e)) (z : Value) (size : Nat) (hv : ∀ w, (zeroValue e).run P w = .ok z w) (hzs : z.cells.size = size) (h1 : ∀ u ∈ z.cells.toList, u.oneCell' = true)
    {w : World} {v : Value} {n base : Nat} {xs : List Value} (h : w.ownsRow base e size v n xs) :
    ∃ w', (Builtin.clear_ #[t] ty #[v]).run P w = .ok (.tuple #[]) w' ∧ w.grownBy w' v.ownBlock ∧ w'.heap.size = w.heap.size ∧ ∃ A c, v = .slice A n c ∧ w'.ownsRow base e size (.slice A 0 c) 0 [] := by
  rcases h.2 with ⟨rfl, rfl⟩ | ⟨g, cap, cur, rfl, hb, hg, hnc, hcm, hcs, htk⟩
  · refine ⟨w, ?_, World.grownBy.refl w _, rfl, none, 0, rfl, ⟨by simp, .inl ⟨rfl, rfl⟩⟩⟩
    simp [Builtin.clear_, run_underlying ht]
  · rcases n with _ | n
    · refine ⟨w, ?_, World.grownBy.refl w _, rfl, _, cap, rfl, ⟨by simp, .inr ⟨g, cap, cur, rfl, hb, hg, by omega, hcm, hcs, by simp⟩⟩⟩
      simp [Builtin.clear_, run_underlying ht]
    · have hsz : (Builtin.zeroCells z.cells (n + 1)).toList.length = (n + 1) * size := by rw [Array.length_toList, size_zeroCells, hzs]
      have hle : (n + 1) * size ≤ cur.size := by rw [hcs]; exact Nat.mul_le_mul_right _ hnc
      have hone : ∀ u ∈ (Builtin.zeroCells z.cells (n + 1)).toList, u.oneCell' = true := by
        intro u hu
        simp only [Builtin.zeroCells, Array.toList_map, List.mem_map] at hu
        obtain ⟨j, hj, rfl⟩ := hu
        simp only [Array.toList_range, List.mem_range] at hj
        have hp : 0 < z.cells.size := by
          rcases Nat.eq_zero_or_pos z.cells.size with h0 | h0
          · rw [h0] at hj; simp at hj
          · exact h0
        have hm : j % z.cells.size < z.cells.size := Nat.mod_lt _ hp
        rw [getElem!_pos z.cells _ hm]
        exact h1 _ (by simp)
      have hst := run_storeCells_at (P := P) g 0 e (Builtin.zeroCells z.cells (n + 1)).toList 0 cur w hg (by rw [hsz]; omega) hone
      have hNs : (cur.toList.take (0 + 0) ++ (Builtin.zeroCells z.cells (n + 1)).toList ++ cur.toList.drop (0 + 0 + (Builtin.zeroCells z.cells (n + 1)).toList.length)).toArray.size = cap * size := by
        rw [← hcs]
        simp only [List.size_toArray, List.length_append, List.length_take, List.length_drop, hsz]
        rw [Array.length_toList]
        omega
      generalize (cur.toList.take (0 + 0) ++ (Builtin.zeroCells z.cells (n + 1)).toList ++ cur.toList.drop (0 + 0 + (Builtin.zeroCells z.cells (n + 1)).toList.length)).toArray = N at hst hNs
      refine ⟨w.setRow g N, ?_, ⟨rfl, rfl, rfl, by simp, fun k _ hk => setRow_other w g k _ (fun e => hk (by rw [e]; rfl))⟩, size_setRow _ _ _, _, cap, rfl, ⟨by simp, .inr ⟨g, cap, N, rfl, hb, setRow_heap w g cur N e (0, 0) hg, by omega, hcm, hNs, by simp⟩⟩⟩
      simp [Builtin.clear_, run_underlying ht, hv, hst, Result.andThen]
theorem zeroW_one : ∀ u ∈ (Value.agg #[.int .i64 0, str []]).cells.toList, u.oneCell' = true := by
  intro u hu
  have hu' : u ∈ ([.int .i64 0, str []] : List Value) := hu
  simp only [List.mem_cons, List.not_mem_nil, or_false] at hu'
  rcases hu' with rfl | rfl <;> rfl
theorem zeroW : ∀ w, (zeroValue 107).run Try.prog w = .ok (.agg #[.int .i64 0, str []]) w := by
  obtain ⟨i0, hi0, hz0, _, _⟩ := info_parts dinfoW
  intro w
  simp [zeroValue, typeInfo, hi0, hz0]

theorem setBlock_other (w : World) (r : Nat) (o : Obj) (k : Nat) (h : k ≠ r) : (setBlock w r o).heap[k]? = w.heap[k]? := by
  show (w.heap.setIfInBounds r o)[k]? = _
  rw [Array.getElem?_setIfInBounds, if_neg (fun e => h e.symm)]
theorem setBlock_self (w : World) (r : Nat) (o : Obj) (h : r < w.heap.size) : (setBlock w r o).heap[r]? = some o := by
  show (w.heap.setIfInBounds r o)[r]? = _
  rw [Array.getElem?_setIfInBounds, if_pos rfl, if_pos h]
set_option maxRecDepth 100000 in
/-- 's[:0]' of a row of one's own -/
theorem run_cut0 {w : World} {e : TypeId} {A : Option Addr} {n c base : Nat} {xs : List Value} (h : w.ownsRow base e 2 (.slice A n c) n xs) (w1 : World) :
    (Instr.slice 102 (.slice A n c) none (some (.int .i64 0)) none).run Try.prog w1 = .ok (.slice A 0 c) w1 := by
  rcases h.2 with ⟨h, rfl⟩ | ⟨g, cap, cur, h, _⟩
  · injection h with h1 _ h3
    subst h1
    subst h3
    go_simp
  · injection h with h1 _ h3
    subst h1
    subst h3
    go_simp
set_option maxRecDepth 100000 in
set_option maxHeartbeats 2000000 in
theorem sync_any (p : Nat) (d : Dk.D) (F : Nat → Prop) (w : World) (hD : DiskAt w p d F) (hok : Dk.Ok d) (hsy : d.syncs ≤ 1000000) :
    Calls Try.prog 31 #[.pointer (some ⟨p, 0, none⟩)] w (WriteTo w F p (Dk.sync d)) := by
  obtain ⟨r1, r2, v, hd, hF, hFb⟩ := hD
  have HF := Lib.hid (And.intro hF hFb)
  clear hF hFb
  rcases step_01 d with hs | hs
  · have hR : Dk.sync d = (0, Dk.synced (Dk.step d).2) := by unfold Dk.sync; rw [if_neg (by simpa using hs)]
    rw [hR]
    clear hR
    have hsy0 := hok.syncs
    rw [← Dk.step_syncs d] at hsy hsy0
    have H := Lib.hid (And.intro hd hok)
    clear hd hok
    go_enter Try.func31, Try.ntmps31
    go_wp2_with fail
    refine (step_any p r1 r2 v d w H.out.1 H.out.2).mono ?_
    rintro e w1 ⟨rfl, hd1, hf1, hs1⟩
    rw [hs]
    generalize (Dk.step d).2 = d1 at *
    clear hs H
    obtain ⟨_, c1, c2, _⟩ := hd1.cells
    have H1 := Lib.hid (And.intro hd1 (And.intro hf1 hs1))
    clear hd1 hf1 hs1
    go_wp2_with fail
    go_still_tail 8, (by kernel_rfl)
    go_wp2_with fail
    refine (copy_any r1 r2 d1.syn d1.now w1.drew (H1.out.1.syn.keep rfl) (H1.out.1.now.keep rfl) H1.out.1.ne).mono ?_
    rintro e w2 ⟨rfl, hm1, hm2, hf2⟩
    have hk2 : ∀ k, k < w1.heap.size → k ≠ r1 → w2.heap[k]? = w1.heap[k]? := fun k hk hr => hf2.block k hk hr
    have hd2 : DiskIn w2 p { d1 with syn := fun n => (d1.now n).or (d1.syn n) } r1 r2 v :=
      ⟨H1.out.1.blk.keep (hk2 p H1.out.1.blk.lt (fun e => H1.out.1.pr1 e.symm)), hm1, hm2, own_keep H1.out.1.row (fun k e => hk2 k (own_lt H1.out.1.row e) (H1.out.1.gp e).2.1), H1.out.1.ne⟩
    have hf02 : Fr (Foot p r1 r2 v) w w2 := ((H1.out.2.1.mono (fun _ _ e => .inl e)).drew 1).trans hf2 (fun _ _ e => .inr (.inl e))
    obtain ⟨o, hclr, hclo⟩ := run_clear_map (P := Try.prog) (ty := 0) (f := str) Try.underlying101 hd2.now
    have hcl := hclr w2 rfl
    have hd3 : DiskIn (setBlock w2 r2 o) p { d1 with syn := fun n => (d1.now n).or (d1.syn n), now := fun _ => none } r1 r2 v :=
      ⟨hd2.blk.keep (setBlock_other _ _ _ _ (fun e => hd2.pr2 e.symm)), hd2.syn.keep (setBlock_other _ _ _ _ hd2.ne), hclo _ (setBlock_self _ _ _ hd2.now.lt), own_keep hd2.row (fun k e => setBlock_other _ _ _ _ (hd2.gp e).2.2), hd2.ne⟩
    have hf03 : Fr (Foot p r1 r2 v) w (setBlock w2 r2 o) := hf02.setBlock _ _ (fun _ => .inr (.inr (.inl rfl)))
    obtain ⟨_, _, c22, _⟩ := hd2.cells
    obtain ⟨_, _, _, c33, _, _, c36⟩ := hd3.cells
    obtain ⟨w4, hcr, hg4, hs4, A, c, hv, hrow4⟩ := run_clear_row (P := Try.prog) (ty := 0) Try.underlying102 (.agg #[.int .i64 0, str []]) 2 zeroW rfl zeroW_one hd3.row
    have hcut := run_cut0 (by rw [← hv]; exact hd3.row) w4
    have hk4 : ∀ k, k < (setBlock w2 r2 o).heap.size → v.ownBlock ≠ some k → w4.heap[k]? = (setBlock w2 r2 o).heap[k]? := fun k hk e => hg4.block k hk (fun x => e x.symm)
    have hp4 : w4.heap[p]? = (setBlock w2 r2 o).heap[p]? := hk4 p hd3.blk.lt (fun e => (hd3.gp e).1 rfl)
    have c43 : w4.cell? ⟨p, 3, none⟩ = some v := (World.cell?_of_block hp4).trans c33
    have f43 : w4.frozen? ⟨p, 3, none⟩ = false := (World.frozen?_of_block hp4).trans (hd3.blk.free 3)
    have hob : (Value.slice A 0 c).ownBlock = v.ownBlock := by rw [hv]; cases A <;> rfl
    have hd5 : DiskIn (w4.setCell ⟨p, 3, none⟩ (.slice A 0 c)) p { d1 with syn := fun n => (d1.now n).or (d1.syn n), now := fun _ => none, pend := [] } r1 r2 (.slice A 0 c) := by
      have hk5 : ∀ k, k ≠ p → (w4.setCell ⟨p, 3, none⟩ (.slice A 0 c)).heap[k]? = w4.heap[k]? := fun k hk => Below.heap_setCell w4 _ _ k hk
      refine ⟨(hd3.blk.keep hp4).put 3 _, hd3.syn.keep ((hk5 _ hd3.pr1).trans (hk4 _ hd3.syn.lt (fun e => (hd3.gp e).2.1 rfl))), hd3.now.keep ((hk5 _ hd3.pr2).trans (hk4 _ hd3.now.lt (fun e => (hd3.gp e).2.2 rfl))), ?_, hd3.ne⟩
      exact own_keep hrow4 (fun k e => hk5 k (by rw [hob] at e; exact (hd3.gp e).1))
    have hf04 : Fr (Foot p r1 r2 v) w w4 := hf03.grown hg4 (fun k e _ => .inr (.inr (.inr e)))
    have hf05 : Fr (Foot p r1 r2 v) w (w4.setCell ⟨p, 3, none⟩ (.slice A 0 c)) := hf04.setCell _ _ (fun _ => .inl rfl)
    obtain ⟨_, _, _, _, _, _, c56⟩ := hd5.cells
    have f56 := hd5.blk.free 6
    have hfin := hd5.set 6 (.int .i64 (d1.syncs + 1)) _ (cells_syncs _ r1 r2 (.slice A 0 c) (d1.syncs + 1)) rfl rfl rfl
    have hf06 : Fr (Foot p r1 r2 v) w ((w4.setCell ⟨p, 3, none⟩ (.slice A 0 c)).setCell ⟨p, 6, none⟩ (.int .i64 (d1.syncs + 1))) := hf05.setCell _ _ (fun _ => .inl rfl)
    have hT : DiskTo w F p (Dk.synced d1) ((w4.setCell ⟨p, 3, none⟩ (.slice A 0 c)).setCell ⟨p, 6, none⟩ (.int .i64 (d1.syncs + 1))) := by
      refine ⟨_, hfin.at_, hf06.mono (fun i _ x => HF.out.1 i x), fun k x => .inl (HF.out.1 k ?_)⟩
      rcases x with x | x | x | x
      · exact .inl x
      · exact .inr (.inl x)
      · exact .inr (.inr (.inl x))
      · exact .inr (.inr (.inr (by rw [← hob]; exact x)))
    have H3 := Lib.hid hT
    clear hm1 hm2 hf2 hk2 hd2 hf02 hclr hclo hd3 hf03 H1 c1 c2 hg4 hs4 hrow4 hk4 hp4 hob hd5 hf04 hf05 hfin hf06 hT
    rw [hv] at c33 c43 hcr
    go_wp2_with fail
    go_ret
    exact ⟨rfl, H3.out⟩
  · have hR : Dk.sync d = (40, (Dk.step d).2) := by unfold Dk.sync; rw [if_pos (by omega)]
    rw [hR]
    clear hR
    have H := Lib.hid (And.intro hd hok)
    clear hd hok
    go_enter Try.func31, Try.ntmps31
    go_wp2_with fail
    refine (step_any p r1 r2 v d w H.out.1 H.out.2).mono ?_
    intro e w1 hst
    have hst2 := hst.1
    have HS := Lib.hid (StepTo.to HF.out.1 hst)
    clear hst
    subst hst2
    rw [hs]
    go_wp2
    go_ret
    exact ⟨rfl, HS.out⟩
theorem sync_nil (w : World) : Calls Try.prog 31 #[.pointer none] w fun e w' => e = .returned (.int .i64 2) ∧ w' = w := by
  go_enter Try.func31, Try.ntmps31
  go_wp2
  go_ret
  exact ⟨rfl, rfl⟩
end Go.Proofs.Ytfcmlfcpgboigaa
