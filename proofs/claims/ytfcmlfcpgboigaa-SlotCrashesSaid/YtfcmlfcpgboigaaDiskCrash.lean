/- What the functions of package disk do: maps.Clone, Crash. -/
import Derived.Test.YtfcmlfcpgboigaaDiskSync
import Derived.Test.YtfcmlfcpgboigaaInts
import Derived.Laws.Externs
import Derived.Deep.RegionHeld3
import Derived.Deep.DeepMust
import Derived.Deep.DeepCutAuto
import Derived.Deep.LoopGhost
import Derived.Deep.CutBlock
namespace Go.Proofs.Ytfcmlfcpgboigaa
open Go.RowKit Mem
open Go.ChangeMaps (setBlock)
set_option linter.unusedVariables false
set_option linter.unusedSimpArgs false

section
variable {P : Program} (w : World)
theorem run_equalIn_map_nil (d : Nat) (t k e : TypeId) (p : Option Nat) (h : P.underlying t = some (.map k e)) :
    (Op.equalIn (d + 1) t (.map p) (.map none)).run P w = .ok p.isNone w := by
  cases p <;> simp [Op.equalIn, run_underlying h]
theorem run_eql_map_nil (t k e : TypeId) (p : Option Nat) (h : P.underlying t = some (.map k e)) :
    (binOp .eql t (.map p) (.map none)).run P w = .ok (.bool p.isNone) w := by
  simp only [binOp]
  simp [show Op.equal t (.map p) (.map none) = Op.equalIn (9999 + 1) t (.map p) (.map none) from rfl, run_equalIn_map_nil w 9999 t k e p h]
theorem run_typeAssert_map (t xT k e : TypeId) (v : Value) (h : P.underlying t = some (.map k e)) : (Instr.typeAssert (.iface t v) xT t false).run P w = .ok v w := by
  simp [Instr.typeAssert, run_underlying h, go_sem, Result.andThen]
end
set_option maxRecDepth 100000 in
set_option maxHeartbeats 2000000 in
theorem clone_any (r : Nat) (g : Int → Option (List UInt8)) (w : World) (hm : MapS str w r g) :
    Calls Try.prog 79 #[.map (some r)] w fun e w' => e = .returned (.map (some w.heap.size)) ∧ MapS str w' w.heap.size g ∧ ∃ o, w' = w.alloc o := by
  obtain ⟨o, hrun, ho⟩ := run_clone (P := Try.prog) (t := 101) hm
  have hq := fun w => run_eql_map_nil (P := Try.prog) w 101 3 9 (some r) Try.underlying101
  have H := Lib.hid (And.intro hrun ho)
  clear hrun ho hm
  go_enter Try.func79, Try.ntmps79
  go_wp2
  rw [run_callFunc_extern Try.func109 (by kernel_rfl) (by kernel_rfl) (by kernel_rfl) (e := Extern.MapsClone.clone) (by kernel_rfl), H.out.1]
  simp only [Result.andThen]
  rw [Oper.upon_value]
  go_wp2
  rw [run_typeAssert_map _ 101 20 _ _ _ Try.underlying101]
  simp only [Result.andThen]
  rw [Oper.upon_value]
  go_wp2
  go_ret
  exact ⟨rfl, H.out.2 _ _ (heap_alloc_new w o), o, rfl⟩

theorem cell_alloc_some {w : World} {a : Addr} {v : Value} (o : Obj) (h : w.cell? a = some v) : (w.alloc o).cell? a = some v := by
  rcases Nat.lt_or_ge a.block w.heap.size with hl | hl
  · exact (World.cell?_of_block (alloc_old w o hl)).trans h
  · unfold World.cell? at h
    rw [Array.getElem?_eq_none hl] at h
    simp at h
/-- the first k numbers -/
def keptTo (ks : List Int) (k : Nat) : Int → Option Bool := fun n => if n ∈ ks.take k then some true else none
theorem keptTo_step (ks : List Int) (k : Nat) (hk : k < ks.length) (n : Int) : upd (keptTo ks k) (ks.getD k 0) true n = keptTo ks (k + 1) n := by
  have hm : n ∈ ks.take (k + 1) ↔ n ∈ ks.take k ∨ n = ks[k] := by
    rw [List.take_succ_eq_append_getElem hk, List.mem_append, List.mem_singleton]
  have hg : ks.getD k 0 = ks[k] := by rw [List.getD_eq_getElem?_getD, List.getElem?_eq_getElem hk]; rfl
  unfold upd keptTo
  rw [hg]
  by_cases h : n = ks[k]
  · rw [if_pos h, if_pos (hm.2 (.inr h))]
  · rw [if_neg h]
    by_cases h2 : n ∈ ks.take k
    · rw [if_pos h2, if_pos (hm.2 (.inl h2))]
    · rw [if_neg h2, if_neg (fun x => (hm.1 x).elim h2 h)]
/-- the disk that a crash begins with -/
def crash0 (d : Dk.D) (syn : Int → Option (List UInt8)) : Dk.D := ⟨d.size, syn, fun _ => none, [], -1, false, 0⟩
theorem crash_in {w1 w5 : World} (d : Dk.D) (syn : Int → Option (List UInt8)) (rs rn x : Nat) (hs : MapS str w5 rs syn) (hn : MapS str w5 rn (fun _ => none)) (hne : rs ≠ rn)
    (hx : w5.heap[x]? = some (.cells #[.int .i64 d.size, .map (some rs), .map (some rn), .slice none 0 0, .int .i64 (-1), .bool false, .int .i64 0] 104 (0, 0))) : DiskIn w5 x (crash0 d syn) rs rn (.slice none 0 0) :=
  ⟨hx, hs, hn, ⟨rfl, .inl ⟨rfl, rfl⟩⟩, hne⟩
theorem zeroBool : ∀ w, (zeroValue 4).run Try.prog w = .ok (.bool false) w := by
  obtain ⟨i, hi, hz⟩ : ∃ i, Try.prog.info? 4 = some i ∧ i.zero = some (.bool false) := by
    have h : (Try.prog.info? 4).map (·.zero) = some (some (.bool false)) := by kernel_rfl
    cases hx : Try.prog.info? 4 with
    | none => rw [hx] at h; cases h
    | some i => rw [hx] at h; exact ⟨i, rfl, by simpa using h⟩
  intro w
  simp [zeroValue, typeInfo, hi, hz]
/-- what the crash's first statement leaves -/
def CrashBegun (w1 : World) (d : Dk.D) (v : Value) (w' : World) : Prop :=
  ∃ x rs rn, v = .pointer (some ⟨x, 0, none⟩) ∧ DiskIn w' x (crash0 d d.syn) rs rn (.slice none 0 0) ∧ Below w1.heap.size w1 w' ∧ w1.heap.size ≤ x ∧ w1.heap.size ≤ rs ∧ w1.heap.size ≤ rn
theorem below_alloc {B : Nat} {w w' : World} (h : Below B w w') (hB : B ≤ w.heap.size) (o : Obj) : Below B w (w'.alloc o) := h.alloc (Nat.le_trans hB h.size) o
theorem begun1 (w1 : World) (d : Dk.D) (o : Obj) (hm : MapS str (w1.drew.alloc o) w1.heap.size d.syn) :
    CrashBegun w1 d (.pointer (some ⟨w1.heap.size + 1 + 1, 0, none⟩)) (((w1.alloc o).alloc (.map #[] 0)).alloc (.cells #[.int .i64 d.size, .map (some w1.heap.size), .map (some (w1.heap.size + 1)), .slice none 0 0, .int .i64 (-1), .bool false, .int .i64 0] 104)).drew := by
  refine ⟨_, w1.heap.size, w1.heap.size + 1, rfl, ⟨?_, ?_, ?_, ⟨rfl, .inl ⟨rfl, rfl⟩⟩, by omega⟩, ?_, by omega, by omega, by omega⟩
  · have := Blk.new ((w1.alloc o).alloc (.map #[] 0)) 104 (diskCells (crash0 d d.syn) w1.heap.size (w1.heap.size + 1) (.slice none 0 0))
    rw [show ((w1.alloc o).alloc (.map #[] 0)).heap.size = w1.heap.size + 1 + 1 by simp] at this
    exact this
  · refine hm.keep ?_
    show (((w1.alloc o).alloc (.map #[] 0)).alloc _).heap[_]? = (w1.alloc o).heap[_]?
    rw [alloc_old _ _ (by simp; omega), alloc_old _ _ (by simp)]
  · have := MapS.new (f := str) (w1.alloc o)
    rw [show (w1.alloc o).heap.size = w1.heap.size + 1 by simp] at this
    exact this.keep (alloc_old _ _ (by simp))
  · exact (below_alloc (below_alloc (below_alloc (Below.refl _ w1) (Nat.le_refl _) _) (Nat.le_refl _) _) (Nat.le_refl _) _).drew
theorem begun2 (w1 : World) (d : Dk.D) (o : Obj) (hm : MapS str ((w1.alloc (.map #[] 0)).drew.alloc o) (w1.alloc (.map #[] 0)).drew.heap.size d.syn) :
    CrashBegun w1 d (.pointer (some ⟨w1.heap.size + 1 + 1, 0, none⟩)) (((w1.alloc (.map #[] 0)).alloc o).alloc (.cells #[.int .i64 d.size, .map (some (w1.heap.size + 1)), .map (some w1.heap.size), .slice none 0 0, .int .i64 (-1), .bool false, .int .i64 0] 104)).drew := by
  refine ⟨_, w1.heap.size + 1, w1.heap.size, rfl, ⟨?_, ?_, ?_, ⟨rfl, .inl ⟨rfl, rfl⟩⟩, by omega⟩, ?_, by omega, by omega, by omega⟩
  · have := Blk.new ((w1.alloc (.map #[] 0)).alloc o) 104 (diskCells (crash0 d d.syn) (w1.heap.size + 1) w1.heap.size (.slice none 0 0))
    rw [show ((w1.alloc (.map #[] 0)).alloc o).heap.size = w1.heap.size + 1 + 1 by simp] at this
    exact this
  · rw [show (w1.alloc (.map #[] 0)).drew.heap.size = w1.heap.size + 1 from Array.size_push _] at hm
    refine hm.keep ?_
    show (((w1.alloc (.map #[] 0)).alloc o).alloc _).heap[_]? = ((w1.alloc (.map #[] 0)).alloc o).heap[_]?
    rw [alloc_old _ _ (by simp)]
  · exact (MapS.new (f := str) w1).keep (by
      show (((w1.alloc (.map #[] 0)).alloc o).alloc _).heap[_]? = _
      rw [alloc_old _ _ (by simp; omega), alloc_old _ _ (by simp)])
  · exact (below_alloc (below_alloc (below_alloc (Below.refl _ w1) (Nat.le_refl _) _) (Nat.le_refl _) _) (Nat.le_refl _) _).drew
/-- the heap in the midst of a crash -/
structure CMid (w w4 : World) (d : Dk.D) (p r1 r2 : Nat) (v : Value) (x rs rn rk : Nat) (syn : Int → Option (List UInt8)) (g : Int → Option Bool) (bx : Array Value) (AK : Option Addr) (nk : Nat) (ks : List Int) : Prop where
  kept : MapS Value.bool w4 rk g
  disk : DiskIn w4 p d r1 r2 v
  new : DiskIn w4 x (crash0 d syn) rs rn (.slice none 0 0)
  box : Blk w4 w.heap.size 69 bx
  below : Below w.heap.size w w4
  keep : IS w AK nk ks
  old : ∀ k, Foot p r1 r2 v k → k < w.heap.size
  gt : w.heap.size < x ∧ w.heap.size < rs ∧ w.heap.size < rn ∧ w.heap.size < rk
  ne : rs ≠ rk ∧ rn ≠ rk ∧ x ≠ rk
section
variable {w w4 w5 : World} {d : Dk.D} {p r1 r2 : Nat} {v : Value} {x rs rn rk : Nat} {syn syn' : Int → Option (List UInt8)} {g g' : Int → Option Bool} {bx : Array Value} {AK : Option Addr} {nk : Nat} {ks : List Int}
theorem CMid.fr1 (h : CMid w w4 d p r1 r2 v x rs rn rk syn g bx AK nk ks) (hf : Fr (fun j => j = rk) w4 w5) (hm : MapS Value.bool w5 rk g') : CMid w w5 d p r1 r2 v x rs rn rk syn g' bx AK nk ks := by
  have hs := h.below.size
  have hgt := h.gt
  have hne := h.ne
  have ho := h.old
  refine ⟨hm, h.disk.keep (fun k e => hf.block k (h.disk.lt k e) (fun x => ?_)), h.new.keep (fun k e => hf.block k (h.new.lt k e) (fun x => ?_)), h.box.keep (hf.block _ h.box.lt (fun x => ?_)), ?_, h.keep, h.old, h.gt, h.ne⟩
  · have := ho k e; omega
  · rcases e with e | e | e | e
    · omega
    · omega
    · omega
    · simp [Value.ownBlock] at e
  · omega
  · exact h.below.trans (hf.below hs (fun i e => by omega))
theorem CMid.fr2 (h : CMid w w4 d p r1 r2 v x rs rn rk syn g bx AK nk ks) (hf : Fr (fun j => j = rs) w4 w5) (hm : MapS str w5 rs syn') : CMid w w5 d p r1 r2 v x rs rn rk syn' g bx AK nk ks := by
  have hs := h.below.size
  have hgt := h.gt
  have hne := h.ne
  have ho := h.old
  refine ⟨h.kept.keep (hf.block _ h.kept.lt (fun x => ?_)), h.disk.keep (fun k e => hf.block k (h.disk.lt k e) (fun x => ?_)), ⟨h.new.blk.keep (hf.block _ h.new.blk.lt (fun x => ?_)), hm, h.new.now.keep (hf.block _ h.new.now.lt (fun x => ?_)), ⟨rfl, .inl ⟨rfl, rfl⟩⟩, h.new.ne⟩, h.box.keep (hf.block _ h.box.lt (fun x => ?_)), ?_, h.keep, h.old, h.gt, h.ne⟩
  · omega
  · have := ho k e; omega
  · exact h.new.pr1 x.symm
  · exact h.new.ne x.symm
  · omega
  · exact h.below.trans (hf.below hs (fun i e => by omega))
theorem CMid.grow (h : CMid w w4 d p r1 r2 v x rs rn rk syn g bx AK nk ks) (hb : Below w4.heap.size w4 w5) : CMid w w5 d p r1 r2 v x rs rn rk syn g bx AK nk ks :=
  ⟨h.kept.keep (hb.block _ h.kept.lt), h.disk.keep (fun k e => hb.block k (h.disk.lt k e)), h.new.keep (fun k e => hb.block k (h.new.lt k e)), h.box.keep (hb.block _ h.box.lt), h.below.trans (hb.mono h.below.size), h.keep, h.old, h.gt, h.ne⟩
/-- a number that is kept -/
theorem CMid.num (h : CMid w w4 d p r1 r2 v x rs rn rk syn g bx AK nk ks) {k : Nat} (hk : k < nk) : ∃ b off, AK = some ⟨b, off, none⟩ ∧ w4.cell? ⟨b, off + k, none⟩ = some (.int .i64 (ks.getD k 0)) := by
  obtain ⟨b, off, e, hb, hc⟩ := h.keep.2 (by omega)
  refine ⟨b, off, e, (World.cell?_of_block (h.below.block b hb)).trans (hc k (by rw [h.keep.1]; exact hk))⟩
end
theorem mid_start {w w1 wc : World} {d : Dk.D} {p r1 r2 x rs rn : Nat} {v : Value} {bx : Array Value} {AK : Option Addr} {nk : Nat} {ks : List Int} (hd : DiskIn w p d r1 r2 v) (hw1 : w1 = w.alloc (.cells bx 69)) (hK : IS w AK nk ks)
    (hdx : DiskIn wc x (crash0 d d.syn) rs rn (.slice none 0 0)) (hbx : Below w1.heap.size w1 wc) (h1 : w1.heap.size ≤ x) (h2 : w1.heap.size ≤ rs) (h3 : w1.heap.size ≤ rn) :
    CMid w (wc.alloc (.map #[] 0)) d p r1 r2 v x rs rn wc.heap.size d.syn (keptTo ks 0) bx AK nk ks := by
  have hs1 : w1.heap.size = w.heap.size + 1 := by subst hw1; simp
  have hb1 : Below w.heap.size w w1 := by subst hw1; exact (Below.refl _ _).alloc (Nat.le_refl _) _
  have hb4 : Below w1.heap.size w1 (wc.alloc (.map #[] 0)) := below_alloc hbx (Nat.le_refl _) _
  have hb : Below w.heap.size w (wc.alloc (.map #[] 0)) := hb1.trans (hb4.mono hb1.size)
  have hs := hbx.size
  have l1 := hdx.syn.lt
  have l2 := hdx.now.lt
  have l3 := hdx.blk.lt
  refine ⟨(MapS.new (f := Value.bool) wc).congr (fun n => by simp [keptTo]), hd.keep (fun k e => hb.block k (hd.lt k e)), hdx.keep (fun k e => alloc_old _ _ (hdx.lt k e)), ?_, hb, hK, hd.lt, by omega, by omega⟩
  have : Blk w1 w.heap.size 69 bx := by subst hw1; exact Blk.new w _ _
  exact this.keep (hb4.block _ (by omega))
theorem ba_extract (s : List UInt8) (i j : Nat) : (⟨s.toArray⟩ : ByteArray).extract i j = ⟨((s.drop i).take (j - i)).toArray⟩ := by
  apply ByteArray.ext
  simp [ByteArray.data_extract]
theorem ba_append (a b : List UInt8) : (⟨a.toArray⟩ : ByteArray) ++ ⟨b.toArray⟩ = ⟨(a ++ b).toArray⟩ := by
  apply ByteArray.ext
  simp [ByteArray.data_append]
section
variable {P : Program}
theorem slice_to (t : TypeId) (ht : P.underlying t = some .string) (s : List UInt8) (c : Nat) (hc : c ≤ s.length) (w : World) : (Instr.slice t (str s) none (some (.int .i64 (c : Int))) none).run P w = .ok (str (s.take c)) w := by
  unfold str
  rw [run_slice_string_to_if w t _ .i64 (c : Int) ht, ba_size, if_pos (by omega), ba_extract]
  simp
theorem slice_from (t : TypeId) (ht : P.underlying t = some .string) (s : List UInt8) (c : Nat) (hc : c ≤ s.length) (w : World) : (Instr.slice t (str s) (some (.int .i64 (c : Int))) none none).run P w = .ok (str (s.drop c)) w := by
  unfold str
  rw [run_slice_string_from_if w t _ .i64 (c : Int) ht, ba_size, if_pos (by omega), ba_extract, List.take_of_length_le (by simp)]
  simp
end
theorem pcells_get : ∀ (l : List (Int × List UInt8)) (j : Nat), j < l.length → (pcells l)[j * 2]? = some (.int .i64 (l.getD j (0, [])).1) ∧ (pcells l)[j * 2 + 1]? = some (str (l.getD j (0, [])).2)
  | [], j, h => by simp at h
  | a :: l, 0, _ => ⟨rfl, rfl⟩
  | a :: l, j + 1, h => by
    have := pcells_get l j (by simpa using h)
    have e1 : (j + 1) * 2 = j * 2 + 2 := by omega
    have e2 : (j + 1) * 2 + 1 = j * 2 + 1 + 2 := by omega
    rw [e2, e1]
    exact this
theorem pend_cell {w : World} {p r1 r2 : Nat} {d : Dk.D} {A : Option Addr} {c : Nat} (h : DiskIn w p d r1 r2 (.slice A d.pend.length c)) {j : Nat} (hj : j < d.pend.length) :
    ∃ g, A = some ⟨g, 0, none⟩ ∧ w.cell? ⟨g, j * 2, none⟩ = some (.int .i64 (d.pend.getD j (0, [])).1) ∧ w.cell? ⟨g, j * 2 + 1, none⟩ = some (str (d.pend.getD j (0, [])).2) := by
  obtain ⟨g, cap, hv, _, hlt⟩ := h.row.form (by omega)
  have hA : A = some ⟨g, 0, none⟩ := by injection hv
  subst hA
  have hadd : ∀ i, (⟨g, 0, none⟩ : Addr).add i = ⟨g, i, none⟩ := by intro i; unfold Addr.add; split <;> simp_all
  refine ⟨g, rfl, ?_, ?_⟩
  · have := h.row.cells (g := g) rfl (j * 2) _ (pcells_get _ j hj).1
    rwa [hadd] at this
  · have := h.row.cells (g := g) rfl (j * 2 + 1) _ (pcells_get _ j hj).2
    rwa [hadd] at this
set_option maxRecDepth 100000 in
set_option maxHeartbeats 2000000 in
theorem crash_any (p : Nat) (d : Dk.D) (F : Nat → Prop) (AK : Option Addr) (nk ck : Nat) (ks : List Int) (torn : Bool) (cut : Int) (w : World) (hD : DiskAt w p d F) (hok : Dk.Ok d) (hK : IS w AK nk ks) (hnk : nk ≤ 1000000) (hpl : d.pend.length ≤ 1000000) :
    Calls Try.prog 42 #[.pointer (some ⟨p, 0, none⟩), .agg #[.slice AK nk ck, .bool torn, .int .i64 cut]] w fun e w' => ∃ x, e = .returned (.pointer (some ⟨x, 0, none⟩)) ∧ Below w.heap.size w w' ∧ ∃ F', DiskAt w' x (Dk.crash d ks torn cut) F' ∧ ∀ k, F' k → w.heap.size ≤ k := by
  obtain ⟨r1, r2, v, hd, hF, hFb⟩ := hD
  have hmm := @run_makeMap Try.prog
  have hd1 := hd.keep (w' := w.alloc (.cells #[.slice AK nk ck, .bool torn, .int .i64 cut] 69)) (fun k x => alloc_old w _ (hd.lt k x))
  have hns := hK.1
  have H0 := Lib.hid (And.intro hok (And.intro hK (And.intro hd hns)))
  clear hok hK hF hFb hd hns
  go_enter Try.func42, Try.ntmps42
  go_upto_region 3 with fail
  obtain ⟨w1, hw1⟩ : ∃ w1, w1 = w.alloc (.cells #[.slice AK nk ck, .bool torn, .int .i64 cut] 69) := ⟨_, rfl⟩
  rw [← hw1] at hd1 ⊢
  obtain ⟨c0, c1, _⟩ := hd1.cells
  have hsy2 : MapS str (w1.alloc (.map #[] 0)) r1 d.syn := hd1.syn.keep (alloc_old w1 _ hd1.syn.lt)
  have HD := Lib.hid (And.intro hd1 (And.intro hsy2 hw1))
  clear hd1 hsy2 hw1
  go_cut [5] (fun s5 wx => CrashBegun w1 d s5 wx)
  case first =>
    go_region_held3 (fun w' => w'.cell? ⟨p, 0, none⟩ = some (.int .i64 d.size) ∧ w'.cell? ⟨p, 1, none⟩ = some (.map (some r1))) ((refine ⟨?_, ?_⟩ <;> (simp only [World.cell?_drew]; repeat (first | exact c0 | exact c1 | refine cell_alloc_some _ ?_)))) (first
      | (go_at_call 79; go_must ((first | refine (clone_any r1 d.syn w1.drew (HD.out.1.syn.keep rfl)).mono ?_ | refine (clone_any r1 d.syn (w1.alloc (.map #[] 0)).drew (HD.out.2.1.keep rfl)).mono ?_); rintro e w4 ⟨rfl, hm4, o, rfl⟩)))
    all_goals
      go_wp2_with fail
      go_meet
      case rel => first | exact begun1 _ _ _ hm4 | exact begun2 _ _ _ hm4
  case rest =>
    obtain ⟨x, rs, rn, rfl, hdx, hbx, hx1, hx2, hx3⟩ := hcut
    have HX := Lib.hid (mid_start H0.out.2.2.1 HD.out.2.2 H0.out.2.1 hdx hbx hx1 hx2 hx3)
    clear hdx hbx hx1 hx2 hx3 HD c0 c1
    have k0 := HX.out.box.cell 0
    generalize hw4 : wc.alloc (.map #[] 0) = w4 at *
    generalize hrk : wc.heap.size = rk at *
    go_wp2_with fail
    clear hw4 hrk
    go_loopw [8, 32] (fun _ i wr => ∃ k : Nat, k ≤ nk ∧ i = .int .i64 k ∧ CMid w wr d p r1 r2 v x rs rn rk d.syn (keptTo ks k) #[.slice AK nk ck, .bool torn, .int .i64 cut] AK nk ks) (fun _ i _ => nk - (intOf i).toNat)
    case atStart => exact ⟨0, by omega, rfl, HX.out⟩
    case round =>
      obtain ⟨k, hk, rfl, hmid⟩ := hrel
      by_cases hlt : k < nk
      · obtain ⟨b, off, rfl, hcell⟩ := hmid.num hlt
        obtain ⟨o, hmu, hmo⟩ := run_upd (P := Try.prog) (f := Value.bool) Try.underlying127 Try.underlying3 hmid.kept (ks.getD k 0) true
        have hmu' := hmu wr rfl
        have hnx : CMid w (setBlock wr rk o) d p r1 r2 v x rs rn rk d.syn (keptTo ks (k + 1)) #[.slice (some ⟨b, off, none⟩) nk ck, .bool torn, .int .i64 cut] (some ⟨b, off, none⟩) nk ks :=
          hmid.fr1 ((Fr.refl _ _).setBlock _ _ (fun _ => rfl)) ((hmo _ (setBlock_self _ _ _ hmid.kept.lt)).congr (keptTo_step ks k (by rw [H0.out.2.2.2]; exact hlt)))
        have HN := Lib.hid hnx
        clear hmu hmo hmid hnx HX
        generalize ks.getD k 0 = kk at *
        go_wp2_with fail
        go_roundw
        case rel => exact ⟨k + 1, by omega, by go_num, HN.out⟩
        case measure => simp [intOf]; omega
      · obtain rfl : nk = k := by omega
        clear hk hlt HX k0
        have hkt : keptTo ks nk = fun n => if n ∈ ks then some true else none := by
          unfold keptTo
          rw [List.take_of_length_le (by rw [H0.out.2.2.2]; omega)]
        rw [hkt] at hmid
        clear hkt
        have k1 := hmid.box.cell 1
        have k2 := hmid.box.cell 2
        obtain ⟨_, _, _, c3, _⟩ := hmid.disk.cells
        obtain ⟨A, c, rfl⟩ := own_slice hmid.disk.row
        have H9 := Lib.hid (And.intro (show ∀ j, j < d.pend.length → (d.pend.getD j (0, [])).2.length = 256 from fun j hj => by
          rw [List.getD_eq_getElem?_getD, List.getElem?_eq_getElem hj]
          exact (H0.out.1.pend _ (List.getElem_mem _)).1) H0.out.1)
        have HM := Lib.hid hmid
        clear hmid H0
        go_wp2_with fail
        clear k1 k2 c3
        go_loopg [44] d.pend.length (fun gk i wr => ∃ k : Nat, k ≤ d.pend.length ∧ gk = d.pend.length - k ∧ i = .int .i64 k ∧ CMid w wr d p r1 r2 (.slice A d.pend.length c) x rs rn rk (Dk.crashTo d ks torn cut k) (fun n => if n ∈ ks then some true else none) #[.slice AK nk ck, .bool torn, .int .i64 cut] AK nk ks)
        case atStart => exact ⟨0, by omega, by omega, rfl, HM.out⟩
        case round =>
          obtain ⟨j, hj, rfl, rfl, hmid⟩ := hrel
          clear HM
          by_cases hlt : j < d.pend.length
          · obtain ⟨g, rfl, e0, e1⟩ := pend_cell hmid.disk hlt
            have hgx : (d.pend.getD j (0, [])).2.length = 256 := H9.out.1 _ hlt
            have HM := Lib.hid (And.intro hmid hgx)
            clear hmid hgx
            generalize hq9 : d.pend.getD j (0, []) = q at *
            obtain ⟨qn, qs⟩ := q
            replace hq9 := Lib.hid hq9
            unfold str at e1
            go_upto_block 4 with fail
            generalize hw7 : wr.alloc (.cells #[.int .i64 qn, .string ⟨qs.toArray⟩] 107) = w7
            have hm7 : CMid w w7 d p r1 r2 (.slice (some ⟨g, 0, none⟩) d.pend.length c) x rs rn rk (Dk.crashTo d ks torn cut j) (fun n => if n ∈ ks then some true else none) #[.slice AK nk ck, .bool torn, .int .i64 cut] AK nk ks :=
              HM.out.1.grow (by rw [← hw7]; exact (Below.refl _ _).alloc (Nat.le_refl _) _)
            have hq7 : Blk w7 wr.heap.size 107 #[.int .i64 qn, .string ⟨qs.toArray⟩] := by rw [← hw7]; exact Blk.new wr _ _
            clear hw7 e0 e1
            generalize wr.heap.size = rq at *
            have H7 := Lib.hid (And.intro hm7 (And.intro hq7 HM.out.2))
            go_cut [11] (fun s11 wx => s11 = .int .i64 (Dk.cutOf ks torn cut d.pend.length j : Nat) ∧ wx = w7)
            case first =>
              have k1 := hm7.box.cell 1
              have k2 := hm7.box.cell 2
              obtain ⟨_, _, _, c3, _⟩ := hm7.disk.cells
              have hlk := run_look (P := Try.prog) (f := Value.bool) Try.underlying127 Try.underlying3 false zeroBool hm7.kept (j : Int) w7 rfl false
              clear HM hm7 hq7
              by_cases h1 : torn = true ∧ j + 1 = d.pend.length
              · have hC : Dk.cutOf ks torn cut d.pend.length j = (min (max cut 0) 256).toNat := by unfold Dk.cutOf; rw [if_pos h1]
                have HC := Lib.hid hC
                obtain ⟨rfl, hjl⟩ := h1
                have hjd : ((j : Int) == (d.pend.length : Int) - 1) = true := by rw [beq_iff_eq]; omega
                clear hC hlk
                go_wp2_with fail
                all_goals
                  go_meet
                  case rel => exact ⟨by rw [HC.out]; congr 1; omega, rfl⟩
              · have hC : Dk.cutOf ks torn cut d.pend.length j = if (j : Int) ∈ ks then 256 else 0 := by unfold Dk.cutOf; rw [if_neg h1]
                have HC := Lib.hid hC
                clear hC
                by_cases h2 : (j : Int) ∈ ks
                all_goals
                  first | rw [if_pos h2] at hlk | rw [if_neg h2] at hlk
                  cases torn with
                  | false =>
                    clear h1
                    go_wp2_with fail
                    go_meet
                    case rel => exact ⟨by rw [HC.out]; (first | rw [if_pos h2] | rw [if_neg h2]) <;> rfl, rfl⟩
                  | true =>
                    have hjd : ((j : Int) == (d.pend.length : Int) - 1) = false := by rw [beq_eq_false_iff_ne]; simp at h1; omega
                    clear h1
                    go_wp2_with fail
                    go_meet
                    case rel => exact ⟨by rw [HC.out]; (first | rw [if_pos h2] | rw [if_neg h2]) <;> rfl, rfl⟩
            case rest =>
              obtain ⟨rfl, rfl⟩ := hcut
              have hst : ∀ C, Dk.cutOf ks torn cut d.pend.length j = C → Dk.crashTo d ks torn cut (j + 1) = Dk.mix (Dk.crashTo d ks torn cut j) (d.pend.getD j (0, [])) C := by
                rintro C rfl
                rfl
              rw [hq9.out] at hst
              have hcl := Dk.cutOf_le ks torn cut d.pend.length j
              clear HM hm7 hq7
              generalize Dk.cutOf ks torn cut d.pend.length j = cN at *
              have HS := Lib.hid (hst cN rfl)
              clear hst
              by_cases hc0 : cN = 0
              · subst hc0
                go_wp2_with fail
                go_roundg (d.pend.length - (j + 1))
                case measure => omega
                case rel => exact ⟨j + 1, by omega, rfl, by go_num, by rw [HS.out]; exact H7.out.1⟩
              · have hb0 : ((cN : Int) == 0) = false := by rw [beq_eq_false_iff_ne]; omega
                have n0 := H7.out.2.1.cell 0
                have n1 := H7.out.2.1.cell 1
                obtain ⟨_, x1, _⟩ := H7.out.1.new.cells
                have hlk := fun nq => run_look (P := Try.prog) (f := str) Try.underlying101 Try.underlying3 [] dinfoS H7.out.1.new.syn qn (wc.drewN nq) rfl true
                simp only [crash0] at hlk
                go_wp2_with fail
                go_quiet (fail)
                go_upto_if 83 with fail
                have hm8 := H7.out.1.grow (w5 := wc.drewN nq) ⟨rfl, rfl, rfl, Nat.le_refl _, fun _ _ => rfl⟩
                have hq8 : Blk (wc.drewN nq) rq 107 #[.int .i64 qn, .string ⟨qs.toArray⟩] := H7.out.2.1
                generalize wc.drewN nq = w8 at *
                have hsl : ∀ s, Dk.crashTo d ks torn cut j qn = some s → s.length = 256 := Dk.crashTo_length H9.out.2 ks torn cut j (by omega) qn
                have H8 := Lib.hid (And.intro hm8 (And.intro hq8 (And.intro H7.out.2.2 hsl)))
                clear hm8 hq8 H7 hlk n0 n1 x1 hsl
                generalize hsy : Dk.crashTo d ks torn cut j = syn at *
                go_cut [12, 13] (fun s12 _ wx => s12 = str ((syn qn).getD Dk.zeros) ∧ Below w8.heap.size w8 wx)
                case first =>
                  cases hsq : syn qn with
                  | none =>
                    clear H8
                    go_wp2_with fail
                    refine (noughts_any w8).mono ?_
                    rintro e w2 ⟨rfl, hb2⟩
                    have H := Lib.hid hb2
                    clear hb2
                    go_wp2
                    go_meet
                    case rel => exact ⟨by rw [hsq]; rfl, H.out⟩
                  | some s =>
                    clear H8
                    go_wp2
                    go_meet
                    case rel => exact ⟨by rw [hsq]; rfl, Below.refl _ _⟩
                case rest =>
                  obtain ⟨rfl, hb9⟩ := hcut
                  have hm9 := H8.out.1.grow hb9
                  have hq9 := H8.out.2.1.below hb9 H8.out.2.1.lt
                  have hwl : ((syn qn).getD Dk.zeros).length = 256 := by
                    cases hx : syn qn with
                    | none => exact Dk.zeros_length
                    | some s => exact H8.out.2.2.2 s hx
                  have hql := H8.out.2.2.1
                  clear hb9 H8
                  generalize hwas : (syn qn).getD Dk.zeros = was at *
                  have n0 := hq9.cell 0
                  have n1 := hq9.cell 1
                  obtain ⟨_, x1, _⟩ := hm9.new.cells
                  have h1s := slice_to (P := Try.prog) 9 Try.underlying9 qs cN (by omega)
                  have h2s := slice_from (P := Try.prog) 9 Try.underlying9 was cN (by omega)
                  obtain ⟨o, hmu, hmo⟩ := run_upd (P := Try.prog) (f := str) Try.underlying101 Try.underlying3 hm9.new.syn qn (qs.take cN ++ was.drop cN)
                  have hmu' := hmu wc.drew rfl
                  have hfin : CMid w (setBlock wc.drew rs o) d p r1 r2 (.slice (some ⟨g, 0, none⟩) d.pend.length c) x rs rn rk (Dk.crashTo d ks torn cut (j + 1)) (fun n => if n ∈ ks then some true else none) #[.slice AK nk ck, .bool torn, .int .i64 cut] AK nk ks := by
                    rw [HS.out]
                    unfold Dk.mix
                    rw [if_neg hc0, hwas]
                    exact hm9.fr2 (((Fr.refl _ _).drew 1).setBlock _ _ (fun _ => rfl)) (hmo _ (setBlock_self _ _ _ hm9.new.syn.lt))
                  have HF := Lib.hid hfin
                  clear hmu hmo hfin hm9 hq9 hsy HS hwas
                  unfold str at h1s h2s hmu' ⊢
                  rw [← ba_append] at hmu'
                  go_wp2_with fail
                  go_still_tail 14, (by kernel_rfl)
                  go_wp2_with fail
                  go_roundg (d.pend.length - (j + 1))
                  case measure => omega
                  case rel => exact ⟨j + 1, by omega, rfl, by go_num, HF.out⟩
          · obtain rfl : j = d.pend.length := by omega
            have hfin : DiskIn wr x (Dk.crash d ks torn cut) rs rn (.slice none 0 0) := hmid.new
            have hgt := hmid.gt
            have HM := Lib.hid (And.intro hfin (And.intro hmid.below hgt))
            clear hmid hfin hgt
            go_wp2
            go_ret
            refine ⟨x, rfl, HM.out.2.1, _, HM.out.1.at_, ?_⟩
            rintro k (e | e | e | e)
            · have := HM.out.2.2; omega
            · have := HM.out.2.2; omega
            · have := HM.out.2.2; omega
            · simp [Value.ownBlock] at e
theorem crash_nil (AK : Option Addr) (nk ck : Nat) (torn : Bool) (cut : Int) (w : World) : Calls Try.prog 42 #[.pointer none, .agg #[.slice AK nk ck, .bool torn, .int .i64 cut]] w fun e w' => e = .returned (.pointer none) ∧ Below w.heap.size w w' := by
  go_enter Try.func42, Try.ntmps42
  go_wp2
  go_ret
  exact ⟨rfl, (Below.refl _ _).alloc (Nat.le_refl _) _⟩
end Go.Proofs.Ytfcmlfcpgboigaa
