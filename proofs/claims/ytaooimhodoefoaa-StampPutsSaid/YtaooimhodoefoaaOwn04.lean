/- trothlaw04.Own: a crash of one's own. -/
import Derived.Test.YtaooimhodoefoaaInts
import Derived.Test.YtaooimhodoefoaaSteps
import Derived.Test.YtaooimhodoefoaaRows
import Derived.IntWalk
import Derived.RegionTactic
import Derived.ChangeAlike
import Derived.Deep.DrawnRows
import Derived.Deep.RegionLaw
import Derived.Deep.DeepCutAuto
import Derived.Deep.RegionHeld3
import Derived.Deep.DeepMust
namespace Go.Proofs.Ytaooimhodoefoaa.Mem
open Go Go.RowKit
def i64s (ks : List Int) : List Value := ks.map (Value.int .i64)
theorem i64s_length (ks : List Int) : (i64s ks).length = ks.length := by simp [i64s]
theorem i64s_get (ks : List Int) (j : Nat) : (i64s ks)[j]? = ks[j]?.map (Value.int .i64) := by simp [i64s]
theorem i64s_one (ks : List Int) : ∀ u ∈ i64s ks, u.oneCell' = true := by
  intro u hu
  simp only [i64s, List.mem_map] at hu
  obtain ⟨b, _, rfl⟩ := hu
  rfl
theorem IS.of_own {w : World} {base e n c : Nat} {A : Option Addr} {ks : List Int} (h : w.ownsRow base e 1 (.slice A n c) n (i64s ks)) : IS w A n ks := by
  have hl : ks.length = n := by have := h.1; rw [i64s_length] at this; omega
  refine ⟨hl, fun hn => ?_⟩
  obtain ⟨g, cap, hv, _, hlt⟩ := h.form hn
  have hA : A = some ⟨g, 0, none⟩ := by injection hv
  subst hA
  refine ⟨g, 0, rfl, hlt, fun j hj => ?_⟩
  have := h.cells (g := g) rfl j (.int .i64 (ks.getD j 0)) (by rw [i64s_get]; simp [List.getD_eq_getElem?_getD, hj])
  have hadd : (⟨g, 0, none⟩ : Addr).add j = ⟨g, 0 + j, none⟩ := by unfold Addr.add; split <;> simp_all
  rwa [hadd] at this
section
variable {P : Program} (w : World)
theorem run_append_is (base : Nat) (t ty e : TypeId) (i : TypeInfo) (ht : P.underlying t = some (.slice e)) (hi : P.info? e = some i) (hz : i.zero = some (.int .i64 0))
    (hsize : i.size = 1) (hby : i.bytes = 8)
    (v : Value) (n : Nat) (xs : List Value) (hown : w.ownsRow base e 1 v n xs)
    (A : Option Addr) (m c : Nat) (ks : List Int) (hr : IS w A m ks)
    (hbytes : n + m ≤ 1000000000) (hbase : base ≤ w.heap.size) :
    ∃ v' w', (Builtin.append_ #[t, t] ty #[v, .slice A m c]).run P w = .ok v' w' ∧ w'.ownsRow base e 1 v' (n + m) (xs ++ i64s ks) ∧ w.grownBy w' v.ownBlock ∧
      (v'.ownBlock = v.ownBlock ∨ v'.ownBlock = some w.heap.size) := by
  have h63 : n + m ≤ maxLen := by unfold maxLen; omega
  rcases A with _ | ad
  · have hm : m = 0 := by
      rcases Nat.eq_zero_or_pos m with h0 | h0
      · exact h0
      · obtain ⟨_, _, h, _⟩ := hr.2 h0
        cases h
    subst hm
    have hn : ks = [] := List.eq_nil_of_length_eq_zero hr.1
    subst hn
    refine ⟨v, w, ?_, by simpa [i64s] using hown, World.grownBy.refl w _, .inl rfl⟩
    rcases hown.2 with ⟨rfl, rfl⟩ | ⟨g, cap, cur, rfl, _, _, hnc, _⟩
    · simp [Builtin.append_, run_underlying ht, sizeOf, typeInfo, hi, Builtin.lenOf, Builtin.firstCells]
    · simp [Builtin.append_, run_underlying ht, sizeOf, typeInfo, hi, Builtin.lenOf, Builtin.firstCells, hnc, storeCells]
  · have hcells : ∀ j u, (i64s ks)[j]? = some u → w.cell? (ad.add j) = some u := by
      intro j u hu
      rw [i64s_get] at hu
      have hj : j < ks.length := by
        rcases Nat.lt_or_ge j ks.length with h | h
        · exact h
        · rw [List.getElem?_eq_none h] at hu; cases hu
      obtain ⟨b, off, h, _, hc⟩ := hr.2 (by have := hr.1; omega)
      injection h with h
      subst h
      have hadd : (⟨b, off, none⟩ : Addr).add j = ⟨b, off + j, none⟩ := by unfold Addr.add; split <;> simp_all
      rw [hadd, hc j hj]
      rw [List.getElem?_eq_getElem hj] at hu
      simp only [Option.map_some, Option.some.injEq] at hu
      rw [← hu, List.getD_eq_getElem?_getD, List.getElem?_eq_getElem hj]
      rfl
    obtain ⟨v', w', hrun, h2, h3, _, h5⟩ := run_append_own_at (P := P) w base t ty e i (.int .i64 0) 1 8 ht hi hz hsize hby rfl (by omega) v n xs hown ad m c (i64s ks) (by rw [i64s_length, hr.1]; omega) hcells (i64s_one ks) h63 (by omega) hbase
    exact ⟨v', w', hrun, h2, h3, h5⟩
theorem step_app_ints {w : World} {ops : Array Oper} {o : Oper} {a : Act} {K : Act → World → Prop} {Q : Exit → Act → World → Prop} {E : Prop} (hgd : o.guard = none) (s x : Operand) (t : TypeId)
    (ho : o.op = .call { callee := .builtin .append, args := #[s, x], argTypes := #[t, t] })
    (e : TypeId) (i : TypeInfo) (ht : P.underlying t = some (.slice e)) (hi : P.info? e = some i) (hz : i.zero = some (.int .i64 0)) (hsize : i.size = 1) (hby : i.bytes = 8)
    (h0 : Nat) (hs : a.eval s = .slice (some ⟨h0, 0, none⟩) 0 0) (hblk : w.heap[h0]? = some (.cells #[] e (0, 0)))
    (A : Option Addr) (m c : Nat) (ks : List Int) (hx : a.eval x = .slice A m c) (hr : IS w A m ks) (hm2 : m ≤ 1000000000)
    (h : ∀ A' c' w', w'.ownsRow h0 e 1 (.slice A' m c') m (i64s ks) → w.grownBy w' (some h0) → K (a.put o.dst (.slice A' m c')) w') :
    if Region.wanted o (yielded ops a.tmps) = true then Oper.wp P o a w K Q else E := by
  have hw : Region.wanted o (yielded ops a.tmps) = true := by simp [Region.wanted, hgd]
  rw [if_pos hw]
  have hown := own_empty hblk
  obtain ⟨v', w', hrun, h2, h3, h4⟩ := run_append_is (P := P) w h0 t o.type e i ht hi hz hsize hby _ 0 [] hown A m c ks hr (by omega) (Nat.le_of_lt (lt_of_block hblk))
  rw [Nat.zero_add, List.nil_append] at h2
  obtain ⟨A', c', rfl⟩ := own_slice h2
  unfold Oper.wp execOp
  simp only [ho, resolve, invoke, builtin, Sem.run_bind, Sem.run_pure, Result.andThen_ok, List.map_toArray, List.map_cons, List.map_nil, hs, hx, hrun]
  exact h A' c' w' h2 h3
end
end Go.Proofs.Ytaooimhodoefoaa.Mem
namespace Go.Proofs.Ytaooimhodoefoaa
open Go.RowKit Mem
set_option linter.unusedVariables false
set_option linter.unusedSimpArgs false
attribute [local go_sem ↓] Go.wp_at_zero Go.wp_at_succ
theorem cell_alloc_some' {w : World} {a : Addr} {v : Value} (o : Obj) (h : w.cell? a = some v) : (w.alloc o).cell? a = some v := (World.cell?_of_block (Below.heap_alloc w o a.block (World.block_lt_of_cell? w a h))).trans h
theorem far3 {w : World} {b r : Nat} (hne : b ≠ r) (u0 u1 u2 : Value) (o : Nat) : (((w.setCell ⟨r, 0, none⟩ u0).setCell ⟨r, 1, none⟩ u1).setCell ⟨r, 2, none⟩ u2).cell? ⟨b, o, none⟩ = w.cell? ⟨b, o, none⟩ := by
  refine World.cell?_of_block ?_
  show ((((w.setCell ⟨r, 0, none⟩ u0).setCell ⟨r, 1, none⟩ u1).setCell ⟨r, 2, none⟩ u2)).heap[b]? = w.heap[b]?
  rw [Below.heap_setCell _ _ _ b hne, Below.heap_setCell _ _ _ b hne, Below.heap_setCell _ _ _ b hne]
theorem oinfoI : (Try.prog.info? 3).map (fun i => (i.zero, i.size, i.bytes)) = some (some (.int .i64 0), 1, 8) := by kernel_rfl
def OwnCrash (w : World) (nk : Nat) (ks : List Int) (torn : Bool) (cut : Int) (e : Ending) (w' : World) : Prop := ∃ A c, e = .returned (.agg #[.slice A nk c, .bool torn, .int .i64 cut]) ∧ IS w' A nk ks ∧ Below w.heap.size w w'
set_option maxRecDepth 100000 in
set_option maxHeartbeats 2000000 in
theorem own04_any (AK : Option Addr) (nk ck : Nat) (ks : List Int) (torn : Bool) (cut : Int) (w : World) (hK : IS w AK nk ks) (hnk : nk ≤ 1000000) :
    Calls Try.prog 32 #[.agg #[.slice AK nk ck, .bool torn, .int .i64 cut]] w (OwnCrash w nk ks torn cut) := by
  obtain ⟨i0, hi0, hz0, hz1, hz2⟩ := info_parts oinfoI
  have HI := Lib.hid (And.intro hi0 (And.intro hz0 (And.intro hz1 hz2)))
  have HK := Lib.hid hK
  clear hi0 hz0 hz1 hz2 hK
  go_enter Try.func32, Try.ntmps32
  go_upto_region 1 with fail
  have hb2 : Below w.heap.size w ((w.alloc (.cells #[.slice AK nk ck, .bool torn, .int .i64 cut] 52)).alloc (.cells #[.slice none 0 0, .bool false, .int .i64 0] 52)) := ((Below.refl _ _).alloc (Nat.le_refl _) _).alloc (by simp) _
  have hq2 : Blk ((w.alloc (.cells #[.slice AK nk ck, .bool torn, .int .i64 cut] 52)).alloc (.cells #[.slice none 0 0, .bool false, .int .i64 0] 52)) w.heap.size 52 #[.slice AK nk ck, .bool torn, .int .i64 cut] := (Blk.new w _ _).alloc _
  have hr2 : Blk ((w.alloc (.cells #[.slice AK nk ck, .bool torn, .int .i64 cut] 52)).alloc (.cells #[.slice none 0 0, .bool false, .int .i64 0] 52)) (w.heap.size + 1) 52 #[.slice none 0 0, .bool false, .int .i64 0] := by
    have := Blk.new (w.alloc (.cells #[.slice AK nk ck, .bool torn, .int .i64 cut] 52)) 52 #[.slice none 0 0, .bool false, .int .i64 0]
    rw [show (w.alloc (.cells #[.slice AK nk ck, .bool torn, .int .i64 cut] 52)).heap.size = w.heap.size + 1 by simp] at this
    exact this
  have hs2 : ((w.alloc (.cells #[.slice AK nk ck, .bool torn, .int .i64 cut] 52)).alloc (.cells #[.slice none 0 0, .bool false, .int .i64 0] 52)).heap.size = w.heap.size + 2 := by simp
  generalize (w.alloc (.cells #[.slice AK nk ck, .bool torn, .int .i64 cut] 52)).alloc (.cells #[.slice none 0 0, .bool false, .int .i64 0] 52) = w2 at *
  have k0 := hq2.cell 0
  have k1 := hq2.cell 1
  have k2 := hq2.cell 2
  have HS : w2.cell? ⟨w.heap.size, 0, none⟩ = some (.slice AK nk ck) ∧ w2.cell? ⟨w.heap.size, 1, none⟩ = some (.bool torn) ∧ w2.cell? ⟨w.heap.size, 2, none⟩ = some (.int .i64 cut) := ⟨k0, k1, k2⟩
  have hblkE : ((w2.alloc (.cells #[] 3)).drew).heap[w2.heap.size]? = some (.cells #[] 3 (0, 0)) := heap_alloc_new w2 _
  have hisE : IS ((w2.alloc (.cells #[] 3)).drew) AK nk ks := (HK.out.below hb2).keep (by show _ ≤ (w2.alloc _).heap.size; simp) (fun b hb => Below.heap_alloc w2 _ b hb)
  have HE := Lib.hid (And.intro hblkE (And.intro hisE (And.intro hb2 (And.intro hq2 (And.intro hr2 hs2)))))
  clear hblkE hisE hb2 hq2 hr2 hs2 k0 k1 k2
  go_region_held3 (fun w' => w'.cell? ⟨w.heap.size, 0, none⟩ = some (.slice AK nk ck) ∧ w'.cell? ⟨w.heap.size, 1, none⟩ = some (.bool torn) ∧ w'.cell? ⟨w.heap.size, 2, none⟩ = some (.int .i64 cut)) ((first | exact HS | exact ⟨cell_alloc_some' _ HS.1, cell_alloc_some' _ HS.2.1, cell_alloc_some' _ HS.2.2⟩ | exact ⟨(far3 (by omega) _ _ _ _).trans HS.1, (far3 (by omega) _ _ _ _).trans HS.2.1, (far3 (by omega) _ _ _ _).trans HS.2.2⟩)) (first
    | (refine step_app_ints (by rfl) (.tmp 3) (.tmp 5) 50 (by rfl) 3 i0 Try.underlying50 HI.out.1 HI.out.2.1 HI.out.2.2.1 HI.out.2.2.2 w2.heap.size (by simp [Act.eval, Act.put]) HE.out.1 AK nk ck ks (by simp [Act.eval, Act.put]) HE.out.2.1 (by omega) ?_
       intro A3 c3 w3 hown3 hg3
       have hk3 : ∀ k, k < w2.heap.size → w3.heap[k]? = w2.heap[k]? := fun k hk => (hg3.block k (by show k < (w2.alloc _).heap.size; simp; omega) (by simp; omega)).trans (Below.heap_alloc w2 _ k hk)
       have hq3 := HE.out.2.2.2.1.keep (hk3 _ HE.out.2.2.2.1.lt)
       have hr3 := HE.out.2.2.2.2.1.keep (hk3 _ HE.out.2.2.2.2.1.lt)
       have HS : w3.cell? ⟨w.heap.size, 0, none⟩ = some (.slice AK nk ck) ∧ w3.cell? ⟨w.heap.size, 1, none⟩ = some (.bool torn) ∧ w3.cell? ⟨w.heap.size, 2, none⟩ = some (.int .i64 cut) := ⟨hq3.cell 0, hq3.cell 1, hq3.cell 2⟩
       have r0 := hr3.cell 0
       have r1 := hr3.cell 1
       have r2 := hr3.cell 2
       have f0 := hr3.free 0
       have f1 := hr3.free 1
       have f2 := hr3.free 2
       have H3 := Lib.hid (And.intro hown3 (And.intro hg3 (And.intro hk3 hr3)))
       clear hown3 hg3 hk3 hq3 hr3))
  all_goals
    go_wp2_with fail
    have hb5 : Blk (((w3.setCell ⟨w.heap.size + 1, 0, none⟩ (.slice A3 nk c3)).setCell ⟨w.heap.size + 1, 1, none⟩ (.bool torn)).setCell ⟨w.heap.size + 1, 2, none⟩ (.int .i64 cut)) (w.heap.size + 1) 52 #[.slice A3 nk c3, .bool torn, .int .i64 cut] := ((H3.out.2.2.2.put 0 (.slice A3 nk c3)).put 1 (.bool torn)).put 2 (.int .i64 cut)
    have hk5 : ∀ k, k ≠ w.heap.size + 1 → (((w3.setCell ⟨w.heap.size + 1, 0, none⟩ (.slice A3 nk c3)).setCell ⟨w.heap.size + 1, 1, none⟩ (.bool torn)).setCell ⟨w.heap.size + 1, 2, none⟩ (.int .i64 cut)).heap[k]? = w3.heap[k]? := fun k hk => by
      rw [Below.heap_setCell _ _ _ k hk, Below.heap_setCell _ _ _ k hk, Below.heap_setCell _ _ _ k hk]
    have hs5 : (((w3.setCell ⟨w.heap.size + 1, 0, none⟩ (.slice A3 nk c3)).setCell ⟨w.heap.size + 1, 1, none⟩ (.bool torn)).setCell ⟨w.heap.size + 1, 2, none⟩ (.int .i64 cut)).heap.size = w3.heap.size := by simp [World.setCell]
    have ho5 : Below w.heap.size w (((w3.setCell ⟨w.heap.size + 1, 0, none⟩ (.slice A3 nk c3)).setCell ⟨w.heap.size + 1, 1, none⟩ (.bool torn)).setCell ⟨w.heap.size + 1, 2, none⟩ (.int .i64 cut)) := by
      have hg := H3.out.2.1
      have hs3 : w2.heap.size + 1 ≤ w3.heap.size := by have := hg.size; rwa [show ((w2.alloc (.cells #[] 3)).drew).heap.size = w2.heap.size + 1 from Array.size_push _] at this
      have hb2 := HE.out.2.2.1
      refine ⟨hg.os.trans hb2.os, hg.tape.trans hb2.tape, hg.output.trans hb2.output, ?_, fun k hk => ?_⟩
      · rw [hs5]; have := hb2.size; omega
      · rw [hk5 k (by omega), H3.out.2.2.1 k (by have := hb2.size; omega)]
        exact hb2.block k hk
    have his5 : IS (((w3.setCell ⟨w.heap.size + 1, 0, none⟩ (.slice A3 nk c3)).setCell ⟨w.heap.size + 1, 1, none⟩ (.bool torn)).setCell ⟨w.heap.size + 1, 2, none⟩ (.int .i64 cut)) A3 nk ks := by
      refine IS.of_own (base := w2.heap.size) (e := 3) (c := c3) ?_
      refine ⟨H3.out.1.1, ?_⟩
      rcases H3.out.1.2 with x | ⟨g, cap, cur, x, hb, hg, r⟩
      · exact .inl x
      · exact .inr ⟨g, cap, cur, x, hb, (hk5 g (by have := HE.out.2.2.2.2.2; omega)).trans hg, r⟩
    generalize ((w3.setCell ⟨w.heap.size + 1, 0, none⟩ (.slice A3 nk c3)).setCell ⟨w.heap.size + 1, 1, none⟩ (.bool torn)).setCell ⟨w.heap.size + 1, 2, none⟩ (.int .i64 cut) = w5 at *
    have r0 := hb5.cell 0
    have r1 := hb5.cell 1
    have r2 := hb5.cell 2
    exact bodyPost_ret (v := .agg #[.slice A3 nk c3, .bool torn, .int .i64 cut]) (by simp [results, Try.results32, go_sem, r0, r1, r2]) rfl ⟨A3, c3, rfl, his5, ho5⟩
end Go.Proofs.Ytaooimhodoefoaa
