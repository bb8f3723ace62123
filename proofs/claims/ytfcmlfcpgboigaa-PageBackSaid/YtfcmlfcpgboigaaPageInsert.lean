/- slices.Insert of one cell into a row of the call's own. -/
import Derived.Test.YtfcmlfcpgboigaaPageSet0
import Derived.Lib.AppendZerosOnto
import Derived.Lib.Overlaps
import Derived.Laws.CopyRow
import Derived.Laws.Externs
import Derived.Deep.RegionLaw
namespace Go.Proofs.Ytfcmlfcpgboigaa
open Go.RowKit Mem
set_option maxRecDepth 100000
set_option linter.unusedVariables false
set_option linter.unusedSimpArgs false

section
variable {P : Program}
theorem run_copy_rowK (w : World) (dT sT ty elem : TypeId) (k g o dLen dCap : Nat) (a : Addr) (sLen sCap : Nat) (cur : Array Value) (t : TypeId) (cs : List Value)
    (hu : P.underlying dT = some (.slice elem)) (hs : (P.info? elem).map (·.size) = some k)
    (hg : w.heap[g]? = some (.cells cur t (0, 0))) (hn : cs.length = Nat.min sLen dLen * k)
    (hsrc : ∀ j v, cs[j]? = some v → w.cell? (a.add j) = some v) (hfit : o + cs.length ≤ cur.size) (h1 : ∀ v ∈ cs, v.oneCell' = true) :
    (Builtin.copy_ #[dT, sT] ty #[.slice (some ⟨g, o, none⟩) dLen dCap, .slice (some a) sLen sCap]).run P w =
      .ok (goInt (Nat.min sLen dLen)) (w.setRow g (cur.toList.take o ++ cs ++ cur.toList.drop (o + cs.length)).toArray) := by
  have hl := run_loadCells_list (P := P) w a cs hsrc
  have hst := run_storeCells_at P g o t cs 0 cur w hg (by simpa using hfit) h1
  cases hq : P.info? elem with
  | none => simp [hq] at hs
  | some i =>
    have hi : i.size = k := by simpa [hq] using hs
    simp [Builtin.copy_, run_underlying hu, Builtin.lenOf, Builtin.firstCells, sizeOf, typeInfo, hq, hi, ← hn, hl, hst]
/-- a copy whose run is known, in the walk -/
theorem wpList_copyR {w : World} {ops : Array Oper} {rest : List Oper} {o : Oper} {a : Act} {Q : Exit → Act → World → Prop} (hgd : Region.wanted o (yielded ops a.tmps) = true) (d s : Operand) (t t' : TypeId)
    (ho : o.op = .call { callee := .builtin .copy, args := #[d, s], argTypes := #[t, t'] }) (v u : Value) (hd : a.eval d = v) (hs : a.eval s = u) (v' : Value) (w' : World)
    (hr : (Builtin.copy_ #[t, t'] o.type #[v, u]).run P w = .ok v' w') (h : wpList P ops Q rest (a.put o.dst v') w') : wpList P ops Q (o :: rest) a w := by
  unfold wpList
  rw [if_pos hgd]
  refine .inl ?_
  unfold Oper.wp execOp
  simp only [ho, resolve, invoke, builtin, Sem.run_bind, Sem.run_pure, Result.andThen_ok, List.map_toArray, List.map_cons, List.map_nil, hd, hs, hr]
  exact h
/-- .. and at a step of a region that draws -/
theorem step_copyR {ops : Array Oper} {o : Oper} {a : Act} {w : World} {G : Act → World → Prop} {Q : Exit → Act → World → Prop} {E : Prop} (hg : o.guard = none) (d s : Operand) (t t' : TypeId)
    (ho : o.op = .call { callee := .builtin .copy, args := #[d, s], argTypes := #[t, t'] }) (v u : Value) (hd : a.eval d = v) (hs : a.eval s = u) (v' : Value) (w' : World)
    (hr : (Builtin.copy_ #[t, t'] o.type #[v, u]).run P w = .ok v' w') (h : G (a.put o.dst v') w') :
    if Region.wanted o (yielded ops a.tmps) = true then Oper.wp P o a w G Q else E := by
  have hw : Region.wanted o (yielded ops a.tmps) = true := by simp [Region.wanted, hg]
  rw [if_pos hw]
  unfold Oper.wp execOp
  simp only [ho, resolve, invoke, builtin, Sem.run_bind, Sem.run_pure, Result.andThen_ok, List.map_toArray, List.map_cons, List.map_nil, hd, hs, hr]
  exact h
end
theorem sizeC : (Try.prog.info? 40).map (·.size) = some 3 := by kernel_rfl
/-- what an insert leaves -/
def InsP (w : World) (base : Nat) (v : Value) (l : List Pg.C) (e : Ending) (w' : World) : Prop :=
  ∃ A c, e = .returned (.slice A l.length c) ∧ w'.ownsRow base 40 3 (.slice A l.length c) l.length (rowOf cellK l) ∧ w.grownBy w' v.ownBlock
theorem rowOf_len (l : List Pg.C) : (rowOf cellK l).length = l.length * 3 := rowOf_length cellK_len l
/-- a row whose block holds the cells of l first -/
theorem own_ofRow {w : World} {base g cap : Nat} {cur : Array Value} {l : List Pg.C} (hb : base ≤ g) (hg : w.heap[g]? = some (.cells cur 40 (0, 0))) (hl : l.length ≤ cap) (hm : cap ≤ maxLen) (hs : cur.size = cap * 3) (hx : cur.toList.take (l.length * 3) = rowOf cellK l) :
    w.ownsRow base 40 3 (.slice (some ⟨g, 0, none⟩) l.length cap) l.length (rowOf cellK l) :=
  ⟨rowOf_len l, .inr ⟨g, cap, cur, rfl, hb, hg, hl, hm, hs, hx⟩⟩
set_option maxHeartbeats 4000000 in
theorem ins_end (base : Nat) (A : Option Addr) (n c b : Nat) (l : List Pg.C) (x : Pg.C) (w : World) (hln : l.length = n) (hn : n ≤ 1000) (hown : w.ownsRow base 40 3 (.slice A n c) n (rowOf cellK l)) (hbase : base ≤ w.heap.size) (hx : ST cellK w (some ⟨b, 0, none⟩) 1 [x]) :
    Calls Try.prog 57 #[.slice A n c, .int .i64 (n : Int), .slice (some ⟨b, 0, none⟩) 1 1] w (InsP w base (.slice A n c) (l ++ [x])) := by
  obtain ⟨i0, hi0, hz0, hz1, hz2⟩ := info_parts infoC
  have hcap : n ≤ c ∧ c ≤ 9223372036854775807 := by
    rcases hown.2 with ⟨e, h0⟩ | ⟨g, cap, cur, e, _, _, h1, h2, _⟩
    · injection e with _ _ e; subst e; omega
    · injection e with _ _ e; subst e; unfold maxLen at h2; omega
  have H := Lib.hid (And.intro hx (And.intro hown (And.intro hbase (And.intro hln trivial))))
  have HI := Lib.hid (And.intro hi0 (And.intro hz0 (And.intro hz1 hz2)))
  clear hx hi0 hz0 hz1 hz2 hown hbase hln
  go_enter Try.func57, Try.ntmps57
  go_upto_region 7 with fail
  go_wp2_with ((refine wpList_append_st _ cellK_len (by decide) cellK_one rfl (.tmp 23) (.tmp 24) 22 rfl base 40 i0 _ 40 Try.underlying22 HI.out.1 HI.out.2.1 HI.out.2.2.1 HI.out.2.2.2 rfl (by omega) (.slice A n c) n (rowOf cellK l) rfl H.out.2.1 (some ⟨b, 0, none⟩) 1 1 [x] rfl H.out.1 (by omega) H.out.2.2.1 ?_); intro A2 c2 w2 hown2 hg2 hat2; have H2 := Lib.hid (And.intro hown2 hg2); clear hown2 hg2 hat2)
  all_goals
    go_ret
    have h1 := H2.out.1
    have hll : (l ++ [x]).length = n + 1 := by rw [List.length_append, H.out.2.2.2.1]; rfl
    rw [← rowOf_append, ← hll] at h1
    exact ⟨A2, c2, by rw [hll]; rfl, h1, by have h9 := H2.out.2; cases A <;> exact h9⟩
/-- the row, parted at i -/
theorem parted {cur : List Value} {l : List Pg.C} {n i : Nat} (hln : l.length = n) (hi : i ≤ n) (hcur : cur.take (n * 3) = rowOf cellK l) :
    cur.take (i * 3) = rowOf cellK (l.take i) ∧ (rowOf cellK (l.drop i)).length = (n - i) * 3 ∧ ∀ j v, (rowOf cellK (l.drop i))[j]? = some v → cur[i * 3 + j]? = some v := by
  have hsp : rowOf cellK l = rowOf cellK (l.take i) ++ rowOf cellK (l.drop i) := by rw [← rowOf_append, List.take_append_drop]
  have hp : (rowOf cellK (l.take i)).length = i * 3 := by rw [rowOf_len, List.length_take, hln, Nat.min_eq_left hi]
  have hd : (rowOf cellK (l.drop i)).length = (n - i) * 3 := by rw [rowOf_len, List.length_drop, hln]
  refine ⟨?_, hd, fun j v hv => ?_⟩
  · have h1 : cur.take (i * 3) = (cur.take (n * 3)).take (i * 3) := by rw [List.take_take, Nat.min_eq_left (by omega)]
    rw [h1, hcur, hsp, List.take_append_of_le_length (by omega), List.take_of_length_le (by omega)]
  · have hj : j < (n - i) * 3 := by
      rcases Nat.lt_or_ge j (rowOf cellK (l.drop i)).length with h | h
      · omega
      · rw [List.getElem?_eq_none h] at hv; cases hv
    have h1 : cur[i * 3 + j]? = (cur.take (n * 3))[i * 3 + j]? := by rw [List.getElem?_take, if_pos (by omega)]
    rw [h1, hcur, hsp, List.getElem?_append_right (by omega), hp, Nat.add_sub_cancel_left, hv]
theorem cells3 (x : Pg.C) : (cCells x).toList = rowOf cellK [x] := by rw [rowOf_one]; rfl
theorem grown_setRow {w W : World} {g : Nat} {c : Array Value} {row : Option Nat} (h : w.grownBy W row) (hr : row = some g) : w.grownBy (W.setRow g c) row := by
  refine ⟨h.os, h.tape, h.output, by simpa [World.setRow] using h.size, fun k hk hne => ?_⟩
  have hkg : g ≠ k := fun e => hne (by rw [hr, e])
  rw [← h.block k hk hne]
  simp [World.setRow, Array.getElem?_modify, hkg]
set_option maxHeartbeats 8000000 in
theorem ins_shift (base g cap i n b : Nat) (cur : Array Value) (l : List Pg.C) (x : Pg.C) (w : World) (hln : l.length = n) (hn : n ≤ 1000) (hi : i < n) (hroom : n + 1 ≤ cap) (hcm : cap ≤ maxLen) (hb : base ≤ g)
    (hg : w.heap[g]? = some (.cells cur 40 (0, 0))) (hs : cur.size = cap * 3) (hcur : cur.toList.take (n * 3) = rowOf cellK l) (hx : Blk w b 40 (cCells x)) (hne : b ≠ g) :
    Calls Try.prog 57 #[.slice (some ⟨g, 0, none⟩) n cap, .int .i64 (i : Int), .slice (some ⟨b, 0, none⟩) 1 1] w (InsP w base (.slice (some ⟨g, 0, none⟩) n cap) (l.take i ++ [x] ++ l.drop i)) := by
  unfold maxLen at hcm
  have hov : ∀ o lb cb, (callFunc 95 #[.slice (some ⟨b, 0, none⟩) 1 1, .slice (some ⟨g, o, none⟩) lb cb]).run Try.prog w = .ok (.value (.bool false)) w := fun o lb cb => by
    rw [run_callFunc_extern Try.func95 (by kernel_rfl) (by kernel_rfl) (by kernel_rfl) (e := Extern.SlicesOverlaps.overlaps #[22, 22] #[4]) (by kernel_rfl),
      Lib.run_overlaps_apart w 22 4 40 Try.underlying22 3 (fun W => by obtain ⟨i0, hi0, hz0, hz1, hz2⟩ := info_parts infoC; simp [Go.sizeOf, typeInfo, hi0, hz1]) ⟨b, 0, none⟩ ⟨g, o, none⟩ 1 1 lb cb hne 40 40 3 cur.size (by unfold World.shape?; rw [show w.heap[b]? = _ from hx]; rfl) (by unfold World.shape?; rw [hg]) (by omega) (hx.free 0) (hx.free 3)]
    rfl
  have d1 : ((i : Int) == (n : Int)) = false := by rw [beq_eq_false_iff_ne]; omega
  have d2 : decide ((cap : Int) < (n : Int) + 1) = false := by simp; omega
  have HH := Lib.hid (And.intro hg (And.intro hs (And.intro hcur (And.intro hx (And.intro hb hln)))))
  clear hg hs hcur hx hb hln
  obtain ⟨C1, hC1⟩ : ∃ C1 : Array Value, C1 = (cur.toList.take ((i + 1) * 3) ++ rowOf cellK (l.drop i) ++ cur.toList.drop ((i + 1) * 3 + (rowOf cellK (l.drop i)).length)).toArray := ⟨_, rfl⟩
  obtain ⟨hpt, hpd, hps⟩ := parted HH.out.2.2.2.2.2 (Nat.le_of_lt hi) HH.out.2.2.1
  have hcs : cur.toList.length = cap * 3 := by rw [Array.length_toList]; exact HH.out.2.1
  have hcp1 : ∀ (W : World), W.heap = w.heap → ∀ ty, (Builtin.copy_ #[22, 22] ty #[.slice (some ⟨g, (i + 1) * 3, none⟩) (n - i) (cap - (i + 1)), .slice (some ⟨g, i * 3, none⟩) (n + 1 - i) (cap - i)]).run Try.prog W = .ok (goInt (Nat.min (n + 1 - i) (n - i))) (W.setRow g C1) := fun W hW ty => by
    rw [hC1]
    have hmin : Nat.min (n + 1 - i) (n - i) = n - i := by simp only [Nat.min_def]; split <;> omega
    refine run_copy_rowK W _ _ ty 40 3 g ((i + 1) * 3) _ _ ⟨g, i * 3, none⟩ _ _ cur 40 (rowOf cellK (l.drop i)) Try.underlying22 sizeC (by rw [hW]; exact HH.out.1) (by rw [hmin, hpd]) (fun j v hv => ?_) (by rw [hpd]; have := HH.out.2.1; omega) (rowOf_one' cellK_one _)
    have hadd : (⟨g, i * 3, none⟩ : Addr).add j = ⟨g, i * 3 + j, none⟩ := by unfold Addr.add; split <;> simp_all
    rw [hadd, cell_of_row W g (i * 3 + j) cur 40 (0, 0) (by rw [hW]; exact HH.out.1), ← Array.getElem?_toList]
    exact hps j v hv
  have hC1s : C1.size = cap * 3 := by
    rw [hC1]
    simp only [List.size_toArray, List.length_append, List.length_take, List.length_drop, hpd, hcs]
    omega
  have hC1t : C1.toList.take (i * 3) = rowOf cellK (l.take i) := by
    rw [hC1, List.append_assoc]
    show (cur.toList.take ((i + 1) * 3) ++ _).take (i * 3) = _
    rw [List.take_append_of_le_length (by rw [List.length_take, hcs]; omega), List.take_take, Nat.min_eq_left (by omega), hpt]
  have hC1d : ∃ R, C1.toList.drop (i * 3 + 3) = rowOf cellK (l.drop i) ++ R := by
    refine ⟨cur.toList.drop ((i + 1) * 3 + (rowOf cellK (l.drop i)).length), ?_⟩
    rw [hC1, List.append_assoc]
    show (cur.toList.take ((i + 1) * 3) ++ _).drop (i * 3 + 3) = _
    rw [List.drop_append_of_le_length (by rw [List.length_take, hcs]; omega), List.drop_of_length_le (by rw [List.length_take, hcs]; omega), List.nil_append]
  obtain ⟨C2, hC2⟩ : ∃ C2 : Array Value, C2 = (C1.toList.take (i * 3) ++ rowOf cellK [x] ++ C1.toList.drop (i * 3 + 3)).toArray := ⟨_, rfl⟩
  have hcp2 : ∀ (W : World), W.heap = w.heap → ∀ ty, (Builtin.copy_ #[22, 22] ty #[.slice (some ⟨g, i * 3, none⟩) (n + 1 - i) (cap - i), .slice (some ⟨b, 0, none⟩) 1 1]).run Try.prog (W.setRow g C1) = .ok (goInt (Nat.min 1 (n + 1 - i))) ((W.setRow g C1).setRow g C2) := fun W hW ty => by
    rw [hC2]
    have hmin : Nat.min 1 (n + 1 - i) = 1 := by simp only [Nat.min_def]; split <;> omega
    have hg1 : (W.setRow g C1).heap[g]? = some (.cells C1 40 (0, 0)) := setRow_heap W g cur C1 40 (0, 0) (by rw [hW]; exact HH.out.1)
    have hb1 : (W.setRow g C1).heap[b]? = some (.cells (cCells x) 40 (0, 0)) := by
      rw [show (W.setRow g C1).heap[b]? = W.heap[b]? by simp [World.setRow, Array.getElem?_modify, Ne.symm hne], hW]
      exact HH.out.2.2.2.1
    refine run_copy_rowK (W.setRow g C1) _ _ ty 40 3 g (i * 3) _ _ ⟨b, 0, none⟩ _ _ C1 40 (rowOf cellK [x]) Try.underlying22 sizeC hg1 (by rw [hmin]; rfl) (fun j v hv => ?_) (by rw [hC1s]; show i * 3 + 3 ≤ _; omega) (rowOf_one' cellK_one _)
    have hadd : (⟨b, 0, none⟩ : Addr).add j = ⟨b, j, none⟩ := by unfold Addr.add; split <;> simp_all
    rw [hadd, cell_of_row (W.setRow g C1) b j (cCells x) 40 (0, 0) hb1, ← Array.getElem?_toList, cells3]
    exact hv
  have hfin : ∀ (W : World), w.grownBy W (some g) → (W.heap = w.heap) → InsP w base (.slice (some ⟨g, 0, none⟩) n cap) (l.take i ++ [x] ++ l.drop i) (.returned (.slice (some ⟨g, 0, none⟩) (n + 1) cap)) ((W.setRow g C1).setRow g C2) := fun W hgr hW => by
    rw [hC2]
    have hll : (l.take i ++ [x] ++ l.drop i).length = n + 1 := by
      simp only [List.length_append, List.length_take, List.length_drop, List.length_cons, List.length_nil, HH.out.2.2.2.2.2]
      omega
    have hg1 : (W.setRow g C1).heap[g]? = some (.cells C1 40 (0, 0)) := setRow_heap W g cur C1 40 (0, 0) (by rw [hW]; exact HH.out.1)
    obtain ⟨R, hR⟩ := hC1d
    have hlp : (rowOf cellK (l.take i)).length = i * 3 := by rw [rowOf_len, List.length_take, HH.out.2.2.2.2.2, Nat.min_eq_left (by omega)]
    refine ⟨_, cap, by rw [hll], own_ofRow HH.out.2.2.2.2.1 (setRow_heap _ g C1 _ 40 (0, 0) hg1) (by rw [hll]; exact hroom) (by unfold maxLen; exact hcm) ?_ ?_, grown_setRow (grown_setRow hgr rfl) rfl⟩
    · simp only [List.size_toArray, List.length_append, List.length_take, List.length_drop, Array.length_toList, hC1s, rowOf_len, List.length_cons, List.length_nil]
      omega
    · show (C1.toList.take (i * 3) ++ rowOf cellK [x] ++ C1.toList.drop (i * 3 + 3)).take _ = _
      rw [hll, hC1t, hR, ← List.append_assoc, ← rowOf_append, ← rowOf_append]
      rw [List.take_append_of_le_length (by rw [rowOf_len, hll]; exact Nat.le_refl _), List.take_of_length_le (by rw [rowOf_len, hll]; exact Nat.le_refl _)]
  have HC := Lib.hid (And.intro hcp1 (And.intro hcp2 hfin))
  clear hpt hpd hps hcs hcp1 hcp2 hfin hC1 hC1s hC1t hC1d hC2
  have hil : (i : Int) ≤ (n : Int) := by omega
  have hil2 : (i : Int) + 1 ≤ (n : Int) + 1 := by omega
  have hb0 : (0 : Int) ≤ (i : Int) + 1 := by omega
  have hb1 : (i : Int) ≤ (n : Int) + 1 := by omega
  have hc1 : ¬ cap = i := by omega
  have hc2 : ¬ cap = i + 1 := by omega
  have hw1 : IntKind.i64.wrap ((n : Int) + 1) = (n : Int) + 1 := IntWalk.i64_in _ (by omega)
  have hw2 : IntKind.i64.wrap ((i : Int) + 1) = (i : Int) + 1 := IntWalk.i64_in _ (by omega)
  have ht1 : ((n : Int) + 1).toNat = n + 1 := by omega
  have ht2 : ((i : Int) + 1).toNat = i + 1 := by omega
  go_enter Try.func57, Try.ntmps57
  go_upto_region 15 with fail
  go_region_law (refine step_copyR (by rfl) (.tmp 73) (.tmp 76) 22 22 (by rfl) (.slice (some ⟨g, (i + 1) * 3, none⟩) (n - i) (cap - (i + 1))) (.slice (some ⟨g, i * 3, none⟩) (n + 1 - i) (cap - i)) (by simp [Act.eval, Act.put]) (by simp [Act.eval, Act.put]) _ _ (HC.out.1 w.drew rfl _) ?_)
  all_goals
    have h16 := HC.out.2.1 w.drew rfl
    go_wp2
    go_ret
    exact HC.out.2.2 w.drew ⟨rfl, rfl, rfl, Nat.le_refl _, fun _ _ _ => rfl⟩ rfl
set_option maxHeartbeats 8000000 in
theorem ins_grow (base g cap i n b : Nat) (cur : Array Value) (l : List Pg.C) (x : Pg.C) (w : World) (hln : l.length = n) (hn : n ≤ 1000) (hi : i < n) (hnc : n ≤ cap) (hroom : cap < n + 1) (hb : base ≤ g)
    (hg : w.heap[g]? = some (.cells cur 40 (0, 0))) (hs : cur.size = cap * 3) (hcur : cur.toList.take (n * 3) = rowOf cellK l) (hx : Blk w b 40 (cCells x)) (hne : b ≠ g) :
    Calls Try.prog 57 #[.slice (some ⟨g, 0, none⟩) n cap, .int .i64 (i : Int), .slice (some ⟨b, 0, none⟩) 1 1] w (InsP w base (.slice (some ⟨g, 0, none⟩) n cap) (l.take i ++ [x] ++ l.drop i)) := by
  obtain rfl : cap = n := by omega
  obtain ⟨i0, hi0, hz0, hz1, hz2⟩ := info_parts infoC
  have d1 : ((i : Int) == (cap : Int)) = false := by rw [beq_eq_false_iff_ne]; omega
  have d2 : decide ((cap : Int) < (cap : Int) + 1) = true := by simp; omega
  obtain ⟨hpt, hpd, hps⟩ := parted hln (Nat.le_of_lt hi) hcur
  have hcs : cur.toList.length = cap * 3 := by rw [Array.length_toList]; exact hs
  have hlp : (rowOf cellK (l.take i)).length = i * 3 := by rw [rowOf_len, List.length_take, hln, Nat.min_eq_left (by omega)]
  have hold : (Builtin.firstCells i0.size i (.slice (some ⟨g, 0, none⟩) i cap)).run Try.prog w.drew = .ok (rowOf cellK (l.take i)).toArray w.drew := by
    have h1 := run_loadCells_list (P := Try.prog) w.drew ⟨g, 0, none⟩ (rowOf cellK (l.take i)) (fun j v hv => by
      have hadd : (⟨g, 0, none⟩ : Addr).add j = ⟨g, j, none⟩ := by unfold Addr.add; split <;> simp_all
      rw [hadd, cell_of_row w.drew g j cur 40 (0, 0) hg, ← Array.getElem?_toList]
      rw [← hpt, List.getElem?_take] at hv
      split at hv
      · exact hv
      · cases hv)
    rw [hlp] at h1
    simp [Builtin.firstCells, hz1, h1]
  obtain ⟨G, hG⟩ : ∃ G, G = grownCap w (cap + 1) cap 40 := ⟨_, rfl⟩
  have hGn : cap + 1 ≤ G := by rw [hG]; exact grownCap_ge w _ _ _
  have hGm : G ≤ maxLen := by rw [hG]; exact grownCap_le_maxLen w _ _ _ (by unfold maxLen; omega)
  have hG63 : G ≤ 9223372036854775807 := by unfold maxLen at hGm; omega
  obtain ⟨ROW, hROW⟩ : ∃ ROW : Array Value, ROW = (rowOf cellK (l.take i)).toArray ++ Builtin.zeroCells (Value.agg #[.string ⟨#[]⟩, .bool false, .string ⟨#[]⟩]).cells (cap + 1 - i) ++ Builtin.zeroCells (Value.agg #[.string ⟨#[]⟩, .bool false, .string ⟨#[]⟩]).cells (G - (cap + 1)) := ⟨_, rfl⟩
  have hik : i + (cap + 1 - i) = cap + 1 := by omega
  have hrz : ∀ ty, (Builtin.append_ #[22, 3] ty #[.slice (some ⟨g, 0, none⟩) i cap, .int .i64 ((cap : Int) + 1 - (i : Int))]).run Try.prog w = .ok (.slice (some ⟨w.heap.size, 0, none⟩) (cap + 1) G) (w.drew.alloc (.cells ROW 40)) := fun ty => by
    have h := Lib.run_append_grow_zeros (P := Try.prog) w 22 3 ty 40 i0 _ .i64 .i64 Try.underlying22 Try.underlying3 hi0 hz0 (some ⟨g, 0, none⟩) i cap _ hold (cap + 1 - i) (by omega) (by omega) (by omega) (by omega) (by rw [hz2]; omega) (by rw [hz2, hik]; exact growslice_fits (by omega) (by omega))
    rw [hik, ← hG, ← hROW] at h
    rw [show ((cap : Int) + 1 - (i : Int)) = ((cap + 1 - i : Nat) : Int) by omega]
    exact h
  have hRs : ROW.size = G * 3 := by
    rw [hROW]
    simp only [Array.size_append, List.size_toArray, hlp, size_zeroCells]
    show i * 3 + (cap + 1 - i) * 3 + (G - (cap + 1)) * 3 = G * 3
    omega
  have hRl : ROW.toList.length = G * 3 := by rw [Array.length_toList, hRs]
  have hRt : ROW.toList.take (i * 3) = rowOf cellK (l.take i) := by
    rw [hROW, Array.toList_append, Array.toList_append, List.append_assoc]
    show (rowOf cellK (l.take i) ++ _).take (i * 3) = _
    rw [List.take_append_of_le_length (by rw [hlp]; exact Nat.le_refl _), List.take_of_length_le (by rw [hlp]; exact Nat.le_refl _)]
  obtain ⟨R1, hR1⟩ : ∃ R1 : Array Value, R1 = (ROW.toList.take (i * 3) ++ rowOf cellK [x] ++ ROW.toList.drop (i * 3 + 3)).toArray := ⟨_, rfl⟩
  have hx3 : (rowOf cellK [x]).length = 3 := rfl
  have hR1s : R1.size = G * 3 := by
    rw [hR1]
    simp only [List.size_toArray, List.length_append, List.length_take, List.length_drop, hRl, hx3]
    omega
  have hR1l : R1.toList.length = G * 3 := by rw [Array.length_toList, hR1s]
  have hR1t : R1.toList.take ((i + 1) * 3) = rowOf cellK (l.take i ++ [x]) := by
    rw [hR1]
    show (ROW.toList.take (i * 3) ++ rowOf cellK [x] ++ ROW.toList.drop (i * 3 + 3)).take ((i + 1) * 3) = _
    have h1 : (rowOf cellK (l.take i) ++ rowOf cellK [x]).length = (i + 1) * 3 := by rw [List.length_append, hlp, hx3]; omega
    rw [hRt, List.take_append_of_le_length (by rw [h1]; exact Nat.le_refl _), List.take_of_length_le (by rw [h1]; exact Nat.le_refl _), rowOf_append]
  obtain ⟨R2, hR2⟩ : ∃ R2 : Array Value, R2 = (R1.toList.take ((i + 1) * 3) ++ rowOf cellK (l.drop i) ++ R1.toList.drop ((i + 1) * 3 + (rowOf cellK (l.drop i)).length)).toArray := ⟨_, rfl⟩
  have hR2s : R2.size = G * 3 := by
    rw [hR2]
    simp only [List.size_toArray, List.length_append, List.length_take, List.length_drop, hR1l, hpd]
    omega
  have hR2t : R2.toList.take ((l.take i ++ [x] ++ l.drop i).length * 3) = rowOf cellK (l.take i ++ [x] ++ l.drop i) := by
    rw [hR2]
    show (R1.toList.take ((i + 1) * 3) ++ rowOf cellK (l.drop i) ++ R1.toList.drop ((i + 1) * 3 + (rowOf cellK (l.drop i)).length)).take _ = _
    rw [hR1t, ← rowOf_append]
    rw [List.take_append_of_le_length (by rw [rowOf_len]; exact Nat.le_refl _), List.take_of_length_le (by rw [rowOf_len]; exact Nat.le_refl _)]
  have hglt : g < w.heap.size := by
    rcases Nat.lt_or_ge g w.heap.size with h | h
    · exact h
    · rw [Array.getElem?_eq_none h] at hg; cases hg
  have hcA : ∀ (W : World), W.heap = (w.alloc (.cells ROW 40)).heap → ∀ ty, (Builtin.copy_ #[22, 22] ty #[.slice (some ⟨w.heap.size, i * 3, none⟩) (cap + 1 - i) (G - i), .slice (some ⟨b, 0, none⟩) 1 1]).run Try.prog W = .ok (goInt (Nat.min 1 (cap + 1 - i))) (W.setRow w.heap.size R1) := fun W hW ty => by
    have hmin : Nat.min 1 (cap + 1 - i) = 1 := by simp only [Nat.min_def]; split <;> omega
    rw [hR1]
    refine run_copy_rowK W _ _ ty 40 3 w.heap.size (i * 3) _ _ ⟨b, 0, none⟩ _ _ ROW 40 (rowOf cellK [x]) Try.underlying22 sizeC (by rw [hW]; exact heap_alloc_new w _) (by rw [hmin]; rfl) (fun j v hv => ?_) (by rw [hRs, hx3]; omega) (rowOf_one' cellK_one _)
    have hadd : (⟨b, 0, none⟩ : Addr).add j = ⟨b, j, none⟩ := by unfold Addr.add; split <;> simp_all
    rw [hadd, cell_of_row W b j (cCells x) 40 (0, 0) (by rw [hW, Below.heap_alloc w _ b hx.lt]; exact hx), ← Array.getElem?_toList, cells3]
    exact hv
  have hcB : ∀ (W : World), W.heap = (w.alloc (.cells ROW 40)).heap → ∀ ty, (Builtin.copy_ #[22, 22] ty #[.slice (some ⟨w.heap.size, (i + 1) * 3, none⟩) (cap - i) (G - (i + 1)), .slice (some ⟨g, i * 3, none⟩) (cap - i) (cap - i)]).run Try.prog (W.setRow w.heap.size R1) = .ok (goInt (Nat.min (cap - i) (cap - i))) ((W.setRow w.heap.size R1).setRow w.heap.size R2) := fun W hW ty => by
    have hmin : Nat.min (cap - i) (cap - i) = cap - i := by simp only [Nat.min_def]; split <;> omega
    have hg1 : (W.setRow w.heap.size R1).heap[w.heap.size]? = some (.cells R1 40 (0, 0)) := setRow_heap W w.heap.size ROW R1 40 (0, 0) (by rw [hW]; exact heap_alloc_new w _)
    have hgg : (W.setRow w.heap.size R1).heap[g]? = some (.cells cur 40 (0, 0)) := by
      rw [show (W.setRow w.heap.size R1).heap[g]? = W.heap[g]? by simp [World.setRow, Array.getElem?_modify, show ¬ w.heap.size = g by omega], hW, Below.heap_alloc w _ g hglt]
      exact hg
    rw [hR2]
    refine run_copy_rowK (W.setRow w.heap.size R1) _ _ ty 40 3 w.heap.size ((i + 1) * 3) _ _ ⟨g, i * 3, none⟩ _ _ R1 40 (rowOf cellK (l.drop i)) Try.underlying22 sizeC hg1 (by rw [hmin, hpd]) (fun j v hv => ?_) (by rw [hpd, hR1s]; omega) (rowOf_one' cellK_one _)
    have hadd : (⟨g, i * 3, none⟩ : Addr).add j = ⟨g, i * 3 + j, none⟩ := by unfold Addr.add; split <;> simp_all
    rw [hadd, cell_of_row _ g (i * 3 + j) cur 40 (0, 0) hgg, ← Array.getElem?_toList]
    exact hps j v hv
  have hll : (l.take i ++ [x] ++ l.drop i).length = cap + 1 := by
    simp only [List.length_append, List.length_take, List.length_drop, List.length_cons, List.length_nil, hln]
    omega
  have hfin : ∀ (W : World), w.grownBy W (some g) → W.heap = (w.alloc (.cells ROW 40)).heap → base ≤ w.heap.size → InsP w base (.slice (some ⟨g, 0, none⟩) cap cap) (l.take i ++ [x] ++ l.drop i) (.returned (.slice (some ⟨w.heap.size, 0, none⟩) (cap + 1) G)) ((W.setRow w.heap.size R1).setRow w.heap.size R2) := fun W hgr hW hbs => by
    have hg1 : (W.setRow w.heap.size R1).heap[w.heap.size]? = some (.cells R1 40 (0, 0)) := setRow_heap W w.heap.size ROW R1 40 (0, 0) (by rw [hW]; exact heap_alloc_new w _)
    refine ⟨_, G, by rw [hll], own_ofRow hbs (setRow_heap _ w.heap.size R1 _ 40 (0, 0) hg1) (by rw [hll]; exact hGn) hGm hR2s hR2t, ?_⟩
    refine ⟨hgr.os, hgr.tape, hgr.output, by simpa [World.setRow] using hgr.size, fun k hk hne2 => ?_⟩
    rw [← hgr.block k hk hne2]
    have hk2 : ¬ w.heap.size = k := by omega
    simp [World.setRow, Array.getElem?_modify, hk2]
  have HC := Lib.hid (And.intro hrz (And.intro hcA (And.intro hcB (And.intro hfin (Nat.le_trans hb (Nat.le_of_lt hglt))))))
  clear hrz hcA hcB hfin hR2t hR2s hR2 hR1t hR1l hR1s hR1 hRt hRl hRs hROW hold hlp hcs hpt hpd hps hG hik hll hx3 hi0 hz0 hz1 hz2 hg hs hcur hx hb hln hGm hglt
  have hil : (i : Int) ≤ (cap : Int) := by omega
  have hil2 : (i : Int) + 1 ≤ (cap : Int) + 1 := by omega
  have hb0 : (0 : Int) ≤ (i : Int) + 1 := by omega
  have hb1 : (i : Int) ≤ (cap : Int) + 1 := by omega
  have hc1 : ¬ cap = i := by omega
  have hc3 : ¬ G = i := by omega
  have hc4 : ¬ G = i + 1 := by omega
  have hw1 : IntKind.i64.wrap ((cap : Int) + 1) = (cap : Int) + 1 := IntWalk.i64_in _ (by omega)
  have hw2 : IntKind.i64.wrap ((i : Int) + 1) = (i : Int) + 1 := IntWalk.i64_in _ (by omega)
  have hw3 : IntKind.i64.wrap ((cap : Int) + 1 - (i : Int)) = (cap : Int) + 1 - (i : Int) := IntWalk.i64_in _ (by omega)
  have ht1 : ((cap : Int) + 1).toNat = cap + 1 := by omega
  have ht2 : ((i : Int) + 1).toNat = i + 1 := by omega
  go_enter Try.func57, Try.ntmps57
  have h10 := fun ty => HC.out.2.1 (w.alloc (.cells ROW 40)).drew rfl ty
  go_wp2_with (at_builtin; refine Lib.wpList_append_run _ rfl _ _ _ _ rfl _ _ rfl rfl _ _ (HC.out.1 _) ?_)
  go_region_law (refine step_copyR (by rfl) (.tmp 50) (.tmp 53) 22 22 (by rfl) (.slice (some ⟨w.heap.size, (i + 1) * 3, none⟩) (cap - i) (G - (i + 1))) (.slice (some ⟨g, i * 3, none⟩) (cap - i) (cap - i)) (by simp [Act.eval, Act.put]) (by simp [Act.eval, Act.put]) _ _ (HC.out.2.2.1 (w.alloc (.cells ROW 40)).drew.drew rfl _) ?_)
  all_goals
    go_wp2
    go_ret
    exact HC.out.2.2.2.1 (w.alloc (.cells ROW 40)).drew.drew ⟨rfl, rfl, rfl, by simp, fun k hk _ => Below.heap_alloc w _ k hk⟩ rfl HC.out.2.2.2.2
end Go.Proofs.Ytfcmlfcpgboigaa
