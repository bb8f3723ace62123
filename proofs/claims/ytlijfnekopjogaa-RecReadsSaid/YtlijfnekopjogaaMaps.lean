/- Maps with keys of type int and plain elements, in memory: what they read as, and what the operations on them do; nothing of a program's own. -/
import Derived.Test.YtlijfnekopjogaaMem
import Derived.Maps.RangeRun
namespace Go.Proofs.Ytlijfnekopjogaa.Mem
open Go Go.RowKit
open Go.ChangeMaps (setBlock)

/-- an entry: key, element, stamp -/
structure Ent (α : Type) where
  k : Int
  v : α
  b : Nat
section
variable {α : Type} (f : α → Value)
def ent (e : Ent α) : MapEntry := ⟨.int .i64 e.k, f e.v, e.b⟩
def ents (l : List (Ent α)) : Array MapEntry := (l.map (ent f)).toArray
def Good (l : List (Ent α)) (clock : Nat) : Prop := (l.map (·.k)).Nodup ∧ (l.map (·.b)).Nodup ∧ ∀ e ∈ l, e.b < clock
def getE (l : List (Ent α)) (n : Int) : Option α := (l.find? (·.k == n)).map (·.v)
/-- THE MAP IN BLOCK r READS AS g. -/
def MapS (w : World) (r : Nat) (g : Int → Option α) : Prop := ∃ l clock, w.heap[r]? = some (.map (ents f l) clock) ∧ Good l clock ∧ ∀ n, getE l n = g n
variable {f}
theorem MapS.lt {w : World} {r : Nat} {g : Int → Option α} (h : MapS f w r g) : r < w.heap.size := by
  obtain ⟨l, c, h1, _⟩ := h
  rcases Nat.lt_or_ge r w.heap.size with hlt | hge
  · exact hlt
  · rw [Array.getElem?_eq_none hge] at h1; cases h1
theorem MapS.keep {w w' : World} {r : Nat} {g : Int → Option α} (h : MapS f w r g) (hk : w'.heap[r]? = w.heap[r]?) : MapS f w' r g := by
  obtain ⟨l, c, h1, h2⟩ := h
  exact ⟨l, c, hk.trans h1, h2⟩
theorem MapS.congr {w : World} {r : Nat} {g g' : Int → Option α} (h : MapS f w r g) (hg : ∀ n, g n = g' n) : MapS f w r g' := by
  obtain ⟨l, c, h1, h2, h3⟩ := h
  exact ⟨l, c, h1, h2, fun n => (h3 n).trans (hg n)⟩
theorem MapS.new (w : World) : MapS f (w.alloc (.map #[] 0)) w.heap.size (fun _ => none) :=
  ⟨[], 0, heap_alloc_new w _, ⟨List.nodup_nil, List.nodup_nil, by simp⟩, fun _ => rfl⟩
/-- a map is no row of cells -/
theorem MapS.ne {w : World} {r p : Nat} {g : Int → Option α} (h : MapS f w r g) {cs : Array Value} {t : TypeId} {fr : Nat × Nat} (hp : w.heap[p]? = some (.cells cs t fr)) : r ≠ p := by
  rintro rfl
  obtain ⟨l, c, h1, _⟩ := h
  rw [hp] at h1
  cases h1

theorem getE_cons (e : Ent α) (l : List (Ent α)) (n : Int) : getE (e :: l) n = if e.k = n then some e.v else getE l n := by
  unfold getE
  rw [List.find?_cons]
  by_cases h : e.k = n
  · simp [h]
  · rw [if_neg h, show (e.k == n) = false by simpa using h]
theorem findNow_ents (n : Int) : ∀ (l : List (Ent α)) (i : Nat),
    (∃ j e, l[j]? = some e ∧ e.k = n ∧ getE l n = some e.v ∧ Instr.findNow (.int .i64) (.int .i64 n) (l.map (ent f)) i = some (some (i + j, f e.v))) ∨
    (getE l n = none ∧ (∀ e ∈ l, e.k ≠ n) ∧ Instr.findNow (.int .i64) (.int .i64 n) (l.map (ent f)) i = some none)
  | [], i => .inr ⟨rfl, by simp, rfl⟩
  | e :: l, i => by
    by_cases h : e.k = n
    · refine .inl ⟨0, e, rfl, h, by rw [getE_cons, if_pos h], ?_⟩
      simp [Instr.findNow, ent, Instr.sameNow, h]
    · have hs : Instr.sameNow (.int .i64) (.int .i64 n) (.int .i64 e.k) = some false := by
        have : ¬ n = e.k := fun x => h x.symm
        simp [Instr.sameNow, this]
      rcases findNow_ents n l (i + 1) with ⟨j, e', h1, h2, h3, h4⟩ | ⟨h1, h2, h3⟩
      · refine .inl ⟨j + 1, e', by simpa using h1, h2, by rw [getE_cons, if_neg h, h3], ?_⟩
        simp only [List.map_cons, Instr.findNow, ent, hs]
        rw [show i + (j + 1) = i + 1 + j by omega]
        exact h4
      · refine .inr ⟨by rw [getE_cons, if_neg h, h1], fun x hx => ?_, ?_⟩
        · rcases List.mem_cons.1 hx with rfl | hx
          · exact h
          · exact h2 x hx
        · simp only [List.map_cons, Instr.findNow, ent, hs]
          exact h3
variable {P : Program}
theorem run_checkKey_i {k : TypeId} (hk : P.underlying k = some (.int .i64)) (b : Bool) (n : Int) (w : World) : (Instr.checkKey b 10000 k (.int .i64 n)).run P w = .ok () w := by
  obtain ⟨q, hq⟩ : ∃ q, 10000 = q + 1 := ⟨9999, rfl⟩
  rw [hq]
  simp [Instr.checkKey, run_underlying hk]
theorem run_findKey_i {k : TypeId} (hk : P.underlying k = some (.int .i64)) (n : Int) (es : List MapEntry) (r : Option (Nat × Value)) (hr : Instr.findNow (.int .i64) (.int .i64 n) es 0 = some r) (w : World) : (Instr.findKey k (.int .i64 n) es).run P w = .ok r w := by
  simp [Instr.findKey, run_underlying hk, hr]
/-- 'v, ok := m[k]' -/
theorem run_look {t k e : TypeId} (ht : P.underlying t = some (.map k e)) (hk : P.underlying k = some (.int .i64)) (z : α) (hz : ∀ w, (zeroValue e).run P w = .ok (f z) w)
    {w : World} {r : Nat} {g : Int → Option α} (h : MapS f w r g) (n : Int) (w1 : World) (hw : w1.heap[r]? = w.heap[r]?) (ok : Bool) :
    (Instr.lookup t (.map (some r)) (.int .i64 n) ok).run P w1 = .ok (if ok then .tuple #[f ((g n).getD z), .bool (g n).isSome] else f ((g n).getD z)) w1 := by
  obtain ⟨l, c, h1, h2, h3⟩ := h
  rw [← hw] at h1
  rcases findNow_ents (f := f) n l 0 with ⟨j, x, h5, h6, h7, h8⟩ | ⟨h5, _, h6⟩
  · rw [h3] at h7
    have := run_findKey_i hk n _ _ h8 w1
    simp [Instr.lookup, run_underlying ht, MapKept.run_getObj_map h1, run_checkKey_i hk, ents, this, h7]
  · rw [h3] at h5
    have := run_findKey_i hk n _ _ h6 w1
    simp [Instr.lookup, run_underlying ht, MapKept.run_getObj_map h1, run_checkKey_i hk, ents, this, h5, hz]
/-- g, at n v -/
def upd (g : Int → Option α) (n : Int) (v : α) : Int → Option α := fun m => if m = n then some v else g m
theorem getE_append (l : List (Ent α)) (e : Ent α) (n : Int) : getE (l ++ [e]) n = (getE l n).or (if e.k = n then some e.v else none) := by
  induction l with
  | nil => simp [getE]
  | cons a l ih => rw [List.cons_append, getE_cons, getE_cons, ih]; split <;> simp
theorem getE_set (v : α) (n : Int) : ∀ (l : List (Ent α)) (j : Nat) (e : Ent α), l[j]? = some e → e.k = n → (l.map (·.k)).Nodup → ∀ m, getE (l.set j ⟨n, v, e.b⟩) m = if m = n then some v else getE l m
  | [], j, e, h, _, _, _ => by simp at h
  | a :: l, 0, e, h, hk, hn, m => by
    simp at h
    subst h
    rw [List.set_cons_zero, getE_cons, getE_cons]
    by_cases hm : m = n
    · subst hm; simp
    · simp only [if_neg hm, hk, if_neg (fun x => hm (Eq.symm x) : ¬ n = m)]
  | a :: l, j + 1, e, h, hk, hn, m => by
    simp at h
    rw [List.map_cons, List.nodup_cons] at hn
    rw [List.set_cons_succ, getE_cons, getE_cons, getE_set v n l j e h hk hn.2 m]
    have ha : a.k ≠ n := by
      intro x
      apply hn.1
      rw [x, ← hk]
      exact List.mem_map.2 ⟨e, List.mem_of_getElem? h, rfl⟩
    by_cases hm : m = n
    · subst hm; simp [ha]
    · simp [hm]
theorem set_self {β : Type} (l : List β) (j : Nat) (x : β) (h : l[j]? = some x) : l.set j x = l := by
  obtain ⟨hj, rfl⟩ := List.getElem?_eq_some_iff.1 h
  simp
theorem sameBits_i (n : Int) : Instr.sameBits 10000 (.int .i64 n) (.int .i64 n) = true := by
  obtain ⟨q, hq⟩ : ∃ q, 10000 = q + 1 := ⟨9999, rfl⟩
  rw [hq]
  simp [Instr.sameBits]
/-- 'm[k] = v' -/
theorem run_upd {t k e : TypeId} (ht : P.underlying t = some (.map k e)) (hk : P.underlying k = some (.int .i64)) 
    {w : World} {r : Nat} {g : Int → Option α} (h : MapS f w r g) (n : Int) (v : α) :
    ∃ o, (∀ w1 : World, w1.heap[r]? = w.heap[r]? → (Instr.mapUpdate t (.map (some r)) (.int .i64 n) (f v)).run P w1 = .ok () (setBlock w1 r o)) ∧
      ∀ w1 : World, w1.heap[r]? = some o → MapS f w1 r (upd g n v) := by
  obtain ⟨l, c, h1, h2, h3⟩ := h
  rcases findNow_ents (f := f) n l 0 with ⟨j, x, h5, h6, h7, h8⟩ | ⟨h5, h5', h6⟩
  · refine ⟨.map (ents f (l.set j ⟨n, v, x.b⟩)) c, fun w1 hw => ?_, fun w1 hw => ⟨_, c, hw, ⟨?_, ?_, ?_⟩, fun m => ?_⟩⟩
    · rw [← hw] at h1
      have hfk := run_findKey_i hk n _ _ h8 w1
      have hes : (ents f l)[j]? = some (ent f x) := by simp [ents, h5]
      have hmod : (ents f l).modify j (fun e => { e with key := .int .i64 n, val := f v }) = ents f (l.set j ⟨n, v, x.b⟩) := by
        apply Array.ext_getElem?
        intro i
        rw [Array.getElem?_modify]
        simp only [ents, List.getElem?_toArray, List.getElem?_map, List.getElem?_set]
        by_cases hij : j = i
        · subst hij
          obtain ⟨hj, rfl⟩ := List.getElem?_eq_some_iff.1 h5
          simp [hj, ent]
        · simp [hij]
      have hkt : (Instr.keyThatStays (.int .i64 n) (.int .i64 n)).run P w1 = .ok (.int .i64 n) w1 := by simp [Instr.keyThatStays, sameBits_i]
      have hkx : (ent f x).key = .int .i64 n := by simp [ent, h6]
      simp [Instr.mapUpdate, run_underlying ht, MapKept.run_getObj_map h1, run_checkKey_i hk, show (ents f l).toList = l.map (ent f) by simp [ents], hfk, hes, hkx, hkt, hmod, MapKept.run_setObj_map _ h1, Result.andThen, setBlock]
    · have : (l.set j ⟨n, v, x.b⟩).map (·.k) = l.map (·.k) := by
        rw [List.map_set]
        apply set_self
        simp [h5, h6]
      rw [this]; exact h2.1
    · have : (l.set j ⟨n, v, x.b⟩).map (·.b) = l.map (·.b) := by
        rw [List.map_set]
        apply set_self
        simp [h5]
      rw [this]; exact h2.2.1
    · intro e he
      rcases List.mem_or_eq_of_mem_set he with he | rfl
      · exact h2.2.2 e he
      · exact h2.2.2 x (List.mem_of_getElem? h5)
    · rw [getE_set v n l j x h5 h6 h2.1 m]
      unfold upd
      rw [h3]
  · refine ⟨.map (ents f (l ++ [⟨n, v, c⟩])) (c + 1), fun w1 hw => ?_, fun w1 hw => ⟨_, _, hw, ⟨?_, ?_, ?_⟩, fun m => ?_⟩⟩
    · rw [← hw] at h1
      have hfk := run_findKey_i hk n _ _ h6 w1
      have hpush : (ents f l).push ⟨.int .i64 n, f v, c⟩ = ents f (l ++ [⟨n, v, c⟩]) := by
        apply Array.toList_inj.1
        simp [ents, ent]
      simp [Instr.mapUpdate, run_underlying ht, MapKept.run_getObj_map h1, run_checkKey_i hk, show (ents f l).toList = l.map (ent f) by simp [ents], hfk, hpush, MapKept.run_setObj_map _ h1, Result.andThen, setBlock]
    · rw [List.map_append, List.nodup_append]
      refine ⟨h2.1, by simp, ?_⟩
      intro a ha b hb
      simp at ha hb
      obtain ⟨e, he, rfl⟩ := ha
      subst hb
      exact h5' e he
    · rw [List.map_append, List.nodup_append]
      refine ⟨h2.2.1, by simp, ?_⟩
      intro a ha b hb
      simp at ha hb
      obtain ⟨e, he, rfl⟩ := ha
      subst hb
      have := h2.2.2 e he
      omega
    · intro e he
      rcases List.mem_append.1 he with he | he
      · have := h2.2.2 e he; omega
      · simp at he; subst he; simp
    · rw [getE_append, h3]
      unfold upd
      by_cases hm : m = n
      · subst hm; rw [← h3, h5]; simp
      · rw [if_neg hm, if_neg (fun x => hm (Eq.symm x) : ¬ n = m)]; simp
/-- 'clear(m)' -/
theorem run_clear_map {t k e ty : TypeId} (ht : P.underlying t = some (.map k e)) {w : World} {r : Nat} {g : Int → Option α} (h : MapS f w r g) :
    ∃ o, (∀ w1 : World, w1.heap[r]? = w.heap[r]? → (Builtin.clear_ #[t] ty #[.map (some r)]).run P w1 = .ok (.tuple #[]) (setBlock w1 r o)) ∧ ∀ w1 : World, w1.heap[r]? = some o → MapS f w1 r (fun _ => none) := by
  obtain ⟨l, c, h1, h2, h3⟩ := h
  refine ⟨.map #[] c, fun w1 hw => ?_, fun w1 hw => ⟨[], c, hw, ⟨List.nodup_nil, List.nodup_nil, by simp⟩, fun _ => rfl⟩⟩
  rw [← hw] at h1
  simp [Builtin.clear_, run_underlying ht, MapKept.run_getObj_map h1, MapKept.run_setObj_map _ h1, Result.andThen, setBlock]
/-- maps.clone -/
theorem run_clone {t : TypeId} {w : World} {r : Nat} {g : Int → Option α} (h : MapS f w r g) :
    ∃ o, (Extern.MapsClone.clone #[.iface t (.map (some r))]).run P w = .ok (.iface t (.map (some w.heap.size))) (w.alloc o) ∧ ∀ w1 : World, ∀ r', w1.heap[r']? = some o → MapS f w1 r' g := by
  obtain ⟨l, c, h1, h2, h3⟩ := h
  refine ⟨.map (ents f l) c, ?_, fun w1 r' hw => ⟨l, c, hw, h2, h3⟩⟩
  show (getObj r >>= _).run P w = _
  rw [Sem.run_bind, MapKept.run_getObj_map h1]
  rfl
end

/-- 'append(v, x...)' onto a row of the call's own, elements of whatever size -/
theorem wpList_append_any {P : Program} (w : World) {ops : Array Oper} {rest : List Oper} {o : Oper} {ac : Act} {Q : Exit → Act → World → Prop} (hgd : Region.wanted o (yielded ops ac.tmps) = true) (s x : Operand) (t : TypeId)
    (ho : o.op = .call { callee := .builtin .append, args := #[s, x], argTypes := #[t, t] })
    (base : Nat) (e : TypeId) (i : TypeInfo) (z : Value) (size bytes : Nat) (ht : P.underlying t = some (.slice e)) (hi : P.info? e = some i) (hz : i.zero = some z)
    (hsize : i.size = size) (hby : i.bytes = bytes) (hzs : z.cells.size = size) (hsz : 0 < size)
    (v : Value) (n : Nat) (xs : List Value) (hs : ac.eval s = v) (hown : w.ownsRow base e size v n xs)
    (a : Addr) (m c : Nat) (news : List Value) (hx : ac.eval x = .slice (some a) m c) (hl : news.length = m * size) (hnews : ∀ j u, news[j]? = some u → w.cell? (a.add j) = some u) (h1 : ∀ u ∈ news, u.oneCell' = true)
    (h63 : n + m ≤ maxLen) (hbytes : (n + m) * bytes ≤ 140737488355328) (hbase : base ≤ w.heap.size)
    (h : ∀ v' w', w'.ownsRow base e size v' (n + m) (xs ++ news) → w.grownBy w' v.ownBlock → (v'.ownBlock = v.ownBlock ∨ v'.ownBlock = some w.heap.size) → wpList P ops Q rest (ac.put o.dst v') w') : wpList P ops Q (o :: rest) ac w := by
  unfold wpList
  rw [if_pos hgd]
  refine .inl ?_
  obtain ⟨v', w', hrun, h2, h3, _, h5⟩ := run_append_own_at (P := P) w base t o.type e i z size bytes ht hi hz hsize hby hzs hsz v n xs hown a m c news hl hnews h1 h63 hbytes hbase
  unfold Oper.wp execOp
  simp only [ho, resolve, invoke, builtin, Sem.run_bind, Sem.run_pure, Result.andThen_ok, List.map_toArray, List.map_cons, List.map_nil, hs, hx, hrun]
  exact h v' w' h2 h3 h5
end Go.Proofs.Ytlijfnekopjogaa.Mem
