/- Words for byte slices in memory, and append laws over them; nothing of a program's own. -/
import Derived.WalkKit
import Derived.WalkSpells
import Derived.WalkLawsBesides
import Derived.Lib.Hide
import Derived.Maps.AppendAt
import Derived.Laws.OwnMore
import Derived.Deep.AppendLies
import Derived.Deep.Draws
namespace Go.Proofs.Ytlijfnekopjogaa.Mem
open Go Go.RowKit

/-- how long the slice in a slot is: for a loop's measure -/
def sliceLen : Value → Nat
  | .slice _ n _ => n
  | _ => 0
/-- a byte as a value -/
abbrev u8 (b : UInt8) : Value := .int .u8 (b.toNat : Int)
/-- bytes as cells -/
def u8s (bs : List UInt8) : List Value := bs.map u8

theorem u8s_length (bs : List UInt8) : (u8s bs).length = bs.length := by simp [u8s]
theorem u8s_append (a b : List UInt8) : u8s (a ++ b) = u8s a ++ u8s b := by simp [u8s]
theorem u8s_getElem? (bs : List UInt8) (j : Nat) : (u8s bs)[j]? = bs[j]?.map u8 := by simp [u8s]
theorem u8s_one (bs : List UInt8) : ∀ u ∈ u8s bs, u.oneCell' = true := by
  intro u hu
  simp only [u8s, List.mem_map] at hu
  obtain ⟨b, _, rfl⟩ := hu
  rfl
theorem byte_lt (b : UInt8) : (b.toNat : Int) < 256 := by have := b.toNat_lt; omega

/-- THE SLICE '.slice A n _' READS AS THE BYTES bs. -/
def BS (w : World) (A : Option Addr) (n : Nat) (bs : List UInt8) : Prop :=
  bs.length = n ∧ (0 < n → ∃ b off, A = some ⟨b, off, none⟩ ∧ b < w.heap.size ∧ ∀ j, j < bs.length → w.cell? ⟨b, off + j, none⟩ = some (u8 (bs.getD j 0)))

section
variable {w w' : World} {A : Option Addr} {n : Nat} {bs : List UInt8}
theorem BS.empty (w : World) (A : Option Addr) : BS w A 0 [] := ⟨rfl, fun h => absurd h (by omega)⟩
theorem BS.keep (h : BS w A n bs) (hs : w.heap.size ≤ w'.heap.size) (hc : ∀ b, b < w.heap.size → w'.heap[b]? = w.heap[b]?) : BS w' A n bs := by
  refine ⟨h.1, fun hn => ?_⟩
  obtain ⟨b, off, rfl, hb, hcell⟩ := h.2 hn
  exact ⟨b, off, rfl, by omega, fun j hj => (World.cell?_of_block (hc b hb)).trans (hcell j hj)⟩
theorem BS.below (h : BS w A n bs) (hb : Below w.heap.size w w') : BS w' A n bs := h.keep hb.size hb.block
/-- one cell, at an index below the length -/
theorem BS.at_ (h : BS w A n bs) {k : Nat} (hk : k < n) : ∃ b off, A = some ⟨b, off, none⟩ ∧ w.cell? ⟨b, off + k, none⟩ = some (u8 (bs.getD k 0)) := by
  obtain ⟨b, off, rfl, _, hc⟩ := h.2 (by omega)
  exact ⟨b, off, rfl, hc k (by rw [h.1]; exact hk)⟩
theorem BS.made (w : World) (C : Array Value) (t : TypeId) (fr : Nat × Nat) (bs : List UInt8) (hC : C.toList = u8s bs) : BS (w.alloc (.cells C t fr)) (some ⟨w.heap.size, 0, none⟩) bs.length bs := by
  refine ⟨rfl, fun _ => ⟨w.heap.size, 0, rfl, by simp, fun j hj => ?_⟩⟩
  rw [Nat.zero_add, World.cell?_alloc_mark, ← Array.getElem?_toList, hC, u8s_getElem?, List.getElem?_eq_getElem hj, List.getD_eq_getElem?_getD, List.getElem?_eq_getElem hj]
  rfl
theorem BS.of_own {base : Nat} {e : TypeId} {c : Nat} (h : w.ownsRow base e 1 (.slice A n c) n (u8s bs)) : BS w A n bs := by
  have hl : bs.length = n := by have := h.1; rw [u8s_length] at this; omega
  refine ⟨hl, fun hn => ?_⟩
  obtain ⟨g, cap, hv, _, hlt⟩ := h.form hn
  have hA : A = some ⟨g, 0, none⟩ := by injection hv
  subst hA
  refine ⟨g, 0, rfl, hlt, fun j hj => ?_⟩
  have := h.cells (g := g) rfl j (u8 (bs.getD j 0)) (by rw [u8s_getElem?]; simp [List.getD_eq_getElem?_getD, hj])
  have hadd : (⟨g, 0, none⟩ : Addr).add j = ⟨g, 0 + j, none⟩ := by unfold Addr.add; split <;> simp_all
  rwa [hadd] at this
end

theorem BS.take_ {w : World} {A : Option Addr} {n : Nat} {bs : List UInt8} (hb : BS w A n bs) (j : Nat) (hj : j ≤ n) : BS w A j (bs.take j) := by
  refine ⟨by rw [List.length_take, hb.1]; omega, fun hp => ?_⟩
  obtain ⟨b, off, rfl, hlt, hc⟩ := hb.2 (by omega)
  refine ⟨b, off, rfl, hlt, fun i hi => ?_⟩
  rw [List.length_take] at hi
  rw [hc i (by omega), List.getD_eq_getElem?_getD, List.getD_eq_getElem?_getD, List.getElem?_take, if_pos (by omega)]
/-- 's[i:j]': from an address on -/
theorem BS.cut_ {w : World} {b off n : Nat} {bs : List UInt8} (hb : BS w (some ⟨b, off, none⟩) n bs) (i j : Nat) (hij : i ≤ j) (hj : j ≤ n) : BS w (some ⟨b, off + i, none⟩) (j - i) ((bs.drop i).take (j - i)) := by
  refine ⟨by rw [List.length_take, List.length_drop, hb.1]; omega, fun hp => ?_⟩
  obtain ⟨b', off', e, hlt, hc⟩ := hb.2 (by omega)
  injection e with e
  injection e with e1 e2 _
  subst e1
  subst e2
  refine ⟨b, off + i, rfl, hlt, fun k hk => ?_⟩
  rw [List.length_take, List.length_drop, hb.1] at hk
  rw [Nat.add_assoc, hc (i + k) (by rw [hb.1]; omega), List.getD_eq_getElem?_getD, List.getD_eq_getElem?_getD, List.getElem?_take, if_pos (by omega), List.getElem?_drop]
theorem own_slice {w : World} {base : Nat} {e : TypeId} {size n : Nat} {v : Value} {xs : List Value} (h : w.ownsRow base e size v n xs) : ∃ A c, v = .slice A n c := by
  rcases h.2 with ⟨rfl, rfl⟩ | ⟨g, cap, _, rfl, _⟩
  · exact ⟨none, 0, rfl⟩
  · exact ⟨_, _, rfl⟩
theorem own_len {w : World} {base : Nat} {e : TypeId} {n : Nat} {v : Value} {bs : List UInt8} (h : w.ownsRow base e 1 v n (u8s bs)) : bs.length = n := by
  have := h.1; rw [u8s_length] at this; omega
theorem own_below {w w' : World} {base : Nat} {e : TypeId} {size n : Nat} {v : Value} {xs : List Value} (h : w.ownsRow base e size v n xs) (hb : Below w.heap.size w w') : w'.ownsRow base e size v n xs := by
  refine h.kept (w' := w') (row := none) ⟨hb.os, hb.tape, hb.output, hb.size, fun k hk _ => hb.block k hk⟩ ?_
  cases v.ownBlock <;> simp
theorem own_base {w : World} {base base' : Nat} {e : TypeId} {size n : Nat} {v : Value} {xs : List Value} (h : w.ownsRow base e size v n xs) (hb : base' ≤ base) : w.ownsRow base' e size v n xs := by
  refine ⟨h.1, ?_⟩
  rcases h.2 with h0 | ⟨g, cap, cur, hv, hg, r⟩
  · exact .inl h0
  · exact .inr ⟨g, cap, cur, hv, by omega, r⟩

section
variable {P : Program} (w : World)
/-- 'append(v, x...)' onto a row of the call's own, x a slice of bytes of whatever make -/
theorem run_append_bs (base : Nat) (t ty e : TypeId) (i : TypeInfo) (ht : P.underlying t = some (.slice e)) (hi : P.info? e = some i) (hz : i.zero = some (.int .u8 0))
    (hsize : i.size = 1) (hby : i.bytes = 1)
    (v : Value) (n : Nat) (xs : List Value) (hown : w.ownsRow base e 1 v n xs)
    (A : Option Addr) (m c : Nat) (bs : List UInt8) (hr : BS w A m bs)
    (hbytes : n + m ≤ 140737488355328) (hbase : base ≤ w.heap.size) :
    ∃ v' w', (Builtin.append_ #[t, t] ty #[v, .slice A m c]).run P w = .ok v' w' ∧ w'.ownsRow base e 1 v' (n + m) (xs ++ u8s bs) ∧ w.grownBy w' v.ownBlock ∧
      (v'.ownBlock = v.ownBlock ∨ v'.ownBlock = some w.heap.size) := by
  have h63 : n + m ≤ maxLen := by unfold maxLen; omega
  rcases A with _ | ad
  · have hm : m = 0 := by
      rcases Nat.eq_zero_or_pos m with h0 | h0
      · exact h0
      · obtain ⟨_, _, h, _⟩ := hr.2 h0
        cases h
    subst hm
    have hn : bs = [] := List.eq_nil_of_length_eq_zero hr.1
    subst hn
    refine ⟨v, w, ?_, by simpa [u8s] using hown, World.grownBy.refl w _, .inl rfl⟩
    rcases hown.2 with ⟨rfl, rfl⟩ | ⟨g, cap, cur, rfl, _, _, hnc, _⟩
    · simp [Builtin.append_, run_underlying ht, sizeOf, typeInfo, hi, Builtin.lenOf, Builtin.firstCells]
    · simp [Builtin.append_, run_underlying ht, sizeOf, typeInfo, hi, Builtin.lenOf, Builtin.firstCells, hnc, storeCells]
  · have hcells : ∀ j u, (u8s bs)[j]? = some u → w.cell? (ad.add j) = some u := by
      intro j u hu
      rw [u8s_getElem?] at hu
      have hj : j < bs.length := by
        rcases Nat.lt_or_ge j bs.length with h | h
        · exact h
        · rw [List.getElem?_eq_none h] at hu; cases hu
      obtain ⟨b, off, h, _, hc⟩ := hr.2 (by have := hr.1; omega)
      injection h with h
      subst h
      have hadd : (⟨b, off, none⟩ : Addr).add j = ⟨b, off + j, none⟩ := by unfold Addr.add; split <;> simp_all
      rw [hadd, hc j hj]
      rw [List.getElem?_eq_getElem hj] at hu
      simp only [Option.map_some, Option.some.injEq] at hu
      rw [← hu, List.getD_eq_getElem?_getD, List.getElem?_eq_getElem hj]
      rfl
    obtain ⟨v', w', hrun, h2, h3, _, h5⟩ := run_append_own_at (P := P) w base t ty e i (.int .u8 0) 1 1 ht hi hz hsize hby rfl (by omega) v n xs hown ad m c (u8s bs) (by rw [u8s_length, hr.1]; omega) hcells (u8s_one bs) h63 (by omega) hbase
    exact ⟨v', w', hrun, h2, h3, h5⟩
theorem wp_append_bs {o : Oper} {a : Act} {K : Act → World → Prop} {Q : Exit → Act → World → Prop} (s x : Operand) (t : TypeId)
    (ho : o.op = .call { callee := .builtin .append, args := #[s, x], argTypes := #[t, t] })
    (base : Nat) (e : TypeId) (i : TypeInfo) (ht : P.underlying t = some (.slice e)) (hi : P.info? e = some i) (hz : i.zero = some (.int .u8 0)) (hsize : i.size = 1) (hby : i.bytes = 1)
    (v : Value) (n : Nat) (xs : List Value) (hs : a.eval s = v) (hown : w.ownsRow base e 1 v n xs)
    (A : Option Addr) (m c : Nat) (bs : List UInt8) (hx : a.eval x = .slice A m c) (hr : BS w A m bs) (hbytes : n + m ≤ 140737488355328) (hbase : base ≤ w.heap.size)
    (h : ∀ v' w', w'.ownsRow base e 1 v' (n + m) (xs ++ u8s bs) → w.grownBy w' v.ownBlock → (v'.ownBlock = v.ownBlock ∨ v'.ownBlock = some w.heap.size) → K (a.put o.dst v') w') : o.wp P a w K Q := by
  obtain ⟨v', w', hrun, h2, h3, h4⟩ := run_append_bs (P := P) w base t o.type e i ht hi hz hsize hby v n xs hown A m c bs hr hbytes hbase
  unfold Oper.wp execOp
  simp only [ho, resolve, invoke, builtin, Sem.run_bind, Sem.run_pure, Result.andThen_ok, List.map_toArray, List.map_cons, List.map_nil, hs, hx, hrun]
  exact h v' w' h2 h3 h4
theorem wpList_append_bs {ops : Array Oper} {rest : List Oper} {o : Oper} {a : Act} {Q : Exit → Act → World → Prop} (hgd : Region.wanted o (yielded ops a.tmps) = true) (s x : Operand) (t : TypeId)
    (ho : o.op = .call { callee := .builtin .append, args := #[s, x], argTypes := #[t, t] })
    (base : Nat) (e : TypeId) (i : TypeInfo) (ht : P.underlying t = some (.slice e)) (hi : P.info? e = some i) (hz : i.zero = some (.int .u8 0)) (hsize : i.size = 1) (hby : i.bytes = 1)
    (v : Value) (n : Nat) (xs : List Value) (hs : a.eval s = v) (hown : w.ownsRow base e 1 v n xs)
    (A : Option Addr) (m c : Nat) (bs : List UInt8) (hx : a.eval x = .slice A m c) (hr : BS w A m bs) (hbytes : n + m ≤ 140737488355328) (hbase : base ≤ w.heap.size)
    (h : ∀ v' w', w'.ownsRow base e 1 v' (n + m) (xs ++ u8s bs) → w.grownBy w' v.ownBlock → (v'.ownBlock = v.ownBlock ∨ v'.ownBlock = some w.heap.size) → wpList P ops Q rest (a.put o.dst v') w') : wpList P ops Q (o :: rest) a w := by
  unfold wpList
  rw [if_pos hgd]
  exact .inl (wp_append_bs w s x t ho base e i ht hi hz hsize hby v n xs hs hown A m c bs hx hr hbytes hbase h)
end

/-- the cells of 'make([]byte, n)' -/
def zerosA (n : Nat) : Array Value := (List.replicate n (Value.int .u8 0)).toArray
theorem zerosA_size (n : Nat) : (zerosA n).size = n := by simp [zerosA]
theorem zerosA_list (n : Nat) : (zerosA n).toList = u8s (List.replicate n 0) := by simp [zerosA, u8s]
theorem run_make_bytes {P : Program} (t e : TypeId) (i : TypeInfo) (ht : P.underlying t = some (.slice e)) (hi : P.info? e = some i) (hz : i.zero = some (.int .u8 0)) (hsize : i.size = 1) (hby : i.bytes = 1)
    (n : Nat) (hn : n ≤ 281474976710656) (w : World) :
    (Instr.makeSlice t (.int .i64 (n : Int)) (.int .i64 (n : Int))).run P w = .ok (.slice (some ⟨w.heap.size, 0, none⟩) n n) (w.alloc (.cells (zerosA n) e)) := by
  have hr := run_make (P := P) w t e i (.int .u8 0) ht hi hz .i64 .i64 n n (by omega) (by omega) (by rw [hby]; omega) (by omega)
  rw [hr, hsize]
  simp only [Int.toNat_natCast, Nat.mul_one]
  have : madeCells (Value.int .u8 0).cells n = zerosA n := by
    apply Array.toList_inj.1
    rw [show (Value.int .u8 0).cells = #[Value.int .u8 0] from rfl, toList_madeCells_one]
    simp [zerosA]
  rw [this]
theorem zerosA_get (n i : Nat) (h : i < n) : (zerosA n)[i]? = some (u8 0) := by
  unfold zerosA
  rw [List.getElem?_toArray, List.getElem?_replicate, if_pos h]
  rfl
theorem zerosA_ends (k : Nat) (x : Value) : (((zerosA (k + 2)).setIfInBounds 0 x).setIfInBounds (k + 1) x).toList = x :: (List.replicate k (Value.int .u8 0) ++ [x]) := by
  unfold zerosA
  rw [Array.toList_setIfInBounds, Array.toList_setIfInBounds, List.replicate_succ, List.set_cons_zero, List.set_cons_succ, List.replicate_succ']
  congr 1
  rw [List.set_append_right _ _ (by simp)]
  simp
/-- the world behind 'make([]byte, n)', under one name -/
def mkB (e : TypeId) (n : Nat) (w : World) : World := w.alloc (.cells (zerosA n) e)
theorem mkB_size (e : TypeId) (n : Nat) (w : World) : (mkB e n w).heap.size = w.heap.size + 1 := by simp [mkB]
theorem mkB_below (e : TypeId) (n : Nat) (w : World) : Below w.heap.size w (mkB e n w) := (Below.refl _ _).alloc (Nat.le_refl _) _
theorem run_make_lit {P : Program} (t e : TypeId) (i : TypeInfo) (ht : P.underlying t = some (.slice e)) (hi : P.info? e = some i) (hz : i.zero = some (.int .u8 0)) (hsize : i.size = 1) (hby : i.bytes = 1)
    (n : Nat) (m : Int) (hm : m = (n : Int)) (hn : n ≤ 281474976710656) (w : World) :
    (Instr.makeSlice t (.int .i64 m) (.int .i64 m)).run P w = .ok (.slice (some ⟨w.heap.size, 0, none⟩) n n) (mkB e n w) := by
  subst hm
  exact run_make_bytes t e i ht hi hz hsize hby n hn w
/-- l, filled in up to i -/
def fillTo (l : List UInt8) (i : Nat) : List UInt8 := l.take i ++ List.replicate (l.length - i) 0
theorem fillTo_zero (l : List UInt8) : fillTo l 0 = List.replicate l.length 0 := by simp [fillTo]
theorem fillTo_all (l : List UInt8) : fillTo l l.length = l := by simp [fillTo]
theorem fillTo_length (l : List UInt8) (i : Nat) (h : i ≤ l.length) : (fillTo l i).length = l.length := by simp [fillTo]; omega
theorem fillTo_set (l : List UInt8) (i : Nat) (h : i < l.length) : (fillTo l i).set i (l.getD i 0) = fillTo l (i + 1) := by
  unfold fillTo
  rw [List.set_append_right _ _ (by simp; omega), List.length_take, Nat.min_eq_left (by omega), Nat.sub_self]
  obtain ⟨m, hm⟩ : ∃ m, l.length - i = m + 1 := ⟨l.length - i - 1, by omega⟩
  rw [hm, List.replicate_succ, List.set_cons_zero, List.take_succ_eq_append_getElem h, List.append_assoc]
  rw [List.getD_eq_getElem?_getD, List.getElem?_eq_getElem h, show l.length - (i + 1) = m by omega]
  rfl
theorem u8s_set (l : List UInt8) (i : Nat) (b : UInt8) : u8s (l.set i b) = (u8s l).set i (u8 b) := by simp [u8s, List.map_set]

/-- BLOCK g IS JUST THE CELLS cs, none of them frozen. -/
def Blk (w : World) (g : Nat) (t : TypeId) (cs : Array Value) : Prop := w.heap[g]? = some (.cells cs t (0, 0))
section
variable {w w' : World} {g : Nat} {t : TypeId} {cs : Array Value}
theorem Blk.lt (h : Blk w g t cs) : g < w.heap.size := by
  rcases Nat.lt_or_ge g w.heap.size with hlt | hge
  · exact hlt
  · unfold Blk at h; rw [Array.getElem?_eq_none hge] at h; cases h
theorem Blk.cell (h : Blk w g t cs) (i : Nat) : w.cell? ⟨g, i, none⟩ = cs[i]? := cell_of_row w g i cs t (0, 0) h
theorem Blk.free (h : Blk w g t cs) (i : Nat) : w.frozen? ⟨g, i, none⟩ = false := by
  unfold Blk at h
  simp [World.frozen?, h]
theorem Blk.new (w : World) (t : TypeId) (cs : Array Value) : Blk (w.alloc (.cells cs t)) w.heap.size t cs := heap_alloc_new w _
theorem Blk.keep (h : Blk w g t cs) (hk : w'.heap[g]? = w.heap[g]?) : Blk w' g t cs := hk.trans h
theorem Blk.alloc (h : Blk w g t cs) (o : Obj) : Blk (w.alloc o) g t cs := h.keep (Below.heap_alloc w o g h.lt)
theorem Blk.below {B : Nat} (h : Blk w g t cs) (hb : Below B w w') (hg : g < B) : Blk w' g t cs := h.keep (hb.block g hg)
theorem Blk.far (h : Blk w g t cs) {p : Addr} (hp : g ≠ p.block) (u : Value) : Blk (w.setCell p u) g t cs := h.keep (Below.heap_setCell w p u g hp)
theorem Blk.put (h : Blk w g t cs) (i : Nat) (u : Value) : Blk (w.setCell ⟨g, i, none⟩ u) g t (cs.setIfInBounds i u) := by
  unfold Blk at h ⊢
  simp [World.setCell, Array.getElem?_modify, h]
end

theorem own_of_blk {w : World} {g base n : Nat} {e : TypeId} {l : List Value} {bs : List UInt8} (h : w.heap[g]? = some (.cells l.toArray e (0, 0))) (hl : l = u8s bs) (hn : bs.length = n) (hb : base ≤ g) (hm : n ≤ maxLen) :
    w.ownsRow base e 1 (.slice (some ⟨g, 0, none⟩) n n) n (u8s bs) := by
  subst hl
  subst hn
  exact ⟨by rw [u8s_length, Nat.mul_one], .inr ⟨g, _, _, rfl, hb, h, Nat.le_refl _, hm, by simp [u8s_length], by rw [List.take_of_length_le (by simp [u8s_length])]⟩⟩

/-- WHAT A FUNCTION LEAVES THAT RETURNS BYTES OF ITS OWN. -/
def OwnB (e8 : TypeId) (w : World) (bs : List UInt8) (e : Ending) (w' : World) : Prop :=
  ∃ v, e = .returned v ∧ w'.ownsRow w.heap.size e8 1 v bs.length (u8s bs) ∧ Below w.heap.size w w'
end Go.Proofs.Ytlijfnekopjogaa.Mem
