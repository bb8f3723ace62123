/- RecRs: joined out of RecR1, RecR2, RecR3, RecR4, RecR5, RecR6, RecR7, RecR8, RecR9. -/
import Derived.Test.YtlijfnekopjogaaRecWs
import Derived.Deep.LoopGhost
import Derived.Test.YtlijfnekopjogaaRecMems
/- The coder reads: a number, a text, a flag, a value. -/
namespace Go.Proofs.Ytlijfnekopjogaa
open Go Go.RowKit Mem Rc
set_option maxRecDepth 100000
set_option linter.unusedVariables false
set_option linter.unusedSimpArgs false

/-- a coder that reads -/
abbrev cr (q : Nat) : Value := .agg #[.pointer none, .pointer (some ⟨q, 0, none⟩)]
/-- the world behind the coder's own variable -/
structure CrW (w : World) (q : Nat) (W : World) : Prop where
  eq : w.alloc (.cells #[.pointer none, .pointer (some ⟨q, 0, none⟩)] 73) = W
  below : Below w.heap.size w W
  c0 : W.drew.cell? ⟨w.heap.size, 0, none⟩ = some (.pointer none)
  c1 : W.drew.cell? ⟨w.heap.size, 1, none⟩ = some (.pointer (some ⟨q, 0, none⟩))
  size : W.heap.size = w.heap.size + 1
theorem crW (w : World) (q : Nat) : ∃ W, CrW w q W :=
  ⟨_, rfl, (Below.refl _ _).alloc (Nat.le_refl _) _, (Blk.new w 73 #[.pointer none, .pointer (some ⟨q, 0, none⟩)]).cell 0, (Blk.new w 73 #[.pointer none, .pointer (some ⟨q, 0, none⟩)]).cell 1, by simp⟩
/-- what a call leaves that reads into block b -/
def CrTo (w : World) (F : Nat → Prop) (q b : Nat) (t : TypeId) (cs : Array Value) (r : Sl.R) (e : Ending) (w' : World) : Prop :=
  e = .returned (.tuple #[]) ∧ RdAt w' q r F ∧ Blk w' b t cs ∧ Fr (fun k => k = q ∨ k = b) w w'
theorem CrTo.mono {w w1 w' : World} {F : Nat → Prop} {q b : Nat} {t : TypeId} {cs : Array Value} {r : Sl.R} {e : Ending} (hb : Below w.heap.size w w1) (h : CrTo w1 F q b t cs r e w') (hq : q < w.heap.size) (hbl : b < w.heap.size) : CrTo w F q b t cs r e w' :=
  ⟨h.1, h.2.1, h.2.2.1, (Fr.of_below hb _).trans h.2.2.2 (fun _ _ x => x)⟩
theorem CrTo.then_ {w w1 w' : World} {F : Nat → Prop} {q b : Nat} {t : TypeId} {cs : Array Value} {r : Sl.R} {e : Ending} (hf : Fr (fun k => k = q ∨ k = b) w w1) (h : CrTo w1 F q b t cs r e w') : CrTo w F q b t cs r e w' :=
  ⟨h.1, h.2.1, h.2.2.1, hf.trans h.2.2.2 (fun _ _ x => x)⟩
/-- a reader read, and a cell of block b set -/
theorem cr_set {w W w2 : World} {F : Nat → Prop} {q b i : Nat} {t : TypeId} {cs : Array Value} {r' : Sl.R} {v u : Value} {e : Ending} (hb : Below w.heap.size w W) (hbl : Blk w b t cs) (hr : RdTo W F q v r' e w2) (hF : F q) (hn : ¬ F b) :
    e = .returned v ∧ Blk w2 b t cs ∧ CrTo w F q b t (cs.setIfInBounds i u) r' (.returned (.tuple #[])) (w2.setCell ⟨b, i, none⟩ u) := by
  obtain ⟨h1, h2, h3⟩ := hr
  have hbq : b ≠ q := fun e => hn (by rw [e]; exact hF)
  have hB : Blk w2 b t cs := (hbl.below hb hbl.lt).keep (h3.block b (Nat.lt_of_lt_of_le hbl.lt hb.size) hbq)
  refine ⟨h1, hB, rfl, ?_, hB.put i u, ?_⟩
  · exact h2.keep (by rw [setCell_size']; exact Nat.le_refl _) (fun k hk => Below.heap_setCell w2 ⟨b, i, none⟩ u k (fun e => hn (by rw [← show k = b from e]; exact hk)))
  · exact ((Fr.of_below hb _).trans (h3.mono (fun k _ hk => .inl hk)) (fun _ _ x => x)).setCell _ _ (fun _ => .inr rfl)
set_option maxHeartbeats 4000000 in
theorem cr_num (q : Nat) (r : Sl.R) (F : Nat → Prop) (b i : Nat) (t : TypeId) (cs : Array Value) (w : World) (hr : RdAt w q r F) (hbl : Blk w b t cs) (hn : ¬ F b) (hi : i < cs.size) (hl : r.b.length ≤ 140737488351232) :
    Calls Try.prog 92 #[cr q, .pointer (some ⟨b, i, none⟩)] w (CrTo w F q b t (cs.setIfInBounds i (.int .i64 (nC.dec r).1)) (nC.dec r).2) := by
  obtain ⟨W, hW⟩ := crW w q
  have e := hW.eq
  have c0 : W.cell? ⟨w.heap.size, 0, none⟩ = some (.pointer none) := hW.c0
  have c1 : W.cell? ⟨w.heap.size, 1, none⟩ = some (.pointer (some ⟨q, 0, none⟩)) := hW.c1
  have HC := Lib.hid (rnum_any q r F 1099511627776 W (hr.below hW.below) (by decide) hl)
  have H := Lib.hid (And.intro hW.below (And.intro hbl (And.intro hr.self (And.intro hn hi))))
  clear hr hbl hn hi hl hW
  go_enter Try.func92, Try.ntmps92
  go_wp2_with fail
  refine HC.out.mono ?_
  intro e w2 h2
  obtain ⟨h3, h4, h5⟩ := cr_set (i := i) (u := .int .i64 (nC.dec r).1) H.out.1 H.out.2.1 h2 H.out.2.2.1 H.out.2.2.2.1
  subst h3
  obtain ⟨u, hu⟩ : ∃ u, w2.cell? ⟨b, i, none⟩ = some u := ⟨_, (h4.cell i).trans (Array.getElem?_eq_getElem H.out.2.2.2.2)⟩
  have hz := h4.free i
  have H5 := Lib.hid h5
  clear h2 h4 h5
  rw [show ((Sl.out r 0 (Sl.number r.b 1099511627776).1 : Nat) : Int) = (nC.dec r).1 from rfl]
  generalize (nC.dec r).1 = n at *
  go_wp2
  go_end0
  exact H5.out
set_option maxHeartbeats 4000000 in
theorem cr_text (q : Nat) (r : Sl.R) (F : Nat → Prop) (b i : Nat) (t : TypeId) (cs : Array Value) (w : World) (hr : RdAt w q r F) (hbl : Blk w b t cs) (hn : ¬ F b) (hi : i < cs.size) (hl : r.b.length ≤ 140737488351232) :
    Calls Try.prog 82 #[cr q, .pointer (some ⟨b, i, none⟩)] w (CrTo w F q b t (cs.setIfInBounds i (.string (tC.dec r).1)) (tC.dec r).2) := by
  obtain ⟨W, hW⟩ := crW w q
  have e := hW.eq
  have c0 : W.cell? ⟨w.heap.size, 0, none⟩ = some (.pointer none) := hW.c0
  have c1 : W.cell? ⟨w.heap.size, 1, none⟩ = some (.pointer (some ⟨q, 0, none⟩)) := hW.c1
  have HC := Lib.hid (show Calls Try.prog 102 #[.pointer (some ⟨q, 0, none⟩), .int .i64 32] W (RdTo W F q (.string (tC.dec r).1) (tC.dec r).2) from rtext_any q r F 32 W (hr.below hW.below) (by decide) hl)
  have H := Lib.hid (And.intro hW.below (And.intro hbl (And.intro hr.self (And.intro hn hi))))
  clear hr hbl hn hi hl hW
  go_enter Try.func82, Try.ntmps82
  go_wp2_with fail
  refine HC.out.mono ?_
  intro e w2 h2
  obtain ⟨h3, h4, h5⟩ := cr_set (i := i) (u := .string (tC.dec r).1) H.out.1 H.out.2.1 h2 H.out.2.2.1 H.out.2.2.2.1
  subst h3
  obtain ⟨u, hu⟩ : ∃ u, w2.cell? ⟨b, i, none⟩ = some u := ⟨_, (h4.cell i).trans (Array.getElem?_eq_getElem H.out.2.2.2.2)⟩
  have hz := h4.free i
  have H5 := Lib.hid h5
  clear h2 h4 h5
  generalize (tC.dec r).1 = n at *
  go_wp2
  go_end0
  exact H5.out
set_option maxHeartbeats 4000000 in
theorem cr_flag (q : Nat) (r : Sl.R) (F : Nat → Prop) (b i : Nat) (t : TypeId) (cs : Array Value) (w : World) (hr : RdAt w q r F) (hbl : Blk w b t cs) (hn : ¬ F b) (hi : i < cs.size) (hl : r.b.length ≤ 140737488351232) :
    Calls Try.prog 103 #[cr q, .pointer (some ⟨b, i, none⟩)] w (CrTo w F q b t (cs.setIfInBounds i (.bool (Cd.flag r))) (Cd.flagR r)) := by
  obtain ⟨W, hW⟩ := crW w q
  have e := hW.eq
  have c0 : W.cell? ⟨w.heap.size, 0, none⟩ = some (.pointer none) := hW.c0
  have c1 : W.cell? ⟨w.heap.size, 1, none⟩ = some (.pointer (some ⟨q, 0, none⟩)) := hW.c1
  have HC := Lib.hid (show Calls Try.prog 110 #[.pointer (some ⟨q, 0, none⟩)] W (RdTo W F q (.bool (Cd.flag r)) (Cd.flagR r)) from rflag_any q r F W (hr.below hW.below) hl)
  have H := Lib.hid (And.intro hW.below (And.intro hbl (And.intro hr.self (And.intro hn hi))))
  clear hr hbl hn hi hl hW
  go_enter Try.func103, Try.ntmps103
  go_wp2_with fail
  refine HC.out.mono ?_
  intro e w2 h2
  obtain ⟨h3, h4, h5⟩ := cr_set (i := i) (u := .bool (Cd.flag r)) H.out.1 H.out.2.1 h2 H.out.2.2.1 H.out.2.2.2.1
  subst h3
  obtain ⟨u, hu⟩ : ∃ u, w2.cell? ⟨b, i, none⟩ = some u := ⟨_, (h4.cell i).trans (Array.getElem?_eq_getElem H.out.2.2.2.2)⟩
  have hz := h4.free i
  have H5 := Lib.hid h5
  clear h2 h4 h5
  generalize Cd.flag r = n at *
  go_wp2
  go_end0
  exact H5.out
theorem set_same {cs : Array Value} {i : Nat} {v : Value} (h : cs[i]? = some v) : cs.setIfInBounds i v = cs := by
  apply Array.ext
  · simp
  · intro j h1 h2
    rw [Array.getElem_setIfInBounds]
    split
    · rename_i e
      subst e
      rw [Array.getElem?_eq_getElem h2] at h
      exact (Option.some.inj h).symm
    · rfl
theorem v_true {r : Sl.R} (h : Cd.flag r = true) : vC.dec r = (⟨true, (tC.dec (Cd.flagR r)).1⟩, (tC.dec (Cd.flagR r)).2) := by
  show ((⟨(Cd.optD tC ⟨#[]⟩ r).1.1, (Cd.optD tC ⟨#[]⟩ r).1.2⟩ : V), (Cd.optD tC ⟨#[]⟩ r).2) = _
  rw [Cd.optD_true h]
theorem v_false {r : Sl.R} (h : Cd.flag r = false) : vC.dec r = (⟨false, ⟨#[]⟩⟩, Cd.flagR r) := by
  show ((⟨(Cd.optD tC ⟨#[]⟩ r).1.1, (Cd.optD tC ⟨#[]⟩ r).1.2⟩ : V), (Cd.optD tC ⟨#[]⟩ r).2) = _
  rw [Cd.optD_false h]
set_option maxHeartbeats 4000000 in
theorem cr_value (q : Nat) (r : Sl.R) (F : Nat → Prop) (b i : Nat) (t : TypeId) (cs : Array Value) (w : World) (hr : RdAt w q r F) (hbl : Blk w b t cs) (hn : ¬ F b) (hi : i < cs.size) (hz : cs[i + 1]? = some (.string ⟨#[]⟩)) (hl : r.b.length ≤ 140737488351232) :
    Calls Try.prog 83 #[cr q, .pointer (some ⟨b, i, none⟩)] w (CrTo w F q b t ((cs.setIfInBounds i (.bool (vC.dec r).1.has)).setIfInBounds (i + 1) (.string (vC.dec r).1.data)) (vC.dec r).2) := by
  obtain ⟨W, hW⟩ := crW w q
  have e := hW.eq
  have c0 := hW.c0
  have c1 := hW.c1
  have hb0 := hbl.below hW.below hbl.lt
  have hFw : ¬ (w.heap.size = q ∨ w.heap.size = b) := fun h => by
    rcases h with h | h
    · have := hr.bound q hr.self; omega
    · have := hbl.lt; omega
  have HC := Lib.hid (cr_flag q r F b i t cs W.drew (hr.below hW.below.drew) hb0 hn hi hl)
  have H := Lib.hid (And.intro hW.below.drew (And.intro hn (And.intro hi (And.intro hz (And.intro hl (And.intro hFw (And.intro (hr.bound q hr.self) hbl.lt)))))))
  have HE := Lib.hid (And.intro c0 c1)
  clear hr hbl hn hi hz hl hW hb0 hFw
  go_enter Try.func83, Try.ntmps83
  go_wp2_with fail
  go_still_tail 4, (by kernel_rfl)
  go_wp2_with fail
  refine HC.out.mono ?_
  rintro e w2 ⟨rfl, h1, h2, h3⟩
  have d0 : w2.cell? ⟨b, i, none⟩ = some (.bool (Cd.flag r)) := (h2.cell i).trans (by rw [Array.getElem?_setIfInBounds_self, if_pos H.out.2.2.1])
  have a0 : w2.drew.cell? ⟨w.heap.size, 0, none⟩ = some (.pointer none) := h3.cell H.out.2.2.2.2.2.1 HE.out.1
  have a1 : w2.drew.cell? ⟨w.heap.size, 1, none⟩ = some (.pointer (some ⟨q, 0, none⟩)) := h3.cell H.out.2.2.2.2.2.1 HE.out.2
  cases hv : Cd.flag r with
  | false =>
    have hcs : (cs.setIfInBounds i (.bool false)).setIfInBounds (i + 1) (.string ⟨#[]⟩) = cs.setIfInBounds i (.bool false) := set_same (by
      rw [Array.getElem?_setIfInBounds_ne (by omega)]; exact H.out.2.2.2.1)
    rw [hv] at d0 h2
    have HV := Lib.hid (And.intro (v_false hv) hcs)
    have H2 := Lib.hid (show CrTo W.drew F q b t (cs.setIfInBounds i (.bool false)) (Cd.flagR r) (.returned (.tuple #[])) w2 from ⟨rfl, h1, h2, h3⟩)
    clear h1 h2 h3 hcs hv
    go_wp2
    go_end0
    rw [HV.out.1]
    show CrTo w F q b t ((cs.setIfInBounds i (.bool false)).setIfInBounds (i + 1) (.string ⟨#[]⟩)) (Cd.flagR r) _ _
    rw [HV.out.2]
    exact H2.out.mono H.out.1 H.out.2.2.2.2.2.2.1 H.out.2.2.2.2.2.2.2
  | true =>
    rw [hv] at d0 h2
    have HV := Lib.hid (v_true hv)
    have HK := Lib.hid (cr_text q (Cd.flagR r) F b (i + 1) t (cs.setIfInBounds i (.bool true)) w2.drew (h1.below (Below.refl _ _).drew) h2 H.out.2.1 (by
      rw [Array.size_setIfInBounds]
      rcases Nat.lt_or_ge (i + 1) cs.size with g | g
      · exact g
      · have g2 := H.out.2.2.2.1; rw [Array.getElem?_eq_none g] at g2; cases g2) (Nat.le_trans (Cd.flagC.le r) H.out.2.2.2.2.1))
    have H2 := Lib.hid h3
    clear h1 h2 h3 hv
    go_wp2_with fail
    go_still_tail 4, (by kernel_rfl)
    go_wp2_with fail
    refine HK.out.mono ?_
    intro e w3 h4
    have h5 := h4.1
    have H4 := Lib.hid h4
    clear h4
    subst h5
    go_wp2
    go_end0
    rw [HV.out]
    exact (H4.out.then_ (H2.out.drew 1)).mono H.out.1 H.out.2.2.2.2.2.2.1 H.out.2.2.2.2.2.2.2
end Go.Proofs.Ytlijfnekopjogaa

/- The coder reads: numbers, one behind the other; rows of what is read. -/
namespace Go.Proofs.Ytlijfnekopjogaa
open Go Go.RowKit Mem Rc
set_option maxRecDepth 100000
set_option linter.unusedVariables false
set_option linter.unusedSimpArgs false

theorem text_size (r : Sl.R) : (tC.dec r).1.size ≤ 32 := by
  show (Cd.text r 32).toArray.size ≤ 32
  rw [List.size_toArray]
  unfold Cd.text Sl.out
  split
  · simp
  · have h : ∀ x, Sl.textF r.b 32 = x → x.1.length ≤ 32 := by
      rintro ⟨s, k, e⟩ hx
      by_cases h0 : e = 0
      · subst h0
        have := (Sl.textF_back r.b 32 s k hx).2.2
        show s.length ≤ 32
        omega
      · unfold Sl.textF at hx
        split at hx
        · injection hx with h1 h2
          rw [← h1]; simp
        · split at hx
          · injection hx with h1 h2
            rw [← h1]; simp
          · injection hx with h1 h2
            injection h2 with h2 h3
            exact absurd h3.symm h0
    exact h _ rfl
theorem num_nOk (r : Sl.R) : nOk (nC.dec r).1 := by
  have h := Cd.one_bound r 1099511627776 (by omega) (by omega)
  have h1 : (nC.dec r).1 = Cd.one r 1099511627776 := rfl
  rw [h1]
  exact ⟨by omega, by omega⟩
/-- the numbers that are read, put to their places -/
def numsTo (cs : Array Value) (ps : List Nat) (r : Sl.R) : Nat → Array Value
  | 0 => cs
  | k + 1 => (numsTo cs ps r k).setIfInBounds (ps.getD k 0) (.int .i64 (nC.dec (Cd.many nC r k).2).1)
theorem numsTo_size (cs : Array Value) (ps : List Nat) (r : Sl.R) : ∀ k, (numsTo cs ps r k).size = cs.size
  | 0 => rfl
  | k + 1 => by rw [numsTo, Array.size_setIfInBounds, numsTo_size cs ps r k]
structure RnH (w W : World) (F : Nat → Prop) (q g b : Nat) (ps : List Nat) (m : Nat) (cs : Array Value) (r : Sl.R) : Prop where
  hW : CrW w q W
  hq : q < w.heap.size
  hb : b < w.heap.size
  hn : ¬ F b
  hg : ¬ (g = q ∨ g = b)
  hFw : ¬ (w.heap.size = q ∨ w.heap.size = b)
  ptr : ∀ k, k < m → w.cell? ⟨g, k, none⟩ = some (.pointer (some ⟨b, ps.getD k 0, none⟩))
  lt : ∀ k, k < m → ps.getD k 0 < cs.size
  hl : r.b.length ≤ 140737488351232
  hm : m ≤ 100
set_option maxHeartbeats 4000000 in
theorem cr_nums (q : Nat) (r : Sl.R) (F : Nat → Prop) (g b c : Nat) (ps : List Nat) (m : Nat) (t : TypeId) (cs : Array Value) (w : World) (hr : RdAt w q r F) (hbl : Blk w b t cs) (hn : ¬ F b) (hg : ¬ (g = q ∨ g = b))
    (hp : ∀ k, k < m → w.cell? ⟨g, k, none⟩ = some (.pointer (some ⟨b, ps.getD k 0, none⟩))) (hlt : ∀ k, k < m → ps.getD k 0 < cs.size) (hl : r.b.length ≤ 140737488351232) (hm : m ≤ 100) :
    Calls Try.prog 81 #[cr q, .slice (some ⟨g, 0, none⟩) m c] w (CrTo w F q b t (numsTo cs ps r m) (Cd.many nC r m).2) := by
  obtain ⟨W, hW⟩ := crW w q
  have e := hW.eq
  have H := Lib.hid (RnH.mk hW (hr.bound q hr.self) hbl.lt hn hg (fun h => by
    rcases h with h | h
    · have := hr.bound q hr.self; omega
    · have := hbl.lt; omega) hp hlt hl hm)
  have H0 := Lib.hid (show CrTo W F q b t (numsTo cs ps r 0) (Cd.many nC r 0).2 (.returned (.tuple #[])) W from ⟨rfl, hr.below hW.below, hbl.below hW.below hbl.lt, Fr.refl _ _⟩)
  clear hW hr hbl hn hg hp hlt hl hm
  go_enter Try.func81, Try.ntmps81
  go_wp2_with fail
  go_loopg [5, 8] m (fun gk _ i wr => ∃ k : Nat, k ≤ m ∧ gk = m - k ∧ i = .int .i64 k ∧ CrTo W F q b t (numsTo cs ps r k) (Cd.many nC r k).2 (.returned (.tuple #[])) wr)
  case atStart => exact ⟨0, by omega, by omega, rfl, H0.out⟩
  case round =>
    obtain ⟨k, hk, rfl, rfl, hst⟩ := hrel
    clear H0
    by_cases hlt : k < m
    · obtain ⟨_, h1, h2, h3⟩ := hst
      have c0 := h3.cell H.out.hFw H.out.hW.c0
      have c1 := h3.cell H.out.hFw H.out.hW.c1
      have c2 := h3.cell H.out.hg (cell_below H.out.hW.below (H.out.ptr k hlt))
      have hpl := H.out.lt k hlt
      obtain ⟨pk, hpk⟩ : ∃ pk, ps.getD k 0 = pk := ⟨_, rfl⟩
      rw [hpk] at c2 hpl
      have HN := Lib.hid (cr_num q _ F b pk t _ wr h1 h2 H.out.hn (by rw [numsTo_size]; exact hpl) (Nat.le_trans (Cd.many_le nC r k) H.out.hl))
      have H2 := Lib.hid (And.intro h3 hpk)
      clear h1 h2 h3 hpk hpl
      go_wp2_with fail
      refine HN.out.mono ?_
      intro e w2 h4
      have h5 := h4.1
      have H4 := Lib.hid h4
      clear h4
      subst h5
      go_wp2
      go_roundg (m - (k + 1))
      case rel =>
        have hmb : m ≤ 100 := H.out.hm
        refine ⟨k + 1, by omega, by omega, congrArg (Value.int .i64) (by unfold wrap64; omega), ?_⟩
        rw [numsTo, H2.out.2]
        exact H4.out.then_ H2.out.1
      case measure => omega
    · obtain rfl : k = m := by omega
      have H2 := Lib.hid hst
      clear hst
      go_wp2
      go_end0
      exact H2.out.mono H.out.hW.below H.out.hq H.out.hb
/-! what keeps -/
theorem IS.fr {w w' : World} {A : Option Addr} {n : Nat} {ks : List Int} {G : Nat → Prop} (h : IS w A n ks) (hf : Fr G w w') (ha : ∀ a, A = some a → ¬ G a.block) : IS w' A n ks := by
  refine ⟨h.1, fun hn => ?_⟩
  obtain ⟨b, off, rfl, hb, hcell⟩ := h.2 hn
  exact ⟨b, off, rfl, Nat.lt_of_lt_of_le hb hf.size, fun j hj => (World.cell?_of_block (hf.block b hb (ha _ rfl))).trans (hcell j hj)⟩
theorem ST.fr {α : Type} {K : Kind_ α} {w w' : World} {A : Option Addr} {n : Nat} {l : List α} {G : Nat → Prop} (h : ST K w A n l) (hf : Fr G w w') (ha : ∀ a, A = some a → ¬ G a.block) (hok : ∀ x ∈ l, K.ok w' x) : ST K w' A n l := by
  refine ⟨h.len, hok, fun hn => ?_⟩
  obtain ⟨b, off, rfl, hb, hc⟩ := h.mem hn
  exact ⟨b, off, rfl, Nat.lt_of_lt_of_le hb hf.size, fun i hi j hj => (World.cell?_of_block (hf.block b hb (ha _ rfl))).trans (hc i hi j hj)⟩
/-! rows that are filled -/
def setMany (cs : Array Value) (i : Nat) : List Value → Array Value
  | [] => cs
  | v :: vs => setMany (cs.setIfInBounds i v) (i + 1) vs
theorem setMany_mid : ∀ (d b a c : List Value), d.length = b.length → setMany (a ++ b ++ c).toArray a.length d = (a ++ d ++ c).toArray
  | [], b, a, c, h => by
    have : b = [] := List.eq_nil_of_length_eq_zero h.symm
    subst this
    rfl
  | v :: d, [], a, c, h => by simp at h
  | v :: d, u :: b, a, c, h => by
    rw [setMany]
    have e : (a ++ u :: b ++ c).toArray.setIfInBounds a.length v = ((a ++ [v]) ++ b ++ c).toArray := by
      rw [List.setIfInBounds_toArray]
      congr 1
      simp [List.set_append]
    rw [e, show a.length + 1 = (a ++ [v]).length by simp, setMany_mid d b (a ++ [v]) c (by simpa using h)]
    simp
section
variable {α : Type} (K : Kind_ α)
/-- the cells of a row: lk that is read, m that is not -/
def rowA (lk : List α) (m : Nat) : Array Value := (rowOf K (lk ++ List.replicate m K.zero)).toArray
variable {K} (hk : ∀ x, (K.cells x).length = K.k)
include hk
theorem rowA_size (lk : List α) (m : Nat) : (rowA K lk m).size = (lk.length + m) * K.k := by
  unfold rowA
  rw [List.size_toArray, rowOf_length hk, List.length_append, List.length_replicate]
theorem rowA_next (lk : List α) (m : Nat) (x : α) : setMany (rowA K lk (m + 1)) (lk.length * K.k) (K.cells x) = rowA K (lk ++ [x]) m := by
  unfold rowA
  rw [List.replicate_succ, rowOf_append, show K.zero :: List.replicate m K.zero = [K.zero] ++ List.replicate m K.zero from rfl, rowOf_append, rowOf_one, ← List.append_assoc, ← rowOf_length hk lk,
    setMany_mid (K.cells x) (K.cells K.zero) _ _ (by rw [hk, hk]), rowOf_append, rowOf_append, rowOf_one]
theorem rowA_zero (lk : List α) (m : Nat) (j : Nat) (hj : j < K.k) : (rowA K lk (m + 1))[lk.length * K.k + j]? = (K.cells K.zero)[j]? := by
  unfold rowA
  rw [List.getElem?_toArray, rowOf_get hk _ _ _ (by simp) hj]
  congr 2
  simp [List.getD_eq_getElem?_getD]
theorem rowA_made (hp : 0 < K.k) (z : Array Value) (hz : z.toList = K.cells K.zero) (N : Nat) : madeCells z (N * K.k) = rowA K [] N := by
  have hzs : z.size = K.k := by rw [← Array.length_toList, hz, hk]
  apply Array.ext
  · rw [size_madeCells, rowA_size hk]; simp
  · intro j h1 h2
    rw [size_madeCells] at h1
    have h3 : (madeCells z (N * K.k))[j]? = (rowA K [] N)[j]? := by
      have hd : j / K.k < N := (Nat.div_lt_iff_lt_mul hp).2 h1
      have hm : j % K.k < K.k := Nat.mod_lt _ hp
      have hj : j = j / K.k * K.k + j % K.k := by rw [Nat.mul_comm]; exact (Nat.div_add_mod j K.k).symm
      have hr : (rowA K [] N)[j]? = (K.cells K.zero)[j % K.k]? := by
        unfold rowA
        rw [List.getElem?_toArray]
        conv => lhs; rw [hj]
        rw [rowOf_get hk _ _ _ (by simpa using hd) hm]
        congr 2
        simp [List.getD_eq_getElem?_getD, List.getElem?_replicate, hd]
      rw [hr, ← hz]
      unfold madeCells
      rw [hzs]
      have h4 : j % K.k < z.toList.length := by rw [Array.length_toList, hzs]; exact hm
      rw [List.getElem?_eq_getElem h4]
      simp [h1]
      rw [getElem!_pos z (j % K.k) (by rw [hzs]; exact hm)]
    rw [Array.getElem?_eq_getElem (by rw [size_madeCells]; exact h1), Array.getElem?_eq_getElem h2] at h3
    exact Option.some.inj h3
theorem ST.of_rowA {w : World} {g : Nat} {e : TypeId} {l : List α} (hb : Blk w g e (rowA K l 0)) (hok : ∀ x ∈ l, K.ok w x) : ST K w (some ⟨g, 0, none⟩) l.length l := by
  refine ⟨rfl, hok, fun hn => ⟨g, 0, rfl, hb.lt, fun i hi j hj => ?_⟩⟩
  rw [Nat.zero_add, hb.cell]
  unfold rowA
  rw [List.replicate_zero, List.append_nil, List.getElem?_toArray, rowOf_get hk _ _ _ hi hj]
end
end Go.Proofs.Ytlijfnekopjogaa

/- The coder reads: lists of numbers (printed by gen_er.py). -/
namespace Go.Proofs.Ytlijfnekopjogaa
open Go Go.RowKit Mem Rc
set_option maxRecDepth 100000
set_option linter.unusedVariables false
set_option linter.unusedSimpArgs false

def intK : Kind_ Int where
  zero := 0
  k := 1
  cells := fun x => [.int .i64 x]
  ok := fun _ _ => True
  keep := fun h _ => h
/-- the coder that a closure holds, that reads -/
structure CoR (w : World) (cb q : Nat) : Prop where
  c0 : w.cell? ⟨cb, 0, none⟩ = some (.pointer none)
  c1 : w.cell? ⟨cb, 1, none⟩ = some (.pointer (some ⟨q, 0, none⟩))
theorem CoR.fr {w w' : World} {cb q : Nat} {F : Nat → Prop} (h : CoR w cb q) (hf : Fr F w w') (hn : ¬ F cb) : CoR w' cb q := ⟨hf.cell hn h.c0, hf.cell hn h.c1⟩
theorem CoR.below {w w' : World} {cb q : Nat} (h : CoR w cb q) (hf : Below w.heap.size w w') : CoR w' cb q := ⟨cell_below hf h.c0, cell_below hf h.c1⟩
theorem CoR.base {w w' : World} {cb q : Nat} (h : CoR w' cb q) (hf : Below w.heap.size w w') (hl : cb < w.heap.size) : CoR w cb q := ⟨(World.cell?_of_block (hf.block cb hl)).symm.trans h.c0, (World.cell?_of_block (hf.block cb hl)).symm.trans h.c1⟩
/-- what a call leaves that reads a list into a cell of block b -/
def ErTo {α β : Type} (K : Kind_ α) (f : α → β) (C : Cd.Cod (List β)) (Ap : Nat → α → Prop) (w : World) (F : Nat → Prop) (q b i : Nat) (t : TypeId) (cs : Array Value) (r : Sl.R) (e : Ending) (w' : World) : Prop :=
  ∃ (A : Option Addr) (c : Nat) (l : List α), e = .returned (.tuple #[]) ∧ CrTo w F q b t (cs.setIfInBounds i (.slice A l.length c)) (C.dec r).2 e w' ∧ ST K w' A l.length l ∧ l.map f = (C.dec r).1 ∧ (l.length ≤ c ∧ c ≤ 9223372036854775807) ∧ (∀ a, A = some a → w.heap.size ≤ a.block) ∧ ∀ x ∈ l, Ap w.heap.size x
theorem wpList_make_row {P : Program} (w : World) {ops : Array Oper} {rest : List Oper} {o : Oper} {a : Act} {Q : Exit → Act → World → Prop}
    (hg : o.guard = none) (l c : Operand) (t : TypeId) (hop : o.op = Op.makeSlice t l c) (e : TypeId) (i : TypeInfo) (z : Value) (h1 : P.underlying t = some (.slice e)) (h2 : P.info? e = some i) (h3 : i.zero = some z)
    (N : Nat) (hl : a.eval l = .int .i64 (N : Int)) (hc : a.eval c = .int .i64 (N : Int)) (Z : Array Value) (hZ : madeCells z.cells (N * i.size) = Z) (b2 : i.bytes * N ≤ 281474976710656) (b3 : N ≤ maxLen)
    (h : wpList P ops Q rest (a.put o.dst (.slice (some ⟨w.heap.size, 0, none⟩) N N)) (w.alloc (.cells Z e))) : wpList P ops Q (o :: rest) a w := by
  refine wpList_plain hg fun K hK' => ?_
  have h63 : (N : Int) ≤ 9223372036854775807 := by
    have h := b3
    simp [maxLen] at h
    omega
  have hb' : (i.bytes : Int) * (N : Int) ≤ 281474976710656 := by
    have h : ((i.bytes * N : Nat) : Int) ≤ 281474976710656 := by omega
    rwa [Int.natCast_mul] at h
  have hr := run_make (P := P) w t e i z h1 h2 h3 .i64 .i64 N N (by omega) (Int.le_refl _) hb' h63
  simp only [Int.toNat_natCast] at hr
  rw [hZ] at hr
  unfold Oper.wp
  simp [execOp, hop, hl, hc, hr, Result.andThen]
  exact hK' _ _ h
theorem einfo_int : (Try.prog.info? 3).map (fun i => (i.zero, i.size, i.bytes)) = some (some (.int .i64 0), 1, 8) := by kernel_rfl
theorem einfo_lock : (Try.prog.info? 50).map (fun i => (i.zero, i.size, i.bytes)) = some (some (.agg #[.string ⟨#[]⟩, .bool false]), 2, 24) := by kernel_rfl
theorem einfo_dirty : (Try.prog.info? 92).map (fun i => (i.zero, i.size, i.bytes)) = some (some (.agg #[.int .i64 0, .int .i64 0]), 2, 16) := by kernel_rfl
theorem einfo_deed : (Try.prog.info? 54).map (fun i => (i.zero, i.size, i.bytes)) = some (some (.agg #[.int .i64 0, .slice none 0 0]), 2, 32) := by kernel_rfl
theorem einfo_row : (Try.prog.info? 52).map (fun i => (i.zero, i.size, i.bytes)) = some (some (.agg #[.int .i64 0, .int .i64 0, .int .i64 0, .int .i64 0, .int .i64 0, .int .i64 0, .slice none 0 0, .slice none 0 0]), 8, 96) := by kernel_rfl
structure Erint (w W : World) (F : Nat → Prop) (q b i : Nat) (t : TypeId) (cs : Array Value) (r : Sl.R) (A0 : Option Addr) (n0 c0 : Nat) : Prop where
  hW : CrW w q W
  hq : q < w.heap.size
  hb : b < w.heap.size
  hn : ¬ F b
  bound : ∀ k, F k → k < w.heap.size
  self : F q
  hFw : ¬ (w.heap.size = q ∨ w.heap.size = b)
  hbl : Blk w b t cs
  hi : cs[i]? = some (.slice A0 n0 c0)
  hl : r.b.length ≤ 140737488351232
set_option maxHeartbeats 8000000 in
theorem er_int (q : Nat) (r : Sl.R) (F : Nat → Prop) (b i : Nat) (t : TypeId) (cs : Array Value) (A0 : Option Addr) (n0 c0 : Nat) (w : World) (hr : RdAt w q r F) (hbl : Blk w b t cs) (hn : ¬ F b) (hi : cs[i]? = some (.slice A0 n0 c0)) (hl : r.b.length ≤ 140737488351232) :
    Calls Try.prog 104 #[cr q, .pointer (some ⟨b, i, none⟩), .func (.func 92) #[cr q] #[]] w (ErTo intK id iC (fun _ _ => True) w F q b i t cs r) := by
  obtain ⟨W, hW⟩ := crW w q
  have e := hW.eq
  have z0 : W.cell? ⟨w.heap.size, 0, none⟩ = some (.pointer none) := hW.c0
  have z1 : W.cell? ⟨w.heap.size, 1, none⟩ = some (.pointer (some ⟨q, 0, none⟩)) := hW.c1
  have ci : W.cell? ⟨b, i, none⟩ = some (.slice A0 n0 c0) := ((hbl.below hW.below hbl.lt).cell i).trans hi
  have HC := Lib.hid (show Calls Try.prog 44 #[.pointer (some ⟨q, 0, none⟩), .int .i64 256] W (RdTo W F q (.int .i64 (Cd.one r 256)) (Cd.next r 256)) from rnum_any q r F 256 W (hr.below hW.below) (by decide) hl)
  have H := Lib.hid (Erint.mk hW (hr.bound q hr.self) hbl.lt hn hr.bound hr.self (fun h => by
    rcases h with h | h
    · have := hr.bound q hr.self; omega
    · have := hbl.lt; omega) hbl hi hl)
  have hcf := enters Try.func92 (by decide) rfl
  have hN := Cd.one_bound r 256 (by omega) (by omega)
  obtain ⟨N, hNe⟩ := Int.eq_ofNat_of_zero_le hN.1
  have HN := Lib.hid (And.intro hNe (show N ≤ 256 by rw [hNe] at hN; omega))
  rw [hNe] at HC
  clear hr hbl hn hi hl hW hN hNe
  go_enter Try.func104, Try.ntmps104
  go_wp2_with fail
  refine HC.out.mono ?_
  intro e w2 h2
  obtain ⟨h3, h4, h5⟩ := cr_set (i := i) (u := .slice none 0 0) H.out.hW.below H.out.hbl h2 H.out.self H.out.hn
  subst h3
  have hu : w2.cell? ⟨b, i, none⟩ = some (.slice A0 n0 c0) := (h4.cell i).trans H.out.hi
  have hz := h4.free i
  obtain ⟨w3, hw3⟩ : ∃ w3, w2.setCell ⟨b, i, none⟩ (.slice none 0 0) = w3 := ⟨_, rfl⟩
  rw [hw3] at h5
  have H5 := Lib.hid h5
  obtain ⟨G, hG⟩ : ∃ G, w3.heap.size = G := ⟨_, rfl⟩
  have hG2 : w2.heap.size = G := by rw [← hG, ← hw3, setCell_size']
  clear h2 h4 h5
  rcases Nat.eq_zero_or_pos N with rfl | hpos
  · have hd : decide ((0 : Int) < ((0 : Nat) : Int)) = false := by decide
    go_wp2_with fail
    go_loopg [7, 31] 0 (fun gk _ i wr => gk = 0 ∧ i = .int .i64 0 ∧ wr = w3)
    case atStart => exact ⟨rfl, rfl, rfl⟩
    case round =>
      obtain ⟨rfl, rfl, rfl⟩ := hrel
      go_wp2
      go_end0
      have hdec : iC.dec r = ([], Cd.next r 256) := by
        show Cd.many nC (Cd.next r 256) (Cd.one r 256).toNat = _
        rw [HN.out.1]
        rfl
      refine ⟨none, 0, [], rfl, by rw [hdec]; exact H5.out, ⟨rfl, fun x hx => absurd hx (by simp), fun h => absurd h (by simp)⟩, by rw [hdec]; rfl, ⟨Nat.le_refl _, Nat.zero_le _⟩, fun a ha => (by cases ha), fun x hx => absurd hx (by simp)⟩
  · have hd : decide ((0 : Int) < (N : Int)) = true := decide_eq_true (by omega)
    have hkk : ∀ x, (intK.cells x).length = intK.k := fun _ => rfl
    have hmade : madeCells #[.int .i64 0] (N * 1) = rowA intK [] N := rowA_made hkk (by decide) _ rfl N
    obtain ⟨i0, hi0, hz0, hz1, hz2⟩ := info_parts einfo_int
    have hb4 : Blk w3 b t (cs.setIfInBounds i (.slice none 0 0)) := H5.out.2.2.1
    have hisz : i < cs.size := by
      rcases Nat.lt_or_ge i cs.size with g | g
      · exact g
      · have g2 := H.out.hi; rw [Array.getElem?_eq_none g] at g2; cases g2
    have hb5 : Blk (w3.alloc (.cells (rowA intK [] N) 3)) b t (cs.setIfInBounds i (.slice none 0 0)) := hb4.alloc _
    have hu5 : (w3.alloc (.cells (rowA intK [] N) 3)).cell? ⟨b, i, none⟩ = some (.slice none 0 0) := (hb5.cell i).trans (by rw [Array.getElem?_setIfInBounds_self, if_pos hisz])
    have hz5 := hb5.free i
    have hnb : b ≠ G := by rw [← hG]; exact Nat.ne_of_lt hb4.lt
    obtain ⟨w5, hw5⟩ : ∃ w5, (w3.alloc (.cells (rowA intK [] N) 3)).setCell ⟨b, i, none⟩ (.slice (some ⟨G, 0, none⟩) N N) = w5 := ⟨_, rfl⟩
    have hBb : Blk w5 b t (cs.setIfInBounds i (.slice (some ⟨G, 0, none⟩) N N)) := by
      rw [← hw5]
      have := hb5.put i (.slice (some ⟨G, 0, none⟩) N N)
      rwa [Array.setIfInBounds_setIfInBounds] at this
    have hBn : Blk (w3.alloc (.cells (rowA intK [] N) 3)) G 3 (rowA intK [] N) := by rw [← hG]; exact Blk.new w3 3 (rowA intK [] N)
    have hBg : Blk w5 G 3 (rowA intK [] N) := by rw [← hw5]; exact hBn.far (p := ⟨b, i, none⟩) (fun h => hnb h.symm) _
    have hF5 : Fr (fun k => k = q ∨ k = b) w w5 := by rw [← hw5]; exact (H5.out.2.2.2.alloc _).setCell _ _ (fun _ => .inr rfl)
    have hs5 : w5.heap.size = G + 1 := by rw [← hw5, setCell_size', ← hG]; simp
    have hR5 : RdAt w5 q (Cd.next r 256) F := by
      rw [← hw5]
      refine (H5.out.2.1.below ((Below.refl _ _).alloc (Nat.le_refl _) _)).keep (by rw [setCell_size']; exact Nat.le_refl _) (fun k hk => Below.heap_setCell _ ⟨b, i, none⟩ _ k (fun e => H.out.hn (by rw [← show k = b from e]; exact hk)))
    have hle3 : w.heap.size ≤ G := by rw [← hG]; exact H5.out.2.2.2.size
    have HX := Lib.hid (And.intro hBb (And.intro hF5 (And.intro hs5 (And.intro hnb (And.intro hle3 hisz)))))
    have H0 := Lib.hid (show CrTo w5 F q G 3 (rowA intK [] N) (Cd.many nC (Cd.next r 256) 0).2 (.returned (.tuple #[])) w5 from ⟨rfl, hR5, hBg, Fr.refl _ _⟩)
    have HI := Lib.hid (And.intro hi0 (And.intro hz0 (And.intro hz1 hz2)))
    have HM := Lib.hid hmade
    clear hb4 hb5 hBb hBg hBn hF5 hR5 hi0 hz0 hz1 hz2 hmade hnb hs5 hle3
    go_wp2_with (at_make; refine wpList_make_row _ rfl _ _ 24 rfl 3 i0 _ rfl HI.out.1 HI.out.2.1 N rfl rfl (rowA intK [] N) (by rw [HI.out.2.2.1]; exact HM.out) (by rw [HI.out.2.2.2]; have := HN.out.2; omega) (by have := HN.out.2; show N ≤ 9223372036854775807; omega) ?_)
    go_loopg [7, 31] N (fun gk _ ii wr => ∃ (k : Nat) (lk : List Int), k ≤ N ∧ gk = N - k ∧ ii = .int .i64 k ∧ lk.length = k ∧ lk.map id = (Cd.many nC (Cd.next r 256) k).1 ∧ (∀ x ∈ lk, intK.ok wr x ∧ (fun _ _ => True) w5.heap.size x) ∧ CrTo w5 F q G 3 (rowA intK lk (N - k)) (Cd.many nC (Cd.next r 256) k).2 (.returned (.tuple #[])) wr)
    case atStart => exact ⟨0, [], by omega, by omega, rfl, rfl, rfl, fun x hx => absurd hx (by simp), H0.out⟩
    case round =>
      obtain ⟨k, lk, hk, rfl, rfl, hlk, hmap, hoks, hst⟩ := hrel
      clear H0
      by_cases hlt : k < N
      · obtain ⟨_, h1, h2, h3⟩ := hst
        obtain ⟨m, hm⟩ : ∃ m, N - k = m + 1 := ⟨N - k - 1, by omega⟩
        rw [hm] at h2
        have hfx := H.out.hW.size
        have hnF : ¬ F G := fun h => by have g1 := H.out.bound _ h; have g2 := HX.out.2.2.2.2.1; omega
        have hnq : ¬ (b = q ∨ b = G) := fun h => by
          rcases h with h | h
          · exact H.out.hn (by rw [h]; exact H.out.self)
          · exact HX.out.2.2.2.1 h
        have c1 : wr.cell? ⟨b, i, none⟩ = some (.slice (some ⟨G, 0, none⟩) N N) := h3.cell hnq ((HX.out.1.cell i).trans (by rw [Array.getElem?_setIfInBounds_self, if_pos HX.out.2.2.2.2.2]))
        have hln : (Cd.many nC (Cd.next r 256) k).2.b.length ≤ 140737488351232 := Nat.le_trans (Cd.many_le nC (Cd.next r 256) k) (Nat.le_trans (Cd.try_le r _) H.out.hl)
        have hzz : ∀ j, j < 1 → (rowA intK lk (m + 1))[k * 1 + j]? = (intK.cells intK.zero)[j]? := fun j hj => by have := rowA_zero hkk lk m j hj; rw [hlk] at this; exact this
        have HJ := Lib.hid (cr_num q _ F G k 3 _ wr h1 h2 hnF (by rw [rowA_size hkk]; have : intK.k = 1 := rfl; rw [this, hlk]; omega) hln)
        have H2 := Lib.hid (And.intro h3 (And.intro hmap (And.intro hoks (And.intro hlk hm))))
        clear h1 h2 h3 hmap hoks hm hnF hnq hln hzz hfx
        clear hlk
        go_wp2_with fail
        refine HJ.out.mono ?_
        intro e w6 h4
        have h5 := h4.1
        have H4 := Lib.hid h4
        clear h4
        subst h5
        go_wp2
        go_roundg (N - (k + 1))
        case rel =>
          have hmb : N ≤ 256 := HN.out.2
          have hm2 : N - (k + 1) = m := by have := H2.out.2.2.2.2; omega
          refine ⟨k + 1, lk ++ [(nC.dec (Cd.many nC (Cd.next r 256) k).2).1], by omega, by omega, congrArg (Value.int .i64) (by unfold wrap64; omega), by rw [List.length_append, H2.out.2.2.2.1]; rfl, ?_, ?_, ?_⟩
          · rw [List.map_append, H2.out.2.1]; rfl
          · intro x hx
            rcases List.mem_append.1 hx with y | y
            · exact ⟨(by have g := (H2.out.2.2.1 x y).1; first | exact g | trivial), trivial⟩
            · rw [List.mem_singleton] at y
              subst y
              exact ⟨((fun _ _ => trivial) (Cd.many nC (Cd.next r 256) k).2 trivial), trivial⟩
          · have hnx := rowA_next hkk lk m (nC.dec (Cd.many nC (Cd.next r 256) k).2).1
            rw [H2.out.2.2.2.1] at hnx
            rw [show k * intK.k = k from Nat.mul_one k] at hnx
            rw [hm2, ← hnx]
            exact H4.out.then_ H2.out.1
        case measure => omega
      · obtain rfl : k = N := by omega
        have H2 := Lib.hid (And.intro hst (And.intro hlk (And.intro hmap hoks)))
        clear hst hlk hmap hoks
        go_wp2
        go_end0
        obtain ⟨hst, hlk, hmap, hoks⟩ := H2.out
        obtain ⟨_, h1, h2, h3⟩ := hst
        have hdec : iC.dec r = Cd.many nC (Cd.next r 256) k := by
          show Cd.many nC (Cd.next r 256) (Cd.one r 256).toNat = _
          rw [HN.out.1]
          rfl
        have hnq : ¬ (b = q ∨ b = G) := fun h => by
          rcases h with h | h
          · exact H.out.hn (by rw [h]; exact H.out.self)
          · exact HX.out.2.2.2.1 h
        rw [Nat.sub_self] at h2
        refine ⟨some ⟨G, 0, none⟩, k, lk, rfl, ⟨rfl, by rw [hdec]; exact h1, by rw [hlk]; exact HX.out.1.keep (h3.block b HX.out.1.lt hnq), HX.out.2.1.trans h3 (fun j hj y => ?_)⟩, ST.of_rowA hkk h2 (fun x hx => (hoks x hx).1), by rw [hdec]; exact hmap, ⟨Nat.le_of_eq hlk, by have := HN.out.2; omega⟩, fun a ha => ?_, fun x hx => ?_⟩
        · rcases y with y | y
          · exact .inl y
          · have := HX.out.2.2.2.2.1; omega
        · injection ha with ha
          rw [← ha]
          exact HX.out.2.2.2.2.1
        · exact trivial
end Go.Proofs.Ytlijfnekopjogaa

/- The coder reads: lists of numbers, a lock, a dirty page (printed by gen_er.py). -/
namespace Go.Proofs.Ytlijfnekopjogaa
open Go Go.RowKit Mem Rc
set_option maxRecDepth 100000
set_option linter.unusedVariables false
set_option linter.unusedSimpArgs false

theorem ErTo.unit {α β : Type} {K : Kind_ α} {f : α → β} {C : Cd.Cod (List β)} {Ap : Nat → α → Prop} {w : World} {F : Nat → Prop} {q b i : Nat} {t : TypeId} {cs : Array Value} {r : Sl.R} {e : Ending} {w' : World} (h : ErTo K f C Ap w F q b i t cs r e w') : e = .returned (.tuple #[]) := by
  obtain ⟨A, c, l, h1, _⟩ := h
  exact h1
theorem ErTo.mono {α β : Type} {K : Kind_ α} {f : α → β} {C : Cd.Cod (List β)} {Ap : Nat → α → Prop} {w w1 : World} {F : Nat → Prop} {q b i : Nat} {t : TypeId} {cs : Array Value} {r : Sl.R} {e : Ending} {w' : World} (h : ErTo K f C Ap w1 F q b i t cs r e w') (hb : Below w.heap.size w w1)
    (hq : q < w.heap.size) (hbl : b < w.heap.size) (hap : ∀ x B B', B' ≤ B → Ap B x → Ap B' x) : ErTo K f C Ap w F q b i t cs r e w' := by
  obtain ⟨A, c, l, h1, h2, h3, h4, h5, h6, h7⟩ := h
  exact ⟨A, c, l, h1, h2.mono hb hq hbl, h3, h4, h5, fun a ha => Nat.le_trans hb.size (h6 a ha), fun x hx => hap x _ _ hb.size (h7 x hx)⟩
set_option maxHeartbeats 4000000 in
theorem cr_ints (q : Nat) (r : Sl.R) (F : Nat → Prop) (b i : Nat) (t : TypeId) (cs : Array Value) (A0 : Option Addr) (n0 c0 : Nat) (w : World) (hr : RdAt w q r F) (hbl : Blk w b t cs) (hn : ¬ F b) (hi : cs[i]? = some (.slice A0 n0 c0)) (hl : r.b.length ≤ 140737488351232) :
    Calls Try.prog 84 #[cr q, .pointer (some ⟨b, i, none⟩)] w (ErTo intK id iC (fun _ _ => True) w F q b i t cs r) := by
  obtain ⟨W, hW⟩ := crW w q
  have e := hW.eq
  have z0 : W.cell? ⟨w.heap.size, 0, none⟩ = some (.pointer none) := hW.c0
  have z1 : W.cell? ⟨w.heap.size, 1, none⟩ = some (.pointer (some ⟨q, 0, none⟩)) := hW.c1
  have HC := Lib.hid (er_int q r F b i t cs A0 n0 c0 W (hr.below hW.below) (hbl.below hW.below hbl.lt) hn hi hl)
  have H := Lib.hid (And.intro hW.below (And.intro (hr.bound q hr.self) hbl.lt))
  clear hr hbl hn hi hl hW
  go_enter Try.func84, Try.ntmps84
  go_wp2_with fail
  refine HC.out.mono ?_
  intro e w1 h1
  have h2 := h1.unit
  have H1 := Lib.hid h1
  clear h1
  subst h2
  go_wp2
  go_end0
  exact H1.out.mono H.out.1 H.out.2.1 H.out.2.2 (fun _ _ _ _ _ => trivial)
set_option maxHeartbeats 4000000 in
theorem cr_lock (q : Nat) (r : Sl.R) (F : Nat → Prop) (b i cb : Nat) (t : TypeId) (cs : Array Value) (w : World) (hr : RdAt w q r F) (hbl : Blk w b t cs) (hn : ¬ F b) (hi : i + 1 < cs.size) (hco : CoR w cb q) (hcb : ¬ (cb = q ∨ cb = b)) (hl : r.b.length ≤ 140737488351232) :
    Calls Try.prog 106 #[.pointer (some ⟨b, i, none⟩), .pointer (some ⟨cb, 0, none⟩)] w (CrTo w F q b t ((cs.setIfInBounds i (.string (lC.dec r).1.key)).setIfInBounds (i + 1) (.bool (lC.dec r).1.x)) (lC.dec r).2) := by
  have z0 : w.drew.cell? ⟨cb, 0, none⟩ = some (.pointer none) := hco.c0
  have z1 : w.drew.cell? ⟨cb, 1, none⟩ = some (.pointer (some ⟨q, 0, none⟩)) := hco.c1
  have HC := Lib.hid (cr_text q r F b i t cs w.drew (hr.below (Below.refl _ _).drew) hbl hn (by omega) hl)
  have H := Lib.hid (And.intro hn (And.intro hi (And.intro hcb (And.intro hl (And.intro hco (And.intro (hr.bound q hr.self) hbl.lt))))))
  clear hr hbl hn hi hco hcb hl
  go_enter Try.func106, Try.ntmps106
  go_wp2_with fail
  go_still_tail 4, (by kernel_rfl)
  go_wp2_with fail
  refine HC.out.mono ?_
  rintro e w2 ⟨rfl, h1, h2, h3⟩
  have hco := (H.out.2.2.2.2.1.below (Below.refl _ _).drew).fr h3 H.out.2.2.1
  have a0 : w2.drew.cell? ⟨cb, 0, none⟩ = some (.pointer none) := hco.c0
  have a1 : w2.drew.cell? ⟨cb, 1, none⟩ = some (.pointer (some ⟨q, 0, none⟩)) := hco.c1
  have HK := Lib.hid (cr_flag q (tC.dec r).2 F b (i + 1) t _ w2.drew (h1.below (Below.refl _ _).drew) h2 H.out.1 (by rw [Array.size_setIfInBounds]; exact H.out.2.1) (Nat.le_trans (tC.le r) H.out.2.2.2.1))
  have H2 := Lib.hid h3
  clear h1 h2 h3 hco z0 z1
  go_wp2_with fail
  go_still_tail 4, (by kernel_rfl)
  go_wp2_with fail
  refine HK.out.mono ?_
  intro e w3 h4
  have h5 := h4.1
  have H4 := Lib.hid h4
  clear h4
  subst h5
  go_wp2
  go_end0
  exact (H4.out.then_ (H2.out.drew 1)).mono (Below.refl _ _).drew H.out.2.2.2.2.2.1 H.out.2.2.2.2.2.2
set_option maxHeartbeats 4000000 in
theorem cr_dirty (q : Nat) (r : Sl.R) (F : Nat → Prop) (b i cb : Nat) (t : TypeId) (cs : Array Value) (w : World) (hr : RdAt w q r F) (hbl : Blk w b t cs) (hn : ¬ F b) (hi : i + 1 < cs.size) (hco : CoR w cb q) (hcb : ¬ (cb = q ∨ cb = b)) (hl : r.b.length ≤ 140737488351232) :
    Calls Try.prog 89 #[.pointer (some ⟨b, i, none⟩), .pointer (some ⟨cb, 0, none⟩)] w (CrTo w F q b t ((cs.setIfInBounds i (.int .i64 (dC.dec r).1.page)).setIfInBounds (i + 1) (.int .i64 (dC.dec r).1.rc)) (dC.dec r).2) := by
  have z0 : w.drew.cell? ⟨cb, 0, none⟩ = some (.pointer none) := hco.c0
  have z1 : w.drew.cell? ⟨cb, 1, none⟩ = some (.pointer (some ⟨q, 0, none⟩)) := hco.c1
  have hbW : Below w.heap.size w (w.alloc (.cells #[.pointer (some ⟨b, i, none⟩), .pointer (some ⟨b, i + 1, none⟩)] 117)).drew := ((Below.refl _ _).alloc (Nat.le_refl _) _).drew
  have hp : ∀ k, k < 2 → (w.alloc (.cells #[.pointer (some ⟨b, i, none⟩), .pointer (some ⟨b, i + 1, none⟩)] 117)).drew.cell? ⟨w.heap.size, k, none⟩ = some (.pointer (some ⟨b, [i, i + 1].getD k 0, none⟩)) := fun k hk => match k, hk with
    | 0, _ => (Blk.new w 117 #[.pointer (some ⟨b, i, none⟩), .pointer (some ⟨b, i + 1, none⟩)]).cell 0
    | 1, _ => (Blk.new w 117 #[.pointer (some ⟨b, i, none⟩), .pointer (some ⟨b, i + 1, none⟩)]).cell 1
  have hlt : ∀ k, k < 2 → [i, i + 1].getD k 0 < cs.size := fun k hk => match k, hk with
    | 0, _ => by show i < cs.size; omega
    | 1, _ => hi
  have hg : ¬ (w.heap.size = q ∨ w.heap.size = b) := fun h => by
    rcases h with h | h
    · have := hr.bound q hr.self; omega
    · have := hbl.lt; omega
  have HC := Lib.hid (cr_nums q r F w.heap.size b 2 [i, i + 1] 2 t cs (w.alloc (.cells #[.pointer (some ⟨b, i, none⟩), .pointer (some ⟨b, i + 1, none⟩)] 117)).drew (hr.below hbW) (hbl.below hbW hbl.lt) hn hg hp hlt hl (by decide))
  have H := Lib.hid (And.intro hbW (And.intro (hr.bound q hr.self) (And.intro hbl.lt (And.intro hcb (hco.below hbW)))))
  clear hr hbl hn hi hco hcb hl hp hlt hg hbW
  go_enter Try.func89, Try.ntmps89
  go_wp2_with fail
  refine wp_region_held_drew (S := (fun w' => w'.cell? ⟨cb, 0, none⟩ = some (.pointer none) ∧ w'.cell? ⟨cb, 1, none⟩ = some (.pointer (some ⟨q, 0, none⟩)))) (by kernel_rfl) ⟨z0, z1⟩ (fun hHeld => ?_)
  refine tk 0 3 (v := cr q) (h := ?_)
  refine tk 1 4 (v := .pointer (some ⟨b, i, none⟩)) (h := ?_)
  refine tk 2 5 (v := .pointer (some ⟨b, i, none⟩)) (h := ?_)
  refine tk 3 6 (v := .pointer (some ⟨b, i, none⟩)) (h := ?_)
  refine tk 4 7 (v := .pointer (some ⟨b, i, none⟩)) (h := ?_)
  refine tk 5 8 (v := .pointer (some ⟨b, i, none⟩)) (h := ?_)
  refine tk 6 9 (v := .pointer (some ⟨b, i + 1, none⟩)) (h := ?_)
  refine wpAnyH_ready (rs := [7]) (by kernel_rfl) (by simp) ?_
  refine AllReadyH.cons rfl (fun K hK => ?_) AllReadyH.nil
  go_simp
  refine hK.out _ _ ⟨cell_alloc_some' _ z0, cell_alloc_some' _ z1⟩ (fun hHeld => ?_)
  clear hK K
  try simp only [Act.put, List.setIfInBounds_toArray, List.set_cons_zero, List.set_cons_succ]
  refine wpAnyH_ready (rs := [8]) (by kernel_rfl) (by simp) ?_
  refine AllReadyH.cons rfl (fun K hK => ?_) AllReadyH.nil
  go_simp
  refine HC.out.mono ?_
  intro e w2 h2
  have h3 := h2.1
  have H2 := Lib.hid h2
  clear h2
  subst h3
  refine hK.out _ _ ⟨(H.out.2.2.2.2.fr H2.out.2.2.2 H.out.2.2.2.1).c0, (H.out.2.2.2.2.fr H2.out.2.2.2 H.out.2.2.2.1).c1⟩ (fun hHeld => ?_)
  clear hK K
  try simp only [Act.put, List.setIfInBounds_toArray, List.set_cons_zero, List.set_cons_succ]
  refine wpAnyH_done (by kernel_rfl) ?_ _
  go_wp2
  go_end0
  exact H2.out.mono H.out.1 H.out.2.1 H.out.2.2.1
end Go.Proofs.Ytlijfnekopjogaa

/- The coder reads: locks, dirty pages (printed by gen_er.py). -/
namespace Go.Proofs.Ytlijfnekopjogaa
open Go Go.RowKit Mem Rc
set_option maxRecDepth 100000
set_option linter.unusedVariables false
set_option linter.unusedSimpArgs false

structure Erlock (w W : World) (F : Nat → Prop) (q b i : Nat) (cb : Nat) (t : TypeId) (cs : Array Value) (r : Sl.R) (A0 : Option Addr) (n0 c0 : Nat) : Prop where
  hW : CrW w q W
  hq : q < w.heap.size
  hb : b < w.heap.size
  hn : ¬ F b
  bound : ∀ k, F k → k < w.heap.size
  self : F q
  hFw : ¬ (w.heap.size = q ∨ w.heap.size = b)
  hbl : Blk w b t cs
  hi : cs[i]? = some (.slice A0 n0 c0)
  hl : r.b.length ≤ 140737488351232
  co : CoR W cb q
  ncb : ¬ (cb = q ∨ cb = b)
  cbl : cb < w.heap.size
set_option maxHeartbeats 8000000 in
theorem er_lock (q : Nat) (r : Sl.R) (F : Nat → Prop) (b i : Nat) (cb : Nat) (t : TypeId) (cs : Array Value) (A0 : Option Addr) (n0 c0 : Nat) (w : World) (hr : RdAt w q r F) (hbl : Blk w b t cs) (hn : ¬ F b) (hi : cs[i]? = some (.slice A0 n0 c0)) (hco : CoR w cb q) (hncb : ¬ (cb = q ∨ cb = b)) (hl : r.b.length ≤ 140737488351232) :
    Calls Try.prog 105 #[cr q, .pointer (some ⟨b, i, none⟩), .func (.func 106) #[] #[.pointer (some ⟨cb, 0, none⟩)]] w (ErTo lockK id lsC (fun _ _ => True) w F q b i t cs r) := by
  obtain ⟨W, hW⟩ := crW w q
  have e := hW.eq
  have z0 : W.cell? ⟨w.heap.size, 0, none⟩ = some (.pointer none) := hW.c0
  have z1 : W.cell? ⟨w.heap.size, 1, none⟩ = some (.pointer (some ⟨q, 0, none⟩)) := hW.c1
  have ci : W.cell? ⟨b, i, none⟩ = some (.slice A0 n0 c0) := ((hbl.below hW.below hbl.lt).cell i).trans hi
  have HC := Lib.hid (show Calls Try.prog 44 #[.pointer (some ⟨q, 0, none⟩), .int .i64 256] W (RdTo W F q (.int .i64 (Cd.one r 256)) (Cd.next r 256)) from rnum_any q r F 256 W (hr.below hW.below) (by decide) hl)
  have H := Lib.hid (Erlock.mk hW (hr.bound q hr.self) hbl.lt hn hr.bound hr.self (fun h => by
    rcases h with h | h
    · have := hr.bound q hr.self; omega
    · have := hbl.lt; omega) hbl hi hl (hco.below hW.below) hncb (World.block_lt_of_cell? w _ hco.c0))
  have hcf := enters Try.func106 (by decide) rfl
  have hN := Cd.one_bound r 256 (by omega) (by omega)
  obtain ⟨N, hNe⟩ := Int.eq_ofNat_of_zero_le hN.1
  have HN := Lib.hid (And.intro hNe (show N ≤ 256 by rw [hNe] at hN; omega))
  rw [hNe] at HC
  clear hr hbl hn hi hl hW hN hNe hco hncb
  go_enter Try.func105, Try.ntmps105
  go_wp2_with fail
  refine HC.out.mono ?_
  intro e w2 h2
  obtain ⟨h3, h4, h5⟩ := cr_set (i := i) (u := .slice none 0 0) H.out.hW.below H.out.hbl h2 H.out.self H.out.hn
  subst h3
  have hu : w2.cell? ⟨b, i, none⟩ = some (.slice A0 n0 c0) := (h4.cell i).trans H.out.hi
  have hz := h4.free i
  obtain ⟨w3, hw3⟩ : ∃ w3, w2.setCell ⟨b, i, none⟩ (.slice none 0 0) = w3 := ⟨_, rfl⟩
  rw [hw3] at h5
  have H5 := Lib.hid h5
  obtain ⟨G, hG⟩ : ∃ G, w3.heap.size = G := ⟨_, rfl⟩
  have hG2 : w2.heap.size = G := by rw [← hG, ← hw3, setCell_size']
  clear h2 h4 h5
  rcases Nat.eq_zero_or_pos N with rfl | hpos
  · have hd : decide ((0 : Int) < ((0 : Nat) : Int)) = false := by decide
    go_wp2_with fail
    go_loopg [7, 31] 0 (fun gk _ i wr => gk = 0 ∧ i = .int .i64 0 ∧ wr = w3)
    case atStart => exact ⟨rfl, rfl, rfl⟩
    case round =>
      obtain ⟨rfl, rfl, rfl⟩ := hrel
      go_wp2
      go_end0
      have hdec : lsC.dec r = ([], Cd.next r 256) := by
        show Cd.many lC (Cd.next r 256) (Cd.one r 256).toNat = _
        rw [HN.out.1]
        rfl
      refine ⟨none, 0, [], rfl, by rw [hdec]; exact H5.out, ⟨rfl, fun x hx => absurd hx (by simp), fun h => absurd h (by simp)⟩, by rw [hdec]; rfl, ⟨Nat.le_refl _, Nat.zero_le _⟩, fun a ha => (by cases ha), fun x hx => absurd hx (by simp)⟩
  · have hd : decide ((0 : Int) < (N : Int)) = true := decide_eq_true (by omega)
    have hkk : ∀ x, (lockK.cells x).length = lockK.k := fun _ => rfl
    have hmade : madeCells #[.string ⟨#[]⟩, .bool false] (N * 2) = rowA lockK [] N := rowA_made hkk (by decide) _ rfl N
    obtain ⟨i0, hi0, hz0, hz1, hz2⟩ := info_parts einfo_lock
    have hb4 : Blk w3 b t (cs.setIfInBounds i (.slice none 0 0)) := H5.out.2.2.1
    have hisz : i < cs.size := by
      rcases Nat.lt_or_ge i cs.size with g | g
      · exact g
      · have g2 := H.out.hi; rw [Array.getElem?_eq_none g] at g2; cases g2
    have hb5 : Blk (w3.alloc (.cells (rowA lockK [] N) 50)) b t (cs.setIfInBounds i (.slice none 0 0)) := hb4.alloc _
    have hu5 : (w3.alloc (.cells (rowA lockK [] N) 50)).cell? ⟨b, i, none⟩ = some (.slice none 0 0) := (hb5.cell i).trans (by rw [Array.getElem?_setIfInBounds_self, if_pos hisz])
    have hz5 := hb5.free i
    have hnb : b ≠ G := by rw [← hG]; exact Nat.ne_of_lt hb4.lt
    obtain ⟨w5, hw5⟩ : ∃ w5, (w3.alloc (.cells (rowA lockK [] N) 50)).setCell ⟨b, i, none⟩ (.slice (some ⟨G, 0, none⟩) N N) = w5 := ⟨_, rfl⟩
    have hBb : Blk w5 b t (cs.setIfInBounds i (.slice (some ⟨G, 0, none⟩) N N)) := by
      rw [← hw5]
      have := hb5.put i (.slice (some ⟨G, 0, none⟩) N N)
      rwa [Array.setIfInBounds_setIfInBounds] at this
    have hBn : Blk (w3.alloc (.cells (rowA lockK [] N) 50)) G 50 (rowA lockK [] N) := by rw [← hG]; exact Blk.new w3 50 (rowA lockK [] N)
    have hBg : Blk w5 G 50 (rowA lockK [] N) := by rw [← hw5]; exact hBn.far (p := ⟨b, i, none⟩) (fun h => hnb h.symm) _
    have hF5 : Fr (fun k => k = q ∨ k = b) w w5 := by rw [← hw5]; exact (H5.out.2.2.2.alloc _).setCell _ _ (fun _ => .inr rfl)
    have hs5 : w5.heap.size = G + 1 := by rw [← hw5, setCell_size', ← hG]; simp
    have hR5 : RdAt w5 q (Cd.next r 256) F := by
      rw [← hw5]
      refine (H5.out.2.1.below ((Below.refl _ _).alloc (Nat.le_refl _) _)).keep (by rw [setCell_size']; exact Nat.le_refl _) (fun k hk => Below.heap_setCell _ ⟨b, i, none⟩ _ k (fun e => H.out.hn (by rw [← show k = b from e]; exact hk)))
    have hle3 : w.heap.size ≤ G := by rw [← hG]; exact H5.out.2.2.2.size
    have HX := Lib.hid (And.intro hBb (And.intro hF5 (And.intro hs5 (And.intro hnb (And.intro hle3 hisz)))))
    have H0 := Lib.hid (show CrTo w5 F q G 50 (rowA lockK [] N) (Cd.many lC (Cd.next r 256) 0).2 (.returned (.tuple #[])) w5 from ⟨rfl, hR5, hBg, Fr.refl _ _⟩)
    have HI := Lib.hid (And.intro hi0 (And.intro hz0 (And.intro hz1 hz2)))
    have HM := Lib.hid hmade
    clear hb4 hb5 hBb hBg hBn hF5 hR5 hi0 hz0 hz1 hz2 hmade hnb hs5 hle3
    go_wp2_with (at_make; refine wpList_make_row _ rfl _ _ 25 rfl 50 i0 _ rfl HI.out.1 HI.out.2.1 N rfl rfl (rowA lockK [] N) (by rw [HI.out.2.2.1]; exact HM.out) (by rw [HI.out.2.2.2]; have := HN.out.2; omega) (by have := HN.out.2; show N ≤ 9223372036854775807; omega) ?_)
    go_loopg [7, 31] N (fun gk _ ii wr => ∃ (k : Nat) (lk : List L), k ≤ N ∧ gk = N - k ∧ ii = .int .i64 k ∧ lk.length = k ∧ lk.map id = (Cd.many lC (Cd.next r 256) k).1 ∧ (∀ x ∈ lk, lockK.ok wr x ∧ (fun _ _ => True) w5.heap.size x) ∧ CrTo w5 F q G 50 (rowA lockK lk (N - k)) (Cd.many lC (Cd.next r 256) k).2 (.returned (.tuple #[])) wr)
    case atStart => exact ⟨0, [], by omega, by omega, rfl, rfl, rfl, fun x hx => absurd hx (by simp), H0.out⟩
    case round =>
      obtain ⟨k, lk, hk, rfl, rfl, hlk, hmap, hoks, hst⟩ := hrel
      clear H0
      by_cases hlt : k < N
      · obtain ⟨_, h1, h2, h3⟩ := hst
        obtain ⟨m, hm⟩ : ∃ m, N - k = m + 1 := ⟨N - k - 1, by omega⟩
        rw [hm] at h2
        have hfx := H.out.hW.size
        have hnF : ¬ F G := fun h => by have g1 := H.out.bound _ h; have g2 := HX.out.2.2.2.2.1; omega
        have hnq : ¬ (b = q ∨ b = G) := fun h => by
          rcases h with h | h
          · exact H.out.hn (by rw [h]; exact H.out.self)
          · exact HX.out.2.2.2.1 h
        have c1 : wr.cell? ⟨b, i, none⟩ = some (.slice (some ⟨G, 0, none⟩) N N) := h3.cell hnq ((HX.out.1.cell i).trans (by rw [Array.getElem?_setIfInBounds_self, if_pos HX.out.2.2.2.2.2]))
        have hln : (Cd.many lC (Cd.next r 256) k).2.b.length ≤ 140737488351232 := Nat.le_trans (Cd.many_le lC (Cd.next r 256) k) (Nat.le_trans (Cd.try_le r _) H.out.hl)
        have hzz : ∀ j, j < 2 → (rowA lockK lk (m + 1))[k * 2 + j]? = (lockK.cells lockK.zero)[j]? := fun j hj => by have := rowA_zero hkk lk m j hj; rw [hlk] at this; exact this
        have hncb0 : ¬ (cb = q ∨ cb = G) := fun h => by
          rcases h with h | h
          · exact H.out.ncb (.inl h)
          · have g1 := H.out.cbl; have g2 := HX.out.2.2.2.2.1; omega
        have hco1 : CoR wr cb q := ((H.out.co.base H.out.hW.below H.out.cbl).fr HX.out.2.1 H.out.ncb).fr h3 hncb0
        have hncb : ¬ (cb = q ∨ cb = G) := hncb0
        have HJ := Lib.hid (cr_lock q _ F G (k * 2) cb 50 _ wr h1 h2 hnF (by rw [rowA_size hkk]; have : lockK.k = 2 := rfl; rw [this, hlk]; omega) hco1 hncb hln)
        have H2 := Lib.hid (And.intro h3 (And.intro hmap (And.intro hoks (And.intro hlk hm))))
        clear h1 h2 h3 hmap hoks hm hnF hnq hln hzz hfx hncb0 hco1 hncb
        clear hlk
        go_wp2_with fail
        refine HJ.out.mono ?_
        intro e w6 h4
        have h5 := h4.1
        have H4 := Lib.hid h4
        clear h4
        subst h5
        go_wp2
        go_roundg (N - (k + 1))
        case rel =>
          have hmb : N ≤ 256 := HN.out.2
          have hm2 : N - (k + 1) = m := by have := H2.out.2.2.2.2; omega
          refine ⟨k + 1, lk ++ [(lC.dec (Cd.many lC (Cd.next r 256) k).2).1], by omega, by omega, congrArg (Value.int .i64) (by unfold wrap64; omega), by rw [List.length_append, H2.out.2.2.2.1]; rfl, ?_, ?_, ?_⟩
          · rw [List.map_append, H2.out.2.1]; rfl
          · intro x hx
            rcases List.mem_append.1 hx with y | y
            · exact ⟨(by have g := (H2.out.2.2.1 x y).1; first | exact g | trivial), trivial⟩
            · rw [List.mem_singleton] at y
              subst y
              exact ⟨((fun r => (Nat.le_trans (text_size r) (by decide) : (lC.dec r).1.key.size ≤ 9223372036854775807)) (Cd.many lC (Cd.next r 256) k).2), trivial⟩
          · have hnx := rowA_next hkk lk m (lC.dec (Cd.many lC (Cd.next r 256) k).2).1
            rw [H2.out.2.2.2.1] at hnx
            skip
            rw [hm2, ← hnx]
            exact H4.out.then_ H2.out.1
        case measure => omega
      · obtain rfl : k = N := by omega
        have H2 := Lib.hid (And.intro hst (And.intro hlk (And.intro hmap hoks)))
        clear hst hlk hmap hoks
        go_wp2
        go_end0
        obtain ⟨hst, hlk, hmap, hoks⟩ := H2.out
        obtain ⟨_, h1, h2, h3⟩ := hst
        have hdec : lsC.dec r = Cd.many lC (Cd.next r 256) k := by
          show Cd.many lC (Cd.next r 256) (Cd.one r 256).toNat = _
          rw [HN.out.1]
          rfl
        have hnq : ¬ (b = q ∨ b = G) := fun h => by
          rcases h with h | h
          · exact H.out.hn (by rw [h]; exact H.out.self)
          · exact HX.out.2.2.2.1 h
        rw [Nat.sub_self] at h2
        refine ⟨some ⟨G, 0, none⟩, k, lk, rfl, ⟨rfl, by rw [hdec]; exact h1, by rw [hlk]; exact HX.out.1.keep (h3.block b HX.out.1.lt hnq), HX.out.2.1.trans h3 (fun j hj y => ?_)⟩, ST.of_rowA hkk h2 (fun x hx => (hoks x hx).1), by rw [hdec]; exact hmap, ⟨Nat.le_of_eq hlk, by have := HN.out.2; omega⟩, fun a ha => ?_, fun x hx => ?_⟩
        · rcases y with y | y
          · exact .inl y
          · have := HX.out.2.2.2.2.1; omega
        · injection ha with ha
          rw [← ha]
          exact HX.out.2.2.2.2.1
        · exact trivial
structure Erdirty (w W : World) (F : Nat → Prop) (q b i : Nat) (cb : Nat) (t : TypeId) (cs : Array Value) (r : Sl.R) (A0 : Option Addr) (n0 c0 : Nat) : Prop where
  hW : CrW w q W
  hq : q < w.heap.size
  hb : b < w.heap.size
  hn : ¬ F b
  bound : ∀ k, F k → k < w.heap.size
  self : F q
  hFw : ¬ (w.heap.size = q ∨ w.heap.size = b)
  hbl : Blk w b t cs
  hi : cs[i]? = some (.slice A0 n0 c0)
  hl : r.b.length ≤ 140737488351232
  co : CoR W cb q
  ncb : ¬ (cb = q ∨ cb = b)
  cbl : cb < w.heap.size
set_option maxHeartbeats 8000000 in
theorem er_dirty (q : Nat) (r : Sl.R) (F : Nat → Prop) (b i : Nat) (cb : Nat) (t : TypeId) (cs : Array Value) (A0 : Option Addr) (n0 c0 : Nat) (w : World) (hr : RdAt w q r F) (hbl : Blk w b t cs) (hn : ¬ F b) (hi : cs[i]? = some (.slice A0 n0 c0)) (hco : CoR w cb q) (hncb : ¬ (cb = q ∨ cb = b)) (hl : r.b.length ≤ 140737488351232) :
    Calls Try.prog 88 #[cr q, .pointer (some ⟨b, i, none⟩), .func (.func 89) #[] #[.pointer (some ⟨cb, 0, none⟩)]] w (ErTo dirtyK id dsC (fun _ _ => True) w F q b i t cs r) := by
  obtain ⟨W, hW⟩ := crW w q
  have e := hW.eq
  have z0 : W.cell? ⟨w.heap.size, 0, none⟩ = some (.pointer none) := hW.c0
  have z1 : W.cell? ⟨w.heap.size, 1, none⟩ = some (.pointer (some ⟨q, 0, none⟩)) := hW.c1
  have ci : W.cell? ⟨b, i, none⟩ = some (.slice A0 n0 c0) := ((hbl.below hW.below hbl.lt).cell i).trans hi
  have HC := Lib.hid (show Calls Try.prog 44 #[.pointer (some ⟨q, 0, none⟩), .int .i64 256] W (RdTo W F q (.int .i64 (Cd.one r 256)) (Cd.next r 256)) from rnum_any q r F 256 W (hr.below hW.below) (by decide) hl)
  have H := Lib.hid (Erdirty.mk hW (hr.bound q hr.self) hbl.lt hn hr.bound hr.self (fun h => by
    rcases h with h | h
    · have := hr.bound q hr.self; omega
    · have := hbl.lt; omega) hbl hi hl (hco.below hW.below) hncb (World.block_lt_of_cell? w _ hco.c0))
  have hcf := enters Try.func89 (by decide) rfl
  have hN := Cd.one_bound r 256 (by omega) (by omega)
  obtain ⟨N, hNe⟩ := Int.eq_ofNat_of_zero_le hN.1
  have HN := Lib.hid (And.intro hNe (show N ≤ 256 by rw [hNe] at hN; omega))
  rw [hNe] at HC
  clear hr hbl hn hi hl hW hN hNe hco hncb
  go_enter Try.func88, Try.ntmps88
  go_wp2_with fail
  refine HC.out.mono ?_
  intro e w2 h2
  obtain ⟨h3, h4, h5⟩ := cr_set (i := i) (u := .slice none 0 0) H.out.hW.below H.out.hbl h2 H.out.self H.out.hn
  subst h3
  have hu : w2.cell? ⟨b, i, none⟩ = some (.slice A0 n0 c0) := (h4.cell i).trans H.out.hi
  have hz := h4.free i
  obtain ⟨w3, hw3⟩ : ∃ w3, w2.setCell ⟨b, i, none⟩ (.slice none 0 0) = w3 := ⟨_, rfl⟩
  rw [hw3] at h5
  have H5 := Lib.hid h5
  obtain ⟨G, hG⟩ : ∃ G, w3.heap.size = G := ⟨_, rfl⟩
  have hG2 : w2.heap.size = G := by rw [← hG, ← hw3, setCell_size']
  clear h2 h4 h5
  rcases Nat.eq_zero_or_pos N with rfl | hpos
  · have hd : decide ((0 : Int) < ((0 : Nat) : Int)) = false := by decide
    go_wp2_with fail
    go_loopg [7, 31] 0 (fun gk _ i wr => gk = 0 ∧ i = .int .i64 0 ∧ wr = w3)
    case atStart => exact ⟨rfl, rfl, rfl⟩
    case round =>
      obtain ⟨rfl, rfl, rfl⟩ := hrel
      go_wp2
      go_end0
      have hdec : dsC.dec r = ([], Cd.next r 256) := by
        show Cd.many dC (Cd.next r 256) (Cd.one r 256).toNat = _
        rw [HN.out.1]
        rfl
      refine ⟨none, 0, [], rfl, by rw [hdec]; exact H5.out, ⟨rfl, fun x hx => absurd hx (by simp), fun h => absurd h (by simp)⟩, by rw [hdec]; rfl, ⟨Nat.le_refl _, Nat.zero_le _⟩, fun a ha => (by cases ha), fun x hx => absurd hx (by simp)⟩
  · have hd : decide ((0 : Int) < (N : Int)) = true := decide_eq_true (by omega)
    have hkk : ∀ x, (dirtyK.cells x).length = dirtyK.k := fun _ => rfl
    have hmade : madeCells #[.int .i64 0, .int .i64 0] (N * 2) = rowA dirtyK [] N := rowA_made hkk (by decide) _ rfl N
    obtain ⟨i0, hi0, hz0, hz1, hz2⟩ := info_parts einfo_dirty
    have hb4 : Blk w3 b t (cs.setIfInBounds i (.slice none 0 0)) := H5.out.2.2.1
    have hisz : i < cs.size := by
      rcases Nat.lt_or_ge i cs.size with g | g
      · exact g
      · have g2 := H.out.hi; rw [Array.getElem?_eq_none g] at g2; cases g2
    have hb5 : Blk (w3.alloc (.cells (rowA dirtyK [] N) 92)) b t (cs.setIfInBounds i (.slice none 0 0)) := hb4.alloc _
    have hu5 : (w3.alloc (.cells (rowA dirtyK [] N) 92)).cell? ⟨b, i, none⟩ = some (.slice none 0 0) := (hb5.cell i).trans (by rw [Array.getElem?_setIfInBounds_self, if_pos hisz])
    have hz5 := hb5.free i
    have hnb : b ≠ G := by rw [← hG]; exact Nat.ne_of_lt hb4.lt
    obtain ⟨w5, hw5⟩ : ∃ w5, (w3.alloc (.cells (rowA dirtyK [] N) 92)).setCell ⟨b, i, none⟩ (.slice (some ⟨G, 0, none⟩) N N) = w5 := ⟨_, rfl⟩
    have hBb : Blk w5 b t (cs.setIfInBounds i (.slice (some ⟨G, 0, none⟩) N N)) := by
      rw [← hw5]
      have := hb5.put i (.slice (some ⟨G, 0, none⟩) N N)
      rwa [Array.setIfInBounds_setIfInBounds] at this
    have hBn : Blk (w3.alloc (.cells (rowA dirtyK [] N) 92)) G 92 (rowA dirtyK [] N) := by rw [← hG]; exact Blk.new w3 92 (rowA dirtyK [] N)
    have hBg : Blk w5 G 92 (rowA dirtyK [] N) := by rw [← hw5]; exact hBn.far (p := ⟨b, i, none⟩) (fun h => hnb h.symm) _
    have hF5 : Fr (fun k => k = q ∨ k = b) w w5 := by rw [← hw5]; exact (H5.out.2.2.2.alloc _).setCell _ _ (fun _ => .inr rfl)
    have hs5 : w5.heap.size = G + 1 := by rw [← hw5, setCell_size', ← hG]; simp
    have hR5 : RdAt w5 q (Cd.next r 256) F := by
      rw [← hw5]
      refine (H5.out.2.1.below ((Below.refl _ _).alloc (Nat.le_refl _) _)).keep (by rw [setCell_size']; exact Nat.le_refl _) (fun k hk => Below.heap_setCell _ ⟨b, i, none⟩ _ k (fun e => H.out.hn (by rw [← show k = b from e]; exact hk)))
    have hle3 : w.heap.size ≤ G := by rw [← hG]; exact H5.out.2.2.2.size
    have HX := Lib.hid (And.intro hBb (And.intro hF5 (And.intro hs5 (And.intro hnb (And.intro hle3 hisz)))))
    have H0 := Lib.hid (show CrTo w5 F q G 92 (rowA dirtyK [] N) (Cd.many dC (Cd.next r 256) 0).2 (.returned (.tuple #[])) w5 from ⟨rfl, hR5, hBg, Fr.refl _ _⟩)
    have HI := Lib.hid (And.intro hi0 (And.intro hz0 (And.intro hz1 hz2)))
    have HM := Lib.hid hmade
    clear hb4 hb5 hBb hBg hBn hF5 hR5 hi0 hz0 hz1 hz2 hmade hnb hs5 hle3
    go_wp2_with (at_make; refine wpList_make_row _ rfl _ _ 27 rfl 92 i0 _ rfl HI.out.1 HI.out.2.1 N rfl rfl (rowA dirtyK [] N) (by rw [HI.out.2.2.1]; exact HM.out) (by rw [HI.out.2.2.2]; have := HN.out.2; omega) (by have := HN.out.2; show N ≤ 9223372036854775807; omega) ?_)
    go_loopg [7, 31] N (fun gk _ ii wr => ∃ (k : Nat) (lk : List D), k ≤ N ∧ gk = N - k ∧ ii = .int .i64 k ∧ lk.length = k ∧ lk.map id = (Cd.many dC (Cd.next r 256) k).1 ∧ (∀ x ∈ lk, dirtyK.ok wr x ∧ (fun _ _ => True) w5.heap.size x) ∧ CrTo w5 F q G 92 (rowA dirtyK lk (N - k)) (Cd.many dC (Cd.next r 256) k).2 (.returned (.tuple #[])) wr)
    case atStart => exact ⟨0, [], by omega, by omega, rfl, rfl, rfl, fun x hx => absurd hx (by simp), H0.out⟩
    case round =>
      obtain ⟨k, lk, hk, rfl, rfl, hlk, hmap, hoks, hst⟩ := hrel
      clear H0
      by_cases hlt : k < N
      · obtain ⟨_, h1, h2, h3⟩ := hst
        obtain ⟨m, hm⟩ : ∃ m, N - k = m + 1 := ⟨N - k - 1, by omega⟩
        rw [hm] at h2
        have hfx := H.out.hW.size
        have hnF : ¬ F G := fun h => by have g1 := H.out.bound _ h; have g2 := HX.out.2.2.2.2.1; omega
        have hnq : ¬ (b = q ∨ b = G) := fun h => by
          rcases h with h | h
          · exact H.out.hn (by rw [h]; exact H.out.self)
          · exact HX.out.2.2.2.1 h
        have c1 : wr.cell? ⟨b, i, none⟩ = some (.slice (some ⟨G, 0, none⟩) N N) := h3.cell hnq ((HX.out.1.cell i).trans (by rw [Array.getElem?_setIfInBounds_self, if_pos HX.out.2.2.2.2.2]))
        have hln : (Cd.many dC (Cd.next r 256) k).2.b.length ≤ 140737488351232 := Nat.le_trans (Cd.many_le dC (Cd.next r 256) k) (Nat.le_trans (Cd.try_le r _) H.out.hl)
        have hzz : ∀ j, j < 2 → (rowA dirtyK lk (m + 1))[k * 2 + j]? = (dirtyK.cells dirtyK.zero)[j]? := fun j hj => by have := rowA_zero hkk lk m j hj; rw [hlk] at this; exact this
        have hncb0 : ¬ (cb = q ∨ cb = G) := fun h => by
          rcases h with h | h
          · exact H.out.ncb (.inl h)
          · have g1 := H.out.cbl; have g2 := HX.out.2.2.2.2.1; omega
        have hco1 : CoR wr cb q := ((H.out.co.base H.out.hW.below H.out.cbl).fr HX.out.2.1 H.out.ncb).fr h3 hncb0
        have hncb : ¬ (cb = q ∨ cb = G) := hncb0
        have HJ := Lib.hid (cr_dirty q _ F G (k * 2) cb 92 _ wr h1 h2 hnF (by rw [rowA_size hkk]; have : dirtyK.k = 2 := rfl; rw [this, hlk]; omega) hco1 hncb hln)
        have H2 := Lib.hid (And.intro h3 (And.intro hmap (And.intro hoks (And.intro hlk hm))))
        clear h1 h2 h3 hmap hoks hm hnF hnq hln hzz hfx hncb0 hco1 hncb
        clear hlk
        go_wp2_with fail
        refine HJ.out.mono ?_
        intro e w6 h4
        have h5 := h4.1
        have H4 := Lib.hid h4
        clear h4
        subst h5
        go_wp2
        go_roundg (N - (k + 1))
        case rel =>
          have hmb : N ≤ 256 := HN.out.2
          have hm2 : N - (k + 1) = m := by have := H2.out.2.2.2.2; omega
          refine ⟨k + 1, lk ++ [(dC.dec (Cd.many dC (Cd.next r 256) k).2).1], by omega, by omega, congrArg (Value.int .i64) (by unfold wrap64; omega), by rw [List.length_append, H2.out.2.2.2.1]; rfl, ?_, ?_, ?_⟩
          · rw [List.map_append, H2.out.2.1]; rfl
          · intro x hx
            rcases List.mem_append.1 hx with y | y
            · exact ⟨(by have g := (H2.out.2.2.1 x y).1; first | exact g | trivial), trivial⟩
            · rw [List.mem_singleton] at y
              subst y
              exact ⟨((fun r => (⟨num_nOk r, num_nOk (nC.dec r).2⟩ : nOk (dC.dec r).1.page ∧ nOk (dC.dec r).1.rc)) (Cd.many dC (Cd.next r 256) k).2), trivial⟩
          · have hnx := rowA_next hkk lk m (dC.dec (Cd.many dC (Cd.next r 256) k).2).1
            rw [H2.out.2.2.2.1] at hnx
            skip
            rw [hm2, ← hnx]
            exact H4.out.then_ H2.out.1
        case measure => omega
      · obtain rfl : k = N := by omega
        have H2 := Lib.hid (And.intro hst (And.intro hlk (And.intro hmap hoks)))
        clear hst hlk hmap hoks
        go_wp2
        go_end0
        obtain ⟨hst, hlk, hmap, hoks⟩ := H2.out
        obtain ⟨_, h1, h2, h3⟩ := hst
        have hdec : dsC.dec r = Cd.many dC (Cd.next r 256) k := by
          show Cd.many dC (Cd.next r 256) (Cd.one r 256).toNat = _
          rw [HN.out.1]
          rfl
        have hnq : ¬ (b = q ∨ b = G) := fun h => by
          rcases h with h | h
          · exact H.out.hn (by rw [h]; exact H.out.self)
          · exact HX.out.2.2.2.1 h
        rw [Nat.sub_self] at h2
        refine ⟨some ⟨G, 0, none⟩, k, lk, rfl, ⟨rfl, by rw [hdec]; exact h1, by rw [hlk]; exact HX.out.1.keep (h3.block b HX.out.1.lt hnq), HX.out.2.1.trans h3 (fun j hj y => ?_)⟩, ST.of_rowA hkk h2 (fun x hx => (hoks x hx).1), by rw [hdec]; exact hmap, ⟨Nat.le_of_eq hlk, by have := HN.out.2; omega⟩, fun a ha => ?_, fun x hx => ?_⟩
        · rcases y with y | y
          · exact .inl y
          · have := HX.out.2.2.2.2.1; omega
        · injection ha with ha
          rw [← ha]
          exact HX.out.2.2.2.2.1
        · exact trivial
set_option maxHeartbeats 4000000 in
theorem cr_locks (q : Nat) (r : Sl.R) (F : Nat → Prop) (b i : Nat) (t : TypeId) (cs : Array Value) (A0 : Option Addr) (n0 c0 : Nat) (w : World) (hr : RdAt w q r F) (hbl : Blk w b t cs) (hn : ¬ F b) (hi : cs[i]? = some (.slice A0 n0 c0)) (hl : r.b.length ≤ 140737488351232) :
    Calls Try.prog 85 #[cr q, .pointer (some ⟨b, i, none⟩)] w (ErTo lockK id lsC (fun _ _ => True) w F q b i t cs r) := by
  obtain ⟨W, hW⟩ := crW w q
  have e := hW.eq
  have z0 : W.cell? ⟨w.heap.size, 0, none⟩ = some (.pointer none) := hW.c0
  have z1 : W.cell? ⟨w.heap.size, 1, none⟩ = some (.pointer (some ⟨q, 0, none⟩)) := hW.c1
  have HC := Lib.hid (er_lock q r F b i w.heap.size t cs A0 n0 c0 W (hr.below hW.below) (hbl.below hW.below hbl.lt) hn hi ⟨z0, z1⟩ (fun h => by
    rcases h with h | h
    · have := hr.bound q hr.self; omega
    · have := hbl.lt; omega) hl)
  have H := Lib.hid (And.intro hW.below (And.intro (hr.bound q hr.self) hbl.lt))
  clear hr hbl hn hi hl hW
  go_enter Try.func85, Try.ntmps85
  go_wp2_with fail
  refine HC.out.mono ?_
  intro e w1 h1
  have h2 := h1.unit
  have H1 := Lib.hid h1
  clear h1
  subst h2
  go_wp2
  go_end0
  exact H1.out.mono H.out.1 H.out.2.1 H.out.2.2 (fun _ _ _ _ _ => trivial)
end Go.Proofs.Ytlijfnekopjogaa

/- The coder reads: deeds (printed by gen_er.py). -/
namespace Go.Proofs.Ytlijfnekopjogaa
open Go Go.RowKit Mem Rc
set_option maxRecDepth 100000
set_option linter.unusedVariables false
set_option linter.unusedSimpArgs false

def DeD.ap (B : Nat) (x : DeD) : Prop := ∀ a, x.mA = some a → B ≤ a.block
def RwD.ap (B : Nat) (x : RwD) : Prop := (∀ a, x.mA = some a → B ≤ a.block) ∧ ∀ a, x.lA = some a → B ≤ a.block
theorem is_of_st {w : World} {A : Option Addr} {n : Nat} {l : List Int} (h : ST intK w A n l) : IS w A n l := by
  refine ⟨h.len, fun hn => ?_⟩
  obtain ⟨b, off, rfl, hb, hc⟩ := h.mem hn
  refine ⟨b, off, rfl, hb, fun j hj => ?_⟩
  have := hc j hj 0 (by decide)
  rw [show intK.k = 1 from rfl, Nat.mul_one, Nat.add_zero] at this
  exact this
theorem okfr_deed {w w' : World} {x : DeD} {B : Nat} {G : Nat → Prop} (h : deedK.ok w x) (ha : DeD.ap B x) (hf : Fr G w w') (hG : ∀ k, G k → k < B) : deedK.ok w' x :=
  ⟨IS.fr (DeedOk.mem h) hf (fun a e g => by have := ha a e; have := hG _ g; omega), DeedOk.mc h⟩
theorem apmono_deed {x : DeD} {B B' : Nat} (h : DeD.ap B x) (hb : B' ≤ B) : DeD.ap B' x := fun a e => Nat.le_trans hb (h a e)
theorem okfr_row {w w' : World} {x : RwD} {B : Nat} {G : Nat → Prop} (h : rowK.ok w x) (ha : RwD.ap B x) (hf : Fr G w w') (hG : ∀ k, G k → k < B) : rowK.ok w' x :=
  ⟨IS.fr (RowOk.mem h) hf (fun a e g => by have := ha.1 a e; have := hG _ g; omega), ST.fr (RowOk.locks h) hf (fun a e g => by have := ha.2 a e; have := hG _ g; omega) (RowOk.locks h).ok, RowOk.mc h, RowOk.lc h⟩
theorem apmono_row {x : RwD} {B B' : Nat} (h : RwD.ap B x) (hb : B' ≤ B) : RwD.ap B' x := ⟨fun a e => Nat.le_trans hb (h.1 a e), fun a e => Nat.le_trans hb (h.2 a e)⟩
/-- what a call leaves that reads an element with lists of its own -/
def ItTo {α β : Type} (K : Kind_ α) (f : α → β) (C : Cd.Cod β) (Ap : Nat → α → Prop) (w : World) (F : Nat → Prop) (q b i : Nat) (t : TypeId) (cs : Array Value) (r : Sl.R) (e : Ending) (w' : World) : Prop :=
  ∃ x : α, f x = (C.dec r).1 ∧ K.ok w' x ∧ Ap w.heap.size x ∧ CrTo w F q b t (setMany cs i (K.cells x)) (C.dec r).2 e w'
set_option maxHeartbeats 4000000 in
theorem cr_deed (q : Nat) (r : Sl.R) (F : Nat → Prop) (b i cb : Nat) (t : TypeId) (cs : Array Value) (w : World) (hr : RdAt w q r F) (hbl : Blk w b t cs) (hn : ¬ F b) (hi : i + 1 < cs.size) (hz : cs[i + 1]? = some (.slice none 0 0)) (hco : CoR w cb q) (hcb : ¬ (cb = q ∨ cb = b)) (hl : r.b.length ≤ 140737488351232) :
    Calls Try.prog 91 #[.pointer (some ⟨b, i, none⟩), .pointer (some ⟨cb, 0, none⟩)] w (ItTo deedK DeD.d deC DeD.ap w F q b i t cs r) := by
  have z0 : w.drew.cell? ⟨cb, 0, none⟩ = some (.pointer none) := hco.c0
  have z1 : w.drew.cell? ⟨cb, 1, none⟩ = some (.pointer (some ⟨q, 0, none⟩)) := hco.c1
  have HC := Lib.hid (cr_num q r F b i t cs w.drew (hr.below (Below.refl _ _).drew) hbl hn (by omega) hl)
  have H := Lib.hid (And.intro hn (And.intro hi (And.intro hcb (And.intro hl (And.intro hco (And.intro (hr.bound q hr.self) (And.intro hbl.lt hz)))))))
  clear hr hbl hn hi hco hcb hl hz
  go_enter Try.func91, Try.ntmps91
  go_wp2_with fail
  go_still_tail 4, (by kernel_rfl)
  go_wp2_with fail
  refine HC.out.mono ?_
  rintro e w2 ⟨rfl, h1, h2, h3⟩
  have hco := (H.out.2.2.2.2.1.below (Below.refl _ _).drew).fr h3 H.out.2.2.1
  have a0 : w2.drew.cell? ⟨cb, 0, none⟩ = some (.pointer none) := hco.c0
  have a1 : w2.drew.cell? ⟨cb, 1, none⟩ = some (.pointer (some ⟨q, 0, none⟩)) := hco.c1
  have HK := Lib.hid (cr_ints q (nC.dec r).2 F b (i + 1) t _ none 0 0 w2.drew (h1.below (Below.refl _ _).drew) h2 H.out.1 (by rw [Array.getElem?_setIfInBounds_ne (by omega)]; exact H.out.2.2.2.2.2.2.2) (Nat.le_trans (nC.le r) H.out.2.2.2.1))
  have H2 := Lib.hid h3
  clear h1 h2 h3 hco z0 z1
  go_wp2_with fail
  go_still_tail 4, (by kernel_rfl)
  go_wp2_with fail
  refine HK.out.mono ?_
  rintro e w3 ⟨A, c, l, rfl, g1, g2, g3, g4, g5, g6⟩
  have H4 := Lib.hid (And.intro g1 (And.intro g2 (And.intro g3 (And.intro g4 g5))))
  clear g1 g2 g3 g4 g5 g6
  go_wp2
  go_end0
  obtain ⟨g1, g2, g3, g4, g5⟩ := H4.out
  rw [List.map_id] at g3
  refine ⟨⟨⟨(nC.dec r).1, l⟩, A, c⟩, ?_, ⟨is_of_st g2, g4⟩, fun a ha => Nat.le_trans (show w.heap.size ≤ w2.heap.size from H2.out.size) (g5 a ha), (g1.then_ (H2.out.drew 1)).mono (Below.refl _ _).drew H.out.2.2.2.2.2.1 H.out.2.2.2.2.2.2.1⟩
  rw [show (deC.dec r).1 = ⟨(nC.dec r).1, (iC.dec (nC.dec r).2).1⟩ from rfl, ← g3]
structure Erdeed (w W : World) (F : Nat → Prop) (q b i : Nat) (cb : Nat) (t : TypeId) (cs : Array Value) (r : Sl.R) (A0 : Option Addr) (n0 c0 : Nat) : Prop where
  hW : CrW w q W
  hq : q < w.heap.size
  hb : b < w.heap.size
  hn : ¬ F b
  bound : ∀ k, F k → k < w.heap.size
  self : F q
  hFw : ¬ (w.heap.size = q ∨ w.heap.size = b)
  hbl : Blk w b t cs
  hi : cs[i]? = some (.slice A0 n0 c0)
  hl : r.b.length ≤ 140737488351232
  co : CoR W cb q
  ncb : ¬ (cb = q ∨ cb = b)
  cbl : cb < w.heap.size
set_option maxHeartbeats 8000000 in
theorem er_deed (q : Nat) (r : Sl.R) (F : Nat → Prop) (b i : Nat) (cb : Nat) (t : TypeId) (cs : Array Value) (A0 : Option Addr) (n0 c0 : Nat) (w : World) (hr : RdAt w q r F) (hbl : Blk w b t cs) (hn : ¬ F b) (hi : cs[i]? = some (.slice A0 n0 c0)) (hco : CoR w cb q) (hncb : ¬ (cb = q ∨ cb = b)) (hl : r.b.length ≤ 140737488351232) :
    Calls Try.prog 90 #[cr q, .pointer (some ⟨b, i, none⟩), .func (.func 91) #[] #[.pointer (some ⟨cb, 0, none⟩)]] w (ErTo deedK DeD.d desC DeD.ap w F q b i t cs r) := by
  obtain ⟨W, hW⟩ := crW w q
  have e := hW.eq
  have z0 : W.cell? ⟨w.heap.size, 0, none⟩ = some (.pointer none) := hW.c0
  have z1 : W.cell? ⟨w.heap.size, 1, none⟩ = some (.pointer (some ⟨q, 0, none⟩)) := hW.c1
  have ci : W.cell? ⟨b, i, none⟩ = some (.slice A0 n0 c0) := ((hbl.below hW.below hbl.lt).cell i).trans hi
  have HC := Lib.hid (show Calls Try.prog 44 #[.pointer (some ⟨q, 0, none⟩), .int .i64 256] W (RdTo W F q (.int .i64 (Cd.one r 256)) (Cd.next r 256)) from rnum_any q r F 256 W (hr.below hW.below) (by decide) hl)
  have H := Lib.hid (Erdeed.mk hW (hr.bound q hr.self) hbl.lt hn hr.bound hr.self (fun h => by
    rcases h with h | h
    · have := hr.bound q hr.self; omega
    · have := hbl.lt; omega) hbl hi hl (hco.below hW.below) hncb (World.block_lt_of_cell? w _ hco.c0))
  have hcf := enters Try.func91 (by decide) rfl
  have hN := Cd.one_bound r 256 (by omega) (by omega)
  obtain ⟨N, hNe⟩ := Int.eq_ofNat_of_zero_le hN.1
  have HN := Lib.hid (And.intro hNe (show N ≤ 256 by rw [hNe] at hN; omega))
  rw [hNe] at HC
  clear hr hbl hn hi hl hW hN hNe hco hncb
  go_enter Try.func90, Try.ntmps90
  go_wp2_with fail
  refine HC.out.mono ?_
  intro e w2 h2
  obtain ⟨h3, h4, h5⟩ := cr_set (i := i) (u := .slice none 0 0) H.out.hW.below H.out.hbl h2 H.out.self H.out.hn
  subst h3
  have hu : w2.cell? ⟨b, i, none⟩ = some (.slice A0 n0 c0) := (h4.cell i).trans H.out.hi
  have hz := h4.free i
  obtain ⟨w3, hw3⟩ : ∃ w3, w2.setCell ⟨b, i, none⟩ (.slice none 0 0) = w3 := ⟨_, rfl⟩
  rw [hw3] at h5
  have H5 := Lib.hid h5
  obtain ⟨G, hG⟩ : ∃ G, w3.heap.size = G := ⟨_, rfl⟩
  have hG2 : w2.heap.size = G := by rw [← hG, ← hw3, setCell_size']
  clear h2 h4 h5
  rcases Nat.eq_zero_or_pos N with rfl | hpos
  · have hd : decide ((0 : Int) < ((0 : Nat) : Int)) = false := by decide
    go_wp2_with fail
    go_loopg [7, 31] 0 (fun gk _ i wr => gk = 0 ∧ i = .int .i64 0 ∧ wr = w3)
    case atStart => exact ⟨rfl, rfl, rfl⟩
    case round =>
      obtain ⟨rfl, rfl, rfl⟩ := hrel
      go_wp2
      go_end0
      have hdec : desC.dec r = ([], Cd.next r 256) := by
        show Cd.many deC (Cd.next r 256) (Cd.one r 256).toNat = _
        rw [HN.out.1]
        rfl
      refine ⟨none, 0, [], rfl, by rw [hdec]; exact H5.out, ⟨rfl, fun x hx => absurd hx (by simp), fun h => absurd h (by simp)⟩, by rw [hdec]; rfl, ⟨Nat.le_refl _, Nat.zero_le _⟩, fun a ha => (by cases ha), fun x hx => absurd hx (by simp)⟩
  · have hd : decide ((0 : Int) < (N : Int)) = true := decide_eq_true (by omega)
    have hkk : ∀ x, (deedK.cells x).length = deedK.k := fun _ => rfl
    have hmade : madeCells #[.int .i64 0, .slice none 0 0] (N * 2) = rowA deedK [] N := rowA_made hkk (by decide) _ rfl N
    obtain ⟨i0, hi0, hz0, hz1, hz2⟩ := info_parts einfo_deed
    have hb4 : Blk w3 b t (cs.setIfInBounds i (.slice none 0 0)) := H5.out.2.2.1
    have hisz : i < cs.size := by
      rcases Nat.lt_or_ge i cs.size with g | g
      · exact g
      · have g2 := H.out.hi; rw [Array.getElem?_eq_none g] at g2; cases g2
    have hb5 : Blk (w3.alloc (.cells (rowA deedK [] N) 54)) b t (cs.setIfInBounds i (.slice none 0 0)) := hb4.alloc _
    have hu5 : (w3.alloc (.cells (rowA deedK [] N) 54)).cell? ⟨b, i, none⟩ = some (.slice none 0 0) := (hb5.cell i).trans (by rw [Array.getElem?_setIfInBounds_self, if_pos hisz])
    have hz5 := hb5.free i
    have hnb : b ≠ G := by rw [← hG]; exact Nat.ne_of_lt hb4.lt
    obtain ⟨w5, hw5⟩ : ∃ w5, (w3.alloc (.cells (rowA deedK [] N) 54)).setCell ⟨b, i, none⟩ (.slice (some ⟨G, 0, none⟩) N N) = w5 := ⟨_, rfl⟩
    have hBb : Blk w5 b t (cs.setIfInBounds i (.slice (some ⟨G, 0, none⟩) N N)) := by
      rw [← hw5]
      have := hb5.put i (.slice (some ⟨G, 0, none⟩) N N)
      rwa [Array.setIfInBounds_setIfInBounds] at this
    have hBn : Blk (w3.alloc (.cells (rowA deedK [] N) 54)) G 54 (rowA deedK [] N) := by rw [← hG]; exact Blk.new w3 54 (rowA deedK [] N)
    have hBg : Blk w5 G 54 (rowA deedK [] N) := by rw [← hw5]; exact hBn.far (p := ⟨b, i, none⟩) (fun h => hnb h.symm) _
    have hF5 : Fr (fun k => k = q ∨ k = b) w w5 := by rw [← hw5]; exact (H5.out.2.2.2.alloc _).setCell _ _ (fun _ => .inr rfl)
    have hs5 : w5.heap.size = G + 1 := by rw [← hw5, setCell_size', ← hG]; simp
    have hR5 : RdAt w5 q (Cd.next r 256) F := by
      rw [← hw5]
      refine (H5.out.2.1.below ((Below.refl _ _).alloc (Nat.le_refl _) _)).keep (by rw [setCell_size']; exact Nat.le_refl _) (fun k hk => Below.heap_setCell _ ⟨b, i, none⟩ _ k (fun e => H.out.hn (by rw [← show k = b from e]; exact hk)))
    have hle3 : w.heap.size ≤ G := by rw [← hG]; exact H5.out.2.2.2.size
    have HX := Lib.hid (And.intro hBb (And.intro hF5 (And.intro hs5 (And.intro hnb (And.intro hle3 hisz)))))
    have H0 := Lib.hid (show CrTo w5 F q G 54 (rowA deedK [] N) (Cd.many deC (Cd.next r 256) 0).2 (.returned (.tuple #[])) w5 from ⟨rfl, hR5, hBg, Fr.refl _ _⟩)
    have HI := Lib.hid (And.intro hi0 (And.intro hz0 (And.intro hz1 hz2)))
    have HM := Lib.hid hmade
    clear hb4 hb5 hBb hBg hBn hF5 hR5 hi0 hz0 hz1 hz2 hmade hnb hs5 hle3
    go_wp2_with (at_make; refine wpList_make_row _ rfl _ _ 28 rfl 54 i0 _ rfl HI.out.1 HI.out.2.1 N rfl rfl (rowA deedK [] N) (by rw [HI.out.2.2.1]; exact HM.out) (by rw [HI.out.2.2.2]; have := HN.out.2; omega) (by have := HN.out.2; show N ≤ 9223372036854775807; omega) ?_)
    go_loopg [7, 31] N (fun gk _ ii wr => ∃ (k : Nat) (lk : List DeD), k ≤ N ∧ gk = N - k ∧ ii = .int .i64 k ∧ lk.length = k ∧ lk.map DeD.d = (Cd.many deC (Cd.next r 256) k).1 ∧ (∀ x ∈ lk, deedK.ok wr x ∧ DeD.ap w5.heap.size x) ∧ CrTo w5 F q G 54 (rowA deedK lk (N - k)) (Cd.many deC (Cd.next r 256) k).2 (.returned (.tuple #[])) wr)
    case atStart => exact ⟨0, [], by omega, by omega, rfl, rfl, rfl, fun x hx => absurd hx (by simp), H0.out⟩
    case round =>
      obtain ⟨k, lk, hk, rfl, rfl, hlk, hmap, hoks, hst⟩ := hrel
      clear H0
      by_cases hlt : k < N
      · obtain ⟨_, h1, h2, h3⟩ := hst
        obtain ⟨m, hm⟩ : ∃ m, N - k = m + 1 := ⟨N - k - 1, by omega⟩
        rw [hm] at h2
        have hfx := H.out.hW.size
        have hnF : ¬ F G := fun h => by have g1 := H.out.bound _ h; have g2 := HX.out.2.2.2.2.1; omega
        have hnq : ¬ (b = q ∨ b = G) := fun h => by
          rcases h with h | h
          · exact H.out.hn (by rw [h]; exact H.out.self)
          · exact HX.out.2.2.2.1 h
        have c1 : wr.cell? ⟨b, i, none⟩ = some (.slice (some ⟨G, 0, none⟩) N N) := h3.cell hnq ((HX.out.1.cell i).trans (by rw [Array.getElem?_setIfInBounds_self, if_pos HX.out.2.2.2.2.2]))
        have hln : (Cd.many deC (Cd.next r 256) k).2.b.length ≤ 140737488351232 := Nat.le_trans (Cd.many_le deC (Cd.next r 256) k) (Nat.le_trans (Cd.try_le r _) H.out.hl)
        have hzz : ∀ j, j < 2 → (rowA deedK lk (m + 1))[k * 2 + j]? = (deedK.cells deedK.zero)[j]? := fun j hj => by have := rowA_zero hkk lk m j hj; rw [hlk] at this; exact this
        have hncb0 : ¬ (cb = q ∨ cb = G) := fun h => by
          rcases h with h | h
          · exact H.out.ncb (.inl h)
          · have g1 := H.out.cbl; have g2 := HX.out.2.2.2.2.1; omega
        have hco1 : CoR wr cb q := ((H.out.co.base H.out.hW.below H.out.cbl).fr HX.out.2.1 H.out.ncb).fr h3 hncb0
        have hncb : ¬ (cb = q ∨ cb = G) := hncb0
        have HJ := Lib.hid (cr_deed q _ F G (k * 2) cb 54 _ wr h1 h2 hnF (by rw [rowA_size hkk]; have : deedK.k = 2 := rfl; rw [this, hlk]; omega) (hzz 1 (by decide)) hco1 hncb hln)
        have H2 := Lib.hid (And.intro h3 (And.intro hmap (And.intro hoks (And.intro hlk hm))))
        clear h1 h2 h3 hmap hoks hm hnF hnq hln hzz hfx hncb0 hco1 hncb
        clear hlk
        go_wp2_with fail
        refine HJ.out.mono ?_
        rintro e w6 ⟨x, hxe, hxok, hxap, h4⟩
        have h5 := h4.1
        have H4 := Lib.hid (And.intro h4 (And.intro hxe (And.intro hxok hxap)))
        clear h4 hxe hxok hxap
        subst h5
        go_wp2
        go_roundg (N - (k + 1))
        case rel =>
          have hmb : N ≤ 256 := HN.out.2
          have hm2 : N - (k + 1) = m := by have := H2.out.2.2.2.2; omega
          have hsz : w5.heap.size ≤ wr.heap.size := H2.out.1.size
          refine ⟨k + 1, lk ++ [x], by omega, by omega, congrArg (Value.int .i64) (by unfold wrap64; omega), by rw [List.length_append, H2.out.2.2.2.1]; rfl, ?_, ?_, ?_⟩
          · rw [List.map_append, H2.out.2.1, List.map_cons, H4.out.2.1]; rfl
          · intro y hy
            rcases List.mem_append.1 hy with g | g
            · have g1 := H2.out.2.2.1 y g
              exact ⟨okfr_deed g1.1 g1.2 H4.out.1.2.2.2 (fun j hj => by
                rcases hj with hj | hj
                · have := H.out.hq; have := HX.out.2.2.2.2.1; have := HX.out.2.2.1; omega
                · have := HX.out.2.2.1; omega), g1.2⟩
            · rw [List.mem_singleton] at g
              subst g
              exact ⟨H4.out.2.2.1, apmono_deed H4.out.2.2.2 hsz⟩
          · have hnx := rowA_next hkk lk m x
            rw [H2.out.2.2.2.1] at hnx
            rw [hm2, ← hnx]
            exact H4.out.1.then_ H2.out.1
        case measure => omega
      · obtain rfl : k = N := by omega
        have H2 := Lib.hid (And.intro hst (And.intro hlk (And.intro hmap hoks)))
        clear hst hlk hmap hoks
        go_wp2
        go_end0
        obtain ⟨hst, hlk, hmap, hoks⟩ := H2.out
        obtain ⟨_, h1, h2, h3⟩ := hst
        have hdec : desC.dec r = Cd.many deC (Cd.next r 256) k := by
          show Cd.many deC (Cd.next r 256) (Cd.one r 256).toNat = _
          rw [HN.out.1]
          rfl
        have hnq : ¬ (b = q ∨ b = G) := fun h => by
          rcases h with h | h
          · exact H.out.hn (by rw [h]; exact H.out.self)
          · exact HX.out.2.2.2.1 h
        rw [Nat.sub_self] at h2
        refine ⟨some ⟨G, 0, none⟩, k, lk, rfl, ⟨rfl, by rw [hdec]; exact h1, by rw [hlk]; exact HX.out.1.keep (h3.block b HX.out.1.lt hnq), HX.out.2.1.trans h3 (fun j hj y => ?_)⟩, ST.of_rowA hkk h2 (fun x hx => (hoks x hx).1), by rw [hdec]; exact hmap, ⟨Nat.le_of_eq hlk, by have := HN.out.2; omega⟩, fun a ha => ?_, fun x hx => ?_⟩
        · rcases y with y | y
          · exact .inl y
          · have := HX.out.2.2.2.2.1; omega
        · injection ha with ha
          rw [← ha]
          exact HX.out.2.2.2.2.1
        · exact apmono_deed (hoks x hx).2 (by have := HX.out.2.2.2.2.1; have := HX.out.2.2.1; omega)
end Go.Proofs.Ytlijfnekopjogaa

/- The coder reads: rows (printed by gen_er.py). -/
namespace Go.Proofs.Ytlijfnekopjogaa
open Go Go.RowKit Mem Rc
set_option maxRecDepth 100000
set_option linter.unusedVariables false
set_option linter.unusedSimpArgs false

theorem pair_dec {α β : Type} (A : Cd.Cod α) (B : Cd.Cod β) (r : Sl.R) : (Cd.pair A B).dec r = (((A.dec r).1, (B.dec (A.dec r).2).1), (B.dec (A.dec r).2).2) := rfl
theorem as_dec {α β : Type} (A : Cd.Cod α) (f : α → β) (g : β → α) (h : ∀ a, g (f a) = a) (r : Sl.R) : (as_ A f g h).dec r = (f (A.dec r).1, (A.dec r).2) := rfl
theorem rw_dec (r : Sl.R) : rwC.dec r = (⟨(nC.dec r).1, (nC.dec (Cd.many nC r 1).2).1, (nC.dec (Cd.many nC r 2).2).1, (nC.dec (Cd.many nC r 3).2).1, (nC.dec (Cd.many nC r 4).2).1, (nC.dec (Cd.many nC r 5).2).1, (iC.dec (Cd.many nC r 6).2).1, (lsC.dec (iC.dec (Cd.many nC r 6).2).2).1⟩, (lsC.dec (iC.dec (Cd.many nC r 6).2).2).2) := by
  unfold rwC
  rw [as_dec]
  simp only [pair_dec, Cd.many]
theorem row_set (cs : Array Value) (i : Nat) (r : Sl.R) (A B : Option Addr) (c d : Nat) (l : List Int) (m : List L) : ((numsTo cs [i, i + 1, i + 2, i + 3, i + 4, i + 5] r 6).setIfInBounds (i + 6) (.slice A l.length c)).setIfInBounds (i + 7) (.slice B m.length d) = setMany cs i (rowK.cells (⟨⟨(nC.dec r).1, (nC.dec (Cd.many nC r 1).2).1, (nC.dec (Cd.many nC r 2).2).1, (nC.dec (Cd.many nC r 3).2).1, (nC.dec (Cd.many nC r 4).2).1, (nC.dec (Cd.many nC r 5).2).1, l, m⟩, A, c, B, d⟩)) := by
  simp only [numsTo, List.getD_cons_zero, List.getD_cons_succ, rowK, setMany, Cd.many]
structure CrRow (w W : World) (F : Nat → Prop) (q b i : Nat) (cs : Array Value) (r : Sl.R) : Prop where
  hW : CrW w q W
  hq : q < w.heap.size
  hb : b < w.heap.size
  hn : ¬ F b
  hi : i + 7 < cs.size
  z6 : cs[i + 6]? = some (.slice none 0 0)
  z7 : cs[i + 7]? = some (.slice none 0 0)
  hFw : ¬ (w.heap.size = q ∨ w.heap.size = b)
  hl : r.b.length ≤ 140737488351232
set_option maxHeartbeats 8000000 in
theorem cr_row (q : Nat) (r : Sl.R) (F : Nat → Prop) (b i : Nat) (t : TypeId) (cs : Array Value) (w : World) (hr : RdAt w q r F) (hbl : Blk w b t cs) (hn : ¬ F b) (hi : i + 7 < cs.size) (h6z : cs[i + 6]? = some (.slice none 0 0)) (h7z : cs[i + 7]? = some (.slice none 0 0)) (hl : r.b.length ≤ 140737488351232) :
    Calls Try.prog 87 #[cr q, .pointer (some ⟨b, i, none⟩)] w (ItTo rowK RwD.r rwC RwD.ap w F q b i t cs r) := by
  obtain ⟨W, hW⟩ := crW w q
  have e := hW.eq
  have z0 := hW.c0
  have z1 := hW.c1
  have hbW : Below w.heap.size w (W.alloc (.cells #[.pointer (some ⟨b, i, none⟩), .pointer (some ⟨b, i + 1, none⟩), .pointer (some ⟨b, i + 2, none⟩), .pointer (some ⟨b, i + 3, none⟩), .pointer (some ⟨b, i + 4, none⟩), .pointer (some ⟨b, i + 5, none⟩)] 117)).drew := (hW.below.alloc hW.below.size _).drew
  have hFw : ¬ (w.heap.size = q ∨ w.heap.size = b) := fun h => by
    rcases h with h | h
    · have := hr.bound q hr.self; omega
    · have := hbl.lt; omega
  have hg : ¬ (W.heap.size = q ∨ W.heap.size = b) := fun h => by
    rcases h with h | h
    · have := hr.bound q hr.self; have := hW.size; omega
    · have := hbl.lt; have := hW.size; omega
  have hp : ∀ k, k < 6 → (W.alloc (.cells #[.pointer (some ⟨b, i, none⟩), .pointer (some ⟨b, i + 1, none⟩), .pointer (some ⟨b, i + 2, none⟩), .pointer (some ⟨b, i + 3, none⟩), .pointer (some ⟨b, i + 4, none⟩), .pointer (some ⟨b, i + 5, none⟩)] 117)).drew.cell? ⟨W.heap.size, k, none⟩ = some (.pointer (some ⟨b, [i, i + 1, i + 2, i + 3, i + 4, i + 5].getD k 0, none⟩)) := fun k hk => match k, hk with
    | 0, _ => (Blk.new W 117 #[.pointer (some ⟨b, i, none⟩), .pointer (some ⟨b, i + 1, none⟩), .pointer (some ⟨b, i + 2, none⟩), .pointer (some ⟨b, i + 3, none⟩), .pointer (some ⟨b, i + 4, none⟩), .pointer (some ⟨b, i + 5, none⟩)]).cell 0
    | 1, _ => (Blk.new W 117 #[.pointer (some ⟨b, i, none⟩), .pointer (some ⟨b, i + 1, none⟩), .pointer (some ⟨b, i + 2, none⟩), .pointer (some ⟨b, i + 3, none⟩), .pointer (some ⟨b, i + 4, none⟩), .pointer (some ⟨b, i + 5, none⟩)]).cell 1
    | 2, _ => (Blk.new W 117 #[.pointer (some ⟨b, i, none⟩), .pointer (some ⟨b, i + 1, none⟩), .pointer (some ⟨b, i + 2, none⟩), .pointer (some ⟨b, i + 3, none⟩), .pointer (some ⟨b, i + 4, none⟩), .pointer (some ⟨b, i + 5, none⟩)]).cell 2
    | 3, _ => (Blk.new W 117 #[.pointer (some ⟨b, i, none⟩), .pointer (some ⟨b, i + 1, none⟩), .pointer (some ⟨b, i + 2, none⟩), .pointer (some ⟨b, i + 3, none⟩), .pointer (some ⟨b, i + 4, none⟩), .pointer (some ⟨b, i + 5, none⟩)]).cell 3
    | 4, _ => (Blk.new W 117 #[.pointer (some ⟨b, i, none⟩), .pointer (some ⟨b, i + 1, none⟩), .pointer (some ⟨b, i + 2, none⟩), .pointer (some ⟨b, i + 3, none⟩), .pointer (some ⟨b, i + 4, none⟩), .pointer (some ⟨b, i + 5, none⟩)]).cell 4
    | 5, _ => (Blk.new W 117 #[.pointer (some ⟨b, i, none⟩), .pointer (some ⟨b, i + 1, none⟩), .pointer (some ⟨b, i + 2, none⟩), .pointer (some ⟨b, i + 3, none⟩), .pointer (some ⟨b, i + 4, none⟩), .pointer (some ⟨b, i + 5, none⟩)]).cell 5
  have hlt : ∀ k, k < 6 → [i, i + 1, i + 2, i + 3, i + 4, i + 5].getD k 0 < cs.size := fun k hk => match k, hk with
    | 0, _ => by show i < cs.size; omega
    | 1, _ => by show i + 1 < cs.size; omega
    | 2, _ => by show i + 2 < cs.size; omega
    | 3, _ => by show i + 3 < cs.size; omega
    | 4, _ => by show i + 4 < cs.size; omega
    | 5, _ => by show i + 5 < cs.size; omega
  have HC := Lib.hid (cr_nums q r F W.heap.size b 6 [i, i + 1, i + 2, i + 3, i + 4, i + 5] 6 t cs (W.alloc (.cells #[.pointer (some ⟨b, i, none⟩), .pointer (some ⟨b, i + 1, none⟩), .pointer (some ⟨b, i + 2, none⟩), .pointer (some ⟨b, i + 3, none⟩), .pointer (some ⟨b, i + 4, none⟩), .pointer (some ⟨b, i + 5, none⟩)] 117)).drew (hr.below hbW) (hbl.below hbW hbl.lt) hn hg hp hlt hl (by decide))
  have H := Lib.hid (CrRow.mk hW (hr.bound q hr.self) hbl.lt hn hi h6z h7z hFw hl)
  have HB := Lib.hid hbW
  clear hr hbl hn hi h6z h7z hl hp hlt hFw hg hbW hW
  go_enter Try.func87, Try.ntmps87
  go_wp2_with fail
  refine wp_region_held_drew (S := (fun w' => w'.cell? ⟨w.heap.size, 0, none⟩ = some (.pointer none) ∧ w'.cell? ⟨w.heap.size, 1, none⟩ = some (.pointer (some ⟨q, 0, none⟩)))) (by kernel_rfl) ⟨z0, z1⟩ (fun hHeld => ?_)
  refine tk 0 4 (v := cr q) (h := ?_)
  refine tk 1 5 (v := .pointer (some ⟨b, i, none⟩)) (h := ?_)
  refine tk 2 6 (v := .pointer (some ⟨b, i, none⟩)) (h := ?_)
  refine tk 3 7 (v := .pointer (some ⟨b, i, none⟩)) (h := ?_)
  refine tk 4 8 (v := .pointer (some ⟨b, i, none⟩)) (h := ?_)
  refine tk 5 9 (v := .pointer (some ⟨b, i, none⟩)) (h := ?_)
  refine tk 6 10 (v := .pointer (some ⟨b, i + 1, none⟩)) (h := ?_)
  refine tk 7 11 (v := .pointer (some ⟨b, i, none⟩)) (h := ?_)
  refine tk 8 12 (v := .pointer (some ⟨b, i, none⟩)) (h := ?_)
  refine tk 9 13 (v := .pointer (some ⟨b, i + 2, none⟩)) (h := ?_)
  refine tk 10 14 (v := .pointer (some ⟨b, i, none⟩)) (h := ?_)
  refine tk 11 15 (v := .pointer (some ⟨b, i, none⟩)) (h := ?_)
  refine tk 12 16 (v := .pointer (some ⟨b, i + 3, none⟩)) (h := ?_)
  refine tk 13 17 (v := .pointer (some ⟨b, i, none⟩)) (h := ?_)
  refine tk 14 18 (v := .pointer (some ⟨b, i, none⟩)) (h := ?_)
  refine tk 15 19 (v := .pointer (some ⟨b, i + 4, none⟩)) (h := ?_)
  refine tk 16 20 (v := .pointer (some ⟨b, i, none⟩)) (h := ?_)
  refine tk 17 21 (v := .pointer (some ⟨b, i, none⟩)) (h := ?_)
  refine tk 18 22 (v := .pointer (some ⟨b, i + 5, none⟩)) (h := ?_)
  refine wpAnyH_ready (rs := [19]) (by kernel_rfl) (by simp) ?_
  refine AllReadyH.cons rfl (fun K hK => ?_) AllReadyH.nil
  go_simp
  refine hK.out _ _ ⟨cell_alloc_some' _ z0, cell_alloc_some' _ z1⟩ (fun hHeld => ?_)
  clear hK K
  try simp only [Act.put, List.setIfInBounds_toArray, List.set_cons_zero, List.set_cons_succ]
  refine wpAnyH_ready (rs := [20]) (by kernel_rfl) (by simp) ?_
  refine AllReadyH.cons rfl (fun K hK => ?_) AllReadyH.nil
  go_simp
  refine HC.out.mono ?_
  rintro e w2 ⟨rfl, h1, h2, h3⟩
  have hco : CoR w2 w.heap.size q := ((CoR.mk z0 z1).below ((Below.refl _ _).alloc (Nat.le_refl _) _)).fr h3 H.out.hFw
  refine hK.out _ _ ⟨hco.c0, hco.c1⟩ (fun hHeld => ?_)
  clear hK K
  try simp only [Act.put, List.setIfInBounds_toArray, List.set_cons_zero, List.set_cons_succ]
  refine wpAnyH_done (by kernel_rfl) ?_ _
  have a0 : w2.drew.cell? ⟨w.heap.size, 0, none⟩ = some (.pointer none) := hco.c0
  have a1 : w2.drew.cell? ⟨w.heap.size, 1, none⟩ = some (.pointer (some ⟨q, 0, none⟩)) := hco.c1
  have hn6 : (numsTo cs [i, i + 1, i + 2, i + 3, i + 4, i + 5] r 6)[i + 6]? = some (.slice none 0 0) := by
    rw [← H.out.z6]
    simp only [numsTo, List.getD_cons_zero, List.getD_cons_succ]
    repeat rw [Array.getElem?_setIfInBounds_ne (by omega)]
  have hn7 : (numsTo cs [i, i + 1, i + 2, i + 3, i + 4, i + 5] r 6)[i + 7]? = some (.slice none 0 0) := by
    rw [← H.out.z7]
    simp only [numsTo, List.getD_cons_zero, List.getD_cons_succ]
    repeat rw [Array.getElem?_setIfInBounds_ne (by omega)]
  have HK := Lib.hid (cr_ints q (Cd.many nC r 6).2 F b (i + 6) t (numsTo cs [i, i + 1, i + 2, i + 3, i + 4, i + 5] r 6) none 0 0 w2.drew (h1.below (Below.refl _ _).drew) h2 H.out.hn hn6 (Nat.le_trans (Cd.many_le nC r 6) H.out.hl))
  have H2 := Lib.hid (And.intro h3 (And.intro hco hn7))
  clear h1 h2 h3 hco hn6 hn7 z0 z1
  try clear hHeld
  go_wp2_with fail
  go_still_tail 4, (by kernel_rfl)
  go_wp2_with fail
  refine HK.out.mono ?_
  rintro e w3 ⟨A, c, l, rfl, ⟨_, k1, k2, k3⟩, g2, g3, g4, g5, g6⟩
  have hco2 := (H2.out.2.1.below (Below.refl _ _).drew).fr k3 H.out.hFw
  have b0 : w3.drew.cell? ⟨w.heap.size, 0, none⟩ = some (.pointer none) := hco2.c0
  have b1 : w3.drew.cell? ⟨w.heap.size, 1, none⟩ = some (.pointer (some ⟨q, 0, none⟩)) := hco2.c1
  have HL := Lib.hid (cr_locks q (iC.dec (Cd.many nC r 6).2).2 F b (i + 7) t _ none 0 0 w3.drew (k1.below (Below.refl _ _).drew) k2 H.out.hn (by rw [Array.getElem?_setIfInBounds_ne (by omega)]; exact H2.out.2.2) (Nat.le_trans (iC.le _) (Nat.le_trans (Cd.many_le nC r 6) H.out.hl)))
  have H3 := Lib.hid (And.intro k3 (And.intro g2 (And.intro g3 (And.intro g4 g5))))
  clear k1 k2 k3 g2 g3 g4 g5 g6 hco2 a0 a1
  go_wp2_with fail
  go_still_tail 4, (by kernel_rfl)
  go_wp2_with fail
  refine HL.out.mono ?_
  rintro e w4 ⟨B, d, m, rfl, j1, j2, j3, j4, j5, j6⟩
  have H4 := Lib.hid (And.intro j1 (And.intro j2 (And.intro j3 (And.intro j4 j5))))
  clear j1 j2 j3 j4 j5 j6
  go_wp2
  go_end0
  obtain ⟨k3, g2, g3, g4, g5⟩ := H3.out
  obtain ⟨j1, j2, j3, j4, j5⟩ := H4.out
  rw [List.map_id] at g3 j3
  have hs2 : w.heap.size ≤ w2.heap.size := Nat.le_trans HB.out.size H2.out.1.size
  have hs3 : w2.heap.size ≤ w3.heap.size := k3.size
  have hq2 : q < w2.heap.size := Nat.lt_of_lt_of_le H.out.hq hs2
  have hb2 : b < w2.heap.size := Nat.lt_of_lt_of_le H.out.hb hs2
  have hf : Fr (fun k => k = q ∨ k = b) w3 w4 := ((Fr.refl (fun k => k = q ∨ k = b) w3).drew 1).trans j1.2.2.2 (fun _ _ x => x)
  have hm : IS w4 A l.length l := IS.fr (is_of_st g2) hf (fun a e g => by
    have g7 : w2.heap.size ≤ a.block := g5 a e
    have g8 : a.block = q ∨ a.block = b := g
    rcases g8 with g8 | g8 <;> omega)
  have y := (((j1.then_ (k3.drew 1)).then_ (H2.out.1.drew 1)).mono HB.out H.out.hq H.out.hb)
  rw [row_set] at y
  have hap : RwD.ap w.heap.size (⟨⟨(nC.dec r).1, (nC.dec (Cd.many nC r 1).2).1, (nC.dec (Cd.many nC r 2).2).1, (nC.dec (Cd.many nC r 3).2).1, (nC.dec (Cd.many nC r 4).2).1, (nC.dec (Cd.many nC r 5).2).1, l, m⟩, A, c, B, d⟩) := ⟨fun a ha => Nat.le_trans hs2 (g5 a ha), fun a ha => Nat.le_trans hs2 (Nat.le_trans hs3 (j5 a ha))⟩
  have hok : RowOk w4 (⟨⟨(nC.dec r).1, (nC.dec (Cd.many nC r 1).2).1, (nC.dec (Cd.many nC r 2).2).1, (nC.dec (Cd.many nC r 3).2).1, (nC.dec (Cd.many nC r 4).2).1, (nC.dec (Cd.many nC r 5).2).1, l, m⟩, A, c, B, d⟩) := ⟨hm, j2, g4, j4⟩
  have hx : RwD.r (⟨⟨(nC.dec r).1, (nC.dec (Cd.many nC r 1).2).1, (nC.dec (Cd.many nC r 2).2).1, (nC.dec (Cd.many nC r 3).2).1, (nC.dec (Cd.many nC r 4).2).1, (nC.dec (Cd.many nC r 5).2).1, l, m⟩, A, c, B, d⟩) = (rwC.dec r).1 := by rw [rw_dec, ← g3, ← j3]
  have hr2 : (lsC.dec (iC.dec (Cd.many nC r 6).2).2).2 = (rwC.dec r).2 := by rw [rw_dec]
  rw [hr2] at y
  exact ⟨_, hx, hok, hap, y⟩
end Go.Proofs.Ytlijfnekopjogaa

/- The coder reads: rows (printed by gen_er.py). -/
namespace Go.Proofs.Ytlijfnekopjogaa
open Go Go.RowKit Mem Rc
set_option maxRecDepth 100000
set_option linter.unusedVariables false
set_option linter.unusedSimpArgs false

structure Errow (w W : World) (F : Nat → Prop) (q b i : Nat) (t : TypeId) (cs : Array Value) (r : Sl.R) (A0 : Option Addr) (n0 c0 : Nat) : Prop where
  hW : CrW w q W
  hq : q < w.heap.size
  hb : b < w.heap.size
  hn : ¬ F b
  bound : ∀ k, F k → k < w.heap.size
  self : F q
  hFw : ¬ (w.heap.size = q ∨ w.heap.size = b)
  hbl : Blk w b t cs
  hi : cs[i]? = some (.slice A0 n0 c0)
  hl : r.b.length ≤ 140737488351232
set_option maxHeartbeats 8000000 in
theorem er_row (q : Nat) (r : Sl.R) (F : Nat → Prop) (b i : Nat) (t : TypeId) (cs : Array Value) (A0 : Option Addr) (n0 c0 : Nat) (w : World) (hr : RdAt w q r F) (hbl : Blk w b t cs) (hn : ¬ F b) (hi : cs[i]? = some (.slice A0 n0 c0)) (hl : r.b.length ≤ 140737488351232) :
    Calls Try.prog 86 #[cr q, .pointer (some ⟨b, i, none⟩), .func (.func 87) #[cr q] #[]] w (ErTo rowK RwD.r rwsC RwD.ap w F q b i t cs r) := by
  obtain ⟨W, hW⟩ := crW w q
  have e := hW.eq
  have z0 : W.cell? ⟨w.heap.size, 0, none⟩ = some (.pointer none) := hW.c0
  have z1 : W.cell? ⟨w.heap.size, 1, none⟩ = some (.pointer (some ⟨q, 0, none⟩)) := hW.c1
  have ci : W.cell? ⟨b, i, none⟩ = some (.slice A0 n0 c0) := ((hbl.below hW.below hbl.lt).cell i).trans hi
  have HC := Lib.hid (show Calls Try.prog 44 #[.pointer (some ⟨q, 0, none⟩), .int .i64 256] W (RdTo W F q (.int .i64 (Cd.one r 256)) (Cd.next r 256)) from rnum_any q r F 256 W (hr.below hW.below) (by decide) hl)
  have H := Lib.hid (Errow.mk hW (hr.bound q hr.self) hbl.lt hn hr.bound hr.self (fun h => by
    rcases h with h | h
    · have := hr.bound q hr.self; omega
    · have := hbl.lt; omega) hbl hi hl)
  have hcf := enters Try.func87 (by decide) rfl
  have hN := Cd.one_bound r 256 (by omega) (by omega)
  obtain ⟨N, hNe⟩ := Int.eq_ofNat_of_zero_le hN.1
  have HN := Lib.hid (And.intro hNe (show N ≤ 256 by rw [hNe] at hN; omega))
  rw [hNe] at HC
  clear hr hbl hn hi hl hW hN hNe
  go_enter Try.func86, Try.ntmps86
  go_wp2_with fail
  refine HC.out.mono ?_
  intro e w2 h2
  obtain ⟨h3, h4, h5⟩ := cr_set (i := i) (u := .slice none 0 0) H.out.hW.below H.out.hbl h2 H.out.self H.out.hn
  subst h3
  have hu : w2.cell? ⟨b, i, none⟩ = some (.slice A0 n0 c0) := (h4.cell i).trans H.out.hi
  have hz := h4.free i
  obtain ⟨w3, hw3⟩ : ∃ w3, w2.setCell ⟨b, i, none⟩ (.slice none 0 0) = w3 := ⟨_, rfl⟩
  rw [hw3] at h5
  have H5 := Lib.hid h5
  obtain ⟨G, hG⟩ : ∃ G, w3.heap.size = G := ⟨_, rfl⟩
  have hG2 : w2.heap.size = G := by rw [← hG, ← hw3, setCell_size']
  clear h2 h4 h5
  rcases Nat.eq_zero_or_pos N with rfl | hpos
  · have hd : decide ((0 : Int) < ((0 : Nat) : Int)) = false := by decide
    go_wp2_with fail
    go_loopg [7, 31] 0 (fun gk _ i wr => gk = 0 ∧ i = .int .i64 0 ∧ wr = w3)
    case atStart => exact ⟨rfl, rfl, rfl⟩
    case round =>
      obtain ⟨rfl, rfl, rfl⟩ := hrel
      go_wp2
      go_end0
      have hdec : rwsC.dec r = ([], Cd.next r 256) := by
        show Cd.many rwC (Cd.next r 256) (Cd.one r 256).toNat = _
        rw [HN.out.1]
        rfl
      refine ⟨none, 0, [], rfl, by rw [hdec]; exact H5.out, ⟨rfl, fun x hx => absurd hx (by simp), fun h => absurd h (by simp)⟩, by rw [hdec]; rfl, ⟨Nat.le_refl _, Nat.zero_le _⟩, fun a ha => (by cases ha), fun x hx => absurd hx (by simp)⟩
  · have hd : decide ((0 : Int) < (N : Int)) = true := decide_eq_true (by omega)
    have hkk : ∀ x, (rowK.cells x).length = rowK.k := fun _ => rfl
    have hmade : madeCells #[.int .i64 0, .int .i64 0, .int .i64 0, .int .i64 0, .int .i64 0, .int .i64 0, .slice none 0 0, .slice none 0 0] (N * 8) = rowA rowK [] N := rowA_made hkk (by decide) _ rfl N
    obtain ⟨i0, hi0, hz0, hz1, hz2⟩ := info_parts einfo_row
    have hb4 : Blk w3 b t (cs.setIfInBounds i (.slice none 0 0)) := H5.out.2.2.1
    have hisz : i < cs.size := by
      rcases Nat.lt_or_ge i cs.size with g | g
      · exact g
      · have g2 := H.out.hi; rw [Array.getElem?_eq_none g] at g2; cases g2
    have hb5 : Blk (w3.alloc (.cells (rowA rowK [] N) 52)) b t (cs.setIfInBounds i (.slice none 0 0)) := hb4.alloc _
    have hu5 : (w3.alloc (.cells (rowA rowK [] N) 52)).cell? ⟨b, i, none⟩ = some (.slice none 0 0) := (hb5.cell i).trans (by rw [Array.getElem?_setIfInBounds_self, if_pos hisz])
    have hz5 := hb5.free i
    have hnb : b ≠ G := by rw [← hG]; exact Nat.ne_of_lt hb4.lt
    obtain ⟨w5, hw5⟩ : ∃ w5, (w3.alloc (.cells (rowA rowK [] N) 52)).setCell ⟨b, i, none⟩ (.slice (some ⟨G, 0, none⟩) N N) = w5 := ⟨_, rfl⟩
    have hBb : Blk w5 b t (cs.setIfInBounds i (.slice (some ⟨G, 0, none⟩) N N)) := by
      rw [← hw5]
      have := hb5.put i (.slice (some ⟨G, 0, none⟩) N N)
      rwa [Array.setIfInBounds_setIfInBounds] at this
    have hBn : Blk (w3.alloc (.cells (rowA rowK [] N) 52)) G 52 (rowA rowK [] N) := by rw [← hG]; exact Blk.new w3 52 (rowA rowK [] N)
    have hBg : Blk w5 G 52 (rowA rowK [] N) := by rw [← hw5]; exact hBn.far (p := ⟨b, i, none⟩) (fun h => hnb h.symm) _
    have hF5 : Fr (fun k => k = q ∨ k = b) w w5 := by rw [← hw5]; exact (H5.out.2.2.2.alloc _).setCell _ _ (fun _ => .inr rfl)
    have hs5 : w5.heap.size = G + 1 := by rw [← hw5, setCell_size', ← hG]; simp
    have hR5 : RdAt w5 q (Cd.next r 256) F := by
      rw [← hw5]
      refine (H5.out.2.1.below ((Below.refl _ _).alloc (Nat.le_refl _) _)).keep (by rw [setCell_size']; exact Nat.le_refl _) (fun k hk => Below.heap_setCell _ ⟨b, i, none⟩ _ k (fun e => H.out.hn (by rw [← show k = b from e]; exact hk)))
    have hle3 : w.heap.size ≤ G := by rw [← hG]; exact H5.out.2.2.2.size
    have HX := Lib.hid (And.intro hBb (And.intro hF5 (And.intro hs5 (And.intro hnb (And.intro hle3 hisz)))))
    have H0 := Lib.hid (show CrTo w5 F q G 52 (rowA rowK [] N) (Cd.many rwC (Cd.next r 256) 0).2 (.returned (.tuple #[])) w5 from ⟨rfl, hR5, hBg, Fr.refl _ _⟩)
    have HI := Lib.hid (And.intro hi0 (And.intro hz0 (And.intro hz1 hz2)))
    have HM := Lib.hid hmade
    clear hb4 hb5 hBb hBg hBn hF5 hR5 hi0 hz0 hz1 hz2 hmade hnb hs5 hle3
    go_wp2_with (at_make; refine wpList_make_row _ rfl _ _ 26 rfl 52 i0 _ rfl HI.out.1 HI.out.2.1 N rfl rfl (rowA rowK [] N) (by rw [HI.out.2.2.1]; exact HM.out) (by rw [HI.out.2.2.2]; have := HN.out.2; omega) (by have := HN.out.2; show N ≤ 9223372036854775807; omega) ?_)
    go_loopg [7, 31] N (fun gk _ ii wr => ∃ (k : Nat) (lk : List RwD), k ≤ N ∧ gk = N - k ∧ ii = .int .i64 k ∧ lk.length = k ∧ lk.map RwD.r = (Cd.many rwC (Cd.next r 256) k).1 ∧ (∀ x ∈ lk, rowK.ok wr x ∧ RwD.ap w5.heap.size x) ∧ CrTo w5 F q G 52 (rowA rowK lk (N - k)) (Cd.many rwC (Cd.next r 256) k).2 (.returned (.tuple #[])) wr)
    case atStart => exact ⟨0, [], by omega, by omega, rfl, rfl, rfl, fun x hx => absurd hx (by simp), H0.out⟩
    case round =>
      obtain ⟨k, lk, hk, rfl, rfl, hlk, hmap, hoks, hst⟩ := hrel
      clear H0
      by_cases hlt : k < N
      · obtain ⟨_, h1, h2, h3⟩ := hst
        obtain ⟨m, hm⟩ : ∃ m, N - k = m + 1 := ⟨N - k - 1, by omega⟩
        rw [hm] at h2
        have hfx := H.out.hW.size
        have hnF : ¬ F G := fun h => by have g1 := H.out.bound _ h; have g2 := HX.out.2.2.2.2.1; omega
        have hnq : ¬ (b = q ∨ b = G) := fun h => by
          rcases h with h | h
          · exact H.out.hn (by rw [h]; exact H.out.self)
          · exact HX.out.2.2.2.1 h
        have c1 : wr.cell? ⟨b, i, none⟩ = some (.slice (some ⟨G, 0, none⟩) N N) := h3.cell hnq ((HX.out.1.cell i).trans (by rw [Array.getElem?_setIfInBounds_self, if_pos HX.out.2.2.2.2.2]))
        have hln : (Cd.many rwC (Cd.next r 256) k).2.b.length ≤ 140737488351232 := Nat.le_trans (Cd.many_le rwC (Cd.next r 256) k) (Nat.le_trans (Cd.try_le r _) H.out.hl)
        have hzz : ∀ j, j < 8 → (rowA rowK lk (m + 1))[k * 8 + j]? = (rowK.cells rowK.zero)[j]? := fun j hj => by have := rowA_zero hkk lk m j hj; rw [hlk] at this; exact this
        have HJ := Lib.hid (cr_row q _ F G (k * 8) 52 _ wr h1 h2 hnF (by rw [rowA_size hkk]; have : rowK.k = 8 := rfl; rw [this, hlk]; omega) (hzz 6 (by decide)) (hzz 7 (by decide)) hln)
        have H2 := Lib.hid (And.intro h3 (And.intro hmap (And.intro hoks (And.intro hlk hm))))
        clear h1 h2 h3 hmap hoks hm hnF hnq hln hzz hfx
        clear hlk
        go_wp2_with fail
        refine HJ.out.mono ?_
        rintro e w6 ⟨x, hxe, hxok, hxap, h4⟩
        have h5 := h4.1
        have H4 := Lib.hid (And.intro h4 (And.intro hxe (And.intro hxok hxap)))
        clear h4 hxe hxok hxap
        subst h5
        go_wp2
        go_roundg (N - (k + 1))
        case rel =>
          have hmb : N ≤ 256 := HN.out.2
          have hm2 : N - (k + 1) = m := by have := H2.out.2.2.2.2; omega
          have hsz : w5.heap.size ≤ wr.heap.size := H2.out.1.size
          refine ⟨k + 1, lk ++ [x], by omega, by omega, congrArg (Value.int .i64) (by unfold wrap64; omega), by rw [List.length_append, H2.out.2.2.2.1]; rfl, ?_, ?_, ?_⟩
          · rw [List.map_append, H2.out.2.1, List.map_cons, H4.out.2.1]; rfl
          · intro y hy
            rcases List.mem_append.1 hy with g | g
            · have g1 := H2.out.2.2.1 y g
              exact ⟨okfr_row g1.1 g1.2 H4.out.1.2.2.2 (fun j hj => by
                rcases hj with hj | hj
                · have := H.out.hq; have := HX.out.2.2.2.2.1; have := HX.out.2.2.1; omega
                · have := HX.out.2.2.1; omega), g1.2⟩
            · rw [List.mem_singleton] at g
              subst g
              exact ⟨H4.out.2.2.1, apmono_row H4.out.2.2.2 hsz⟩
          · have hnx := rowA_next hkk lk m x
            rw [H2.out.2.2.2.1] at hnx
            rw [hm2, ← hnx]
            exact H4.out.1.then_ H2.out.1
        case measure => omega
      · obtain rfl : k = N := by omega
        have H2 := Lib.hid (And.intro hst (And.intro hlk (And.intro hmap hoks)))
        clear hst hlk hmap hoks
        go_wp2
        go_end0
        obtain ⟨hst, hlk, hmap, hoks⟩ := H2.out
        obtain ⟨_, h1, h2, h3⟩ := hst
        have hdec : rwsC.dec r = Cd.many rwC (Cd.next r 256) k := by
          show Cd.many rwC (Cd.next r 256) (Cd.one r 256).toNat = _
          rw [HN.out.1]
          rfl
        have hnq : ¬ (b = q ∨ b = G) := fun h => by
          rcases h with h | h
          · exact H.out.hn (by rw [h]; exact H.out.self)
          · exact HX.out.2.2.2.1 h
        rw [Nat.sub_self] at h2
        refine ⟨some ⟨G, 0, none⟩, k, lk, rfl, ⟨rfl, by rw [hdec]; exact h1, by rw [hlk]; exact HX.out.1.keep (h3.block b HX.out.1.lt hnq), HX.out.2.1.trans h3 (fun j hj y => ?_)⟩, ST.of_rowA hkk h2 (fun x hx => (hoks x hx).1), by rw [hdec]; exact hmap, ⟨Nat.le_of_eq hlk, by have := HN.out.2; omega⟩, fun a ha => ?_, fun x hx => ?_⟩
        · rcases y with y | y
          · exact .inl y
          · have := HX.out.2.2.2.2.1; omega
        · injection ha with ha
          rw [← ha]
          exact HX.out.2.2.2.2.1
        · exact apmono_row (hoks x hx).2 (by have := HX.out.2.2.2.2.1; have := HX.out.2.2.1; omega)
end Go.Proofs.Ytlijfnekopjogaa

/- The coder reads: what lies between two steps of fields (printed by gen_rf.py). -/
namespace Go.Proofs.Ytlijfnekopjogaa
open Go Go.RowKit Mem Rc
set_option maxRecDepth 100000
set_option linter.unusedVariables false
set_option linter.unusedSimpArgs false

/-- the blocks of a record's lists lie from B on -/
structure MAp (B : Nat) (x : MD) : Prop where
  mem : ∀ a, x.mA = some a → B ≤ a.block
  locks : ∀ a, x.lA = some a → B ≤ a.block
  rows : ∀ a, x.rA = some a → B ≤ a.block
  dirty : ∀ a, x.dA = some a → B ≤ a.block
  deeds : ∀ a, x.eA = some a → B ≤ a.block
  past : ∀ a, x.pA = some a → B ≤ a.block
  row : ∀ y ∈ x.rows, RwD.ap B y
  deed : ∀ y ∈ x.deeds, DeD.ap B y
theorem Rc.MOk.fr {w w' : World} {x : MD} {B : Nat} {G : Nat → Prop} (h : MOk w x) (ha : MAp B x) (hf : Fr G w w') (hG : ∀ k, G k → k < B) : MOk w' x := by
  have hn : ∀ (A : Option Addr), (∀ a, A = some a → B ≤ a.block) → ∀ a, A = some a → ¬ G a.block := fun A hA a e g => by have := hA a e; have := hG _ g; omega
  exact ⟨IS.fr h.mem hf (hn _ ha.mem), h.mc, ST.fr h.locks hf (hn _ ha.locks) h.locks.ok, h.lc, ST.fr h.rows hf (hn _ ha.rows) (fun y hy => okfr_row (h.rows.ok y hy) (ha.row y hy) hf hG), h.rc,
    ST.fr h.dirty hf (hn _ ha.dirty) h.dirty.ok, h.dc, ST.fr h.deeds hf (hn _ ha.deeds) (fun y hy => okfr_deed (h.deeds.ok y hy) (ha.deed y hy) hf hG), h.ec, IS.fr h.past hf (hn _ ha.past), h.pc⟩
theorem MAp.mono {B B' : Nat} {x : MD} (h : MAp B x) (hb : B' ≤ B) : MAp B' x :=
  ⟨fun a e => Nat.le_trans hb (h.mem a e), fun a e => Nat.le_trans hb (h.locks a e), fun a e => Nat.le_trans hb (h.rows a e), fun a e => Nat.le_trans hb (h.dirty a e), fun a e => Nat.le_trans hb (h.deeds a e), fun a e => Nat.le_trans hb (h.past a e),
    fun y hy => apmono_row (h.row y hy) hb, fun y hy => apmono_deed (h.deed y hy) hb⟩
/-- a record with its kind alone -/
def MD.k0 (k : Int) : MD := ⟨k, 0, 0, 0, ⟨#[]⟩, V.zero, V.zero, 0, [], none, 0, [], none, 0, [], none, 0, [], none, 0, [], none, 0, [], none, 0⟩
theorem MOk.k0 (w : World) (k : Int) : MOk w (MD.k0 k) :=
  have z : (0 : Nat) ≤ 0 ∧ (0 : Nat) ≤ 9223372036854775807 := ⟨Nat.le_refl _, Nat.zero_le _⟩
  have s : ∀ {α : Type} (K : Kind_ α), ST K w none 0 [] := fun K => ⟨rfl, fun x hx => absurd hx (by simp), fun h => absurd h (by omega)⟩
  ⟨IS.empty w none, z, s _, z, s _, z, s _, z, s _, z, IS.empty w none, z⟩
theorem MAp.k0 (B : Nat) (k : Int) : MAp B (MD.k0 k) :=
  have n : ∀ a : Addr, (none : Option Addr) = some a → B ≤ a.block := fun a e => (by cases e)
  ⟨n, n, n, n, n, n, fun y hy => absurd hy (by simp [MD.k0]), fun y hy => absurd hy (by simp [MD.k0])⟩
/-- what lies between two steps -/
structure RSt (w W : World) (q rb : Nat) (F : Nat → Prop) (x : MD) (r : Sl.R) (wj : World) : Prop where
  hW : CrW w q W
  hq : q < w.heap.size
  hb : rb < w.heap.size
  hn : ¬ F rb
  bound : ∀ k, F k → k < w.heap.size
  hFw : ¬ (w.heap.size = q ∨ w.heap.size = rb)
  rd : RdAt wj q r F
  bl : Blk wj rb 30 (mCells x)
  fr : Fr (fun k => k = q ∨ k = rb) W wj
  ok : MOk wj x
  ap : MAp w.heap.size x
  hl : r.b.length ≤ 140737488351232
section
variable {w W wj wk w2 : World} {q rb : Nat} {F : Nat → Prop} {x x' : MD} {r r' : Sl.R} {e : Ending}
theorem RSt.co (h : RSt w W q rb F x r wj) : CoR wj w.heap.size q := (show CoR W w.heap.size q from ⟨h.hW.c0, h.hW.c1⟩).fr h.fr h.hFw
theorem RSt.lt (h : RSt w W q rb F x r wj) : ∀ k, (k = q ∨ k = rb) → k < w.heap.size := fun k hk => by
  rcases hk with rfl | rfl
  · exact h.hq
  · exact h.hb
theorem RSt.size (h : RSt w W q rb F x r wj) : w.heap.size ≤ wj.heap.size := Nat.le_trans h.hW.below.size h.fr.size
theorem RSt.base (h : RSt w W q rb F x r wj) (hb : Below wj.heap.size wj wk) (hc : CrTo wk F q rb 30 (mCells x') r' e w2) : MOk w2 x ∧ Fr (fun k => k = q ∨ k = rb) W w2 :=
  ⟨(h.ok.below hb).fr h.ap hc.2.2.2 h.lt, h.fr.trans ((Fr.of_below hb _).trans hc.2.2.2 (fun _ _ y => y)) (fun _ _ y => y)⟩
theorem RSt.next (h : RSt w W q rb F x r wj) (hb : Below wj.heap.size wj wk) (hc : CrTo wk F q rb 30 (mCells x') r' e w2) (hl : r'.b.length ≤ r.b.length) (hok : MOk w2 x → MOk w2 x') (hap : MAp w.heap.size x → MAp w.heap.size x') : RSt w W q rb F x' r' w2 :=
  have g := h.base hb hc
  ⟨h.hW, h.hq, h.hb, h.hn, h.bound, h.hFw, hc.2.1, hc.2.2.1, g.2, hok g.1, hap h.ap, Nat.le_trans hl h.hl⟩
end
/-- what fields leaves -/
def FdTo (w : World) (F : Nat → Prop) (q rb : Nat) (m : M) (r : Sl.R) (e : Ending) (w' : World) : Prop :=
  ∃ x : MD, e = .returned (.tuple #[]) ∧ x.m = m ∧ RdAt w' q r F ∧ Blk w' rb 30 (mCells x) ∧ Fr (fun k => k = q ∨ k = rb) w w' ∧ MOk w' x ∧ MAp w.heap.size x
theorem RSt.done {w W wj : World} {q rb : Nat} {F : Nat → Prop} {x : MD} {r r' : Sl.R} {m : M} (h : RSt w W q rb F x r wj) (hm : x.m = m) (hr : r = r') : FdTo w F q rb m r' (.returned (.tuple #[])) wj := by
  subst hr
  exact ⟨x, rfl, hm, h.rd, h.bl, (Fr.of_below h.hW.below _).trans h.fr (fun _ _ y => y), h.ok, h.ap⟩
end Go.Proofs.Ytlijfnekopjogaa
