/- A finder of bodies in memory: goesOn, begins, Find. -/
import Derived.Test.YtlpdjpkdgagjpaaDoorSheetMath
import Derived.Test.YtlpdjpkdgagjpaaDoorSealSum
import Derived.Test.YtlpdjpkdgagjpaaDoorRowK
import Derived.Test.YtlpdjpkdgagjpaaDoorSealRefR
import Derived.Lib.AppendStr
import Derived.StillTailTactics
import Derived.Deep.DeepCutAuto
import Derived.Deep.RegionLaw
import Derived.Deep.DrawnRows
namespace Go.Proofs.YtlpdjpkdgagjpaaDoor
open Go.RowKit Mem Lift
set_option linter.unusedVariables false
set_option linter.unusedSimpArgs false
set_option maxRecDepth 100000

/-- what was found: a body, the sheet in which it begins -/
def foundK : Kind_ (List UInt8 × Nat) where
  zero := ([], 0)
  k := 2
  cells := fun x => [.string ⟨x.1.toArray⟩, .int .i64 (x.2 : Int)]
  ok := fun _ x => x.1.length ≤ 100000
  keep := fun h _ => h
theorem foundK_len : ∀ x, (foundK.cells x).length = foundK.k := fun _ => rfl
theorem found_one (b : List UInt8) (n : Int) : ∀ u ∈ ([.string ⟨b.toArray⟩, .int .i64 n] : List Value), u.oneCell' = true := by
  intro u hu
  simp only [List.mem_cons, List.not_mem_nil, or_false] at hu
  rcases hu with rfl | rfl <;> rfl
theorem foundK_one : ∀ x, ∀ u ∈ foundK.cells x, u.oneCell' = true := fun x => found_one x.1 x.2
theorem finfoFound : (Tryd.prog.info? 76).map (fun i => (i.zero, i.size, i.bytes)) = some (some (.agg #[.string ⟨#[]⟩, .int .i64 0]), 2, 24) := by kernel_rfl
theorem own_capS {w : World} {base : Nat} {e : TypeId} {size n c : Nat} {A : Option Addr} {xs : List Value} (h : w.ownsRow base e size (.slice A n c) n xs) : n ≤ c ∧ c ≤ 9223372036854775807 := by
  rcases h.2 with ⟨e0, e1⟩ | ⟨g, cap, cur, e0, _, _, h1, h2, _⟩
  · injection e0 with _ _ e0
    omega
  · injection e0 with _ _ e0
    unfold maxLen at h2
    omega
def finCells (Ao : Option Addr) (co : Nat) (Aw : Option Addr) (cw : Nat) (f : Sh.F) : Array Value := #[.slice Ao f.out.length co, .slice Aw f.way.length cw, .int .i64 (f.frm : Int), .bool f.under]
/-- THE FINDER LIES IN BLOCK q, its slices are the call's own. -/
structure FnIn (base q : Nat) (f : Sh.F) (Ao : Option Addr) (co : Nat) (Aw : Option Addr) (cw : Nat) (w : World) : Prop where
  blk : Blk w q 81 (finCells Ao co Aw cw f)
  out : w.ownsRow base 76 2 (.slice Ao f.out.length co) f.out.length (rowOf foundK f.out)
  way : w.ownsRow base 5 1 (.slice Aw f.way.length cw) f.way.length (u8s f.way)
  ge : base ≤ q
def FnA (base q : Nat) (f : Sh.F) (w : World) : Prop := ∃ Ao co Aw cw, FnIn base q f Ao co Aw cw w
def FnP (w0 : World) (q : Nat) (r : Sh.F × Bool) (e : Ending) (w' : World) : Prop := e = .returned (.bool r.2) ∧ FnA w0.heap.size q r.1 w' ∧ Below w0.heap.size w0 w'
/-- blocks of sheets stay -/
def TyFr (w w' : World) : Prop := ∀ (k : Nat) (cs : Array Value) (fr : Nat × Nat), w.heap[k]? = some (Obj.cells cs 47 fr) → w'.heap[k]? = w.heap[k]?
theorem TyFr.refl (w : World) : TyFr w w := fun _ _ _ _ => rfl
theorem TyFr.trans {w w1 w2 : World} (h : TyFr w w1) (h2 : TyFr w1 w2) : TyFr w w2 := fun k cs fr hk => by
  have h3 := h k cs fr hk
  rw [← h3]
  exact h2 k cs fr (h3.trans hk)
theorem heap_lt' {w : World} {k : Nat} {o : Obj} (h : w.heap[k]? = some o) : k < w.heap.size := by
  rcases Nat.lt_or_ge k w.heap.size with hl | hl
  · exact hl
  · rw [Array.getElem?_eq_none hl] at h; cases h
theorem TyFr.of_below {w w' : World} (h : Below w.heap.size w w') : TyFr w w' := fun k cs fr hk => h.block k (heap_lt' hk)
theorem TyFr.of_set {w : World} {q i : Nat} {t : TypeId} {cs : Array Value} (h : Blk w q t cs) (ht : t ≠ 47) (v : Value) : TyFr w (w.setCell ⟨q, i, none⟩ v) := fun k cs' fr hk => by
  refine Below.heap_setCell _ _ _ k ?_
  rintro rfl
  unfold Blk at h
  rw [h] at hk
  injection hk with hk
  injection hk with _ hk
  exact ht hk
theorem TyFr.of_grown {w w' : World} {base n size : Nat} {e : TypeId} {v : Value} {xs : List Value} (ho : w.ownsRow base e size v n xs) (he : e ≠ 47) (h : w.grownBy w' v.ownBlock) : TyFr w w' := fun k cs fr hk => by
  refine h.block k (heap_lt' hk) (fun e2 => ?_)
  obtain ⟨cur, hc⟩ := own_block ho e2.symm
  rw [hc] at hk
  injection hk with hk
  injection hk with _ hk
  exact he hk
/-- and sheets -/
def FnG (w0 : World) (q : Nat) (w : World) (r : Sh.F × Bool) (e : Ending) (w' : World) : Prop := FnP w0 q r e w' ∧ TyFr w w'
theorem blk_ne {w : World} {g k : Nat} {t e : TypeId} {cs cur : Array Value} (h : Blk w g t cs) (h2 : w.heap[k]? = some (.cells cur e (0, 0))) (hte : t ≠ e) : k ≠ g := by
  rintro rfl
  unfold Blk at h
  rw [h] at h2
  injection h2 with h2
  injection h2 with _ h2
  exact hte h2
section
variable {base q : Nat} {f : Sh.F} {Ao Aw : Option Addr} {co cw : Nat} {w w' : World}
theorem FnIn.cell (h : FnIn base q f Ao co Aw cw w) : w.cell? ⟨q, 0, none⟩ = some (.slice Ao f.out.length co) ∧ w.cell? ⟨q, 1, none⟩ = some (.slice Aw f.way.length cw) ∧ w.cell? ⟨q, 2, none⟩ = some (.int .i64 (f.frm : Int)) ∧ w.cell? ⟨q, 3, none⟩ = some (.bool f.under) := ⟨h.blk.cell 0, h.blk.cell 1, h.blk.cell 2, h.blk.cell 3⟩
theorem FnIn.below (h : FnIn base q f Ao co Aw cw w) (hb : Below w.heap.size w w') : FnIn base q f Ao co Aw cw w' := ⟨h.blk.below hb h.blk.lt, own_below h.out hb, own_below h.way hb, h.ge⟩
theorem FnIn.alloc_drew (h : FnIn base q f Ao co Aw cw w) (o : Obj) : FnIn base q f Ao co Aw cw (w.alloc o).drew := h.below ((Below.refl _ _).alloc (Nat.le_refl _) _).drew
theorem FnIn.out_ne (h : FnIn base q f Ao co Aw cw w) {k : Nat} (e : (Value.slice Ao f.out.length co).ownBlock = some k) : k ≠ q := by
  obtain ⟨cur, hc⟩ := own_block h.out e
  exact blk_ne h.blk hc (by decide)
theorem FnIn.way_ne (h : FnIn base q f Ao co Aw cw w) {k : Nat} (e : (Value.slice Aw f.way.length cw).ownBlock = some k) : k ≠ q := by
  obtain ⟨cur, hc⟩ := own_block h.way e
  exact blk_ne h.blk hc (by decide)
theorem FnIn.rows_ne (h : FnIn base q f Ao co Aw cw w) {j k : Nat} (e : (Value.slice Ao f.out.length co).ownBlock = some j) (e2 : (Value.slice Aw f.way.length cw).ownBlock = some k) : j ≠ k := by
  obtain ⟨cur, hc⟩ := own_block h.out e
  obtain ⟨cur2, hc2⟩ := own_block h.way e2
  rintro rfl
  rw [hc] at hc2
  injection hc2 with hc2
  injection hc2 with _ hc2
  exact absurd hc2 (by decide)
/-- what stands behind an append to what is under way -/
theorem FnIn.grow_way (h : FnIn base q f Ao co Aw cw w) (hg : w.grownBy w' (Value.slice Aw f.way.length cw).ownBlock) : Blk w' q 81 (finCells Ao co Aw cw f) ∧ w'.ownsRow base 76 2 (.slice Ao f.out.length co) f.out.length (rowOf foundK f.out) :=
  ⟨h.blk.keep (hg.block q h.blk.lt (fun e => h.way_ne e.symm rfl)), own_keep h.out (fun k e => hg.block k (own_lt h.out e) (fun e2 => h.rows_ne e e2.symm rfl))⟩
theorem FnIn.grow_out (h : FnIn base q f Ao co Aw cw w) (hg : w.grownBy w' (Value.slice Ao f.out.length co).ownBlock) : Blk w' q 81 (finCells Ao co Aw cw f) ∧ w'.ownsRow base 5 1 (.slice Aw f.way.length cw) f.way.length (u8s f.way) :=
  ⟨h.blk.keep (hg.block q h.blk.lt (fun e => h.out_ne e.symm rfl)), own_keep h.way (fun k e => hg.block k (own_lt h.way e) (fun e2 => h.rows_ne e2.symm e rfl))⟩
end
/-- other bytes are under way -/
theorem FnIn.set_way {base q : Nat} {f : Sh.F} {Ao : Option Addr} {co : Nat} {Aw : Option Addr} {cw : Nat} {w : World} {A1 : Option Addr} {c1 : Nat} {l : List UInt8} {cs : Array Value} (hblk : Blk w q 81 cs) (hcs : cs = finCells Ao co Aw cw f) (hout : w.ownsRow base 76 2 (.slice Ao f.out.length co) f.out.length (rowOf foundK f.out)) (hge : base ≤ q)
    (hway : w.ownsRow base 5 1 (.slice A1 l.length c1) l.length (u8s l)) :
    FnIn base q ⟨f.out, l, f.frm, f.under⟩ Ao co A1 c1 (w.setCell ⟨q, 1, none⟩ (.slice A1 l.length c1)) := by
  subst hcs
  have hk : ∀ k, k ≠ q → (w.setCell ⟨q, 1, none⟩ (.slice A1 l.length c1)).heap[k]? = w.heap[k]? := fun k hk => Below.heap_setCell _ _ _ k hk
  refine ⟨?_, own_keep hout (fun k e => hk k ?_), own_keep hway (fun k e => hk k ?_), hge⟩
  · have := hblk.put 1 (.slice A1 l.length c1)
    simpa [finCells] using this
  · obtain ⟨cur, hc⟩ := own_block hout e
    exact blk_ne hblk hc (by decide)
  · obtain ⟨cur, hc⟩ := own_block hway e
    exact blk_ne hblk hc (by decide)
theorem FnIn.set_under {base q : Nat} {f : Sh.F} {Ao : Option Addr} {co : Nat} {Aw : Option Addr} {cw : Nat} {w : World} (h : FnIn base q f Ao co Aw cw w) (u : Bool) : FnIn base q ⟨f.out, f.way, f.frm, u⟩ Ao co Aw cw (w.setCell ⟨q, 3, none⟩ (.bool u)) := by
  have hk : ∀ k, k ≠ q → (w.setCell ⟨q, 3, none⟩ (.bool u)).heap[k]? = w.heap[k]? := fun k hk => Below.heap_setCell _ _ _ k hk
  refine ⟨?_, own_keep h.out (fun k e => hk k (h.out_ne e)), own_keep h.way (fun k e => hk k (h.way_ne e)), h.ge⟩
  have := h.blk.put 3 (.bool u)
  simpa [finCells] using this
/-- one more is found: behind the element, the append and the store -/
theorem FnIn.set_out {base q : Nat} {f : Sh.F} {Ao : Option Addr} {co : Nat} {Aw : Option Addr} {cw : Nat} {w w4 : World} {g cap n : Nat} {o : Obj} {b : List UInt8} (h : FnIn base q f Ao co Aw cw w) (hown : w4.ownsRow base 76 2 (.slice (some ⟨g, 0, none⟩) (f.out.length + 1) cap) (f.out.length + 1) (rowOf foundK f.out ++ [.string ⟨b.toArray⟩, .int .i64 (n : Int)]))
    (hg : (w.alloc o).drew.grownBy w4 (Value.slice Ao f.out.length co).ownBlock) :
    FnIn base q ⟨f.out ++ [(b, n)], f.way, f.frm, f.under⟩ (some ⟨g, 0, none⟩) cap Aw cw (w4.setCell ⟨q, 0, none⟩ (.slice (some ⟨g, 0, none⟩) (f.out.length + 1) cap)) := by
  have ha := h.alloc_drew o
  obtain ⟨h1, h2⟩ := ha.grow_out hg
  have hk : ∀ k, k ≠ q → (w4.setCell ⟨q, 0, none⟩ (.slice (some ⟨g, 0, none⟩) (f.out.length + 1) cap)).heap[k]? = w4.heap[k]? := fun k hk => Below.heap_setCell _ _ _ k hk
  have hlen : (f.out ++ [(b, n)]).length = f.out.length + 1 := by simp
  refine ⟨?_, ?_, own_keep h2 (fun k e => hk k ?_), h.ge⟩
  · have := h1.put 0 (.slice (some ⟨g, 0, none⟩) (f.out.length + 1) cap)
    simpa [finCells, hlen] using this
  · simp only [hlen]
    rw [rowOf_append, rowOf_one]
    refine own_keep hown (fun k e => hk k ?_)
    obtain ⟨cur, hc⟩ := own_block hown e
    exact blk_ne h1 hc (by decide)
  · obtain ⟨cur, hc⟩ := own_block h2 e
    exact blk_ne h1 hc (by decide)
theorem below_of {B : Nat} {w w1 w2 : World} (h : Below B w w1) (hB : B ≤ w1.heap.size) (h2 : Below w1.heap.size w1 w2) : Below B w w2 := h.trans (h2.mono hB)
theorem goesOn_under {f : Sh.F} (hu : f.under = true) (head : List UInt8) : Sh.goesOn f head = if (Sl.openB (f.way ++ head)).2.2 = 10 then (⟨f.out, f.way ++ head, f.frm, true⟩, true)
    else if (Sl.openB (f.way ++ head)).2.2 ≠ 0 ∨ (Sl.openB (f.way ++ head)).2.1 ≠ (f.way ++ head).length then (⟨f.out, f.way ++ head, f.frm, true⟩, false)
    else (⟨f.out ++ [((Sl.openB (f.way ++ head)).1, f.frm)], f.way ++ head, f.frm, false⟩, true) := by
  unfold Sh.goesOn
  rw [if_neg (by rw [hu]; decide)]
theorem openB_short (b : List UInt8) : (Sl.openB b).1.length ≤ 5000 ∧ (Sl.openB b).2.1 ≤ b.length := by
  by_cases h : (Sl.openB b).2.2 = 0
  · obtain ⟨h1, h2, _⟩ := Sl.seal_of_open b (Sl.openB b).1 (Sl.openB b).2.1 (by rw [← h])
    exact ⟨by omega, h2⟩
  · rw [Sl.open_err b h]
    simp
set_option maxHeartbeats 4000000 in
theorem goesOn_any (w0 : World) (q : Nat) (f : Sh.F) (head : List UInt8) (w : World) (ht : Half w0) (hb : Below w0.heap.size w0 w) (hf : FnA w0.heap.size q f w) (hl1 : f.way.length + head.length ≤ 1000000) (hl2 : f.out.length ≤ 900000) :
    Calls Tryd.prog 41 #[.pointer (some ⟨q, 0, none⟩), .string ⟨head.toArray⟩] w (FnG w0 q w (Sh.goesOn f head)) := by
  obtain ⟨Ao, co, Aw, cw, hf⟩ := hf
  cases hu : f.under with
  | false =>
    rw [Sh.goesOn_idle hu]
    have c3 := hf.cell.2.2.2
    rw [hu] at c3
    have H := Lib.hid (And.intro hf hb)
    clear hf hb ht hu
    go_enter Tryd.func41, Tryd.ntmps41
    go_wp2_with fail
    go_ret
    exact ⟨⟨rfl, ⟨_, _, _, _, H.out.1⟩, H.out.2⟩, TyFr.refl _⟩
  | true =>
    have hR := goesOn_under hu head
    generalize Sh.goesOn f head = R at *
    obtain ⟨c0, c1, c2, c3⟩ := hf.cell
    rw [hu] at c3
    obtain ⟨i0, hi0, hz0, hz1, hz2⟩ := info_parts ninfo8
    have HI := Lib.hid (And.intro hi0 (And.intro hz0 (And.intro hz1 hz2)))
    clear hi0 hz0 hz1 hz2
    have hsz : (⟨head.toArray⟩ : ByteArray).size = head.length := ba_size head
    have H := Lib.hid (And.intro hf (And.intro hb (And.intro ht (And.intro hu hsz))))
    have HR := Lib.hid hR
    clear hf hb ht hu hsz hR
    go_enter Tryd.func41, Tryd.ntmps41
    go_wp2_with (at_builtin; refine Lib.wpList_append_own_string _ (by rfl) (.tmp 17) (.tmp 18) 38 9 (by rfl) w0.heap.size 5 i0 Tryd.underlying38 Tryd.underlying9 HI.out.1 HI.out.2.1 HI.out.2.2.1 HI.out.2.2.2 (.slice Aw f.way.length cw) f.way.length (u8s f.way) (by rfl) H.out.1.way ⟨head.toArray⟩ (by rfl) (by rw [H.out.2.2.2.2]; unfold maxLen; omega) (by rw [H.out.2.2.2.2]; omega) H.out.2.1.size ?_; intro v' w1 ho1 hg1 _; rw [strCells_u8s, ← u8s_append, H.out.2.2.2.2] at ho1; obtain ⟨A1, c1', rfl⟩ := own_slice ho1; have d1 := (show w1.cell? ⟨q, 1, none⟩ = some (.slice Aw f.way.length cw) from (H.out.1.grow_way hg1).1.cell 1); have f1 := (H.out.1.grow_way hg1).1.free 1; have H1 := Lib.hid (And.intro ho1 hg1); clear ho1 hg1 c0 c1 c2 c3)
    have hL : f.way.length + head.length = (f.way ++ head).length := by rw [List.length_append]
    have hgw := H.out.1.grow_way H1.out.2
    have hin : FnIn w0.heap.size q ⟨f.out, f.way ++ head, f.frm, f.under⟩ Ao co A1 c1' (w1.setCell ⟨q, 1, none⟩ (.slice A1 (f.way.length + head.length) c1')) := by
      have ho1 := H1.out.1
      rw [hL] at ho1 ⊢
      exact FnIn.set_way hgw.1 rfl hgw.2 H.out.1.ge ho1
    have hb2 : Below w0.heap.size w0 (w1.setCell ⟨q, 1, none⟩ (.slice A1 (f.way.length + head.length) c1')) := (H.out.2.1.grown H1.out.2 H.out.2.1.size (fun j hj => own_ge H.out.1.way hj)).setCell (by have := H.out.1.ge; simpa using this) _
    have hty2 : TyFr w (w1.setCell ⟨q, 1, none⟩ (.slice A1 (f.way.length + head.length) c1')) := (TyFr.of_grown H.out.1.way (by decide) H1.out.2).trans (TyFr.of_set hgw.1 (by decide) _)
    generalize w1.setCell ⟨q, 1, none⟩ (.slice A1 (f.way.length + head.length) c1') = w2 at *
    have hcap := own_capS hin.way
    have hbs := BS.of_own hin.way
    simp only [← hL] at hcap hbs
    have ht2 := H.out.2.2.1.below hb2
    clear H1 hgw d1 f1
    have HX := Lib.hid (And.intro hin (And.intro hb2 ht2))
    have HT := Lib.hid hty2
    clear hin hb2 ht2 hL hty2
    refine (open_any A1 (f.way.length + head.length) c1' (f.way ++ head) w2 hbs (by omega) hcap.1 hcap.2 HX.out.2.2).mono ?_
    clear hbs hcap
    rintro e w3 ⟨A2, c2, rfl, hb3, hc2, hm2, hbe3, _⟩
    have hsh := openB_short (f.way ++ head)
    have hRR := HR.out
    rw [List.length_append] at hsh hRR
    generalize Sl.openB (f.way ++ head) = r at *
    obtain ⟨b, n, er⟩ := r
    simp only at hsh hRR hb3 hc2 ⊢
    have hin3 := HX.out.1.below hbe3
    have hbb := below_of HX.out.2.1 HX.out.2.1.size hbe3
    have HT3 := Lib.hid (HT.out.trans (TyFr.of_below hbe3))
    obtain ⟨c0, c1, c2', c3⟩ := hin3.cell
    simp only [List.length_append] at c0 c1 c2' c3
    have f0 := hin3.blk.free 0
    have f3 := hin3.blk.free 3
    have hcv := conv_bytes0 hb3 c2 w3.drew (fun _ => rfl)
    unfold str at hcv
    have H3 := Lib.hid (And.intro hin3 (And.intro hbb (And.intro hb3 hsh)))
    clear hin3 hbb hb3 hsh hbe3 HR
    by_cases h10 : er = 10
    · subst h10
      rw [if_pos rfl] at hRR
      have HR := Lib.hid hRR
      clear hRR hcv c0 c1 c2' c3 f0 f3
      go_wp2_with fail
      go_ret
      rw [HR.out]
      have h3 := H3.out.1
      rw [H.out.2.2.2.1] at h3
      exact ⟨⟨rfl, ⟨_, _, _, _, h3⟩, H3.out.2.1⟩, HT3.out⟩
    · rw [if_neg h10] at hRR
      have g10 : ((er : Int) == 10) = false := by rw [beq_eq_false_iff_ne]; omega
      by_cases hbad : er ≠ 0 ∨ n ≠ f.way.length + head.length
      · rw [if_pos hbad] at hRR
        have hways : ((er : Int) != 0) = true ∨ er = 0 ∧ (n != f.way.length + head.length) = true ∧ ((n : Int) != (f.way.length : Int) + (head.length : Int)) = true := by
          by_cases h0 : er = 0
          · refine .inr ⟨h0, ?_, ?_⟩
            · rw [bne_iff_ne]; rcases hbad with x | x
              · exact absurd h0 x
              · exact x
            · rw [bne_iff_ne]; rcases hbad with x | x
              · exact absurd h0 x
              · omega
          · exact .inl (by rw [bne_iff_ne]; omega)
        have HR := Lib.hid hRR
        clear hRR hcv hbad
        rcases hways with g | ⟨rfl, g, g'⟩
        all_goals
          go_wp2_with fail
          go_ret
          rw [HR.out]
          have h3 := H3.out.1
          rw [H.out.2.2.2.1] at h3
          exact ⟨⟨rfl, ⟨_, _, _, _, h3⟩, H3.out.2.1⟩, HT3.out⟩
      · rw [if_neg hbad] at hRR
        obtain ⟨rfl, rfl⟩ : er = 0 ∧ n = f.way.length + head.length := by omega
        have HR := Lib.hid hRR
        clear hRR hbad
        go_upto_region 9 with fail
        obtain ⟨i1, hj0, hj1, hj2, hj3⟩ := info_parts finfoFound
        have HJ := Lib.hid (And.intro hj0 (And.intro hj1 (And.intro hj2 hj3)))
        clear hj0 hj1 hj2 hj3 c1 c3
        have c0a : (w3.alloc (.cells #[.string ⟨b.toArray⟩, .int .i64 (f.frm : Int)] 76)).cell? ⟨q, 0, none⟩ = some (.slice Ao f.out.length co) := (World.cell?_of_block (Below.heap_alloc w3 _ q H3.out.1.blk.lt)).trans c0
        go_region_law ((
          refine step_app_one (by rfl) (.tmp 48) (.tmp 56) 42 (by rfl) w0.heap.size 76 i1 (.agg #[.string ⟨#[]⟩, .int .i64 0]) 2 24 Tryd.underlying42 HJ.out.1 HJ.out.2.1 HJ.out.2.2.1 HJ.out.2.2.2 rfl (by omega) (.slice Ao f.out.length co) f.out.length (rowOf foundK f.out) (by simp [Act.eval, Act.put]) (own_keep H3.out.1.out (fun k e => Below.heap_alloc w3 _ k (own_lt H3.out.1.out e))) w3.heap.size [.string ⟨b.toArray⟩, .int .i64 (f.frm : Int)] (by simp [Act.eval, Act.put]) rfl (heap_alloc_new w3 _) (found_one b f.frm) (by omega) (by omega) (by have := H3.out.2.1.size; simp; omega) ?_
          intro g cap w4 hown hg hat
          have ha := H3.out.1.alloc_drew (.cells #[.string ⟨b.toArray⟩, .int .i64 (f.frm : Int)] 76)
          have hk4 := (ha.grow_out hg).1
          have d0 := (show w4.cell? ⟨q, 0, none⟩ = some (.slice Ao f.out.length co) from hk4.cell 0)
          have f04 := hk4.free 0
          have H4 := Lib.hid (And.intro hown hg)
          clear hown hg hat ha hk4))
        all_goals
          have hin4 := H3.out.1.set_out H4.out.1 H4.out.2
          have ht4 : TyFr w (w4.setCell ⟨q, 0, none⟩ (.slice (some ⟨g, 0, none⟩) (f.out.length + 1) cap)) := ((HT3.out.trans (TyFr.of_below (((Below.refl _ w3).alloc (Nat.le_refl _) (.cells #[.string ⟨b.toArray⟩, .int .i64 (f.frm : Int)] 76)).drew))).trans (TyFr.of_grown (H3.out.1.alloc_drew _).out (by decide) H4.out.2)).trans (TyFr.of_set ((H3.out.1.alloc_drew _).grow_out H4.out.2).1 (by decide) _)
          have hb4 : Below w0.heap.size w0 (w4.setCell ⟨q, 0, none⟩ (.slice (some ⟨g, 0, none⟩) (f.out.length + 1) cap)) := (((H3.out.2.1.alloc H3.out.2.1.size _).drew).grown H4.out.2 (by have := H3.out.2.1.size; simp; omega) (fun j hj => own_ge H3.out.1.out hj)).setCell (by have := H.out.1.ge; simpa using this) _
          generalize w4.setCell ⟨q, 0, none⟩ (.slice (some ⟨g, 0, none⟩) (f.out.length + 1) cap) = w5 at *
          have e3 : w5.cell? ⟨q, 3, none⟩ = some (.bool f.under) := hin4.cell.2.2.2
          have f53 := hin4.blk.free 3
          have HT5 := Lib.hid (ht4.trans (TyFr.of_set hin4.blk (by decide) (i := 3) (.bool false)))
          clear ht4
          have H5 := Lib.hid (And.intro (hin4.set_under false) (show Below w0.heap.size w0 (w5.setCell ⟨q, 3, none⟩ (.bool false)) from hb4.setCell (by have := H.out.1.ge; simpa using this) _))
          clear hin4 hb4
          go_wp2_with fail
          go_ret
          rw [HR.out]
          exact ⟨⟨rfl, ⟨_, _, _, _, H5.out.1⟩, H5.out.2⟩, HT5.out⟩
/-- bytes that lie in a block of bytes -/
def RS (w : World) (A : Option Addr) (n c : Nat) (bs : List UInt8) : Prop := BS w A n bs ∧ n ≤ c ∧ c ≤ 9223372036854775807 ∧ ∀ a, A = some a → ∃ cs fr, w.heap[a.block]? = some (.cells cs 5 fr)
theorem RS.below {w w' : World} {A : Option Addr} {n c : Nat} {bs : List UInt8} (h : RS w A n c bs) (hb : Below w.heap.size w w') : RS w' A n c bs := by
  refine ⟨h.1.below hb, h.2.1, h.2.2.1, fun a e => ?_⟩
  obtain ⟨cs, fr, hc⟩ := h.2.2.2 a e
  have hlt : a.block < w.heap.size := by
    rcases Nat.lt_or_ge a.block w.heap.size with hl | hl
    · exact hl
    · rw [Array.getElem?_eq_none hl] at hc; cases hc
  exact ⟨cs, fr, (hb.block _ hlt).trans hc⟩
theorem RS.keep {w w' : World} {A : Option Addr} {n c : Nat} {bs : List UInt8} (h : RS w A n c bs) (hs : w.heap.size ≤ w'.heap.size) (hk : ∀ (k : Nat) (cs : Array Value) (fr : Nat × Nat), w.heap[k]? = some (Obj.cells cs 5 fr) → w'.heap[k]? = w.heap[k]?) : RS w' A n c bs := by
  refine ⟨?_, h.2.1, h.2.2.1, fun a e => ?_⟩
  · refine ⟨h.1.1, fun hn => ?_⟩
    obtain ⟨b, off, e, hlt, hc⟩ := h.1.2 hn
    obtain ⟨cs, fr, hcs⟩ := h.2.2.2 _ e
    refine ⟨b, off, e, Nat.lt_of_lt_of_le hlt hs, fun j hj => ?_⟩
    rw [World.cell?_of_block (hk b cs fr hcs)]
    exact hc j hj
  · obtain ⟨cs, fr, hc⟩ := h.2.2.2 a e
    exact ⟨cs, fr, (hk _ _ _ hc).trans hc⟩
theorem RS.drop_ {w : World} {A : Option Addr} {n c : Nat} {bs : List UInt8} (h : RS w A n c bs) (k : Nat) (hk : k ≤ n) (A' : Option Addr) (hA : (∀ a, A' = some a → ∃ a0, A = some a0 ∧ a.block = a0.block) ∧ (k < n → ∃ b off, A = some ⟨b, off, none⟩ ∧ A' = some ⟨b, off + k, none⟩)) : RS w A' (n - k) (c - k) (bs.drop k) := by
  refine ⟨⟨by rw [List.length_drop, h.1.1], fun hn => ?_⟩, by have := h.2.1; omega, by have := h.2.2.1; omega, fun a e => ?_⟩
  · obtain ⟨b, off, e, e'⟩ := hA.2 (by omega)
    obtain ⟨b2, off2, e2, hlt, hc⟩ := h.1.2 (by omega)
    rw [e] at e2
    injection e2 with e2
    injection e2 with e2 e3
    subst e2 e3
    refine ⟨b, off + k, e', hlt, fun j hj => ?_⟩
    rw [List.length_drop] at hj
    rw [Nat.add_assoc, hc (k + j) (by omega)]
    congr 2
    rw [List.getD_eq_getElem?_getD, List.getD_eq_getElem?_getD, List.getElem?_drop]
  · obtain ⟨a0, e0, eb⟩ := hA.1 a e
    rw [eb]
    exact h.2.2.2 a0 e0
end Go.Proofs.YtlpdjpkdgagjpaaDoor
