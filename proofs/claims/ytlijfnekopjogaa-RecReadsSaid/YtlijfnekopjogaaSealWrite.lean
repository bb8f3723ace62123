/- What a writer of layer 3 does. -/
import Derived.Test.YtlijfnekopjogaaNumWalks
import Derived.Test.YtlijfnekopjogaaConv
import Derived.Test.YtlijfnekopjogaaSealMath
namespace Go.Proofs.Ytlijfnekopjogaa
open Go.RowKit Mem
set_option linter.unusedVariables false
set_option linter.unusedSimpArgs false

/-- A WRITER IN MEMORY, its blocks in F. -/
def WrAt (w : World) (q : Nat) (bs : List UInt8) (F : Nat → Prop) : Prop :=
  ∃ v, Blk w q 88 #[v] ∧ w.ownsRow 0 5 1 v bs.length (u8s bs) ∧ F q ∧ (∀ k, v.ownBlock = some k → F k) ∧ ∀ k, F k → k < w.heap.size
/-- what a call leaves that writes -/
def WrTo (w : World) (F : Nat → Prop) (q : Nat) (bs : List UInt8) (e : Ending) (w' : World) : Prop :=
  e = .returned (.tuple #[]) ∧ ∃ F', WrAt w' q bs F' ∧ Fr F w w' ∧ ∀ k, F' k → F k ∨ w.heap.size ≤ k
section
variable {w w' : World} {q : Nat} {bs : List UInt8} {F G : Nat → Prop}
theorem WrAt.keep (h : WrAt w q bs F) (hs : w.heap.size ≤ w'.heap.size) (hk : ∀ k, F k → w'.heap[k]? = w.heap[k]?) : WrAt w' q bs F := by
  obtain ⟨v, h1, h2, h3, h4, h5⟩ := h
  exact ⟨v, h1.keep (hk q h3), own_keep h2 (fun k e => hk k (h4 k e)), h3, h4, fun k x => Nat.lt_of_lt_of_le (h5 k x) hs⟩
theorem WrAt.bound (h : WrAt w q bs F) : ∀ k, F k → k < w.heap.size := by obtain ⟨_, _, _, _, _, h5⟩ := h; exact h5
theorem WrAt.below (h : WrAt w q bs F) (hb : Below w.heap.size w w') : WrAt w' q bs F := h.keep hb.size (fun k x => hb.block k (h.bound k x))
theorem WrAt.fr (h : WrAt w q bs F) (hf : Fr G w w') (hd : ∀ k, F k → ¬ G k) : WrAt w' q bs F := h.keep hf.size (fun k x => hf.block k (h.bound k x) (hd k x))
/-- a new writer -/
theorem WrAt.new (w : World) : WrAt (w.alloc (.cells #[.slice none 0 0] 88)) w.heap.size [] (fun k => k = w.heap.size) :=
  ⟨.slice none 0 0, Blk.new _ _ _, ⟨rfl, .inl ⟨rfl, rfl⟩⟩, rfl, fun k e => by simp [Value.ownBlock] at e, fun k e => by subst e; simp⟩
end

theorem setCell_size' (w : World) (a : Addr) (u : Value) : (w.setCell a u).heap.size = w.heap.size := by simp [World.setCell]
set_option maxHeartbeats 1000000 in
theorem wput_any (q : Nat) (bs0 : List UInt8) (F : Nat → Prop) (A : Option Addr) (n c : Nat) (bs : List UInt8) (w : World) (hw : WrAt w q bs0 F) (hbs : BS w A n bs) (hl : bs0.length + n ≤ 140737488355328) :
    Calls Try.prog 97 #[.pointer (some ⟨q, 0, none⟩), .slice A n c] w (WrTo w F q (bs0 ++ bs)) := by
  obtain ⟨v, h1, h2, h3, h4, h5⟩ := hw
  obtain ⟨i0, hi0, hz0, hz1, hz2⟩ := info_parts ninfo8
  have c0 : w.cell? ⟨q, 0, none⟩ = some v := h1.cell 0
  have f0 := h1.free 0
  have hqv : v.ownBlock ≠ some q := by
    intro e
    obtain ⟨cur, hg⟩ := own_block h2 e
    unfold Blk at h1
    rw [hg] at h1
    injection h1 with h1
    injection h1 with _ h1
    exact absurd h1 (by decide)
  have HI := Lib.hid (And.intro hi0 (And.intro hz0 (And.intro hz1 hz2)))
  have H := Lib.hid (And.intro h1 (And.intro h2 (And.intro h3 (And.intro h4 (And.intro h5 (And.intro hbs hqv))))))
  clear hi0 hz0 hz1 hz2 h1 h2 h3 h4 h5 hbs hqv
  go_enter Try.func97, Try.ntmps97
  have hq1 : ∀ w1, w.grownBy w1 v.ownBlock → w1.heap[q]? = w.heap[q]? := fun w1 hg => hg.block q H.out.1.lt (fun e => H.out.2.2.2.2.2.2 e.symm)
  have HQ := Lib.hid hq1
  clear hq1
  go_wp2_with (at_builtin; refine wpList_append_bs _ rfl _ _ 33 rfl 0 5 i0 Try.underlying33 HI.out.1 HI.out.2.1 HI.out.2.2.1 HI.out.2.2.2 v bs0.length (u8s bs0) rfl H.out.2.1 A n c bs rfl H.out.2.2.2.2.2.1 hl (Nat.zero_le _) ?_; intro v' w1 hown hg hat; obtain ⟨A', c', rfl⟩ := own_slice hown; have c1 : w1.cell? ⟨q, 0, none⟩ = some v := (World.cell?_of_block (HQ.out w1 hg)).trans c0; have f1 : w1.frozen? ⟨q, 0, none⟩ = false := (World.frozen?_of_block (HQ.out w1 hg)).trans f0; have H1 := Lib.hid (And.intro hown (And.intro hg hat)); clear hown hg hat)
  go_end0
  have hl2 : (bs0 ++ bs).length = bs0.length + n := by rw [List.length_append, H.out.2.2.2.2.2.1.1]
  refine ⟨rfl, fun k => F k ∨ (Value.slice A' (bs0.length + n) c').ownBlock = some k, ⟨.slice A' (bs0.length + n) c', ?_, ?_, .inl H.out.2.2.1, fun k e => .inr e, fun k x => ?_⟩, ?_, fun k x => ?_⟩
  · have := (H.out.1.keep (HQ.out w1 H1.out.2.1)).put 0 (.slice A' (bs0.length + n) c')
    exact this
  · rw [hl2, u8s_append]
    refine own_keep H1.out.1 (fun k e => Below.heap_setCell w1 _ _ k ?_)
    rintro rfl
    obtain ⟨cur, hg⟩ := own_block H1.out.1 e
    have hb := H.out.1.keep (HQ.out w1 H1.out.2.1)
    unfold Blk at hb
    rw [hg] at hb
    injection hb with hb
    injection hb with _ hb
    exact absurd hb (by decide)
  · rw [setCell_size']
    rcases x with x | x
    · exact Nat.lt_of_lt_of_le (H.out.2.2.2.2.1 k x) H1.out.2.1.size
    · exact own_lt H1.out.1 x
  · exact ((Fr.refl F w).grown H1.out.2.1 (fun k e _ => H.out.2.2.2.1 k e)).setCell _ _ (fun _ => H.out.2.2.1)
  · rcases x with x | x
    · exact .inl x
    · rcases H1.out.2.2 with e | e
      · rw [e] at x; exact .inl (H.out.2.2.2.1 k x)
      · rw [e] at x; injection x with x; exact .inr (by omega)
theorem wput_nil (A : Option Addr) (n c : Nat) (w : World) :
    Calls Try.prog 97 #[.pointer none, .slice A n c] w fun e w' => e = .returned (.tuple #[]) ∧ w = w' := by
  go_enter Try.func97, Try.ntmps97
  go_wp2
  go_end0
  exact ⟨rfl, rfl⟩
/-- a writer, or none -/
def WrP (w : World) (F : Nat → Prop) (bs : List UInt8) : Value → Prop
  | .pointer (some ⟨q, 0, none⟩) => WrAt w q bs F
  | _ => False
theorem WrTo.mono {w w1 w' : World} {F : Nat → Prop} {q : Nat} {bs : List UInt8} {e : Ending} (hb : Below w.heap.size w w1) (hF : ∀ k, F k → k < w.heap.size) (h : WrTo w1 F q bs e w') : WrTo w F q bs e w' := by
  obtain ⟨h1, F', h2, h3, h4⟩ := h
  refine ⟨h1, F', h2, (Fr.of_below hb F).trans h3 (fun _ _ x => x), fun k x => ?_⟩
  rcases h4 k x with y | y
  · exact .inl y
  · exact .inr (Nat.le_trans hb.size y)
theorem WrTo.then_ {w w1 w' : World} {F F1 : Nat → Prop} {q : Nat} {bs : List UInt8} {e : Ending} (hf : Fr F w w1) (hF : ∀ k, F1 k → F k ∨ w.heap.size ≤ k) (h : WrTo w1 F1 q bs e w') : WrTo w F q bs e w' := by
  obtain ⟨h1, F', h2, h3, h4⟩ := h
  refine ⟨h1, F', h2, hf.trans h3 (fun i hi x => ?_), fun k x => ?_⟩
  · rcases hF i x with y | y
    · exact y
    · omega
  · rcases h4 k x with y | y
    · exact hF k y
    · exact .inr (Nat.le_trans hf.size y)
theorem numB_nat (m : Nat) : Sl.numB (m : Int) = Num.shortB m := by
  unfold Sl.numB
  congr 1
  omega
theorem numB_neg (n : Int) (h : n < 0) : Sl.numB n = Num.shortB 0 := by
  unfold Sl.numB
  congr 1
  omega
theorem numB_le (n : Int) : (Sl.numB n).length ≤ 11 := Num.shortB_length_le _
set_option maxHeartbeats 1000000 in
theorem wnum_any (q : Nat) (bs0 : List UInt8) (F : Nat → Prop) (n : Int) (w : World) (hn : -9223372036854775808 ≤ n ∧ n ≤ 9223372036854775807) (hw : WrAt w q bs0 F) (hl : bs0.length ≤ 140737488351232) :
    Calls Try.prog 58 #[.pointer (some ⟨q, 0, none⟩), .int .i64 n] w (WrTo w F q (bs0 ++ Sl.numB n)) := by
  have hl11 := numB_le n
  have H := Lib.hid (And.intro hw (And.intro hl hl11))
  clear hw hl hl11
  rcases Int.lt_or_le n 0 with h0 | h0
  · rw [numB_neg n h0] at H ⊢
    go_enter Try.func58, Try.ntmps58
    go_wp2_with fail
    refine (short_any 0 w (by omega)).mono ?_
    rintro e w1 ⟨v, rfl, ho, hb⟩
    obtain ⟨A, c, rfl⟩ := own_slice ho
    have H1 := Lib.hid (And.intro ho hb)
    clear ho hb
    go_wp2_with fail
    refine (wput_any q bs0 F A _ c _ w1 (H.out.1.below H1.out.2) (BS.of_own H1.out.1) (by have := H.out; omega)).mono ?_
    intro e w2 h2
    have h3 := h2.1
    have H2 := Lib.hid h2
    clear h2
    subst h3
    go_wp2
    go_end0
    exact H2.out.mono H1.out.2 H.out.1.bound
  · obtain ⟨m, rfl⟩ := Int.eq_ofNat_of_zero_le h0
    rw [numB_nat m] at H ⊢
    go_enter Try.func58, Try.ntmps58
    go_wp2_with fail
    refine (short_any m w (by omega)).mono ?_
    rintro e w1 ⟨v, rfl, ho, hb⟩
    obtain ⟨A, c, rfl⟩ := own_slice ho
    have H1 := Lib.hid (And.intro ho hb)
    clear ho hb
    go_wp2_with fail
    refine (wput_any q bs0 F A _ c _ w1 (H.out.1.below H1.out.2) (BS.of_own H1.out.1) (by have := H.out; omega)).mono ?_
    intro e w2 h2
    have h3 := h2.1
    have H2 := Lib.hid h2
    clear h2
    subst h3
    go_wp2
    go_end0
    exact H2.out.mono H1.out.2 H.out.1.bound
set_option maxHeartbeats 1000000 in
theorem wflag_any (q : Nat) (bs0 : List UInt8) (F : Nat → Prop) (x : Bool) (w : World) (hw : WrAt w q bs0 F) (hl : bs0.length ≤ 140737488351232) :
    Calls Try.prog 109 #[.pointer (some ⟨q, 0, none⟩), .bool x] w (WrTo w F q (bs0 ++ [if x then 1 else 0])) := by
  cases x
  all_goals
    first | have hb := BS.made w #[.int .u8 0] 5 (0, 0) [0] rfl | skip
    have hb1 := BS.made w #[.int .u8 1] 5 (0, 0) [1] rfl
    have H := Lib.hid (And.intro hw (And.intro hl (And.intro hb hb1)))
    clear hw hl hb hb1
    go_enter Try.func109, Try.ntmps109
    go_wp2_with fail
    first
      | refine (wput_any q bs0 F _ _ _ [0] _ (H.out.1.below ((Below.refl _ _).alloc (Nat.le_refl _) _)) H.out.2.2.1 (by have := H.out.2.1; simp; omega)).mono ?_
      | refine (wput_any q bs0 F _ _ _ [1] _ (H.out.1.below ((Below.refl _ _).alloc (Nat.le_refl _) _)) H.out.2.2.2 (by have := H.out.2.1; simp; omega)).mono ?_
    intro e w2 h2
    have h3 := h2.1
    have H2 := Lib.hid h2
    clear h2
    subst h3
    go_wp2
    go_end0
    exact H2.out.mono ((Below.refl _ _).alloc (Nat.le_refl _) _) H.out.1.bound
set_option maxHeartbeats 1000000 in
theorem wtext_any (q : Nat) (bs0 : List UInt8) (F : Nat → Prop) (s : List UInt8) (w : World) (hw : WrAt w q bs0 F) (hl : bs0.length + s.length ≤ 140737488351232) :
    Calls Try.prog 101 #[.pointer (some ⟨q, 0, none⟩), str s] w (WrTo w F q (bs0 ++ Sl.textB s)) := by
  have hl11 := numB_le s.length
  have hcv := fun w1 => conv_str s w1
  have H := Lib.hid (And.intro hw (And.intro hl hl11))
  clear hw hl hl11
  unfold str at hcv ⊢
  go_enter Try.func101, Try.ntmps101
  go_wp2_with fail
  refine (wnum_any q bs0 F s.length w (by have := H.out.2.1; omega) H.out.1 (by have := H.out.2.1; omega)).mono ?_
  rintro e w1 ⟨rfl, F1, h1, h2, h3⟩
  have H1 := Lib.hid (And.intro h1 (And.intro h2 h3))
  clear h1 h2 h3
  go_wp2_with fail
  refine (wput_any q _ F1 _ _ _ s _ (H1.out.1.below (bytesWorld_below w1 5 _)) (bytesWorld_bs w1 _ s) (by have := H.out; rw [List.length_append]; omega)).mono ?_
  intro e w2 h2
  have h3 := h2.1
  have H2 := Lib.hid h2
  clear h2
  subst h3
  go_wp2
  go_end0
  have := (H2.out.mono (bytesWorld_below w1 5 _) H1.out.1.bound).then_ H1.out.2.1 H1.out.2.2
  rwa [List.append_assoc] at this
set_option maxHeartbeats 1000000 in
theorem wbytes_any (q : Nat) (bs0 : List UInt8) (F : Nat → Prop) (w : World) (hw : WrAt w q bs0 F) (hl : bs0.length ≤ 140737488351232) :
    Calls Try.prog 59 #[.pointer (some ⟨q, 0, none⟩)] w (OwnB 5 w bs0) := by
  obtain ⟨v, h1, h2, h3, h4, h5⟩ := hw
  obtain ⟨A, c, rfl⟩ := own_slice h2
  obtain ⟨i0, hi0, hz0, hz1, hz2⟩ := info_parts ninfo8
  have c0 : w.cell? ⟨q, 0, none⟩ = some (.slice A bs0.length c) := h1.cell 0
  have hbs := BS.of_own h2
  have h' : BS (w.alloc (.cells #[] 5)) A bs0.length bs0 := hbs.keep (by simp) (fun b hb => Below.heap_alloc _ _ _ hb)
  have ho : (w.alloc (.cells #[] 5)).ownsRow w.heap.size 5 1 (.slice (some ⟨w.heap.size, 0, none⟩) 0 0) 0 [] := World.ownsRow_made w #[] 0 (Nat.le_refl _) (by simp [maxLen]) (by simp)
  have HI := Lib.hid (And.intro hi0 (And.intro hz0 (And.intro hz1 hz2)))
  have hq := h1.lt
  have H := Lib.hid (And.intro h' (And.intro ho (And.intro hl hq)))
  clear hi0 hz0 hz1 hz2 h1 h2 h3 h4 h5 hbs h' ho hl
  have c1 : (w.alloc (.cells #[] 5)).cell? ⟨q, 0, none⟩ = some (.slice A bs0.length c) := (World.cell?_of_block (Below.heap_alloc _ _ _ hq)).trans c0
  go_enter Try.func59, Try.ntmps59
  go_wp2_with (at_builtin; refine wpList_append_bs _ rfl _ _ 33 rfl w.heap.size 5 i0 Try.underlying33 HI.out.1 HI.out.2.1 HI.out.2.2.1 HI.out.2.2.2 (.slice (some ⟨w.heap.size, 0, none⟩) 0 0) 0 [] rfl H.out.2.1 A bs0.length c bs0 rfl H.out.1 (by have := H.out.2.2.1; omega) (by simp) ?_; intro v' w1 hown hg hat)
  go_ret
  refine ⟨v', rfl, ?_, ?_⟩
  · simpa using hown
  · exact ((Below.refl _ _).alloc (Nat.le_refl _) _).grown hg (by simp) (by simp [Value.ownBlock])
theorem wbytes_nil (w : World) : Calls Try.prog 59 #[.pointer none] w fun e w' => e = .returned (.slice none 0 0) ∧ w = w' := by
  go_enter Try.func59, Try.ntmps59
  go_wp2
  go_ret
  exact ⟨rfl, rfl⟩
end Go.Proofs.Ytlijfnekopjogaa
