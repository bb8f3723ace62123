/- The document reads a record's parts: a value, numbers, locks (printed by gen_renc.py). -/
import Derived.Test.YtlijfnekopjogaaRecCopyA
import Derived.Test.YtlijfnekopjogaaSealRefR
namespace Go.Proofs.Ytlijfnekopjogaa
open Go Go.RowKit Mem Rc
set_option maxRecDepth 100000
set_option linter.unusedVariables false
set_option linter.unusedSimpArgs false

/-- what a call leaves that reads a list -/
def RlTo {α β : Type} (K : Kind_ α) (f : α → β) (C : Cd.Cod (List β)) (Ap : Nat → α → Prop) (w : World) (F : Nat → Prop) (q : Nat) (r : Sl.R) (e : Ending) (w' : World) : Prop :=
  ∃ (A : Option Addr) (c : Nat) (l : List α), e = .returned (.slice A l.length c) ∧ RfAt w' q (C.dec r).2 F ∧ Fr (fun k => k = q) w w' ∧ ST K w' A l.length l ∧ l.map f = (C.dec r).1 ∧ (l.length ≤ c ∧ c ≤ 9223372036854775807) ∧ (∀ a, A = some a → w.heap.size ≤ a.block ∧ a.block < w'.heap.size) ∧ ∀ x ∈ l, Ap w.heap.size x
/-- what stands while a list is gathered -/
structure RlS {α β : Type} (K : Kind_ α) (f : α → β) (C : Cd.Cod β) (T : TypeId) (Ap : Nat → α → Prop) (w : World) (F : Nat → Prop) (q : Nat) (r : Sl.R) (k : Nat) (A : Option Addr) (c : Nat) (l : List α) (wr : World) : Prop where
  len : l.length = k
  map : l.map f = (Cd.many C r k).1
  own : wr.ownsRow w.heap.size T K.k (.slice A k c) k (rowOf K l)
  rd : RfAt wr q (Cd.many C r k).2 F
  fr : Fr (fun j => j = q) w wr
  ok : ∀ x ∈ l, K.ok wr x
  ap : ∀ x ∈ l, Ap w.heap.size x
theorem RlS.end_ {α β : Type} {K : Kind_ α} {f : α → β} {C : Cd.Cod β} {T : TypeId} {Ap : Nat → α → Prop} {w w1 : World} {F : Nat → Prop} {q : Nat} {r : Sl.R} {k : Nat} {A : Option Addr} {c : Nat} {l : List α} {wr : World} (hk : ∀ x, (K.cells x).length = K.k) (hp : 0 < K.k)
    (hm : 256 ≤ 1000) (h : RlS K f C T Ap w F q (Cd.next r 256) k A c l wr) (hn : (Cd.one r 256).toNat = k) (LC : Cd.Cod (List β)) (hLC : ∀ r, LC.dec r = Cd.many C (Cd.next r 256) (Cd.one r 256).toNat) (v : Value) (hv : v = .slice A k c) : RlTo K f LC Ap w F q r (.returned v) wr := by
  subst hv
  refine ⟨A, c, l, by rw [h.len], by rw [hLC, hn]; exact h.rd, h.fr, by rw [h.len]; exact ST.of_own hk hp h.own h.ok, by rw [hLC, hn]; exact h.map, by rw [h.len]; exact own_capI h.own, fun a ha => ?_, h.ap⟩
  exact ⟨own_geC h.own (by rw [ha]; rfl), own_lt h.own (by rw [ha]; rfl)⟩
/-- one more -/
theorem RlS.push {α β : Type} {K : Kind_ α} {f : α → β} {C : Cd.Cod β} {T : TypeId} {Ap : Nat → α → Prop} {w w1 : World} {F : Nat → Prop} {q : Nat} {r : Sl.R} {k : Nat} {A : Option Addr} {c : Nat} {l : List α} {wr : World} {r0 : Sl.R} (hw : RfAt w q r0 F) (h : RlS K f C T Ap w F q r k A c l wr)
    {w5 w7 : World} {o : Obj} {A' : Option Addr} {c' : Nat} (x : α) (hx : f x = (C.dec (Cd.many C r k).2).1) (h5 : RfAt w5 q (C.dec (Cd.many C r k).2).2 F) (hf : Fr (fun j => j = q) wr w5) (hok5 : ∀ x ∈ l, K.ok w5 x → K.ok w7 x) (hl5 : ∀ x ∈ l, K.ok w5 x)
    (hxo : K.ok w7 x) (hxa : Ap w.heap.size x) (hown : w7.ownsRow w.heap.size T K.k (.slice A' (k + 1) c') (k + 1) (rowOf K l ++ rowOf K [x])) (hg : (w5.alloc o).grownBy w7 (Value.slice A k c).ownBlock) : RlS K f C T Ap w F q r (k + 1) A' c' (l ++ [x]) w7 := by
  have hge : ∀ j, (Value.slice A k c).ownBlock = some j → w.heap.size ≤ j := fun j e => own_geC h.own e
  have hf7 : Fr (fun j => (Value.slice A k c).ownBlock = some j) w5 w7 := ((Fr.refl _ w5).alloc _).grown hg (fun j e _ => e)
  refine ⟨by rw [List.length_append, h.len]; rfl, ?_, by rw [rowOf_append]; exact hown, ?_, ?_, ?_, ?_⟩
  · rw [List.map_append, h.map, Cd.many]
    show _ ++ [f x] = _
    rw [hx]
  · rw [Cd.many]
    exact h5.fr hf7 (fun j hj e => by have h1 := hge j e; have h2 := hw.bound j hj; omega)
  · have h1 := h.fr.trans hf (fun _ _ e => e)
    exact h1.trans hf7 (fun j hj e => by have := hge j e; omega)
  · intro y hy
    rcases List.mem_append.1 hy with hy | hy
    · exact hok5 y hy (hl5 y hy)
    · rw [List.mem_singleton] at hy; subst hy; exact hxo
  · intro y hy
    rcases List.mem_append.1 hy with hy | hy
    · exact h.ap y hy
    · rw [List.mem_singleton] at hy; subst hy; exact hxa
theorem int_one {W : World} {g : Nat} {t : TypeId} {z : Int} (h : Blk W g t #[.int .i64 z]) : ST intK W (some ⟨g, 0, none⟩) 1 [z] := by
  refine ⟨rfl, fun _ _ => trivial, fun _ => ⟨g, 0, rfl, h.lt, fun i hi j hj => ?_⟩⟩
  have hi0 : i = 0 := by have : i < 1 := hi; omega
  subst hi0
  rw [show 0 + 0 * intK.k + j = j by omega, h.cell]
  show (#[Value.int .i64 z] : Array Value)[j]? = (intK.cells z)[j]?
  rw [show intK.cells z = (#[Value.int .i64 z] : Array Value).toList from rfl, Array.getElem?_toList]
theorem lock_one {W : World} {g : Nat} {t : TypeId} {z : L} (h : Blk W g t (lCells z)) (hok : z.key.size ≤ 9223372036854775807) : ST lockK W (some ⟨g, 0, none⟩) 1 [z] := by
  refine ⟨rfl, fun y hy => by rw [List.mem_singleton] at hy; rw [hy]; exact hok, fun _ => ⟨g, 0, rfl, h.lt, fun i hi j hj => ?_⟩⟩
  have hi0 : i = 0 := by have : i < 1 := hi; omega
  subst hi0
  rw [show 0 + 0 * lockK.k + j = j by omega, h.cell]
  show (lCells z)[j]? = (lockK.cells z)[j]?
  rw [show lockK.cells z = (lCells z).toList from rfl, Array.getElem?_toList]
theorem iC_dec (r : Sl.R) : iC.dec r = Cd.many nC (Cd.next r 256) (Cd.one r 256).toNat := rfl
theorem lsC_dec (r : Sl.R) : lsC.dec r = Cd.many lC (Cd.next r 256) (Cd.one r 256).toNat := rfl
theorem nC_dec (r : Sl.R) : nC.dec r = (Cd.one r 1099511627776, Cd.next r 1099511627776) := rfl
theorem lC_dec (r : Sl.R) : lC.dec r = (⟨⟨(Cd.text r 32).toArray⟩, Cd.flag (Cd.textR r 32)⟩, Cd.flagR (Cd.textR r 32)) := rfl
theorem fr_num (q : Nat) (r : Sl.R) (F : Nat → Prop) (most : Int) (w : World) (hr : RfAt w q r F) (hm : 0 ≤ most ∧ most ≤ 1099511627776) (hl : r.b.length ≤ 140737488351232) :
    Calls Try.prog 48 #[.pointer (some ⟨q, 0, none⟩), .int .i64 most] w fun e w' => e = .returned (.int .i64 (Cd.one r most)) ∧ RfAt w' q (Cd.next r most) F ∧ Fr (fun k => k = q) w w' :=
  (refRNum_any q r F most w hr (by omega) hl).mono (fun e w' h => ⟨h.1, h.2.1, h.2.2⟩)
theorem fr_text (q : Nat) (r : Sl.R) (F : Nat → Prop) (w : World) (hr : RfAt w q r F) (hl : r.b.length ≤ 140737488351232) :
    Calls Try.prog 50 #[.pointer (some ⟨q, 0, none⟩), .int .i64 32] w fun e w' => e = .returned (.string ⟨(Cd.text r 32).toArray⟩) ∧ RfAt w' q (Cd.textR r 32) F ∧ Fr (fun k => k = q) w w' :=
  (refRText_any q r F 32 w hr (by omega) hl).mono (fun e w' h => ⟨h.1, h.2.1, h.2.2⟩)
theorem fr_flag (q : Nat) (r : Sl.R) (F : Nat → Prop) (w : World) (hr : RfAt w q r F) (hl : r.b.length ≤ 140737488351232) :
    Calls Try.prog 95 #[.pointer (some ⟨q, 0, none⟩)] w fun e w' => e = .returned (.bool (Cd.flag r)) ∧ RfAt w' q (Cd.flagR r) F ∧ Fr (fun k => k = q) w w' :=
  (refRFlag_any q r F w hr hl).mono (fun e w' h => ⟨h.1, h.2.1, h.2.2⟩)
set_option maxHeartbeats 8000000 in
theorem frints_any (q : Nat) (r : Sl.R) (F : Nat → Prop) (w : World) (hr : RfAt w q r F) (hl : r.b.length ≤ 140737488351232) :
    Calls Try.prog 52 #[.pointer (some ⟨q, 0, none⟩)] w (RlTo intK id iC (fun _ _ => True) w F q r) := by
  have hN := Cd.one_bound r 256 (by omega) (by omega)
  obtain ⟨N, hNe⟩ := Int.eq_ofNat_of_zero_le hN.1
  obtain ⟨i_e, hi0, hz0, hz1, hz2⟩ := info_parts einfo_int
  have HI := Lib.hid (And.intro hi0 (And.intro hz0 (And.intro hz1 hz2)))
  have H := Lib.hid (And.intro hr (And.intro hl (And.intro (by rw [hNe] at hN; omega : N ≤ 256) hNe)))
  clear hi0 hz0 hz1 hz2 hr hl hN hNe
  go_enter Try.func52, Try.ntmps52
  go_wp2_with fail
  refine (fr_num q r F 256 w H.out.1 (by omega) H.out.2.1).mono ?_
  rintro e w1 ⟨rfl, h1, h2⟩
  rw [H.out.2.2.2]
  have H1 := Lib.hid (show RlS intK id nC 3 (fun _ _ => True) w F q (Cd.next r 256) 0 none 0 [] w1 from ⟨rfl, rfl, own_nilK _, h1, h2, fun x hx => absurd hx (by simp), fun x hx => absurd hx (by simp)⟩)
  have HL := Lib.hid (fun k => Nat.le_trans (Cd.many_le nC (Cd.next r 256) k) (Nat.le_trans (Cd.try_le r _) H.out.2.1))
  have hN256 := H.out.2.2.1
  clear h1 h2
  go_wp2_with fail
  go_loopg [3, 5] N (fun gk s3 s5 wr => ∃ (k : Nat) (A : Option Addr) (c : Nat) (l : List _), k ≤ N ∧ gk = N - k ∧ s3 = .slice A k c ∧ s5 = .int .i64 k ∧ RlS intK id nC 3 (fun _ _ => True) w F q (Cd.next r 256) k A c l wr)
  case atStart => exact ⟨0, _, _, _, by omega, by omega, rfl, rfl, H1.out⟩
  case round =>
    obtain ⟨k, A, c, l, hk, rfl, rfl, rfl, hS⟩ := hrel
    clear H1
    by_cases hlt : k < N
    · have hkn : (k : Int) < (N : Int) := by omega
      have HS := Lib.hid hS
      clear hS
      go_wp2_with fail
      refine (fr_num q _ F 1099511627776 wr HS.out.rd (by omega) (HL.out k)).mono ?_
      rintro e w5 ⟨rfl, h5, hf5⟩
      obtain ⟨x, hx⟩ : ∃ x, Cd.one (Cd.many nC (Cd.next r 256) k).2 1099511627776 = x := ⟨_, rfl⟩
      rw [hx]
      have HO := Lib.hid (own_below (own_keep HS.out.own (fun j e => hf5.block j (own_lt HS.out.own e) (fun e2 => by have h1 := own_geC HS.out.own e; have h2 := H.out.1.bound q H.out.1.self; have h3 : j = q := e2; omega))) ((Below.refl _ w5).alloc (Nat.le_refl _) (.cells #[.int .i64 x] 3)))
      have HB := Lib.hid (int_one (Blk.new w5 3 #[.int .i64 x]))
      have hsz5 : w.heap.size ≤ w5.heap.size := Nat.le_trans HS.out.fr.size hf5.size
      have HX := Lib.hid (And.intro hx (And.intro h5 hf5))
      clear hx h5 hf5
      go_wp2_with (at_builtin; refine wpList_append_st _ intK_len (by decide) intK_one rfl (.tmp 13) (.tmp 16) 24 rfl w.heap.size 3 i_e _ 8 Try.underlying24 HI.out.1 HI.out.2.1 HI.out.2.2.1 HI.out.2.2.2 rfl (by omega) (.slice A k c) k (rowOf intK l) rfl HO.out (some ⟨w5.heap.size, 0, none⟩) 1 1 [x] rfl HB.out (by omega) (by rw [World.size_alloc]; omega) ?_; intro A9 c9 w9 hown9 hg9 hat9; have HA9 := Lib.hid (And.intro hown9 hg9); clear hown9 hg9 hat9)
      go_roundg (N - (k + 1))
      case measure => omega
      case rel => exact ⟨k + 1, A9, c9, l ++ [x], by omega, rfl, rfl, by go_num, HS.out.push (w1 := w) (w5 := w5) (w7 := w9) H.out.1 x (by rw [← HX.out.1]; rfl) HX.out.2.1 HX.out.2.2 (fun _ _ _ => trivial) (fun _ _ => trivial) trivial trivial HA9.out.1 HA9.out.2⟩
    · obtain rfl : k = N := by omega
      have HS := Lib.hid hS
      clear hS
      go_wp2_with fail
      go_ret
      exact HS.out.end_ (w1 := w) intK_len (by decide) (by decide) (by rw [H.out.2.2.2]; rfl) iC iC_dec _ rfl
set_option maxHeartbeats 8000000 in
theorem frlocks_any (q : Nat) (r : Sl.R) (F : Nat → Prop) (w : World) (hr : RfAt w q r F) (hl : r.b.length ≤ 140737488351232) :
    Calls Try.prog 53 #[.pointer (some ⟨q, 0, none⟩)] w (RlTo lockK id lsC (fun _ _ => True) w F q r) := by
  have hN := Cd.one_bound r 256 (by omega) (by omega)
  obtain ⟨N, hNe⟩ := Int.eq_ofNat_of_zero_le hN.1
  obtain ⟨i_e, hi0, hz0, hz1, hz2⟩ := info_parts einfo_lock
  have HI := Lib.hid (And.intro hi0 (And.intro hz0 (And.intro hz1 hz2)))
  have H := Lib.hid (And.intro hr (And.intro hl (And.intro (by rw [hNe] at hN; omega : N ≤ 256) hNe)))
  clear hi0 hz0 hz1 hz2 hr hl hN hNe
  go_enter Try.func53, Try.ntmps53
  go_wp2_with fail
  refine (fr_num q r F 256 w H.out.1 (by omega) H.out.2.1).mono ?_
  rintro e w1 ⟨rfl, h1, h2⟩
  rw [H.out.2.2.2]
  have H1 := Lib.hid (show RlS lockK id lC 50 (fun _ _ => True) w F q (Cd.next r 256) 0 none 0 [] w1 from ⟨rfl, rfl, own_nilK _, h1, h2, fun x hx => absurd hx (by simp), fun x hx => absurd hx (by simp)⟩)
  have HL := Lib.hid (fun k => Nat.le_trans (Cd.many_le lC (Cd.next r 256) k) (Nat.le_trans (Cd.try_le r _) H.out.2.1))
  have hN256 := H.out.2.2.1
  clear h1 h2
  go_wp2_with fail
  go_loopg [3, 5] N (fun gk s3 s5 wr => ∃ (k : Nat) (A : Option Addr) (c : Nat) (l : List _), k ≤ N ∧ gk = N - k ∧ s3 = .slice A k c ∧ s5 = .int .i64 k ∧ RlS lockK id lC 50 (fun _ _ => True) w F q (Cd.next r 256) k A c l wr)
  case atStart => exact ⟨0, _, _, _, by omega, by omega, rfl, rfl, H1.out⟩
  case round =>
    obtain ⟨k, A, c, l, hk, rfl, rfl, rfl, hS⟩ := hrel
    clear H1
    by_cases hlt : k < N
    · have hkn : (k : Int) < (N : Int) := by omega
      have HS := Lib.hid hS
      clear hS
      go_wp2_with fail
      refine (fr_text q _ F wr HS.out.rd (HL.out k)).mono ?_
      rintro e w4 ⟨rfl, h4, hf4⟩
      obtain ⟨tx, htx⟩ : ∃ x, Cd.text (Cd.many lC (Cd.next r 256) k).2 32 = x := ⟨_, rfl⟩
      obtain ⟨R4, hR4⟩ : ∃ x, Cd.textR (Cd.many lC (Cd.next r 256) k).2 32 = x := ⟨_, rfl⟩
      rw [htx]
      rw [hR4] at h4
      have hl4 : R4.b.length ≤ 140737488351232 := by rw [← hR4]; exact Nat.le_trans (Cd.try_le _ _) (HL.out k)
      have H4 := Lib.hid (And.intro h4 (And.intro hf4 hl4))
      have HT := Lib.hid (And.intro htx hR4)
      clear htx hR4 h4 hf4 hl4
      go_wp2_with fail
      refine (fr_flag q R4 F w4 H4.out.1 H4.out.2.2).mono ?_
      rintro e w5 ⟨rfl, h5, hf5⟩
      obtain ⟨fx, hfx⟩ : ∃ x, Cd.flag R4 = x := ⟨_, rfl⟩
      rw [hfx]
      have hf5' : Fr (fun j => j = q) wr w5 := H4.out.2.1.trans hf5 (fun _ _ e => e)
      have HO := Lib.hid (own_below (own_keep HS.out.own (fun j e => hf5'.block j (own_lt HS.out.own e) (fun e2 => by have h1 := own_geC HS.out.own e; have h2 := H.out.1.bound q H.out.1.self; have h3 : j = q := e2; omega))) ((Below.refl _ w5).alloc (Nat.le_refl _) (.cells (lCells ⟨⟨tx.toArray⟩, fx⟩) 50)))
      have hts : (⟨tx.toArray⟩ : ByteArray).size ≤ 9223372036854775807 := by have g : (⟨(Cd.text (Cd.many lC (Cd.next r 256) k).2 32).toArray⟩ : ByteArray).size ≤ 32 := text_size (Cd.many lC (Cd.next r 256) k).2; rw [HT.out.1] at g; exact Nat.le_trans g (by decide)
      have HB := Lib.hid (lock_one (z := ⟨⟨tx.toArray⟩, fx⟩) (Blk.new w5 50 (lCells ⟨⟨tx.toArray⟩, fx⟩)) hts)
      have hsz5 : w.heap.size ≤ w5.heap.size := Nat.le_trans HS.out.fr.size hf5'.size
      have HX := Lib.hid (And.intro hfx (And.intro h5 (And.intro hf5' hts)))
      clear hfx h5 hf5 hf5' hts
      go_wp2_with (at_builtin; refine wpList_append_st _ lockK_len (by decide) lockK_one rfl (.tmp 16) (.tmp 21) 25 rfl w.heap.size 50 i_e _ 24 Try.underlying25 HI.out.1 HI.out.2.1 HI.out.2.2.1 HI.out.2.2.2 rfl (by omega) (.slice A k c) k (rowOf lockK l) rfl HO.out (some ⟨w5.heap.size, 0, none⟩) 1 1 [⟨⟨tx.toArray⟩, fx⟩] rfl HB.out (by omega) (by rw [World.size_alloc]; omega) ?_; intro A9 c9 w9 hown9 hg9 hat9; have HA9 := Lib.hid (And.intro hown9 hg9); clear hown9 hg9 hat9)
      go_roundg (N - (k + 1))
      case measure => omega
      case rel => exact ⟨k + 1, A9, c9, l ++ [⟨⟨tx.toArray⟩, fx⟩], by omega, rfl, rfl, by go_num, HS.out.push (w1 := w) (w5 := w5) (w7 := w9) H.out.1 ⟨⟨tx.toArray⟩, fx⟩ (by rw [lC_dec, HT.out.1, HT.out.2, HX.out.1]; rfl) (by rw [lC_dec, HT.out.2]; exact HX.out.2.1) HX.out.2.2.1 (fun _ _ h => h) (fun z hz => HS.out.ok z hz) HX.out.2.2.2 trivial HA9.out.1 HA9.out.2⟩
    · obtain rfl : k = N := by omega
      have HS := Lib.hid hS
      clear hS
      go_wp2_with fail
      go_ret
      exact HS.out.end_ (w1 := w) lockK_len (by decide) (by decide) (by rw [H.out.2.2.2]; rfl) lsC lsC_dec _ rfl
theorem vC_dec (r : Sl.R) : vC.dec r = (match Cd.flag r with | true => (⟨true, ⟨(Cd.text (Cd.flagR r) 32).toArray⟩⟩, Cd.textR (Cd.flagR r) 32) | false => (⟨false, ⟨#[]⟩⟩, Cd.flagR r)) := by
  show ((⟨(Cd.optD tC ⟨#[]⟩ r).1.1, (Cd.optD tC ⟨#[]⟩ r).1.2⟩ : V), (Cd.optD tC ⟨#[]⟩ r).2) = _
  unfold Cd.optD
  cases Cd.flag r <;> rfl
set_option maxHeartbeats 4000000 in
theorem frval_any (q : Nat) (r : Sl.R) (F : Nat → Prop) (w : World) (hr : RfAt w q r F) (hl : r.b.length ≤ 140737488351232) :
    Calls Try.prog 51 #[.pointer (some ⟨q, 0, none⟩)] w fun e w' => e = .returned (vVal (vC.dec r).1) ∧ RfAt w' q (vC.dec r).2 F ∧ Fr (fun k => k = q) w w' := by
  obtain ⟨R, hR⟩ : ∃ R, vC.dec r = R := ⟨_, rfl⟩
  rw [hR]
  have HR := Lib.hid hR
  clear hR
  obtain ⟨W, hW⟩ : ∃ W, w.alloc (.cells #[.bool false, .string ⟨#[]⟩] 23) = W := ⟨_, rfl⟩
  have hb : Below w.heap.size w W := by rw [← hW]; exact (Below.refl _ _).alloc (Nat.le_refl _) _
  have hB : Blk W w.heap.size 23 #[.bool false, .string ⟨#[]⟩] := by rw [← hW]; exact Blk.new _ _ _
  have hqw : q < w.heap.size := hr.bound q hr.self
  have H := Lib.hid (And.intro hb (And.intro hB (And.intro (hr.below hb) (And.intro hl (And.intro hqw hr)))))
  clear hb hB hr hl hqw
  go_enter Try.func51, Try.ntmps51
  go_wp2_with fail
  refine (fr_flag q r F W H.out.2.2.1 H.out.2.2.2.1).mono ?_
  rintro e w1 ⟨rfl, h1, hf1⟩
  have hB1 : Blk w1 w.heap.size 23 #[.bool false, .string ⟨#[]⟩] := H.out.2.1.keep (hf1.block _ H.out.2.1.lt (fun e => by have e2 : w.heap.size = q := e; have := H.out.2.2.2.2.1; omega))
  have H1 := Lib.hid (And.intro h1 (And.intro hB1 (show Fr (fun k => k = q) w w1 from ((Fr.of_below H.out.1 _).trans hf1 (fun _ _ e => e)))))
  clear h1 hf1 hB1
  cases hfl : Cd.flag r with
  | false =>
    have u0 : w1.cell? ⟨w.heap.size, 0, none⟩ = some (.bool false) := H1.out.2.1.cell 0
    have u1 : w1.cell? ⟨w.heap.size, 1, none⟩ = some (.string ⟨#[]⟩) := H1.out.2.1.cell 1
    have z0 := H1.out.2.1.free 0
    have z1 := H1.out.2.1.free 1
    obtain ⟨w2, hw2⟩ : ∃ u, w1.setCell ⟨w.heap.size, 0, none⟩ (.bool false) = u := ⟨_, rfl⟩
    have hB2 : Blk w2 w.heap.size 23 #[.bool false, .string ⟨#[]⟩] := by rw [← hw2]; exact H1.out.2.1.put 0 (.bool false)
    have y1 : w2.cell? ⟨w.heap.size, 1, none⟩ = some (.string ⟨#[]⟩) := hB2.cell 1
    have x1 := hB2.free 1
    obtain ⟨w3, hw3⟩ : ∃ u, w2.setCell ⟨w.heap.size, 1, none⟩ (.string ⟨#[]⟩) = u := ⟨_, rfl⟩
    have hB3 : Blk w3 w.heap.size 23 #[.bool false, .string ⟨#[]⟩] := by rw [← hw3]; exact hB2.put 1 (.string ⟨#[]⟩)
    have a0 : w3.cell? ⟨w.heap.size, 0, none⟩ = some (.bool false) := hB3.cell 0
    have a1 : w3.cell? ⟨w.heap.size, 1, none⟩ = some (.string ⟨#[]⟩) := hB3.cell 1
    have hf3 : Fr (fun k => k = w.heap.size) w1 w3 := by rw [← hw3, ← hw2]; exact ((Fr.refl (fun k => k = w.heap.size) w1).setCell _ _ (fun _ => rfl)).setCell _ _ (fun _ => rfl)
    have H3 := Lib.hid (And.intro (show RfAt w3 q (Cd.flagR r) F from H1.out.1.fr hf3 (fun k hk e => by have h1 : k = w.heap.size := e; have h2 := H.out.2.2.2.2.2.bound k hk; omega)) (show Fr (fun k => k = q) w w3 from H1.out.2.2.trans hf3 (fun k hk e => by have h1 : k = w.heap.size := e; omega)))
    clear hB2 hB3 hf3
    go_wp2_with fail
    refine bodyPost_ret (v := vVal ⟨false, ⟨#[]⟩⟩) ?_ rfl (by rw [show R = (⟨false, ⟨#[]⟩⟩, Cd.flagR r) by rw [← HR.out, vC_dec, hfl]]; exact ⟨rfl, H3.out.1, H3.out.2⟩)
    simp [results, Try.results51, go_sem, a0, a1]
  | true =>
    go_wp2_with fail
    have hl1 : (Cd.flagR r).b.length ≤ 140737488351232 := Nat.le_trans (Cd.try_le _ _) H.out.2.2.2.1
    refine (fr_text q (Cd.flagR r) F w1 H1.out.1 hl1).mono ?_
    rintro e w4 ⟨rfl, h4, hf4⟩
    obtain ⟨tx, htx⟩ : ∃ x, Cd.text (Cd.flagR r) 32 = x := ⟨_, rfl⟩
    rw [htx]
    have HTX := Lib.hid htx
    have hB4 : Blk w4 w.heap.size 23 #[.bool false, .string ⟨#[]⟩] := H1.out.2.1.keep (hf4.block _ H1.out.2.1.lt (fun e => by have e2 : w.heap.size = q := e; have := H.out.2.2.2.2.1; omega))
    have u0 : w4.cell? ⟨w.heap.size, 0, none⟩ = some (.bool false) := hB4.cell 0
    have u1 : w4.cell? ⟨w.heap.size, 1, none⟩ = some (.string ⟨#[]⟩) := hB4.cell 1
    have z0 := hB4.free 0
    have z1 := hB4.free 1
    obtain ⟨w2, hw2⟩ : ∃ u, w4.setCell ⟨w.heap.size, 0, none⟩ (.bool true) = u := ⟨_, rfl⟩
    have hB2 : Blk w2 w.heap.size 23 #[.bool true, .string ⟨#[]⟩] := by rw [← hw2]; exact hB4.put 0 (.bool true)
    have y1 : w2.cell? ⟨w.heap.size, 1, none⟩ = some (.string ⟨#[]⟩) := hB2.cell 1
    have x1 := hB2.free 1
    obtain ⟨w3, hw3⟩ : ∃ u, w2.setCell ⟨w.heap.size, 1, none⟩ (.string ⟨tx.toArray⟩) = u := ⟨_, rfl⟩
    have hB3 : Blk w3 w.heap.size 23 #[.bool true, .string ⟨tx.toArray⟩] := by rw [← hw3]; exact hB2.put 1 (.string ⟨tx.toArray⟩)
    have a0 : w3.cell? ⟨w.heap.size, 0, none⟩ = some (.bool true) := hB3.cell 0
    have a1 : w3.cell? ⟨w.heap.size, 1, none⟩ = some (.string ⟨tx.toArray⟩) := hB3.cell 1
    have hf3 : Fr (fun k => k = w.heap.size) w4 w3 := by rw [← hw3, ← hw2]; exact ((Fr.refl (fun k => k = w.heap.size) w4).setCell _ _ (fun _ => rfl)).setCell _ _ (fun _ => rfl)
    have hf34 : Fr (fun k => k = q) w w4 := H1.out.2.2.trans hf4 (fun _ _ e => e)
    have H3 := Lib.hid (And.intro (show RfAt w3 q (Cd.textR (Cd.flagR r) 32) F from h4.fr hf3 (fun k hk e => by have h1 : k = w.heap.size := e; have h2 := H.out.2.2.2.2.2.bound k hk; omega)) (show Fr (fun k => k = q) w w3 from hf34.trans hf3 (fun k hk e => by have h1 : k = w.heap.size := e; omega)))
    clear hB2 hB3 hB4 hf3 hf34 h4 hf4 htx
    go_wp2_with fail
    refine bodyPost_ret (v := vVal ⟨true, ⟨tx.toArray⟩⟩) ?_ rfl (by rw [show R = (⟨true, ⟨tx.toArray⟩⟩, Cd.textR (Cd.flagR r) 32) by rw [← HR.out, vC_dec, hfl, ← HTX.out]]; exact ⟨rfl, H3.out.1, H3.out.2⟩)
    simp [results, Try.results51, go_sem, a0, a1]
end Go.Proofs.Ytlijfnekopjogaa
