/- The message of bytes. -/
import Derived.Test.YtlpdjpkdgagjpaaDoorMsgMath
import Derived.Test.YtlpdjpkdgagjpaaDoorRefMsgEnc
import Derived.Test.YtlpdjpkdgagjpaaDoorStepCall
namespace Go.Proofs.YtlpdjpkdgagjpaaDoor
open Go.RowKit Mem
set_option maxRecDepth 100000
set_option linter.unusedVariables false
set_option linter.unusedSimpArgs false
attribute [local go_sem ↓] Go.wp_at_zero Go.wp_at_succ

theorem one1 (x : Int) : ∀ u ∈ ([.int .i64 x] : List Value), u.oneCell' = true := by
  intro u hu
  rw [List.mem_singleton] at hu
  subst hu
  rfl
theorem own_capI {w : World} {base : Nat} {e : TypeId} {size n c : Nat} {A : Option Addr} {xs : List Value} (h : w.ownsRow base e size (.slice A n c) n xs) : n ≤ c ∧ c ≤ 9223372036854775807 := by
  rcases h.2 with ⟨e0, e1⟩ | ⟨g, cap, cur, e0, _, _, h1, h2, _⟩
  · injection e0; omega
  · injection e0; unfold maxLen at h2; omega
/-- a message, and an error -/
def DecP (w : World) (r : Mg.M × Nat) (e : Ending) (w' : World) : Prop :=
  ∃ A c, e = .returned (.tuple #[mgVal r.1 A r.1.mem.length c, .int .i64 (r.2 : Nat)]) ∧ IS w' A r.1.mem.length r.1.mem ∧ r.1.mem.length ≤ c ∧ c ≤ 9223372036854775807 ∧ Below w.heap.size w w'
abbrev zCells : Array Value := #[.int .i64 0, .int .i64 0, .int .i64 0, .int .i64 0, .slice none 0 0]
theorem mg_put (l : List Int) (k : Nat) (hk : k < 4) (hl : l.length = k) (x : Int) : (mgCells (Mg.mOf l []) none 0 0).setIfInBounds k (.int .i64 x) = mgCells (Mg.mOf (l ++ [x]) []) none 0 0 := by
  match k, hk, l, hl with
  | 0, _, [], _ => rfl
  | 1, _, [a], _ => rfl
  | 2, _, [a, b], _ => rfl
  | 3, _, [a, b, c], _ => rfl
/-- one store of a message -/
theorem mg_put5 {w : World} {b : Nat} {cs : Array Value} (h : Blk w b 60 cs) (hs : cs.size = 5) (m : Mg.M) (A : Option Addr) (n c : Nat) :
    Blk (((((w.setCell ⟨b, 0, none⟩ (.int .i64 m.kind)).setCell ⟨b, 1, none⟩ (.int .i64 m.from_)).setCell ⟨b, 2, none⟩ (.int .i64 m.to)).setCell ⟨b, 3, none⟩ (.int .i64 m.tx)).setCell ⟨b, 4, none⟩ (.slice A n c)) b 60 (mgCells m A n c) ∧
      Fr (fun k => k = b) w (((((w.setCell ⟨b, 0, none⟩ (.int .i64 m.kind)).setCell ⟨b, 1, none⟩ (.int .i64 m.from_)).setCell ⟨b, 2, none⟩ (.int .i64 m.to)).setCell ⟨b, 3, none⟩ (.int .i64 m.tx)).setCell ⟨b, 4, none⟩ (.slice A n c)) := by
  obtain ⟨l⟩ := cs
  match l, hs with
  | [a0, a1, a2, a3, a4], _ =>
    exact ⟨((((h.put 0 (.int .i64 m.kind)).put 1 (.int .i64 m.from_)).put 2 (.int .i64 m.to)).put 3 (.int .i64 m.tx)).put 4 (.slice A n c), (((((Fr.refl (fun k => k = b) w).setCell ⟨b, 0, none⟩ _ (fun _ => rfl)).setCell ⟨b, 1, none⟩ _ (fun _ => rfl)).setCell ⟨b, 2, none⟩ _ (fun _ => rfl)).setCell ⟨b, 3, none⟩ _ (fun _ => rfl)).setCell ⟨b, 4, none⟩ _ (fun _ => rfl)⟩
theorem z_cells {w : World} {b : Nat} (h : Blk w b 60 zCells) : (w.cell? ⟨b, 0, none⟩ = some (.int .i64 0) ∧ w.cell? ⟨b, 1, none⟩ = some (.int .i64 0) ∧ w.cell? ⟨b, 2, none⟩ = some (.int .i64 0) ∧ w.cell? ⟨b, 3, none⟩ = some (.int .i64 0) ∧ w.cell? ⟨b, 4, none⟩ = some (.slice none 0 0)) ∧
    w.frozen? ⟨b, 0, none⟩ = false ∧ w.frozen? ⟨b, 1, none⟩ = false ∧ w.frozen? ⟨b, 2, none⟩ = false ∧ w.frozen? ⟨b, 3, none⟩ = false ∧ w.frozen? ⟨b, 4, none⟩ = false :=
  ⟨⟨h.cell 0, h.cell 1, h.cell 2, h.cell 3, h.cell 4⟩, h.free 0, h.free 1, h.free 2, h.free 3, h.free 4⟩
/-- the reader and the message under way -/
structure DecSt (w0 : World) (rb mb q : Nat) (F : Nat → Prop) (lo hi : Nat) (r : Sl.R) (l mem : List Int) (A : Option Addr) (c : Nat) (w : World) : Prop where
  rd : RdAt w q r F
  res : Blk w rb 60 zCells
  msg : Blk w mb 60 (mgCells (Mg.mOf l mem) A mem.length c)
  row : w.ownsRow hi 3 1 (.slice A mem.length c) mem.length (i64s mem)
  foot : ∀ k, F k → lo ≤ k ∧ k < hi
  below : Below w0.heap.size w0 w
  ord : w0.heap.size ≤ rb ∧ rb < mb ∧ mb < lo ∧ lo ≤ hi ∧ hi ≤ w.heap.size
theorem DecSt.fr {w0 w w' : World} {rb mb q : Nat} {F : Nat → Prop} {lo hi : Nat} {r r' : Sl.R} {l mem : List Int} {A : Option Addr} {c : Nat} (h : DecSt w0 rb mb q F lo hi r l mem A c w) (hr : RdAt w' q r' F) (hf : Fr (fun k => k = q) w w') : DecSt w0 rb mb q F lo hi r' l mem A c w' := by
  have hq := h.foot q h.rd.self
  have ho := h.ord
  have hs := hf.size
  exact ⟨hr, h.res.keep (hf.block _ h.res.lt (by omega)), h.msg.keep (hf.block _ h.msg.lt (by omega)), own_keep h.row (fun k e => hf.block k (own_lt h.row e) (fun e2 => by have := own_ge h.row e; omega)), h.foot, h.below.trans (hf.below h.below.size (fun i hi => by omega)), by omega⟩
theorem DecSt.grow {w0 w w' : World} {rb mb q : Nat} {F : Nat → Prop} {lo hi : Nat} {r : Sl.R} {l mem : List Int} {A : Option Addr} {c : Nat} (h : DecSt w0 rb mb q F lo hi r l mem A c w) (hb : Below w.heap.size w w') : DecSt w0 rb mb q F lo hi r l mem A c w' := by
  have ho := h.ord
  have hs := hb.size
  exact ⟨h.rd.below hb, h.res.below hb h.res.lt, h.msg.below hb h.msg.lt, own_below h.row hb, h.foot, h.below.trans (hb.mono h.below.size), by omega⟩
theorem DecSt.num {w0 w : World} {rb mb q : Nat} {F : Nat → Prop} {lo hi : Nat} {r : Sl.R} {l mem : List Int} {A : Option Addr} {c : Nat} (h : DecSt w0 rb mb q F lo hi r l mem A c w) (most : Int) (hm : 0 ≤ most ∧ most ≤ 1099511627776) (hl : r.b.length ≤ 100000000) :
    Calls Tryd.prog 57 #[.pointer (some ⟨q, 0, none⟩), .int .i64 most] w fun e w' => e = .returned (.int .i64 (Mg.one r most)) ∧ DecSt w0 rb mb q F lo hi (Mg.next r most) l mem A c w' := by
  refine (rnum_any q r F most w h.rd (by omega) (by omega)).mono ?_
  rintro e w' ⟨rfl, hr, hf⟩
  exact ⟨rfl, h.fr hr hf⟩
theorem DecSt.end_ {w0 w : World} {rb mb q : Nat} {F : Nat → Prop} {lo hi : Nat} {r : Sl.R} {l mem : List Int} {A : Option Addr} {c : Nat} (h : DecSt w0 rb mb q F lo hi r l mem A c w) (hl : r.b.length ≤ 100000000) :
    Calls Tryd.prog 58 #[.pointer (some ⟨q, 0, none⟩)] w fun e w' => e = .returned (.int .i64 (Mg.fin r : Nat)) ∧ ∃ r', DecSt w0 rb mb q F lo hi r' l mem A c w' := by
  refine (rend_any q r F w h.rd (by omega)).mono ?_
  rintro e w' ⟨rfl, hr, hf⟩
  exact ⟨rfl, _, h.fr hr hf⟩
theorem dec_push {w0 w6 w7 : World} {rb mb q : Nat} {F : Nat → Prop} {lo hi : Nat} {r : Sl.R} {l mem : List Int} {A : Option Addr} {c : Nat} (h : DecSt w0 rb mb q F lo hi r l mem A c w6) (x : Int) {g cap : Nat}
    (hown : w7.ownsRow hi 3 1 (.slice (some ⟨g, 0, none⟩) (mem.length + 1) cap) (mem.length + 1) (i64s mem ++ [.int .i64 x])) (hg : (w6.alloc (.cells #[.int .i64 x] 3)).grownBy w7 (Value.slice A mem.length c).ownBlock) :
    DecSt w0 rb mb q F lo hi r l (mem ++ [x]) (some ⟨g, 0, none⟩) cap (w7.setCell ⟨mb, 4, none⟩ (.slice (some ⟨g, 0, none⟩) (mem.length + 1) cap)) := by
  have ho := h.ord
  have hb1 : Below w6.heap.size w6 (w6.alloc (.cells #[.int .i64 x] 3)) := (Below.refl _ _).alloc (Nat.le_refl _) _
  have hs7 : w6.heap.size + 1 ≤ w7.heap.size := by have := hg.size; simpa using this
  have hrow : ∀ k, k < hi → k < w6.heap.size → w7.heap[k]? = w6.heap[k]? := fun k hk hk2 =>
    (hg.block k (by simp; omega) (fun e => by have := own_ge h.row e.symm; omega)).trans (hb1.block k hk2)
  have hbel : Below hi w6 w7 := ⟨hg.os, hg.tape, hg.output, by omega, fun k hk => hrow k hk (by omega)⟩
  have hgge : hi ≤ g := own_ge hown rfl
  have hsc : (w7.setCell ⟨mb, 4, none⟩ (.slice (some ⟨g, 0, none⟩) (mem.length + 1) cap)).heap.size = w7.heap.size := by simp [World.setCell]
  have hoth : ∀ k, k ≠ mb → (w7.setCell ⟨mb, 4, none⟩ (.slice (some ⟨g, 0, none⟩) (mem.length + 1) cap)).heap[k]? = w7.heap[k]? := fun k hk => Below.heap_setCell w7 _ _ k (by simpa using hk)
  have hlen : (mem ++ [x]).length = mem.length + 1 := by simp
  refine ⟨h.rd.keep (by omega) (fun j hj => ?_), ?_, ?_, ?_, h.foot, ?_, by omega⟩
  · have := h.foot j hj
    rw [hoth j (by omega), hrow j (by omega) (h.rd.bound j hj)]
  · exact h.res.keep (by rw [hoth rb (by omega), hrow rb (by omega) h.res.lt])
  · have hm7 : Blk w7 mb 60 (mgCells (Mg.mOf l mem) A mem.length c) := h.msg.keep (hrow mb (by omega) h.msg.lt)
    have := hm7.put 4 (.slice (some ⟨g, 0, none⟩) (mem.length + 1) cap)
    rw [hlen]
    exact this
  · rw [hlen]
    have e : i64s (mem ++ [x]) = i64s mem ++ [.int .i64 x] := by simp [i64s]
    rw [e]
    exact own_keep hown (fun k e => hoth k (by have := own_ge hown e; omega))
  · have h1 : Below w0.heap.size w0 w7 := h.below.trans (hbel.mono (by omega))
    exact h1.trans ((Fr.setCell (F := fun i => w0.heap.size ≤ i) (Fr.refl _ _) ⟨mb, 4, none⟩ (.slice (some ⟨g, 0, none⟩) (mem.length + 1) cap) (fun _ => by simp only; omega)).below h1.size (fun i hi => hi))
set_option maxHeartbeats 16000000 in
theorem mdec_any (A : Option Addr) (n cap : Nat) (bs : List UInt8) (w : World) (hbs : BS w A n bs) (hn : n ≤ 100000) (hnc : n ≤ cap) (hcm : cap ≤ 9223372036854775807) (ht : Half w) :
    Calls Tryd.prog 34 #[.slice A n cap] w (DecP w (Mg.dec bs)) := by
  have hb0 : Below w.heap.size w (w.alloc (.cells zCells 60)) := (Below.refl _ _).alloc (Nat.le_refl _) _
  have hk0 := Blk.new w 60 zCells
  have hop := open_any A n cap bs _ (hbs.below hb0) (by omega) hnc hcm (ht.below hb0)
  have hs0 : (w.alloc (.cells zCells 60)).heap.size = w.heap.size + 1 := by simp
  obtain ⟨R, hR⟩ : ∃ R, Mg.dec bs = R := ⟨_, rfl⟩
  have hRd := hR
  unfold Mg.dec at hRd
  have hob := fun s k => Sl.seal_of_open bs s k
  generalize Sl.openB bs = o at *
  obtain ⟨s, k, e⟩ := o
  simp only at hop hRd
  rw [hR]
  have H := Lib.hid (And.intro hb0 (And.intro hk0 (And.intro hop (And.intro hRd (And.intro hbs.1 (And.intro hob hs0))))))
  clear hb0 hk0 hop hRd hR hbs hob hs0 ht
  by_cases he : e ≠ 0
  · have hr : R = (Mg.zero, e) := by rw [← H.out.2.2.2.1, if_pos he]
    have e1 : ((e : Int) != 0) = true := by rw [bne_iff_ne]; omega
    have HR := Lib.hid hr
    clear he hr
    go_enter Tryd.func34, Tryd.ntmps34
    go_wp2_with fail
    generalize w.alloc (.cells zCells 60) = W0 at *
    refine H.out.2.2.1.mono ?_
    rintro e2 w2 ⟨B, bc, rfl, hB, hb3, hb4, hb2, _⟩
    simp only
    have hk2 := H.out.2.1.below hb2 (by have := H.out.2.2.2.2.2.2; omega)
    obtain ⟨⟨c0, c1, c2, c3, c4⟩, f0, f1, f2, f3, f4⟩ := z_cells hk2
    have H2 := Lib.hid (And.intro hk2 (H.out.1.trans (hb2.mono H.out.1.size)))
    clear hB hb2 hk2
    go_wp2_with fail
    obtain ⟨b5, f5⟩ := mg_put5 H2.out.1 rfl Mg.zero none 0 0
    dsimp only [Mg.zero, mgCells] at b5 f5
    have hbel := H2.out.2
    have hfb := hbel.trans (f5.below hbel.size (fun i hi => by omega))
    generalize ((((w2.setCell ⟨w.heap.size, 0, none⟩ (.int .i64 0)).setCell ⟨w.heap.size, 1, none⟩ (.int .i64 0)).setCell ⟨w.heap.size, 2, none⟩ (.int .i64 0)).setCell ⟨w.heap.size, 3, none⟩ (.int .i64 0)).setCell ⟨w.heap.size, 4, none⟩ (.slice none 0 0) = w9 at *
    have z0 : w9.cell? ⟨w.heap.size, 0, none⟩ = some (.int .i64 0) := b5.cell 0
    have z1 : w9.cell? ⟨w.heap.size, 1, none⟩ = some (.int .i64 0) := b5.cell 1
    have z2 : w9.cell? ⟨w.heap.size, 2, none⟩ = some (.int .i64 0) := b5.cell 2
    have z3 : w9.cell? ⟨w.heap.size, 3, none⟩ = some (.int .i64 0) := b5.cell 3
    have z4 : w9.cell? ⟨w.heap.size, 4, none⟩ = some (.slice none 0 0) := b5.cell 4
    exact bodyPost_ret (v := .tuple #[mgVal Mg.zero none 0 0, .int .i64 e]) (by simp [results, Tryd.results34, go_sem, z0, z1, z2, z3, z4, Mg.zero]) rfl (by rw [HR.out]; exact ⟨none, 0, rfl, IS.empty _ _, Nat.le_refl _, by simp [Mg.zero], hfb⟩)
  · obtain rfl : e = 0 := by omega
    by_cases hk : k ≠ bs.length
    · have hr : R = (Mg.zero, 13) := by rw [← H.out.2.2.2.1, if_neg (by simp), if_pos hk]
      have k1 : ((k : Int) != (n : Int)) = true := by rw [bne_iff_ne]; have := H.out.2.2.2.2.1; omega
      have k2 : ¬ k = n := by have := H.out.2.2.2.2.1; omega
      have HR := Lib.hid hr
      clear hk hr he
      go_enter Tryd.func34, Tryd.ntmps34
      go_wp2_with fail
      generalize w.alloc (.cells zCells 60) = W0 at *
      refine H.out.2.2.1.mono ?_
      rintro e2 w2 ⟨B, bc, rfl, hB, hb3, hb4, hb2, _⟩
      simp only
      have hk2 := H.out.2.1.below hb2 (by have := H.out.2.2.2.2.2.2; omega)
      obtain ⟨⟨c0, c1, c2, c3, c4⟩, f0, f1, f2, f3, f4⟩ := z_cells hk2
      have H2 := Lib.hid (And.intro hk2 (H.out.1.trans (hb2.mono H.out.1.size)))
      clear hB hb2 hk2
      go_wp2_with fail
      obtain ⟨b5, f5⟩ := mg_put5 H2.out.1 rfl Mg.zero none 0 0
      dsimp only [Mg.zero, mgCells] at b5 f5
      have hbel := H2.out.2
      have hfb := hbel.trans (f5.below hbel.size (fun i hi => by omega))
      generalize ((((w2.setCell ⟨w.heap.size, 0, none⟩ (.int .i64 0)).setCell ⟨w.heap.size, 1, none⟩ (.int .i64 0)).setCell ⟨w.heap.size, 2, none⟩ (.int .i64 0)).setCell ⟨w.heap.size, 3, none⟩ (.int .i64 0)).setCell ⟨w.heap.size, 4, none⟩ (.slice none 0 0) = w9 at *
      have z0 : w9.cell? ⟨w.heap.size, 0, none⟩ = some (.int .i64 0) := b5.cell 0
      have z1 : w9.cell? ⟨w.heap.size, 1, none⟩ = some (.int .i64 0) := b5.cell 1
      have z2 : w9.cell? ⟨w.heap.size, 2, none⟩ = some (.int .i64 0) := b5.cell 2
      have z3 : w9.cell? ⟨w.heap.size, 3, none⟩ = some (.int .i64 0) := b5.cell 3
      have z4 : w9.cell? ⟨w.heap.size, 4, none⟩ = some (.slice none 0 0) := b5.cell 4
      exact bodyPost_ret (v := .tuple #[mgVal Mg.zero none 0 0, .int .i64 13]) (by simp [results, Tryd.results34, go_sem, z0, z1, z2, z3, z4, Mg.zero]) rfl (by rw [HR.out]; exact ⟨none, 0, rfl, IS.empty _ _, Nat.le_refl _, by simp [Mg.zero], hfb⟩)
    · have hr : R = Mg.decS s := by rw [← H.out.2.2.2.1, if_neg (by simp), if_neg hk]
      have hkn : k = n := by have := H.out.2.2.2.2.1; omega
      obtain ⟨hs4, _, _⟩ := H.out.2.2.2.2.2.1 s k rfl
      subst hkn
      have HR := Lib.hid hr
      clear hk hr he
      go_enter Tryd.func34, Tryd.ntmps34
      go_wp2_with fail
      generalize w.alloc (.cells zCells 60) = W0 at *
      refine H.out.2.2.1.mono ?_
      rintro e2 w2 ⟨B, bc, rfl, hB, hb3, hb4, hb2, _⟩
      simp only
      have hk2 := H.out.2.1.below hb2 (by have := H.out.2.2.2.2.2.2; omega)
      have hs3 : (w2.alloc (.cells zCells 60)).heap.size = w2.heap.size + 1 := by simp
      have hmb := Blk.new w2 60 zCells
      have hbz : Below w2.heap.size w2 (w2.alloc (.cells zCells 60)) := (Below.refl _ _).alloc (Nat.le_refl _) _
      have hlo := hk2.lt
      have H2 := Lib.hid (And.intro (hk2.below hbz hk2.lt) (And.intro (H.out.1.trans ((hb2.trans (hbz.mono hb2.size)).mono H.out.1.size)) (And.intro (read_new B s.length bc s _ (hB.below hbz) (by omega)) (And.intro hmb hs3))))
      clear hB hb2 hk2 hbz hmb hs3
      go_wp2_with fail
      generalize hmbe : w2.heap.size = mb at *
      generalize w2.alloc (.cells zCells 60) = w3 at *
      clear hmbe
      refine H2.out.2.2.1.mono ?_
      rintro e3 w4 ⟨q, F, rfl, hrd, hb4', hF⟩
      have hidx := fun k hk x hx => idx4 mb k hk x hx
      unfold mptrs mptr at hidx
      have HI := Lib.hid hidx
      clear hidx
      go_wp2_with fail
      refine (numbers_any mb w4).mono ?_
      unfold mptrs mptr
      rintro e5 w5 ⟨rfl, hb5⟩
      have hst : DecSt w w.heap.size mb q F w3.heap.size w4.heap.size ⟨s, 0⟩ [] [] none 0 w4 := by
        have hz := H2.out.2.2.2.2
        refine ⟨hrd, H2.out.1.below hb4' (by omega), H2.out.2.2.2.1.below hb4' (by omega), ⟨rfl, .inl ⟨rfl, rfl⟩⟩, fun j hj => ⟨hF j hj, hrd.bound j hj⟩, H2.out.2.1.trans (hb4'.mono H2.out.2.1.size), by have := hb4'.size; omega⟩
      have H5 := Lib.hid (hst.grow hb5)
      clear hst hb5 hrd hb4' hF
      generalize w3.heap.size = lo at *
      generalize w4.heap.size = hi at *
      go_wp2_with fail
      go_loopw [10, 32] (fun _ i wr => ∃ (k : Nat), k ≤ 4 ∧ i = .int .i64 k ∧ DecSt w w.heap.size mb q F lo hi (Mg.reads ⟨s, 0⟩ k).2 (Mg.reads ⟨s, 0⟩ k).1 [] none 0 wr) (fun _ i _ => 4 - (intOf i).toNat)
      case atStart => exact ⟨0, by omega, rfl, H5.out⟩
      case round =>
        obtain ⟨k1, hk1, rfl, hst⟩ := hrel
        clear H5
        have hle := Mg.reads_le ⟨s, 0⟩ k1
        simp only at hle
        by_cases hlt : k1 < 4
        · have hlk := Mg.reads_length ⟨s, 0⟩ k1
          have hstep : Mg.reads ⟨s, 0⟩ (k1 + 1) = ((Mg.reads ⟨s, 0⟩ k1).1 ++ [Mg.one (Mg.reads ⟨s, 0⟩ k1).2 1099511627776], Mg.next (Mg.reads ⟨s, 0⟩ k1).2 1099511627776) := rfl
          generalize Mg.reads ⟨s, 0⟩ k1 = t at *
          obtain ⟨l, r⟩ := t
          simp only at hst hle hlk hstep
          have hidx := HI.out k1 hlt k1 rfl
          have HN := Lib.hid (And.intro hst (And.intro hstep hlk))
          clear hst hstep hlk
          go_wp2_with fail
          refine (HN.out.1.num 1099511627776 (by omega) (by omega)).mono ?_
          rintro e6 w6 ⟨rfl, hst6⟩
          have hcell : ∃ old, w6.cell? ⟨mb, k1, none⟩ = some (.int .i64 old) := ⟨_, mgcell hst6.msg hlt⟩
          obtain ⟨old, hcell⟩ := hcell
          have hfz := hst6.msg.free k1
          have H6 := Lib.hid (show DecSt w w.heap.size mb q F lo hi (Mg.next r 1099511627776) (l ++ [Mg.one r 1099511627776]) [] none 0 (w6.setCell ⟨mb, k1, none⟩ (.int .i64 (Mg.one r 1099511627776))) by
            have ho := hst6.ord
            have hput := hst6.msg.put k1 (.int .i64 (Mg.one r 1099511627776))
            have hmp := mg_put l k1 hlt HN.out.2.2 (Mg.one r 1099511627776)
            have hsc : (w6.setCell ⟨mb, k1, none⟩ (.int .i64 (Mg.one r 1099511627776))).heap.size = w6.heap.size := by simp [World.setCell]
            refine ⟨hst6.rd.keep (by omega) (fun j hj => Below.heap_setCell w6 _ _ j (by have := hst6.foot j hj; intro e; simp only at e; omega)), hst6.res.far (by simp; omega) _, ?_, ⟨rfl, .inl ⟨rfl, rfl⟩⟩, hst6.foot, hst6.below.trans ((Fr.setCell (F := fun i => w.heap.size ≤ i) (Fr.refl _ _) ⟨mb, k1, none⟩ (.int .i64 (Mg.one r 1099511627776)) (fun _ => by simp only; omega)).below hst6.below.size (fun i hi => hi)), by omega⟩
            show Blk _ mb 60 (mgCells (Mg.mOf (l ++ [Mg.one r 1099511627776]) []) none 0 0)
            rw [← hmp]
            exact hput)
          clear hst6
          go_wp2
          go_roundw
          case rel => exact ⟨k1 + 1, by omega, by go_num, by rw [HN.out.2.1]; exact H6.out⟩
          case measure => simp [intOf]; omega
        · obtain rfl : k1 = 4 := by omega
          have hdec : Mg.decS s = if Mg.fin (Mg.tailOf (Mg.reads ⟨s, 0⟩ 4)).2 ≠ 0 then (Mg.zero, Mg.fin (Mg.tailOf (Mg.reads ⟨s, 0⟩ 4)).2) else if Mg.may (Mg.mOf (Mg.reads ⟨s, 0⟩ 4).1 (Mg.tailOf (Mg.reads ⟨s, 0⟩ 4)).1) = true then (Mg.mOf (Mg.reads ⟨s, 0⟩ 4).1 (Mg.tailOf (Mg.reads ⟨s, 0⟩ 4)).1, 0) else (Mg.zero, 11) := rfl
          have hlen4 := Mg.reads_length ⟨s, 0⟩ 4
          generalize Mg.reads ⟨s, 0⟩ 4 = t at *
          obtain ⟨l, r⟩ := t
          simp only at hst hle hdec hlen4
          obtain ⟨x0, x1, x2, x3, hl4⟩ := Mg.four hlen4
          have hcs := mg_cells hst.msg
          rw [hl4] at hcs
          have c0 : wr.cell? ⟨mb, 0, none⟩ = some (.int .i64 x0) := hcs.1
          have c4 : wr.cell? ⟨mb, 4, none⟩ = some (.slice none 0 0) := hcs.2.2.2.2
          clear hcs
          have HN := Lib.hid (And.intro hst (And.intro hdec hl4))
          clear hst hdec hl4 hlen4
          by_cases hk1 : x0 = 1
          · have a1 : (x0 == 1) = true := by simpa using hk1
            have ht : Mg.tailOf (l, r) = Mg.reads (Mg.next r 8) (Mg.one r 8).toNat := by unfold Mg.tailOf; rw [HN.out.2.2]; exact if_pos hk1
            have hob := Mg.one_bound r 8 (by omega) (by omega)
            have hnle := Mg.next_le r 8
            obtain ⟨K, hK⟩ := Int.eq_ofNat_of_zero_le hob.1
            rw [hK, Int.toNat_natCast] at ht
            have hK8 : K ≤ 8 := by omega
            have hnum8 := HN.out.1.num 8 (by omega) (by omega)
            rw [hK] at hnum8
            have HTL := Lib.hid (And.intro ht hnum8)
            clear ht hk1 hob hK hnum8
            generalize Mg.next r 8 = r1 at *
            obtain ⟨i0, hi0, hz0, hz1, hz2⟩ := info_parts oinfoI
            have HII := Lib.hid (And.intro hi0 (And.intro hz0 (And.intro hz1 hz2)))
            clear hi0 hz0 hz1 hz2
            go_wp2_with fail
            refine HTL.out.2.mono ?_
            rintro e6 w6 ⟨rfl, hst6⟩
            have H6 := Lib.hid hst6
            clear hst6
            go_wp2_with fail
            go_loopw [45] (fun i wr => ∃ (k2 : Nat) (A2 : Option Addr) (c2 : Nat), k2 ≤ K ∧ i = .int .i64 k2 ∧ DecSt w w.heap.size mb q F lo hi (Mg.reads r1 k2).2 l (Mg.reads r1 k2).1 A2 c2 wr) (fun i _ => K - (intOf i).toNat)
            case atStart => exact ⟨0, none, 0, by omega, rfl, H6.out⟩
            case round =>
              obtain ⟨k2, A2, c2, hk2, rfl, hst⟩ := hrel
              clear H6
              have hle2 := Mg.reads_le r1 k2
              have hlk2 := Mg.reads_length r1 k2
              by_cases hlt2 : k2 < K
              · have hstep : Mg.reads r1 (k2 + 1) = ((Mg.reads r1 k2).1 ++ [Mg.one (Mg.reads r1 k2).2 1099511627776], Mg.next (Mg.reads r1 k2).2 1099511627776) := rfl
                generalize Mg.reads r1 k2 = t2 at *
                obtain ⟨mem, r2⟩ := t2
                simp only at hst hle2 hlk2 hstep
                have hml : mem.length ≤ 8 := by omega
                have hkK : (k2 : Int) < (K : Int) := by omega
                have d4 : wr.cell? ⟨mb, 4, none⟩ = some (.slice A2 mem.length c2) := (mg_cells hst.msg).2.2.2.2
                have f4 := hst.msg.free 4
                have hnum := (hst.grow (w' := wr.drew) ⟨rfl, rfl, rfl, Nat.le_refl _, fun _ _ => rfl⟩).num 1099511627776 (by omega) (by omega)
                have HX := Lib.hid (And.intro hst (And.intro hstep (And.intro hnum hlk2)))
                have hst0 := hst
                clear hst hstep c4 hnum hlk2
                go_upto_region 16 with fail
                have hqlt := hst0.rd.bound q hst0.rd.self
                clear hst0
                go_region_law (first
                  | (refine step_call (by rfl) 57 #[.tmp 49, .const (.int .i64 1099511627776)] #[113, 3] (by rfl) #[.pointer (some ⟨q, 0, none⟩), .int .i64 1099511627776] (by simp [Act.eval, Act.put]) (enters Tryd.func57 (by kernel_rfl) rfl) (HX.out.2.2.1.mono ?_)
                     rintro e6 w6 ⟨rfl, hst6⟩
                     refine ⟨_, rfl, ?_⟩
                     have d46 : w6.cell? ⟨mb, 4, none⟩ = some (.slice A2 mem.length c2) := (mg_cells hst6.msg).2.2.2.2
                     have d46a := (held_alloc (.cells #[.int .i64 (Mg.one r2 1099511627776)] 3) ⟨d46, hst6.msg.free 4⟩).1
                     have H6 := Lib.hid hst6
                     clear hst6)
                  | (refine step_app_one (by rfl) (.tmp 48) (.tmp 51) 58 (by rfl) hi 3 i0 (.int .i64 0) 1 8 Tryd.underlying58 HII.out.1 HII.out.2.1 HII.out.2.2.1 HII.out.2.2.2 rfl (by omega) (.slice A2 mem.length c2) mem.length (i64s mem) (by simp [Act.eval, Act.put]) (H6.out.row.alloc _) w6.heap.size [.int .i64 (Mg.one r2 1099511627776)] (by simp [Act.eval, Act.put]) rfl (heap_alloc_new w6 _) (one1 _) (by omega) (by omega) (by have := H6.out.ord; simp; omega) ?_
                     intro g7 cap7 w7 hown7 hg7 hat7
                     have HS7 := held_keep (hg7.block mb (by have := H6.out.msg.lt; simp; omega) (fun e => by have := own_ge H6.out.row e.symm; have := H6.out.ord; omega)) (held_alloc (.cells #[.int .i64 (Mg.one r2 1099511627776)] 3) ⟨d46, H6.out.msg.free 4⟩)
                     have d47 := HS7.1
                     have f47 := HS7.2
                     have H7 := Lib.hid (And.intro hown7 (And.intro hg7 hat7))
                     clear hown7 hg7 hat7 HS7))
                all_goals
                  go_wp2
                  go_roundw
                  case rel => exact ⟨k2 + 1, some ⟨g7, 0, none⟩, cap7, by omega, by go_num, by rw [HX.out.2.1]; exact dec_push H6.out (Mg.one r2 1099511627776) H7.out.1 H7.out.2.1⟩
                  case measure => simp [intOf]; omega
              · obtain rfl : k2 = K := by omega
                generalize Mg.reads r1 k2 = t2 at *
                obtain ⟨mem, r2⟩ := t2
                simp only at hst hle2 hlk2
                have hml : mem.length ≤ 8 := by omega
                have HS := Lib.hid hst
                clear hst c4 hlk2
                have hfr : Mg.decS s = if Mg.fin r2 ≠ 0 then (Mg.zero, Mg.fin r2) else if Mg.may (Mg.mOf l mem) = true then ((Mg.mOf l mem), 0) else (Mg.zero, 11) := by rw [HN.out.2.1, HTL.out.1]
                have HFR := Lib.hid hfr
                clear hfr
                go_wp2_with fail
                refine (HS.out.end_ (by omega)).mono ?_
                rintro e7 w7 ⟨rfl, r7, hst7⟩
                have hrs := z_cells hst7.res
                have hms := mg_cells hst7.msg
                obtain ⟨⟨z0, z1, z2, z3, z4⟩, g0, g1, g2, g3, g4⟩ := hrs
                obtain ⟨m0, m1, m2, m3, m4⟩ := hms
                have hwb := hst7.ord
                have hlt7 := hst7.res.lt
                by_cases hf : Mg.fin r2 = 0
                · rw [hf]
                  have hmy := mgmay_any (Mg.mOf l mem) A2 mem.length c2 w7 (IS.of_own hst7.row) (by first | omega | simp) (own_capI hst7.row).2
                  have HY := Lib.hid (And.intro hst7 (And.intro hmy hf))
                  clear hst7 hmy hf
                  go_wp2_with fail
                  refine HY.out.2.1.mono ?_
                  cases hm : Mg.may (Mg.mOf l mem) with
                  | false =>
                    rintro e8 w8 ⟨rfl, hb8⟩
                    have hr : R = (Mg.zero, 11) := by rw [HR.out, HFR.out, if_neg (by rw [HY.out.2.2]; simp), hm, if_neg (by simp)]
                    have hst8 := HY.out.1.grow hb8
                    have hrs := z_cells hst8.res
                    obtain ⟨⟨z0, z1, z2, z3, z4⟩, g0, g1, g2, g3, g4⟩ := hrs
                    have HZ := Lib.hid (And.intro hr hst8)
                    clear hr hst8 hb8 hm
                    go_wp2_with fail
                    obtain ⟨b5, f5⟩ := mg_put5 HZ.out.2.res rfl Mg.zero none 0 0
                    dsimp only [Mg.zero, mgCells] at b5 f5
                    have hbel := HZ.out.2.below
                    have hfb := hbel.trans (f5.below hbel.size (fun i hi => by omega))
                    generalize ((((w8.setCell ⟨w.heap.size, 0, none⟩ (.int .i64 0)).setCell ⟨w.heap.size, 1, none⟩ (.int .i64 0)).setCell ⟨w.heap.size, 2, none⟩ (.int .i64 0)).setCell ⟨w.heap.size, 3, none⟩ (.int .i64 0)).setCell ⟨w.heap.size, 4, none⟩ (.slice none 0 0) = w9 at *
                    have y0 : w9.cell? ⟨w.heap.size, 0, none⟩ = some (.int .i64 0) := b5.cell 0
                    have y1 : w9.cell? ⟨w.heap.size, 1, none⟩ = some (.int .i64 0) := b5.cell 1
                    have y2 : w9.cell? ⟨w.heap.size, 2, none⟩ = some (.int .i64 0) := b5.cell 2
                    have y3 : w9.cell? ⟨w.heap.size, 3, none⟩ = some (.int .i64 0) := b5.cell 3
                    have y4 : w9.cell? ⟨w.heap.size, 4, none⟩ = some (.slice none 0 0) := b5.cell 4
                    exact bodyPost_ret (v := .tuple #[mgVal Mg.zero none 0 0, .int .i64 11]) (by simp [results, Tryd.results34, go_sem, y0, y1, y2, y3, y4, Mg.zero]) rfl (by rw [HZ.out.1]; exact ⟨none, 0, rfl, IS.empty _ _, Nat.le_refl _, by simp [Mg.zero], hfb⟩)
                  | true =>
                    rintro e8 w8 ⟨rfl, hb8⟩
                    have hr : R = ((Mg.mOf l mem), 0) := by rw [HR.out, HFR.out, if_neg (by rw [HY.out.2.2]; simp), hm, if_pos rfl]
                    have hst8 := HY.out.1.grow hb8
                    have hrs := z_cells hst8.res
                    obtain ⟨⟨z0, z1, z2, z3, z4⟩, g0, g1, g2, g3, g4⟩ := hrs
                    have hms := mg_cells hst8.msg
                    obtain ⟨m0, m1, m2, m3, m4⟩ := hms
                    have HZ := Lib.hid (And.intro hr hst8)
                    clear hr hst8 hb8 hm
                    go_wp2_with fail
                    obtain ⟨b5, f5⟩ := mg_put5 HZ.out.2.res rfl (Mg.mOf l mem) A2 mem.length c2
                    have hbel := HZ.out.2.below
                    have hfb := hbel.trans (f5.below hbel.size (fun i hi => by omega))
                    have hrow := HZ.out.2.row
                    have hcap := own_capI hrow
                    have hor := HZ.out.2.ord
                    have hrow9 := own_keep hrow (fun k e => f5.block k (own_lt hrow e) (fun e2 => by have := own_ge hrow e; omega))
                    generalize ((((w8.setCell ⟨w.heap.size, 0, none⟩ (.int .i64 ((Mg.mOf l mem)).kind)).setCell ⟨w.heap.size, 1, none⟩ (.int .i64 ((Mg.mOf l mem)).from_)).setCell ⟨w.heap.size, 2, none⟩ (.int .i64 ((Mg.mOf l mem)).to)).setCell ⟨w.heap.size, 3, none⟩ (.int .i64 ((Mg.mOf l mem)).tx)).setCell ⟨w.heap.size, 4, none⟩ (.slice A2 mem.length c2) = w9 at *
                    have y0 := b5.cell 0
                    have y1 := b5.cell 1
                    have y2 := b5.cell 2
                    have y3 := b5.cell 3
                    have y4 := b5.cell 4
                    simp only [mgCells, List.getElem?_toArray, List.getElem?_cons_zero, List.getElem?_cons_succ] at y0 y1 y2 y3 y4
                    exact bodyPost_ret (v := .tuple #[mgVal (Mg.mOf l mem) A2 mem.length c2, .int .i64 0]) (by simp [results, Tryd.results34, go_sem, y0, y1, y2, y3, y4]) rfl (by rw [HZ.out.1]; exact ⟨_, _, rfl, IS.of_own hrow9, hcap.1, hcap.2, hfb⟩)
                · have hf1 : ((Mg.fin r2 : Int) != 0) = true := by rw [bne_iff_ne]; omega
                  have hr : R = (Mg.zero, Mg.fin r2) := by rw [HR.out, HFR.out, if_pos hf]
                  have HZ := Lib.hid (And.intro hr hst7)
                  clear hr hst7 hf
                  go_wp2_with fail
                  obtain ⟨b5, f5⟩ := mg_put5 HZ.out.2.res rfl Mg.zero none 0 0
                  dsimp only [Mg.zero, mgCells] at b5 f5
                  have hbel := HZ.out.2.below
                  have hfb := hbel.trans (f5.below hbel.size (fun i hi => by omega))
                  generalize ((((w7.setCell ⟨w.heap.size, 0, none⟩ (.int .i64 0)).setCell ⟨w.heap.size, 1, none⟩ (.int .i64 0)).setCell ⟨w.heap.size, 2, none⟩ (.int .i64 0)).setCell ⟨w.heap.size, 3, none⟩ (.int .i64 0)).setCell ⟨w.heap.size, 4, none⟩ (.slice none 0 0) = w9 at *
                  have y0 : w9.cell? ⟨w.heap.size, 0, none⟩ = some (.int .i64 0) := b5.cell 0
                  have y1 : w9.cell? ⟨w.heap.size, 1, none⟩ = some (.int .i64 0) := b5.cell 1
                  have y2 : w9.cell? ⟨w.heap.size, 2, none⟩ = some (.int .i64 0) := b5.cell 2
                  have y3 : w9.cell? ⟨w.heap.size, 3, none⟩ = some (.int .i64 0) := b5.cell 3
                  have y4 : w9.cell? ⟨w.heap.size, 4, none⟩ = some (.slice none 0 0) := b5.cell 4
                  exact bodyPost_ret (v := .tuple #[mgVal Mg.zero none 0 0, .int .i64 (Mg.fin r2)]) (by simp [results, Tryd.results34, go_sem, y0, y1, y2, y3, y4, Mg.zero]) rfl (by rw [HZ.out.1]; exact ⟨none, 0, rfl, IS.empty _ _, Nat.le_refl _, by simp [Mg.zero], hfb⟩)
          · have a1 : (x0 == 1) = false := by simpa using hk1
            have ht : Mg.tailOf (l, r) = ([], r) := by unfold Mg.tailOf; rw [HN.out.2.2]; exact if_neg hk1
            have HTL := Lib.hid ht
            have HS := Lib.hid HN.out.1
            clear ht hk1
            have hfr : Mg.decS s = if Mg.fin r ≠ 0 then (Mg.zero, Mg.fin r) else if Mg.may (Mg.mOf l ([] : List Int)) = true then ((Mg.mOf l ([] : List Int)), 0) else (Mg.zero, 11) := by rw [HN.out.2.1, HTL.out]
            have HFR := Lib.hid hfr
            clear hfr
            go_wp2_with fail
            refine (HS.out.end_ (by omega)).mono ?_
            rintro e7 w7 ⟨rfl, r7, hst7⟩
            have hrs := z_cells hst7.res
            have hms := mg_cells hst7.msg
            obtain ⟨⟨z0, z1, z2, z3, z4⟩, g0, g1, g2, g3, g4⟩ := hrs
            obtain ⟨m0, m1, m2, m3, m4⟩ := hms
            have hwb := hst7.ord
            have hlt7 := hst7.res.lt
            by_cases hf : Mg.fin r = 0
            · rw [hf]
              have hmy := mgmay_any (Mg.mOf l ([] : List Int)) none ([] : List Int).length 0 w7 (IS.of_own hst7.row) (by first | omega | simp) (own_capI hst7.row).2
              have HY := Lib.hid (And.intro hst7 (And.intro hmy hf))
              clear hst7 hmy hf
              go_wp2_with fail
              refine HY.out.2.1.mono ?_
              cases hm : Mg.may (Mg.mOf l ([] : List Int)) with
              | false =>
                rintro e8 w8 ⟨rfl, hb8⟩
                have hr : R = (Mg.zero, 11) := by rw [HR.out, HFR.out, if_neg (by rw [HY.out.2.2]; simp), hm, if_neg (by simp)]
                have hst8 := HY.out.1.grow hb8
                have hrs := z_cells hst8.res
                obtain ⟨⟨z0, z1, z2, z3, z4⟩, g0, g1, g2, g3, g4⟩ := hrs
                have HZ := Lib.hid (And.intro hr hst8)
                clear hr hst8 hb8 hm
                go_wp2_with fail
                obtain ⟨b5, f5⟩ := mg_put5 HZ.out.2.res rfl Mg.zero none 0 0
                dsimp only [Mg.zero, mgCells] at b5 f5
                have hbel := HZ.out.2.below
                have hfb := hbel.trans (f5.below hbel.size (fun i hi => by omega))
                generalize ((((w8.setCell ⟨w.heap.size, 0, none⟩ (.int .i64 0)).setCell ⟨w.heap.size, 1, none⟩ (.int .i64 0)).setCell ⟨w.heap.size, 2, none⟩ (.int .i64 0)).setCell ⟨w.heap.size, 3, none⟩ (.int .i64 0)).setCell ⟨w.heap.size, 4, none⟩ (.slice none 0 0) = w9 at *
                have y0 : w9.cell? ⟨w.heap.size, 0, none⟩ = some (.int .i64 0) := b5.cell 0
                have y1 : w9.cell? ⟨w.heap.size, 1, none⟩ = some (.int .i64 0) := b5.cell 1
                have y2 : w9.cell? ⟨w.heap.size, 2, none⟩ = some (.int .i64 0) := b5.cell 2
                have y3 : w9.cell? ⟨w.heap.size, 3, none⟩ = some (.int .i64 0) := b5.cell 3
                have y4 : w9.cell? ⟨w.heap.size, 4, none⟩ = some (.slice none 0 0) := b5.cell 4
                exact bodyPost_ret (v := .tuple #[mgVal Mg.zero none 0 0, .int .i64 11]) (by simp [results, Tryd.results34, go_sem, y0, y1, y2, y3, y4, Mg.zero]) rfl (by rw [HZ.out.1]; exact ⟨none, 0, rfl, IS.empty _ _, Nat.le_refl _, by simp [Mg.zero], hfb⟩)
              | true =>
                rintro e8 w8 ⟨rfl, hb8⟩
                have hr : R = ((Mg.mOf l ([] : List Int)), 0) := by rw [HR.out, HFR.out, if_neg (by rw [HY.out.2.2]; simp), hm, if_pos rfl]
                have hst8 := HY.out.1.grow hb8
                have hrs := z_cells hst8.res
                obtain ⟨⟨z0, z1, z2, z3, z4⟩, g0, g1, g2, g3, g4⟩ := hrs
                have hms := mg_cells hst8.msg
                obtain ⟨m0, m1, m2, m3, m4⟩ := hms
                have HZ := Lib.hid (And.intro hr hst8)
                clear hr hst8 hb8 hm
                go_wp2_with fail
                obtain ⟨b5, f5⟩ := mg_put5 HZ.out.2.res rfl (Mg.mOf l ([] : List Int)) none ([] : List Int).length 0
                have hbel := HZ.out.2.below
                have hfb := hbel.trans (f5.below hbel.size (fun i hi => by omega))
                have hrow := HZ.out.2.row
                have hcap := own_capI hrow
                have hor := HZ.out.2.ord
                have hrow9 := own_keep hrow (fun k e => f5.block k (own_lt hrow e) (fun e2 => by have := own_ge hrow e; omega))
                generalize ((((w8.setCell ⟨w.heap.size, 0, none⟩ (.int .i64 ((Mg.mOf l ([] : List Int))).kind)).setCell ⟨w.heap.size, 1, none⟩ (.int .i64 ((Mg.mOf l ([] : List Int))).from_)).setCell ⟨w.heap.size, 2, none⟩ (.int .i64 ((Mg.mOf l ([] : List Int))).to)).setCell ⟨w.heap.size, 3, none⟩ (.int .i64 ((Mg.mOf l ([] : List Int))).tx)).setCell ⟨w.heap.size, 4, none⟩ (.slice none ([] : List Int).length 0) = w9 at *
                have y0 := b5.cell 0
                have y1 := b5.cell 1
                have y2 := b5.cell 2
                have y3 := b5.cell 3
                have y4 := b5.cell 4
                simp only [mgCells, List.getElem?_toArray, List.getElem?_cons_zero, List.getElem?_cons_succ] at y0 y1 y2 y3 y4
                exact bodyPost_ret (v := .tuple #[mgVal (Mg.mOf l ([] : List Int)) none ([] : List Int).length 0, .int .i64 0]) (by simp [results, Tryd.results34, go_sem, y0, y1, y2, y3, y4]) rfl (by rw [HZ.out.1]; exact ⟨_, _, rfl, IS.of_own hrow9, hcap.1, hcap.2, hfb⟩)
            · have hf1 : ((Mg.fin r : Int) != 0) = true := by rw [bne_iff_ne]; omega
              have hr : R = (Mg.zero, Mg.fin r) := by rw [HR.out, HFR.out, if_pos hf]
              have HZ := Lib.hid (And.intro hr hst7)
              clear hr hst7 hf
              go_wp2_with fail
              obtain ⟨b5, f5⟩ := mg_put5 HZ.out.2.res rfl Mg.zero none 0 0
              dsimp only [Mg.zero, mgCells] at b5 f5
              have hbel := HZ.out.2.below
              have hfb := hbel.trans (f5.below hbel.size (fun i hi => by omega))
              generalize ((((w7.setCell ⟨w.heap.size, 0, none⟩ (.int .i64 0)).setCell ⟨w.heap.size, 1, none⟩ (.int .i64 0)).setCell ⟨w.heap.size, 2, none⟩ (.int .i64 0)).setCell ⟨w.heap.size, 3, none⟩ (.int .i64 0)).setCell ⟨w.heap.size, 4, none⟩ (.slice none 0 0) = w9 at *
              have y0 : w9.cell? ⟨w.heap.size, 0, none⟩ = some (.int .i64 0) := b5.cell 0
              have y1 : w9.cell? ⟨w.heap.size, 1, none⟩ = some (.int .i64 0) := b5.cell 1
              have y2 : w9.cell? ⟨w.heap.size, 2, none⟩ = some (.int .i64 0) := b5.cell 2
              have y3 : w9.cell? ⟨w.heap.size, 3, none⟩ = some (.int .i64 0) := b5.cell 3
              have y4 : w9.cell? ⟨w.heap.size, 4, none⟩ = some (.slice none 0 0) := b5.cell 4
              exact bodyPost_ret (v := .tuple #[mgVal Mg.zero none 0 0, .int .i64 (Mg.fin r)]) (by simp [results, Tryd.results34, go_sem, y0, y1, y2, y3, y4, Mg.zero]) rfl (by rw [HZ.out.1]; exact ⟨none, 0, rfl, IS.empty _ _, Nat.le_refl _, by simp [Mg.zero], hfb⟩)
end Go.Proofs.YtlpdjpkdgagjpaaDoor
