/- The document's disk: Crash. -/
import Derived.Test.YtaooimhodoefoaaRef04B
namespace Go.Proofs.Ytaooimhodoefoaa
open Go.RowKit Mem
set_option linter.unusedVariables false
set_option linter.unusedSimpArgs false
attribute [local go_sem ↓] Go.wp_at_zero Go.wp_at_succ

theorem add_zero (g i : Nat) : (⟨g, 0, none⟩ : Addr).add i = ⟨g, i, none⟩ := by unfold Addr.add; split <;> simp_all
def keepCut (ks : List Int) (j : Nat) : Nat := if (j : Int) ∈ ks then 256 else 0
def RCrashTo (w : World) (d : Dk.D) (e : Ending) (w' : World) : Prop := ∃ x, e = .returned (.pointer (some ⟨x, 0, none⟩)) ∧ Below w.heap.size w w' ∧ ∃ G', RefAt w' x d G' ∧ ∀ k, G' k → w.heap.size ≤ k
/-- the sectors that are laid -/
structure CrI (w1 wr : World) (d : Dk.D) (x k : Nat) (sv : Value) (xs : List Value) : Prop where
  r : RefIn wr x { crash0 d d.syn with size := k } sv xs (.slice none 0 0) [] (fun j => w1.heap.size ≤ j ∧ j < wr.heap.size)
  u : Uniq wr xs
  b : Below w1.heap.size w1 wr
  len : xs.length = k
theorem push_step {w1 wr w3 w4 : World} {d : Dk.D} {x k : Nat} {sv : Value} {xs : List Value} {g1 c1 g2 cap2 : Nat} {o : Obj} (h : CrI w1 wr d x k sv xs)
    (ho1 : w3.ownsRow wr.heap.size 5 1 (.slice (some ⟨g1, 0, none⟩) 256 c1) 256 (u8s ((d.syn k).getD Dk.zeros))) (hg1 : ((wr.alloc (.cells #[] 5)).drew).grownBy w3 (some wr.heap.size))
    (ho2 : w4.ownsRow 0 22 1 (.slice (some ⟨g2, 0, none⟩) (xs.length + 1) cap2) (xs.length + 1) (xs ++ [.slice (some ⟨g1, 0, none⟩) 256 c1]))
    (hg2 : (w3.alloc o).grownBy w4 sv.ownBlock) (hat2 : sv.ownBlock = some g2 ∨ g2 = (w3.alloc o).heap.size) :
    CrI w1 (w4.setCell ⟨x, 0, none⟩ (.slice (some ⟨g2, 0, none⟩) (xs.length + 1) cap2)) d x (k + 1) (.slice (some ⟨g2, 0, none⟩) (xs.length + 1) cap2) (xs ++ [.slice (some ⟨g1, 0, none⟩) 256 c1]) := by
  have hs3 : wr.heap.size + 1 ≤ w3.heap.size := by have := hg1.size; rwa [show ((wr.alloc (.cells #[] 5)).drew).heap.size = wr.heap.size + 1 from Array.size_push _] at this
  have hk3 : ∀ k, k < wr.heap.size → w3.heap[k]? = wr.heap[k]? := fun k hk => by
    rw [hg1.block k (by show k < (wr.alloc _).heap.size; simp; omega) (by simp; omega)]
    exact alloc_old wr _ hk
  have hb3 : Below wr.heap.size wr w3 := ⟨hg1.os, hg1.tape, hg1.output, by omega, hk3⟩
  obtain ⟨b0, off, c, C, fr, h1, h2, h3, h4, h5, h6, h7⟩ := SecAt.of_own (n := 0) ho1
  have e : g1 = b0 := by simpa [Value.ownBlock] using h2
  subst e
  injection h1 with h1 _ hc
  subst hc
  injection h1 with h1
  injection h1 with _ hoff
  subst hoff
  have hfr : fr = (0, 0) := by
    obtain ⟨cur, hcur⟩ := own_block ho1 (k := g1) rfl
    rw [h3] at hcur
    injection hcur with hcur
    injection hcur
  subst hfr
  have hge : wr.heap.size ≤ g1 := by
    rcases ho1.2 with ⟨e, _⟩ | ⟨g, c, cur, e, hb, _⟩
    · cases e
    · injection e with e; injection e with e; injection e with e; subst e; exact hb
  have hC : 256 ≤ C.size := by
    have := h7 255 (by omega)
    rcases Nat.lt_or_ge 255 C.size with hl | hl
    · omega
    · rw [Nat.zero_add, Array.getElem?_eq_none hl] at this; cases this
  obtain ⟨a1, a2, a3⟩ := rpush_end (w3 := w3) (g1 := g1) (c1 := c1) (C1 := C) (bs := (d.syn k).getD Dk.zeros) h.r h.u hk3 (by omega) hb3 h3 hge hC h5 h6 h4 (fun j hj => by have := h7 j hj; rwa [Nat.zero_add] at this) (by rw [h.len]; rfl) ho2 hg2 hat2
  have hb := h.b
  have hs := a3.size
  have hb' : Below w1.heap.size w1 (w4.setCell ⟨x, 0, none⟩ (.slice (some ⟨g2, 0, none⟩) (xs.length + 1) cap2)) := hb.trans (a3.below hb.size (fun i x => x.1))
  refine ⟨?_, a2, hb', by simp [h.len]⟩
  have e : ({ ({ crash0 d d.syn with size := (k : Int) } : Dk.D) with size := ({ crash0 d d.syn with size := (k : Int) } : Dk.D).size + 1 } : Dk.D) = { crash0 d d.syn with size := ((k + 1 : Nat) : Int) } := by simp
  rw [e] at a1
  exact ⟨a1.blk, a1.srow, a1.slen, fun i v hv => (a1.syn i v hv).mono (fun j x => by
      rcases x with x | x
      · exact ⟨x.1, by have := x.2; omega⟩
      · exact ⟨by have := hb.size; omega, by rw [setCell_size]; exact x.2⟩), a1.lrow, fun i hi => absurd hi (by simp [crash0]), by
      rcases a1.footq with x | x
      · exact ⟨x.1, a1.blk.lt⟩
      · exact ⟨by have := hb.size; omega, a1.blk.lt⟩, fun j e => by
      have := a1.bound j (a1.foots j e)
      rcases a1.foots j e with x | x
      · exact ⟨x.1, this⟩
      · exact ⟨by have := hb.size; omega, this⟩, fun j e => by simp [Value.ownBlock] at e, fun j x => x.2⟩
/-- behind some writes -/
structure CrJ (w1 wr : World) (d : Dk.D) (x : Nat) (sv : Value) (xs : List Value) (syn : Int → Option (List UInt8)) : Prop where
  r : RefIn wr x (crash0 d syn) sv xs (.slice none 0 0) [] (fun j => w1.heap.size ≤ j ∧ j < wr.heap.size)
  u : Uniq wr xs
  b : Below w1.heap.size w1 wr
theorem CrJ.grow {w1 wr w' : World} {d : Dk.D} {x : Nat} {sv : Value} {xs : List Value} {syn : Int → Option (List UInt8)} (h : CrJ w1 wr d x sv xs syn) (hb : Below wr.heap.size wr w') : CrJ w1 w' d x sv xs syn := by
  have hk := h.r.keep (w' := w') hb.size (fun k x => hb.block k x.2)
  refine ⟨⟨hk.blk, hk.srow, hk.slen, fun i v e => (hk.syn i v e).mono (fun j x => ⟨x.1, Nat.lt_of_lt_of_le x.2 hb.size⟩), hk.lrow, fun i hi => absurd hi (by simp [crash0]), ⟨h.r.footq.1, Nat.lt_of_lt_of_le h.r.footq.2 hb.size⟩, fun k e => ⟨(h.r.foots k e).1, Nat.lt_of_lt_of_le (h.r.foots k e).2 hb.size⟩, fun k e => by simp [Value.ownBlock] at e, fun k x => x.2⟩, h.u.keep (fun k C f e => hb.block k (lt_of_block e)), h.b.trans (hb.mono h.b.size)⟩
theorem CrJ.put {w1 wr : World} {d : Dk.D} {x : Nat} {sv : Value} {xs : List Value} {syn syn0 : Int → Option (List UInt8)} {N k : Nat} {s : List UInt8} (h : CrJ w1 wr d x sv xs (Dk.mix syn0 ((N : Int), s) k)) (hs : ∀ n t, syn0 n = some t → t.length = 256) (hl : s.length = 256) (hN : N < xs.length) (hk : k < 256) :
    ∃ g c, xs[N]? = some (.slice (some ⟨g, 0, none⟩) 256 c) ∧ 256 ≤ c ∧ (∃ u, wr.cell? ⟨g, k, none⟩ = some (Mem.u8 u)) ∧ (∀ r t cs, 5 ≠ t → Blk wr r t cs → Blk (wr.setCell ⟨g, k, none⟩ (Mem.u8 (s.getD k 0))) r t cs) ∧ wr.frozen? ⟨g, k, none⟩ = false ∧ CrJ w1 (wr.setCell ⟨g, k, none⟩ (Mem.u8 (s.getD k 0))) d x sv xs (Dk.mix syn0 ((N : Int), s) (k + 1)) := by
  obtain ⟨g, c, ⟨C, e0⟩, e1, e2, e3, e4, e5, e6, e7⟩ := h.r.byte rfl h.u hN hk (s.getD k 0)
  refine ⟨g, c, e1, e2, ⟨_, e4⟩, fun r t cs ht hb => hb.far (p := ⟨g, k, none⟩) (fun e => ?_) _, e5, ⟨?_, e7, ?_⟩⟩
  · exact blk_ne e0 hb ht e.symm
  · have := e6.congr (d' := crash0 d (Dk.mix syn0 ((N : Int), s) (k + 1))) rfl rfl rfl rfl rfl (fun i _ => mix_byte syn0 hs N s hl k hk i)
    exact ⟨this.blk, this.srow, this.slen, fun i v e => (this.syn i v e).mono (fun j x => ⟨x.1, by rw [setCell_size]; exact x.2⟩), this.lrow, fun i hi => absurd hi (by simp [crash0]), ⟨this.footq.1, by rw [setCell_size]; exact this.footq.2⟩, fun k e => ⟨(this.foots k e).1, by rw [setCell_size]; exact (this.foots k e).2⟩, fun k e => by simp [Value.ownBlock] at e, fun k x => x.2⟩
  · exact h.b.setCell e3.1 _
theorem crj_of {w1 wr : World} {d : Dk.D} {x n : Nat} {sv : Value} {xs : List Value} (h : CrI w1 wr d x n sv xs) (hn : (n : Int) = d.size) : CrJ w1 wr d x sv xs d.syn := by
  refine ⟨?_, h.u, h.b⟩
  have := h.r
  rw [hn] at this
  exact this
set_option maxRecDepth 100000 in
set_option maxHeartbeats 8000000 in
theorem rcrash_any (q : Nat) (d : Dk.D) (G : Nat → Prop) (AK : Option Addr) (nk ck : Nat) (ks : List Int) (torn : Bool) (cut : Int) (w : World) (hD : RefAt w q d G) (hok : Dk.Ok d) (hK : IS w AK nk ks) (hnk : nk ≤ 1000000) (hpl : d.pend.length ≤ 1000000) :
    Calls Try.prog 34 #[.pointer (some ⟨q, 0, none⟩), .agg #[.slice AK nk ck, .bool torn, .int .i64 cut]] w (RCrashTo w (Dk.crash d ks torn cut)) := by
  obtain ⟨sv0, xs0, lv, ys, hd⟩ := hD
  obtain ⟨i0, hi0, hz0, hz1, hz2⟩ := info_parts rinfo8
  obtain ⟨js, hjs, hzs, hzs1, hzs2⟩ := info_parts rinfoS
  have HI8 := Lib.hid (And.intro hi0 (And.intro hz0 (And.intro hz1 hz2)))
  have HJ := Lib.hid (And.intro hjs (And.intro hzs (And.intro hzs1 hzs2)))
  clear hi0 hz0 hz1 hz2 hjs hzs hzs1 hzs2
  have hsz := hok.size
  have hx4 : xs0.length ≤ 4096 := by have := hd.slen; omega
  generalize hw1 : w.alloc (.cells #[.slice AK nk ck, .bool torn, .int .i64 cut] 52) = w1
  have hs1 : w1.heap.size = w.heap.size + 1 := by rw [← hw1]; simp
  have hb1 : Below w.heap.size w w1 := by rw [← hw1]; exact (Below.refl _ _).alloc (Nat.le_refl _) _
  have hbox : Blk w1 w.heap.size 52 #[.slice AK nk ck, .bool torn, .int .i64 cut] := by rw [← hw1]; exact Blk.new w _ _
  have hd1 : RefIn w1 q d sv0 xs0 lv ys G := hd.keep hb1.size (fun k x => hb1.block k (hd.bound k x))
  have hstart : CrI w1 (w1.alloc (.cells #[.slice none 0 0, .slice none 0 0, .int .i64 (-1), .bool false, .int .i64 0] 63)) d w1.heap.size 0 (.slice none 0 0) [] := by
    refine ⟨⟨Blk.new w1 _ _, ⟨rfl, .inl ⟨rfl, rfl⟩⟩, rfl, fun i v e => by simp at e, ⟨rfl, .inl ⟨rfl, rfl⟩⟩, fun i hi => absurd hi (by simp [crash0]), ⟨Nat.le_refl _, by simp⟩, fun k e => by simp [Value.ownBlock] at e, fun k e => by simp [Value.ownBlock] at e, fun k x => x.2⟩, uniq_nil _, (Below.refl _ _).alloc (Nat.le_refl _) _, rfl⟩
  have H := Lib.hid (And.intro hstart (And.intro hd1 (And.intro hbox (And.intro hb1 (And.intro (hK.below hb1) hok)))))
  clear hstart hd1 hbox hb1 hK hok hd
  obtain ⟨SA, sc, rfl⟩ := own_slice H.out.2.1.srow
  go_enter Try.func34, Try.ntmps34
  rw [hs1] at H
  go_upto_block 0 with fail
  clear hw1
  go_cut [6] (fun _ wx => ∃ (sv : Value) (xs : List Value), CrI w1 wx d (w.heap.size + 1) xs0.length sv xs)
  case first =>
    go_wp2_with fail
    go_loopg [6] xs0.length (fun gk i wr => ∃ (k : Nat) (sv : Value) (xs : List Value), k ≤ xs0.length ∧ gk = xs0.length - k ∧ i = .int .i64 k ∧ CrI w1 wr d (w.heap.size + 1) k sv xs)
    case atStart => exact ⟨0, _, _, by omega, by omega, rfl, H.out.1⟩
    case round =>
      obtain ⟨k, sv, xs, hk, rfl, rfl, hI⟩ := hrel
      have hdr := H.out.2.1.keep hI.b.size (fun j x => hI.b.block j (H.out.2.1.bound j x))
      obtain ⟨q0, q1, _⟩ := hdr.cells
      by_cases hlt : k < xs0.length
      · obtain ⟨c0, _⟩ := hI.r.cells
        have f0 := hI.r.blk.free 0
        have HS0 : wr.cell? ⟨w.heap.size + 1, 0, none⟩ = some sv ∧ wr.frozen? ⟨w.heap.size + 1, 0, none⟩ = false := ⟨c0, f0⟩
        obtain ⟨g, c', v0, e0, cs, hv0⟩ := hdr.scell hlt
        injection e0 with e0 _ e1
        subst e0
        subst e1
        obtain ⟨A, cA, rfl, hbsA, _, _, hbl⟩ := hv0.bytes
        have hblkE : ((wr.alloc (.cells #[] 5)).drew).heap[wr.heap.size]? = some (.cells #[] 5 (0, 0)) := heap_alloc_new wr _
        have hbsE : BS ((wr.alloc (.cells #[] 5)).drew) A 256 ((d.syn k).getD Dk.zeros) := hbsA.keep (by show _ ≤ (wr.alloc _).heap.size; simp) (fun b hb => alloc_old wr _ hb)
        have hql : w.heap.size + 1 < wr.heap.size := hI.r.blk.lt
        have hqs : ∀ j, sv.ownBlock = some j → j ≠ w.heap.size + 1 := fun j e => hI.r.qs e
        have hxl : xs.length ≤ 4096 := by rw [hI.len]; omega
        have HE := Lib.hid (And.intro hblkE (And.intro hbsE (And.intro hI (And.intro HS0 hqs))))
        have a0 := cell_alloc_some (.cells #[] 5) c0
        have a1 := cell_alloc_some (.cells #[] 5) q0
        have a2 := cell_alloc_some (.cells #[] 5) cs
        have hki : (k : Int) < (xs0.length : Int) := by omega
        have HK := Lib.hid (And.intro q0 cs)
        clear hblkE hbsE hI HS0 hqs hbsA hv0 hdr f0
        go_upto_region 5 with fail
        go_region_law (first
          | (refine step_app_bytes (by rfl) (.tmp 27) (.tmp 34) 22 (by rfl) 5 i0 Try.underlying22 HI8.out.1 HI8.out.2.1 HI8.out.2.2.1 HI8.out.2.2.2 wr.heap.size (by simp [Act.eval, Act.put]) HE.out.1 A 256 cA ((d.syn k).getD Dk.zeros) (by simp [Act.eval, Act.put]) HE.out.2.1 (by omega) (by omega) ?_
             intro g1 cap1 w3 hown1 hg1 hat1
             have HS : w3.cell? ⟨w.heap.size + 1, 0, none⟩ = some sv ∧ w3.frozen? ⟨w.heap.size + 1, 0, none⟩ = false := held_keep (hg1.block (w.heap.size + 1) (by show w.heap.size + 1 < (wr.alloc _).heap.size; simp; omega) (by simp; omega)) (held_alloc _ HE.out.2.2.2.1)
             have c13 := HS.1
             have c13a := (held_alloc (.cells #[.slice (some ⟨g1, 0, none⟩) 256 cap1] 22) HS).1
             have hlr : wr.ownsRow 0 22 1 sv xs.length xs → w3.ownsRow 0 22 1 sv xs.length xs := fun hr => own_keep hr (fun k e => (hg1.block k (by have := own_lt hr e; show k < (wr.alloc _).heap.size; simp; omega) (by have := own_lt hr e; simp; omega)).trans (alloc_old wr _ (own_lt hr e)))
             have H3 := Lib.hid (And.intro hown1 (And.intro hg1 (And.intro hat1 (And.intro HS hlr))))
             clear hown1 hg1 hat1 HS hlr)
          | (refine step_app_one (by rfl) (.tmp 26) (.tmp 36) 60 (by rfl) 0 22 js (.slice none 0 0) 1 24 Try.underlying60 HJ.out.1 HJ.out.2.1 HJ.out.2.2.1 HJ.out.2.2.2 rfl (by omega) sv xs.length xs (by simp [Act.eval, Act.put]) (own_keep (H3.out.2.2.2.2 HE.out.2.2.1.r.srow) (fun k e => alloc_old w3 _ (own_lt (H3.out.2.2.2.2 HE.out.2.2.1.r.srow) e))) w3.heap.size [.slice (some ⟨g1, 0, none⟩) 256 cap1] (by simp [Act.eval, Act.put]) rfl (heap_alloc_new w3 _) (one1 _ _ _) (by omega) (by omega) (by omega) ?_
             intro g2 cap2 w4 hown2 hg2 hat2
             have HS : w4.cell? ⟨w.heap.size + 1, 0, none⟩ = some sv ∧ w4.frozen? ⟨w.heap.size + 1, 0, none⟩ = false := held_keep (hg2.block (w.heap.size + 1) (World.block_lt_of_cell? _ ⟨w.heap.size + 1, 0, none⟩ c13a) (fun e => HE.out.2.2.2.2 _ e.symm rfl)) (held_alloc _ H3.out.2.2.2.1)
             have c14 := HS.1
             have f14 := HS.2
             have H4 := Lib.hid (And.intro hown2 (And.intro hg2 hat2))
             clear hown2 hg2 hat2 HS))
        all_goals
          go_wp2_with fail
          go_roundg (xs0.length - (k + 1))
          case measure => omega
          case rel => exact ⟨k + 1, _, _, by omega, rfl, by go_num, push_step HE.out.2.2.1 H3.out.1 H3.out.2.1 H4.out.1 H4.out.2.1 H4.out.2.2⟩
      · obtain rfl : k = xs0.length := by omega
        have HF := Lib.hid hI
        clear hI
        go_wp2_with fail
        go_meet
        case rel => exact ⟨_, _, HF.out⟩
  case rest =>
    obtain ⟨sv, xs, hI⟩ := hcut
    have hxl := hI.len
    have hJ := crj_of hI (by have := H.out.2.1.slen; omega)
    have hxd : (xs.length : Int) = d.size := by have := H.out.2.1.slen; omega
    obtain ⟨LA, lc, rfl⟩ := own_slice H.out.2.1.lrow
    have HJ0 := Lib.hid hJ
    have HXD := Lib.hid hxd
    clear hI hJ HJ HI8 hxl hxd
    go_wp2_with fail
    go_loopg [7] d.pend.length (fun gk i wr => ∃ (j : Nat), j ≤ d.pend.length ∧ gk = d.pend.length - j ∧ i = .int .i64 j ∧ CrJ w1 wr d (w.heap.size + 1) sv xs (Dk.crashTo d ks torn cut j))
    case atStart => exact ⟨0, by omega, by omega, rfl, HJ0.out⟩
    case round =>
      obtain ⟨j, hj, rfl, rfl, hJ⟩ := hrel
      clear HJ0
      have hdr := H.out.2.1.keep hJ.b.size (fun j x => hJ.b.block j (H.out.2.1.bound j x))
      obtain ⟨q0, q1, _⟩ := hdr.cells
      by_cases hlt : j < d.pend.length
      · obtain ⟨gl, cl, vd, e0, x0', x1', hvd⟩ := H.out.2.1.wcell hlt
        injection e0 with e0 _ e1
        subst e0
        subst e1
        have x0 := (World.cell?_of_block (hJ.b.block gl (H.out.2.1.bound gl (H.out.2.1.footl gl rfl)))).trans x0'
        have x1 := (World.cell?_of_block (hJ.b.block gl (H.out.2.1.bound gl (H.out.2.1.footl gl rfl)))).trans x1'
        clear x0' x1'
        obtain ⟨DA, dc, rfl, hdb, _, _, hdl⟩ := hvd.bytes
        have hxr := H.out.2.2.2.2.2.pend (d.pend.getD j (0, [])) (by rw [List.getD_eq_getElem?_getD, List.getElem?_eq_getElem hlt]; simp)
        obtain ⟨N, hN⟩ : ∃ N : Nat, (d.pend.getD j (0, [])).1 = N := ⟨(d.pend.getD j (0, [])).1.toNat, by omega⟩
        have hNx : N < xs.length := by have := hxr.2.2; have := HXD.out; omega
        have hst : Dk.crashTo d ks torn cut (j + 1) = Dk.mix (Dk.crashTo d ks torn cut j) (d.pend.getD j (0, [])) (Dk.cutOf ks torn cut d.pend.length j) := rfl
        have hsl := Dk.crashTo_length H.out.2.2.2.2.2 ks torn cut j (by omega)
        generalize hq9 : d.pend.getD j (0, []) = y at *
        obtain ⟨yn, ys'⟩ := y
        simp only at hN
        subst hN
        have hbx := H.out.2.2.1.below hJ.b (by rw [hs1]; omega)
        have k0 := hbx.cell 0
        have HM := Lib.hid (And.intro hJ (And.intro hdb (And.intro hdl (And.intro hst (And.intro hsl hbx)))))
        clear hJ hdb hdl hst hsl hbx hvd hdr hxr hq9
        simp only at x0
        go_upto_region 10 with fail
        have hb7 : Below wr.heap.size wr (wr.alloc (.cells #[.int .i64 (N : Int), .slice DA 256 dc] 65)) := (Below.refl _ _).alloc (Nat.le_refl _) _
        have hq7 : Blk (wr.alloc (.cells #[.int .i64 (N : Int), .slice DA 256 dc] 65)) wr.heap.size 65 #[.int .i64 (N : Int), .slice DA 256 dc] := Blk.new wr _ _
        have hgt : w1.heap.size ≤ wr.heap.size := HM.out.1.b.size
        generalize wr.alloc (.cells #[.int .i64 (N : Int), .slice DA 256 dc] 65) = w7 at *
        have hJ7 := HM.out.1.grow hb7
        have hbx7 := HM.out.2.2.2.2.2.below hb7 HM.out.2.2.2.2.2.lt
        have hdb7 := HM.out.2.1
        have hxe : (w.heap.size + 1) ≠ wr.heap.size := by have := HM.out.1.r.blk.lt; omega
        have hrl := hq7.lt
        generalize wr.heap.size = rq at *
        have q17 : w7.cell? ⟨q, 1, none⟩ = some (.slice (some ⟨gl, 0, none⟩) d.pend.length lc) := by
          have := (H.out.2.1.keep hJ7.b.size (fun j x => hJ7.b.block j (H.out.2.1.bound j x))).cells
          exact this.2.1
        have hks7 := H.out.2.2.2.2.1.below hJ7.b
        have H7 := Lib.hid (And.intro hJ7 (And.intro hbx7 (And.intro hdb7 (And.intro hq7 (And.intro HM.out.2.2.1 (And.intro HM.out.2.2.2.1 (And.intro HM.out.2.2.2.2.1 hks7)))))))
        have k0 := hbx7.cell 0
        have k1 := hbx7.cell 1
        have k2 := hbx7.cell 2
        clear hJ7 hbx7 hdb7 hq7 HM x0 x1 q0 q1 hb7 hks7
        go_wp2_with fail
        refine (in_any AK nk ck ks (j : Int) w7 H7.out.2.2.2.2.2.2.2 hnk).mono ?_
        rintro e w8 ⟨rfl, hw8⟩
        subst hw8
        go_upto_if 59 with fail
        go_cut [9] (fun s9 wx => s9 = .int .i64 (keepCut ks j : Int) ∧ wx = w7)
        case first =>
          by_cases h2 : (j : Int) ∈ ks
          all_goals
            first | rw [decide_eq_true h2] | rw [decide_eq_false h2]
            go_wp2_with fail
            go_meet
            case rel => exact ⟨by unfold keepCut; (first | rw [if_pos h2] | rw [if_neg h2]) <;> rfl, rfl⟩
        case rest =>
          obtain ⟨rfl, rfl⟩ := hcut
          go_upto_region 13 with fail
          go_cut [71] (fun s71 wx => s71 = .bool (torn && decide (j + 1 = d.pend.length)) ∧ wx = wc)
          case first =>
            cases torn with
            | false =>
              go_wp2_with fail
              go_meet
              case rel => exact ⟨rfl, rfl⟩
            | true =>
              by_cases hjl : j + 1 = d.pend.length
              · have hjd : ((j : Int) == (d.pend.length : Int) - 1) = true := by rw [beq_iff_eq]; omega
                have HQ := Lib.hid hjl
                clear hjl
                go_wp2_with fail
                go_meet
                case rel => exact ⟨by rw [decide_eq_true HQ.out]; rfl, rfl⟩
              · have hjd : ((j : Int) == (d.pend.length : Int) - 1) = false := by rw [beq_eq_false_iff_ne]; omega
                have HQ := Lib.hid hjl
                clear hjl
                go_wp2_with fail
                go_meet
                case rel => exact ⟨by rw [decide_eq_false HQ.out]; rfl, rfl⟩
          case rest =>
            obtain ⟨rfl, rfl⟩ := hcut
            go_upto_if 71 with fail
            go_cut [9, 71] (fun s9 _ wx => s9 = .int .i64 (Dk.cutOf ks torn cut d.pend.length j : Nat) ∧ wx = wc)
            case first =>
              by_cases h1 : torn = true ∧ j + 1 = d.pend.length
              · have hC : Dk.cutOf ks torn cut d.pend.length j = (min (max cut 0) 256).toNat := by unfold Dk.cutOf; rw [if_pos h1]
                have hb : (torn && decide (j + 1 = d.pend.length)) = true := by rw [h1.1, decide_eq_true h1.2]; rfl
                have HC := Lib.hid hC
                rw [hb]
                clear hC h1 hb
                go_wp2_with fail
                all_goals
                  go_meet
                  case rel => exact ⟨by rw [HC.out]; congr 1; omega, rfl⟩
              · have hC : Dk.cutOf ks torn cut d.pend.length j = keepCut ks j := by unfold Dk.cutOf keepCut; rw [if_neg h1]
                have hb : (torn && decide (j + 1 = d.pend.length)) = false := by
                  cases torn
                  · rfl
                  · rw [decide_eq_false (fun e => h1 ⟨rfl, e⟩)]; rfl
                have HC := Lib.hid hC
                rw [hb]
                clear hC h1 hb
                go_wp2_with fail
                go_meet
                case rel => exact ⟨by rw [HC.out], rfl⟩
            case rest =>
              obtain ⟨rfl, rfl⟩ := hcut
              have hcl := Dk.cutOf_le ks torn cut d.pend.length j
              have hst := H7.out.2.2.2.2.2.1
              generalize Dk.cutOf ks torn cut d.pend.length j = cN at *
              obtain ⟨xg, xc, hxv⟩ : ∃ A c, sv = .slice A xs.length c := own_slice H7.out.1.r.srow
              subst hxv
              have HST := Lib.hid hst
              clear hst k0 k1 k2 q17
              have hmx : CrJ w1 wc d (w.heap.size + 1) (.slice xg xs.length xc) xs (Dk.mix (Dk.crashTo d ks torn cut j) ((N : Int), ys') 0) := H7.out.1
              have HX := Lib.hid (And.intro hmx H7.out.2.2.2.1)
              have HD := Lib.hid (And.intro H7.out.2.2.1 (And.intro H7.out.2.2.2.2.1 H7.out.2.2.2.2.2.2.1))
              clear hmx H7
              go_wp2_with fail
              go_loopg [10] cN (fun gk s wr => ∃ (k : Nat), k ≤ cN ∧ gk = cN - k ∧ s = .int .i64 k ∧ CrJ w1 wr d (w.heap.size + 1) (.slice xg xs.length xc) xs (Dk.mix (Dk.crashTo d ks torn cut j) ((N : Int), ys') k) ∧ Blk wr rq 65 #[.int .i64 (N : Int), .slice DA 256 dc])
              case atStart => exact ⟨0, by omega, by omega, rfl, HX.out.1, HX.out.2⟩
              case round =>
                obtain ⟨k, hk, rfl, rfl, hJ, hB⟩ := hrel
                clear HX
                by_cases hkl : k < cN
                · obtain ⟨g, c, e1, e2, ⟨u, cu⟩, hfar, hfz, hnx⟩ := hJ.put (syn := d.syn) HD.out.2.2 HD.out.2.1 hNx (by omega : k < 256)
                  obtain ⟨g', c', v0, es, cs, _⟩ := hJ.r.scell hNx
                  injection es with es _ es2
                  subst es
                  subst es2
                  obtain ⟨c0, _⟩ := hJ.r.cells
                  have hv0 : v0 = .slice (some ⟨g, 0, none⟩) 256 c := by
                    have h1 := hJ.r.srow.cells (g := g') rfl N _ e1
                    rw [add_zero, cs] at h1
                    injection h1
                  subst hv0
                  have n0 := hB.cell 0
                  have n1 := hB.cell 1
                  obtain ⟨db, doff, eda, dcell⟩ := (HD.out.1.below hJ.b).at_ (k := k) (by omega)
                  subst eda
                  have HN := Lib.hid (And.intro hnx (hfar rq _ _ (by decide) hB))
                  have hki : (k : Int) < (cN : Int) := by omega
                  have hk256 : (k : Int) < 256 := by omega
                  have hNi : (N : Int) < (xs.length : Int) := by omega
                  clear hJ hB hnx hfar e1
                  generalize ys'.getD k 0 = db8 at *
                  go_wp2_with fail
                  go_still_tail 15, (by kernel_rfl)
                  go_wp2_with fail
                  go_roundg (cN - (k + 1))
                  case measure => omega
                  case rel => exact ⟨k + 1, by omega, rfl, by go_num, HN.out.1.grow (Drawn.below ⟨1, rfl⟩), HN.out.2⟩
                · obtain rfl : k = cN := by omega
                  have HN := Lib.hid hJ
                  clear hJ hB
                  go_wp2_with fail
                  go_roundg (d.pend.length - (j + 1))
                  case measure => omega
                  case rel => exact ⟨j + 1, by omega, rfl, by go_num, by rw [HST.out]; exact HN.out⟩
      · obtain rfl : j = d.pend.length := by omega
        have HF := Lib.hid hJ
        clear hJ hdr
        go_wp2_with fail
        go_ret
        refine ⟨w.heap.size + 1, rfl, H.out.2.2.2.1.trans (HF.out.b.mono (by omega)), _, ⟨_, _, _, _, HF.out.r⟩, fun k x => by have := x.1; omega⟩
end Go.Proofs.Ytaooimhodoefoaa
