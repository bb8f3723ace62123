/- What a page has of a key; a key that is set in an empty page; the law's awake of layer 10. -/
import Derived.Test.YtfcmlfcpgboigaaPage
import Derived.Test.YtfcmlfcpgboigaaRowK
import Derived.Deep.DeepCutAuto
import Derived.Lib.SliceRun
import Derived.Deep.RegionHeld3
import Derived.Deep.DeepMust
namespace Go.Proofs.Ytfcmlfcpgboigaa
open Go.RowKit Mem
set_option linter.unusedVariables false
set_option linter.unusedSimpArgs false

namespace Pg
/-- a key's value -/
def get (l : List C) (key : ByteArray) : Bool × ByteArray := if idx l key < l.length then ((l.getD (idx l key) C.zero).has, (l.getD (idx l key) C.zero).data) else (false, ⟨#[]⟩)
end Pg
set_option maxHeartbeats 1000000 in
theorem pget_any (lsn : Int) (A : Option Addr) (n c : Nat) (l : List Pg.C) (key : ByteArray) (w : World) (hl : ST cellK w A n l) (hn : n ≤ 1000000) :
    Calls Try.prog 20 #[pVal lsn A n c, .string key] w fun e w' => e = .returned (vVal (Pg.get l key).1 (Pg.get l key).2) ∧ Below w.heap.size w w' := by
  have hb3 : Below w.heap.size w (((w.alloc (.cells #[.int .i64 lsn, .slice A n c] 24)).alloc (.cells #[.string key] 9)).alloc (.cells #[.bool false, .string ⟨#[]⟩] 26)) := (((Below.refl _ _).alloc (Nat.le_refl _) _).alloc (by simp) _).alloc (by simp; omega) _
  have hp := ((Blk.new w 24 #[.int .i64 lsn, .slice A n c]).alloc (.cells #[.string key] 9)).alloc (.cells #[.bool false, .string ⟨#[]⟩] 26)
  have hq := (Blk.new (w.alloc (.cells #[.int .i64 lsn, .slice A n c] 24)) 9 #[.string key]).alloc (.cells #[.bool false, .string ⟨#[]⟩] 26)
  have hr := Blk.new ((w.alloc (.cells #[.int .i64 lsn, .slice A n c] 24)).alloc (.cells #[.string key] 9)) 26 #[.bool false, .string ⟨#[]⟩]
  have hs3 : (((w.alloc (.cells #[.int .i64 lsn, .slice A n c] 24)).alloc (.cells #[.string key] 9)).alloc (.cells #[.bool false, .string ⟨#[]⟩] 26)).heap.size = w.heap.size + 3 := by simp
  simp only [World.size_alloc] at hp hq hr
  have H := Lib.hid (And.intro hb3 (And.intro hp (And.intro hq (And.intro hr (And.intro hl (And.intro hl.len hs3))))))
  clear hb3 hp hq hr hl hs3
  go_enter Try.func20, Try.ntmps20
  go_wp2_with fail
  generalize ((w.alloc (.cells #[.int .i64 lsn, .slice A n c] 24)).alloc (.cells #[.string key] 9)).alloc (.cells #[.bool false, .string ⟨#[]⟩] 26) = w3 at *
  refine (indexf_any 59 (w.heap.size + 1) key A n c l w3 (H.out.2.2.2.2.1.below H.out.1) hn (H.out.2.2.1.cell 0) pg_enter_get (fun x W h => getcl_any x _ key W h)).mono ?_
  rintro e w4 ⟨rfl, hb4⟩
  have p1 : w4.cell? ⟨w.heap.size, 1, none⟩ = some (.slice A n c) := (H.out.2.1.below hb4 (by have := H.out.2.2.2.2.2.2; omega)).cell 1
  have hr4 := H.out.2.2.2.1.below hb4 (by have := H.out.2.2.2.2.2.2; omega)
  have f0 := hr4.free 0
  have f1 := hr4.free 1
  have r0 : w4.cell? ⟨w.heap.size + 1 + 1, 0, none⟩ = some (.bool false) := hr4.cell 0
  have r1 : w4.cell? ⟨w.heap.size + 1 + 1, 1, none⟩ = some (.string ⟨#[]⟩) := hr4.cell 1
  have hbe := H.out.1.trans (hb4.mono H.out.1.size)
  by_cases hi : Pg.idx l key < l.length
  · have hg : Pg.get l key = ((l.getD (Pg.idx l key) Pg.C.zero).has, (l.getD (Pg.idx l key) Pg.C.zero).data) := by unfold Pg.get; rw [if_pos hi]
    have hx : Pg.idxI l key = (Pg.idx l key : Int) := by unfold Pg.idxI; rw [if_pos hi]
    rw [hx]
    have hin : Pg.idx l key < n := by rw [← H.out.2.2.2.2.2.1]; exact hi
    obtain ⟨b, off, rfl, hbs, c0, c1, c2⟩ := cell_at (H.out.2.2.2.2.1.below hbe) hin
    generalize Pg.idx l key = k at *
    generalize l.getD k Pg.C.zero = x at *
    have hkn : (k : Int) < (n : Int) := by omega
    have HX := Lib.hid (And.intro hg (And.intro hbe hr4))
    clear hg hbe hr4 hb4 hx hi
    go_wp2_with fail
    have hz := (HX.out.2.2.put 0 (.bool x.has)).put 1 (.string x.data)
    have z0 : ((w4.setCell ⟨w.heap.size + 1 + 1, 0, none⟩ (.bool x.has)).setCell ⟨w.heap.size + 1 + 1, 1, none⟩ (.string x.data)).cell? ⟨w.heap.size + 1 + 1, 0, none⟩ = some (.bool x.has) := hz.cell 0
    have z1 : ((w4.setCell ⟨w.heap.size + 1 + 1, 0, none⟩ (.bool x.has)).setCell ⟨w.heap.size + 1 + 1, 1, none⟩ (.string x.data)).cell? ⟨w.heap.size + 1 + 1, 1, none⟩ = some (.string x.data) := hz.cell 1
    exact bodyPost_ret (v := vVal x.has x.data) (by simp [results, Try.results20, go_sem, z0, z1]) rfl ⟨by rw [HX.out.1], (HX.out.2.1.setCell (by simp; omega) _).setCell (by simp; omega) _⟩
  · have hg : Pg.get l key = (false, ⟨#[]⟩) := by unfold Pg.get; rw [if_neg hi]
    have hx : Pg.idxI l key = -1 := by unfold Pg.idxI; rw [if_neg hi]
    rw [hx]
    have HX := Lib.hid (And.intro hg (And.intro hbe hr4))
    clear hg hbe hr4 hb4 hx hi
    go_wp2_with fail
    have hz := (HX.out.2.2.put 0 (.bool false)).put 1 (.string ⟨#[]⟩)
    have z0 : ((w4.setCell ⟨w.heap.size + 1 + 1, 0, none⟩ (.bool false)).setCell ⟨w.heap.size + 1 + 1, 1, none⟩ (.string ⟨#[]⟩)).cell? ⟨w.heap.size + 1 + 1, 0, none⟩ = some (.bool false) := hz.cell 0
    have z1 : ((w4.setCell ⟨w.heap.size + 1 + 1, 0, none⟩ (.bool false)).setCell ⟨w.heap.size + 1 + 1, 1, none⟩ (.string ⟨#[]⟩)).cell? ⟨w.heap.size + 1 + 1, 1, none⟩ = some (.string ⟨#[]⟩) := hz.cell 1
    exact bodyPost_ret (v := vVal false ⟨#[]⟩) (by simp [results, Try.results20, go_sem, z0, z1]) rfl ⟨by rw [HX.out.1], (HX.out.2.1.setCell (by simp; omega) _).setCell (by simp; omega) _⟩
theorem contf_any (g kb : Nat) (key : ByteArray) (A : Option Addr) (n c : Nat) (l : List Pg.C) (w : World) (hl : ST cellK w A n l) (hn : n ≤ 1000000) (hkb : w.cell? ⟨kb, 0, none⟩ = some (.string key))
    (hcf : ∀ a w, (callFunc g a).run Try.prog w = .ok (.enter g a) w)
    (hg : ∀ (x : Pg.C) (W : World), W.cell? ⟨kb, 0, none⟩ = some (.string key) → Calls Try.prog g #[cVal x, .pointer (some ⟨kb, 0, none⟩)] W fun e w' => e = .returned (.bool (x.key.toList == key.toList)) ∧ Below W.heap.size W w') :
    Calls Try.prog 60 #[.slice A n c, .func (.func g) #[] #[.pointer (some ⟨kb, 0, none⟩)]] w fun e w' => e = .returned (.bool (decide (Pg.idx l key < l.length))) ∧ Below w.heap.size w w' := by
  have hx := indexf_any g kb key A n c l w hl hn hkb hcf hg
  have H := Lib.hid hx
  clear hx hl hkb hg
  go_enter Try.func60, Try.ntmps60
  go_wp2_with fail
  refine H.out.mono ?_
  rintro e w1 ⟨rfl, hb1⟩
  have HB := Lib.hid hb1
  clear hb1
  by_cases hi : Pg.idx l key < l.length
  · rw [show Pg.idxI l key = (Pg.idx l key : Int) by unfold Pg.idxI; rw [if_pos hi]]
    have HD := Lib.hid (decide_eq_true hi)
    clear hi
    go_wp2_with fail
    go_ret
    exact ⟨by rw [HD.out]; rfl, HB.out⟩
  · rw [show Pg.idxI l key = -1 by unfold Pg.idxI; rw [if_neg hi]]
    have HD := Lib.hid (decide_eq_false hi)
    clear hi
    go_wp2_with fail
    go_ret
    exact ⟨by rw [HD.out]; rfl, HB.out⟩
theorem pg_undrew {w w' : World} (h : Below w.drew.heap.size w.drew w') : Below w.heap.size w w' := ⟨h.os, h.tape, h.output, h.size, h.block⟩
theorem cellK_len (x : Pg.C) : (cellK.cells x).length = cellK.k := rfl
theorem cellK_one (x : Pg.C) : ∀ u ∈ cellK.cells x, u.oneCell' = true := by
  intro u hu
  simp only [cellK, List.mem_cons, List.not_mem_nil, or_false] at hu
  rcases hu with rfl | rfl | rfl <;> rfl
theorem infoC : (Try.prog.info? 40).map (fun i => (i.zero, i.size, i.bytes)) = some (some (.agg #[.string ⟨#[]⟩, .bool false, .string ⟨#[]⟩]), 3, 40) := by kernel_rfl
set_option maxRecDepth 100000 in
theorem clone_nil (w : World) : Calls Try.prog 55 #[.slice none 0 0] w fun e w' => e = .returned (.slice none 0 0) ∧ w' = w := by
  have hq := fun W => Lib.run_eql_slice_nil (P := Try.prog) W 22 40 none 0 0 0 0 Try.underlying22
  go_enter Try.func55, Try.ntmps55
  go_wp2
  go_ret
  exact ⟨rfl, rfl⟩
set_option maxRecDepth 100000 in
set_option maxHeartbeats 1000000 in
theorem insert_nil (b : Nat) (c : Pg.C) (w : World) (hc : ST cellK w (some ⟨b, 0, none⟩) 1 [c]) : Calls Try.prog 57 #[.slice none 0 0, .int .i64 0, .slice (some ⟨b, 0, none⟩) 1 1] w fun e w' => ∃ g cap, e = .returned (.slice (some ⟨g, 0, none⟩) 1 cap) ∧ w'.ownsRow w.heap.size 40 3 (.slice (some ⟨g, 0, none⟩) 1 cap) 1 (rowOf cellK [c]) ∧ Below w.heap.size w w' := by
  obtain ⟨i0, hi0, hz0, hz1, hz2⟩ := info_parts infoC
  have H := Lib.hid (And.intro hc (And.intro hi0 (And.intro hz0 (And.intro hz1 hz2))))
  clear hc hi0 hz0 hz1 hz2
  go_enter Try.func57, Try.ntmps57
  go_upto_region 7 with fail
  go_wp2_with ((refine wpList_append_st _ cellK_len (by decide) cellK_one rfl (.tmp 23) (.tmp 24) 22 rfl w.heap.size 40 i0 _ 40 Try.underlying22 H.out.2.1 H.out.2.2.1 H.out.2.2.2.1 H.out.2.2.2.2 rfl (by omega) (.slice none 0 0) 0 [] rfl (own_nilK _) (some ⟨b, 0, none⟩) 1 1 [c] rfl H.out.1 (by omega) (Nat.le_refl _) ?_); intro A2 c2 w2 hown2 hg2 hat2; have H2 := Lib.hid (And.intro hown2 hg2); clear hown2 hg2 hat2)
  go_ret
  have h1 := H2.out.1
  rw [List.nil_append, Nat.zero_add] at h1
  obtain ⟨g, cap, hv, _, _⟩ := h1.form (by omega)
  injection hv with hv1 _ hv2
  subst hv1
  subst hv2
  exact ⟨g, _, rfl, h1, (Below.refl _ _).grown H2.out.2 (Nat.le_refl _) (fun k e => by cases e)⟩
theorem find_nil (lsn : Int) (key : ByteArray) (w : World) : Calls Try.prog 56 #[pVal lsn none 0 0, .string key] w fun e w' => e = .returned (.tuple #[.int .i64 0, .bool false]) ∧ Below w.heap.size w w' := by
  have hb := Lib.hid (show Below w.heap.size w (w.alloc (.cells #[.int .i64 lsn, .slice none 0 0] 24)) from (Below.refl _ _).alloc (Nat.le_refl _) _)
  go_enter Try.func56, Try.ntmps56
  go_wp2
  go_loop [11] (fun s11 => s11 = .int .i64 0) (fun _ => 0)
  case atStart => exact rfl
  case round =>
    subst hrel
    go_wp2_with fail
    go_ret2
    exact ⟨rfl, hb.out⟩
set_option maxHeartbeats 1000000 in
theorem proom_any (lsn : Int) (A : Option Addr) (n c : Nat) (l : List Pg.C) (key : ByteArray) (w : World) (hl : ST cellK w A n l) (hn : n ≤ 1000000) :
    Calls Try.prog 21 #[pVal lsn A n c, .string key] w fun e w' => e = .returned (.bool (decide (l.length < 4) || decide (Pg.idx l key < l.length))) ∧ Below w.heap.size w w' := by
  have hb2 : Below w.heap.size w ((w.alloc (.cells #[.int .i64 lsn, .slice A n c] 24)).alloc (.cells #[.string key] 9)) := ((Below.refl _ _).alloc (Nat.le_refl _) _).alloc (by simp) _
  have hq := Blk.new (w.alloc (.cells #[.int .i64 lsn, .slice A n c] 24)) 9 #[.string key]
  simp only [World.size_alloc] at hq
  have H := Lib.hid (And.intro hb2 (And.intro hq (And.intro hl hl.len)))
  clear hb2 hq hl
  by_cases h4 : n < 4
  · have d4 : decide ((n : Int) < 4) = true := by simp; omega
    have HD := Lib.hid (show (decide (l.length < 4) || decide (Pg.idx l key < l.length)) = true by rw [H.out.2.2.2]; simp [h4])
    clear h4
    go_enter Try.func21, Try.ntmps21
    go_wp2_with fail
    go_ret
    exact ⟨by rw [HD.out]; rfl, H.out.1⟩
  · have d4 : decide ((n : Int) < 4) = false := by simp; omega
    have HD := Lib.hid (show (decide (l.length < 4) || decide (Pg.idx l key < l.length)) = decide (Pg.idx l key < l.length) by rw [H.out.2.2.2]; simp [h4])
    clear h4
    go_enter Try.func21, Try.ntmps21
    go_wp2_with fail
    generalize (w.alloc (.cells #[.int .i64 lsn, .slice A n c] 24)).alloc (.cells #[.string key] 9) = w3 at *
    refine (contf_any 61 (w.heap.size + 1) key A n c l w3 (H.out.2.2.1.below H.out.1) hn (H.out.2.1.cell 0) pg_enter_room (fun x W h => roomcl_any x _ key W h)).mono ?_
    rintro e w4 ⟨rfl, hb4⟩
    have H4 := Lib.hid (H.out.1.trans (hb4.mono H.out.1.size))
    clear hb4
    go_wp2_with fail
    go_ret
    exact ⟨by rw [HD.out]; rfl, H4.out⟩
set_option maxRecDepth 100000 in
set_option maxHeartbeats 2000000 in
theorem pset0_any (w : World) : Calls Try.prog 18 #[pVal 0 none 0 0, .int .i64 7, .string ⟨#[97]⟩, vVal true ⟨#[49]⟩] w fun e w' => ∃ g cap, e = .returned (.tuple #[pVal 7 (some ⟨g, 0, none⟩) 1 cap, .int .i64 0]) ∧ ST cellK w' (some ⟨g, 0, none⟩) 1 [⟨⟨#[97]⟩, true, ⟨#[49]⟩⟩] ∧ Below w.heap.size w w' := by
  go_enter Try.func18, Try.ntmps18
  have hb3 : Below w.heap.size w (((w.alloc (.cells #[.int .i64 0, .slice none 0 0] 24)).alloc (.cells #[.bool true, .string ⟨#[49]⟩] 26)).alloc (.cells #[.int .i64 0, .slice none 0 0] 24)) := (((Below.refl _ _).alloc (Nat.le_refl _) _).alloc (by simp) _).alloc (by simp; omega) _
  have hp := ((Blk.new w 24 #[.int .i64 0, .slice none 0 0]).alloc (.cells #[.bool true, .string ⟨#[49]⟩] 26)).alloc (.cells #[.int .i64 0, .slice none 0 0] 24)
  have hq := (Blk.new (w.alloc (.cells #[.int .i64 0, .slice none 0 0] 24)) 26 #[.bool true, .string ⟨#[49]⟩]).alloc (.cells #[.int .i64 0, .slice none 0 0] 24)
  have hr := Blk.new ((w.alloc (.cells #[.int .i64 0, .slice none 0 0] 24)).alloc (.cells #[.bool true, .string ⟨#[49]⟩] 26)) 24 #[.int .i64 0, .slice none 0 0]
  have hs3 : (((w.alloc (.cells #[.int .i64 0, .slice none 0 0] 24)).alloc (.cells #[.bool true, .string ⟨#[49]⟩] 26)).alloc (.cells #[.int .i64 0, .slice none 0 0] 24)).heap.size = w.heap.size + 3 := by simp
  simp only [World.size_alloc] at hp hq hr
  have H := Lib.hid (And.intro hb3 (And.intro hp (And.intro hq (And.intro hr hs3))))
  clear hb3 hp hq hr hs3
  go_wp2_with fail
  generalize ((w.alloc (.cells #[.int .i64 0, .slice none 0 0] 24)).alloc (.cells #[.bool true, .string ⟨#[49]⟩] 26)).alloc (.cells #[.int .i64 0, .slice none 0 0] 24) = w1 at *
  refine (pmay_any 0 none 0 0 [] _ (ST.empty _ _ _) (by omega)).mono ?_
  rw [show Pg.may 0 [] = true by decide]
  rintro e w2 ⟨rfl, hb2⟩
  have q0 : w2.cell? ⟨w.heap.size + 1, 0, none⟩ = some (.bool true) := (H.out.2.2.1.below hb2 (by have := H.out.2.2.2.2; omega)).cell 0
  have q1 : w2.cell? ⟨w.heap.size + 1, 1, none⟩ = some (.string ⟨#[49]⟩) := (H.out.2.2.1.below hb2 (by have := H.out.2.2.2.2; omega)).cell 1
  have H2 := Lib.hid hb2
  clear hb2
  go_wp2_with fail
  refine (fits_any ⟨⟨#[97]⟩, true, ⟨#[49]⟩⟩ w2).mono ?_
  rw [show Pg.fits ⟨⟨#[97]⟩, true, ⟨#[49]⟩⟩ = true by decide +kernel]
  rintro e w3 ⟨rfl, hb3⟩
  have hb13 := H2.out.trans (hb3.mono H2.out.size)
  have p0 : w3.cell? ⟨w.heap.size, 0, none⟩ = some (.int .i64 0) := (H.out.2.1.below hb13 (by have := H.out.2.2.2.2; omega)).cell 0
  have p1 : w3.cell? ⟨w.heap.size, 1, none⟩ = some (.slice none 0 0) := (H.out.2.1.below hb13 (by have := H.out.2.2.2.2; omega)).cell 1
  have H3 := Lib.hid hb13
  clear hb3 hb13 q0 q1
  go_wp2_with fail
  refine (proom_any 0 none 0 0 [] ⟨#[97]⟩ w3 (ST.empty _ _ _) (by omega)).mono ?_
  rw [show (decide (([] : List Pg.C).length < 4) || decide (Pg.idx [] ⟨#[97]⟩ < ([] : List Pg.C).length)) = true by decide]
  rintro e w4 ⟨rfl, hb4⟩
  have hb14 := H3.out.trans (hb4.mono H3.out.size)
  have p1 : w4.cell? ⟨w.heap.size, 1, none⟩ = some (.slice none 0 0) := (H.out.2.1.below hb14 (by have := H.out.2.2.2.2; omega)).cell 1
  have H4 := Lib.hid hb14
  clear hb4 hb14 p0
  go_wp2_with fail
  refine (clone_nil w4).mono ?_
  rintro e w5 ⟨rfl, rfl⟩
  have hb15 : Below w1.heap.size w1 (w5.alloc (.cells #[.int .i64 7, .slice none 0 0] 24)) := H4.out.alloc H4.out.size _
  have hout := Blk.new w5 24 #[.int .i64 7, .slice none 0 0]
  have H5 := Lib.hid (And.intro hb15 (And.intro hout (show w.heap.size + 3 ≤ w5.heap.size by have := H4.out.size; have := H.out.2.2.2.2; omega)))
  clear hb15 hout p1
  go_wp2_with fail
  refine (find_nil 7 ⟨#[97]⟩ _).mono ?_
  rintro e w6 ⟨rfl, hb6⟩
  have hout := H5.out.2.1.below hb6 (by simp)
  have o1 : w6.cell? ⟨w5.heap.size, 1, none⟩ = some (.slice none 0 0) := hout.cell 1
  have hsz6 : w5.heap.size + 1 ≤ w6.heap.size := by have := hb6.size; simpa using this
  have hST : ST cellK (w6.alloc (.cells #[.string ⟨#[97]⟩, .bool false, .string ⟨#[]⟩] 40)) (some ⟨w6.heap.size, 0, none⟩) 1 [⟨⟨#[97]⟩, false, ⟨#[]⟩⟩] := by
    have hk := Blk.new w6 40 #[.string ⟨#[97]⟩, .bool false, .string ⟨#[]⟩]
    refine ⟨rfl, fun x hx => ?_, fun _ => ⟨w6.heap.size, 0, rfl, by simp, fun i hi j hj => ?_⟩⟩
    · rw [List.mem_singleton] at hx
      subst hx
      exact ⟨by decide, by decide⟩
    · obtain rfl : i = 0 := by simp at hi; omega
      have hj3 : j < 3 := hj
      rw [show (0 : Nat) + 0 * cellK.k + j = j by omega, hk.cell j]
      match j, hj3 with
      | 0, _ => rfl
      | 1, _ => rfl
      | 2, _ => rfl
  have H6 := Lib.hid (And.intro (H5.out.1.trans (hb6.mono H5.out.1.size)) (And.intro hout hST))
  clear hb6 hout hST
  go_wp2_with fail
  refine (insert_nil w6.heap.size ⟨⟨#[97]⟩, false, ⟨#[]⟩⟩ _ H6.out.2.2).mono ?_
  rintro e w7 ⟨g, cap, rfl, hown, hb7⟩
  have hout := (H6.out.2.1.alloc (.cells #[.string ⟨#[97]⟩, .bool false, .string ⟨#[]⟩] 40)).below hb7 (by simp; omega)
  have o0 : w7.cell? ⟨w5.heap.size, 0, none⟩ = some (.int .i64 7) := hout.cell 0
  have o1 : w7.cell? ⟨w5.heap.size, 1, none⟩ = some (.slice none 0 0) := hout.cell 1
  have fo0 := hout.free 0
  have fo1 := hout.free 1
  obtain ⟨cur, hgb, hgge, hcur⟩ : ∃ cur : Array Value, Blk w7 g 40 cur ∧ w6.heap.size + 1 ≤ g ∧ ∀ (j : Nat) (u : Value), (rowOf cellK [(⟨⟨#[97]⟩, false, ⟨#[]⟩⟩ : Pg.C)])[j]? = some u → cur[j]? = some u := by
    rcases hown.2 with ⟨e', _⟩ | ⟨g', cap', cur, e', hb', hg', _, _, _, hc'⟩
    · cases e'
    · injection e' with e1 _ _
      injection e1 with e1
      injection e1 with e1
      subst e1
      refine ⟨cur, hg', by simpa using hb', fun j u hj => ?_⟩
      rw [← hc', List.getElem?_take] at hj
      split at hj
      · rw [← Array.getElem?_toList]; exact hj
      · cases hj
  have g0 : cur[0]? = some (.string ⟨#[97]⟩) := hcur 0 _ rfl
  have g1 : w7.cell? ⟨g, 1, none⟩ = some (.bool false) := (hgb.cell 1).trans (hcur 1 _ rfl)
  have g2 : w7.cell? ⟨g, 2, none⟩ = some (.string ⟨#[]⟩) := (hgb.cell 2).trans (hcur 2 _ rfl)
  have fg1 := hgb.free 1
  have fg2 := hgb.free 2
  have hglt : g < w7.heap.size := hgb.lt
  have hgne : g ≠ w5.heap.size := by omega
  have hgne' : w5.heap.size ≠ g := by omega
  have hq7 := (H.out.2.2.1.below (H6.out.1.trans ((((Below.refl _ w6).alloc (Nat.le_refl _) (.cells #[.string ⟨#[97]⟩, .bool false, .string ⟨#[]⟩] 40)).trans (hb7.mono (by simp))).mono H6.out.1.size)) (by have := H.out.2.2.2.2; omega))
  have q0 : w7.cell? ⟨w.heap.size + 1, 0, none⟩ = some (.bool true) := hq7.cell 0
  have q1 : w7.cell? ⟨w.heap.size + 1, 1, none⟩ = some (.string ⟨#[49]⟩) := hq7.cell 1
  have hr7 := (H.out.2.2.2.1.below (H6.out.1.trans ((((Below.refl _ w6).alloc (Nat.le_refl _) (.cells #[.string ⟨#[97]⟩, .bool false, .string ⟨#[]⟩] 40)).trans (hb7.mono (by simp))).mono H6.out.1.size)) (by have := H.out.2.2.2.2; omega))
  have r0 : w7.cell? ⟨w.heap.size + 1 + 1, 0, none⟩ = some (.int .i64 0) := hr7.cell 0
  have r1 : w7.cell? ⟨w.heap.size + 1 + 1, 1, none⟩ = some (.slice none 0 0) := hr7.cell 1
  have fr0 := hr7.free 0
  have fr1 := hr7.free 1
  have hz5 := H5.out.2.2
  have n1 : w.heap.size + 1 ≠ w5.heap.size := by omega
  have n2 : w.heap.size + 1 + 1 ≠ w5.heap.size := by omega
  have n3 : w.heap.size + 1 + 1 ≠ g := by omega
  have n4 : w.heap.size + 1 ≠ g := by omega
  have n5 : w5.heap.size ≠ w.heap.size + 1 + 1 := by omega
  have n6 : g ≠ w.heap.size + 1 + 1 := by omega
  have H7 := Lib.hid (And.intro hr7 (And.intro hgb (And.intro (H.out.1.trans ((H6.out.1.trans ((((Below.refl _ w6).alloc (Nat.le_refl _) (.cells #[.string ⟨#[97]⟩, .bool false, .string ⟨#[]⟩] 40)).trans (hb7.mono (by simp))).mono H6.out.1.size)).mono H.out.1.size)) (And.intro g0 hout))))
  clear hcur hown hb7 hgb hq7 hr7 hout g0
  go_wp2_with fail
  obtain ⟨hr7, hgb, hbw, g0, hout⟩ := H7.out
  have a1 := Fr.setCell (F := fun k => k = w5.heap.size ∨ k = g ∨ k = w.heap.size + 1 + 1) (Fr.refl _ w7) ⟨w5.heap.size, 1, none⟩ (.slice (some ⟨g, 0, none⟩) 1 cap) (fun _ => .inl rfl)
  have a2 := (a1.setCell ⟨g, 1, none⟩ (.bool true) (fun _ => .inr (.inl rfl))).setCell ⟨g, 2, none⟩ (.string ⟨#[49]⟩) (fun _ => .inr (.inl rfl))
  have a3 := (a2.setCell ⟨w.heap.size + 1 + 1, 0, none⟩ (.int .i64 7) (fun _ => .inr (.inr rfl))).setCell ⟨w.heap.size + 1 + 1, 1, none⟩ (.slice (some ⟨g, 0, none⟩) 1 cap) (fun _ => .inr (.inr rfl))
  have b1 : Blk (w7.setCell ⟨w5.heap.size, 1, none⟩ (.slice (some ⟨g, 0, none⟩) 1 cap)) g 40 cur := hgb.keep (Below.heap_setCell _ _ _ g hgne)
  have b2 := (b1.put 1 (.bool true)).put 2 (.string ⟨#[49]⟩)
  have b3 := (b2.keep (Below.heap_setCell _ ⟨w.heap.size + 1 + 1, 0, none⟩ (.int .i64 7) g n6)).keep (Below.heap_setCell _ ⟨w.heap.size + 1 + 1, 1, none⟩ (.slice (some ⟨g, 0, none⟩) 1 cap) g n6)
  have r2 := ((hr7.keep (Below.heap_setCell _ ⟨w5.heap.size, 1, none⟩ (.slice (some ⟨g, 0, none⟩) 1 cap) _ n2)).keep (Below.heap_setCell _ ⟨g, 1, none⟩ (.bool true) _ n3)).keep (Below.heap_setCell _ ⟨g, 2, none⟩ (.string ⟨#[49]⟩) _ n3)
  have r3 := (r2.put 0 (.int .i64 7)).put 1 (.slice (some ⟨g, 0, none⟩) 1 cap)
  have hbe := a3.below (B := w.heap.size) (by have := hbw.size; omega) (fun i hi => by rcases hi with rfl | rfl | rfl <;> omega)
  generalize ((((w7.setCell ⟨w5.heap.size, 1, none⟩ (.slice (some ⟨g, 0, none⟩) 1 cap)).setCell ⟨g, 1, none⟩ (.bool true)).setCell ⟨g, 2, none⟩ (.string ⟨#[49]⟩)).setCell ⟨w.heap.size + 1 + 1, 0, none⟩ (.int .i64 7)).setCell ⟨w.heap.size + 1 + 1, 1, none⟩ (.slice (some ⟨g, 0, none⟩) 1 cap) = w8 at *
  have z0 : w8.cell? ⟨w.heap.size + 1 + 1, 0, none⟩ = some (.int .i64 7) := r3.cell 0
  have z1 : w8.cell? ⟨w.heap.size + 1 + 1, 1, none⟩ = some (.slice (some ⟨g, 0, none⟩) 1 cap) := r3.cell 1
  have hcs : 3 ≤ cur.size := by
    have h2 := (hgb.cell 2).symm.trans g2
    rcases Nat.lt_or_ge 2 cur.size with h | h
    · exact h
    · rw [Array.getElem?_eq_none h] at h2; cases h2
  refine bodyPost_ret (v := .tuple #[pVal 7 (some ⟨g, 0, none⟩) 1 cap, .int .i64 0]) (by simp [results, Try.results18, go_sem, z0, z1]) rfl ⟨g, cap, rfl, ?_, hbw.trans hbe⟩
  refine ⟨rfl, fun x hx => ?_, fun _ => ⟨g, 0, rfl, b3.lt, fun i hi j hj => ?_⟩⟩
  · rw [List.mem_singleton] at hx
    subst hx
    exact ⟨by decide, by decide⟩
  · obtain rfl : i = 0 := by simp at hi; omega
    have hj3 : j < 3 := hj
    rw [show (0 : Nat) + 0 * cellK.k + j = j by omega, b3.cell j]
    match j, hj3 with
    | 0, _ => simp [g0]; rfl
    | 1, _ => rw [Array.getElem?_setIfInBounds, if_neg (by omega), Array.getElem?_setIfInBounds, if_pos rfl, if_pos (by omega)]; rfl
    | 2, _ => rw [Array.getElem?_setIfInBounds, if_pos rfl, if_pos (by simp; omega)]; rfl
set_option maxRecDepth 100000 in
set_option maxHeartbeats 4000000 in
theorem awake10_any (w : World) : Calls Try.prog 16 #[] w fun e w' => e = .returned (.bool true) ∧ Below w.heap.size w w' := by
  have hb1 : Below w.heap.size w (w.alloc (.cells #[.bool true, .string ⟨#[49]⟩] 26)) := (Below.refl _ _).alloc (Nat.le_refl _) _
  have hk1 := Blk.new w 26 #[.bool true, .string ⟨#[49]⟩]
  have hs1 : (w.alloc (.cells #[.bool true, .string ⟨#[49]⟩] 26)).heap.size = w.heap.size + 1 := by simp
  have H := Lib.hid (And.intro hb1 (And.intro hk1 hs1))
  clear hb1 hk1 hs1
  go_enter Try.func16, Try.ntmps16
  go_wp2_with fail
  generalize w.alloc (.cells #[.bool true, .string ⟨#[49]⟩] 26) = w1 at *
  refine (pset0_any w1).mono ?_
  rintro e w2 ⟨g, cap, rfl, hst, hb2⟩
  have hk2 := ((H.out.2.1.below hb2 (by have := H.out.2.2; omega))).alloc (.cells #[.int .i64 7, .slice (some ⟨g, 0, none⟩) 1 cap] 24)
  have hp2 := Blk.new w2 24 #[.int .i64 7, .slice (some ⟨g, 0, none⟩) 1 cap]
  have hb3 : Below w1.heap.size w1 (w2.alloc (.cells #[.int .i64 7, .slice (some ⟨g, 0, none⟩) 1 cap] 24)) := hb2.alloc hb2.size _
  have hst3 : ST cellK (w2.alloc (.cells #[.int .i64 7, .slice (some ⟨g, 0, none⟩) 1 cap] 24)) (some ⟨g, 0, none⟩) 1 [⟨⟨#[97]⟩, true, ⟨#[49]⟩⟩] := hst.below ((Below.refl _ _).alloc (Nat.le_refl _) _)
  have H2 := Lib.hid (And.intro hb3 (And.intro hst3 (And.intro hk2 hp2)))
  clear hb2 hst hk2 hp2 hb3 hst3
  go_upto_region 3 with fail
  generalize hw3 : w2.alloc (.cells #[.int .i64 7, .slice (some ⟨g, 0, none⟩) 1 cap] 24) = w3 at *
  clear hw3
  have HS : (w3.cell? ⟨w2.heap.size, 0, none⟩ = some (.int .i64 7) ∧ w3.cell? ⟨w2.heap.size, 1, none⟩ = some (.slice (some ⟨g, 0, none⟩) 1 cap)) ∧ w3.cell? ⟨w.heap.size, 0, none⟩ = some (.bool true) ∧ w3.cell? ⟨w.heap.size, 1, none⟩ = some (.string ⟨#[49]⟩) :=
    ⟨⟨H2.out.2.2.2.cell 0, H2.out.2.2.2.cell 1⟩, H2.out.2.2.1.cell 0, H2.out.2.2.1.cell 1⟩
  go_region_held3 (fun w' => (w'.cell? ⟨w2.heap.size, 0, none⟩ = some (.int .i64 7) ∧ w'.cell? ⟨w2.heap.size, 1, none⟩ = some (.slice (some ⟨g, 0, none⟩) 1 cap)) ∧ w'.cell? ⟨w.heap.size, 0, none⟩ = some (.bool true) ∧ w'.cell? ⟨w.heap.size, 1, none⟩ = some (.string ⟨#[49]⟩)) ((first | exact HS)) (first
    | (go_at_call 20; go_must (refine (pget_any 7 (some ⟨g, 0, none⟩) 1 cap [⟨⟨#[97]⟩, true, ⟨#[49]⟩⟩] ⟨#[97]⟩ _ (H2.out.2.1.below (show Below w3.heap.size w3 w3.drew from ⟨rfl, rfl, rfl, Nat.le_refl _, fun _ _ => rfl⟩)) (by omega)).mono ?_; rw [show Pg.get [⟨⟨#[97]⟩, true, ⟨#[49]⟩⟩] ⟨#[97]⟩ = (true, ⟨#[49]⟩) by decide +kernel]; rintro e w4 ⟨rfl, hb4⟩; have hb5 := pg_undrew hb4; have HS : (w4.cell? ⟨w2.heap.size, 0, none⟩ = some (.int .i64 7) ∧ w4.cell? ⟨w2.heap.size, 1, none⟩ = some (.slice (some ⟨g, 0, none⟩) 1 cap)) ∧ w4.cell? ⟨w.heap.size, 0, none⟩ = some (.bool true) ∧ w4.cell? ⟨w.heap.size, 1, none⟩ = some (.string ⟨#[49]⟩) := ⟨⟨(H2.out.2.2.2.below hb5 H2.out.2.2.2.lt).cell 0, (H2.out.2.2.2.below hb5 H2.out.2.2.2.lt).cell 1⟩, (H2.out.2.2.1.below hb5 H2.out.2.2.1.lt).cell 0, (H2.out.2.2.1.below hb5 H2.out.2.2.1.lt).cell 1⟩; have H4 := Lib.hid (H.out.1.trans ((H2.out.1.trans (hb5.mono H2.out.1.size)).mono H.out.1.size)); clear hb4 hb5)))
  all_goals
    go_wp2_with fail
    go_ret
    exact ⟨rfl, H4.out⟩
end Go.Proofs.Ytfcmlfcpgboigaa
