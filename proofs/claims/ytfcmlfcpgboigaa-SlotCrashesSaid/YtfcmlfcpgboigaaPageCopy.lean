/- A page of one's own. -/
import Derived.Test.YtfcmlfcpgboigaaPageSame
import Derived.Test.YtfcmlfcpgboigaaPageDec
import Derived.Deep.RegionLaw
namespace Go.Proofs.Ytfcmlfcpgboigaa
open Go.RowKit Mem
set_option maxRecDepth 100000
set_option linter.unusedVariables false
set_option linter.unusedSimpArgs false

def CopyP (w : World) (lsn : Int) (l : List Pg.C) (e : Ending) (w' : World) : Prop :=
  ∃ A c, e = .returned (pVal lsn A l.length c) ∧ w'.ownsRow w.heap.size 40 3 (.slice A l.length c) l.length (rowOf cellK l) ∧ Below w.heap.size w w'
set_option maxHeartbeats 4000000 in
theorem copy10_any (lsn : Int) (A : Option Addr) (n c : Nat) (l : List Pg.C) (w : World) (hl : ST cellK w A n l) (hn : n ≤ 1000000) :
    Calls Try.prog 19 #[pVal lsn A n c] w (CopyP w lsn l) := by
  have hb2 : Below w.heap.size w ((w.alloc (.cells #[.int .i64 lsn, .slice A n c] 24)).alloc (.cells #[.int .i64 0, .slice none 0 0] 24)) := ((Below.refl _ _).alloc (Nat.le_refl _) _).alloc (by simp) _
  have hp := (Blk.new w 24 #[.int .i64 lsn, .slice A n c]).alloc (.cells #[.int .i64 0, .slice none 0 0] 24)
  have hq := Blk.new (w.alloc (.cells #[.int .i64 lsn, .slice A n c] 24)) 24 #[.int .i64 0, .slice none 0 0]
  simp only [World.size_alloc] at hq
  have hs2 : ((w.alloc (.cells #[.int .i64 lsn, .slice A n c] 24)).alloc (.cells #[.int .i64 0, .slice none 0 0] 24)).heap.size = w.heap.size + 2 := by simp
  obtain ⟨i0, hi0, hz0, hz1, hz2⟩ := info_parts infoC
  have HII := Lib.hid (And.intro hi0 (And.intro hz0 (And.intro hz1 hz2)))
  have H := Lib.hid (And.intro hb2 (And.intro hp (And.intro hq (And.intro hl (And.intro hl.len hs2)))))
  clear hb2 hp hq hl hi0 hz0 hz1 hz2 hs2
  go_enter Try.func19, Try.ntmps19
  go_wp2_with fail
  generalize (w.alloc (.cells #[.int .i64 lsn, .slice A n c] 24)).alloc (.cells #[.int .i64 0, .slice none 0 0] 24) = w1 at *
  have p0 : w1.cell? ⟨w.heap.size, 0, none⟩ = some (.int .i64 lsn) := H.out.2.1.cell 0
  have p1 : w1.cell? ⟨w.heap.size, 1, none⟩ = some (.slice A n c) := H.out.2.1.cell 1
  have q0 : w1.cell? ⟨w.heap.size + 1, 0, none⟩ = some (.int .i64 0) := H.out.2.2.1.cell 0
  have q1 : w1.cell? ⟨w.heap.size + 1, 1, none⟩ = some (.slice none 0 0) := H.out.2.2.1.cell 1
  have f0 := H.out.2.2.1.free 0
  have f1 := H.out.2.2.1.free 1
  have hbx : Below w1.heap.size w1 (w1.alloc (.cells #[] 40)).drew := (((Below.refl _ w1).alloc (Nat.le_refl _) (.cells #[] 40))).drew
  have how : (w1.alloc (.cells #[] 40)).drew.ownsRow w1.heap.size 40 3 (.slice (some ⟨w1.heap.size, 0, none⟩) 0 0) 0 [] := own_emptyK (heap_alloc_new w1 _)
  have hsx : (w1.alloc (.cells #[] 40)).drew.heap.size = w1.heap.size + 1 := by simp
  have hpx := H.out.2.1.below (show Below w1.heap.size w1 (w1.alloc (.cells #[] 40)) from (Below.refl _ w1).alloc (Nat.le_refl _) _) H.out.2.1.lt
  have hqx := H.out.2.2.1.below (show Below w1.heap.size w1 (w1.alloc (.cells #[] 40)) from (Below.refl _ w1).alloc (Nat.le_refl _) _) H.out.2.2.1.lt
  have pa0 : (w1.alloc (.cells #[] 40)).cell? ⟨w.heap.size, 0, none⟩ = some (.int .i64 lsn) := hpx.cell 0
  have pa1 : (w1.alloc (.cells #[] 40)).cell? ⟨w.heap.size, 1, none⟩ = some (.slice A n c) := hpx.cell 1
  have qa0 : (w1.alloc (.cells #[] 40)).cell? ⟨w.heap.size + 1, 0, none⟩ = some (.int .i64 0) := hqx.cell 0
  have qa1 : (w1.alloc (.cells #[] 40)).cell? ⟨w.heap.size + 1, 1, none⟩ = some (.slice none 0 0) := hqx.cell 1
  have fa0 := hqx.free 0
  have fa1 := hqx.free 1
  clear hpx hqx
  have HB := Lib.hid (And.intro hbx (And.intro how (And.intro ((H.out.2.2.2.1.below H.out.1).below hbx) hsx)))
  clear hbx how hsx
  go_region_law (refine step_append_st _ cellK_len (by decide) cellK_one (by rfl) (.tmp 5) (.tmp 7) 22 (by rfl) w1.heap.size 40 i0 _ 40 Try.underlying22 HII.out.1 HII.out.2.1 HII.out.2.2.1 HII.out.2.2.2 rfl (by omega) (.slice (some ⟨w1.heap.size, 0, none⟩) 0 0) 0 [] (by simp [Act.eval, Act.put]) HB.out.2.1 A n c l (by simp [Act.eval, Act.put]) HB.out.2.2.1 (by omega) (by have := HB.out.2.2.2; omega) ?_
                 intro A9 c9 w9 hown9 hg9 hat9
                 have hb9 : Below w1.heap.size w1 w9 := HB.out.1.grown hg9 (by have := HB.out.2.2.2; omega) (fun k e => by simp [Value.ownBlock] at e; omega)
                 have hp9 := H.out.2.1.below hb9 H.out.2.1.lt
                 have hq9 := H.out.2.2.1.below hb9 H.out.2.2.1.lt
                 have p09 : w9.cell? ⟨w.heap.size, 0, none⟩ = some (.int .i64 lsn) := hp9.cell 0
                 have q09 : w9.cell? ⟨w.heap.size + 1, 0, none⟩ = some (.int .i64 0) := hq9.cell 0
                 have q19 : w9.cell? ⟨w.heap.size + 1, 1, none⟩ = some (.slice none 0 0) := hq9.cell 1
                 have f09 := hq9.free 0
                 have f19 := hq9.free 1
                 have H9 := Lib.hid (And.intro hown9 (And.intro hb9 hq9))
                 clear hown9 hg9 hat9 hb9 hp9 hq9)
  all_goals
    go_wp2_with fail
    have hz := (H9.out.2.2.put 0 (.int .i64 lsn)).put 1 (.slice A9 n c9)
    have z0 : ((w9.setCell ⟨w.heap.size + 1, 0, none⟩ (.int .i64 lsn)).setCell ⟨w.heap.size + 1, 1, none⟩ (.slice A9 n c9)).cell? ⟨w.heap.size + 1, 0, none⟩ = some (.int .i64 lsn) := hz.cell 0
    have z1 : ((w9.setCell ⟨w.heap.size + 1, 0, none⟩ (.int .i64 lsn)).setCell ⟨w.heap.size + 1, 1, none⟩ (.slice A9 n c9)).cell? ⟨w.heap.size + 1, 1, none⟩ = some (.slice A9 n c9) := hz.cell 1
    have hbe := H.out.1.trans (H9.out.2.1.mono H.out.1.size)
    have hrow := H9.out.1
    rw [Nat.zero_add, List.nil_append] at hrow
    have hlt := H9.out.2.2.lt
    have hrow2 : ((w9.setCell ⟨w.heap.size + 1, 0, none⟩ (.int .i64 lsn)).setCell ⟨w.heap.size + 1, 1, none⟩ (.slice A9 n c9)).ownsRow w.heap.size 40 3 (.slice A9 n c9) n (rowOf cellK l) := own_base (own_keep hrow (fun k e => by
      have hk1 := own_ge hrow e
      have hk2 := H.out.2.2.2.2.2
      rw [Below.heap_setCell _ _ _ k (by simp only; omega), Below.heap_setCell _ _ _ k (by simp only; omega)])) (show w.heap.size ≤ w1.heap.size by have := H.out.2.2.2.2.2; omega)
    refine bodyPost_ret (v := pVal lsn A9 n c9) (by simp [results, Try.results19, go_sem, z0, z1]) rfl ⟨A9, c9, by rw [H.out.2.2.2.2.1], by rw [H.out.2.2.2.2.1]; exact hrow2, (hbe.setCell (by simp) _).setCell (by simp) _⟩
end Go.Proofs.Ytfcmlfcpgboigaa
