/- own: bytes of one's own. Printed out of XOwn.src (01: the law package's number). -/
import Derived.Test.YtbghpdfhloalhaaRows
import Derived.Test.YtbghpdfhloalhaaMem
namespace Go.Proofs.Ytbghpdfhloalhaa
open Go.RowKit Mem
set_option linter.unusedVariables false
theorem oinfo8_01 : (Try.prog.info? 5).map (fun i => (i.zero, i.size, i.bytes)) = some (some (.int .u8 0), 1, 1) := by kernel_rfl
set_option maxHeartbeats 400000 in
theorem own01_any (A : Option Addr) (n cap : Nat) (bs : List UInt8) (w : World) (hbs : BS w A n bs) (hn : n ≤ 140737488351232) :
    Calls Try.prog 6 #[.slice A n cap] w (OwnB 5 w bs) := by
  obtain ⟨i0, hi0, hz0, hz1, hz2⟩ := info_parts oinfo8_01
  go_enter Try.func6, Try.ntmps6
  have h' : BS (w.alloc (.cells #[] 5)) A n bs := hbs.keep (by simp) (fun b hb => Below.heap_alloc _ _ _ hb)
  have ho : (w.alloc (.cells #[] 5)).ownsRow w.heap.size 5 1 (.slice (some ⟨w.heap.size, 0, none⟩) 0 0) 0 [] := World.ownsRow_made w #[] 0 (Nat.le_refl _) (by simp [maxLen]) (by simp)
  have HI := Lib.hid (And.intro hi0 (And.intro hz0 (And.intro hz1 hz2)))
  have H' := Lib.hid (And.intro h' (And.intro ho hbs.1))
  clear hi0 h' ho hbs hz0 hz1 hz2
  go_wp2_with (at_builtin; refine wpList_append_bs _ rfl _ _ 22 rfl w.heap.size 5 i0 Try.underlying22 HI.out.1 HI.out.2.1 HI.out.2.2.1 HI.out.2.2.2 (.slice (some ⟨w.heap.size, 0, none⟩) 0 0) 0 [] rfl H'.out.2.1 A n cap bs rfl H'.out.1 (by omega) (by simp) ?_; intro v' w1 hown hg hat)
  go_ret
  refine ⟨v', rfl, ?_, ?_⟩
  · rw [H'.out.2.2]; simpa using hown
  · exact ((Below.refl _ _).alloc (Nat.le_refl _) _).grown hg (by simp) (by simp [Value.ownBlock])
end Go.Proofs.Ytbghpdfhloalhaa
