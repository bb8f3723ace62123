/- A disk of the call's own. -/
import Derived.Test.YtfcmlfcpgboigaaDiskCrash
import Derived.Test.YtfcmlfcpgboigaaDiskSync
import Derived.Test.YtfcmlfcpgboigaaDiskWrite
namespace Go.Proofs.Ytfcmlfcpgboigaa
open Go.RowKit Mem
set_option linter.unusedVariables false
set_option linter.unusedSimpArgs false

namespace Dk
theorem step_on (d : D) (h1 : d.down = false) (h2 : d.fuse = -1) : step d = (0, d) := by
  unfold step
  rw [if_neg (by rw [h1, h2]; simp), if_neg (by omega)]
theorem write_on (d : D) (n : Int) (s : List UInt8) (hn : 0 ≤ n ∧ n < d.size) (hs : s.length = 256) (h1 : d.down = false) (h2 : d.fuse = -1) : write d n s = (0, put d n s) := by
  unfold write
  have : at_ d n = 0 := by unfold at_; rw [if_neg (by omega)]
  rw [if_neg (by omega), if_neg (by omega), step_on d h1 h2, if_neg (by simp)]
theorem sync_on (d : D) (h1 : d.down = false) (h2 : d.fuse = -1) : sync d = (0, synced d) := by
  unfold sync
  rw [step_on d h1 h2, if_neg (by simp)]
end Dk
/-- A DISK OF THE CALL's OWN. -/
def OwnD (w0 w : World) (p : Nat) (d : Dk.D) : Prop := Below w0.heap.size w0 w ∧ ∃ F, DiskAt w p d F ∧ ∀ k, F k → w0.heap.size ≤ k
theorem OwnD.grow {w0 w w' : World} {p : Nat} {d : Dk.D} (h : OwnD w0 w p d) (hb : Below w.heap.size w w') : OwnD w0 w' p d := by
  obtain ⟨h1, F, h2, h3⟩ := h
  exact ⟨h1.trans (hb.mono h1.size), F, h2.keep hb.size (fun k x => hb.block k (h2.bound k x)), h3⟩
theorem OwnD.to {w0 w w' : World} {p : Nat} {d : Dk.D} {F : Nat → Prop} (h1 : Below w0.heap.size w0 w) (h3 : ∀ k, F k → w0.heap.size ≤ k) (h : DiskTo w F p d w') : OwnD w0 w' p d := by
  obtain ⟨F', g1, g2, g3⟩ := h
  refine ⟨h1.trans (g2.below h1.size h3), F', g1, fun k x => ?_⟩
  rcases g3 k x with x | x
  · exact h3 k x
  · exact Nat.le_trans h1.size x
/-- Write, of bytes that were made behind the disk -/
theorem own_write {w0 w1 w : World} {p : Nat} {d : Dk.D} (h : OwnD w0 w1 p d) (hb : Below w1.heap.size w1 w) (hok : Dk.Ok d) (n : Int) (A : Option Addr) (m cap : Nat) (bs : List UInt8) (hbs : BS w A m bs) (hA : ∀ a, A = some a → w1.heap.size ≤ a.block) (hlen : d.pend.length ≤ 1000000) :
    Calls Try.prog 27 #[.pointer (some ⟨p, 0, none⟩), .int .i64 n, .slice A m cap] w fun e w' => e = .returned (.int .i64 ((Dk.write d n bs).1 : Int)) ∧ OwnD w0 w' p (Dk.write d n bs).2 := by
  obtain ⟨h1, F, h2, h3⟩ := h
  have hD : DiskAt w p d F := h2.keep hb.size (fun k x => hb.block k (h2.bound k x))
  refine (write_any p d F n A m cap bs w hD hok hbs (fun a e x => ?_) hlen).mono ?_
  · have := hA a e; have := h2.bound _ x; omega
  · rintro e w' ⟨rfl, hT⟩
    exact ⟨rfl, OwnD.to (h1.trans (hb.mono h1.size)) h3 hT⟩
theorem own_sync {w0 w : World} {p : Nat} {d : Dk.D} (h : OwnD w0 w p d) (hok : Dk.Ok d) (hsy : d.syncs ≤ 1000000) :
    Calls Try.prog 31 #[.pointer (some ⟨p, 0, none⟩)] w fun e w' => e = .returned (.int .i64 ((Dk.sync d).1 : Int)) ∧ OwnD w0 w' p (Dk.sync d).2 := by
  obtain ⟨h1, F, h2, h3⟩ := h
  refine (sync_any p d F w h2 hok hsy).mono ?_
  rintro e w' ⟨rfl, hT⟩
  exact ⟨rfl, OwnD.to h1 h3 hT⟩
theorem own_new (n : Int) (hn : 1 ≤ n ∧ n ≤ 4096) (w0 w : World) (hb : Below w0.heap.size w0 w) : Calls Try.prog 26 #[.int .i64 n] w fun e w' => ∃ p, e = .returned (.tuple #[.pointer (some ⟨p, 0, none⟩), .int .i64 0]) ∧ OwnD w0 w' p (Dk.new n) := by
  refine (new_any n hn w).mono ?_
  rintro e w' ⟨p, rfl, h1, F, h2, h3⟩
  exact ⟨p, rfl, hb.trans (h1.mono hb.size), F, h2, fun k x => Nat.le_trans hb.size (h3 k x)⟩
theorem own_read {w0 w : World} {p : Nat} {d : Dk.D} (h : OwnD w0 w p d) (hok : Dk.Ok d) (n : Int) :
    Calls Try.prog 35 #[.pointer (some ⟨p, 0, none⟩), .int .i64 n] w (ReadE w (Dk.read d n)) := by
  obtain ⟨h1, F, h2, h3⟩ := h
  exact read_any p d F n w h2 hok
theorem own_crash {w0 w : World} {p : Nat} {d : Dk.D} (h : OwnD w0 w p d) (hok : Dk.Ok d) (AK : Option Addr) (nk ck : Nat) (ks : List Int) (torn : Bool) (cut : Int) (hK : IS w AK nk ks) (hnk : nk ≤ 1000000) (hpl : d.pend.length ≤ 1000000) :
    Calls Try.prog 42 #[.pointer (some ⟨p, 0, none⟩), .agg #[.slice AK nk ck, .bool torn, .int .i64 cut]] w fun e w' => ∃ x, e = .returned (.pointer (some ⟨x, 0, none⟩)) ∧ Below w.heap.size w w' ∧ OwnD w0 w' x (Dk.crash d ks torn cut) := by
  obtain ⟨h1, F, h2, h3⟩ := h
  refine (crash_any p d F AK nk ck ks torn cut w h2 hok hK hnk hpl).mono ?_
  rintro e w' ⟨x, rfl, g1, F', g2, g3⟩
  exact ⟨x, rfl, g1, h1.trans (g1.mono h1.size), F', g2, fun k y => Nat.le_trans h1.size (g3 k y)⟩
theorem own_cells {w0 w : World} {p : Nat} {d : Dk.D} (h : OwnD w0 w p d) : ∃ A c, w.cell? ⟨p, 0, none⟩ = some (.int .i64 d.size) ∧ w.cell? ⟨p, 3, none⟩ = some (.slice A d.pend.length c) ∧ w.cell? ⟨p, 4, none⟩ = some (.int .i64 d.fuse) ∧ w.cell? ⟨p, 5, none⟩ = some (.bool d.down) ∧ w.cell? ⟨p, 6, none⟩ = some (.int .i64 d.syncs) := by
  obtain ⟨h1, F, ⟨r1, r2, v, hd, _⟩, h3⟩ := h
  obtain ⟨c0, _, _, c3, c4, c5, c6⟩ := hd.cells
  obtain ⟨A, c, rfl⟩ := own_slice hd.row
  exact ⟨A, c, c0, c3, c4, c5, c6⟩
theorem own_fuse {w0 w : World} {p : Nat} {d : Dk.D} (h : OwnD w0 w p d) (n : Int) :
    Calls Try.prog 30 #[.pointer (some ⟨p, 0, none⟩), .int .i64 n] w fun e w' => e = .returned (.tuple #[]) ∧ OwnD w0 w' p (Dk.fused d n) := by
  obtain ⟨h1, F, ⟨r1, r2, v, hd, hF, hB⟩, h3⟩ := h
  refine (fuse_any p r1 r2 v d n w hd).mono ?_
  rintro e w' ⟨rfl, hd', hf⟩
  exact ⟨rfl, h1.trans (hf.below h1.size (fun k e => h3 k (hF k (.inl e)))), F, ⟨r1, r2, v, hd', hF, fun k x => by have := hB k x; have := hf.size; omega⟩, h3⟩

theorem ownB_bs {e8 : TypeId} {w w' : World} {bs : List UInt8} {A : Option Addr} {n c : Nat} (h : w'.ownsRow w.heap.size e8 1 (.slice A n c) n (u8s bs)) : BS w' A n bs ∧ ∀ a, A = some a → w.heap.size ≤ a.block := by
  refine ⟨BS.of_own h, fun a e => ?_⟩
  rcases h.2 with ⟨h, _⟩ | ⟨g, cap, cur, h, hb, _⟩
  · injection h with h1; subst h1; cases e
  · injection h with h1; subst h1; cases e; exact hb
end Go.Proofs.Ytfcmlfcpgboigaa
