/- A disk of the call's own beside blocks that it may not touch. -/
import Derived.Test.YtfcmlfcpgboigaaMasterFall
import Derived.Test.YtfcmlfcpgboigaaAppInts
import Derived.Test.YtfcmlfcpgboigaaSaved06
namespace Go.Proofs.Ytfcmlfcpgboigaa
open Go.RowKit Mem
set_option linter.unusedVariables false
set_option linter.unusedSimpArgs false

/-- A DISK, its blocks not among X. -/
structure DX (w0 w : World) (p : Nat) (d : Dk.D) (X : Nat → Prop) (F : Nat → Prop) : Prop where
  at_ : DiskAt w p d F
  ge : ∀ k, F k → w0.heap.size ≤ k
  ne : ∀ k, F k → ¬ X k
  lt : ∀ k, X k → k < w.heap.size
  below : Below w0.heap.size w0 w
section
variable {w0 w w' : World} {p : Nat} {d d' : Dk.D} {X Y F : Nat → Prop}
theorem DX.grow (h : DX w0 w p d X F) (hb : Below w.heap.size w w') : DX w0 w' p d X F ∧ ∀ k, X k → w'.heap[k]? = w.heap[k]? :=
  ⟨⟨h.at_.below_ hb, h.ge, h.ne, fun k hk => Nat.lt_of_lt_of_le (h.lt k hk) hb.size, h.below.trans (hb.mono h.below.size)⟩, fun k hk => hb.block k (h.lt k hk)⟩
theorem DX.to (h : DX w0 w p d X F) (ht : DiskTo w F p d' w') : ∃ F', DX w0 w' p d' X F' ∧ ∀ k, X k → w'.heap[k]? = w.heap[k]? := by
  obtain ⟨F', g1, g2, g3⟩ := ht
  refine ⟨F', ⟨g1, fun k hk => ?_, fun k hk hx => ?_, fun k hk => Nat.lt_of_lt_of_le (h.lt k hk) g2.size, h.below.trans (g2.below h.below.size h.ge)⟩, fun k hk => g2.block k (h.lt k hk) (fun hf => h.ne k hf hk)⟩
  · rcases g3 k hk with y | y
    · exact h.ge k y
    · exact Nat.le_trans h.below.size y
  · rcases g3 k hk with y | y
    · exact h.ne k y hx
    · have := h.lt k hx; omega
/-- more blocks that it may not touch: new ones -/
theorem DX.more (h : DX w0 w p d X F) (hb : Below w.heap.size w w') (hY : ∀ k, Y k → X k ∨ w.heap.size ≤ k ∧ k < w'.heap.size) : DX w0 w' p d Y F := by
  have hb2 := hb.size
  refine ⟨h.at_.below_ hb, h.ge, fun k hk hy => ?_, fun k hk => ?_, h.below.trans (hb.mono h.below.size)⟩
  · rcases hY k hy with y | y
    · exact h.ne k hk y
    · have := h.at_.bound k hk; omega
  · rcases hY k hk with y | y
    · exact Nat.lt_of_lt_of_le (h.lt k y) hb.size
    · exact y.2
theorem DX.less (h : DX w0 w p d X F) (hY : ∀ k, Y k → X k) : DX w0 w p d Y F := ⟨h.at_, h.ge, fun k hk hy => h.ne k hk (hY k hy), fun k hk => h.lt k (hY k hk), h.below⟩
theorem dx_fuse (h : DX w0 w p d X F) (n : Int) : Calls Try.prog 30 #[.pointer (some ⟨p, 0, none⟩), .int .i64 n] w fun e w' => e = .returned (.tuple #[]) ∧ ∃ F', DX w0 w' p (Dk.fused d n) X F' ∧ ∀ k, X k → w'.heap[k]? = w.heap[k]? := by
  obtain ⟨r1, r2, v, hd, hF, hB⟩ := h.at_
  refine (fuse_any p r1 r2 v d n w hd).mono ?_
  rintro e w' ⟨rfl, hd', hf⟩
  refine ⟨rfl, h.to ⟨F, ⟨r1, r2, v, hd', hF, fun k x => by have := hB k x; have := hf.size; omega⟩, hf.mono (fun i hi e => hF i (.inl e)), fun k x => .inl x⟩⟩
theorem dx_save (h : DX w0 w p d X F) (m : Ms.M) (hok : Dk.Ok d) (hlen : d.pend.length ≤ 999999) (hsy : d.syncs ≤ 999999) : Calls Try.prog 32 #[.pointer (some ⟨p, 0, none⟩), mVal m] w fun e w' => e = .returned (.int .i64 ((Ms.save d m).1 : Nat)) ∧ ∃ F', DX w0 w' p (Ms.save d m).2 X F' ∧ ∀ k, X k → w'.heap[k]? = w.heap[k]? := by
  refine (msave_any p d F m w h.at_ hok hlen hsy).mono ?_
  rintro e w' ⟨rfl, hT⟩
  exact ⟨rfl, h.to hT⟩
theorem dx_load (h : DX w0 w p d X F) (hok : Dk.Ok d) : Calls Try.prog 28 #[.pointer (some ⟨p, 0, none⟩)] w fun e w' => e = .returned (.tuple #[mVal (Ms.load (Dk.get2 d)).1, .int .i64 ((Ms.load (Dk.get2 d)).2 : Nat)]) ∧ Below w.heap.size w w' :=
  mload_any (some ⟨p, 0, none⟩) (Dk.get2 d) w (fun n _ _ W hb => get_any p d F n W (h.at_.below_ hb) hok) (Dk.get_len hok)
theorem dx_down (h : DX w0 w p d X F) : Calls Try.prog 41 #[.pointer (some ⟨p, 0, none⟩)] w fun e w' => e = .returned (.bool d.down) ∧ w' = w := by
  obtain ⟨r1, r2, v, hd, hF, hB⟩ := h.at_
  exact down_any p d.down w hd.cells.2.2.2.2.2.1
theorem dx_crash (h : DX w0 w p d X F) (hok : Dk.Ok d) (AK : Option Addr) (nk ck : Nat) (ks : List Int) (torn : Bool) (cut : Int) (hK : IS w AK nk ks) (hnk : nk ≤ 1000000) (hpl : d.pend.length ≤ 1000000) :
    Calls Try.prog 42 #[.pointer (some ⟨p, 0, none⟩), .agg #[.slice AK nk ck, .bool torn, .int .i64 cut]] w fun e w' => ∃ x F', e = .returned (.pointer (some ⟨x, 0, none⟩)) ∧ DX w0 w' x (Dk.crash d ks torn cut) X F' ∧ ∀ k, X k → w'.heap[k]? = w.heap[k]? := by
  refine (crash_any p d F AK nk ck ks torn cut w h.at_ hok hK hnk hpl).mono ?_
  rintro e w' ⟨x, rfl, g1, F', g2, g3⟩
  exact ⟨x, F', rfl, ⟨g2, fun k hk => Nat.le_trans h.below.size (g3 k hk), fun k hk hx => by have := g3 k hk; have := h.lt k hx; omega, fun k hk => Nat.lt_of_lt_of_le (h.lt k hk) g1.size, h.below.trans (g1.mono h.below.size)⟩, fun k hk => g1.block k (h.lt k hk)⟩
end
end Go.Proofs.Ytfcmlfcpgboigaa
