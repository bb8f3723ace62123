/- Cuts, and small words, for the laws of layer 8. -/
import Derived.Test.YtlpdjpkdgagjpaaDoorSheetOpen
namespace Go.Proofs.YtlpdjpkdgagjpaaDoor
open Go.RowKit Mem Lift
set_option linter.unusedVariables false
set_option linter.unusedSimpArgs false
set_option maxRecDepth 100000

theorem run_cutS {P : Program} (w : World) (t e : TypeId) (A : Option Addr) (n c k : Nat) (x : Int) (hx : x = k) (hk : k ≤ c) (ht : P.underlying t = some (.slice (P.elem t))) (sz : Nat) (hs : ∀ W, (sizeOf (P.elem t)).run P W = .ok sz W) : (Instr.slice t (.slice A n c) none (some (.int .i64 x)) none).run P w = .ok (.slice A k c) w := by
  subst hx
  rw [run_slice_h w t A n c ht .i64 k (by omega) (by omega), hs]
  simp [Result.andThen, sliced, Addr.add]
theorem size_of {P : Program} {t : TypeId} {i : TypeInfo} {s : Nat} (hi : P.info? t = some i) (hs : i.size = s) (W : World) : (sizeOf t).run P W = .ok s W := by
  simp [sizeOf, typeInfo, hi, hs]
theorem cutSheet (A : Option Addr) (n c k : Nat) (x : Int) (hx : x = k) (hk : k ≤ c) (W : World) : (Instr.slice 32 (.slice A n c) none (some (.int .i64 x)) none).run Tryd.prog W = .ok (.slice A k c) W := by
  obtain ⟨i0, hi0, hz0, hz1, hz2⟩ := info_parts finfoSheet
  refine run_cutS W 32 47 A n c k x hx hk Tryd.underlying32 4 (fun W => ?_)
  rw [show Tryd.prog.elem 32 = 47 by kernel_rfl]
  exact size_of hi0 hz1 W
theorem cutBody (A : Option Addr) (n c k : Nat) (x : Int) (hx : x = k) (hk : k ≤ c) (W : World) : (Instr.slice 30 (.slice A n c) none (some (.int .i64 x)) none).run Tryd.prog W = .ok (.slice A k c) W := by
  obtain ⟨i0, hi0, hz0, hz1, hz2⟩ := info_parts finfoBody
  refine run_cutS W 30 38 A n c k x hx hk Tryd.underlying30 1 (fun W => ?_)
  rw [show Tryd.prog.elem 30 = 38 by kernel_rfl]
  exact size_of hi0 hz1 W
theorem ST.take_ {α : Type} {K : Kind_ α} {w : World} {A : Option Addr} {n : Nat} {l : List α} (h : ST K w A n l) {k : Nat} (hk : k ≤ n) : ST K w A k (l.take k) := by
  refine ⟨by rw [List.length_take, h.len]; omega, fun x hx => h.ok x (List.mem_of_mem_take hx), fun hp => ?_⟩
  obtain ⟨b, off, e, hlt, hc⟩ := h.mem (by omega)
  refine ⟨b, off, e, hlt, fun i hi j hj => ?_⟩
  rw [List.length_take, h.len] at hi
  rw [hc i (by rw [h.len]; omega) j hj]
  congr 2
  rw [List.getD_eq_getElem?_getD, List.getD_eq_getElem?_getD, List.getElem?_take, if_pos (by omega)]
theorem bodiesOf_take (l : List Bd) (k : Nat) : bodiesOf (l.take k) = (bodiesOf l).take k := by simp [bodiesOf]
theorem map_len {α β : Type} {l : List (α × β)} {bs : List α} (h : l.map Prod.fst = bs) : l.length = bs.length := by rw [← h, List.length_map]
theorem found_ok {w : World} {fl : List (List UInt8 × Nat)} {bs : List (List UInt8)} (h : fl.map Prod.fst = bs) (hb : ∀ b ∈ bs, b.length ≤ 1500) : ∀ x ∈ fl, foundK.ok w x := fun x hx => by
  have := hb x.1 (by rw [← h]; exact List.mem_map.2 ⟨x, hx, rfl⟩)
  show x.1.length ≤ 100000
  omega
/-- a call of awake, and its end -/
theorem to_awake {w0 w : World} (ht : Half w0) (hb : Below w0.heap.size w0 w) : Calls Tryd.prog 16 #[] w fun e w' => e = .returned (.bool true) ∧ Below w0.heap.size w0 w' :=
  (awake08_any w (ht.below hb)).mono fun e w' ⟨h1, h2⟩ => ⟨h1, below_of hb hb.size h2⟩
end Go.Proofs.YtlpdjpkdgagjpaaDoor
