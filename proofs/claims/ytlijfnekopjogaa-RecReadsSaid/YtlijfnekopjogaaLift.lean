/- From a walk of a law to its row: what is alike for every law. -/
import Derived.Test.YtlijfnekopjogaaMem
import Derived.ProofKit
import Derived.OpenShut
import Derived.ShutString
import Derived.ChangeOld
import Derived.Below
import Derived.Deep.DeepHandedRow
import Derived.Lib.LaidTab
import Derived.SizedLaws
namespace Go.Proofs.Ytlijfnekopjogaa.Lift
open Go Go.ChangeShapes Go.WideShapes Go.ChangeAt Go.RowKit Mem
section
variable {H : Type} {enc : TypeId × Value → H} {P : Program}
theorem trodAll_below (hl : laidOutB P = true) {W W' : World} (hb : Below W.heap.size W W') :
    ∀ (ts : List TypeId) (vs : List Value) (ds : List (DataW H)) (ps : List MemPlace), (∀ t ∈ ts, P.readableRec t = true ∧ t < P.types.size) → (∀ x ∈ ps, x.block < W.heap.size) →
      DataW.TrodAll enc P W 0 (fun _ => true) true ts vs ds ps → DataW.TrodAll enc P W' 0 (fun b => decide (b < W.heap.size)) true ts vs ds ps
  | [], [], [], _, _, _, h => h
  | t :: ts, v :: vs, d :: ds, ps, hr, hlt, h => by
    obtain ⟨p, q, h1, h2, rfl⟩ := h
    have ht := hr t (by simp)
    exact ⟨p, q, Below.trod hl ht.1 ht.2 h1 hb (fun x hx => hlt x (by simp [hx])), trodAll_below hl hb ts vs ds q (fun t ht => hr t (by simp [ht])) (fun x hx => hlt x (by simp [hx])) h2, rfl⟩
  | [], [], _ :: _, _, _, _, h => by exact h.elim
  | [], _ :: _, _, _, _, _, h => by exact h.elim
  | _ :: _, [], _, _, _, _, h => by exact h.elim
  | _ :: _, _ :: _, [], _, _, _, h => by exact h.elim
/-- THE LAW's POST: it returned true, and nothing that was there has turned. -/
theorem post_true {f : Func} {s : ChangeSpec} {W W' : World} {args : Array Value} {ds gs : List (DataW H)} {before : List MemPlace} {tb : TypeId}
    (hl : laidOutB P = true) (hb : P.underlying tb = some .bool) (hres : f.resultTypes = #[tb]) (hpar : ∀ t ∈ f.params.toList, P.readableRec t = true ∧ t < P.types.size) (hvars : s.vars = [])
    (hW : DataW.Whole enc P f.params.toList s.vars false W args.toList ds gs before)
    (hspec : s.fn H (ds ++ gs) = { results := [.lit (.bool true)], args := ds }) (bel : Below W.heap.size W W') :
    s.post enc P f false true false false W args (.bool true) W' := by
  have hW0 := hW
  obtain ⟨p, q, hA, hV, rfl, hfz, hnd⟩ := hW
  have hlt : ∀ x ∈ p, x.block < W.heap.size := fun x hx => hW0.lt x (by simp [hx])
  refine ⟨ds, gs, p ++ q, [], p, [], hW0, ?_, ?_, ?_, bel.frame _, fun h => by cases h⟩
  · rw [hspec, hres]; exact trodAll_mk1 (shut_bool hb _)
  · rw [hspec]; exact trodAll_below hl bel _ _ _ _ hpar hlt hA
  · rw [hspec, hvars]; rfl
/-- a slice of bytes that came in -/
theorem open_bytes {t e : TypeId} {W : World} {v : Value} {d : DataW H} {p : List MemPlace} {base : Nat} (ht : P.underlying t = some (.slice e)) (he : P.underlying e = some (.int .u8)) (hc : P.cellsOf e = 1)
    (hv : Value.okWide P W .any base t v) (h : DataW.Trod enc P W 0 (fun _ => true) true t v d p) :
    ∃ A n c bs, v = .slice A n c ∧ BS W A n bs ∧ n ≤ c ∧ c ≤ maxLen ∧ ((d = .nil ∧ c = 0) ∨ ∃ el sp, d = .slice el sp ∧ el.length + sp.length = c) := by
  obtain ⟨A, n, c, rfl⟩ := okWide_slice ht hv
  obtain ⟨fuel, hf⟩ := h
  rcases open_ints ht he hc hf with ⟨hcs, hx⟩ | ⟨x, l, c', zs, hcs, _, hl, hm, hz, hx, hcell, hwz⟩
  · simp [Value.cells] at hcs
    obtain ⟨rfl, rfl, rfl⟩ := hcs
    simp only [Prod.mk.injEq] at hx
    exact ⟨none, 0, 0, [], rfl, BS.empty _ _, Nat.le_refl _, by simp [maxLen], .inl ⟨hx.1, rfl⟩⟩
  · simp [Value.cells] at hcs
    obtain ⟨rfl, rfl, rfl⟩ := hcs
    simp at hz
    simp only [Prod.mk.injEq] at hx
    refine ⟨some x, n, c, (zs.take n).map (fun z => UInt8.ofNat z.toNat), rfl, ⟨by simp; omega, fun hn => ?_⟩, hl, hm, .inr ⟨_, _, hx.1, by simp [lits]; omega⟩⟩
    obtain ⟨b, off, spot⟩ := x
    have hspot : spot = none := by
      have := World.cell?_spot (hcell 0 (by omega))
      simpa [Addr.add] using this
    subst hspot
    have h0 := hcell 0 (by omega)
    refine ⟨b, off, rfl, ?_, fun j hj => ?_⟩
    · exact World.block_lt_of_cell? W ⟨b, off, none⟩ (by simpa [Addr.add] using h0)
    · simp at hj
      have hjz : j < zs.length := by omega
      have h1 := hcell j hjz
      have hadd : (⟨b, off, none⟩ : Addr).add j = ⟨b, off + j, none⟩ := by unfold Addr.add; split <;> simp_all
      rw [hadd] at h1
      rw [h1]
      have hmem : zs.getD j 0 ∈ zs := by rw [List.getD_eq_getElem?_getD, List.getElem?_eq_getElem hjz]; simp
      have hw := bounds_u8 (hwz _ hmem)
      have hg : ((zs.take n).map (fun z => UInt8.ofNat z.toNat)).getD j 0 = UInt8.ofNat (zs.getD j 0).toNat := by
        rw [List.getD_eq_getElem?_getD, List.getElem?_map, List.getElem?_take, if_pos (by omega), List.getElem?_eq_getElem hjz, List.getD_eq_getElem?_getD, List.getElem?_eq_getElem hjz]
        rfl
      rw [hg]
      have e : (UInt8.ofNat (zs.getD j 0).toNat).toNat = (zs.getD j 0).toNat := by
        rw [UInt8.toNat_ofNat']
        exact Nat.mod_eq_of_lt (by omega)
      show some (Value.int .u8 _) = some (Value.int .u8 _)
      rw [e, Int.toNat_of_nonneg hw.1]
/-- the form's own reach, at a slice of bytes -/
theorem reach_bytes {ts : List TypeId} {ds : List (DataW H)} {j : Nat} {t e : TypeId} {d : DataW H} {c : Nat} (hsz : (DataW.weightsEach P ts ds).all (· ≤ reachBytes) = true) (ht : ts[j]? = some t) (hd : ds[j]? = some d)
    (hu : P.underlying t = some (.slice e)) (hby : P.bytesOf e = 1) (h : (d = .nil ∧ c = 0) ∨ ∃ el sp, d = .slice el sp ∧ el.length + sp.length = c) : c ≤ 140737488351232 := by
  rcases h with ⟨_, rfl⟩ | ⟨el, sp, rfl, hc⟩
  · omega
  · have := sized_slice hsz ht hd hu
    rw [hby, Nat.mul_one, hc] at this
    exact this
end
end Go.Proofs.Ytlijfnekopjogaa.Lift
