/- Frames: which blocks may have turned; strings out of bytes. -/
import Derived.Test.YtlijfnekopjogaaMem
namespace Go.Proofs.Ytlijfnekopjogaa
open Go Go.RowKit Mem

/-- a string out of bytes -/
def str (l : List UInt8) : Value := .string ⟨l.toArray⟩
/-! Frames: only the blocks in F may have turned. -/
structure Fr (F : Nat → Prop) (w w' : World) : Prop where
  os : w'.os = w.os
  tape : w'.tape = w.tape
  output : w'.output = w.output
  size : w.heap.size ≤ w'.heap.size
  block : ∀ k, k < w.heap.size → ¬ F k → w'.heap[k]? = w.heap[k]?
section
variable {F G : Nat → Prop} {a b c : World}
theorem Fr.refl (F : Nat → Prop) (w : World) : Fr F w w := ⟨rfl, rfl, rfl, Nat.le_refl _, fun _ _ _ => rfl⟩
theorem Fr.trans (h : Fr F a b) (k : Fr G b c) (hg : ∀ i, i < a.heap.size → G i → F i) : Fr F a c :=
  ⟨k.os.trans h.os, k.tape.trans h.tape, k.output.trans h.output, Nat.le_trans h.size k.size, fun i hi hn => (k.block i (by have := h.size; omega) (fun x => hn (hg i hi x))).trans (h.block i hi hn)⟩
theorem Fr.mono (h : Fr F a b) (hg : ∀ i, i < a.heap.size → F i → G i) : Fr G a b := ⟨h.os, h.tape, h.output, h.size, fun i hi hn => h.block i hi (fun x => hn (hg i hi x))⟩
theorem Fr.of_below (h : Below a.heap.size a b) (F : Nat → Prop) : Fr F a b := ⟨h.os, h.tape, h.output, h.size, fun i hi _ => h.block i hi⟩
theorem Fr.below {B : Nat} (h : Fr F a b) (hB : B ≤ a.heap.size) (hF : ∀ i, F i → B ≤ i) : Below B a b := ⟨h.os, h.tape, h.output, h.size, fun i hi => h.block i (by omega) (fun x => by have := hF i x; omega)⟩
theorem Fr.setCell (h : Fr F a b) (p : Addr) (u : Value) (hp : p.block < a.heap.size → F p.block) : Fr F a (b.setCell p u) := by
  refine ⟨h.os, h.tape, h.output, ?_, fun i hi hn => ?_⟩
  · have := h.size; simp [World.setCell]; exact this
  · rw [Below.heap_setCell b p u i (fun e => hn (by subst e; exact hp hi)), h.block i hi hn]
theorem Fr.alloc (h : Fr F a b) (o : Obj) : Fr F a (b.alloc o) :=
  ⟨h.os, h.tape, h.output, by have := h.size; simp; omega, fun i hi hn => by rw [Below.heap_alloc b o i (by have := h.size; omega)]; exact h.block i hi hn⟩
theorem Fr.drew (h : Fr F a b) (n : Nat) : Fr F a (b.drewN n) := ⟨h.os, h.tape, h.output, h.size, h.block⟩
theorem Fr.grown {row : Option Nat} (h : Fr F a b) (hg : b.grownBy c row) (hr : ∀ k, row = some k → k < a.heap.size → F k) : Fr F a c :=
  ⟨hg.os.trans h.os, hg.tape.trans h.tape, hg.output.trans h.output, Nat.le_trans h.size hg.size, fun i hi hn => by
    rw [hg.block i (by have := h.size; omega) (fun e => hn (hr i (by simpa using e.symm) hi))]; exact h.block i hi hn⟩
end
theorem own_lt {w : World} {e : TypeId} {size n : Nat} {v : Value} {xs : List Value} {base k : Nat} (h : w.ownsRow base e size v n xs) (hv : v.ownBlock = some k) : k < w.heap.size := by
  rcases h.2 with ⟨rfl, _⟩ | ⟨g, cap, cur, rfl, _, hg, _⟩
  · simp [Value.ownBlock] at hv
  · simp [Value.ownBlock] at hv
    subst hv
    rcases Nat.lt_or_ge g w.heap.size with hlt | hge
    · exact hlt
    · rw [Array.getElem?_eq_none hge] at hg; cases hg
theorem own_block {w : World} {e : TypeId} {size n : Nat} {v : Value} {xs : List Value} {base k : Nat} (h : w.ownsRow base e size v n xs) (hv : v.ownBlock = some k) : ∃ cur, w.heap[k]? = some (.cells cur e (0, 0)) := by
  rcases h.2 with ⟨rfl, _⟩ | ⟨g, cap, cur, rfl, _, hg, _⟩
  · simp [Value.ownBlock] at hv
  · simp [Value.ownBlock] at hv
    subst hv
    exact ⟨cur, hg⟩
theorem own_keep {w w' : World} {e : TypeId} {size n : Nat} {v : Value} {xs : List Value} {base : Nat} (h : w.ownsRow base e size v n xs) (hk : ∀ k, v.ownBlock = some k → w'.heap[k]? = w.heap[k]?) : w'.ownsRow base e size v n xs := by
  refine ⟨h.1, ?_⟩
  rcases h.2 with h2 | ⟨g, cap, cur, rfl, hb, hg, r⟩
  · exact .inl h2
  · exact .inr ⟨g, cap, cur, rfl, hb, (hk g rfl).trans hg, r⟩
theorem BS.fr {w w' : World} {A : Option Addr} {n : Nat} {bs : List UInt8} {F : Nat → Prop} (h : BS w A n bs) (hf : Fr F w w') (ho : ∀ a, A = some a → ¬ F a.block) : BS w' A n bs := by
  refine ⟨h.1, fun hn => ?_⟩
  obtain ⟨b, off, rfl, hb, hcell⟩ := h.2 hn
  exact ⟨b, off, rfl, by have := hf.size; omega, fun j hj => (World.cell?_of_block (hf.block b hb (ho _ rfl))).trans (hcell j hj)⟩
end Go.Proofs.Ytlijfnekopjogaa
