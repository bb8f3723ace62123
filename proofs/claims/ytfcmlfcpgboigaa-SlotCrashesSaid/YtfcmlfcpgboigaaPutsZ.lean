/- The plain law of puts onto a disk of z sectors: what a put, and what becomes of it, leave of each sector. -/
import Derived.Test.YtfcmlfcpgboigaaPut
namespace Go.Proofs.Ytfcmlfcpgboigaa
namespace Dk
open Stamp Mem

structure Q (z : Int) (k : Nat) (d : D) : Prop where
  ok : Ok d
  size : d.size = z
  pend : d.pend = []
  now : ∀ n, d.now n = none
  down : d.down = false
  fuse : d.fuse = -1
  syncs : d.syncs ≤ k
theorem q_new (z : Int) (hz : 1 ≤ z ∧ z ≤ 4096) : Q z 0 (new z) := ⟨new_ok z hz, rfl, rfl, fun _ => rfl, rfl, rfl, Int.le_refl _⟩
theorem q_more {z : Int} {k : Nat} {d : D} (h : Q z k d) : Q z (k + 1) d := ⟨h.ok, h.size, h.pend, h.now, h.down, h.fuse, by have := h.syncs; omega⟩
/-- the sector that is put -/
def secOf (d : D) (N : Int) (p : List UInt8) : List UInt8 := wrapB (nextB (cur d N)) p
theorem secOf_length (d : D) (N : Int) (p : List UInt8) (h : p.length ≤ 254) : (secOf d N p).length = 256 := wrapB_length _ _ h
def wantOf (p : List UInt8) : List UInt8 := p ++ List.replicate (254 - p.length) 0
theorem wantOf_length (p : List UInt8) (h : p.length ≤ 254) : (wantOf p).length = 254 := by unfold wantOf; simp; omega
theorem read_q {z : Int} {k : Nat} {d : D} (h : Q z k d) {N : Int} (h0 : 0 ≤ N) (h1 : N < z) : read d N = (cur d N, 0) := by
  have hs := h.size
  unfold read
  rw [if_neg (by unfold at_; rw [if_neg (by omega)]; simp), h.down]
  rfl
theorem put_q {z : Int} {k : Nat} {d : D} (h : Q z k d) {N : Int} (h0 : 0 ≤ N) (h1 : N < z) {p : List UInt8} (hp : p.length ≤ 254) : put2 d N p = (0, put d N (secOf d N p)) := by
  have hs := h.size
  unfold put2
  rw [if_neg (by omega), if_neg (by rw [read_q h h0 h1]; simp)]
  show write d N (secOf d N p) = _
  have ha : at_ d N = 0 := by unfold at_; rw [if_neg (by omega)]
  have hst : step d = (0, d) := by
    unfold step
    rw [if_neg (by rw [h.down, h.fuse]; simp), if_neg (by rw [h.fuse]; omega)]
  unfold write
  rw [if_neg (by omega), if_neg (by rw [secOf_length d N p hp]; simp), hst, if_neg (by simp)]
theorem put_ok2 {z : Int} {k : Nat} {d : D} (h : Q z k d) {N : Int} (h0 : 0 ≤ N) (h1 : N < z) {p : List UInt8} (hp : p.length ≤ 254) : Ok (put d N (secOf d N p)) := put_ok h.ok N _ (secOf_length d N p hp) ⟨h0, by rw [h.size]; omega⟩
theorem put_pend {z : Int} {k : Nat} {d : D} (h : Q z k d) (N : Int) (s : List UInt8) : (put d N s).pend = [(N, s)] := by show d.pend ++ [(N, s)] = _; rw [h.pend]; rfl
/-- what becomes of it, if the power stays -/
def kept (d : D) (N : Int) (p : List UInt8) : D := synced (put d N (secOf d N p))
theorem sync_put {z : Int} {k : Nat} {d : D} (h : Q z k d) (N : Int) (p : List UInt8) : sync (put d N (secOf d N p)) = (0, kept d N p) := by
  have hst : step (put d N (secOf d N p)) = (0, put d N (secOf d N p)) := by
    unfold step
    rw [if_neg (by rw [show (put d N (secOf d N p)).down = false from h.down, show (put d N (secOf d N p)).fuse = -1 from h.fuse]; simp), if_neg (by rw [show (put d N (secOf d N p)).fuse = -1 from h.fuse]; omega)]
  unfold sync
  rw [hst, if_neg (by simp)]
  rfl
theorem kept_q {z : Int} {k : Nat} {d : D} (h : Q z k d) {N : Int} (h0 : 0 ≤ N) (h1 : N < z) {p : List UInt8} (hp : p.length ≤ 254) : Q z (k + 1) (kept d N p) :=
  ⟨synced_ok (put_ok2 h h0 h1 hp), h.size, rfl, fun _ => rfl, h.down, h.fuse, by have := h.syncs; show d.syncs + 1 ≤ _; omega⟩
theorem kept_cur {z : Int} {k : Nat} {d : D} (h : Q z k d) (N : Int) (p : List UInt8) (n : Int) : cur (kept d N p) n = if n = N then secOf d N p else cur d n := by
  unfold cur
  show ((upd d.now N (secOf d N p) n).or (d.syn n)).getD zeros = _
  unfold upd
  by_cases e : n = N
  · rw [if_pos e, if_pos e]; rfl
  · rw [if_neg e, if_neg e, h.now n]; rfl
/-- what becomes of it, if the power goes -/
def fallen (d : D) (N : Int) (p : List UInt8) (ks : List Int) (torn : Bool) (cut : Int) : D := crash (put d N (secOf d N p)) ks torn cut
theorem fallen_q {z : Int} {k : Nat} {d : D} (h : Q z k d) {N : Int} (h0 : 0 ≤ N) (h1 : N < z) {p : List UInt8} (hp : p.length ≤ 254) (ks : List Int) (torn : Bool) (cut : Int) : Q z (k + 1) (fallen d N p ks torn cut) :=
  ⟨crash_ok (put_ok2 h h0 h1 hp) ks torn cut, h.size, rfl, fun _ => rfl, rfl, rfl, by show (0 : Int) ≤ _; omega⟩
theorem fallen_cur {z : Int} {k : Nat} {d : D} (h : Q z k d) (N : Int) (p : List UInt8) (ks : List Int) (torn : Bool) (cut : Int) (n : Int) :
    cur (fallen d N p ks torn cut) n = if n = N then mixed (nextB (cur d N)) p (cur d N) (cutOf ks torn cut 1 0) else cur d n := by
  have hcur : ∀ m, cur d m = (d.syn m).getD zeros := fun m => by unfold cur; rw [h.now m]; rfl
  show (crashTo (put d N (secOf d N p)) ks torn cut (put d N (secOf d N p)).pend.length n).getD zeros = _
  rw [put_pend h]
  show (mix d.syn ((put d N (secOf d N p)).pend.getD 0 (0, [])) (cutOf ks torn cut (put d N (secOf d N p)).pend.length 0) n).getD zeros = _
  rw [put_pend h]
  show (mix d.syn (N, secOf d N p) (cutOf ks torn cut 1 0) n).getD zeros = _
  generalize cutOf ks torn cut 1 0 = c
  by_cases e : n = N
  · subst e
    rw [if_pos rfl]
    unfold mix mixed
    by_cases hc : c = 0
    · subst hc
      rw [if_pos rfl, hcur]
      simp
    · rw [if_neg hc]
      unfold upd
      rw [if_pos rfl]
      show (secOf d n p).take c ++ ((d.syn n).getD zeros).drop c = _
      unfold secOf
      rw [hcur]
  · rw [if_neg e]
    have : mix d.syn (N, secOf d N p) c n = d.syn n := by
      unfold mix
      split
      · rfl
      · unfold upd; rw [if_neg e]
    rw [this, ← hcur]
/-- what is opened of a sector -/
def opn (s : List UInt8) : Option (List UInt8) := if openOk s = true then some (openB s) else none
theorem opn_sec {d : D} {N : Int} {p : List UInt8} (hp : p.length ≤ 254) : opn (secOf d N p) = some (wantOf p) := by
  have hr := nextB_range (cur d N)
  unfold opn secOf
  rw [openOk_wrapB _ _ hp hr.1 hr.2, if_pos rfl, openB_wrapB _ _ hp]
  rfl
theorem get_q {z : Int} {k : Nat} {d : D} (h : Q z k d) {n : Int} (h0 : 0 ≤ n) (h1 : n < z) : get2 d n = match opn (cur d n) with | some p => (p, 0) | none => ([], 50) := by
  unfold get2
  rw [if_neg (by rw [read_q h h0 h1]; simp)]
  unfold openR opn
  rw [if_neg (by rw [cur_length h.ok]; simp)]
  cases openOk (cur d n) <;> simp
theorem opn_length {z : Int} {k : Nat} {d : D} (h : Q z k d) {n : Int} {p : List UInt8} (e : opn (cur d n) = some p) : p.length = 254 := by
  unfold opn at e
  split at e
  · cases e; exact openB_length _ (cur_length h.ok n)
  · cases e
/-- behind a fall nothing is opened but what was put, or what was there -/
theorem fallen_opn {z : Int} {k : Nat} {d : D} (h : Q z k d) {N : Int} {p : List UInt8} (hp : p.length ≤ 254) (ks : List Int) (torn : Bool) (cut : Int) {q : List UInt8} (e : opn (cur (fallen d N p ks torn cut) N) = some q) : q = wantOf p ∨ opn (cur d N) = some q := by
  rw [fallen_cur h, if_pos rfl] at e
  have hc := cutOf_le ks torn cut 1 0
  generalize cutOf ks torn cut 1 0 = c at *
  have hl := cur_length h.ok N
  rcases Nat.eq_zero_or_pos c with rfl | h0
  · right
    have : mixed (nextB (cur d N)) p (cur d N) 0 = cur d N := by simp [mixed]
    rwa [this] at e
  · rcases Nat.eq_or_lt_of_le hc with rfl | h1
    · left
      rw [mixed_all _ _ _ hp hl] at e
      have := opn_sec (d := d) (N := N) hp
      unfold secOf at this
      rw [this] at e
      cases e; rfl
    · unfold opn at e
      rw [mixed_torn p (cur d N) c hp hl h0 h1] at e
      cases e
end Dk
end Go.Proofs.Ytfcmlfcpgboigaa
