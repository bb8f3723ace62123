/- The document reads a checkpoint's lists (printed by gen_renc.py). -/
import Derived.Test.YtlijfnekopjogaaRecRefH
import Derived.Test.YtlijfnekopjogaaRecOnlys
import Derived.Test.YtlijfnekopjogaaStepCall
import Derived.Deep.RegionLaw
namespace Go.Proofs.Ytlijfnekopjogaa
open Go Go.RowKit Mem Rc
set_option maxRecDepth 100000
set_option linter.unusedVariables false
set_option linter.unusedSimpArgs false

/-- a record under way, its reader -/
structure LbS (w : World) (q : Nat) (F : Nat → Prop) (y : MD) (r : Sl.R) (v : World) : Prop where
  box : Blk v w.heap.size 30 (mCells y)
  res : Blk v (w.heap.size + 1) 30 (mCells (MD.k0 0))
  rd : RfAt v q r F
  fr : Fr (fun j => j = q) w v
  size : w.heap.size + 2 ≤ v.heap.size
theorem LbS.call {w v v' : World} {q : Nat} {F : Nat → Prop} {y : MD} {r r' : Sl.R} (h : LbS w q F y r v) (hq : q < w.heap.size) (hr : RfAt v' q r' F) (hf : Fr (fun j => j = q) v v') : LbS w q F y r' v' :=
  ⟨h.box.keep (hf.block _ h.box.lt (fun e => by have e : w.heap.size = q := e; omega)), h.res.keep (hf.block _ h.res.lt (fun e => by have e : w.heap.size + 1 = q := e; omega)), hr, h.fr.trans hf (fun _ _ e => e), Nat.le_trans h.size hf.size⟩
theorem LbS.grow {w v v' : World} {q : Nat} {F : Nat → Prop} {y : MD} {r : Sl.R} (h : LbS w q F y r v) (hb : Below v.heap.size v v') : LbS w q F y r v' :=
  ⟨h.box.below hb h.box.lt, h.res.below hb h.res.lt, h.rd.below hb, h.fr.trans (Fr.of_below hb _) (fun _ _ e => e), Nat.le_trans h.size hb.size⟩
/-- blocks of one's own turn -/
theorem LbS.own {w v v' : World} {q : Nat} {F : Nat → Prop} {y : MD} {r : Sl.R} {G : Nat → Prop} (h : LbS w q F y r v) (hF : ∀ k, F k → k < w.heap.size) (hf : Fr G v v') (hG : ∀ j, G j → w.heap.size + 2 ≤ j) : LbS w q F y r v' :=
  ⟨h.box.keep (hf.block _ h.box.lt (fun e => by have := hG _ e; omega)), h.res.keep (hf.block _ h.res.lt (fun e => by have := hG _ e; omega)), h.rd.fr hf (fun k hk e => by have := hG _ e; have := hF k hk; omega), h.fr.trans hf (fun j hj e => by have := hG _ e; omega), Nat.le_trans h.size hf.size⟩
theorem LbS.put {w v : World} {q : Nat} {F : Nat → Prop} {y y' : MD} {r : Sl.R} (h : LbS w q F y r v) (hF : ∀ k, F k → k < w.heap.size) (i : Nat) (val : Value) (hy : (mCells y).setIfInBounds i val = mCells y') : LbS w q F y' r (v.setCell ⟨w.heap.size, i, none⟩ val) := by
  have hf : Fr (fun j => j = w.heap.size) v (v.setCell ⟨w.heap.size, i, none⟩ val) := (Fr.refl (fun j => j = w.heap.size) v).setCell _ _ (fun _ => rfl)
  refine ⟨by rw [← hy]; exact h.box.put i val, h.res.keep (hf.block _ h.res.lt (fun e => by have e : w.heap.size + 1 = w.heap.size := e; omega)), h.rd.fr hf (fun k hk e => by have e : k = w.heap.size := e; have := hF k hk; omega), h.fr.trans hf (fun j hj e => by have e : j = w.heap.size := e; omega), by rw [setCell_size']; exact h.size⟩
/-- a row under way -/
structure RoS (wr : World) (q : Nat) (F : Nat → Prop) (z : RwD) (r : Sl.R) (v : World) : Prop where
  row : Blk v wr.heap.size 52 (rwCells z)
  rd : RfAt v q r F
  fr : Fr (fun j => j = q) wr v
theorem RoS.call {w v v' : World} {q : Nat} {F : Nat → Prop} {z : RwD} {r r' : Sl.R} (h : RoS w q F z r v) (hq : q < w.heap.size) (hr : RfAt v' q r' F) (hf : Fr (fun j => j = q) v v') : RoS w q F z r' v' :=
  ⟨h.row.keep (hf.block _ h.row.lt (fun e => by have e : w.heap.size = q := e; omega)), hr, h.fr.trans hf (fun _ _ e => e)⟩
theorem RoS.put {w v : World} {q : Nat} {F : Nat → Prop} {z z' : RwD} {r : Sl.R} (h : RoS w q F z r v) (hF : ∀ k, F k → k < w.heap.size) (i : Nat) (val : Value) (hz : (rwCells z).setIfInBounds i val = rwCells z') : RoS w q F z' r (v.setCell ⟨w.heap.size, i, none⟩ val) := by
  have hf : Fr (fun j => j = w.heap.size) v (v.setCell ⟨w.heap.size, i, none⟩ val) := (Fr.refl (fun j => j = w.heap.size) v).setCell _ _ (fun _ => rfl)
  exact ⟨by rw [← hz]; exact h.row.put i val, h.rd.fr hf (fun k hk e => by have e : k = w.heap.size := e; have := hF k hk; omega), h.fr.trans hf (fun j hj e => by have e : j = w.heap.size := e; omega)⟩
def nx : Nat → Sl.R → Sl.R
  | 0, r => r
  | k + 1, r => Cd.next (nx k r) 1099511627776
theorem nx_many (r : Sl.R) : ∀ k, (Cd.many nC r k).2 = nx k r
  | 0 => rfl
  | k + 1 => by rw [Cd.many, nx, ← nx_many r k]; rfl
theorem nx_le (r : Sl.R) : ∀ k, (nx k r).b.length ≤ r.b.length
  | 0 => Nat.le_refl _
  | k + 1 => Nat.le_trans (Cd.try_le _ _) (nx_le r k)
theorem rw_dec3 (r : Sl.R) : rwC.dec r = (⟨Cd.one (nx 0 r) 1099511627776, Cd.one (nx 1 r) 1099511627776, Cd.one (nx 2 r) 1099511627776, Cd.one (nx 3 r) 1099511627776, Cd.one (nx 4 r) 1099511627776, Cd.one (nx 5 r) 1099511627776, (iC.dec (nx 6 r)).1, (lsC.dec (iC.dec (nx 6 r)).2).1⟩, (lsC.dec (iC.dec (nx 6 r)).2).2) := by
  rw [rw_dec]
  simp only [nx_many, nC_dec]
  rfl
def Rb (lk : List RwD) (A : Option Addr) (c : Nat) : MD := { MD.k0 8 with rows := lk, rA := A, rc := c }
def Db (y : MD) (ld : List D) (A : Option Addr) (c : Nat) : MD := { y with dirty := ld, dA := A, dc := c }
def Eb (y : MD) (le : List DeD) (A : Option Addr) (c : Nat) : MD := { y with deeds := le, eA := A, ec := c }
/-- a list of the call's own, under way -/
structure OwL {α β : Type} (K : Kind_ α) (f : α → β) (C : Cd.Cod β) (T : TypeId) (pl : α → Addr → Prop) (B : Nat) (r : Sl.R) (k : Nat) (A : Option Addr) (c : Nat) (l : List α) (v : World) : Prop where
  len : l.length = k
  map : l.map f = (Cd.many C r k).1
  own : v.ownsRow B T K.k (.slice A k c) k (rowOf K l)
  ok : ∀ x ∈ l, K.ok v x
  ap : ∀ x ∈ l, ∀ a, pl x a → B ≤ a.block ∧ a.block < v.heap.size ∧ (Value.slice A k c).ownBlock ≠ some a.block
abbrev rwP (x : RwD) (a : Addr) : Prop := x.mA = some a ∨ x.lA = some a
abbrev deP (x : DeD) (a : Addr) : Prop := x.mA = some a
abbrev noP {α : Type} (_ : α) (_ : Addr) : Prop := False
theorem OwL.nil {α β : Type} {K : Kind_ α} {f : α → β} {C : Cd.Cod β} {T : TypeId} {pl : α → Addr → Prop} {B : Nat} {r : Sl.R} {v : World} : OwL K f C T pl B r 0 none 0 [] v :=
  ⟨rfl, rfl, own_nilK _, fun x hx => absurd hx (by simp), fun x hx => absurd hx (by simp)⟩
/-- one more: v is what was, v1 where the thing is ready, v2 behind the append, v3 behind what else was stored -/
theorem OwL.push {α β : Type} {K : Kind_ α} {f : α → β} {C : Cd.Cod β} {T : TypeId} {pl : α → Addr → Prop} {B : Nat} {r : Sl.R} {k : Nat} {A A' : Option Addr} {c c' : Nat} {l : List α} {v v1 v2 v3 : World} {o : Obj} {G : Nat → Prop} (x : α)
    (hfr : ∀ {w w' : World} {z : α} {H : Nat → Prop}, K.ok w z → Fr H w w' → (∀ a, pl z a → ¬ H a.block) → K.ok w' z)
    (h : OwL K f C T pl B r k A c l v) (hx : f x = (C.dec (Cd.many C r k).2).1) (h1 : Fr G v v1) (hG : ∀ j, G j → j < B) (hB : B ≤ v.heap.size) (hox : K.ok v1 x) (hpx : ∀ a, pl x a → v.heap.size ≤ a.block ∧ a.block < v1.heap.size)
    (hown : v2.ownsRow B T K.k (.slice A' (k + 1) c') (k + 1) (rowOf K l ++ rowOf K [x])) (hg : (v1.alloc o).grownBy v2 (Value.slice A k c).ownBlock) (hat : (Value.slice A' (k + 1) c').ownBlock = (Value.slice A k c).ownBlock ∨ (Value.slice A' (k + 1) c').ownBlock = some (v1.alloc o).heap.size)
    (h3 : Fr (fun j => j < B) v2 v3) : OwL K f C T pl B r (k + 1) A' c' (l ++ [x]) v3 := by
  have hf2 : Fr (fun j => (Value.slice A k c).ownBlock = some j) v1 v2 := ((Fr.refl _ v1).alloc _).grown hg (fun j e _ => e)
  have hge : ∀ j, (Value.slice A k c).ownBlock = some j → B ≤ j ∧ j < v.heap.size := fun j e => ⟨own_geC h.own e, own_lt h.own e⟩
  have hs1 := h1.size
  have hs2 := hf2.size
  have hs3 := h3.size
  have hne : ∀ a : Addr, B ≤ a.block → a.block < v1.heap.size → (Value.slice A k c).ownBlock ≠ some a.block → (Value.slice A' (k + 1) c').ownBlock ≠ some a.block := fun a h5 h6 h7 e => by
    rcases hat with h9 | h9
    · exact h7 (h9.symm.trans e)
    · have h10 := h9.symm.trans e
      injection h10 with h10
      rw [World.size_alloc] at h10
      omega
  refine ⟨by rw [List.length_append, h.len]; rfl, ?_, ?_, ?_, ?_⟩
  · rw [List.map_append, h.map, Cd.many]
    show _ ++ [f x] = _
    rw [hx]
  · rw [rowOf_append]
    exact own_keep hown (fun j e => h3.block j (own_lt hown e) (fun e2 => by have := own_geC hown e; have e2 : j < B := e2; omega))
  · intro z hz
    rcases List.mem_append.1 hz with hz | hz
    · have g := h.ap z hz
      exact hfr (hfr (hfr (h.ok z hz) h1 (fun a ha e => by have := g a ha; have := hG _ e; omega)) hf2 (fun a ha e => (g a ha).2.2 e)) h3 (fun a ha e => by have := g a ha; have e : a.block < B := e; omega)
    · rw [List.mem_singleton] at hz
      subst hz
      exact hfr (hfr hox hf2 (fun a ha e => by have := hpx a ha; have := hge _ e; omega)) h3 (fun a ha e => by have := hpx a ha; have e : a.block < B := e; omega)
  · intro z hz a ha
    rcases List.mem_append.1 hz with hz | hz
    · have g := h.ap z hz a ha
      exact ⟨g.1, by omega, hne a g.1 (by omega) g.2.2⟩
    · rw [List.mem_singleton] at hz
      subst hz
      have g := hpx a ha
      exact ⟨by omega, by omega, hne a (by omega) g.2 (fun e => by have := hge _ e; omega)⟩
/-- kept, where blocks ahead of it turn -/
theorem OwL.fr {α β : Type} {K : Kind_ α} {f : α → β} {C : Cd.Cod β} {T : TypeId} {pl : α → Addr → Prop} {B : Nat} {r : Sl.R} {k : Nat} {A : Option Addr} {c : Nat} {l : List α} {v v' : World} {G : Nat → Prop}
    (hfr : ∀ {w w' : World} {z : α} {H : Nat → Prop}, K.ok w z → Fr H w w' → (∀ a, pl z a → ¬ H a.block) → K.ok w' z) (h : OwL K f C T pl B r k A c l v) (hf : Fr G v v') (hG : ∀ j, G j → j < v.heap.size → j < B) : OwL K f C T pl B r k A c l v' :=
  ⟨h.len, h.map, own_keep h.own (fun j e => hf.block j (own_lt h.own e) (fun e2 => by have h1 := own_geC h.own e; have h2 := hG j e2 (own_lt h.own e); omega)), fun x hx => hfr (h.ok x hx) hf (fun a ha e => by have h1 := h.ap x hx a ha; have h2 := hG _ e h1.2.1; omega), fun x hx a ha => by have h1 := h.ap x hx a ha; have := hf.size; exact ⟨h1.1, by omega, h1.2.2⟩⟩
theorem row_fr {w w' : World} {z : RwD} {H : Nat → Prop} (h : rowK.ok w z) (hf : Fr H w w') (hm : ∀ a, rwP z a → ¬ H a.block) : rowK.ok w' z := rowOk_fr h hf hm
theorem deed_fr {w w' : World} {z : DeD} {H : Nat → Prop} (h : deedK.ok w z) (hf : Fr H w w') (hm : ∀ a, deP z a → ¬ H a.block) : deedK.ok w' z := deedOk_fr h hf hm
theorem dirty_fr {w w' : World} {z : D} {H : Nat → Prop} (h : dirtyK.ok w z) (hf : Fr H w w') (hm : ∀ a, noP z a → ¬ H a.block) : dirtyK.ok w' z := h
theorem dirty_one {W : World} {g : Nat} {t : TypeId} {z : D} (h : Blk W g t (dCells z)) (hok : dirtyK.ok W z) : ST dirtyK W (some ⟨g, 0, none⟩) 1 [z] := by
  refine ⟨rfl, fun y hy => by rw [List.mem_singleton] at hy; rw [hy]; exact hok, fun _ => ⟨g, 0, rfl, h.lt, fun i hi j hj => ?_⟩⟩
  have hi0 : i = 0 := by have : i < 1 := hi; omega
  subst hi0
  rw [show 0 + 0 * dirtyK.k + j = j by omega, h.cell]
  show (dCells z)[j]? = (dirtyK.cells z)[j]?
  rw [show dirtyK.cells z = (dCells z).toList from rfl, Array.getElem?_toList]
theorem rl_ints {w w' : World} {F : Nat → Prop} {q : Nat} {r : Sl.R} {e : Ending} (h : RlTo intK id iC (fun _ _ => True) w F q r e w') : ∃ (A : Option Addr) (c : Nat), e = .returned (.slice A (iC.dec r).1.length c) ∧ RfAt w' q (iC.dec r).2 F ∧ Fr (fun k => k = q) w w' ∧ IS w' A (iC.dec r).1.length (iC.dec r).1 ∧ ((iC.dec r).1.length ≤ c ∧ c ≤ 9223372036854775807) ∧ (∀ a, A = some a → w.heap.size ≤ a.block ∧ a.block < w'.heap.size) := by
  obtain ⟨A, c, l, rfl, h1, h2, h3, h4, h5, h6, _⟩ := h
  rw [List.map_id] at h4
  subst h4
  exact ⟨A, c, rfl, h1, h2, is_of_st h3, h5, h6⟩
theorem rl_locks {w w' : World} {F : Nat → Prop} {q : Nat} {r : Sl.R} {e : Ending} (h : RlTo lockK id lsC (fun _ _ => True) w F q r e w') : ∃ (A : Option Addr) (c : Nat), e = .returned (.slice A (lsC.dec r).1.length c) ∧ RfAt w' q (lsC.dec r).2 F ∧ Fr (fun k => k = q) w w' ∧ ST lockK w' A (lsC.dec r).1.length (lsC.dec r).1 ∧ ((lsC.dec r).1.length ≤ c ∧ c ≤ 9223372036854775807) ∧ (∀ a, A = some a → w.heap.size ≤ a.block ∧ a.block < w'.heap.size) := by
  obtain ⟨A, c, l, rfl, h1, h2, h3, h4, h5, h6, _⟩ := h
  rw [List.map_id] at h4
  subst h4
  exact ⟨A, c, rfl, h1, h2, h3, h5, h6⟩
theorem rwsC_dec (r : Sl.R) : rwsC.dec r = Cd.many rwC (Cd.next r 256) (Cd.one r 256).toNat := rfl
theorem dsC_dec (r : Sl.R) : dsC.dec r = Cd.many dC (Cd.next r 256) (Cd.one r 256).toNat := rfl
theorem desC_dec (r : Sl.R) : desC.dec r = Cd.many deC (Cd.next r 256) (Cd.one r 256).toNat := rfl
theorem chk_dec (r : Sl.R) : chkC.dec r = ({ M.zero with kind := 8, rows := (rwsC.dec r).1, dirty := (dsC.dec (rwsC.dec r).2).1, deeds := (desC.dec (dsC.dec (rwsC.dec r).2).2).1, past := (iC.dec (desC.dec (dsC.dec (rwsC.dec r).2).2).2).1 }, (iC.dec (desC.dec (dsC.dec (rwsC.dec r).2).2).2).2) := by
  unfold chkC
  rw [as_dec]
  simp only [pair_dec]
def FlsTo (w : World) (F : Nat → Prop) (q : Nat) (r : Sl.R) (e : Ending) (w' : World) : Prop :=
  ∃ y : MD, e = .returned (mVal y) ∧ y.m = (chkC.dec r).1 ∧ RfAt w' q (chkC.dec r).2 F ∧ Fr (fun k => k = q) w w' ∧ MOk w' y ∧ MAp w.heap.size y
theorem rls_results {W : World} {g : Nat} {x : MD} {tmps : Array Value} (hb : Blk W g 30 (mCells x)) (h2 : tmps.getD 4 undef = .pointer (some ⟨g, 0, none⟩)) :
    (results Try.f49 tmps).run Try.prog W = .ok (mVal x) W := by
  have hl := rec_loadVar hb
  generalize mVal x = X at *
  simp only [Array.getD_eq_getD_getElem?] at h2
  simp [results, Try.results49, h2, asAddr, hl]
set_option maxHeartbeats 16000000 in
theorem frlists_any (q : Nat) (r : Sl.R) (F : Nat → Prop) (w : World) (hr : RfAt w q r F) (hl : r.b.length ≤ 140737488351232) :
    Calls Try.prog 49 #[.pointer (some ⟨q, 0, none⟩), mVal (MD.k0 8)] w (FlsTo w F q r) := by
  obtain ⟨W, hW, hsz, hb, hx, hz⟩ := on0 w (MD.k0 8)
  have hN := Cd.one_bound r 256 (by omega) (by omega)
  obtain ⟨N, hNe⟩ := Int.eq_ofNat_of_zero_le hN.1
  obtain ⟨i_row, hi0, hz0, hz1, hz2⟩ := info_parts einfo_row
  have HIr := Lib.hid (And.intro hi0 (And.intro hz0 (And.intro hz1 hz2)))
  clear hi0 hz0 hz1 hz2
  obtain ⟨i_dirty, hi0, hz0, hz1, hz2⟩ := info_parts einfo_dirty
  have HId := Lib.hid (And.intro hi0 (And.intro hz0 (And.intro hz1 hz2)))
  clear hi0 hz0 hz1 hz2
  obtain ⟨i_deed, hi0, hz0, hz1, hz2⟩ := info_parts einfo_deed
  have HIe := Lib.hid (And.intro hi0 (And.intro hz0 (And.intro hz1 hz2)))
  clear hi0 hz0 hz1 hz2
  have hN256 : N ≤ 256 := by rw [hNe] at hN; omega
  have HN := Lib.hid hNe
  have HQ := Lib.hid (And.intro (hr.bound q hr.self) (And.intro hr.bound hl))
  have H := Lib.hid (show LbS w q F (MD.k0 8) r W from ⟨hx, hz, hr.below hb, Fr.of_below hb _, by rw [hsz]; exact Nat.le_refl _⟩)
  clear hN hr hl hb hx hz hsz hNe
  go_enter Try.func49, Try.ntmps49
  go_wp2_with fail
  refine (fr_num q r F 256 W H.out.rd (by omega) HQ.out.2.2).mono ?_
  rintro e w1 ⟨rfl, h1, h2⟩
  rw [HN.out]
  have H1 := Lib.hid (show LbS w q F (Rb [] none 0) (Cd.next r 256) w1 from H.out.call HQ.out.1 h1 h2)
  clear h1 h2
  go_wp2_with fail
  go_loopg [6] N (fun gk s6 wr => ∃ (k : Nat) (A : Option Addr) (c : Nat) (lk : List RwD), k ≤ N ∧ gk = N - k ∧ s6 = .int .i64 k ∧ LbS w q F (Rb lk A c) (Cd.many rwC (Cd.next r 256) k).2 wr ∧ OwL rowK RwD.r rwC 52 rwP (w.heap.size + 2) (Cd.next r 256) k A c lk wr)
  case atStart => exact ⟨0, none, 0, [], by omega, by omega, rfl, H1.out, OwL.nil⟩
  case round =>
    obtain ⟨k, A, c, lk, hk, rfl, rfl, hL, hO⟩ := hrel
    clear H1
    by_cases hlt : k < N
    · have hkn : (k : Int) < (N : Int) := by omega
      obtain ⟨R, hR⟩ : ∃ R, (Cd.many rwC (Cd.next r 256) k).2 = R := ⟨_, rfl⟩
      obtain ⟨x0, hx0⟩ : ∃ x, wr.alloc (.cells #[.int .i64 0, .int .i64 0, .int .i64 0, .int .i64 0, .int .i64 0, .int .i64 0, .slice none 0 0, .slice none 0 0] 52) = x := ⟨_, rfl⟩
      have hgr : Below wr.heap.size wr x0 := by rw [← hx0]; exact (Below.refl _ _).alloc (Nat.le_refl _) _
      rw [hR] at hL
      have hqw : q < wr.heap.size := Nat.lt_of_lt_of_le HQ.out.1 (Nat.le_trans (Nat.le_add_right _ 2) hL.size)
      have hFw : ∀ k, F k → k < wr.heap.size := fun k hk => Nat.lt_of_lt_of_le (HQ.out.2.1 k hk) (Nat.le_trans (Nat.le_add_right _ 2) hL.size)
      have H0 := Lib.hid (show RoS wr q F (⟨⟨0, 0, 0, 0, 0, 0, [], []⟩, none, 0, none, 0⟩ : RwD) (nx 0 R) x0 by rw [← hx0]; exact ⟨Blk.new _ _ _, hL.rd.below ((Below.refl _ _).alloc (Nat.le_refl _) _), Fr.of_below ((Below.refl _ _).alloc (Nat.le_refl _) _) _⟩)
      have HLe := Lib.hid (fun j => Nat.le_trans (nx_le R j) (show R.b.length ≤ 140737488351232 by rw [← hR]; exact Nat.le_trans (Cd.many_le rwC (Cd.next r 256) k) (Nat.le_trans (Cd.try_le r _) HQ.out.2.2)))
      have HH := Lib.hid (And.intro hL (And.intro hO (And.intro hqw (And.intro hFw (And.intro hgr hR)))))
      clear hL hO hqw hFw hgr hR
      go_wp2_with fail
      refine (fr_num q (nx 0 R) F 1099511627776 x0 H0.out.rd (by omega) (HLe.out 0)).mono ?_
      rintro e y0 ⟨rfl, h, hf⟩
      obtain ⟨n0, hn0⟩ : ∃ x, Cd.one (nx 0 R) 1099511627776 = x := ⟨_, rfl⟩
      rw [hn0]
      have S0 := Lib.hid (H0.out.call HH.out.2.2.1 (r' := nx 1 R) h hf)
      have u0 : y0.cell? ⟨wr.heap.size, 0, none⟩ = some (.int .i64 0) := S0.out.row.cell 0
      have z0 := S0.out.row.free 0
      obtain ⟨x1, hx1⟩ : ∃ u, y0.setCell ⟨wr.heap.size, 0, none⟩ (.int .i64 n0) = u := ⟨_, rfl⟩
      have H1 := Lib.hid (show RoS wr q F (⟨⟨n0, 0, 0, 0, 0, 0, [], []⟩, none, 0, none, 0⟩ : RwD) (nx 1 R) x1 by rw [← hx1]; exact S0.out.put HH.out.2.2.2.1 0 _ rfl)
      have HN0 := Lib.hid hn0
      clear h hf hn0
      go_wp2_with fail
      clear u0 z0 hx1
      refine (fr_num q (nx 1 R) F 1099511627776 x1 H1.out.rd (by omega) (HLe.out 1)).mono ?_
      rintro e y1 ⟨rfl, h, hf⟩
      obtain ⟨n1, hn1⟩ : ∃ x, Cd.one (nx 1 R) 1099511627776 = x := ⟨_, rfl⟩
      rw [hn1]
      have S1 := Lib.hid (H1.out.call HH.out.2.2.1 (r' := nx 2 R) h hf)
      have u1 : y1.cell? ⟨wr.heap.size, 1, none⟩ = some (.int .i64 0) := S1.out.row.cell 1
      have z1 := S1.out.row.free 1
      obtain ⟨x2, hx2⟩ : ∃ u, y1.setCell ⟨wr.heap.size, 1, none⟩ (.int .i64 n1) = u := ⟨_, rfl⟩
      have H2 := Lib.hid (show RoS wr q F (⟨⟨n0, n1, 0, 0, 0, 0, [], []⟩, none, 0, none, 0⟩ : RwD) (nx 2 R) x2 by rw [← hx2]; exact S1.out.put HH.out.2.2.2.1 1 _ rfl)
      have HN1 := Lib.hid hn1
      clear h hf hn1
      go_wp2_with fail
      clear u1 z1 hx2
      refine (fr_num q (nx 2 R) F 1099511627776 x2 H2.out.rd (by omega) (HLe.out 2)).mono ?_
      rintro e y2 ⟨rfl, h, hf⟩
      obtain ⟨n2, hn2⟩ : ∃ x, Cd.one (nx 2 R) 1099511627776 = x := ⟨_, rfl⟩
      rw [hn2]
      have S2 := Lib.hid (H2.out.call HH.out.2.2.1 (r' := nx 3 R) h hf)
      have u2 : y2.cell? ⟨wr.heap.size, 2, none⟩ = some (.int .i64 0) := S2.out.row.cell 2
      have z2 := S2.out.row.free 2
      obtain ⟨x3, hx3⟩ : ∃ u, y2.setCell ⟨wr.heap.size, 2, none⟩ (.int .i64 n2) = u := ⟨_, rfl⟩
      have H3 := Lib.hid (show RoS wr q F (⟨⟨n0, n1, n2, 0, 0, 0, [], []⟩, none, 0, none, 0⟩ : RwD) (nx 3 R) x3 by rw [← hx3]; exact S2.out.put HH.out.2.2.2.1 2 _ rfl)
      have HN2 := Lib.hid hn2
      clear h hf hn2
      go_wp2_with fail
      clear u2 z2 hx3
      refine (fr_num q (nx 3 R) F 1099511627776 x3 H3.out.rd (by omega) (HLe.out 3)).mono ?_
      rintro e y3 ⟨rfl, h, hf⟩
      obtain ⟨n3, hn3⟩ : ∃ x, Cd.one (nx 3 R) 1099511627776 = x := ⟨_, rfl⟩
      rw [hn3]
      have S3 := Lib.hid (H3.out.call HH.out.2.2.1 (r' := nx 4 R) h hf)
      have u3 : y3.cell? ⟨wr.heap.size, 3, none⟩ = some (.int .i64 0) := S3.out.row.cell 3
      have z3 := S3.out.row.free 3
      obtain ⟨x4, hx4⟩ : ∃ u, y3.setCell ⟨wr.heap.size, 3, none⟩ (.int .i64 n3) = u := ⟨_, rfl⟩
      have H4 := Lib.hid (show RoS wr q F (⟨⟨n0, n1, n2, n3, 0, 0, [], []⟩, none, 0, none, 0⟩ : RwD) (nx 4 R) x4 by rw [← hx4]; exact S3.out.put HH.out.2.2.2.1 3 _ rfl)
      have HN3 := Lib.hid hn3
      clear h hf hn3
      go_wp2_with fail
      clear u3 z3 hx4
      refine (fr_num q (nx 4 R) F 1099511627776 x4 H4.out.rd (by omega) (HLe.out 4)).mono ?_
      rintro e y4 ⟨rfl, h, hf⟩
      obtain ⟨n4, hn4⟩ : ∃ x, Cd.one (nx 4 R) 1099511627776 = x := ⟨_, rfl⟩
      rw [hn4]
      have S4 := Lib.hid (H4.out.call HH.out.2.2.1 (r' := nx 5 R) h hf)
      have u4 : y4.cell? ⟨wr.heap.size, 4, none⟩ = some (.int .i64 0) := S4.out.row.cell 4
      have z4 := S4.out.row.free 4
      obtain ⟨x5, hx5⟩ : ∃ u, y4.setCell ⟨wr.heap.size, 4, none⟩ (.int .i64 n4) = u := ⟨_, rfl⟩
      have H5 := Lib.hid (show RoS wr q F (⟨⟨n0, n1, n2, n3, n4, 0, [], []⟩, none, 0, none, 0⟩ : RwD) (nx 5 R) x5 by rw [← hx5]; exact S4.out.put HH.out.2.2.2.1 4 _ rfl)
      have HN4 := Lib.hid hn4
      clear h hf hn4
      go_wp2_with fail
      clear u4 z4 hx5
      refine (fr_num q (nx 5 R) F 1099511627776 x5 H5.out.rd (by omega) (HLe.out 5)).mono ?_
      rintro e y5 ⟨rfl, h, hf⟩
      obtain ⟨n5, hn5⟩ : ∃ x, Cd.one (nx 5 R) 1099511627776 = x := ⟨_, rfl⟩
      rw [hn5]
      have S5 := Lib.hid (H5.out.call HH.out.2.2.1 (r' := nx 6 R) h hf)
      have u5 : y5.cell? ⟨wr.heap.size, 5, none⟩ = some (.int .i64 0) := S5.out.row.cell 5
      have z5 := S5.out.row.free 5
      obtain ⟨x6, hx6⟩ : ∃ u, y5.setCell ⟨wr.heap.size, 5, none⟩ (.int .i64 n5) = u := ⟨_, rfl⟩
      have H6 := Lib.hid (show RoS wr q F (⟨⟨n0, n1, n2, n3, n4, n5, [], []⟩, none, 0, none, 0⟩ : RwD) (nx 6 R) x6 by rw [← hx6]; exact S5.out.put HH.out.2.2.2.1 5 _ rfl)
      have HN5 := Lib.hid hn5
      clear h hf hn5
      go_wp2_with fail
      clear u5 z5 hx6
      refine (frints_any q (nx 6 R) F x6 H6.out.rd (HLe.out 6)).mono ?_
      intro e y6 hh
      obtain ⟨A6, c6, he, h, hf, his, hcap6, hnew6⟩ := rl_ints hh
      subst he
      obtain ⟨lm, hlm⟩ : ∃ l, (iC.dec (nx 6 R)).1 = l := ⟨_, rfl⟩
      obtain ⟨R7, hR7⟩ : ∃ x, (iC.dec (nx 6 R)).2 = x := ⟨_, rfl⟩
      have hl7 : R7.b.length ≤ 140737488351232 := by rw [← hR7]; exact Nat.le_trans (iC.le _) (HLe.out 6)
      rw [hlm] at his hcap6 ⊢
      rw [hR7] at h
      obtain ⟨nm, hnm⟩ : ∃ n, lm.length = n := ⟨_, rfl⟩
      rw [hnm]
      have S6 := Lib.hid (H6.out.call HH.out.2.2.1 h hf)
      have u6 : y6.cell? ⟨wr.heap.size, 6, none⟩ = some (.slice none 0 0) := S6.out.row.cell 6
      have z6 := S6.out.row.free 6
      obtain ⟨x7, hx7⟩ : ∃ u, y6.setCell ⟨wr.heap.size, 6, none⟩ (.slice A6 nm c6) = u := ⟨_, rfl⟩
      have H7 := Lib.hid (show RoS wr q F (⟨⟨n0, n1, n2, n3, n4, n5, lm, []⟩, A6, c6, none, 0⟩ : RwD) R7 x7 by rw [← hx7]; exact S6.out.put HH.out.2.2.2.1 6 _ (by rw [← hnm]; rfl))
      have hf67 : Fr (fun j => j = wr.heap.size) y6 x7 := by rw [← hx7]; exact (Fr.refl (fun j => j = wr.heap.size) y6).setCell _ _ (fun _ => rfl)
      have HI := Lib.hid (And.intro his (And.intro hcap6 (And.intro hnew6 (And.intro hf67 (And.intro hl7 (And.intro hlm (And.intro hR7 (And.intro hnm hf.size))))))))
      clear h hf his hcap6 hnew6 hf67 hl7 hlm hR7 hnm hh
      go_wp2_with fail
      clear u6 z6 hx7
      refine (frlocks_any q R7 F x7 H7.out.rd HI.out.2.2.2.2.1).mono ?_
      intro e y7 hh
      obtain ⟨A7, c7, he, h, hf, his, hcap7, hnew7⟩ := rl_locks hh
      subst he
      obtain ⟨ll, hll⟩ : ∃ l, (lsC.dec R7).1 = l := ⟨_, rfl⟩
      obtain ⟨R8, hR8⟩ : ∃ x, (lsC.dec R7).2 = x := ⟨_, rfl⟩
      rw [hll] at his hcap7 ⊢
      rw [hR8] at h
      obtain ⟨nl, hnl⟩ : ∃ n, ll.length = n := ⟨_, rfl⟩
      rw [hnl]
      have S7 := Lib.hid (H7.out.call HH.out.2.2.1 h hf)
      have u7 : y7.cell? ⟨wr.heap.size, 7, none⟩ = some (.slice none 0 0) := S7.out.row.cell 7
      have z7 := S7.out.row.free 7
      obtain ⟨x8, hx8⟩ : ∃ u, y7.setCell ⟨wr.heap.size, 7, none⟩ (.slice A7 nl c7) = u := ⟨_, rfl⟩
      obtain ⟨zz, hzz⟩ : ∃ z, (⟨⟨n0, n1, n2, n3, n4, n5, lm, ll⟩, A6, c6, A7, c7⟩ : RwD) = z := ⟨_, rfl⟩
      have H8 := Lib.hid (show RoS wr q F zz R8 x8 by rw [← hx8, ← hzz]; exact S7.out.put HH.out.2.2.2.1 7 _ (by rw [← hnl]; rfl))
      have hf78 : Fr (fun j => j = wr.heap.size) y7 x8 := by rw [← hx8]; exact (Fr.refl (fun j => j = wr.heap.size) y7).setCell _ _ (fun _ => rfl)
      have hrs : wr.heap.size < x6.heap.size := H6.out.row.lt
      have hxy6 : x6.heap.size ≤ y6.heap.size := HI.out.2.2.2.2.2.2.2.2
      have hok8 : RowOk x8 zz := by
        rw [← hzz]
        refine ⟨IS.fr (IS.fr (IS.fr HI.out.1 HI.out.2.2.2.1 (fun a e g => by have h1 := HI.out.2.2.1 a e; have h2 : a.block = wr.heap.size := g; omega)) hf (fun a e g => by have h1 := HI.out.2.2.1 a e; have h2 : a.block = q := g; have := HH.out.2.2.1; omega)) hf78 (fun a e g => by have h1 := HI.out.2.2.1 a e; have h2 : a.block = wr.heap.size := g; omega), ST.fr his hf78 (fun a e g => by have h1 := hnew7 a e; have h2 : a.block = wr.heap.size := g; have := H7.out.row.lt; omega) his.ok, HI.out.2.1, hcap7⟩
      have hpl8 : ∀ a, rwP zz a → wr.heap.size ≤ a.block ∧ a.block < x8.heap.size := by
        rw [← hzz]
        intro a ha
        have s1 := hf78.size
        have s2 := hf.size
        have s3 := HI.out.2.2.2.1.size
        rcases ha with ha | ha
        · have h1 := HI.out.2.2.1 a ha; omega
        · have h1 := hnew7 a ha; have := H7.out.row.lt; omega
      have hdec : rwC.dec R = (zz.r, R8) := by
        rw [rw_dec3, HN0.out, HN1.out, HN2.out, HN3.out, HN4.out, HN5.out, HI.out.2.2.2.2.2.1, HI.out.2.2.2.2.2.2.1, hll, hR8, ← hzz]
      have hL8 := HH.out.1.call HQ.out.1 H8.out.rd H8.out.fr
      have k12 : x8.cell? ⟨w.heap.size, 12, none⟩ = some (.slice A k c) := (hL8.box.cell 12).trans (by show some (Value.slice A lk.length c) = _; rw [HH.out.2.1.len])
      have hrow8 := H8.out.row
      have HOW := Lib.hid (own_below (own_keep HH.out.2.1.own (fun j e => H8.out.fr.block j (own_lt HH.out.2.1.own e) (fun e2 => by have h1 := own_geC HH.out.2.1.own e; have h2 := HQ.out.1; have h3 : j = q := e2; omega))) ((Below.refl _ x8).alloc (Nat.le_refl _) (.cells (rwCells zz) 52)))
      have HST := Lib.hid (row_one (Blk.new x8 52 (rwCells zz)) (rowK.keep hok8 ((Below.refl _ x8).alloc (Nat.le_refl _) _)))
      have hsz8 := hL8.size
      have hk256 : k ≤ 256 := by omega
      have H9 := Lib.hid (And.intro hL8 (And.intro hok8 (And.intro hpl8 hdec)))
      clear h hf his hcap7 hnew7 hf78 hll hR8 hnl hh hrs hxy6 hok8 hpl8 hdec hL8 hzz
      go_wp2_with (first | (refine wpList_load_row' _ (by rfl) (by rfl) (by rfl) hrow8 ?_) | (at_builtin; refine wpList_append_st _ rowK_len (by decide) rowK_one rfl (.tmp 44) (.tmp 46) 26 rfl (w.heap.size + 2) 52 i_row _ 96 Try.underlying26 HIr.out.1 HIr.out.2.1 HIr.out.2.2.1 HIr.out.2.2.2 rfl (by omega) (.slice A k c) k (rowOf rowK lk) rfl HOW.out (some ⟨x8.heap.size, 0, none⟩) 1 1 [zz] rfl HST.out (by omega) (by rw [World.size_alloc]; omega) ?_; intro A9 c9 w9 hown9 hg9 hat9; have hf9 : Fr (fun j => (Value.slice A k c).ownBlock = some j) x8 w9 := ((Fr.refl _ x8).alloc _).grown hg9 (fun j e _ => e); have hL9 := H9.out.1.own HQ.out.2.1 hf9 (fun j e => own_geC HH.out.2.1.own e); have u12 : w9.cell? ⟨w.heap.size, 12, none⟩ = some (.slice A k c) := (hL9.box.cell 12).trans (by show some (Value.slice A lk.length c) = _; rw [HH.out.2.1.len]); have f12 := hL9.box.free 12; obtain ⟨w10, hw10⟩ : ∃ u, w9.setCell ⟨w.heap.size, 12, none⟩ (.slice A9 (k + 1) c9) = u := ⟨_, rfl⟩; have HA9 := Lib.hid (And.intro hown9 (And.intro hg9 (And.intro hat9 hL9))); clear hown9 hg9 hat9 hL9 hf9))
      have HW := Lib.hid hw10
      clear hw10
      go_roundg (N - (k + 1))
      case measure => omega
      case rel =>
        have h3 : Fr (fun j => j < w.heap.size + 2) w9 w10 := by rw [← HW.out]; exact (Fr.refl (fun j => j < w.heap.size + 2) w9).setCell _ _ (fun _ => by show w.heap.size < w.heap.size + 2; omega)
        have hlen : (lk ++ [zz]).length = k + 1 := by rw [List.length_append, HH.out.2.1.len]; rfl
        refine ⟨k + 1, A9, c9, lk ++ [zz], by omega, rfl, by go_num, ?_, ?_⟩
        · rw [Cd.many, HH.out.2.2.2.2.2, H9.out.2.2.2, ← HW.out]
          exact HA9.out.2.2.2.put HQ.out.2.1 12 _ (by rw [← hlen]; rfl)
        · exact HH.out.2.1.push zz row_fr (by rw [HH.out.2.2.2.2.2, H9.out.2.2.2]) H8.out.fr (fun j e => by have e : j = q := e; have := HQ.out.1; omega) HH.out.1.size H9.out.2.1 H9.out.2.2.1 HA9.out.1 HA9.out.2.1 HA9.out.2.2.1 h3
    · obtain rfl : k = N := by omega
      obtain ⟨R1, hR1⟩ : ∃ R, (Cd.many rwC (Cd.next r 256) k).2 = R := ⟨_, rfl⟩
      rw [hR1] at hL
      have hl1 : R1.b.length ≤ 140737488351232 := by rw [← hR1]; exact Nat.le_trans (Cd.many_le rwC (Cd.next r 256) k) (Nat.le_trans (Cd.try_le r _) HQ.out.2.2)
      obtain ⟨y1, hy1⟩ : ∃ y, Rb lk A c = y := ⟨_, rfl⟩
      rw [hy1] at hL
      have hN2 := Cd.one_bound R1 256 (by omega) (by omega)
      obtain ⟨N2, hNe2⟩ := Int.eq_ofNat_of_zero_le hN2.1
      have hN256b : N2 ≤ 256 := by rw [hNe2] at hN2; omega
      have HN2 := Lib.hid hNe2
      have HP := Lib.hid (And.intro hL (And.intro hO (And.intro hl1 (And.intro hR1 hy1))))
      clear hL hO hl1 hR1 hy1 hN2 hNe2
      go_wp2_with fail
      refine (fr_num q R1 F 256 wr HP.out.1.rd (by omega) HP.out.2.2.1).mono ?_
      rintro e v1 ⟨rfl, h1, h2⟩
      rw [HN2.out]
      have H1 := Lib.hid (show LbS w q F (Db y1 [] none 0) (Cd.next R1 256) v1 from by have g := HP.out.1.call HQ.out.1 h1 h2; rw [← HP.out.2.2.2.2] at g ⊢; exact g)
      have HP2 := Lib.hid h2
      clear h1 h2
      go_wp2_with fail
      go_loopg [8] N2 (fun gk s8 wr => ∃ (k : Nat) (A : Option Addr) (c : Nat) (ld : List D), k ≤ N2 ∧ gk = N2 - k ∧ s8 = .int .i64 k ∧ LbS w q F (Db y1 ld A c) (Cd.many dC (Cd.next R1 256) k).2 wr ∧ OwL dirtyK id dC 92 noP v1.heap.size (Cd.next R1 256) k A c ld wr ∧ Fr (fun j => j = q ∨ j = w.heap.size) v1 wr)
      case atStart => exact ⟨0, none, 0, [], by omega, by omega, rfl, H1.out, OwL.nil, Fr.refl _ _⟩
      case round =>
        obtain ⟨j, A2, c2, ld, hj, rfl, rfl, hL, hO, hFv⟩ := hrel
        by_cases hlt2 : j < N2
        · have hkn2 : (j : Int) < (N2 : Int) := by omega
          obtain ⟨R, hR⟩ : ∃ R, (Cd.many dC (Cd.next R1 256) j).2 = R := ⟨_, rfl⟩
          rw [hR] at hL
          have hlR : R.b.length ≤ 140737488351232 := by rw [← hR]; exact Nat.le_trans (Cd.many_le dC (Cd.next R1 256) j) (Nat.le_trans (Cd.try_le R1 _) HP.out.2.2.1)
          have HH := Lib.hid (And.intro hL (And.intro hO (And.intro hFv (And.intro hlR hR))))
          clear hL hO hFv hlR hR
          go_wp2_with fail
          refine (fr_num q R F 1099511627776 wr HH.out.1.rd (by omega) HH.out.2.2.2.1).mono ?_
          rintro e y5 ⟨rfl, h, hf⟩
          obtain ⟨pp, hpp⟩ : ∃ x, Cd.one R 1099511627776 = x := ⟨_, rfl⟩
          rw [hpp]
          obtain ⟨R5, hR5⟩ : ∃ x, Cd.next R 1099511627776 = x := ⟨_, rfl⟩
          rw [hR5] at h
          have hl5 : R5.b.length ≤ 140737488351232 := by rw [← hR5]; exact Nat.le_trans (Cd.try_le _ _) HH.out.2.2.2.1
          have hL5 := HH.out.1.call HQ.out.1 h hf
          have hO5 := HH.out.2.1.fr dirty_fr hf (fun i e _ => by have e : i = q := e; have := HQ.out.1; have := H1.out.size; omega)
          obtain ⟨cc, hcc⟩ : ∃ x, Cd.one R5 1099511627776 = x := ⟨_, rfl⟩
          have d13 : y5.cell? ⟨w.heap.size, 13, none⟩ = some (.slice A2 j c2) := (hL5.box.cell 13).trans (by show some (Value.slice A2 ld.length c2) = _; rw [hO5.len])
          have f13 := hL5.box.free 13
          have hnum := fr_num q R5 F 1099511627776 y5.drew (hL5.rd.below (Below.refl _ _).drew) (by omega) hl5
          rw [hcc] at hnum
          have hpb := Cd.one_bound R 1099511627776 (by omega) (by omega)
          have hcb := Cd.one_bound R5 1099511627776 (by omega) (by omega)
          rw [hpp] at hpb
          rw [hcc] at hcb
          have hszv := hL5.size
          have hv1s : v1.heap.size ≤ y5.heap.size := Nat.le_trans HH.out.2.2.1.size hf.size
          have HX := Lib.hid (And.intro hL5 (And.intro hO5 (And.intro hnum (And.intro hf (And.intro hpp (And.intro hR5 (And.intro hcc (And.intro hpb hcb))))))))
          clear hL5 hO5 hnum hf h hpp hR5 hcc hpb hcb hl5
          go_upto_region 20 with fail
          go_region_law (first
            | (refine step_call (by rfl) 48 #[.tmp 61, .const (.int .i64 1099511627776)] #[76, 3] (by rfl) #[.pointer (some ⟨q, 0, none⟩), .int .i64 1099511627776] (by simp [Act.eval, Act.put]) (enters Try.func48 (by kernel_rfl) rfl) (HX.out.2.2.1.mono ?_); rintro e6 w6 ⟨rfl, h6, hf6⟩; refine ⟨_, rfl, ?_⟩; have hf56 : Fr (fun i => i = q) y5 w6 := ((Fr.refl _ y5).drew 1).trans hf6 (fun _ _ e => e); have hL6 := HX.out.1.call HQ.out.1 h6 hf56; have d136 : w6.cell? ⟨w.heap.size, 13, none⟩ = some (.slice A2 j c2) := (hL6.box.cell 13).trans (by show some (Value.slice A2 ld.length c2) = _; rw [HX.out.2.1.len]); have d136a := (held_alloc (.cells #[.int .i64 pp, .int .i64 cc] 92) ⟨d136, hL6.box.free 13⟩).1; have H6 := Lib.hid (And.intro hL6 hf56); have HO6 := Lib.hid (own_below (own_keep HX.out.2.1.own (fun i e => hf56.block i (own_lt HX.out.2.1.own e) (fun e2 => by have h1 := own_geC HX.out.2.1.own e; have h2 := HQ.out.1; have h3 : i = q := e2; have := H1.out.size; omega))) ((Below.refl _ w6).alloc (Nat.le_refl _) (.cells #[.int .i64 pp, .int .i64 cc] 92))); have HST := Lib.hid (dirty_one (z := ⟨pp, cc⟩) (Blk.new w6 92 (dCells ⟨pp, cc⟩)) (show dirtyK.ok _ (⟨pp, cc⟩ : D) from ⟨⟨by have := HX.out.2.2.2.2.2.2.2.1; dsimp only; omega, by have := HX.out.2.2.2.2.2.2.2.1; dsimp only; omega⟩, ⟨by have := HX.out.2.2.2.2.2.2.2.2; dsimp only; omega, by have := HX.out.2.2.2.2.2.2.2.2; dsimp only; omega⟩⟩)); have hs6 : v1.heap.size ≤ w6.heap.size := Nat.le_trans hv1s hf56.size; clear h6 hf6 hL6 hf56)
            | (refine step_append_st _ dirtyK_len (by decide) dirtyK_one (by rfl) (.tmp 59) (.tmp 64) 27 (by rfl) v1.heap.size 92 i_dirty _ 16 Try.underlying27 HId.out.1 HId.out.2.1 HId.out.2.2.1 HId.out.2.2.2 rfl (by omega) (.slice A2 j c2) j (rowOf dirtyK ld) (by simp [Act.eval, Act.put]) HO6.out (some ⟨w6.heap.size, 0, none⟩) 1 1 [⟨pp, cc⟩] (by simp [Act.eval, Act.put]) HST.out (by omega) (by rw [World.size_alloc]; omega) ?_; intro A9 c9 w9 hown9 hg9 hat9; have hf9 : Fr (fun i => (Value.slice A2 j c2).ownBlock = some i) w6 w9 := ((Fr.refl _ w6).alloc _).grown hg9 (fun i e _ => e); have hL9 := H6.out.1.own HQ.out.2.1 hf9 (fun i e => Nat.le_trans H1.out.size (own_geC HX.out.2.1.own e)); have u13 : w9.cell? ⟨w.heap.size, 13, none⟩ = some (.slice A2 j c2) := (hL9.box.cell 13).trans (by show some (Value.slice A2 ld.length c2) = _; rw [HX.out.2.1.len]); have g13 := hL9.box.free 13; have HA9 := Lib.hid (And.intro hown9 (And.intro hg9 (And.intro hat9 (And.intro hL9 hf9)))); clear hown9 hg9 hat9 hL9 hf9))
          all_goals
            go_wp2
            go_roundg (N2 - (j + 1))
            case measure => omega
            case rel =>
              have h3 : Fr (fun i => i < v1.heap.size) w9 (w9.setCell ⟨w.heap.size, 13, none⟩ (.slice A9 (j + 1) c9)) := (Fr.refl (fun i => i < v1.heap.size) w9).setCell _ _ (fun _ => by show w.heap.size < v1.heap.size; have := H1.out.size; omega)
              have hlen : (ld ++ [(⟨pp, cc⟩ : D)]).length = j + 1 := by rw [List.length_append, HX.out.2.1.len]; rfl
              have hdec : dC.dec (Cd.many dC (Cd.next R1 256) j).2 = (⟨pp, cc⟩, Cd.next R5 1099511627776) := by rw [HH.out.2.2.2.2]; show ((⟨Cd.one R 1099511627776, Cd.one (Cd.next R 1099511627776) 1099511627776⟩ : D), Cd.next (Cd.next R 1099511627776) 1099511627776) = _; rw [HX.out.2.2.2.2.1, HX.out.2.2.2.2.2.1, HX.out.2.2.2.2.2.2.1]
              refine ⟨j + 1, A9, c9, ld ++ [⟨pp, cc⟩], by omega, rfl, by go_num, ?_, ?_, ?_⟩
              · rw [Cd.many, hdec]
                exact HA9.out.2.2.2.1.put HQ.out.2.1 13 _ (by rw [← hlen]; rfl)
              · exact HX.out.2.1.push ⟨pp, cc⟩ dirty_fr (by rw [hdec]; rfl) H6.out.2 (fun i e => by have e : i = q := e; have := HQ.out.1; have := H1.out.size; omega) hv1s (show dirtyK.ok _ (⟨pp, cc⟩ : D) from ⟨⟨by have := HX.out.2.2.2.2.2.2.2.1; dsimp only; omega, by have := HX.out.2.2.2.2.2.2.2.1; dsimp only; omega⟩, ⟨by have := HX.out.2.2.2.2.2.2.2.2; dsimp only; omega, by have := HX.out.2.2.2.2.2.2.2.2; dsimp only; omega⟩⟩) (fun a ha => ha.elim) HA9.out.1 HA9.out.2.1 HA9.out.2.2.1 h3
              · exact (((HH.out.2.2.1.trans HX.out.2.2.2.1 (fun _ _ e => .inl e)).trans H6.out.2 (fun _ _ e => .inl e)).trans HA9.out.2.2.2.2 (fun i hi e => by have := own_geC HX.out.2.1.own e; omega)).setCell _ _ (fun _ => .inr rfl)
        · obtain rfl : j = N2 := by omega
          obtain ⟨R2, hR2⟩ : ∃ R, (Cd.many dC (Cd.next R1 256) j).2 = R := ⟨_, rfl⟩
          rw [hR2] at hL
          have hl2 : R2.b.length ≤ 140737488351232 := by rw [← hR2]; exact Nat.le_trans (Cd.many_le dC (Cd.next R1 256) j) (Nat.le_trans (Cd.try_le R1 _) HP.out.2.2.1)
          obtain ⟨y2, hy2⟩ : ∃ y, Db y1 ld A2 c2 = y := ⟨_, rfl⟩
          rw [hy2] at hL
          have hN3 := Cd.one_bound R2 256 (by omega) (by omega)
          obtain ⟨N3, hNe3⟩ := Int.eq_ofNat_of_zero_le hN3.1
          have hN256c : N3 ≤ 256 := by rw [hNe3] at hN3; omega
          have HN3 := Lib.hid hNe3
          have HP3 := Lib.hid (And.intro hL (And.intro hO (And.intro hl2 (And.intro hR2 (And.intro hy2 hFv)))))
          clear hL hO hl2 hR2 hy2 hN3 hNe3 hFv
          go_wp2_with fail
          refine (fr_num q R2 F 256 wr HP3.out.1.rd (by omega) HP3.out.2.2.1).mono ?_
          rintro e v2 ⟨rfl, h1, h2⟩
          rw [HN3.out]
          have H2 := Lib.hid (show LbS w q F (Eb y2 [] none 0) (Cd.next R2 256) v2 from by have g := HP3.out.1.call HQ.out.1 h1 h2; rw [← HP3.out.2.2.2.2.1, ← HP.out.2.2.2.2] at g ⊢; exact g)
          have HP4 := Lib.hid h2
          clear h1 h2
          go_wp2_with fail
          go_loopg [10] N3 (fun gk s8 wr => ∃ (k : Nat) (A : Option Addr) (c : Nat) (le : List DeD), k ≤ N3 ∧ gk = N3 - k ∧ s8 = .int .i64 k ∧ LbS w q F (Eb y2 le A c) (Cd.many deC (Cd.next R2 256) k).2 wr ∧ OwL deedK DeD.d deC 54 deP v2.heap.size (Cd.next R2 256) k A c le wr ∧ Fr (fun j => j = q ∨ j = w.heap.size) v2 wr)
          case atStart => exact ⟨0, none, 0, [], by omega, by omega, rfl, H2.out, OwL.nil, Fr.refl _ _⟩
          case round =>
            obtain ⟨i, A3, c3, le, hi, rfl, rfl, hL, hO, hFv⟩ := hrel
            by_cases hlt3 : i < N3
            · have hkn3 : (i : Int) < (N3 : Int) := by omega
              obtain ⟨R, hR⟩ : ∃ R, (Cd.many deC (Cd.next R2 256) i).2 = R := ⟨_, rfl⟩
              rw [hR] at hL
              have hlR : R.b.length ≤ 140737488351232 := by rw [← hR]; exact Nat.le_trans (Cd.many_le deC (Cd.next R2 256) i) (Nat.le_trans (Cd.try_le R2 _) HP3.out.2.2.1)
              have HH := Lib.hid (And.intro hL (And.intro hO (And.intro hFv (And.intro hlR hR))))
              clear hL hO hFv hlR hR
              go_wp2_with fail
              refine (fr_num q R F 1099511627776 wr HH.out.1.rd (by omega) HH.out.2.2.2.1).mono ?_
              rintro e y5 ⟨rfl, h, hf⟩
              obtain ⟨tt, htt⟩ : ∃ x, Cd.one R 1099511627776 = x := ⟨_, rfl⟩
              rw [htt]
              obtain ⟨R5, hR5⟩ : ∃ x, Cd.next R 1099511627776 = x := ⟨_, rfl⟩
              rw [hR5] at h
              have hl5 : R5.b.length ≤ 140737488351232 := by rw [← hR5]; exact Nat.le_trans (Cd.try_le _ _) HH.out.2.2.2.1
              have hL5 := HH.out.1.call HQ.out.1 h hf
              have hO5 := HH.out.2.1.fr deed_fr hf (fun j e _ => by have e : j = q := e; have := HQ.out.1; have := H2.out.size; omega)
              have d14 : y5.cell? ⟨w.heap.size, 14, none⟩ = some (.slice A3 i c3) := (hL5.box.cell 14).trans (by show some (Value.slice A3 le.length c3) = _; rw [hO5.len])
              have f14 := hL5.box.free 14
              have hnum : Calls Try.prog 52 #[.pointer (some ⟨q, 0, none⟩)] y5.drew fun e w' => ∃ (A : Option Addr) (c : Nat), e = .returned (.slice A (iC.dec R5).1.length c) ∧ RfAt w' q (iC.dec R5).2 F ∧ Fr (fun k => k = q) y5.drew w' ∧ IS w' A (iC.dec R5).1.length (iC.dec R5).1 ∧ ((iC.dec R5).1.length ≤ c ∧ c ≤ 9223372036854775807) ∧ (∀ a, A = some a → y5.drew.heap.size ≤ a.block ∧ a.block < w'.heap.size) := (frints_any q R5 F y5.drew (hL5.rd.below (Below.refl _ _).drew) hl5).mono (fun e w' h => rl_ints h)
              obtain ⟨lm, hlm⟩ : ∃ l, (iC.dec R5).1 = l := ⟨_, rfl⟩
              obtain ⟨R6, hR6⟩ : ∃ x, (iC.dec R5).2 = x := ⟨_, rfl⟩
              rw [hlm, hR6] at hnum
              obtain ⟨nm, hnm⟩ : ∃ n, lm.length = n := ⟨_, rfl⟩
              rw [hnm] at hnum
              have hszv := hL5.size
              have hv1s : v2.heap.size ≤ y5.heap.size := Nat.le_trans HH.out.2.2.1.size hf.size
              have HX := Lib.hid (And.intro hL5 (And.intro hO5 (And.intro hnum (And.intro hf (And.intro htt (And.intro hR5 (And.intro hlm (And.intro hR6 hnm))))))))
              clear hL5 hO5 hnum hf h htt hR5 hlm hR6 hnm hl5
              go_upto_region 26 with fail
              go_region_law (first
                | (refine step_call (by rfl) 52 #[.tmp 79] #[76] (by rfl) #[.pointer (some ⟨q, 0, none⟩)] (by simp [Act.eval, Act.put]) (enters Try.func52 (by kernel_rfl) rfl) (HX.out.2.2.1.mono ?_); rintro e6 w6 ⟨B6, d6, rfl, h6, hf6, his, hcap6, hnew6⟩; refine ⟨_, rfl, ?_⟩; have hf56 : Fr (fun j => j = q) y5 w6 := ((Fr.refl _ y5).drew 1).trans hf6 (fun _ _ e => e); have hL6 := HX.out.1.call HQ.out.1 h6 hf56; have d146 : w6.cell? ⟨w.heap.size, 14, none⟩ = some (.slice A3 i c3) := (hL6.box.cell 14).trans (by show some (Value.slice A3 le.length c3) = _; rw [HX.out.2.1.len]); have d146a := (held_alloc (.cells #[.int .i64 tt, .slice B6 nm d6] 54) ⟨d146, hL6.box.free 14⟩).1; have H6 := Lib.hid (And.intro hL6 hf56); have HO6 := Lib.hid (own_below (own_keep HX.out.2.1.own (fun j e => hf56.block j (own_lt HX.out.2.1.own e) (fun e2 => by have h1 := own_geC HX.out.2.1.own e; have h2 := HQ.out.1; have h3 : j = q := e2; have := H2.out.size; omega))) ((Below.refl _ w6).alloc (Nat.le_refl _) (.cells #[.int .i64 tt, .slice B6 nm d6] 54))); obtain ⟨zz, hzz⟩ : ∃ z, (⟨⟨tt, lm⟩, B6, d6⟩ : DeD) = z := ⟨_, rfl⟩; have hok6 : DeedOk w6 zz := (by rw [← hzz]; exact ⟨by have g := his; rw [← HX.out.2.2.2.2.2.2.2.2] at g; exact g, by have g := hcap6; rw [← HX.out.2.2.2.2.2.2.2.2] at g; exact g⟩); have hbl : Blk (w6.alloc (.cells #[.int .i64 tt, .slice B6 nm d6] 54)) w6.heap.size 54 (deCells zz) := (by rw [← hzz]; have g := Blk.new w6 54 (deCells ⟨⟨tt, lm⟩, B6, d6⟩); rw [show deCells ⟨⟨tt, lm⟩, B6, d6⟩ = #[.int .i64 tt, .slice B6 nm d6] by rw [← HX.out.2.2.2.2.2.2.2.2]] at g ⊢; exact g); have HST := Lib.hid (deed_one hbl (deedK.keep hok6 ((Below.refl _ w6).alloc (Nat.le_refl _) _))); have HZ := Lib.hid (And.intro hzz (And.intro hok6 (show ∀ a, deP zz a → y5.heap.size ≤ a.block ∧ a.block < w6.heap.size by rw [← hzz]; exact fun a ha => hnew6 a ha))); have hs6 : v2.heap.size ≤ w6.heap.size := Nat.le_trans hv1s hf56.size; clear h6 hf6 hL6 hf56 his hcap6 hnew6 hok6 hbl hzz)
                | (refine step_append_st _ deedK_len (by decide) deedK_one (by rfl) (.tmp 77) (.tmp 82) 28 (by rfl) v2.heap.size 54 i_deed _ 32 Try.underlying28 HIe.out.1 HIe.out.2.1 HIe.out.2.2.1 HIe.out.2.2.2 rfl (by omega) (.slice A3 i c3) i (rowOf deedK le) (by simp [Act.eval, Act.put]) HO6.out (some ⟨w6.heap.size, 0, none⟩) 1 1 [zz] (by simp [Act.eval, Act.put]) HST.out (by omega) (by rw [World.size_alloc]; omega) ?_; intro A9 c9 w9 hown9 hg9 hat9; have hf9 : Fr (fun j => (Value.slice A3 i c3).ownBlock = some j) w6 w9 := ((Fr.refl _ w6).alloc _).grown hg9 (fun j e _ => e); have hL9 := H6.out.1.own HQ.out.2.1 hf9 (fun j e => Nat.le_trans H2.out.size (own_geC HX.out.2.1.own e)); have u14 : w9.cell? ⟨w.heap.size, 14, none⟩ = some (.slice A3 i c3) := (hL9.box.cell 14).trans (by show some (Value.slice A3 le.length c3) = _; rw [HX.out.2.1.len]); have g14 := hL9.box.free 14; have HA9 := Lib.hid (And.intro hown9 (And.intro hg9 (And.intro hat9 (And.intro hL9 hf9)))); clear hown9 hg9 hat9 hL9 hf9))
              all_goals
                go_wp2
                go_roundg (N3 - (i + 1))
                case measure => omega
                case rel =>
                  have h3 : Fr (fun j => j < v2.heap.size) w9 (w9.setCell ⟨w.heap.size, 14, none⟩ (.slice A9 (i + 1) c9)) := (Fr.refl (fun j => j < v2.heap.size) w9).setCell _ _ (fun _ => by show w.heap.size < v2.heap.size; have := H2.out.size; omega)
                  have hlen : (le ++ [zz]).length = i + 1 := by rw [List.length_append, HX.out.2.1.len]; rfl
                  have hdec : deC.dec (Cd.many deC (Cd.next R2 256) i).2 = (zz.d, R6) := by rw [HH.out.2.2.2.2, ← HZ.out.1]; show ((⟨Cd.one R 1099511627776, (iC.dec (Cd.next R 1099511627776)).1⟩ : De), (iC.dec (Cd.next R 1099511627776)).2) = _; rw [HX.out.2.2.2.2.1, HX.out.2.2.2.2.2.1, HX.out.2.2.2.2.2.2.1, HX.out.2.2.2.2.2.2.2.1]
                  refine ⟨i + 1, A9, c9, le ++ [zz], by omega, rfl, by go_num, ?_, ?_, ?_⟩
                  · rw [Cd.many, hdec]
                    exact HA9.out.2.2.2.1.put HQ.out.2.1 14 _ (by rw [← hlen]; rfl)
                  · exact HX.out.2.1.push zz deed_fr (by rw [hdec]) H6.out.2 (fun j e => by have e : j = q := e; have := HQ.out.1; have := H2.out.size; omega) hv1s HZ.out.2.1 HZ.out.2.2 HA9.out.1 HA9.out.2.1 HA9.out.2.2.1 h3
                  · exact (((HH.out.2.2.1.trans HX.out.2.2.2.1 (fun _ _ e => .inl e)).trans H6.out.2 (fun _ _ e => .inl e)).trans HA9.out.2.2.2.2 (fun j hj e => by have := own_geC HX.out.2.1.own e; omega)).setCell _ _ (fun _ => .inr rfl)
            · obtain rfl : i = N3 := by omega
              obtain ⟨R3, hR3⟩ : ∃ R, (Cd.many deC (Cd.next R2 256) i).2 = R := ⟨_, rfl⟩
              rw [hR3] at hL
              have hl3 : R3.b.length ≤ 140737488351232 := by rw [← hR3]; exact Nat.le_trans (Cd.many_le deC (Cd.next R2 256) i) (Nat.le_trans (Cd.try_le R2 _) HP3.out.2.2.1)
              have HP5 := Lib.hid (And.intro hL (And.intro hO (And.intro hl3 (And.intro hR3 hFv))))
              clear hL hO hl3 hR3 hFv
              go_wp2_with fail
              refine (frints_any q R3 F wr HP5.out.1.rd HP5.out.2.2.1).mono ?_
              intro e v3 hh
              obtain ⟨A4, c4, he, h, hf, his, hcap4, hnew4⟩ := rl_ints hh
              subst he
              obtain ⟨lp, hlp⟩ : ∃ l, (iC.dec R3).1 = l := ⟨_, rfl⟩
              obtain ⟨R4, hR4⟩ : ∃ x, (iC.dec R3).2 = x := ⟨_, rfl⟩
              rw [hlp] at his hcap4 ⊢
              rw [hR4] at h
              obtain ⟨np, hnp⟩ : ∃ n, lp.length = n := ⟨_, rfl⟩
              rw [hnp]
              have hL4 := HP5.out.1.call HQ.out.1 h hf
              have u15 : v3.cell? ⟨w.heap.size, 15, none⟩ = some (.slice none 0 0) := (hL4.box.cell 15).trans (by rw [← HP3.out.2.2.2.2.1, ← HP.out.2.2.2.2]; rfl)
              have f15 := hL4.box.free 15
              obtain ⟨v4, hv4⟩ : ∃ u, v3.setCell ⟨w.heap.size, 15, none⟩ (.slice A4 np c4) = u := ⟨_, rfl⟩
              obtain ⟨y4, hy4⟩ : ∃ y, ({ Eb y2 le A3 c3 with past := lp, pA := A4, pc := c4 } : MD) = y := ⟨_, rfl⟩
              have hL5 : LbS w q F y4 R4 v4 := by rw [← hv4, ← hy4]; exact hL4.put HQ.out.2.1 15 _ (by rw [← hnp]; rfl)
              have hf34 : Fr (fun j => j < w.heap.size + 2) v3 v4 := by rw [← hv4]; exact (Fr.refl (fun j => j < w.heap.size + 2) v3).setCell _ _ (fun _ => by show w.heap.size < w.heap.size + 2; omega)
              have hbox := hL5.box
              have hres := hL5.res
              have HE := Lib.hid (And.intro hL5 (And.intro hf34 (And.intro hf (And.intro his (And.intro hcap4 (And.intro hnew4 (And.intro hlp (And.intro hR4 (And.intro hnp hy4)))))))))
              clear hL4 hL5 hf34 hf h his hcap4 hnew4 hlp hR4 hnp hy4 hh
              go_wp2_with (first | (refine wpList_load_rec' _ (by rfl) (by rfl) (by rfl) hbox ?_) | (refine wpList_store_rec y4 (by rfl) _ _ (by rfl) (by rfl) (by rfl) hres (by rfl) ?_; intro v5 hB5 hF5 hS5; have H9 := Lib.hid (And.intro hB5 (And.intro hF5 hS5)); clear hB5 hF5 hS5))
              refine bodyPost_ret (rls_results H9.out.1 rfl) rfl ⟨y4, rfl, ?_⟩
              obtain ⟨hL5, hf34, hf, his, hcap4, hnew4, hlp, hR4, hnp, hy4⟩ := HE.out
              obtain ⟨_, hOd, _, hR3, hFc⟩ := HP5.out
              obtain ⟨_, hOc, _, hR2, hy2, hFb⟩ := HP3.out
              obtain ⟨_, hOb, _, hR1, hy1⟩ := HP.out
              have hqw := HQ.out.1
              have g45 : Fr (fun j => j < w.heap.size + 2) v4 v5 := H9.out.2.1.mono (fun j _ e => by have e : j = w.heap.size + 1 := e; omega)
              have g35 : Fr (fun j => j < w.heap.size + 2) v3 v5 := fr_t hf34 g45
              have gc5 : Fr (fun j => j < w.heap.size + 2) wr v5 := fr_t (hf.mono (fun j _ e => by have e : j = q := e; omega)) g35
              have g25 : Fr (fun j => j < w.heap.size + 2) v2 v5 := fr_t (hFc.mono (fun j _ e => by rcases e with e | e <;> omega)) gc5
              have gb5 := fr_t (HP4.out.mono (G := fun j => j < w.heap.size + 2) (fun j _ e => by have e : j = q := e; omega)) g25
              have g15 := fr_t (hFb.mono (G := fun j => j < w.heap.size + 2) (fun j _ e => by rcases e with e | e <;> omega)) gb5
              have ga5 := fr_t (HP2.out.mono (G := fun j => j < w.heap.size + 2) (fun j _ e => by have e : j = q := e; omega)) g15
              have kb := hOb.fr row_fr ga5 (fun j e _ => e)
              have s1 := H1.out.size
              have s2 := H2.out.size
              have kc := hOc.fr dirty_fr gb5 (fun j e _ => by have e : j < w.heap.size + 2 := e; omega)
              have kd := hOd.fr deed_fr gc5 (fun j e _ => by have e : j < w.heap.size + 2 := e; omega)
              have kp : IS v5 A4 lp.length lp := IS.fr his g35 (fun a e g => by have h1 := hnew4 a e; have h2 : a.block < w.heap.size + 2 := g; have := HP5.out.1.size; omega)
              have e1 : rwsC.dec r = (lk.map RwD.r, R1) := by
                rw [rwsC_dec, HN.out, Int.toNat_natCast]
                exact Prod.ext hOb.map.symm hR1
              have e2 : dsC.dec R1 = (ld, R2) := by
                rw [dsC_dec, HN2.out, Int.toNat_natCast]
                refine Prod.ext ?_ hR2
                have g := hOc.map
                rw [List.map_id] at g
                exact g.symm
              have e3 : desC.dec R2 = (le.map DeD.d, R3) := by
                rw [desC_dec, HN3.out, Int.toNat_natCast]
                exact Prod.ext hOd.map.symm hR3
              have e4 : iC.dec R3 = (lp, R4) := Prod.ext hlp hR4
              rw [chk_dec, e1]
              dsimp only
              rw [e2]
              dsimp only
              rw [e3]
              dsimp only
              rw [e4]
              subst hy1
              subst hy2
              subst hy4
              refine ⟨rfl, hL5.rd.fr H9.out.2.1 (fun j hj e => by have e : j = w.heap.size + 1 := e; have := HQ.out.2.1 j hj; omega), hL5.fr.trans H9.out.2.1 (fun j hj e => by have e : j = w.heap.size + 1 := e; omega), ?_, ?_⟩
              · exact ⟨IS.empty _ _, ⟨Nat.le_refl _, Nat.zero_le _⟩, ⟨rfl, fun x hx => absurd hx (by simp [Eb, Db, Rb, MD.k0]), fun h => absurd h (Nat.lt_irrefl 0)⟩, ⟨Nat.le_refl _, Nat.zero_le _⟩, by show ST rowK v5 A lk.length lk; rw [kb.len]; exact ST.of_own rowK_len (by decide) kb.own kb.ok, by show lk.length ≤ c ∧ _; rw [kb.len]; exact own_capI kb.own,
                  by show ST dirtyK v5 A2 ld.length ld; rw [kc.len]; exact ST.of_own dirtyK_len (by decide) kc.own kc.ok, by show ld.length ≤ c2 ∧ _; rw [kc.len]; exact own_capI kc.own, by show ST deedK v5 A3 le.length le; rw [kd.len]; exact ST.of_own deedK_len (by decide) kd.own kd.ok, by show le.length ≤ c3 ∧ _; rw [kd.len]; exact own_capI kd.own, kp, hcap4⟩
              · refine ⟨fun a e => (by cases e), fun a e => (by cases e), fun a e => ?_, fun a e => ?_, fun a e => ?_, fun a e => ?_, fun x hx => ⟨fun a e => ?_, fun a e => ?_⟩, fun x hx a e => ?_⟩
                · have e : A = some a := e
                  have := own_geC kb.own (k := a.block) (by rw [e]; rfl)
                  omega
                · have e : A2 = some a := e
                  have := own_geC kc.own (k := a.block) (by rw [e]; rfl)
                  omega
                · have e : A3 = some a := e
                  have := own_geC kd.own (k := a.block) (by rw [e]; rfl)
                  omega
                · have := hnew4 a e
                  have := HP5.out.1.size
                  omega
                · have := kb.ap x hx a (.inl e)
                  omega
                · have := kb.ap x hx a (.inr e)
                  omega
                · have := kd.ap x hx a e
                  omega
end Go.Proofs.Ytlijfnekopjogaa
