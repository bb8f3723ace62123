/- Sheets as plain data: how bodies are laid, how they are found; there and back. -/
import Derived.Test.YtlpdjpkdgagjpaaDoorSealMath2
namespace Go.Proofs.YtlpdjpkdgagjpaaDoor.Sh
open Go.Proofs.YtlpdjpkdgagjpaaDoor
set_option linter.unusedVariables false
set_option linter.unusedSimpArgs false

/-- a finder: what it found, what is under way, where that begins -/
structure F where
  out : List (List UInt8 × Nat)
  way : List UInt8
  frm : Nat
  under : Bool
def goesOn (f : F) (head : List UInt8) : F × Bool :=
  if f.under = false then (f, true)
  else if (Sl.openB (f.way ++ head)).2.2 = 10 then (⟨f.out, f.way ++ head, f.frm, true⟩, true)
  else if (Sl.openB (f.way ++ head)).2.2 ≠ 0 ∨ (Sl.openB (f.way ++ head)).2.1 ≠ (f.way ++ head).length then (⟨f.out, f.way ++ head, f.frm, true⟩, false)
  else (⟨f.out ++ [((Sl.openB (f.way ++ head)).1, f.frm)], f.way ++ head, f.frm, false⟩, true)
def opens : Nat → F → List UInt8 → Nat → F × Bool
  | 0, f, _, _ => (f, true)
  | k + 1, f, rest, i =>
    if rest = [] then (f, true)
    else if (Sl.openB rest).2.2 = 0 then opens k ⟨f.out ++ [((Sl.openB rest).1, i)], f.way, f.frm, f.under⟩ (rest.drop (Sl.openB rest).2.1) i
    else if (Sl.openB rest).2.2 = 10 then (⟨f.out, rest, i, true⟩, true)
    else (f, false)
def begins (f : F) (rest : List UInt8) (i : Nat) : F × Bool := opens rest.length ⟨f.out, f.way, f.frm, false⟩ rest i
def isF (first : Int) (n : Nat) : Bool := decide (0 ≤ first) && decide (first ≤ n)
def cutAt (first : Int) (n : Nat) : Nat := if isF first n = true then first.toNat else n
def step (f : F) (x : Int × List UInt8) (i : Nat) : F × Bool :=
  if (goesOn f (x.2.take (cutAt x.1 x.2.length))).2 = false then ((goesOn f (x.2.take (cutAt x.1 x.2.length))).1, false)
  else if isF x.1 x.2.length = true then begins (goesOn f (x.2.take (cutAt x.1 x.2.length))).1 (x.2.drop (cutAt x.1 x.2.length)) i
  else ((goesOn f (x.2.take (cutAt x.1 x.2.length))).1, true)
def find (f : F) : List (Int × List UInt8) → Nat → F × Bool
  | [], _ => (f, true)
  | x :: l, i => if (step f x i).2 = true then find (step f x i).1 l (i + 1) else ((step f x i).1, false)
theorem find_append (a b : List (Int × List UInt8)) : ∀ (f : F) (i : Nat), find f (a ++ b) i = if (find f a i).2 = true then find (find f a i).1 b (i + a.length) else find f a i := by
  induction a with
  | nil => intro f i; simp [find]
  | cons x a ih =>
    intro f i
    rw [List.cons_append, find, find]
    by_cases h : (step f x i).2 = true
    · rw [if_pos h, if_pos h, ih, List.length_cons]
      rw [show i + 1 + a.length = i + (a.length + 1) by omega]
    · rw [if_neg h, if_neg h, if_neg (by simp)]
def flat (bs : List (List UInt8)) : List UInt8 := bs.flatMap Sl.sealB
theorem flat_nil : flat [] = [] := rfl
theorem flat_cons (b : List UInt8) (bs : List (List UInt8)) : flat (b :: bs) = Sl.sealB b ++ flat bs := by simp [flat]
theorem flat_append (a b : List (List UInt8)) : flat (a ++ b) = flat a ++ flat b := by simp [flat]
def starts : List (List UInt8) → Nat → List Nat
  | [], _ => []
  | b :: bs, t => t :: starts bs (t + (Sl.sealB b).length)
theorem starts_append (a b : List (List UInt8)) : ∀ t, starts (a ++ b) t = starts a t ++ starts b (t + (flat a).length) := by
  induction a with
  | nil => intro t; simp [starts, flat_nil]
  | cons x a ih =>
    intro t
    rw [List.cons_append, starts, starts, ih, flat_cons, List.length_append, List.cons_append]
    rw [show t + (Sl.sealB x).length + (flat a).length = t + ((Sl.sealB x).length + (flat a).length) by omega]
theorem starts_ge (bs : List (List UInt8)) : ∀ t, ∀ s ∈ starts bs t, t ≤ s := by
  induction bs with
  | nil => intro t s hs; cases hs
  | cons b bs ih =>
    intro t s hs
    rw [starts, List.mem_cons] at hs
    rcases hs with rfl | hs
    · omega
    · have := ih _ _ hs; omega
theorem starts_shift (bs : List (List UInt8)) : ∀ t d, ∀ s ∈ starts bs (t + d), ∃ s', s = s' + d ∧ s' ∈ starts bs t := by
  induction bs with
  | nil => intro t d s hs; cases hs
  | cons b bs ih =>
    intro t d s hs
    rw [starts, List.mem_cons] at hs
    rcases hs with rfl | hs
    · exact ⟨t, rfl, by rw [starts]; exact List.mem_cons_self ..⟩
    · rw [show t + d + (Sl.sealB b).length = t + (Sl.sealB b).length + d by omega] at hs
      obtain ⟨s', e, h⟩ := ih _ _ _ hs
      exact ⟨s', e, by rw [starts]; exact List.mem_cons_of_mem _ h⟩
theorem seal_pos (b : List UInt8) : 0 < (Sl.sealB b).length := by
  rw [Sl.sealB_length]; omega
/-- where a sheet's first body begins -/
def firstAt (ss : List Nat) (T : Nat) : Int := match ss.find? (fun s => decide (T ≤ s) && decide (s < T + 242)) with
  | some s => ((s - T : Nat) : Int)
  | none => 255
theorem firstAt_nil (T : Nat) : firstAt [] T = 255 := rfl
theorem firstAt_cons (s : Nat) (ss : List Nat) (T : Nat) : firstAt (s :: ss) T = if T ≤ s ∧ s < T + 242 then ((s - T : Nat) : Int) else firstAt ss T := by
  unfold firstAt
  rw [List.find?_cons]
  by_cases h : T ≤ s ∧ s < T + 242
  · rw [if_pos h]
    simp [h.1, h.2]
  · rw [if_neg h]
    have : (decide (T ≤ s) && decide (s < T + 242)) = false := by
      rw [Bool.and_eq_false_iff, decide_eq_false_iff_not, decide_eq_false_iff_not]
      omega
    rw [this]
theorem firstAt_skip (D ss : List Nat) (T : Nat) (h : ∀ s ∈ D, s < T) : firstAt (D ++ ss) T = firstAt ss T := by
  induction D with
  | nil => rfl
  | cons d D ih =>
    rw [List.cons_append, firstAt_cons, if_neg (by have := h d (List.mem_cons_self ..); omega)]
    exact ih fun s hs => h s (List.mem_cons_of_mem _ hs)
theorem firstAt_late (ss : List Nat) (T : Nat) (h : ∀ s ∈ ss, T + 242 ≤ s) : firstAt ss T = 255 := by
  induction ss with
  | nil => rfl
  | cons d D ih =>
    rw [firstAt_cons, if_neg (by have := h d (List.mem_cons_self ..); omega)]
    exact ih fun s hs => h s (List.mem_cons_of_mem _ hs)
theorem firstAt_starts (bs : List (List UInt8)) (T p : Nat) : firstAt (starts bs (T + p)) T = if p < 242 ∧ bs ≠ [] then (p : Int) else 255 := by
  cases bs with
  | nil => rw [starts, firstAt_nil, if_neg (by simp)]
  | cons b bs =>
    by_cases h : p < 242
    · rw [starts, firstAt_cons, if_pos (by omega), if_pos ⟨h, by simp⟩]
      congr 1; omega
    · rw [if_neg (by omega)]
      refine firstAt_late _ _ fun s hs => ?_
      have := starts_ge _ _ _ hs
      omega
/-- what is under way, and what of it is still to come -/
def St (f : F) (cur : List (List UInt8)) (pend : List UInt8) : Prop :=
  f.under = false ∧ cur = [] ∧ pend = [] ∨ f.under = true ∧ ∃ b, cur = [b] ∧ b.length ≤ 4096 ∧ f.way ++ pend = Sl.sealB b ∧ f.way ≠ [] ∧ pend ≠ []
/-- nothing is under way, or what never comes to its end -/
def St0 (f : F) : Prop := f.under = false ∨ ∃ b j, b.length ≤ 4096 ∧ j < (Sl.sealB b).length ∧ f.way = (Sl.sealB b).take j
theorem St.st0 {f : F} {cur : List (List UInt8)} {pend : List UInt8} (h : St f cur pend) : St0 f := by
  rcases h with ⟨h, _⟩ | ⟨_, b, _, hb, hw, _, hp⟩
  · exact .inl h
  · refine .inr ⟨b, f.way.length, hb, ?_, ?_⟩
    · rw [← hw, List.length_append]
      have := List.length_pos_iff.mpr hp
      omega
    · rw [← hw, List.take_left]
theorem opens_nil (fuel : Nat) (f : F) (i : Nat) : opens fuel f [] i = (f, true) := by
  cases fuel with
  | zero => rfl
  | succ k => rw [opens, if_pos rfl]
theorem opens_flat (bs : List (List UInt8)) : ∀ (k fuel : Nat) (f : F) (i : Nat), (∀ b ∈ bs, b.length ≤ 4096) → k ≤ (flat bs).length → k ≤ fuel → f.under = false →
    ∃ done cur bs' pend f', opens fuel f ((flat bs).take k) i = (f', true) ∧ bs = done ++ cur ++ bs' ∧ (flat bs).drop k = pend ++ flat bs' ∧ f'.out.map Prod.fst = f.out.map Prod.fst ++ done ∧ St f' cur pend ∧ ∀ t, ∀ s ∈ starts (done ++ cur) t, s < t + k := by
  induction bs with
  | nil =>
    intro k fuel f i _ hk _ hu
    rw [flat_nil, List.length_nil] at hk
    obtain rfl : k = 0 := by omega
    exact ⟨[], [], [], [], f, by rw [flat_nil, List.take_nil]; exact opens_nil .., rfl, rfl, by simp, .inl ⟨hu, rfl, rfl⟩, fun t s hs => by cases hs⟩
  | cons b bs ih =>
    intro k fuel f i hb hk hf hu
    by_cases h0 : k = 0
    · subst h0
      exact ⟨[], [], b :: bs, [], f, by rw [List.take_zero]; exact opens_nil .., rfl, by simp, by simp, .inl ⟨hu, rfl, rfl⟩, fun t s hs => by cases hs⟩
    · have hp := seal_pos b
      have hb4 := hb b (List.mem_cons_self ..)
      obtain ⟨fuel, rfl⟩ : ∃ n, fuel = n + 1 := ⟨fuel - 1, by omega⟩
      rw [flat_cons] at hk ⊢
      rw [List.length_append] at hk
      by_cases hlt : k < (Sl.sealB b).length
      · have e : (Sl.sealB b ++ flat bs).take k = (Sl.sealB b).take k := List.take_append_of_le_length (by omega)
        have hne : (Sl.sealB b).take k ≠ [] := by
          intro h
          have := congrArg List.length h
          rw [List.length_take, List.length_nil] at this
          omega
        rw [e, opens, if_neg hne, Sl.open_cut b k hb4 hlt, if_neg (by simp), if_pos rfl]
        refine ⟨[], [b], bs, (Sl.sealB b).drop k, _, rfl, rfl, ?_, by simp, .inr ⟨rfl, b, rfl, hb4, List.take_append_drop .., hne, ?_⟩, fun t s hs => ?_⟩
        · rw [List.drop_append_of_le_length (by omega)]
        · intro h
          have := congrArg List.length h
          rw [List.length_drop, List.length_nil] at this
          omega
        · simp [starts] at hs
          omega
      · have e : (Sl.sealB b ++ flat bs).take k = Sl.sealB b ++ (flat bs).take (k - (Sl.sealB b).length) := by
          rw [List.take_append, List.take_of_length_le (by omega)]
        have hne : Sl.sealB b ++ (flat bs).take (k - (Sl.sealB b).length) ≠ [] := by
          intro h
          have := congrArg List.length h
          rw [List.length_append, List.length_nil] at this
          omega
        rw [e, opens, if_neg hne, Sl.open_seal b _ hb4, if_pos rfl, List.drop_left]
        obtain ⟨done, cur, bs', pend, f', h1, h2, h3, h4, h5, h6⟩ := ih (k - (Sl.sealB b).length) fuel ⟨f.out ++ [(b, i)], f.way, f.frm, f.under⟩ i (fun x hx => hb x (List.mem_cons_of_mem _ hx)) (by omega) (by omega) hu
        refine ⟨b :: done, cur, bs', pend, f', h1, by rw [h2]; rfl, ?_, ?_, h5, fun t s hs => ?_⟩
        · rw [List.drop_append, List.drop_of_length_le (by omega), List.nil_append, h3]
        · rw [h4]; simp
        · rw [List.cons_append, starts, List.mem_cons] at hs
          rcases hs with rfl | hs
          · omega
          · have := h6 _ _ hs; omega
theorem begins_flat {bs : List (List UInt8)} {k : Nat} {f : F} {i : Nat} (hb : ∀ b ∈ bs, b.length ≤ 4096) (hk : k ≤ (flat bs).length) :
    ∃ done cur bs' pend f', begins f ((flat bs).take k) i = (f', true) ∧ bs = done ++ cur ++ bs' ∧ (flat bs).drop k = pend ++ flat bs' ∧ f'.out.map Prod.fst = f.out.map Prod.fst ++ done ∧ St f' cur pend ∧ ∀ t, ∀ s ∈ starts (done ++ cur) t, s < t + k := by
  unfold begins
  exact opens_flat bs k _ ⟨f.out, f.way, f.frm, false⟩ i hb hk (by rw [List.length_take]; omega) rfl
theorem goesOn_idle {f : F} (h : f.under = false) (head : List UInt8) : goesOn f head = (f, true) := by unfold goesOn; rw [if_pos h]
theorem goesOn_short {f : F} (h : f.under = true) {head b : List UInt8} (hb : b.length ≤ 4096) {j : Nat} (hj : j < (Sl.sealB b).length) (e : f.way ++ head = (Sl.sealB b).take j) : goesOn f head = (⟨f.out, f.way ++ head, f.frm, true⟩, true) := by
  unfold goesOn
  rw [if_neg (by rw [h]; decide), e, Sl.open_cut b j hb hj, if_pos rfl]
theorem goesOn_ends {f : F} (h : f.under = true) {head b : List UInt8} (hb : b.length ≤ 4096) (e : f.way ++ head = Sl.sealB b) : goesOn f head = (⟨f.out ++ [(b, f.frm)], f.way ++ head, f.frm, false⟩, true) := by
  have ho : Sl.openB (Sl.sealB b) = (b, (Sl.sealB b).length, 0) := by
    have := Sl.open_seal b [] hb
    rwa [List.append_nil] at this
  unfold goesOn
  rw [if_neg (by rw [h]; decide), e, ho, if_neg (by simp), if_neg (by simp)]
theorem isF_255 {n : Nat} (h : n ≤ 242) : isF 255 n = false := by
  unfold isF
  rw [Bool.and_eq_false_iff]
  exact .inr (by rw [decide_eq_false_iff_not]; omega)
theorem isF_nat {p n : Nat} (h : p ≤ n) : isF (p : Int) n = true := by
  unfold isF
  rw [Bool.and_eq_true, decide_eq_true_eq, decide_eq_true_eq]
  omega
/-- one sheet of what was laid -/
theorem step_laid {f : F} {cur bs : List (List UInt8)} {pend : List UInt8} {i : Nat} (hs : St f cur pend ∨ St0 f ∧ cur = [] ∧ pend = [] ∧ bs ≠ []) (hb : ∀ b ∈ bs, b.length ≤ 4096) :
    ∃ done cur' x bs' pend' f', step f (if pend.length < 242 ∧ bs ≠ [] then (pend.length : Int) else 255, (pend ++ flat bs).take 242) i = (f', true) ∧ cur ++ bs = done ++ cur' ++ bs' ∧ bs = x ++ bs' ∧ (pend ++ flat bs).drop 242 = pend' ++ flat bs' ∧ f'.out.map Prod.fst = f.out.map Prod.fst ++ done ∧ St f' cur' pend' ∧ ∀ s ∈ starts x pend.length, s < 242 := by
  by_cases hc : pend.length < 242 ∧ bs ≠ []
  · obtain ⟨hc1, hc2⟩ := hc
    have e0 : (pend ++ flat bs).take 242 = pend ++ (flat bs).take (242 - pend.length) := by
      rw [List.take_append, List.take_of_length_le (by omega)]
    have e1 : (pend ++ flat bs).drop 242 = (flat bs).drop (242 - pend.length) := by
      rw [List.drop_append, List.drop_of_length_le (by omega), List.nil_append]
    rw [if_pos ⟨hc1, hc2⟩, e0, e1]
    have hle : pend.length ≤ (pend ++ (flat bs).take (242 - pend.length)).length := by rw [List.length_append]; omega
    have hcut : cutAt (pend.length : Int) (pend ++ (flat bs).take (242 - pend.length)).length = pend.length := by
      unfold cutAt
      rw [if_pos (isF_nat hle)]
      omega
    have hg : ∃ g, goesOn f pend = (g, true) ∧ g.out.map Prod.fst = f.out.map Prod.fst ++ cur := by
      rcases hs with hs | ⟨hs, rfl, rfl, _⟩
      · rcases hs with ⟨hu, rfl, rfl⟩ | ⟨hu, b, rfl, hb4, hw, _, _⟩
        · exact ⟨f, goesOn_idle hu _, by simp⟩
        · exact ⟨_, goesOn_ends hu hb4 hw, by simp⟩
      · rcases hs with hu | ⟨b, j, hb4, hj, hw⟩
        · exact ⟨f, goesOn_idle hu _, by simp⟩
        · cases hu : f.under with
          | false => exact ⟨f, goesOn_idle hu _, by simp⟩
          | true => exact ⟨_, goesOn_short hu hb4 hj (by rw [List.append_nil]; exact hw), by simp⟩
    obtain ⟨g, hg1, hg2⟩ := hg
    have hk : min (242 - pend.length) (flat bs).length ≤ (flat bs).length := Nat.min_le_right ..
    obtain ⟨done, cur', bs', pend', f', h1, h2, h3, h4, h5, h6⟩ := begins_flat (f := g) (i := i) hb hk
    have e2 : (flat bs).take (min (242 - pend.length) (flat bs).length) = (flat bs).take (242 - pend.length) := by
      rw [List.take_eq_take_iff]
      omega
    have e3 : (flat bs).drop (min (242 - pend.length) (flat bs).length) = (flat bs).drop (242 - pend.length) := by
      by_cases hm : 242 - pend.length ≤ (flat bs).length
      · rw [Nat.min_eq_left hm]
      · rw [Nat.min_eq_right (by omega), List.drop_of_length_le (Nat.le_refl _), List.drop_of_length_le (by omega)]
    rw [e2] at h1
    rw [e3] at h3
    refine ⟨cur ++ done, cur', done ++ cur', bs', pend', f', ?_, ?_, h2, h3, ?_, h5, fun s hs => ?_⟩
    · unfold step
      simp only [hcut, List.take_left, List.drop_left, hg1]
      rw [if_neg (by simp), if_pos (isF_nat hle), h1]
    · rw [h2]; simp
    · rw [h4, hg2]; simp
    · have := h6 _ _ hs
      omega
  · rw [if_neg hc]
    have hs' : St f cur pend := by
      rcases hs with hs | ⟨_, _, rfl, hn⟩
      · exact hs
      · exact absurd ⟨by simp, hn⟩ hc
    have hlen : ((pend ++ flat bs).take 242).length ≤ 242 := by rw [List.length_take]; omega
    have hpt : (pend ++ flat bs).take 242 = pend.take 242 ∧ (pend ++ flat bs).drop 242 = pend.drop 242 ++ flat bs := by
      by_cases hl : 242 ≤ pend.length
      · exact ⟨List.take_append_of_le_length hl, List.drop_append_of_le_length hl⟩
      · have hbn : bs = [] := by
          by_cases hbn : bs = []
          · exact hbn
          · exact absurd ⟨by omega, hbn⟩ hc
        subst hbn
        rw [flat_nil, List.append_nil, List.append_nil]
        exact ⟨rfl, rfl⟩
    rw [hpt.1] at hlen ⊢
    rw [hpt.2]
    have hcut : cutAt 255 (pend.take 242).length = (pend.take 242).length := by
      unfold cutAt
      rw [if_neg (by rw [isF_255 hlen]; decide)]
    have hst : ∀ g : F, goesOn f (pend.take 242) = (g, true) → step f ((255 : Int), pend.take 242) i = (g, true) := by
      intro g hg
      unfold step
      simp only [hcut, List.take_length, hg]
      rw [if_neg (by simp), if_neg (by rw [isF_255 hlen]; decide)]
    rcases hs' with ⟨hu, rfl, rfl⟩ | ⟨hu, b, rfl, hb4, hw, hwn, hpn⟩
    · exact ⟨[], [], [], bs, [], f, hst f (goesOn_idle hu _), rfl, rfl, by simp, by simp, .inl ⟨hu, rfl, rfl⟩, fun s hs => by cases hs⟩
    · by_cases hl : pend.length ≤ 242
      · have ht : pend.take 242 = pend := List.take_of_length_le hl
        have hd : pend.drop 242 = [] := List.drop_of_length_le hl
        rw [hd]
        exact ⟨[b], [], [], bs, [], _, hst _ (by rw [ht]; exact goesOn_ends hu hb4 hw), rfl, rfl, rfl, by simp, .inl ⟨rfl, rfl, rfl⟩, fun s hs => by cases hs⟩
      · have hwl := congrArg List.length hw
        rw [List.length_append] at hwl
        have e : f.way ++ pend.take 242 = (Sl.sealB b).take (f.way.length + 242) := by
          rw [← hw, List.take_append, List.take_of_length_le (l := f.way) (by omega), Nat.add_sub_cancel_left]
        have hg := goesOn_short hu hb4 (j := f.way.length + 242) (by omega) e
        refine ⟨[], [b], [], bs, pend.drop 242, _, hst _ hg, rfl, rfl, rfl, by simp, .inr ⟨rfl, b, rfl, hb4, ?_, ?_, ?_⟩, fun s hs => by cases hs⟩
        · simp only
          rw [List.append_assoc, List.take_append_drop, hw]
        · simp [hwn]
        · intro h
          have := congrArg List.length h
          rw [List.length_drop, List.length_nil] at this
          omega
/-- the sheets of what is laid -/
def sheetAt (bs : List (List UInt8)) (p : Nat) : Int × List UInt8 := (firstAt (starts bs 0) (242 * p), ((flat bs).drop (242 * p)).take 242)
def sheets (bs : List (List UInt8)) (n : Nat) : List (Int × List UInt8) := (List.range n).map (sheetAt bs)
def count (bs : List (List UInt8)) : Nat := ((flat bs).length + 241) / 242
theorem sheets_length (bs : List (List UInt8)) (n : Nat) : (sheets bs n).length = n := by simp [sheets]
theorem sheets_succ (bs : List (List UInt8)) (n : Nat) : sheets bs (n + 1) = sheets bs n ++ [sheetAt bs n] := by simp [sheets, List.range_succ]
theorem find_laid {bs : List (List UInt8)} (hb : ∀ b ∈ bs, b.length ≤ 4096) {f0 : F} (h0 : St0 f0) (i : Nat) : ∀ n, n ≤ count bs →
    ∃ done cur bs' pend D f', find f0 (sheets bs n) i = (f', true) ∧ bs = done ++ cur ++ bs' ∧ (flat bs).drop (242 * n) = pend ++ flat bs' ∧ f'.out.map Prod.fst = f0.out.map Prod.fst ++ done ∧ (St f' cur pend ∨ St0 f' ∧ cur = [] ∧ pend = [] ∧ n = 0) ∧ starts bs 0 = D ++ starts bs' (242 * n + pend.length) ∧ ∀ s ∈ D, s < 242 * n := by
  intro n
  induction n with
  | zero =>
    intro _
    exact ⟨[], [], bs, [], [], f0, rfl, rfl, rfl, by simp, .inr ⟨h0, rfl, rfl, rfl⟩, rfl, fun s hs => by cases hs⟩
  | succ n ih =>
    intro hn
    obtain ⟨done, cur, bs', pend, D, f', h1, h2, h3, h4, h5, h6, h7⟩ := ih (by omega)
    have hlt : 242 * n < (flat bs).length := by unfold count at hn; omega
    have hne : pend ++ flat bs' ≠ [] := by
      intro h
      have := congrArg List.length h3
      rw [h, List.length_drop, List.length_nil] at this
      omega
    have hs : St f' cur pend ∨ St0 f' ∧ cur = [] ∧ pend = [] ∧ bs' ≠ [] := by
      rcases h5 with h5 | ⟨g1, g2, g3, _⟩
      · exact .inl h5
      · refine .inr ⟨g1, g2, g3, ?_⟩
        rintro rfl
        rw [g3] at hne
        exact hne rfl
    obtain ⟨done2, cur', x, bs2, pend', f2, k1, k2, k3, k4, k5, k6, k7⟩ := step_laid (i := i + n) hs (fun b hb' => hb b (by rw [h2]; exact List.mem_append_right _ hb'))
    have hsh : sheetAt bs n = (if pend.length < 242 ∧ bs' ≠ [] then (pend.length : Int) else 255, (pend ++ flat bs').take 242) := by
      unfold sheetAt
      rw [h6, firstAt_skip _ _ _ h7, firstAt_starts, h3]
    have hdrop : (flat bs).drop (242 * (n + 1)) = pend' ++ flat bs2 := by
      rw [show 242 * (n + 1) = 242 * n + 242 by omega, ← List.drop_drop, h3, k4]
    have hfl : (flat bs).drop (242 * n) = pend ++ flat x ++ flat bs2 := by rw [h3, k3, flat_append, List.append_assoc]
    refine ⟨done ++ done2, cur', bs2, pend', D ++ starts x (242 * n + pend.length), f2, ?_, ?_, hdrop, ?_, .inl k6, ?_, ?_⟩
    · rw [sheets_succ, find_append, h1, if_pos rfl, sheets_length, hsh, find]
      rw [k1]
      simp [find]
    · rw [h2, List.append_assoc, k2]; simp
    · rw [k5, h4]; simp
    · have el := congrArg List.length hdrop
      have el2 := congrArg List.length hfl
      rw [List.length_drop, List.length_append] at el
      rw [List.length_drop, List.length_append, List.length_append] at el2
      by_cases hz : bs2 = []
      · subst hz
        rw [h6, k3, starts_append, List.append_assoc]
        simp [starts]
      · have : 0 < (flat bs2).length := by
          obtain ⟨b, r, rfl⟩ := List.exists_cons_of_ne_nil hz
          rw [flat_cons, List.length_append]
          have := seal_pos b
          omega
        rw [h6, k3, starts_append, ← List.append_assoc]
        rw [show 242 * n + pend.length + (flat x).length = 242 * (n + 1) + pend'.length by omega]
    · intro s hs
      rw [List.mem_append] at hs
      rcases hs with hs | hs
      · have := h7 s hs; omega
      · rw [Nat.add_comm (242 * n)] at hs
        obtain ⟨s', rfl, hs2⟩ := starts_shift _ _ _ _ hs
        have := k7 _ hs2
        omega
/-- how many bodies end in the first bytes -/
def ended : List (List UInt8) → Nat → Nat
  | [], _ => 0
  | b :: bs, k => if (Sl.sealB b).length ≤ k then ended bs (k - (Sl.sealB b).length) + 1 else 0
theorem ended_le (bs : List (List UInt8)) : ∀ k, ended bs k ≤ bs.length := by
  induction bs with
  | nil => intro k; simp [ended]
  | cons b bs ih =>
    intro k
    rw [ended, List.length_cons]
    split
    · have := ih (k - (Sl.sealB b).length); omega
    · omega
theorem ended_eq (done : List (List UInt8)) : ∀ (r : List (List UInt8)) (k : Nat), (flat done).length ≤ k → (∀ b r', r = b :: r' → k < (flat done).length + (Sl.sealB b).length) → ended (done ++ r) k = done.length := by
  induction done with
  | nil =>
    intro r k h1 h2
    cases r with
    | nil => rfl
    | cons b r =>
      have := h2 b r rfl
      rw [flat_nil, List.length_nil] at this
      rw [List.nil_append, ended, if_neg (by omega), List.length_nil]
  | cons d done ih =>
    intro r k h1 h2
    rw [flat_cons, List.length_append] at h1
    rw [List.cons_append, ended, if_pos (by omega), ih r _ (by omega), List.length_cons]
    intro b r' e
    have := h2 b r' e
    rw [flat_cons, List.length_append] at this
    omega
theorem flat_pos {bs : List (List UInt8)} (h : flat bs = []) : bs = [] := by
  cases bs with
  | nil => rfl
  | cons b bs =>
    rw [flat_cons] at h
    have := congrArg List.length h
    have hp := seal_pos b
    rw [List.length_append, List.length_nil] at this
    omega
/-- all sheets: all bodies -/
theorem find_all {bs : List (List UInt8)} (hb : ∀ b ∈ bs, b.length ≤ 4096) {f0 : F} (h0 : St0 f0) (i : Nat) : ∃ f', find f0 (sheets bs (count bs)) i = (f', true) ∧ f'.out.map Prod.fst = f0.out.map Prod.fst ++ bs := by
  obtain ⟨done, cur, bs', pend, D, f', h1, h2, h3, h4, h5, h6, h7⟩ := find_laid hb h0 i (count bs) (Nat.le_refl _)
  rw [List.drop_of_length_le (by unfold count; omega)] at h3
  have hp := (List.append_eq_nil_iff.mp h3.symm)
  have hbs := flat_pos hp.2
  have hcur : cur = [] := by
    rcases h5 with (⟨_, h, _⟩ | ⟨_, b, _, _, _, _, h⟩) | ⟨_, h, _⟩
    · exact h
    · exact absurd hp.1 h
    · exact h
  subst hbs hcur
  rw [List.append_nil, List.append_nil] at h2
  subst h2
  exact ⟨f', h1, h4⟩
/-- the first sheets: the bodies that end in them -/
theorem find_some {bs : List (List UInt8)} (hb : ∀ b ∈ bs, b.length ≤ 4096) {f0 : F} (h0 : f0.under = false) (i n : Nat) (hn : n < count bs) : ∃ f', find f0 (sheets bs n) i = (f', true) ∧ f'.out.map Prod.fst = f0.out.map Prod.fst ++ bs.take (ended bs (242 * n)) ∧ St0 f' := by
  obtain ⟨done, cur, bs', pend, D, f', h1, h2, h3, h4, h5, h6, h7⟩ := find_laid hb (.inl h0) i n (by omega)
  have hlt : 242 * n < (flat bs).length := by unfold count at hn; omega
  have el := congrArg List.length h3
  have el2 := congrArg List.length (congrArg flat h2)
  rw [List.length_drop, List.length_append] at el
  rw [flat_append, flat_append, List.length_append, List.length_append] at el2
  have hst : St0 f' := by
    rcases h5 with h5 | h5
    · exact h5.st0
    · exact h5.1
  refine ⟨f', h1, ?_, hst⟩
  have he : ended bs (242 * n) = done.length := by
    rw [h2, List.append_assoc]
    refine ended_eq done (cur ++ bs') _ ?_ ?_
    · rcases h5 with (⟨_, rfl, rfl⟩ | ⟨_, b, rfl, _, hw, hwn, hpn⟩) | ⟨_, rfl, rfl, _⟩
      · rw [flat_nil, List.length_nil] at el2
        rw [List.length_nil] at el
        omega
      · have := congrArg List.length hw
        rw [List.length_append] at this
        have := List.length_pos_iff.mpr hwn
        have e1 : (flat [b]).length = (Sl.sealB b).length := by rw [flat_cons, flat_nil, List.append_nil]
        omega
      · rw [flat_nil, List.length_nil] at el2
        rw [List.length_nil] at el
        omega
    · intro b0 r' e
      rcases h5 with (⟨_, rfl, rfl⟩ | ⟨_, b, rfl, _, hw, hwn, hpn⟩) | ⟨_, rfl, rfl, _⟩
      · rw [flat_nil, List.length_nil] at el2
        rw [List.length_nil] at el
        have := seal_pos b0
        omega
      · have := congrArg List.length hw
        rw [List.length_append] at this
        have := List.length_pos_iff.mpr hpn
        have e1 : (flat [b]).length = (Sl.sealB b).length := by rw [flat_cons, flat_nil, List.append_nil]
        rw [List.cons_append] at e
        injection e with e _
        subst e
        omega
      · rw [flat_nil, List.length_nil] at el2
        rw [List.length_nil] at el
        have := seal_pos b0
        omega
  rw [h4, he, h2, List.append_assoc, List.take_left]
/-- a map's word for where the first bodies begin -/
def gOf (ss : List Nat) (p : Int) : Option Int := (ss.find? (fun s => decide (((s / 242 : Nat) : Int) = p))).map (fun s => ((1 + s % 242 : Nat) : Int))
theorem gOf_nil (p : Int) : gOf [] p = none := rfl
theorem gOf_snoc (ss : List Nat) (s : Nat) (p : Int) : gOf (ss ++ [s]) p = if gOf ss p = none ∧ ((s / 242 : Nat) : Int) = p then some ((1 + s % 242 : Nat) : Int) else gOf ss p := by
  unfold gOf
  rw [List.find?_append]
  cases h : ss.find? (fun s => decide (((s / 242 : Nat) : Int) = p)) with
  | some y => rw [if_neg (by simp)]; simp
  | none =>
    by_cases hp : ((s / 242 : Nat) : Int) = p
    · rw [if_pos ⟨rfl, hp⟩, Option.none_or, List.find?_cons, decide_eq_true hp]
      rfl
    · rw [if_neg (fun x => hp x.2), Option.none_or, List.find?_cons, decide_eq_false hp]
      rfl
theorem gOf_first (ss : List Nat) (p : Nat) : firstAt ss (242 * p) = match gOf ss (p : Int) with | some a => a - 1 | none => 255 := by
  induction ss with
  | nil => rfl
  | cons s ss ih =>
    rw [firstAt_cons]
    unfold gOf
    rw [List.find?_cons]
    by_cases h : 242 * p ≤ s ∧ s < 242 * p + 242
    · rw [if_pos h]
      have e : decide (((s / 242 : Nat) : Int) = (p : Int)) = true := by rw [decide_eq_true_eq]; omega
      rw [e]
      show ((s - 242 * p : Nat) : Int) = ((1 + s % 242 : Nat) : Int) - 1
      have : s / 242 = p := by omega
      omega
    · rw [if_neg h]
      have e : decide (((s / 242 : Nat) : Int) = (p : Int)) = false := by rw [decide_eq_false_iff_not]; omega
      rw [e, ih]
      rfl
theorem gOf_pos (ss : List Nat) (p a : Int) (h : gOf ss p = some a) : 1 ≤ a ∧ a ≤ 242 := by
  unfold gOf at h
  cases e : ss.find? (fun s => decide (((s / 242 : Nat) : Int) = p)) with
  | none => rw [e] at h; cases h
  | some s =>
    rw [e] at h
    simp only [Option.map_some, Option.some.injEq] at h
    omega
end Go.Proofs.YtlpdjpkdgagjpaaDoor.Sh
