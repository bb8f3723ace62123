/- What a Set does to a page, as plain data. -/
import Derived.Test.YtfcmlfcpgboigaaPageSetG
import Derived.Test.YtfcmlfcpgboigaaPageRef
namespace Go.Proofs.Ytfcmlfcpgboigaa
open Go.RowKit Mem
set_option linter.unusedVariables false
set_option linter.unusedSimpArgs false

namespace Pg
theorem less_trans : ∀ a b c : List UInt8, Op.bytesLess a b = true → Op.bytesLess b c = true → Op.bytesLess a c = true
  | _, [], _, h, _ => by simp [Op.bytesLess] at h
  | _, _ :: _, [], _, h => by simp [Op.bytesLess] at h
  | [], _ :: _, _ :: _, _, _ => by simp [Op.bytesLess]
  | x :: a, y :: b, z :: c, h1, h2 => by
    unfold Op.bytesLess at h1 h2 ⊢
    simp only [Bool.or_eq_true, decide_eq_true_eq, Bool.and_eq_true, beq_iff_eq] at h1 h2 ⊢
    rcases h1 with h1 | ⟨rfl, h1⟩
    · rcases h2 with h2 | ⟨rfl, h2⟩
      · left
        have g1 : x.toNat < y.toNat := h1
        have g2 : y.toNat < z.toNat := h2
        show x.toNat < z.toNat
        omega
      · exact .inl h1
    · rcases h2 with h2 | ⟨rfl, h2⟩
      · exact .inl h2
      · exact .inr ⟨rfl, less_trans a b c h1 h2⟩
theorem less_ne {a b : List UInt8} (h : Op.bytesLess a b = true) : (a == b) = false := by
  rw [less_not] at h
  simp only [Bool.not_eq_true', Bool.or_eq_false_iff] at h
  have := h.2
  rw [beq_eq_false_iff_ne] at this ⊢
  exact fun e => this e.symm
theorem key_ext {a b : ByteArray} (h : (a.toList == b.toList) = true) : a = b := by
  rw [ByteArray.toList_eq, ByteArray.toList_eq] at h
  have h2 : a.data.toList = b.data.toList := by simpa using h
  cases a; cases b
  congr 1
  exact Array.toList_inj.1 h2
/-- the same by recursion -/
def put' (key : ByteArray) (has : Bool) (data : ByteArray) : List C → List C
  | [] => [⟨key, has, data⟩]
  | c :: l => if ge c key then (if c.key.toList == key.toList then ⟨c.key, has, data⟩ :: l else ⟨key, has, data⟩ :: c :: l) else c :: put' key has data l
theorem pos_cons (c : C) (l : List C) (key : ByteArray) : pos (c :: l) key = if ge c key then 0 else pos l key + 1 := by
  unfold pos
  rw [List.findIdx_cons]
  cases ge c key <;> rfl
theorem isAt_cons (c : C) (l : List C) (key : ByteArray) : isAt (c :: l) key = if ge c key then (c.key.toList == key.toList) else isAt l key := by
  unfold isAt
  rw [pos_cons]
  cases ge c key with
  | true => simp [List.getD_eq_getElem?_getD]
  | false => simp [List.getD_eq_getElem?_getD]
theorem put_eq (key : ByteArray) (has : Bool) (data : ByteArray) : ∀ l : List C, put l key has data = put' key has data l
  | [] => rfl
  | c :: l => by
    have ih := put_eq key has data l
    unfold put withKey at ih ⊢
    rw [pos_cons, isAt_cons]
    unfold put'
    cases hg : ge c key with
    | true =>
      simp only [if_true]
      cases he : (c.key.toList == key.toList) with
      | true => simp [List.getD_eq_getElem?_getD]
      | false => simp [List.getD_eq_getElem?_getD]
    | false =>
      simp only [Bool.false_eq_true, if_false]
      rw [← ih]
      cases ha : isAt l key with
      | true => simp [List.getD_eq_getElem?_getD]
      | false => simp [List.getD_eq_getElem?_getD]
theorem put_rise {key : ByteArray} {has : Bool} {data : ByteArray} (hf : fits ⟨key, has, data⟩ = true) : ∀ (l : List C) (s : ByteArray), rise s l = true → leq key s = false → rise s (put' key has data l) = true
  | [], s, _, h => by unfold put' rise; rw [hf, h]; rfl
  | c :: l, s, h, hs => by
    unfold rise at h
    simp only [Bool.and_eq_true, Bool.not_eq_true'] at h
    obtain ⟨⟨h1, h2⟩, h3⟩ := h
    unfold put'
    cases hg : ge c key with
    | true =>
      simp only [if_true]
      cases he : (c.key.toList == key.toList) with
      | true =>
        have hk := key_ext he
        simp only [if_true]
        unfold rise
        rw [hk, hf, ← hk, h2, h3]
        rfl
      | false =>
        simp only [Bool.false_eq_true, if_false]
        have hcl : leq c.key key = false := by
          unfold ge at hg
          unfold leq
          rw [he, Bool.or_false]
          simpa using hg
        unfold rise
        rw [hf, hs]
        unfold rise
        rw [h1, hcl, h3]
        rfl
    | false =>
      simp only [Bool.false_eq_true, if_false]
      have hlt : Op.bytesLess c.key.toList key.toList = true := by unfold ge at hg; simpa using hg
      have hle : leq key c.key = false := by
        rw [less_not] at hlt
        unfold leq
        simpa using hlt
      unfold rise
      rw [h1, h2, put_rise hf l c.key h3 hle]
      rfl
theorem rise_above : ∀ (l : List C) (s : ByteArray), rise s l = true → ∀ c ∈ l, Op.bytesLess s.toList c.key.toList = true
  | [], _, _, c, hc => by cases hc
  | x :: l, s, h, c, hc => by
    unfold rise at h
    simp only [Bool.and_eq_true, Bool.not_eq_true'] at h
    obtain ⟨⟨h1, h2⟩, h3⟩ := h
    have hsx : Op.bytesLess s.toList x.key.toList = true := by
      rw [less_not]
      unfold leq at h2
      rw [h2]
      rfl
    rcases List.mem_cons.1 hc with rfl | hc
    · exact hsx
    · exact less_trans _ _ _ hsx (rise_above l x.key h3 c hc)
theorem not_at : ∀ (l : List C) (s key : ByteArray), rise s l = true → isAt l key = false → ∀ c ∈ l, (c.key.toList == key.toList) = false
  | [], _, _, _, _, c, hc => by cases hc
  | x :: l, s, key, h, ha, c, hc => by
    unfold rise at h
    simp only [Bool.and_eq_true, Bool.not_eq_true'] at h
    obtain ⟨⟨h1, h2⟩, h3⟩ := h
    rw [isAt_cons] at ha
    cases hg : ge x key with
    | true =>
      rw [hg, if_pos rfl] at ha
      rcases List.mem_cons.1 hc with rfl | hc
      · exact ha
      · have hxc := rise_above l x.key h3 c hc
        have hkx : Op.bytesLess key.toList x.key.toList = true := by
          unfold ge at hg
          rw [less_not]
          have : Op.bytesLess x.key.toList key.toList = false := by simpa using hg
          rw [this, ha]
          rfl
        have := less_ne (less_trans _ _ _ hkx hxc)
        rw [beq_eq_false_iff_ne] at this ⊢
        exact fun e => this e.symm
    | false =>
      rw [hg, if_neg (by simp)] at ha
      rcases List.mem_cons.1 hc with rfl | hc
      · unfold ge at hg
        exact less_ne (by simpa using hg)
      · exact not_at l x.key key h3 ha c hc
theorem put_length (key : ByteArray) (has : Bool) (data : ByteArray) : ∀ l : List C, (put' key has data l).length = if isAt l key then l.length else l.length + 1
  | [] => by simp [put', isAt]
  | c :: l => by
    have ih := put_length key has data l
    rw [isAt_cons]
    unfold put'
    cases hg : ge c key with
    | true =>
      cases he : (c.key.toList == key.toList) <;> simp
    | false =>
      simp only [Bool.false_eq_true, if_false, List.length_cons, ih]
      split <;> rfl
theorem idx_no {l : List C} {key : ByteArray} (h : ∀ c ∈ l, (c.key.toList == key.toList) = false) : idx l key = l.length := by
  unfold idx
  rw [List.findIdx_eq_length]
  exact h
theorem put_small {l : List C} {key : ByteArray} {has : Bool} {data : ByteArray} {s : ByteArray} (hr : rise s l = true) (hl : l.length ≤ 4) (hro : room l key = true) : (put' key has data l).length ≤ 4 := by
  rw [put_length]
  cases ha : isAt l key with
  | true => simpa using hl
  | false =>
    have hn := idx_no (not_at l s key hr ha)
    unfold room at hro
    rw [hn] at hro
    simp at hro
    simp
    omega
/-- a key's value, by the first cell that has it -/
def find (l : List C) (key : ByteArray) : Option C := l.find? (fun c => c.key.toList == key.toList)
theorem get_find (l : List C) (key : ByteArray) : get l key = ((find l key).map (fun c => (c.has, c.data))).getD (false, ⟨#[]⟩) := by
  unfold get find
  by_cases h : idx l key < l.length
  · rw [if_pos h]
    have h2 : l.find? (fun c => c.key.toList == key.toList) = some l[idx l key] := by
      unfold idx at h ⊢
      rw [List.find?_eq_some_iff_getElem]
      exact ⟨List.findIdx_getElem (w := h), List.findIdx (fun c => c.key.toList == key.toList) l, h, rfl, fun j hj => by simpa using List.not_of_lt_findIdx hj⟩
    rw [h2, List.getD_eq_getElem?_getD, List.getElem?_eq_getElem h]
    rfl
  · rw [if_neg h]
    have h2 : l.find? (fun c => c.key.toList == key.toList) = none := by
      rw [List.find?_eq_none]
      intro c hc
      have h3 : idx l key = l.length := by
        have : idx l key ≤ l.length := List.findIdx_le_length
        omega
      unfold idx at h3
      rw [List.findIdx_eq_length] at h3
      simpa using h3 c hc
    rw [h2]
    rfl
theorem find_put_same (key : ByteArray) (has : Bool) (data : ByteArray) : ∀ l : List C, ∃ c, find (put' key has data l) key = some c ∧ c.has = has ∧ c.data = data
  | [] => ⟨_, by simp [put', find]; rfl, rfl, rfl⟩
  | c :: l => by
    unfold put'
    cases hg : ge c key with
    | true =>
      simp only [if_true]
      cases he : (c.key.toList == key.toList) with
      | true => exact ⟨⟨c.key, has, data⟩, by simp [find, List.find?_cons, he], rfl, rfl⟩
      | false => exact ⟨⟨key, has, data⟩, by simp [find, List.find?_cons], rfl, rfl⟩
    | false =>
      simp only [Bool.false_eq_true, if_false]
      obtain ⟨d, h1, h2⟩ := find_put_same key has data l
      have hne : (c.key.toList == key.toList) = false := less_ne (by unfold ge at hg; simpa using hg)
      refine ⟨d, ?_, h2⟩
      unfold find at h1 ⊢
      rw [List.find?_cons, hne]
      exact h1
theorem find_put_other (key other : ByteArray) (has : Bool) (data : ByteArray) (hne : (key.toList == other.toList) = false) : ∀ l : List C, find (put' key has data l) other = find l other
  | [] => by simp [put', find, hne]
  | c :: l => by
    unfold put'
    cases hg : ge c key with
    | true =>
      simp only [if_true]
      cases he : (c.key.toList == key.toList) with
      | true =>
        have hk := key_ext he
        have hne2 : (c.key.toList == other.toList) = false := by rw [hk]; exact hne
        simp [find, List.find?_cons, hne2]
      | false => simp [find, List.find?_cons, hne]
    | false =>
      simp only [Bool.false_eq_true, if_false]
      have ih := find_put_other key other has data hne l
      unfold find at ih ⊢
      rw [List.find?_cons, List.find?_cons, ih]
theorem get_put (l : List C) (key : ByteArray) (has : Bool) (data : ByteArray) : get (put l key has data) key = (has, data) := by
  obtain ⟨c, h1, h2, h3⟩ := find_put_same key has data l
  rw [put_eq, get_find, h1, ← h2, ← h3]
  rfl
theorem get_other (l : List C) (key other : ByteArray) (has : Bool) (data : ByteArray) (hne : (key.toList == other.toList) = false) : get (put l key has data) other = get l other := by
  rw [put_eq, get_find, get_find, find_put_other key other has data hne]
theorem room_put (l : List C) (key : ByteArray) (has : Bool) (data : ByteArray) : room (put l key has data) key = true := by
  obtain ⟨c, h1, _⟩ := find_put_same key has data l
  rw [put_eq]
  unfold room
  rw [Bool.or_eq_true]
  right
  rw [decide_eq_true_eq]
  unfold idx
  rw [List.findIdx_lt_length]
  refine ⟨c, List.mem_of_find?_eq_some h1, ?_⟩
  have := List.find?_some h1
  simpa using this
theorem may_put {lsn0 lsn : Int} {l : List C} {key : ByteArray} {has : Bool} {data : ByteArray} (hb : ¬ bad lsn0 l lsn key has data) (hro : room l key = true) : may lsn (put l key has data) = true := by
  unfold bad at hb
  simp only [not_or, Int.not_lt] at hb
  obtain ⟨h1, h2, h3, h4⟩ := hb
  have h1' : may lsn0 l = true := by simpa using h1
  have h2' : fits ⟨key, has, data⟩ = true := by simpa using h2
  obtain ⟨g1, g2, g3, g4⟩ := may_parts h1'
  have hle : leq key ⟨#[]⟩ = false := by
    have := fits_key h2'
    rw [less_not] at this
    unfold leq
    have e : (⟨#[]⟩ : ByteArray).toList = [] := by rw [ByteArray.toList_eq]
    rw [e]
    simpa using this
  unfold may
  rw [put_eq, put_rise h2' l ⟨#[]⟩ g1 hle]
  have := put_small (has := has) (data := data) g1 g4 hro
  simp
  omega
/-- a value that was got may be set again -/
theorem get_ok {s : ByteArray} : ∀ {l : List C} {key : ByteArray}, rise s l = true → valOk (get l key).1 (get l key).2 = true := by
  intro l key hr
  rw [get_find]
  cases h : find l key with
  | none =>
    show valOk false ⟨#[]⟩ = true
    decide +kernel
  | some c =>
    have hc : c ∈ l := List.mem_of_find?_eq_some h
    have hf := rise_fits l s hr c hc
    unfold fits at hf
    simp only [Bool.and_eq_true] at hf
    exact hf.2
end Pg
end Go.Proofs.Ytfcmlfcpgboigaa
