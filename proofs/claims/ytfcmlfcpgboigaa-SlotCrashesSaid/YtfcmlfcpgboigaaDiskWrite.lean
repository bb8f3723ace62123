/- What the functions of package disk do: Write. -/
import Derived.Test.YtfcmlfcpgboigaaDiskOps
import Derived.Deep.RegionLaw
import Derived.Deep.AppendLies
namespace Go.Proofs.Ytfcmlfcpgboigaa
open Go.RowKit Mem
open Go.ChangeMaps (setBlock)
set_option linter.unusedVariables false
set_option linter.unusedSimpArgs false

/-- the map 'now' turned -/
theorem DiskIn.setNow {w : World} {p r1 r2 : Nat} {v : Value} {d : Dk.D} {g : Int → Option (List UInt8)} (h : DiskIn w p d r1 r2 v) (o : Obj) (ho : ∀ w1 : World, w1.heap[r2]? = some o → MapS str w1 r2 g) : DiskIn (setBlock w.drew r2 o) p { d with now := g } r1 r2 v := by
  have hk : ∀ k, k ≠ r2 → (setBlock w.drew r2 o).heap[k]? = w.heap[k]? := fun k hk => by
    show (w.heap.setIfInBounds r2 o)[k]? = w.heap[k]?
    rw [Array.getElem?_setIfInBounds, if_neg (fun e => hk e.symm)]
  refine ⟨h.blk.keep (hk p (fun e => h.pr2 e.symm)), h.syn.keep (hk r1 h.ne), ho _ ?_, own_keep h.row (fun k e => hk k (h.gp e).2.2), h.ne⟩
  show (w.heap.setIfInBounds r2 o)[r2]? = some o
  rw [Array.getElem?_setIfInBounds, if_pos rfl, if_pos h.now.lt]
theorem dinfoW : (Try.prog.info? 107).map (fun i => (i.zero, i.size, i.bytes)) = some (some (.agg #[.int .i64 0, str []]), 2, 24) := by kernel_rfl
theorem write_news (w3 : World) (n : Int) (bs : List UInt8) : ∀ j u, ([.int .i64 n, .string ⟨bs.toArray⟩] : List Value)[j]? = some u → ((w3.alloc (.cells #[.int .i64 n, .string ⟨bs.toArray⟩] 107)).drew).cell? ((⟨w3.heap.size, 0, none⟩ : Addr).add j) = some u := by
  intro j u hj
  have hadd : (⟨w3.heap.size, 0, none⟩ : Addr).add j = ⟨w3.heap.size, 0 + j, none⟩ := by unfold Addr.add; split <;> simp_all
  rw [hadd, World.cell?_drew, Nat.zero_add, World.cell?_alloc_mark]
  rw [← hj]
  simp
theorem pcells_append (a b : List (Int × List UInt8)) : pcells (a ++ b) = pcells a ++ pcells b := by simp [pcells]
theorem write_end {w1 w3 : World} {p r1 r2 : Nat} {v : Value} {d : Dk.D} (h : DiskIn w3 p d r1 r2 v) (hf : Fr (Foot p r1 r2 v) w1 w3) (hs : w3.heap.size = w1.heap.size) (n : Int) (bs : List UInt8) (v' : Value) (o : Obj) (w4 : World)
    (hown : w4.ownsRow 0 107 2 v' (d.pend.length + 1) (pcells d.pend ++ [.int .i64 n, .string ⟨bs.toArray⟩]))
    (hg : ((w3.alloc o).drew).grownBy w4 v.ownBlock) (hat : v'.ownBlock = v.ownBlock ∨ v'.ownBlock = some (w3.heap.size + 1)) :
    DiskTo w1 (Foot p r1 r2 v) p { d with pend := d.pend ++ [(n, bs)] } (w4.setCell ⟨p, 3, none⟩ v') := by
  have hk : ∀ k, k < w3.heap.size → v.ownBlock ≠ some k → k ≠ p → (w4.setCell ⟨p, 3, none⟩ v').heap[k]? = w3.heap[k]? := by
    intro k hk hv hp
    rw [Below.heap_setCell w4 _ v' k hp, hg.block k (by show k < (w3.alloc _).heap.size; simp; omega) (fun e => hv e.symm)]
    exact alloc_old w3 _ hk
  have hp4 : w4.heap[p]? = w3.heap[p]? := by
    rw [hg.block p (by show p < (w3.alloc _).heap.size; have := h.blk.lt; simp; omega) (fun e => (h.gp e.symm).1 rfl)]
    exact alloc_old w3 _ h.blk.lt
  have hin : DiskIn (w4.setCell ⟨p, 3, none⟩ v') p { d with pend := d.pend ++ [(n, bs)] } r1 r2 v' := by
    refine ⟨?_, h.syn.keep (hk r1 h.syn.lt (fun e => (h.gp e).2.1 rfl) h.pr1), h.now.keep (hk r2 h.now.lt (fun e => (h.gp e).2.2 rfl) h.pr2), ?_, h.ne⟩
    · exact (h.blk.keep hp4).put 3 v'
    · have e1 : (d.pend ++ [(n, bs)]).length = d.pend.length + 1 := by simp
      have e2 : pcells (d.pend ++ [(n, bs)]) = pcells d.pend ++ [.int .i64 n, .string ⟨bs.toArray⟩] := by rw [pcells_append]; rfl
      show (w4.setCell ⟨p, 3, none⟩ v').ownsRow 0 107 2 v' (d.pend ++ [(n, bs)]).length (pcells (d.pend ++ [(n, bs)]))
      rw [e1, e2]
      refine own_keep hown (fun k e => Below.heap_setCell w4 _ v' k ?_)
      rcases hat with hat | hat
      · rw [hat] at e; exact (h.gp e).1
      · rw [hat] at e
        have := h.blk.lt
        simp at e
        show k ≠ p
        omega
  refine ⟨_, hin.at_, ((hf.alloc o).drew 1 |>.grown hg (fun k e _ => .inr (.inr (.inr e)))).setCell _ _ (fun _ => .inl rfl), fun k hk' => ?_⟩
  rcases hk' with rfl | rfl | rfl | hk'
  · exact .inl (.inl rfl)
  · exact .inl (.inr (.inl rfl))
  · exact .inl (.inr (.inr (.inl rfl)))
  · rcases hat with hat | hat
    · rw [hat] at hk'; exact .inl (.inr (.inr (.inr hk')))
    · rw [hat] at hk'
      simp at hk'
      exact .inr (by omega)
set_option maxRecDepth 100000 in
set_option maxHeartbeats 2000000 in
theorem write_ok_ (p r1 r2 : Nat) (v : Value) (d : Dk.D) (n : Int) (A : Option Addr) (cap : Nat) (bs : List UInt8) (w : World) (hd : DiskIn w p d r1 r2 v) (hok : Dk.Ok d) (hbs : BS w A 256 bs) (hout : ∀ a, A = some a → ¬ Foot p r1 r2 v a.block)
    (ha : Dk.at_ d n = 0) (hst : (Dk.step d).1 = 0) (hlen : d.pend.length ≤ 1000000) :
    Calls Try.prog 27 #[.pointer (some ⟨p, 0, none⟩), .int .i64 n, .slice A 256 cap] w fun e w' => e = .returned (.int .i64 0) ∧ DiskTo w (Foot p r1 r2 v) p (Dk.put (Dk.step d).2 n bs) w' := by
  obtain ⟨c0, _⟩ := hd.cells
  go_enter Try.func27, Try.ntmps27
  go_wp2_with fail
  refine (at_any p n d w c0).mono ?_
  rintro e w1 ⟨rfl, hw1⟩
  subst hw1
  rw [ha]
  go_wp2_with fail
  refine (step_any p r1 r2 v d w1 hd hok).mono ?_
  rintro e w2 ⟨rfl, hd2, hf2, hs2⟩
  rw [hst]
  obtain ⟨_, _, c2, c3, _, _, _⟩ := hd2.cells
  have hb2 : BS w2 A 256 bs := BS.fr hbs hf2 (fun a e x => hout a e (.inl x))
  have hcv := conv_bytes hb2 (by omega) cap w2.drew (fun _ => rfl)
  obtain ⟨o, hmu, hmo⟩ := run_upd (P := Try.prog) (f := str) Try.underlying101 Try.underlying3 hd2.now n bs
  have hmu' := hmu w2.drew rfl
  have H := Lib.hid (And.intro hd2 (And.intro hf2 (And.intro hs2 (And.intro hb2 hmo))))
  have H0 := Lib.hid (And.intro hd (And.intro hok (And.intro hbs (And.intro hout hlen))))
  clear hd hok hbs hout hlen hd2 hf2 hs2 hb2 hmo hmu
  go_wp2
  go_still_tail 7, (by kernel_rfl)
  go_wp2_with fail
  have hd3 := DiskIn.setNow H.out.1 o (H.out.2.2.2.2)
  have hf3 : Fr (Foot p r1 r2 v) w1 (setBlock w2.drew r2 o) := ((H.out.2.1.mono (fun i _ e => .inl e)).drew 1).setBlock r2 o (fun _ => .inr (.inr (.inl rfl)))
  have hb3 : BS (setBlock w2.drew r2 o) A 256 bs := BS.fr H0.out.2.2.1 hf3 H0.out.2.2.2.1
  have hs3 : (setBlock w2.drew r2 o).heap.size = w1.heap.size := by rw [← H.out.2.2.1]; simp [setBlock]
  clear H hmu' hcv c2 c3
  generalize setBlock w2.drew r2 o = w3 at *
  obtain ⟨_, _, _, c3, _, _, _⟩ := hd3.cells
  have f3 := hd3.blk.free 3
  have hcv := conv_bytes hb3 (by omega) cap w3.drew (fun _ => rfl)
  have H := Lib.hid (And.intro hd3 (And.intro hf3 (And.intro hb3 hs3)))
  clear hd3 hf3 hb3 hs3
  unfold str at hcv
  obtain ⟨i0, hi0, hz0, hz1, hz2⟩ := info_parts dinfoW
  have HI := Lib.hid (And.intro hi0 (And.intro hz0 (And.intro hz1 hz2)))
  clear hi0 hz0 hz1 hz2
  have hrow : ((w3.alloc (.cells #[.int .i64 n, .string ⟨bs.toArray⟩] 107)).drew).ownsRow 0 107 2 v d.pend.length (pcells d.pend) := by
    have := H.out.1.row
    rw [Dk.step_pend] at this
    exact own_keep this (fun k e => alloc_old w3 _ (own_lt this e))
  have hone : ∀ u ∈ ([.int .i64 n, .string ⟨bs.toArray⟩] : List Value), u.oneCell' = true := by
    intro u hu
    simp only [List.mem_cons, List.not_mem_nil, or_false] at hu
    rcases hu with rfl | rfl <;> rfl
  have h63 : d.pend.length + 1 ≤ maxLen := by have := H0.out.2.2.2.2; unfold maxLen; omega
  have hby : (d.pend.length + 1) * 24 ≤ 140737488355328 := by have := H0.out.2.2.2.2; omega
  have hpk : ∀ w', ((w3.alloc (.cells #[.int .i64 n, .string ⟨bs.toArray⟩] 107)).drew).grownBy w' v.ownBlock → ∀ k, k < w3.heap.size → v.ownBlock ≠ some k → w'.heap[k]? = w3.heap[k]? := by
    intro w' hg k hk hv
    rw [hg.block k (by show k < (w3.alloc _).heap.size; simp; omega) (fun e => hv e.symm)]
    exact alloc_old w3 _ hk
  have hpp : p < w3.heap.size ∧ v.ownBlock ≠ some p := ⟨H.out.1.blk.lt, fun e => (H.out.1.gp e).1 rfl⟩
  have HR := Lib.hid (And.intro hrow (And.intro hone (And.intro h63 (And.intro hby (And.intro hpk hpp)))))
  clear hrow hone h63 hby hpk hpp
  have c3a : (w3.alloc (.cells #[.int .i64 n, .string ⟨bs.toArray⟩] 107)).cell? ⟨p, 3, none⟩ = some v := (World.cell?_of_block (alloc_old w3 _ H.out.1.blk.lt)).trans c3
  have HN := Lib.hid (write_news w3 n bs)
  go_region_law ((
    refine step_append_lies _ rfl (.tmp 35) (.tmp 40) 102 rfl 0 107 i0 (.agg #[.int .i64 0, str []]) 2 24 Try.underlying102 HI.out.1 HI.out.2.1 HI.out.2.2.1 HI.out.2.2.2 rfl (by omega) v d.pend.length (pcells d.pend) (by simp [Act.eval, Act.put]) HR.out.1 ⟨w3.heap.size, 0, none⟩ 1 1 [.int .i64 n, .string ⟨bs.toArray⟩] (by simp [Act.eval, Act.put]) rfl HN.out HR.out.2.1 (by omega) HR.out.2.2.1 HR.out.2.2.2.1 (by omega) (w3.heap.size + 1) (by simp) ?_
    intro g cp w4 hown hg hat hlt
    have hp4 := HR.out.2.2.2.2.1 w4 hg p HR.out.2.2.2.2.2.1 HR.out.2.2.2.2.2.2
    have c34 : w4.cell? ⟨p, 3, none⟩ = some v := (World.cell?_of_block hp4).trans c3
    have f34 : w4.frozen? ⟨p, 3, none⟩ = false := (World.frozen?_of_block hp4).trans f3
    have H4 := Lib.hid (And.intro hown (And.intro hg (And.intro hat hp4)))
    clear hown hg hat hp4 hlt))
  all_goals
    go_wp2
    go_ret
    refine ⟨rfl, write_end H.out.1 H.out.2.1 H.out.2.2.2 n bs _ _ _ (by simp only [Dk.step_pend]; exact H4.out.1) H4.out.2.1 ?_⟩
    rcases H4.out.2.2.1 with hat | hat
    · exact .inl hat.symm
    · exact .inr (by rw [hat]; rfl)
/-- WHAT Write LEAVES. -/
def WriteTo (w : World) (F : Nat → Prop) (p : Nat) (r : Nat × Dk.D) (e : Ending) (w' : World) : Prop := e = .returned (.int .i64 (r.1 : Int)) ∧ DiskTo w F p r.2 w'
theorem DiskAt.to {w : World} {p : Nat} {d : Dk.D} {F : Nat → Prop} (h : DiskAt w p d F) : DiskTo w F p d w := ⟨F, h, Fr.refl _ _, fun _ x => .inl x⟩
theorem StepTo.to {w w' : World} {p r1 r2 : Nat} {v : Value} {d : Dk.D} {F : Nat → Prop} {e : Ending} (hF : ∀ k, Foot p r1 r2 v k → F k) (h : StepTo w p r1 r2 v d e w') : DiskTo w F p (Dk.step d).2 w' :=
  ⟨_, h.2.1.at_, h.2.2.1.mono (fun i _ e => hF i (.inl e)), fun k x => .inl (hF k x)⟩
theorem DiskTo.mono {w w' : World} {p : Nat} {d : Dk.D} {F G : Nat → Prop} (h : DiskTo w F p d w') (hF : ∀ k, F k → G k) : DiskTo w G p d w' := by
  obtain ⟨F', h1, h2, h3⟩ := h
  exact ⟨F', h1, h2.mono (fun i _ x => hF i x), fun k x => (h3 k x).imp (hF k) id⟩
theorem at_01 (d : Dk.D) (n : Int) : Dk.at_ d n = 0 ∨ Dk.at_ d n = 1 := by unfold Dk.at_; split <;> simp
theorem step_01 (d : Dk.D) : (Dk.step d).1 = 0 ∨ (Dk.step d).1 = 40 := by unfold Dk.step; split <;> simp
set_option maxRecDepth 100000 in
set_option maxHeartbeats 2000000 in
theorem write_any (p : Nat) (d : Dk.D) (F : Nat → Prop) (n : Int) (A : Option Addr) (m cap : Nat) (bs : List UInt8) (w : World) (hD : DiskAt w p d F) (hok : Dk.Ok d) (hbs : BS w A m bs) (hout : ∀ a, A = some a → ¬ F a.block) (hlen : d.pend.length ≤ 1000000) :
    Calls Try.prog 27 #[.pointer (some ⟨p, 0, none⟩), .int .i64 n, .slice A m cap] w (WriteTo w F p (Dk.write d n bs)) := by
  have hD' := hD
  obtain ⟨r1, r2, v, hd, hF, hFb⟩ := hD
  obtain ⟨c0, _⟩ := hd.cells
  have hm := hbs.1
  rcases at_01 d n with ha | ha
  · by_cases h256 : m = 256
    · subst h256
      rcases step_01 d with hs | hs
      · have hR : Dk.write d n bs = (0, Dk.put (Dk.step d).2 n bs) := by unfold Dk.write; rw [if_neg (by simpa using ha), if_neg (by omega), if_neg (by simpa using hs)]
        rw [hR]
        refine (write_ok_ p r1 r2 v d n A cap bs w hd hok hbs (fun a e x => hout a e (hF _ x)) ha hs hlen).mono ?_
        rintro e w' ⟨rfl, h⟩
        exact ⟨rfl, h.mono hF⟩
      · have hR : Dk.write d n bs = (40, (Dk.step d).2) := by unfold Dk.write; rw [if_neg (by simpa using ha), if_neg (by omega), if_pos (by omega)]
        rw [hR]
        have H := Lib.hid (And.intro hd (And.intro hok hF))
        clear hR hD' hd hok hF hFb hbs hout
        go_enter Try.func27, Try.ntmps27
        go_wp2_with fail
        refine (at_any p n d w c0).mono ?_
        rintro e w1 ⟨rfl, hw1⟩
        subst hw1
        rw [ha]
        go_wp2_with fail
        refine (step_any p r1 r2 v d w1 H.out.1 H.out.2.1).mono ?_
        intro e w2 hst
        have hst2 := hst.1
        have HS := Lib.hid (StepTo.to H.out.2.2 hst)
        clear hst
        subst hst2
        rw [hs]
        go_wp2
        go_ret
        exact ⟨rfl, HS.out⟩
    · have hR : Dk.write d n bs = (12, d) := by unfold Dk.write; rw [if_neg (by simpa using ha), if_pos (by omega)]
      rw [hR]
      have H := Lib.hid hD'
      clear hR hD' hd hok hF hFb hbs hout
      have hne : ((m : Int) != 256) = true := by rw [bne_iff_ne]; omega
      go_enter Try.func27, Try.ntmps27
      go_wp2_with fail
      refine (at_any p n d w c0).mono ?_
      rintro e w1 ⟨rfl, hw1⟩
      subst hw1
      rw [ha]
      go_wp2
      go_ret
      exact ⟨rfl, DiskAt.to H.out⟩
  · have hR : Dk.write d n bs = (1, d) := by unfold Dk.write; rw [if_pos (by omega)]
    rw [hR]
    have H := Lib.hid hD'
    clear hR hD' hd hok hF hFb hbs hout
    go_enter Try.func27, Try.ntmps27
    go_wp2_with fail
    refine (at_any p n d w c0).mono ?_
    rintro e w1 ⟨rfl, hw1⟩
    subst hw1
    rw [ha]
    go_wp2
    go_ret
    exact ⟨rfl, DiskAt.to H.out⟩
theorem write_nil (n : Int) (A : Option Addr) (m cap : Nat) (w : World) : Calls Try.prog 27 #[.pointer none, .int .i64 n, .slice A m cap] w fun e w' => e = .returned (.int .i64 2) ∧ w' = w := by
  go_enter Try.func27, Try.ntmps27
  go_wp2_with fail
  refine (at_nil n w).mono ?_
  rintro e w1 ⟨rfl, hw1⟩
  subst hw1
  go_wp2
  go_ret
  exact ⟨rfl, rfl⟩
end Go.Proofs.Ytfcmlfcpgboigaa
