/- MasterCrashes, the plain law: what a save leaves, wherever the power goes. -/
import Derived.Test.YtfcmlfcpgboigaaMaster06
namespace Go.Proofs.Ytfcmlfcpgboigaa
open Go.RowKit Mem
set_option linter.unusedVariables false
set_option linter.unusedSimpArgs false

namespace Dk
open Stamp
theorem crashTo_same (d e : D) (ks : List Int) (torn : Bool) (cut : Int) (hs : d.syn = e.syn) (hp : d.pend = e.pend) : ∀ i, crashTo d ks torn cut i = crashTo e ks torn cut i
  | 0 => hs
  | i + 1 => by
    unfold crashTo
    rw [crashTo_same d e ks torn cut hs hp i, hp]
theorem crash_same (d e : D) (ks : List Int) (torn : Bool) (cut : Int) (hz : d.size = e.size) (hs : d.syn = e.syn) (hp : d.pend = e.pend) : crash d ks torn cut = crash e ks torn cut := by
  unfold crash
  rw [crashTo_same d e ks torn cut hs hp, hz, hp]
theorem crash_clean {z : Int} {k : Nat} {d : D} (hok : Ok d) (hz : d.size = z) (hp : d.pend = []) (ks : List Int) (torn : Bool) (cut : Int) : Q z k (crash d ks torn cut) ∧ ∀ n, cur (crash d ks torn cut) n = (d.syn n).getD zeros := by
  refine ⟨⟨crash_ok hok ks torn cut, hz, rfl, fun _ => rfl, rfl, rfl, by show (0 : Int) ≤ _; omega⟩, fun n => ?_⟩
  show (crashTo d ks torn cut d.pend.length n).getD zeros = _
  rw [hp]
  rfl
theorem q_cur {z : Int} {k : Nat} {d : D} (h : Q z k d) (n : Int) : cur d n = (d.syn n).getD zeros := by unfold cur; rw [h.now n]; rfl
theorem fused_neg {z : Int} {k : Nat} {d : D} (h : Q z k d) (F : Int) (hF : F < 0) : fused d F = d := by
  have hf := h.fuse
  unfold fused
  cases d
  simp only at hf ⊢
  subst hf
  congr 1
  omega
/-- a put with a fuse -/
theorem put_fuse {z : Int} {k : Nat} {d : D} (h : Q z k d) {N : Int} (h0 : 0 ≤ N) (h1 : N < z) {p : List UInt8} (hp : p.length ≤ 254) (F : Int) (hF : 0 ≤ F) :
    put2 (fused d F) N p = if F = 0 then (40, { d with fuse := 0, down := true }) else (0, put { d with fuse := F - 1 } N (secOf d N p)) := by
  have hs := h.size
  have hm : max F (-1) = F := by omega
  have ha : at_ (fused d F) N = 0 := by unfold at_; rw [if_neg (by simp only [fused]; omega)]
  have hr : read (fused d F) N = (cur d N, 0) := by
    unfold read
    rw [ha, if_neg (by simp), show (fused d F).down = false from h.down]
    rfl
  have hc : cur (fused d F) N = cur d N := rfl
  unfold put2
  rw [if_neg (by omega), hr, if_neg (by simp), hc]
  show write (fused d F) N (secOf d N p) = _
  unfold write
  rw [ha, if_neg (by simp), if_neg (by rw [secOf_length d N p hp]; simp)]
  by_cases hF0 : F = 0
  · have hst : step (fused d F) = (40, { d with fuse := 0, down := true }) := by
      unfold step
      rw [if_pos (by rw [show (fused d F).fuse = max F (-1) from rfl, hm, hF0]; simp)]
      unfold fused
      rw [hm, hF0]
    rw [hst, if_pos (by simp), if_pos hF0]
  · have hst : step (fused d F) = (0, { d with fuse := F - 1 }) := by
      unfold step
      rw [if_neg (by rw [show (fused d F).fuse = max F (-1) from rfl, show (fused d F).down = false from h.down, hm]; simp; exact hF0)]
      unfold fused
      simp only [hm]
      rw [if_pos (by omega)]
    rw [hst, if_neg (by simp), if_neg hF0]
end Dk
namespace Ms
open Stamp
/-- WHERE A DISK STANDS: the last record in its sector, an older one, or none, in the other one. -/
structure At (k : Nat) (d : Dk.D) (last : M) : Prop where
  q : Dk.Q 2 k d
  may : may last = true
  here : secM (Dk.cur d (last.gen % 2)) (last.gen % 2) = last
  old : (secM (Dk.cur d ((last.gen + 1) % 2)) ((last.gen + 1) % 2)).gen < last.gen
theorem At.load {k : Nat} {d : Dk.D} {last : M} (h : At k d last) : load (Dk.get2 d) = (last, 0) := by
  have hg := may_gen h.may
  have h1 := h.here
  have h2 := h.old
  rw [load_q h.q (by omega)]
  rcases gen_odd last with ho | ho
  · rw [ho] at h1
    rw [show (last.gen + 1) % 2 = 1 by omega] at h2
    rw [h1, if_neg (by omega), if_neg (by omega)]
  · rw [ho] at h1
    rw [show (last.gen + 1) % 2 = 0 by omega] at h2
    rw [h1, if_pos h2]
theorem At.keep {k j : Nat} {d e : Dk.D} {last : M} (h : At k d last) (hq : Dk.Q 2 j e) (hc : ∀ n, Dk.cur e n = Dk.cur d n) : At j e last := ⟨hq, h.may, by rw [hc]; exact h.here, by rw [hc]; exact h.old⟩
/-- the new record has got its sector -/
theorem At.new {k j : Nat} {d e : Dk.D} {last m : M} (h : At k d last) (hm : Ms.may m = true) (hg : m.gen = last.gen + 1) (hq : Dk.Q 2 j e) (hc : ∀ n, n ≠ m.gen % 2 → Dk.cur e n = Dk.cur d n) (hs : secM (Dk.cur e (m.gen % 2)) (m.gen % 2) = m) : At j e m := by
  refine ⟨hq, hm, hs, ?_⟩
  rw [show (m.gen + 1) % 2 = last.gen % 2 by omega, hc _ (by omega), h.here]
  omega
/-- it has not -/
theorem At.not {k j : Nat} {d e : Dk.D} {last : M} (h : At k d last) (hq : Dk.Q 2 j e) (hc : ∀ n, n ≠ (last.gen + 1) % 2 → Dk.cur e n = Dk.cur d n) (hs : (secM (Dk.cur e ((last.gen + 1) % 2)) ((last.gen + 1) % 2)).gen < last.gen) : At j e last :=
  ⟨hq, h.may, by rw [hc _ (by omega)]; exact h.here, hs⟩
theorem at_new : At 1 (Dk.kept (Dk.new 2) 1 (body ⟨1, 0, 0, 0, 0⟩)) ⟨1, 0, 0, 0, 0⟩ := by
  have hq := Dk.q_new 2 (by omega)
  have hm : Ms.may ⟨1, 0, 0, 0, 0⟩ = true := by decide
  have hb := body_le ⟨1, 0, 0, 0, 0⟩
  refine ⟨Dk.kept_q hq (by omega) (by omega) (by omega), hm, ?_, ?_⟩
  · show secM (Dk.cur _ 1) 1 = _
    rw [Dk.kept_cur hq, if_pos rfl]
    exact secM_sec (Dk.new 2) ⟨1, 0, 0, 0, 0⟩ hm
  · show (secM (Dk.cur _ 0) 0).gen < 1
    rw [Dk.kept_cur hq, if_neg (by omega), cur_new, secM_zeros]
    decide
/-- A SAVE, AND WHAT BECOMES OF THE DISK. -/
theorem fall {k : Nat} {d : Dk.D} {last m : M} (h : At k d last) (hm : may m = true) (hg : m.gen = last.gen + 1) (F : Int) (hFb : F ≤ 9223372036854775807) (ks : List Int) (torn : Bool) (cut : Int) :
    ∃ (e : Nat) (r : Dk.D), save (Dk.fused d F) m = (e, r) ∧ (e = 0 ∧ r.down = false ∨ e = 40 ∧ r.down = true) ∧ Dk.Ok r ∧ r.pend.length ≤ 1 ∧
      (e = 0 → F < 0 → At (k + 1) r m) ∧ (¬ (e = 0 ∧ F < 0) → ∃ n, At (k + 1) (Dk.crash r ks torn cut) n ∧ (n = m ∨ n = last ∧ e ≠ 0)) := by
  have hb := body_le m
  have ho := gen_odd m
  have hN0 : 0 ≤ m.gen % 2 := by omega
  have hN1 : m.gen % 2 < 2 := by omega
  have hno : m.gen % 2 = (last.gen + 1) % 2 := by rw [hg]
  have hsec : ∀ n, n ≠ m.gen % 2 → Dk.cur (Dk.kept d (m.gen % 2) (body m)) n = Dk.cur d n := fun n hn => by rw [Dk.kept_cur h.q, if_neg hn]
  have hnew : secM (Dk.cur (Dk.kept d (m.gen % 2) (body m)) (m.gen % 2)) (m.gen % 2) = m := by rw [Dk.kept_cur h.q, if_pos rfl]; exact secM_sec d m hm
  by_cases hF : F < 0
  · rw [Dk.fused_neg h.q F hF]
    have hk := Dk.kept_q h.q (N := m.gen % 2) hN0 hN1 (p := body m) (by omega)
    refine ⟨0, _, save_q h.q (by omega) m hm, .inl ⟨rfl, hk.down⟩, hk.ok, by rw [hk.pend]; simp, fun _ _ => h.new hm hg hk hsec hnew, fun hc => absurd ⟨rfl, hF⟩ hc⟩
  · have hp := Dk.put_fuse h.q hN0 hN1 (p := body m) (by omega) F (by omega)
    have hsv : save (Dk.fused d F) m = if (Dk.put2 (Dk.fused d F) (m.gen % 2) (body m)).1 ≠ 0 then Dk.put2 (Dk.fused d F) (m.gen % 2) (body m) else Dk.sync (Dk.put2 (Dk.fused d F) (m.gen % 2) (body m)).2 := by
      unfold save
      rw [if_neg (by rw [hm]; simp)]
    rw [hp] at hsv
    by_cases hF0 : F = 0
    · rw [if_pos hF0] at hsv
      simp only at hsv
      rw [if_pos (by simp)] at hsv
      have hok : Dk.Ok { d with fuse := 0, down := true } := ⟨h.q.ok.size, h.q.ok.syn, h.q.ok.now, h.q.ok.pend, by simp, h.q.ok.syncs⟩
      obtain ⟨c1, c2⟩ := Dk.crash_clean (k := k + 1) hok h.q.size h.q.pend ks torn cut
      refine ⟨40, _, hsv, .inr ⟨rfl, rfl⟩, hok, by show d.pend.length ≤ 1; rw [h.q.pend]; simp, fun e => absurd e (by simp), fun _ => ⟨last, h.keep c1 (fun n => ?_), .inr ⟨rfl, by simp⟩⟩⟩
      rw [c2 n, Dk.q_cur h.q n]
    · rw [if_neg hF0] at hsv
      simp only at hsv
      rw [if_neg (by simp)] at hsv
      have hokp := Dk.put_ok2 h.q hN0 hN1 (p := body m) (by omega)
      have hpend : (Dk.put { d with fuse := F - 1 } (m.gen % 2) (Dk.secOf d (m.gen % 2) (body m))).pend = [(m.gen % 2, Dk.secOf d (m.gen % 2) (body m))] := by
        show d.pend ++ _ = _
        rw [h.q.pend]; rfl
      by_cases hF1 : F = 1
      · have hst : Dk.sync (Dk.put { d with fuse := F - 1 } (m.gen % 2) (Dk.secOf d (m.gen % 2) (body m))) = (40, { Dk.put { d with fuse := F - 1 } (m.gen % 2) (Dk.secOf d (m.gen % 2) (body m)) with down := true }) := by
          have hs1 : Dk.step (Dk.put { d with fuse := F - 1 } (m.gen % 2) (Dk.secOf d (m.gen % 2) (body m))) = (40, { Dk.put { d with fuse := F - 1 } (m.gen % 2) (Dk.secOf d (m.gen % 2) (body m)) with down := true }) := by
            unfold Dk.step
            rw [if_pos (by show (d.down || (F - 1 == 0)) = true; rw [hF1]; simp)]
          unfold Dk.sync
          rw [hs1, if_pos (by simp)]
        rw [hst] at hsv
        have hok : Dk.Ok { Dk.put { d with fuse := F - 1 } (m.gen % 2) (Dk.secOf d (m.gen % 2) (body m)) with down := true } := ⟨hokp.size, hokp.syn, hokp.now, hokp.pend, by show -1 ≤ F - 1 ∧ F - 1 ≤ _; omega, hokp.syncs⟩
        have hcr : Dk.crash { Dk.put { d with fuse := F - 1 } (m.gen % 2) (Dk.secOf d (m.gen % 2) (body m)) with down := true } ks torn cut = Dk.fallen d (m.gen % 2) (body m) ks torn cut := Dk.crash_same _ _ ks torn cut rfl rfl rfl
        have hfq := Dk.fallen_q h.q hN0 hN1 (p := body m) (by omega) ks torn cut
        have hfc : ∀ n, n ≠ m.gen % 2 → Dk.cur (Dk.fallen d (m.gen % 2) (body m) ks torn cut) n = Dk.cur d n := fun n hn => by rw [Dk.fallen_cur h.q, if_neg hn]
        refine ⟨40, _, hsv, .inr ⟨rfl, rfl⟩, hok, by show (Dk.put { d with fuse := F - 1 } (m.gen % 2) (Dk.secOf d (m.gen % 2) (body m))).pend.length ≤ 1; rw [hpend]; simp, fun e => absurd e (by simp), fun _ => ?_⟩
        rw [hcr]
        cases ho2 : Dk.opn (Dk.cur (Dk.fallen d (m.gen % 2) (body m) ks torn cut) (m.gen % 2)) with
        | none =>
          refine ⟨last, h.not hfq (by rw [← hno]; exact hfc) ?_, .inr ⟨rfl, by simp⟩⟩
          rw [← hno]
          unfold secM
          rw [ho2]
          exact (may_gen h.may).1
        | some q =>
          rcases Dk.fallen_opn h.q (by omega) ks torn cut ho2 with hq | hq
          · refine ⟨m, h.new hm hg hfq hfc ?_, .inl rfl⟩
            unfold secM
            rw [ho2, hq]
            show take (Dk.wantOf (body m)) _ _ = _
            unfold Dk.wantOf
            rw [take_rec m hm, if_pos ⟨(may_gen hm).1, rfl⟩]
          · refine ⟨last, h.not hfq (by rw [← hno]; exact hfc) ?_, .inr ⟨rfl, by simp⟩⟩
            have h2 := h.old
            rw [← hno] at h2 ⊢
            unfold secM at h2 ⊢
            rw [ho2]
            rw [hq] at h2
            exact h2
      · have hst : Dk.sync (Dk.put { d with fuse := F - 1 } (m.gen % 2) (Dk.secOf d (m.gen % 2) (body m))) = (0, Dk.synced { Dk.put { d with fuse := F - 1 } (m.gen % 2) (Dk.secOf d (m.gen % 2) (body m)) with fuse := F - 1 - 1 }) := by
          have hs1 : Dk.step (Dk.put { d with fuse := F - 1 } (m.gen % 2) (Dk.secOf d (m.gen % 2) (body m))) = (0, { Dk.put { d with fuse := F - 1 } (m.gen % 2) (Dk.secOf d (m.gen % 2) (body m)) with fuse := F - 1 - 1 }) := by
            unfold Dk.step
            rw [if_neg (by show ¬ (d.down || (F - 1 == 0)) = true; rw [h.q.down]; simp; omega)]
            show (0, _) = _
            rw [show (if 0 < (Dk.put { d with fuse := F - 1 } (m.gen % 2) (Dk.secOf d (m.gen % 2) (body m))).fuse then (Dk.put { d with fuse := F - 1 } (m.gen % 2) (Dk.secOf d (m.gen % 2) (body m))).fuse - 1 else (Dk.put { d with fuse := F - 1 } (m.gen % 2) (Dk.secOf d (m.gen % 2) (body m))).fuse) = F - 1 - 1 from if_pos (by show 0 < F - 1; omega)]
          unfold Dk.sync
          rw [hs1, if_neg (by simp)]
        rw [hst] at hsv
        have hk := Dk.kept_q h.q (N := m.gen % 2) hN0 hN1 (p := body m) (by omega)
        have hok : Dk.Ok (Dk.synced { Dk.put { d with fuse := F - 1 } (m.gen % 2) (Dk.secOf d (m.gen % 2) (body m)) with fuse := F - 1 - 1 }) := Dk.synced_ok ⟨hokp.size, hokp.syn, hokp.now, hokp.pend, by show -1 ≤ F - 1 - 1 ∧ F - 1 - 1 ≤ _; omega, hokp.syncs⟩
        obtain ⟨c1, c2⟩ := Dk.crash_clean (z := 2) (k := k + 1) hok h.q.size rfl ks torn cut
        have hcc : ∀ n, Dk.cur (Dk.crash (Dk.synced { Dk.put { d with fuse := F - 1 } (m.gen % 2) (Dk.secOf d (m.gen % 2) (body m)) with fuse := F - 1 - 1 }) ks torn cut) n = Dk.cur (Dk.kept d (m.gen % 2) (body m)) n := fun n => by rw [c2 n, Dk.q_cur hk n]; rfl
        refine ⟨0, _, hsv, .inl ⟨rfl, h.q.down⟩, hok, by show (0 : Nat) ≤ 1; omega, fun _ hlt => absurd hlt hF, fun _ => ⟨m, h.new hm hg c1 (fun n hn => by rw [hcc, hsec n hn]) (by rw [hcc]; exact hnew), .inl rfl⟩⟩
end Ms
end Go.Proofs.Ytfcmlfcpgboigaa
