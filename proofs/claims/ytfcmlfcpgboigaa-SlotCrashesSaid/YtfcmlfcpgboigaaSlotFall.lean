/- A disk with a fuse, and its fall: plain data. -/
import Derived.Test.YtfcmlfcpgboigaaSlotAll
import Derived.Test.YtfcmlfcpgboigaaAppInts
namespace Go.Proofs.Ytfcmlfcpgboigaa
open Go.RowKit Mem
set_option linter.unusedVariables false
set_option linter.unusedSimpArgs false

namespace Dk
open Stamp
theorem crashTo_same (d e : D) (ks : List Int) (torn : Bool) (cut : Int) (hs : d.syn = e.syn) (hp : d.pend = e.pend) : ∀ i, crashTo d ks torn cut i = crashTo e ks torn cut i
  | 0 => hs
  | i + 1 => by
    unfold crashTo
    rw [crashTo_same d e ks torn cut hs hp i, hp]
theorem crash_same (d e : D) (ks : List Int) (torn : Bool) (cut : Int) (hz : d.size = e.size) (hs : d.syn = e.syn) (hp : d.pend = e.pend) : crash d ks torn cut = crash e ks torn cut := by
  unfold crash
  rw [crashTo_same d e ks torn cut hs hp, hz, hp]
theorem crash_clean {z : Int} {k : Nat} {d : D} (hok : Ok d) (hz : d.size = z) (hp : d.pend = []) (ks : List Int) (torn : Bool) (cut : Int) : Q z k (crash d ks torn cut) ∧ ∀ n, cur (crash d ks torn cut) n = (d.syn n).getD zeros := by
  refine ⟨⟨crash_ok hok ks torn cut, hz, rfl, fun _ => rfl, rfl, rfl, by show (0 : Int) ≤ _; omega⟩, fun n => ?_⟩
  show (crashTo d ks torn cut d.pend.length n).getD zeros = _
  rw [hp]
  rfl
theorem q_cur {z : Int} {k : Nat} {d : D} (h : Q z k d) (n : Int) : cur d n = (d.syn n).getD zeros := by unfold cur; rw [h.now n]; rfl
theorem fused_neg {z : Int} {k : Nat} {d : D} (h : Q z k d) (F : Int) (hF : F < 0) : fused d F = d := by
  have hf := h.fuse
  unfold fused
  cases d
  simp only at hf ⊢
  subst hf
  congr 1
  omega
/-- a put with a fuse -/
theorem put_fuse {z : Int} {k : Nat} {d : D} (h : Q z k d) {N : Int} (h0 : 0 ≤ N) (h1 : N < z) {p : List UInt8} (hp : p.length ≤ 254) (F : Int) (hF : 0 ≤ F) :
    put2 (fused d F) N p = if F = 0 then (40, { d with fuse := 0, down := true }) else (0, put { d with fuse := F - 1 } N (secOf d N p)) := by
  have hs := h.size
  have hm : max F (-1) = F := by omega
  have ha : at_ (fused d F) N = 0 := by unfold at_; rw [if_neg (by simp only [fused]; omega)]
  have hr : read (fused d F) N = (cur d N, 0) := by
    unfold read
    rw [ha, if_neg (by simp), show (fused d F).down = false from h.down]
    rfl
  have hc : cur (fused d F) N = cur d N := rfl
  unfold put2
  rw [if_neg (by omega), hr, if_neg (by simp), hc]
  show write (fused d F) N (secOf d N p) = _
  unfold write
  rw [ha, if_neg (by simp), if_neg (by rw [secOf_length d N p hp]; simp)]
  by_cases hF0 : F = 0
  · have hst : step (fused d F) = (40, { d with fuse := 0, down := true }) := by
      unfold step
      rw [if_pos (by rw [show (fused d F).fuse = max F (-1) from rfl, hm, hF0]; simp)]
      unfold fused
      rw [hm, hF0]
    rw [hst, if_pos (by simp), if_pos hF0]
  · have hst : step (fused d F) = (0, { d with fuse := F - 1 }) := by
      unfold step
      rw [if_neg (by rw [show (fused d F).fuse = max F (-1) from rfl, show (fused d F).down = false from h.down, hm]; simp; exact hF0)]
      unfold fused
      simp only [hm]
      rw [if_pos (by omega)]
    rw [hst, if_neg (by simp), if_neg hF0]
end Dk
namespace Sp
open Stamp
/-- WHERE A DISK STANDS: of each page the last one in its sector, an older one, or none, in the other one. -/
structure At (k : Nat) (d : Dk.D) (h : Nat → B) : Prop where
  q : Dk.Q 8 k d
  few : ∀ n, n < 3 → (h n).2.2 < k
  here : ∀ n : Nat, n < 3 → sec (Dk.cur d (2 + 2 * (n : Int) + (h n).2.2 % 2)) ((h n).2.2 % 2) = h n
  old : ∀ n : Nat, n < 3 → (sec (Dk.cur d (2 + 2 * (n : Int) + ((h n).2.2 + 1) % 2)) (((h n).2.2 + 1) % 2)).2.2 < (h n).2.2 ∨ sec (Dk.cur d (2 + 2 * (n : Int) + ((h n).2.2 + 1) % 2)) (((h n).2.2 + 1) % 2) = none_ ∧ h n = none_
theorem At.nonneg {k : Nat} {d : Dk.D} {h : Nat → B} (a : At k d h) {n : Nat} (hn : n < 3) : 0 ≤ (h n).2.2 ∧ ((h n).2.2 = 0 → h n = none_) := by
  have := sec_last (Dk.cur d (2 + 2 * (n : Int) + (h n).2.2 % 2)) ((h n).2.2 % 2)
  rw [a.here n hn] at this
  exact this
theorem At.load {k : Nat} {d : Dk.D} {h : Nat → B} (a : At k d h) {n : Nat} (hn : n < 3) : load 2 (n : Int) (Dk.get2 d) = (h n, 0) := by
  have h0 := (a.nonneg hn).1
  have h1 := a.here n hn
  have h2 := a.old n hn
  rw [load_q a.q (by unfold out; omega) (by omega)]
  have ht : (h n).2.2 % 2 = 0 ∨ (h n).2.2 % 2 = 1 := by omega
  rcases ht with ht | ht
  · rw [ht, Int.add_zero] at h1
    rw [show ((h n).2.2 + 1) % 2 = 1 by omega] at h2
    rw [h1]
    unfold best
    rcases h2 with h2 | ⟨h2, h3⟩
    · rw [if_neg (by omega)]
    · rw [h2, h3]; rfl
  · rw [ht] at h1
    rw [show ((h n).2.2 + 1) % 2 = 0 by omega, Int.add_zero] at h2
    rw [h1]
    unfold best
    rcases h2 with h2 | ⟨h2, h3⟩
    · rw [if_pos h2]
    · rw [h2, h3]; rfl
/-- the pages, the n0-th another one -/
def put (h : Nat → B) (n0 : Nat) (b : B) : Nat → B := fun n => if n = n0 then b else h n
theorem put_same (h : Nat → B) (n0 : Nat) (b : B) : put h n0 b n0 = b := if_pos rfl
theorem put_other (h : Nat → B) {n n0 : Nat} (e : n ≠ n0) (b : B) : put h n0 b n = h n := if_neg e
theorem At.keep {k j : Nat} {d e : Dk.D} {h : Nat → B} (a : At k d h) (hj : k ≤ j) (hq : Dk.Q 8 j e) (hc : ∀ n, Dk.cur e n = Dk.cur d n) : At j e h :=
  ⟨hq, fun n hn => by have := a.few n hn; omega, fun n hn => by rw [hc]; exact a.here n hn, fun n hn => by rw [hc]; exact a.old n hn⟩
theorem At.more {k j : Nat} {d : Dk.D} {h : Nat → B} (a : At k d h) (hj : k ≤ j) (hq : Dk.Q 8 j d) : At j d h := a.keep hj hq (fun _ => rfl)
/-- the new page has got its sector -/
theorem At.new {k j : Nat} {d e : Dk.D} {h : Nat → B} {n0 : Nat} {b : B} (a : At k d h) (hn0 : n0 < 3) (hj : k < j) (hb : b.2.2 = (h n0).2.2 + 1) (hq : Dk.Q 8 j e) (hc : ∀ m, m ≠ 2 + 2 * (n0 : Int) + b.2.2 % 2 → Dk.cur e m = Dk.cur d m) (hs : sec (Dk.cur e (2 + 2 * (n0 : Int) + b.2.2 % 2)) (b.2.2 % 2) = b) : At j e (put h n0 b) := by
  have hf := a.few n0 hn0
  refine ⟨hq, fun n hn => ?_, fun n hn => ?_, fun n hn => ?_⟩
  · by_cases e : n = n0
    · subst e; rw [put_same]; omega
    · rw [put_other h e]; have := a.few n hn; omega
  · by_cases e : n = n0
    · subst e; rw [put_same]; exact hs
    · rw [put_other h e, hc _ (by omega)]; exact a.here n hn
  · by_cases e : n = n0
    · subst e
      rw [put_same]
      left
      rw [show (b.2.2 + 1) % 2 = (h n).2.2 % 2 by omega, hc _ (by omega), a.here n hn]
      omega
    · rw [put_other h e, hc _ (by omega)]; exact a.old n hn
/-- it has not -/
theorem At.not {k j : Nat} {d e : Dk.D} {h : Nat → B} {n0 : Nat} (a : At k d h) (hn0 : n0 < 3) (hj : k ≤ j) (hq : Dk.Q 8 j e) (hc : ∀ m, m ≠ 2 + 2 * (n0 : Int) + ((h n0).2.2 + 1) % 2 → Dk.cur e m = Dk.cur d m)
    (hs : (sec (Dk.cur e (2 + 2 * (n0 : Int) + ((h n0).2.2 + 1) % 2)) (((h n0).2.2 + 1) % 2)).2.2 < (h n0).2.2 ∨ sec (Dk.cur e (2 + 2 * (n0 : Int) + ((h n0).2.2 + 1) % 2)) (((h n0).2.2 + 1) % 2) = none_ ∧ h n0 = none_) : At j e h := by
  refine ⟨hq, fun n hn => by have := a.few n hn; omega, fun n hn => ?_, fun n hn => ?_⟩
  · by_cases e : n = n0
    · subst e; rw [hc _ (by omega)]; exact a.here n hn
    · rw [hc _ (by omega)]; exact a.here n hn
  · by_cases e : n = n0
    · subst e; exact hs
    · rw [hc _ (by omega)]; exact a.old n hn
theorem at_new : At 1 (Dk.new 8) (fun _ => none_) := by
  have hq : Dk.Q 8 0 (Dk.new 8) := Dk.q_new 8 (by omega)
  have hq1 : Dk.Q 8 1 (Dk.new 8) := ⟨hq.ok, hq.size, hq.pend, hq.now, hq.down, hq.fuse, by have := hq.syncs; omega⟩
  exact ⟨hq1, fun n hn => by rw [none_last]; omega, fun n hn => by rw [cur_new, sec_zeros], fun n hn => .inr ⟨by rw [cur_new, sec_zeros], rfl⟩⟩
set_option maxHeartbeats 1000000 in
/-- A SAVE, AND WHAT BECOMES OF THE DISK. -/
theorem fall {k : Nat} {d : Dk.D} {h : Nat → B} (a : At k d h) (hk : k ≤ 1000000) {n0 : Nat} (hn0 : n0 < 3) {lsn : Int} {l : List Pg.C} (hm : Pg.may lsn l = true) (F : Int) (hFb : F ≤ 9223372036854775807) (ks : List Int) (torn : Bool) (cut : Int) :
    ∃ (e : Nat) (r : Dk.D), save (Dk.fused d F) 2 (n0 : Int) ((h n0).2.2 + 1) lsn l = (e, r) ∧ (e = 0 ∧ r.down = false ∨ e = 40 ∧ r.down = true) ∧ Dk.Ok r ∧ r.pend.length ≤ 1 ∧
      (e = 0 → F < 0 → At (k + 1) r (put h n0 (lsn, l, (h n0).2.2 + 1))) ∧ (¬ (e = 0 ∧ F < 0) → ∃ g, At (k + 1) (Dk.crash r ks torn cut) g ∧ (g = put h n0 (lsn, l, (h n0).2.2 + 1) ∨ g = h ∧ e ≠ 0)) := by
  obtain ⟨t, ht⟩ : ∃ t, (h n0).2.2 = t := ⟨_, rfl⟩
  have ht0 := (a.nonneg hn0).1
  have htz := (a.nonneg hn0).2
  have htk := a.few n0 hn0
  have hold := a.old n0 hn0
  rw [ht] at ht0 htk htz hold ⊢
  have hnb : ¬ bad 2 (n0 : Int) (t + 1) lsn l := by
    unfold bad out
    rw [hm]
    simp
    omega
  have hb := body_le (turn := t + 1) hm
  obtain ⟨N, hN⟩ : ∃ N, at_ 2 (n0 : Int) (t + 1) = N := ⟨_, rfl⟩
  have hN' : N = 2 + 2 * (n0 : Int) + (t + 1) % 2 := hN.symm
  have hN0 : 0 ≤ N := by omega
  have hN1 : N < 8 := by omega
  have hsec : ∀ m, m ≠ N → Dk.cur (Dk.kept d N (body (t + 1) lsn l)) m = Dk.cur d m := fun m hm' => by rw [Dk.kept_cur a.q, if_neg hm']
  have hnew : sec (Dk.cur (Dk.kept d N (body (t + 1) lsn l)) N) ((t + 1) % 2) = (lsn, l, t + 1) := by rw [Dk.kept_cur a.q, if_pos rfl]; exact sec_sec hm (by omega) (by omega)
  have mk : ∀ {e : Dk.D}, Dk.Q 8 (k + 1) e → (∀ m, m ≠ N → Dk.cur e m = Dk.cur d m) → sec (Dk.cur e N) ((t + 1) % 2) = (lsn, l, t + 1) → At (k + 1) e (put h n0 (lsn, l, t + 1)) := fun hq hc hs => by
    refine a.new hn0 (by omega) (by show t + 1 = _; rw [ht]) hq (fun m hm' => hc m (by rw [hN']; exact hm')) ?_
    show sec (Dk.cur _ (2 + 2 * (n0 : Int) + (t + 1) % 2)) ((t + 1) % 2) = _
    rw [← hN']; exact hs
  have mkn : ∀ {e : Dk.D}, Dk.Q 8 (k + 1) e → (∀ m, m ≠ N → Dk.cur e m = Dk.cur d m) → ((sec (Dk.cur e N) ((t + 1) % 2)).2.2 < t ∨ sec (Dk.cur e N) ((t + 1) % 2) = none_ ∧ h n0 = none_) → At (k + 1) e h := fun hq hc hs => by
    refine a.not hn0 (by omega) hq (fun m hm' => hc m (by rw [hN', ← ht]; exact hm')) ?_
    rw [ht, ← hN']; exact hs
  rw [← hN'] at hold
  by_cases hF : F < 0
  · rw [Dk.fused_neg a.q F hF]
    have hk2 := Dk.kept_q a.q (N := N) hN0 hN1 (p := body (t + 1) lsn l) (by omega)
    refine ⟨0, _, save_q a.q hnb (by rw [hN]; exact hN1), .inl ⟨rfl, ?_⟩, ?_, ?_, fun _ _ => ?_, fun hc => absurd ⟨rfl, hF⟩ hc⟩
    · rw [hN]; exact hk2.down
    · rw [hN]; exact hk2.ok
    · rw [hN, hk2.pend]; simp
    · rw [hN]; exact mk hk2 hsec hnew
  · have hp := Dk.put_fuse a.q hN0 hN1 (p := body (t + 1) lsn l) (by omega) F (by omega)
    have hsv : save (Dk.fused d F) 2 (n0 : Int) (t + 1) lsn l = if (Dk.put2 (Dk.fused d F) N (body (t + 1) lsn l)).1 ≠ 0 then Dk.put2 (Dk.fused d F) N (body (t + 1) lsn l) else Dk.sync (Dk.put2 (Dk.fused d F) N (body (t + 1) lsn l)).2 := by
      unfold save
      rw [if_neg hnb, hN]
    rw [hp] at hsv
    by_cases hF0 : F = 0
    · rw [if_pos hF0] at hsv
      simp only at hsv
      rw [if_pos (by simp)] at hsv
      have hok : Dk.Ok { d with fuse := 0, down := true } := ⟨a.q.ok.size, a.q.ok.syn, a.q.ok.now, a.q.ok.pend, by simp, a.q.ok.syncs⟩
      obtain ⟨c1, c2⟩ := Dk.crash_clean (k := k + 1) hok a.q.size a.q.pend ks torn cut
      refine ⟨40, _, hsv, .inr ⟨rfl, rfl⟩, hok, by show d.pend.length ≤ 1; rw [a.q.pend]; simp, fun e => absurd e (by simp), fun _ => ⟨h, a.keep (by omega) c1 (fun n => ?_), .inr ⟨rfl, by simp⟩⟩⟩
      rw [c2 n, Dk.q_cur a.q n]
    · rw [if_neg hF0] at hsv
      simp only at hsv
      rw [if_neg (by simp)] at hsv
      have hokp := Dk.put_ok2 a.q hN0 hN1 (p := body (t + 1) lsn l) (by omega)
      have hpend : (Dk.put { d with fuse := F - 1 } N (Dk.secOf d N (body (t + 1) lsn l))).pend = [(N, Dk.secOf d N (body (t + 1) lsn l))] := by
        show d.pend ++ _ = _
        rw [a.q.pend]; rfl
      by_cases hF1 : F = 1
      · have hst : Dk.sync (Dk.put { d with fuse := F - 1 } N (Dk.secOf d N (body (t + 1) lsn l))) = (40, { Dk.put { d with fuse := F - 1 } N (Dk.secOf d N (body (t + 1) lsn l)) with down := true }) := by
          have hs1 : Dk.step (Dk.put { d with fuse := F - 1 } N (Dk.secOf d N (body (t + 1) lsn l))) = (40, { Dk.put { d with fuse := F - 1 } N (Dk.secOf d N (body (t + 1) lsn l)) with down := true }) := by
            unfold Dk.step
            rw [if_pos (by show (d.down || (F - 1 == 0)) = true; rw [hF1]; simp)]
          unfold Dk.sync
          rw [hs1, if_pos (by simp)]
        rw [hst] at hsv
        have hok : Dk.Ok { Dk.put { d with fuse := F - 1 } N (Dk.secOf d N (body (t + 1) lsn l)) with down := true } := ⟨hokp.size, hokp.syn, hokp.now, hokp.pend, by show -1 ≤ F - 1 ∧ F - 1 ≤ _; omega, hokp.syncs⟩
        have hcr : Dk.crash { Dk.put { d with fuse := F - 1 } N (Dk.secOf d N (body (t + 1) lsn l)) with down := true } ks torn cut = Dk.fallen d N (body (t + 1) lsn l) ks torn cut := Dk.crash_same _ _ ks torn cut rfl rfl rfl
        have hfq := Dk.fallen_q a.q hN0 hN1 (p := body (t + 1) lsn l) (by omega) ks torn cut
        have hfc : ∀ m, m ≠ N → Dk.cur (Dk.fallen d N (body (t + 1) lsn l) ks torn cut) m = Dk.cur d m := fun m hm' => by rw [Dk.fallen_cur a.q, if_neg hm']
        refine ⟨40, _, hsv, .inr ⟨rfl, rfl⟩, hok, by show (Dk.put { d with fuse := F - 1 } N (Dk.secOf d N (body (t + 1) lsn l))).pend.length ≤ 1; rw [hpend]; simp, fun e => absurd e (by simp), fun _ => ?_⟩
        rw [hcr]
        cases ho2 : Dk.opn (Dk.cur (Dk.fallen d N (body (t + 1) lsn l) ks torn cut) N) with
        | none =>
          refine ⟨h, mkn hfq hfc ?_, .inr ⟨rfl, by simp⟩⟩
          have hz : sec (Dk.cur (Dk.fallen d N (body (t + 1) lsn l) ks torn cut) N) ((t + 1) % 2) = none_ := by
            unfold sec
            rw [ho2]
          rw [hz]
          by_cases h0 : t = 0
          · exact .inr ⟨rfl, htz h0⟩
          · exact .inl (by rw [none_last]; omega)
        | some q =>
          rcases Dk.fallen_opn a.q (by omega) ks torn cut ho2 with hq | hq
          · refine ⟨_, mk hfq hfc ?_, .inl rfl⟩
            have h2 := sec_sec (d := d) (N := N) hm (turn := t + 1) (by omega) (by omega)
            unfold sec at h2 ⊢
            rw [ho2, hq]
            rw [Dk.opn_sec (by omega)] at h2
            exact h2
          · refine ⟨h, mkn hfq hfc ?_, .inr ⟨rfl, by simp⟩⟩
            have hz : sec (Dk.cur (Dk.fallen d N (body (t + 1) lsn l) ks torn cut) N) ((t + 1) % 2) = sec (Dk.cur d N) ((t + 1) % 2) := by
              unfold sec
              rw [ho2, hq]
            rw [hz]
            exact hold
      · have hst : Dk.sync (Dk.put { d with fuse := F - 1 } N (Dk.secOf d N (body (t + 1) lsn l))) = (0, Dk.synced { Dk.put { d with fuse := F - 1 } N (Dk.secOf d N (body (t + 1) lsn l)) with fuse := F - 1 - 1 }) := by
          have hs1 : Dk.step (Dk.put { d with fuse := F - 1 } N (Dk.secOf d N (body (t + 1) lsn l))) = (0, { Dk.put { d with fuse := F - 1 } N (Dk.secOf d N (body (t + 1) lsn l)) with fuse := F - 1 - 1 }) := by
            unfold Dk.step
            rw [if_neg (by show ¬ (d.down || (F - 1 == 0)) = true; rw [a.q.down]; simp; omega)]
            show (0, _) = _
            rw [show (if 0 < (Dk.put { d with fuse := F - 1 } N (Dk.secOf d N (body (t + 1) lsn l))).fuse then (Dk.put { d with fuse := F - 1 } N (Dk.secOf d N (body (t + 1) lsn l))).fuse - 1 else (Dk.put { d with fuse := F - 1 } N (Dk.secOf d N (body (t + 1) lsn l))).fuse) = F - 1 - 1 from if_pos (by show 0 < F - 1; omega)]
          unfold Dk.sync
          rw [hs1, if_neg (by simp)]
        rw [hst] at hsv
        have hk2 := Dk.kept_q a.q (N := N) hN0 hN1 (p := body (t + 1) lsn l) (by omega)
        have hok : Dk.Ok (Dk.synced { Dk.put { d with fuse := F - 1 } N (Dk.secOf d N (body (t + 1) lsn l)) with fuse := F - 1 - 1 }) := Dk.synced_ok ⟨hokp.size, hokp.syn, hokp.now, hokp.pend, by show -1 ≤ F - 1 - 1 ∧ F - 1 - 1 ≤ _; omega, hokp.syncs⟩
        obtain ⟨c1, c2⟩ := Dk.crash_clean (z := 8) (k := k + 1) hok a.q.size rfl ks torn cut
        have hcc : ∀ n, Dk.cur (Dk.crash (Dk.synced { Dk.put { d with fuse := F - 1 } N (Dk.secOf d N (body (t + 1) lsn l)) with fuse := F - 1 - 1 }) ks torn cut) n = Dk.cur (Dk.kept d N (body (t + 1) lsn l)) n := fun n => by rw [c2 n, Dk.q_cur hk2 n]; rfl
        exact ⟨0, _, hsv, .inl ⟨rfl, a.q.down⟩, hok, by show (0 : Nat) ≤ 1; omega, fun _ hlt => absurd hlt hF, fun _ => ⟨_, mk c1 (fun n hn => by rw [hcc, hsec n hn]) (by rw [hcc]; exact hnew), .inl rfl⟩⟩
end Sp
/-- A DISK, its blocks not among X. -/
structure DX (w0 w : World) (p : Nat) (d : Dk.D) (X : Nat → Prop) (F : Nat → Prop) : Prop where
  at_ : DiskAt w p d F
  ge : ∀ k, F k → w0.heap.size ≤ k
  ne : ∀ k, F k → ¬ X k
  lt : ∀ k, X k → k < w.heap.size
  below : Below w0.heap.size w0 w
section
variable {w0 w w' : World} {p : Nat} {d d' : Dk.D} {X Y F : Nat → Prop}
theorem DX.grow (h : DX w0 w p d X F) (hb : Below w.heap.size w w') : DX w0 w' p d X F ∧ ∀ k, X k → w'.heap[k]? = w.heap[k]? :=
  ⟨⟨h.at_.below_ hb, h.ge, h.ne, fun k hk => Nat.lt_of_lt_of_le (h.lt k hk) hb.size, h.below.trans (hb.mono h.below.size)⟩, fun k hk => hb.block k (h.lt k hk)⟩
theorem DX.to (h : DX w0 w p d X F) (ht : DiskTo w F p d' w') : ∃ F', DX w0 w' p d' X F' ∧ ∀ k, X k → w'.heap[k]? = w.heap[k]? := by
  obtain ⟨F', g1, g2, g3⟩ := ht
  refine ⟨F', ⟨g1, fun k hk => ?_, fun k hk hx => ?_, fun k hk => Nat.lt_of_lt_of_le (h.lt k hk) g2.size, h.below.trans (g2.below h.below.size h.ge)⟩, fun k hk => g2.block k (h.lt k hk) (fun hf => h.ne k hf hk)⟩
  · rcases g3 k hk with y | y
    · exact h.ge k y
    · exact Nat.le_trans h.below.size y
  · rcases g3 k hk with y | y
    · exact h.ne k y hx
    · have := h.lt k hx; omega
/-- more blocks that it may not touch: new ones -/
theorem DX.more (h : DX w0 w p d X F) (hb : Below w.heap.size w w') (hY : ∀ k, Y k → X k ∨ w.heap.size ≤ k ∧ k < w'.heap.size) : DX w0 w' p d Y F := by
  have hb2 := hb.size
  refine ⟨h.at_.below_ hb, h.ge, fun k hk hy => ?_, fun k hk => ?_, h.below.trans (hb.mono h.below.size)⟩
  · rcases hY k hy with y | y
    · exact h.ne k hk y
    · have := h.at_.bound k hk; omega
  · rcases hY k hk with y | y
    · exact Nat.lt_of_lt_of_le (h.lt k y) hb.size
    · exact y.2
theorem DX.less (h : DX w0 w p d X F) (hY : ∀ k, Y k → X k) : DX w0 w p d Y F := ⟨h.at_, h.ge, fun k hk hy => h.ne k hk (hY k hy), fun k hk => h.lt k (hY k hk), h.below⟩
theorem dx_fuse (h : DX w0 w p d X F) (n : Int) : Calls Try.prog 30 #[.pointer (some ⟨p, 0, none⟩), .int .i64 n] w fun e w' => e = .returned (.tuple #[]) ∧ ∃ F', DX w0 w' p (Dk.fused d n) X F' ∧ ∀ k, X k → w'.heap[k]? = w.heap[k]? := by
  obtain ⟨r1, r2, v, hd, hF, hB⟩ := h.at_
  refine (fuse_any p r1 r2 v d n w hd).mono ?_
  rintro e w' ⟨rfl, hd', hf⟩
  refine ⟨rfl, h.to ⟨F, ⟨r1, r2, v, hd', hF, fun k x => by have := hB k x; have := hf.size; omega⟩, hf.mono (fun i hi e => hF i (.inl e)), fun k x => .inl x⟩⟩
theorem dx_ssave (h : DX w0 w p d X F) (base n turn lsn : Int) (A : Option Addr) (m c : Nat) (l : List Pg.C) (hok : Dk.Ok d) (hlen : d.pend.length ≤ 999999) (hsy : d.syncs ≤ 999999) (hl : ST cellK w A m l) (hm : m ≤ 1000000) (hlsn : -9223372036854775808 ≤ lsn ∧ lsn ≤ 9223372036854775807) :
    Calls Try.prog 48 #[.pointer (some ⟨p, 0, none⟩), .int .i64 base, .int .i64 n, .int .i64 turn, pVal lsn A m c] w fun e w' => e = .returned (.int .i64 ((Sp.save d base n turn lsn l).1 : Nat)) ∧ ∃ F', DX w0 w' p (Sp.save d base n turn lsn l).2 X F' ∧ ∀ k, X k → w'.heap[k]? = w.heap[k]? := by
  refine (ssave_any p d F base n turn lsn A m c l w h.at_ hok hlen hsy hl hm hlsn).mono ?_
  rintro e w' ⟨rfl, hT⟩
  exact ⟨rfl, h.to hT⟩
theorem dx_sload (h : DX w0 w p d X F) (base n : Int) (hok : Dk.Ok d) : Calls Try.prog 49 #[.pointer (some ⟨p, 0, none⟩), .int .i64 base, .int .i64 n] w (PagTE w (Sp.load base n (Dk.get2 d))) :=
  sload_any (some ⟨p, 0, none⟩) base n (Dk.get2 d) w (fun k W hb => get_any p d F k W (h.at_.below_ hb) hok) (Dk.get_len hok)
theorem dx_down (h : DX w0 w p d X F) : Calls Try.prog 41 #[.pointer (some ⟨p, 0, none⟩)] w fun e w' => e = .returned (.bool d.down) ∧ w' = w := by
  obtain ⟨r1, r2, v, hd, hF, hB⟩ := h.at_
  exact down_any p d.down w hd.cells.2.2.2.2.2.1
theorem dx_crash (h : DX w0 w p d X F) (hok : Dk.Ok d) (AK : Option Addr) (nk ck : Nat) (ks : List Int) (torn : Bool) (cut : Int) (hK : IS w AK nk ks) (hnk : nk ≤ 1000000) (hpl : d.pend.length ≤ 1000000) :
    Calls Try.prog 42 #[.pointer (some ⟨p, 0, none⟩), .agg #[.slice AK nk ck, .bool torn, .int .i64 cut]] w fun e w' => ∃ x F', e = .returned (.pointer (some ⟨x, 0, none⟩)) ∧ DX w0 w' x (Dk.crash d ks torn cut) X F' ∧ ∀ k, X k → w'.heap[k]? = w.heap[k]? := by
  refine (crash_any p d F AK nk ck ks torn cut w h.at_ hok hK hnk hpl).mono ?_
  rintro e w' ⟨x, rfl, g1, F', g2, g3⟩
  exact ⟨x, F', rfl, ⟨g2, fun k hk => Nat.le_trans h.below.size (g3 k hk), fun k hk hx => by have := g3 k hk; have := h.lt k hx; omega, fun k hk => Nat.lt_of_lt_of_le (h.lt k hk) g1.size, h.below.trans (g1.mono h.below.size)⟩, fun k hk => g1.block k (h.lt k hk)⟩
end
end Go.Proofs.Ytfcmlfcpgboigaa
