/- The document's disk: Now, Read, Sync. -/
import Derived.Test.YtaooimhodoefoaaRef04
import Derived.Laws.NewBlocks
namespace Go.Proofs.Ytaooimhodoefoaa
open Go.RowKit Mem
set_option linter.unusedVariables false
set_option linter.unusedSimpArgs false

theorem rinfo8 : (Try.prog.info? 5).map (fun i => (i.zero, i.size, i.bytes)) = some (some (.int .u8 0), 1, 1) := by kernel_rfl
theorem RefIn.wcell {w : World} {q : Nat} {d : Dk.D} {sv lv : Value} {xs ys : List Value} {G : Nat → Prop} (h : RefIn w q d sv xs lv ys G) {k : Nat} (hk : k < d.pend.length) :
    ∃ g c v, lv = .slice (some ⟨g, 0, none⟩) d.pend.length c ∧ w.cell? ⟨g, k * 2, none⟩ = some (.int .i64 (d.pend.getD k (0, [])).1) ∧ w.cell? ⟨g, k * 2 + 1, none⟩ = some v ∧ SecAt w G v (d.pend.getD k (0, [])).2 := by
  obtain ⟨g, cap, hv, _, hlt⟩ := h.lrow.form (by omega)
  subst hv
  obtain ⟨h1, v, h2, h3⟩ := h.list k hk
  have hadd : ∀ i, (⟨g, 0, none⟩ : Addr).add i = ⟨g, i, none⟩ := by intro i; unfold Addr.add; split <;> simp_all
  refine ⟨g, cap, v, rfl, ?_, ?_, h3⟩
  · have := h.lrow.cells (g := g) rfl (k * 2) _ h1
    rwa [hadd] at this
  · have := h.lrow.cells (g := g) rfl (k * 2 + 1) _ h2
    rwa [hadd] at this
theorem RefIn.scell {w : World} {q : Nat} {d : Dk.D} {sv lv : Value} {xs ys : List Value} {G : Nat → Prop} (h : RefIn w q d sv xs lv ys G) {k : Nat} (hk : k < xs.length) :
    ∃ g c v, sv = .slice (some ⟨g, 0, none⟩) xs.length c ∧ w.cell? ⟨g, k, none⟩ = some v ∧ SecAt w G v ((d.syn k).getD Dk.zeros) := by
  obtain ⟨g, cap, hv, _, hlt⟩ := h.srow.form (by omega)
  subst hv
  have hx : xs[k]? = some xs[k] := List.getElem?_eq_getElem hk
  have hadd : ∀ i, (⟨g, 0, none⟩ : Addr).add i = ⟨g, i, none⟩ := by intro i; unfold Addr.add; split <;> simp_all
  refine ⟨g, cap, xs[k], rfl, ?_, h.syn k _ hx⟩
  have := h.srow.cells (g := g) rfl k _ hx
  rwa [hadd] at this
/-- behind k writes -/
def nowTo (d : Dk.D) (n : Int) (k : Nat) : List UInt8 := (Dk.lastOf (d.pend.take k) n).getD ((d.syn n).getD Dk.zeros)
theorem nowTo_all (d : Dk.D) (n : Int) (h : Dk.Nw d) : nowTo d n d.pend.length = Dk.cur d n := by
  unfold nowTo Dk.cur
  rw [List.take_of_length_le (Nat.le_refl _), h n]
theorem nowTo_step (d : Dk.D) (n : Int) (k : Nat) (hk : k < d.pend.length) : nowTo d n (k + 1) = if (d.pend.getD k (0, [])).1 = n then (d.pend.getD k (0, [])).2 else nowTo d n k := by
  unfold nowTo
  rw [Dk.lastOf_take _ _ hk]
  split <;> rfl
set_option maxRecDepth 100000 in
set_option maxHeartbeats 2000000 in
theorem rnow_any (q : Nat) (d : Dk.D) (G : Nat → Prop) (n : Nat) (w : World) (hD : RefAt w q d G) (hok : Dk.Ok d) (hnw : Dk.Nw d) (hn : (n : Int) < d.size) (hlen : d.pend.length ≤ 1000000) :
    Calls Try.prog 38 #[.pointer (some ⟨q, 0, none⟩), .int .i64 (n : Int)] w (OwnB 5 w (Dk.cur d n)) := by
  obtain ⟨sv, xs, lv, ys, hd⟩ := hD
  have hsz := hok.size
  have hxl : n < xs.length := by have := hd.slen; omega
  have hx4 : xs.length ≤ 4096 := by have := hd.slen; omega
  obtain ⟨g, c, v0, rfl, cs, hv0⟩ := hd.scell hxl
  obtain ⟨k0, k1, _, _, _⟩ := hd.cells
  obtain ⟨LA, lc, rfl⟩ := own_slice hd.lrow
  obtain ⟨i0, hi0, hz0, hz1, hz2⟩ := info_parts rinfo8
  have hcl := Dk.cur_length hok n
  have HI := Lib.hid (And.intro hi0 (And.intro hz0 (And.intro hz1 hz2)))
  have H := Lib.hid (And.intro hd (And.intro hnw (And.intro hcl hv0)))
  clear hd hnw hcl hi0 hz0 hz1 hz2 hv0
  go_enter Try.func38, Try.ntmps38
  go_wp2
  go_loop [5, 6] (fun s i => ∃ k : Nat, k ≤ d.pend.length ∧ i = .int .i64 k ∧ SecAt w G s (nowTo d n k)) (fun _ i => d.pend.length - (intOf i).toNat)
  case atStart => exact ⟨0, by omega, rfl, by unfold nowTo; simpa [Dk.lastOf] using H.out.2.2.2⟩
  case round =>
    obtain ⟨k, hk, rfl, hs⟩ := hrel
    by_cases hlt : k < d.pend.length
    · obtain ⟨g1, c1, v1, e1, w0, w1, hv1⟩ := H.out.1.wcell hlt
      injection e1 with e1 _ e2
      subst e1 e2
      have hst := nowTo_step d n k hlt
      generalize d.pend.getD k (0, []) = x at *
      by_cases hx : x.1 = (n : Int)
      · rw [if_pos hx] at hst
        have hb : (x.1 == (n : Int)) = true := by simpa using hx
        have HS := Lib.hid (And.intro hv1 hst)
        clear hv1 hst hs hx
        go_wp2
        go_round
        case rel => exact ⟨k + 1, by omega, by go_num, by rw [HS.out.2]; exact HS.out.1⟩
        case measure => simp [intOf]; omega
      · rw [if_neg hx] at hst
        have hb : (x.1 == (n : Int)) = false := by simpa using hx
        have HS := Lib.hid (And.intro hs hst)
        clear hv1 hst hs hx
        go_wp2
        go_round
        case rel => exact ⟨k + 1, by omega, by go_num, by rw [HS.out.2]; exact HS.out.1⟩
        case measure => simp [intOf]; omega
    · obtain rfl : k = d.pend.length := by omega
      rw [nowTo_all d n H.out.2.1] at hs
      obtain ⟨A, c2, rfl, hbs, h1, h2, h3⟩ := hs.bytes
      have h' : BS (w.alloc (.cells #[] 5)) A 256 (Dk.cur d n) := hbs.keep (by simp) (fun b hb => Below.heap_alloc _ _ _ hb)
      have ho : (w.alloc (.cells #[] 5)).ownsRow w.heap.size 5 1 (.slice (some ⟨w.heap.size, 0, none⟩) 0 0) 0 [] := World.ownsRow_made w #[] 0 (Nat.le_refl _) (by simp [maxLen]) (by simp)
      have H' := Lib.hid (And.intro h' ho)
      clear h' ho hbs hs h1 h2 h3
      go_wp2_with (at_builtin; refine wpList_append_bs _ rfl _ _ 22 rfl w.heap.size 5 i0 Try.underlying22 HI.out.1 HI.out.2.1 HI.out.2.2.1 HI.out.2.2.2 (.slice (some ⟨w.heap.size, 0, none⟩) 0 0) 0 [] rfl H'.out.2 A 256 c2 (Dk.cur d n) rfl H'.out.1 (by omega) (by simp) ?_; intro v' w1 hown hg hat)
      go_ret
      refine ⟨v', rfl, ?_, ?_⟩
      · rw [H.out.2.2.1]; simpa using hown
      · exact ((Below.refl _ _).alloc (Nat.le_refl _) _).grown hg (by simp) (by simp [Value.ownBlock])
theorem at_in_ {d : Dk.D} {n : Int} (h : Dk.at_ d n = 0) : 0 ≤ n ∧ n < d.size := by
  unfold Dk.at_ at h
  split at h
  · cases h
  · omega
def RReadE (w : World) (r : List UInt8 × Nat) (e : Ending) (w' : World) : Prop := ∃ A c, e = .returned (.tuple #[.slice A r.1.length c, .int .i64 (r.2 : Int)]) ∧ BS w' A r.1.length r.1 ∧ Below w.heap.size w w'
set_option maxRecDepth 100000 in
set_option maxHeartbeats 2000000 in
theorem rread_any (q : Nat) (d : Dk.D) (G : Nat → Prop) (n : Int) (w : World) (hD : RefAt w q d G) (hok : Dk.Ok d) (hnw : Dk.Nw d) (hlen : d.pend.length ≤ 1000000) :
    Calls Try.prog 45 #[.pointer (some ⟨q, 0, none⟩), .int .i64 n] w (RReadE w (Dk.read d n)) := by
  have hD' := hD
  obtain ⟨sv, xs, lv, ys, hd⟩ := hD
  obtain ⟨k0, _, _, k3, _⟩ := hd.cells
  have H := Lib.hid (And.intro hd (And.intro hD' (And.intro hok (And.intro hnw hlen))))
  clear hd hD' hok hnw hlen
  rcases at_01 d n with ha | ha
  · obtain ⟨h0, h1⟩ := at_in_ ha
    obtain ⟨m, rfl⟩ : ∃ m : Nat, n = m := ⟨n.toNat, by omega⟩
    have hR : Dk.read d m = if d.down then ([], 40) else (Dk.cur d m, 0) := by unfold Dk.read; rw [if_neg (by simpa using ha)]
    cases hdn : d.down with
    | true =>
      rw [hdn] at hR k3
      rw [hR]
      clear hR hdn
      go_enter Try.func45, Try.ntmps45
      go_wp2_with fail
      refine (ris_any q d sv xs m w k0 H.out.1.srow H.out.1.slen).mono ?_
      rintro e w1 ⟨rfl, hw1⟩
      subst hw1
      rw [ha]
      go_wp2
      go_ret2
      exact ⟨none, 0, rfl, BS.empty _ _, Below.refl _ _⟩
    | false =>
      rw [hdn] at hR k3
      rw [hR]
      clear hR hdn
      go_enter Try.func45, Try.ntmps45
      go_wp2_with fail
      refine (ris_any q d sv xs m w k0 H.out.1.srow H.out.1.slen).mono ?_
      rintro e w1 ⟨rfl, hw1⟩
      subst hw1
      rw [ha]
      go_wp2_with fail
      refine (rnow_any q d G m w H.out.2.1 H.out.2.2.1 H.out.2.2.2.1 h1 H.out.2.2.2.2).mono ?_
      rintro e w2 ⟨v, rfl, hown, hb⟩
      obtain ⟨A, c, rfl⟩ := own_slice hown
      have H2 := Lib.hid (And.intro (BS.of_own hown) hb)
      clear hown hb
      go_wp2
      go_ret2
      exact ⟨A, c, rfl, H2.out.1, H2.out.2⟩
  · have hR : Dk.read d n = ([], 1) := by unfold Dk.read; rw [if_pos (by omega)]
    rw [hR]
    clear hR
    go_enter Try.func45, Try.ntmps45
    go_wp2_with fail
    refine (ris_any q d sv xs n w k0 H.out.1.srow H.out.1.slen).mono ?_
    rintro e w1 ⟨rfl, hw1⟩
    subst hw1
    rw [ha]
    go_wp2
    go_ret2
    exact ⟨none, 0, rfl, BS.empty _ _, Below.refl _ _⟩
theorem RefIn.store {w : World} {q : Nat} {d : Dk.D} {sv lv : Value} {xs ys : List Value} {G : Nat → Prop} (h : RefIn w q d sv xs lv ys G) {g c m : Nat} (hsv : sv = .slice (some ⟨g, 0, none⟩) xs.length c) (hm : m < xs.length) {v : Value} {bs : List UInt8} (hv : SecAt w G v bs) :
    RefIn (w.setCell ⟨g, m, none⟩ v) q { d with syn := fun n => if n = (m : Int) then some bs else d.syn n } sv (xs.set m v) lv ys G := by
  have hob : sv.ownBlock = some g := by rw [hsv]; rfl
  have hk : ∀ k, k ≠ g → (w.setCell ⟨g, m, none⟩ v).heap[k]? = w.heap[k]? := fun k hk => Below.heap_setCell w _ v k hk
  obtain ⟨cur, hg⟩ := own_block h.srow hob
  have hsec : ∀ {u : Value} {b : List UInt8}, SecAt w G u b → SecAt (w.setCell ⟨g, m, none⟩ v) G u b := fun hu => hu.apart hg (by decide) (fun k _ => hk k)
  subst hsv
  refine ⟨h.blk.keep (hk q (fun e => h.qs hob e.symm)), ?_, by rw [List.length_set]; exact h.slen, fun i u hu => ?_, own_keep h.lrow (fun k e => hk k (fun e' => h.sl hob e e'.symm)), fun i hi => ?_, h.footq, h.foots, h.footl, fun k x => by rw [setCell_size]; exact h.bound k x⟩
  · have := (h.srow.stored m v).1
    rwa [List.length_set]
  · rw [List.getElem?_set] at hu
    by_cases e : m = i
    · subst e
      rw [if_pos rfl, if_pos hm] at hu
      injection hu with hu
      subst hu
      simp only [if_true]
      exact hsec hv
    · rw [if_neg e] at hu
      have : ¬ (i : Int) = (m : Int) := by omega
      simp only [if_neg this]
      exact hsec (h.syn i u hu)
  · obtain ⟨h1, u, h2, h3⟩ := h.list i hi
    exact ⟨h1, u, h2, hsec h3⟩
/-- what is synced behind k writes -/
def synTo (d : Dk.D) (k : Nat) : Int → Option (List UInt8) := fun n => (Dk.lastOf (d.pend.take k) n).or (d.syn n)
theorem synTo_step (d : Dk.D) (k : Nat) (hk : k < d.pend.length) (m : Nat) (hm : (d.pend.getD k (0, [])).1 = (m : Int)) : (fun n => if n = (m : Int) then some (d.pend.getD k (0, [])).2 else synTo d k n) = synTo d (k + 1) := by
  funext n
  unfold synTo
  rw [Dk.lastOf_take _ _ hk, hm]
  by_cases e : n = (m : Int)
  · rw [if_pos e, if_pos e.symm]; rfl
  · rw [if_neg e, if_neg (fun x => e x.symm)]
def RWriteTo (w : World) (G : Nat → Prop) (q : Nat) (r : Nat × Dk.D) (e : Ending) (w' : World) : Prop := e = .returned (.int .i64 (r.1 : Int)) ∧ RefTo w G q r.2 w'
theorem RStepTo.to {w w' : World} {q : Nat} {d : Dk.D} {sv lv : Value} {xs ys : List Value} {G : Nat → Prop} {e : Ending} (hq : G q) (h : RStepTo w q sv xs lv ys G d e w') : RefTo w G q (Dk.step d).2 w' :=
  ⟨G, ⟨sv, xs, lv, ys, h.2.1⟩, h.2.2.1.mono (fun i _ e => by rw [e]; exact hq), fun _ x => .inl x⟩
set_option maxRecDepth 100000 in
set_option maxHeartbeats 2000000 in
theorem rsync_any (q : Nat) (d : Dk.D) (G : Nat → Prop) (w : World) (hD : RefAt w q d G) (hok : Dk.Ok d) (hnw : Dk.Nw d) (hsy : d.syncs ≤ 1000000) (hlen : d.pend.length ≤ 1000000) :
    Calls Try.prog 44 #[.pointer (some ⟨q, 0, none⟩)] w (RWriteTo w G q (Dk.sync d)) := by
  obtain ⟨sv, xs, lv, ys, hd⟩ := hD
  rcases step_01 d with hs | hs
  · have hR : Dk.sync d = (0, Dk.synced (Dk.step d).2) := by unfold Dk.sync; rw [if_neg (by simpa using hs)]
    rw [hR]
    clear hR
    have hsy0 := hok.syncs
    have hok1 := Dk.step_ok hok
    have hnw1 := Dk.nw_step hnw
    rw [← Dk.step_syncs d] at hsy hsy0
    rw [← Dk.step_pend d] at hlen
    have H := Lib.hid (And.intro hd hok)
    have H9 := Lib.hid (And.intro hok1 hnw1)
    clear hd hok hnw hok1 hnw1
    go_enter Try.func44, Try.ntmps44
    go_wp2_with fail
    refine (rstep_any q d sv xs lv ys G w H.out.1 H.out.2).mono ?_
    rintro e w1 ⟨rfl, hd1, hf1, hs1⟩
    rw [hs]
    generalize (Dk.step d).2 = d1 at *
    clear hs H
    have hsz := H9.out.1.size
    have hx4 : xs.length ≤ 4096 := by have := hd1.slen; omega
    obtain ⟨LA, lc, rfl⟩ := own_slice hd1.lrow
    have hd1' : RefIn w1 q { d1 with syn := synTo d1 0 } sv xs (.slice LA d1.pend.length lc) ys G := by
      have : synTo d1 0 = d1.syn := by funext n; simp [synTo, Dk.lastOf]
      rw [this]; exact hd1
    have hfG : Fr G w w1 := hf1.mono (fun i _ e => by rw [e]; exact hd1.footq)
    have H1 := Lib.hid (And.intro hd1' hfG)
    obtain ⟨_, c1, _⟩ := hd1.cells
    clear hd1 hd1' hf1 hs1 hfG c1
    go_wp2_with fail
    go_loopw [3] (fun i wr => ∃ (k : Nat) (zs : List Value), k ≤ d1.pend.length ∧ i = .int .i64 k ∧ zs.length = xs.length ∧ RefIn wr q { d1 with syn := synTo d1 k } sv zs (.slice LA d1.pend.length lc) ys G ∧ Fr G w wr) (fun i _ => d1.pend.length - (intOf i).toNat)
    case atStart => exact ⟨0, xs, by omega, rfl, rfl, H1.out.1, H1.out.2⟩
    case round =>
      obtain ⟨k, zs, hk, rfl, hzl, hin, hfr⟩ := hrel
      clear H1
      obtain ⟨c0, c1, _⟩ := hin.cells
      by_cases hlt : k < d1.pend.length
      · obtain ⟨g1, e1, v1, e2, x0, x1, hv1⟩ := hin.wcell hlt
        injection e2 with e2 _ e3
        subst e2
        subst e3
        obtain ⟨A1, c11, rfl, _⟩ := hv1.bytes
        have hxr := H9.out.1.pend (d1.pend.getD k (0, [])) (by rw [List.getD_eq_getElem?_getD, List.getElem?_eq_getElem hlt]; simp)
        obtain ⟨m, hm⟩ : ∃ m : Nat, (d1.pend.getD k (0, [])).1 = m := ⟨(d1.pend.getD k (0, [])).1.toNat, by omega⟩
        have hmz : m < zs.length := by
          have h1 := hin.slen
          have h2 := hxr.2.2
          have h3 : (zs.length : Int) = d1.size := h1
          omega
        obtain ⟨g, c, v0, rfl, cs, _⟩ := hin.scell hmz
        have hfz := hin.srow.frozenAt m
        have hst := hin.store rfl hmz hv1
        have hstep := synTo_step d1 k hlt m hm
        have hfr2 : Fr G w ((wr.setCell ⟨g, m, none⟩ (.slice A1 256 c11)).drew) := (hfr.setCell ⟨g, m, none⟩ (.slice A1 256 c11) (fun _ => hin.foots g rfl)).drew 1
        simp only [hstep] at hst
        have x0' : wr.cell? ⟨g1, k * 2, none⟩ = some (.int .i64 (m : Int)) := by rw [← hm]; exact x0
        have hst' : RefIn ((wr.setCell ⟨g, m, none⟩ (.slice A1 256 c11)).drew) q { d1 with syn := synTo d1 (k + 1) } (.slice (some ⟨g, 0, none⟩) zs.length c) (zs.set m (.slice A1 256 c11)) (.slice (some ⟨g1, 0, none⟩) d1.pend.length lc) ys G := hst.keep (Nat.le_refl _) (fun _ _ => rfl)
        have HN := Lib.hid (And.intro hst' (And.intro hfr2 hzl))
        have hmi : (m : Int) < (zs.length : Int) := by omega
        have hki : (k : Int) < (d1.pend.length : Int) := by omega
        clear hin hfr hv1 hxr hst hst' hfr2 hstep hm x0 hzl
        go_wp2_with fail
        go_still_tail 21, (by kernel_rfl)
        go_wp2_with fail
        go_roundw
        case rel => exact ⟨k + 1, _, by omega, by go_num, by rw [List.length_set]; exact HN.out.2.2, HN.out.1, HN.out.2.1⟩
        case measure => simp [intOf]; omega
      · obtain rfl : k = d1.pend.length := by omega
        have hsn : synTo d1 d1.pend.length = fun n => (d1.now n).or (d1.syn n) := by
          funext n
          unfold synTo
          rw [List.take_of_length_le (Nat.le_refl _), H9.out.2 n]
        rw [hsn] at hin
        obtain ⟨_, _, _, _, c4⟩ := hin.cells
        have f1 := hin.blk.free 1
        have f4 := hin.blk.free 4
        have hq := hin.footq
        have hd2 : RefIn (wr.setCell ⟨q, 1, none⟩ (.slice none 0 0)) q { d1 with syn := fun n => (d1.now n).or (d1.syn n), now := fun _ => none, pend := [] } sv zs (.slice none 0 0) [] G := by
          have hk : ∀ k, k ≠ q → (wr.setCell ⟨q, 1, none⟩ (.slice none 0 0)).heap[k]? = wr.heap[k]? := fun k hk => Below.heap_setCell wr _ _ k hk
          refine ⟨hin.blk.put 1 _, own_keep hin.srow (fun k e => hk k (hin.qs e)), hin.slen, fun i v e => (hin.syn i v e).apart hin.blk (by decide) (fun k _ => hk k), ⟨rfl, .inl ⟨rfl, rfl⟩⟩, fun i hi => absurd hi (by simp), hin.footq, hin.foots, fun k e => by simp [Value.ownBlock] at e, fun k x => by rw [setCell_size]; exact hin.bound k x⟩
        have c14 : (wr.setCell ⟨q, 1, none⟩ (.slice none 0 0)).cell? ⟨q, 4, none⟩ = some (.int .i64 d1.syncs) := hd2.blk.cell 4
        have f14 := hd2.blk.free 4
        have hd3 : RefIn ((wr.setCell ⟨q, 1, none⟩ (.slice none 0 0)).setCell ⟨q, 4, none⟩ (.int .i64 (d1.syncs + 1))) q (Dk.synced d1) sv zs (.slice none 0 0) [] G := hd2.set 4 _ rfl rfl rfl rfl
        have hf3 : Fr G w ((wr.setCell ⟨q, 1, none⟩ (.slice none 0 0)).setCell ⟨q, 4, none⟩ (.int .i64 (d1.syncs + 1))) := (hfr.setCell _ _ (fun _ => hq)).setCell _ _ (fun _ => hq)
        have HN := Lib.hid (show RefTo w G q (Dk.synced d1) ((wr.setCell ⟨q, 1, none⟩ (.slice none 0 0)).setCell ⟨q, 4, none⟩ (.int .i64 (d1.syncs + 1))) from ⟨G, ⟨_, _, _, _, hd3⟩, hf3, fun _ x => .inl x⟩)
        clear hin hfr hd2 hd3 hf3 hsn hzl
        go_wp2_with fail
        go_ret
        exact ⟨rfl, HN.out⟩
  · have hR : Dk.sync d = (40, (Dk.step d).2) := by unfold Dk.sync; rw [if_pos (by omega)]
    rw [hR]
    clear hR
    have H := Lib.hid (And.intro hd hok)
    clear hd hok hnw
    go_enter Try.func44, Try.ntmps44
    go_wp2_with fail
    refine (rstep_any q d sv xs lv ys G w H.out.1 H.out.2).mono ?_
    intro e w1 hst
    have hst2 := hst.1
    have HS := Lib.hid (RStepTo.to H.out.1.footq hst)
    clear hst
    subst hst2
    rw [hs]
    go_wp2
    go_ret
    exact ⟨rfl, HS.out⟩
end Go.Proofs.Ytaooimhodoefoaa
