/- What the functions of package disk do: Read, Write. -/
import Derived.Test.YtfcmlfcpgboigaaDiskWalks
import Derived.Test.YtfcmlfcpgboigaaStampWalks
import Derived.Test.YtfcmlfcpgboigaaConv
namespace Go.Proofs.Ytfcmlfcpgboigaa
open Go.RowKit Mem
open Go.ChangeMaps (setBlock)
set_option linter.unusedVariables false
set_option linter.unusedSimpArgs false

theorem dinfoS : ∀ w, (zeroValue 9).run Try.prog w = .ok (str []) w := by
  obtain ⟨i, hi, hz⟩ : ∃ i, Try.prog.info? 9 = some i ∧ i.zero = some (.string ⟨#[]⟩) := by
    have h : (Try.prog.info? 9).map (·.zero) = some (some (.string ⟨#[]⟩)) := by kernel_rfl
    cases hx : Try.prog.info? 9 with
    | none => rw [hx] at h; cases h
    | some i => rw [hx] at h; exact ⟨i, rfl, by simpa using h⟩
  intro w
  simp [zeroValue, typeInfo, hi, hz, str]
set_option maxRecDepth 100000 in
set_option maxHeartbeats 1000000 in
theorem noughts_any (w : World) : Calls Try.prog 75 #[] w fun e w' => e = .returned (str Dk.zeros) ∧ Below w.heap.size w w' := by
  obtain ⟨i0, hi0, hz0, hz1, hz2⟩ := info_parts sinfo8
  have hmk := run_make_lit (P := Try.prog) 42 5 i0 Try.underlying42 hi0 hz0 hz1 hz2 256 256 rfl (by omega)
  have hbs : BS (mkB 5 256 w) (some ⟨w.heap.size, 0, none⟩) 256 Dk.zeros := by
    have := BS.made w (zerosA 256) 5 (0, 0) Dk.zeros (by rw [zerosA_list]; rfl)
    rw [Dk.zeros_length] at this
    exact this
  have hcv := conv_bytes hbs (by omega) 256 _ (fun _ => rfl)
  have H := Lib.hid (mkB_below 5 256 w)
  clear hi0 hz0 hz1 hz2 hbs
  go_enter Try.func75, Try.ntmps75
  go_wp2
  go_ret
  exact ⟨rfl, H.out⟩

/-- bytes of one's own, and an error -/
def ReadE (w : World) (r : List UInt8 × Nat) (e : Ending) (w' : World) : Prop :=
  ∃ A c, e = .returned (.tuple #[.slice A r.1.length c, .int .i64 (r.2 : Int)]) ∧ BS w' A r.1.length r.1 ∧ r.1.length ≤ c ∧ c ≤ 9223372036854775807 ∧ Below w.heap.size w w' ∧
    (0 < r.1.length → ∃ g, A = some ⟨g, 0, none⟩ ∧ w.heap.size ≤ g ∧ ∀ j, j < r.1.length → w'.frozen? ⟨g, j, none⟩ = false)
theorem readE_nil (w : World) (n : Nat) : ReadE w ([], n) (.returned (.tuple #[.slice none 0 0, .int .i64 (n : Int)])) w := ⟨none, 0, rfl, BS.empty _ _, by simp, by simp, Below.refl _ _, by simp⟩
theorem readE_str {w w0 : World} (s : List UInt8) (hs : s.length ≤ 1000) (hb : Below w0.heap.size w0 w) : ReadE w0 (s, 0) (.returned (.tuple #[.slice (some ⟨w.heap.size, 0, none⟩) s.length (grownCap w s.length 0 5), .int .i64 0])) (Lib.bytesWorld w 5 ⟨s.toArray⟩) := by
  refine ⟨_, _, rfl, bytesWorld_bs w _ s, grownCap_ge _ _ _ _, ?_, hb.trans ((bytesWorld_below w _ _).mono hb.size), fun _ => ⟨_, rfl, hb.size, fun j hj => ?_⟩⟩
  · have := grownCap_le_maxLen w s.length 0 5 (by unfold maxLen; omega)
    simpa [maxLen] using this
  · have h1 := Lib.bytesWorld_at_new w 5 ⟨s.toArray⟩
    have h2 : j < (Lib.bytesCells w 5 ⟨s.toArray⟩).size := by
      have hc := Lib.bytesWorld_cell w 5 ⟨s.toArray⟩ j (by rw [ba_size]; exact hj)
      unfold World.cell? at hc
      rw [h1] at hc
      rcases Nat.lt_or_ge j (Lib.bytesCells w 5 ⟨s.toArray⟩).size with hlt | hge
      · exact hlt
      · simp [Array.getElem?_eq_none hge] at hc
    simp [World.frozen?, h1]
    omega
set_option maxRecDepth 100000 in
set_option maxHeartbeats 2000000 in
theorem read_any (p : Nat) (d : Dk.D) (F : Nat → Prop) (n : Int) (w : World) (hD : DiskAt w p d F) (hok : Dk.Ok d) :
    Calls Try.prog 35 #[.pointer (some ⟨p, 0, none⟩), .int .i64 n] w (ReadE w (Dk.read d n)) := by
  obtain ⟨r1, r2, v, hd, _, _⟩ := hD
  obtain ⟨c0, c1, c2, _, _, c5, _⟩ := hd.cells
  have hl1 := run_look (P := Try.prog) (f := str) Try.underlying101 Try.underlying3 [] dinfoS hd.syn n w rfl true
  have hl2 := run_look (P := Try.prog) (f := str) Try.underlying101 Try.underlying3 [] dinfoS hd.now n w rfl true
  have hcv := conv_str
  by_cases ha : Dk.at_ d n = 0
  · have hR : Dk.read d n = if d.down then ([], 40) else (Dk.cur d n, 0) := by unfold Dk.read; rw [if_neg (by simpa using ha)]
    cases hdn : d.down with
    | true =>
      rw [hdn] at hR c5
      rw [hR]
      clear hl1 hl2 hdn hR hcv
      go_enter Try.func35, Try.ntmps35
      go_wp2_with fail
      refine (at_any p n d w c0).mono ?_
      rintro e w1 ⟨rfl, hw1⟩
      subst hw1
      rw [ha]
      go_wp2
      go_ret2
      exact readE_nil _ 40
    | false =>
      rw [hdn] at hR c5
      rw [hR]
      have hlen := Dk.cur_length hok n
      unfold Dk.cur at hlen ⊢
      cases hn : d.now n with
      | some s =>
        rw [hn] at hlen hl2
        clear hl1 hdn hR hn
        simp only [Option.getD_some] at hlen
        have HL := Lib.hid hlen
        clear hlen
        go_enter Try.func35, Try.ntmps35
        go_wp2_with fail
        refine (at_any p n d w c0).mono ?_
        rintro e w1 ⟨rfl, hw1⟩
        subst hw1
        rw [ha]
        go_wp2
        go_ret2
        exact readE_str s (by have := HL.out; omega) (Below.refl _ _)
      | none =>
        rw [hn] at hlen hl2
        cases hs : d.syn n with
        | some s =>
          rw [hs] at hlen hl1
          clear hdn hR hn hs
          simp only [Option.getD_some, Option.getD_none] at hlen
          have HL := Lib.hid hlen
          clear hlen
          go_enter Try.func35, Try.ntmps35
          go_wp2_with fail
          refine (at_any p n d w c0).mono ?_
          rintro e w1 ⟨rfl, hw1⟩
          subst hw1
          rw [ha]
          go_wp2
          go_ret2
          exact readE_str s (by have := HL.out; omega) (Below.refl _ _)
        | none =>
          rw [hs] at hl1 hlen
          clear hdn hR hn hs
          simp only [Option.getD_some, Option.getD_none] at hlen
          have HL := Lib.hid hlen
          clear hlen
          go_enter Try.func35, Try.ntmps35
          go_wp2_with fail
          refine (at_any p n d w c0).mono ?_
          rintro e w1 ⟨rfl, hw1⟩
          subst hw1
          rw [ha]
          go_wp2_with fail
          refine (noughts_any w1).mono ?_
          rintro e w2 ⟨rfl, hb2⟩
          have H := Lib.hid hb2
          clear hb2
          go_wp2
          go_ret2
          exact readE_str Dk.zeros (by have := HL.out; omega) H.out
  · have hR : Dk.read d n = ([], 1) := by unfold Dk.read; rw [if_pos ha]
    rw [hR]
    have ha1 : Dk.at_ d n = 1 := by unfold Dk.at_ at ha ⊢; split at ha <;> simp_all
    clear hl1 hl2 hR hcv
    go_enter Try.func35, Try.ntmps35
    go_wp2_with fail
    refine (at_any p n d w c0).mono ?_
    rintro e w1 ⟨rfl, hw1⟩
    subst hw1
    rw [ha1]
    go_wp2
    go_ret2
    exact readE_nil _ 1
theorem read_nil (n : Int) (w : World) :
    Calls Try.prog 35 #[.pointer none, .int .i64 n] w (ReadE w ([], 2)) := by
  go_enter Try.func35, Try.ntmps35
  go_wp2_with fail
  refine (at_nil n w).mono ?_
  rintro e w1 ⟨rfl, hw1⟩
  subst hw1
  go_wp2
  go_ret2
  exact readE_nil _ 2
end Go.Proofs.Ytfcmlfcpgboigaa
