/- SheetPayloads: a sheet's payload, and the sheet of whatever payload, are the document's, or the error; there and back; no condition. -/
import Derived.Test.YtlpdjpkdgagjpaaDoorSheetDec
import Derived.Test.YtlpdjpkdgagjpaaDoorSheetHelp
import Derived.Test.YtlpdjpkdgagjpaaDoorLift
import Derived.Test.YtlpdjpkdgagjpaaDoorCards
import Derived.Test.YtlpdjpkdgagjpaaDoorTie
import Derived.Lib.LaidTab
namespace Go.Proofs.YtlpdjpkdgagjpaaDoor.sheetPayloads
open Go.ChangeShapes Go.WideShapes Go.ChangeAt Go.RowKit Mem Lift
set_option linter.unusedVariables false
set_option linter.unusedSimpArgs false
set_option maxRecDepth 100000

theorem enc_ways (s : Sh.Sd) : ∃ xb er, Sh.encS s = (xb, er) ∧ (er = 1 ∧ xb = [] ∨ er = 0 ∧ Sh.decS xb = (s, 0)) ∧ xb.length ≤ 12 + s.data.length := by
  unfold Sh.encS
  by_cases h : Sh.mayS s = true ∧ Sh.topS s = false
  · rw [if_pos h]
    have hd := Sh.dec_body h.1 h.2 []
    rw [List.append_nil] at hd
    exact ⟨_, _, rfl, .inr ⟨rfl, hd⟩, by rw [Sh.body_len]; exact Nat.le_refl _⟩
  · rw [if_neg h]
    exact ⟨_, _, rfl, .inl ⟨rfl, rfl⟩, by simp⟩
theorem dec_ways (b : List UInt8) : ∃ p g, Sh.decS b = (p, g) ∧ (g ≠ 0 ∨ g = 0 ∧ ∃ z, Sh.encS p = (z, 0) ∧ z.length ≤ b.length ∧ z = b.take z.length) ∧ (-9223372036854775808 ≤ p.inc ∧ p.inc ≤ 9223372036854775807) ∧ (-9223372036854775808 ≤ p.pos ∧ p.pos ≤ 9223372036854775807) ∧ (-9223372036854775808 ≤ p.first ∧ p.first ≤ 9223372036854775807) ∧ p.data.length ≤ b.length := by
  have hdl := Sh.dec_data b
  rcases Sh.dec_cases b with ⟨h1, h2⟩ | h0
  · obtain ⟨P, hP⟩ : ∃ P, Sh.decS b = P := ⟨_, rfl⟩
    rw [hP] at h1 h2 hdl
    obtain ⟨p, g⟩ := P
    simp only at h1 h2 hdl
    subst h2
    exact ⟨_, _, hP, .inl h1, by simp [Sh.sd0], by simp [Sh.sd0], by simp [Sh.sd0], hdl⟩
  · obtain ⟨r1, r2, r3, r4⟩ := Sh.body_read h0
    obtain ⟨P, hP⟩ : ∃ P, Sh.decS b = P := ⟨_, rfl⟩
    rw [hP] at h0 r1 r2 r3 r4 hdl
    obtain ⟨p, g⟩ := P
    simp only at h0 r1 r2 r3 r4 hdl
    have hm := Sh.may_parts r1
    have hf := Sh.first_255 r1
    refine ⟨_, _, hP, .inr ⟨h0, Sh.bodyS p, ?_, r3, r4⟩, by omega, by omega, by omega, hdl⟩
    unfold Sh.encS
    rw [if_pos ⟨r1, r2⟩]
set_option maxHeartbeats 8000000 in
theorem walk (s : Sh.Sd) (A : Option Addr) (n c : Nat) (bs : List UInt8) (w : World) (hi : -9223372036854775808 ≤ s.inc ∧ s.inc ≤ 9223372036854775807) (hp : -9223372036854775808 ≤ s.pos ∧ s.pos ≤ 9223372036854775807) (hf : -9223372036854775808 ≤ s.first ∧ s.first ≤ 9223372036854775807) (hd : s.data.length ≤ 9223372036854775807)
    (hbs : BS w A n bs) (hnc : n ≤ c) (hcm : c ≤ maxLen) (ht : Half w) :
    Calls Tryd.prog 7 #[sdVal s, .slice A n c] w fun e w' => e = .returned (.bool true) ∧ Below w.heap.size w w' := by
  unfold maxLen at hcm
  have hb0 : Below w.heap.size w (w.alloc (.cells (sdCells s) 47)) := (Below.refl _ _).alloc (Nat.le_refl _) _
  have hk0 := Blk.new w 47 (sdCells s)
  by_cases hbig : 500 < s.data.length ∨ 500 < n
  · obtain ⟨inc, pos, first, data⟩ := s
    simp only [sdVal, sdCells] at hb0 hk0 hi hp hf hd hbig ⊢
    have hsz := ba_size data
    obtain ⟨B, hB⟩ : ∃ B : ByteArray, B = ⟨data.toArray⟩ := ⟨_, rfl⟩
    rw [← hB] at hsz hb0 hk0 ⊢
    have hways : decide (500 < (B.size : Int)) = true ∨ decide (500 < (B.size : Int)) = false ∧ decide (500 < (n : Int)) = true := by
      simp only [decide_eq_true_eq, decide_eq_false_iff_not]; omega
    have hBB : (B.size : Int) ≤ 9223372036854775807 := by omega
    have HA := Lib.hid (to_awake ht hb0)
    clear hb0 hk0 hbs ht hB hsz hbig
    rcases hways with g | ⟨g, g2⟩
    all_goals
      go_enter Tryd.func7, Tryd.ntmps7
      go_wp2_with fail
      refine HA.out.mono ?_
      rintro e w2 ⟨rfl, hb⟩
      have HB := Lib.hid hb
      clear hb
      go_wp2_with fail
      go_ret
      exact ⟨rfl, HB.out⟩
  · obtain ⟨xb, er, hE, hEw, hEl⟩ := enc_ways s
    obtain ⟨p, g, hD, hDw, hpi, hpp, hpf, hpd⟩ := dec_ways bs
    have hln := hbs.1
    have henc := fun W => senc_any s W hi hp hf (by omega)
    have hrenc := fun W => rsenc_any s W hi hp hf (by omega)
    have henp := fun W => senc_any p W hpi hpp hpf (by omega)
    rw [hE] at henc hrenc
    have hn5 : n ≤ 500 := by omega
    have hx5 : xb.length ≤ 600 := by omega
    have hoe : ∀ W : World, (W.alloc (.cells #[] 5)).ownsRow W.heap.size 5 1 (.slice (some ⟨W.heap.size, 0, none⟩) 0 0) 0 [] := fun W => World.ownsRow_made W #[] 0 (Nat.le_refl _) (by simp [maxLen]) (by simp)
    obtain ⟨i8, hi8, hz0, hz1, hz2⟩ := info_parts ninfo8
    have HI := Lib.hid (And.intro hi8 (And.intro hz0 (And.intro hz1 hz2)))
    have hd500 : s.data.length ≤ 500 := by omega
    have hk0c := hk0
    obtain ⟨inc, pos, first, data⟩ := s
    simp only [sdVal, sdCells] at hb0 hk0 hi hp hf hd henc hrenc hd500 ⊢
    have hsz := ba_size data
    obtain ⟨B, hB⟩ : ∃ B : ByteArray, B = ⟨data.toArray⟩ := ⟨_, rfl⟩
    rw [← hB] at hsz hb0 hk0 henc hrenc ⊢
    have hBB : (B.size : Int) ≤ 500 := by omega
    have hn5' : (n : Int) ≤ 500 := by omega
    have H := Lib.hid (And.intro hb0 (And.intro hk0 (And.intro henc (And.intro hrenc (And.intro henp (And.intro hbs (And.intro ht (And.intro hD (And.intro hoe (And.intro hB hln))))))))))
    clear hb0 hk0 henc hrenc henp hbs ht hD hoe hE hk0c hbig hpi hpp hpf hpd hi8 hz0 hz1 hz2 hln hsz hEl hB hd500
    go_enter Tryd.func7, Tryd.ntmps7
    go_wp2_with fail
    generalize w.alloc (.cells #[.int .i64 inc, .int .i64 pos, .int .i64 first, .string B] 47) = w1 at *
    refine (H.out.2.2.1 _).mono ?_
    rintro e w2 ⟨v, rfl, ho2, hb2⟩
    obtain ⟨A2, k2, rfl⟩ := own_slice ho2
    have hk2 := H.out.2.1.below hb2 H.out.2.1.lt
    have c0 : w2.cell? ⟨w.heap.size, 0, none⟩ = some (.int .i64 inc) := hk2.cell 0
    have c1 : w2.cell? ⟨w.heap.size, 1, none⟩ = some (.int .i64 pos) := hk2.cell 1
    have c2 : w2.cell? ⟨w.heap.size, 2, none⟩ = some (.int .i64 first) := hk2.cell 2
    have c3 : w2.cell? ⟨w.heap.size, 3, none⟩ = some (.string B) := hk2.cell 3
    have hcap2 := own_capS ho2
    have H2 := Lib.hid (And.intro hk2 (And.intro (below_of H.out.1 H.out.1.size hb2) (BS.of_own ho2)))
    clear hk2 hb2 ho2
    go_wp2_with fail
    refine (H.out.2.2.2.1 _).mono ?_
    rintro e w3 ⟨v, rfl, ho3, hb3⟩
    obtain ⟨A3, k3, rfl⟩ := own_slice ho3
    have H3 := Lib.hid (And.intro (H2.out.1.below hb3 H2.out.1.lt) (And.intro (below_of H2.out.2.1 H2.out.2.1.size hb3) (And.intro (H2.out.2.2.below hb3) (And.intro (BS.of_own ho3) (H.out.2.2.2.2.2.1.below (below_of H2.out.2.1 H2.out.2.1.size hb3))))))
    have hba := H3.out.2.2.2.2.below ((Below.refl _ _).alloc (Nat.le_refl _) (.cells #[] 5))
    have HBA := Lib.hid hba
    clear hb3 ho3 c0 c1 c2 c3 hba
    go_wp2_with (at_builtin; refine wpList_append_bs _ rfl (.tmp 38) (.tmp 39) 38 rfl w3.heap.size 5 i8 Tryd.underlying38 HI.out.1 HI.out.2.1 HI.out.2.2.1 HI.out.2.2.2 (.slice (some ⟨w3.heap.size, 0, none⟩) 0 0) 0 [] rfl (H.out.2.2.2.2.2.2.2.2.1 w3) A n c bs rfl HBA.out (by omega) (by simp) ?_; intro v1 w4 hown4 hg4 _; rw [List.nil_append, Nat.zero_add] at hown4; obtain ⟨A4, k4, rfl⟩ := own_slice hown4; have hb4 : Below w3.heap.size w3 w4 := ((Below.refl _ _).alloc (Nat.le_refl _) _).grown hg4 (by simp) (by simp [Value.ownBlock]); have hcap4 := own_capS hown4; have H4 := Lib.hid (And.intro hown4 hb4); clear hown4 hg4 hb4)
    have hdc := sdec_any A4 n k4 bs w4 (BS.of_own H4.out.1) (by omega) hcap4.1 hcap4.2
    rw [H.out.2.2.2.2.2.2.2.1] at hdc
    refine hdc.mono ?_
    clear hdc
    rintro e w5 ⟨rfl, hb5⟩
    simp only [sdVal, sdCells]
    have hb45 := H4.out.2.trans (hb5.mono H4.out.2.size)
    have hbp : Below w5.heap.size w5 (w5.alloc (.cells (sdCells p) 47)) := (Below.refl _ _).alloc (Nat.le_refl _) _
    have hkp := Blk.new w5 47 (sdCells p)
    have hb35 := hb45.trans (hbp.mono hb45.size)
    have hbb5 := below_of H3.out.2.1 H3.out.2.1.size hb35
    simp only [sdCells] at hkp hbp hb35 hbb5
    have H5 := Lib.hid (And.intro (H3.out.1.below hb35 H3.out.1.lt) (And.intro hkp (And.intro hbb5 (And.intro (H3.out.2.2.1.below hb35) (And.intro (H3.out.2.2.2.1.below hb35) (H3.out.2.2.2.2.below hb35))))))
    clear hb5 hb45 hbp hkp hb35 hbb5
    go_wp2_with fail
    generalize w5.alloc (.cells #[.int .i64 p.inc, .int .i64 p.pos, .int .i64 p.first, .string ⟨p.data.toArray⟩] 47) = w6 at *
    generalize w5.heap.size = pb at *
    have hdc := rsdec_any A n c bs w6 H5.out.2.2.2.2.2 (by omega) hnc (by omega)
    rw [H.out.2.2.2.2.2.2.2.1] at hdc
    refine hdc.mono ?_
    clear hdc
    rintro e w7 ⟨rfl, hb7⟩
    simp only [sdVal, sdCells]
    have hbq : Below w7.heap.size w7 (w7.alloc (.cells (sdCells p) 47)) := (Below.refl _ _).alloc (Nat.le_refl _) _
    have hkq := Blk.new w7 47 (sdCells p)
    have hb68 := hb7.trans (hbq.mono hb7.size)
    have hk8 := H5.out.1.below hb68 H5.out.1.lt
    have hp8 := H5.out.2.1.below hb68 H5.out.2.1.lt
    simp only [sdCells] at hkq hbq hb68 hk8 hp8
    have H8 := Lib.hid (And.intro hk8 (And.intro hp8 (And.intro (below_of H5.out.2.2.1 H5.out.2.2.1.size hb68) (And.intro (H5.out.2.2.2.1.below hb68) (And.intro (H5.out.2.2.2.2.1.below hb68) (And.intro (H5.out.2.2.2.2.2.below hb68) hkq))))))
    clear hb7 hbq hkq hb68 hk8 hp8
    go_wp2_with fail
    generalize w7.alloc (.cells #[.int .i64 p.inc, .int .i64 p.pos, .int .i64 p.first, .string ⟨p.data.toArray⟩] 47) = w8 at *
    generalize w7.heap.size = qb at *
    refine (same_any A2 A3 xb.length xb.length k2 k3 xb xb w8 H8.out.2.2.2.1 H8.out.2.2.2.2.1 (by omega) (by omega)).mono ?_
    rw [decide_eq_true (rfl : xb = xb)]
    rintro e w9 ⟨rfl, hd9⟩
    have hb9 := hd9.below
    have hp9 := H8.out.2.1.below hb9 H8.out.2.1.lt
    have hq9 := H8.out.2.2.2.2.2.2.below hb9 H8.out.2.2.2.2.2.2.lt
    have p0 : w9.cell? ⟨pb, 0, none⟩ = some (.int .i64 p.inc) := hp9.cell 0
    have p1 : w9.cell? ⟨pb, 1, none⟩ = some (.int .i64 p.pos) := hp9.cell 1
    have p2 : w9.cell? ⟨pb, 2, none⟩ = some (.int .i64 p.first) := hp9.cell 2
    have p3 : w9.cell? ⟨pb, 3, none⟩ = some (.string ⟨p.data.toArray⟩) := hp9.cell 3
    have q0 : w9.cell? ⟨qb, 0, none⟩ = some (.int .i64 p.inc) := hq9.cell 0
    have q1 : w9.cell? ⟨qb, 1, none⟩ = some (.int .i64 p.pos) := hq9.cell 1
    have q2 : w9.cell? ⟨qb, 2, none⟩ = some (.int .i64 p.first) := hq9.cell 2
    have q3 : w9.cell? ⟨qb, 3, none⟩ = some (.string ⟨p.data.toArray⟩) := hq9.cell 3
    have H9 := Lib.hid (And.intro (H8.out.1.below hb9 H8.out.1.lt) (And.intro hp9 (And.intro (below_of H8.out.2.2.1 H8.out.2.2.1.size hb9) (And.intro (H8.out.2.2.2.1.below hb9) (H8.out.2.2.2.2.2.1.below hb9)))))
    clear hd9 hb9 hp9 hq9
    obtain ⟨PD, hPD⟩ : ∃ PD : ByteArray, PD = ⟨p.data.toArray⟩ := ⟨_, rfl⟩
    rw [← hPD] at p3 q3
    have HPD := Lib.hid hPD
    have hgw : ((g : Int) == 0) = false ∨ g = 0 := by
      rcases hDw with h | h
      · exact .inl (by rw [beq_eq_false_iff_ne]; omega)
      · exact .inr h.1
    have HDW := Lib.hid hDw
    clear hDw hPD
    rcases hEw with ⟨rfl, rfl⟩ | ⟨rfl, hdx⟩
    · rcases hgw with hg | rfl
      · go_wp2_with fail
        refine (to_awake H.out.2.2.2.2.2.2.1 H9.out.2.2.1).mono ?_
        rintro e w20 ⟨rfl, hb20⟩
        have H20 := Lib.hid hb20
        clear hb20
        go_wp2_with fail
        go_ret
        exact ⟨rfl, H20.out⟩
      · have hz : ∃ z, Sh.encS p = (z, 0) ∧ z.length ≤ bs.length ∧ z = bs.take z.length := by
          rcases HDW.out with h | h
          · exact absurd rfl h
          · exact h.2
        obtain ⟨z, hz1, hz2, hz3⟩ := hz
        have hep := H.out.2.2.2.2.1
        simp only [hz1, sdVal, sdCells] at hep
        have hzn : z.length ≤ n := by rw [H.out.2.2.2.2.2.2.2.2.2.2] at hz2; exact hz2
        rw [← HPD.out] at hep
        have HEP := Lib.hid (And.intro hep hz3)
        clear hep hz1 hz2 hz3
        go_wp2_with fail
        refine (HEP.out.1 _).mono ?_
        rintro e w21 ⟨v, rfl, ho21, hb21⟩
        obtain ⟨A21, k21, rfl⟩ := own_slice ho21
        have hsm := fun W (hW : Below w21.heap.size w21 W) => same_any A21 A z.length z.length k21 c z (bs.take z.length) W ((BS.of_own ho21).below hW) (((H9.out.2.2.2.2.below hb21).take_ z.length hzn).below hW) (by omega) (by omega)
        have hcuz := fun W => cut_h A n c z.length (z.length : Int) rfl (by omega) W
        have H21 := Lib.hid (And.intro (hsm _ (Below.refl _ _)) (below_of H9.out.2.2.1 H9.out.2.2.1.size hb21))
        have hzi : (z.length : Int) ≤ (n : Int) := by omega
        clear hb21 ho21 hsm
        go_wp2_with fail
        refine H21.out.1.mono ?_
        rw [decide_eq_true HEP.out.2]
        rintro e w22 ⟨rfl, hd22⟩
        have H22 := Lib.hid (below_of H21.out.2 H21.out.2.size hd22.below)
        clear hd22 hcuz
        go_wp2_with fail
        refine (to_awake H.out.2.2.2.2.2.2.1 H22.out).mono ?_
        rintro e w20 ⟨rfl, hb20⟩
        have H20 := Lib.hid hb20
        clear hb20
        go_wp2_with fail
        go_ret
        exact ⟨rfl, H20.out⟩
    · have HDX := Lib.hid hdx
      clear hdx
      go_wp2_with fail
      have hdc := sdec_any A2 xb.length k2 xb w9 H9.out.2.2.2.1 (by omega) hcap2.1 hcap2.2
      rw [HDX.out] at hdc
      refine hdc.mono ?_
      clear hdc
      rintro e w10 ⟨rfl, hb10⟩
      simp only [sdVal, sdCells]
      have hbz : Below w10.heap.size w10 (w10.alloc (.cells #[.int .i64 inc, .int .i64 pos, .int .i64 first, .string ⟨data.toArray⟩] 47)) := (Below.refl _ _).alloc (Nat.le_refl _) _
      have hkz := Blk.new w10 47 #[.int .i64 inc, .int .i64 pos, .int .i64 first, .string ⟨data.toArray⟩]
      rw [← H.out.2.2.2.2.2.2.2.2.2.1] at hkz hbz ⊢
      have hb11 := hb10.trans (hbz.mono hb10.size)
      have hs11 := H9.out.1.below hb11 H9.out.1.lt
      have hp11 := H9.out.2.1.below hb11 H9.out.2.1.lt
      have H11 := Lib.hid (And.intro hs11 (And.intro hp11 (And.intro (below_of H9.out.2.2.1 H9.out.2.2.1.size hb11) (And.intro (H9.out.2.2.2.1.below hb11) (H9.out.2.2.2.2.below hb11)))))
      have s0 : (w10.alloc (.cells #[.int .i64 inc, .int .i64 pos, .int .i64 first, .string B] 47)).cell? ⟨w.heap.size, 0, none⟩ = some (.int .i64 inc) := hs11.cell 0
      have s1 : (w10.alloc (.cells #[.int .i64 inc, .int .i64 pos, .int .i64 first, .string B] 47)).cell? ⟨w.heap.size, 1, none⟩ = some (.int .i64 pos) := hs11.cell 1
      have s2 : (w10.alloc (.cells #[.int .i64 inc, .int .i64 pos, .int .i64 first, .string B] 47)).cell? ⟨w.heap.size, 2, none⟩ = some (.int .i64 first) := hs11.cell 2
      have s3 : (w10.alloc (.cells #[.int .i64 inc, .int .i64 pos, .int .i64 first, .string B] 47)).cell? ⟨w.heap.size, 3, none⟩ = some (.string B) := hs11.cell 3
      have r0 : (w10.alloc (.cells #[.int .i64 inc, .int .i64 pos, .int .i64 first, .string B] 47)).cell? ⟨pb, 0, none⟩ = some (.int .i64 p.inc) := hp11.cell 0
      have r1 : (w10.alloc (.cells #[.int .i64 inc, .int .i64 pos, .int .i64 first, .string B] 47)).cell? ⟨pb, 1, none⟩ = some (.int .i64 p.pos) := hp11.cell 1
      have r2 : (w10.alloc (.cells #[.int .i64 inc, .int .i64 pos, .int .i64 first, .string B] 47)).cell? ⟨pb, 2, none⟩ = some (.int .i64 p.first) := hp11.cell 2
      have r3 : (w10.alloc (.cells #[.int .i64 inc, .int .i64 pos, .int .i64 first, .string B] 47)).cell? ⟨pb, 3, none⟩ = some (.string PD) := by rw [HPD.out]; exact hp11.cell 3
      clear hb10 hbz hkz hb11 hs11 hp11 p0 p1 p2 p3 q0 q1 q2 q3
      rcases hgw with hg | rfl
      · go_wp2_with fail
        refine (to_awake H.out.2.2.2.2.2.2.1 H11.out.2.2.1).mono ?_
        rintro e w20 ⟨rfl, hb20⟩
        have H20 := Lib.hid hb20
        clear hb20
        go_wp2_with fail
        go_ret
        exact ⟨rfl, H20.out⟩
      · have hz : ∃ z, Sh.encS p = (z, 0) ∧ z.length ≤ bs.length ∧ z = bs.take z.length := by
          rcases HDW.out with h | h
          · exact absurd rfl h
          · exact h.2
        obtain ⟨z, hz1, hz2, hz3⟩ := hz
        have hep := H.out.2.2.2.2.1
        simp only [hz1, sdVal, sdCells] at hep
        have hzn : z.length ≤ n := by rw [H.out.2.2.2.2.2.2.2.2.2.2] at hz2; exact hz2
        rw [← HPD.out] at hep
        have HEP := Lib.hid (And.intro hep hz3)
        clear hep hz1 hz2 hz3
        go_wp2_with fail
        refine (HEP.out.1 _).mono ?_
        rintro e w21 ⟨v, rfl, ho21, hb21⟩
        obtain ⟨A21, k21, rfl⟩ := own_slice ho21
        have hsm := fun W (hW : Below w21.heap.size w21 W) => same_any A21 A z.length z.length k21 c z (bs.take z.length) W ((BS.of_own ho21).below hW) (((H11.out.2.2.2.2.below hb21).take_ z.length hzn).below hW) (by omega) (by omega)
        have hcuz := fun W => cut_h A n c z.length (z.length : Int) rfl (by omega) W
        have H21 := Lib.hid (And.intro (hsm _ (Below.refl _ _)) (below_of H11.out.2.2.1 H11.out.2.2.1.size hb21))
        have hzi : (z.length : Int) ≤ (n : Int) := by omega
        clear hb21 ho21 hsm
        go_wp2_with fail
        refine H21.out.1.mono ?_
        rw [decide_eq_true HEP.out.2]
        rintro e w22 ⟨rfl, hd22⟩
        have H22 := Lib.hid (below_of H21.out.2 H21.out.2.size hd22.below)
        clear hd22 hcuz
        go_wp2_with fail
        refine (to_awake H.out.2.2.2.2.2.2.1 H22.out).mono ?_
        rintro e w20 ⟨rfl, hb20⟩
        have H20 := Lib.hid hb20
        clear hb20
        go_wp2_with fail
        go_ret
        exact ⟨rfl, H20.out⟩

theorem own : ownKnob Tryd.prog.godebug = none := by kernel_rfl
theorem laidOut : laidOutB Tryd.prog = true := by kernel_rfl
theorem params_ok : ∀ t ∈ Tryd.f7.params.toList, Tryd.prog.readableRec t = true ∧ t < Tryd.prog.types.size := by
  rw [Tryd.params7]
  intro t ht
  have ht' : t = 47 ∨ t = 38 := by
    simpa using ht
  rcases ht' with rfl | rfl
  · exact ⟨(show Tryd.prog.readableRec 47 = true by kernel_rfl), of_decide_eq_true (show decide (47 < Tryd.prog.types.size) = true by kernel_rfl)⟩
  · exact ⟨(show Tryd.prog.readableRec 38 = true by kernel_rfl), of_decide_eq_true (show decide (38 < Tryd.prog.types.size) = true by kernel_rfl)⟩
theorem gTab : Tryd.prog.globalNamed "troth/crc.half" = some 0 := by kernel_rfl
theorem gTabType : (Tryd.prog.globals[0]?).map (·.type) = some 172 := by kernel_rfl
theorem cellsTab : Tryd.prog.cellsOf 172 = 16 := by kernel_rfl
theorem cells32 : Tryd.prog.cellsOf 71 = 1 := by kernel_rfl
theorem table {W : World} (h : laidMetH Tryd.prog Rows.sheetPayloadsRow.laid W) : Half W := by
  have h1 : Lib.TabIs Tryd.prog W "troth/crc.half" .u32 (Crc.tab.map (fun n : Nat => (n : Int))) :=
    Lib.tabIs_of_head (rest := []) gTab gTabType Tryd.underlying172 Tryd.underlying71 cells32 cellsTab h
  intro i hi
  have h2 := h1.cell gTab i (by rw [List.length_map]; exact hi)
  rw [h2]
  have hi' : i < Crc.tab.length := hi
  rw [List.getD_eq_getElem?_getD, List.getElem?_map, List.getD_eq_getElem?_getD, List.getElem?_eq_getElem hi']
  rfl

set_option maxRecDepth 100000 in
theorem contract (H : Type) (enc : TypeId × Value → H) (W : World) (base : Nat) (args : Array Value) (ds gs : List (DataW H)) (before : List MemPlace)
    (hval : ∀ (j : Nat) t v, Tryd.f7.params[j]? = some t → args[j]? = some v → Value.okWide Tryd.prog W .any base t v)
    (hW : DataW.Whole enc Tryd.prog Tryd.f7.params.toList Rows.sheetPayloadsSpec.vars false W args.toList ds gs before) (hL : laidMetH Tryd.prog Rows.sheetPayloadsRow.laid W) :
    Calls Tryd.prog 7 args W fun e W' => ∃ v, e = .returned v ∧ Rows.sheetPayloadsSpec.post enc Tryd.prog Tryd.f7 false true false false W args v W' := by
  have hW' := hW
  obtain ⟨p, q, hA0, hV, rfl, hfz, hnd⟩ := hW
  have hA : DataW.TrodAll enc Tryd.prog W 0 (fun _ => true) true Tryd.f7.params.toList args.toList ds p := hA0
  rw [Tryd.params7] at hA hval
  obtain ⟨v0, vs0, d0, ds0, p0, q0, hargs, rfl, rfl, h0, r0⟩ := trodAll_cons hA
  obtain ⟨v1, vs1, d1, ds1, p1, q1, rfl, rfl, rfl, h1, r1⟩ := trodAll_cons r0
  obtain ⟨rfl, rfl, rfl⟩ := trodAll_nil r1
  obtain rfl : args = #[v0, v1] := by cases args; simp_all
  obtain ⟨rfl, rfl⟩ := trodVars_none hV
  obtain ⟨s0, rfl, si0, sp0, sf0, sd0⟩ := open_sheet (hval 0 47 v0 rfl rfl) h0
  obtain ⟨A1, n1, c1, bs1, rfl, bs1h, nc1, cm1, dd1⟩ := open_bytes Tryd.underlying38 Tryd.underlying5 (show Tryd.prog.cellsOf 5 = 1 by kernel_rfl) (hval 1 38 v1 rfl rfl) h1
  refine (walk s0 A1 n1 c1 bs1 W si0 sp0 sf0 sd0 bs1h nc1 cm1 (table hL)).mono fun e W' ⟨he, bel⟩ => ?_
  exact ⟨_, he, post_true laidOut Tryd.underlying4 (show Tryd.f7.resultTypes = #[4] from rfl) params_ok rfl hW' rfl bel⟩

noncomputable def laidWorld (os : Os) : World :=
  { World.holding Tryd.prog os ⟨#[], #[], []⟩ with heap := (World.holding Tryd.prog os ⟨#[], #[], []⟩).heap.modify 0 fun
      | .cells _ t frozen => .cells #[.int .u32 0, .int .u32 498536548, .int .u32 997073096, .int .u32 651767980, .int .u32 1994146192, .int .u32 1802195444, .int .u32 1303535960, .int .u32 1342533948, .int .u32 3988292384, .int .u32 4027552580, .int .u32 3604390888, .int .u32 3412177804, .int .u32 2607071920, .int .u32 2262029012, .int .u32 2685067896, .int .u32 3183342108] t frozen
      | o => o }
theorem laid_met (os : Os) : laidMet Tryd.prog Rows.sheetPayloadsRow.laid ((laidWorld os).forCall (fun _ _ => 0) ⟨#[], #[.agg #[.int .i64 0, .int .i64 0, .int .i64 0, .string ⟨#[]⟩], .slice none 0 0], []⟩).memory :=
  laidMet_of_run' 8 (by kernel_rfl) (by kernel_rfl)
theorem reads (os : Os) {H : Type} (enc : TypeId × Value → H) : ∃ places, DataW.whole enc Tryd.prog ((laidWorld os).forCall (fun _ _ => 0) ⟨#[], #[.agg #[.int .i64 0, .int .i64 0, .int .i64 0, .string ⟨#[]⟩], .slice none 0 0], []⟩).memory Tryd.f7.params.toList Rows.sheetPayloadsSpec.vars false (#[Value.agg #[.int .i64 0, .int .i64 0, .int .i64 0, .string ⟨#[]⟩], Value.slice none 0 0] : Array Value).toList 8 = some ([.agg [.lit (.int .i64 0), .lit (.int .i64 0), .lit (.int .i64 0), .lit (.string [])], .nil], [], places) :=
  ⟨[], by kernel_rfl⟩
set_option maxRecDepth 100000 in
theorem lifted (os : Os) (started : os.Started) (H : Type) (enc : TypeId × Value → H) (F : Stop.Interp) :
    ReturnsInHanded {} Tryd.checked os 7 .any ((OpenSpec.ofChange Rows.sheetPayloadsSpec).preRow enc Tryd.prog Tryd.f7 Rows.sheetPayloadsRow.domain false Rows.sheetPayloadsRow.laid) (((OpenSpec.ofChange Rows.sheetPayloadsSpec).at F).post enc Tryd.prog Tryd.f7 false true false false) := by
  obtain ⟨places, hx⟩ := reads os enc
  refine returnsInHanded_of_row (C := Tryd.checked) (s := OpenSpec.ofChange Rows.sheetPayloadsSpec) own started (by kernel_rfl) Tryd.func7
    (witness_row_at (enc := enc) (C := Tryd.checked) false (laidWorld os) #[.agg #[.int .i64 0, .int .i64 0, .int .i64 0, .string ⟨#[]⟩], .slice none 0 0] rfl (by kernel_rfl) (by kernel_rfl) (by kernel_rfl)
      (OpenSpec.preRow_of_cond 8 hx (by kernel_rfl) (fun k hk => by cases hk) (by kernel_rfl) (laid_met os))) ?_
  intro W base args ds gs before hval hW _ _ hsz hL _ _
  exact contract H enc W base args ds gs before hval hW hL
theorem said : Rows.SheetPayloadsSaid :=
  OpenClaim.holds_of_cond 7 Tryd.f7 rfl rfl rfl rfl rfl rfl rfl ⟨rfl, rfl, rfl, rfl, rfl⟩ rfl rfl rfl rfl rfl (by kernel_rfl) Tryd.func7 (by kernel_rfl)
    (of_decide_eq_true (by kernel_rfl)) (by unfold Func.isWrapper; first | (rw [if_pos (by decide +kernel)]; kernel_rfl) | (rw [if_neg (by decide +kernel)]; exact ⟨rfl, rfl⟩))
    (fun os started H enc _ F => by rw [OpenClaim.pre_eq_preRow]; exact lifted os started H enc F)
theorem plain (f : FuncId) (fn : Func) (hf : Tryd.pinned.checked.prog.funcNamed "troth/trothlaw08.SheetPayloads" = some f) (hfn : Tryd.pinned.checked.prog.funcs[f]? = some fn) :
    false = Tryd.pinned.checked.prog.looks [] ∧ ∀ (j : Nat) t, fn.params[j]? = some t → Tryd.pinned.checked.prog.wantsStandIn t = false := by
  obtain rfl : f = 7 := Option.some.inj ((show Tryd.prog.funcNamed "troth/trothlaw08.SheetPayloads" = some 7 by kernel_rfl).symm.trans hf) |>.symm
  obtain rfl : fn = Tryd.f7 := (Option.some.inj (Tryd.func7.symm.trans hfn)).symm
  refine ⟨by kernel_rfl, fun j t ht => ?_⟩
  rw [Tryd.params7] at ht
  have ht' : t = 47 ∨ t = 38 := by simpa using Array.mem_of_getElem? ht
  rcases ht' with rfl | rfl
  · exact (show Tryd.prog.wantsStandIn 47 = false by kernel_rfl)
  · exact (show Tryd.prog.wantsStandIn 38 = false by kernel_rfl)
theorem card : Rows.SheetPayloadsCardSaid :=
  Claim7.holds_tied_plain_at .later [] _ _ _ _ said (fun _ h => by cases h) (by kernel_rfl) (fun _ h => by cases h) sheetPayloads_row_tie rfl ⟨rfl, rfl⟩ (by kernel_rfl) rfl plain (by kernel_rfl)
#print axioms card
end Go.Proofs.YtlpdjpkdgagjpaaDoor.sheetPayloads
