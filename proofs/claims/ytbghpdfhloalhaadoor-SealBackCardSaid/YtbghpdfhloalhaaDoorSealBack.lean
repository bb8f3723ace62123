/- SealBack: what is written is read, in the same order, as it was, whatever stands behind it; no condition. -/
import Derived.Test.YtbghpdfhloalhaaDoorParts03
import Derived.Test.YtbghpdfhloalhaaDoorSealRefs
import Derived.Test.YtbghpdfhloalhaaDoorLift
import Derived.Test.YtbghpdfhloalhaaDoorCards
import Derived.Test.YtbghpdfhloalhaaDoorTie
import Derived.Lib.LaidTab
import Derived.Deep.RegionHeld3
namespace Go.Proofs.YtbghpdfhloalhaaDoor.sealBack
open Go.ChangeShapes Go.WideShapes Go.ChangeAt Go.RowKit Mem Lift
set_option linter.unusedVariables false
set_option linter.unusedSimpArgs false

theorem rd_drew {T : TypeId} {w : World} {q : Nat} {r : Sl.R} {F : Nat → Prop} (h : RdT T w q r F) : RdT T w.drew q r F := h.keep (Nat.le_refl _) (fun _ _ => rfl)
theorem fr_undrew {F : Nat → Prop} {w w' : World} (h : Fr F w.drew w') : Fr F w w' := ⟨h.os, h.tape, h.output, h.size, h.block⟩
theorem try_drop (a rest : List UInt8) : Sl.try_ ⟨a ++ rest, 0⟩ (a.length, 0) = ⟨rest, 0⟩ := by
  unfold Sl.try_
  rw [if_neg (by simp), if_neg (by simp)]
  simp
theorem out_zero {α : Type} (b : List UInt8) (z a : α) : Sl.out ⟨b, 0⟩ z a = a := by unfold Sl.out; rw [if_neg (by simp)]
theorem part_num (x : PartD) (rest : List UInt8) (hk : x.kind = 0) (hb : x.n ≤ 9223372036854775807) : Sl.number (partB x ++ rest) 9223372036854775807 = ((max x.n 0).toNat, (partB x).length, 0) := by
  unfold partB
  rw [if_pos hk]
  exact Sl.number_num (max x.n 0).toNat 9223372036854775807 rest (by omega) (by omega)
theorem part_byte (x : PartD) (rest : List UInt8) (h0 : ¬ x.kind = 0) (h1 : x.kind = 1) : Sl.byteF (partB x ++ rest) = (byteOf x.n, (partB x).length, 0) := by
  unfold partB Sl.byteF
  rw [if_neg h0, if_pos h1, if_neg (by simp)]
  rfl
theorem part_flag (x : PartD) (rest : List UInt8) (h0 : ¬ x.kind = 0) (h1 : ¬ x.kind = 1) (h2 : x.kind = 2) : Sl.flagF (partB x ++ rest) = (decide (0 < x.n), (partB x).length, 0) := by
  unfold partB Sl.flagF
  rw [if_neg h0, if_neg h1, if_pos h2, if_neg (by simp)]
  cases decide (0 < x.n) <;> rfl
theorem part_text (x : PartD) (rest : List UInt8) (h0 : ¬ x.kind = 0) (h1 : ¬ x.kind = 1) (h2 : ¬ x.kind = 2) (hl : x.text.length ≤ 300) : Sl.textF (partB x ++ rest) 300 = (x.text, (partB x).length, 0) := by
  unfold partB
  rw [if_neg h0, if_neg h1, if_neg h2]
  exact Sl.textF_text x.text rest 300 (by omega) (by omega)
theorem partsB_drop {l : List PartD} {k : Nat} (hk : k < l.length) : partsB (l.drop k) = partB (l.getD k partK.zero) ++ partsB (l.drop (k + 1)) := by
  unfold partsB
  rw [List.drop_eq_getElem_cons hk, List.flatMap_cons, List.getD_eq_getElem?_getD, List.getElem?_eq_getElem hk]
  rfl
theorem partsB_drop_le (l : List PartD) (k : Nat) (h : ∀ x ∈ l, x.text.length ≤ 300) (hl : l.length ≤ 60) : (partsB (l.drop k)).length ≤ 24000 := by
  have := partsB_le (l.drop k) (fun x hx => h x (List.mem_of_mem_drop hx))
  rw [List.length_drop] at this
  omega
theorem cell_fr {w w' : World} {q b o : Nat} {v : Value} (h : Fr (fun k => k = q) w w') (hb : b < w.heap.size) (hq : b ≠ q) (hc : w.cell? ⟨b, o, none⟩ = some v) : w'.cell? ⟨b, o, none⟩ = some v := (World.cell?_of_block (h.block b hb hq)).trans hc
set_option maxRecDepth 100000 in
set_option maxHeartbeats 2000000 in
theorem walk (A : Option Addr) (n c : Nat) (l : List PartD) (B : Option Addr) (m d : Nat) (bs : List UInt8) (w : World) (hl : ST partK w A n l) (hn : n ≤ c) (hc : c ≤ maxLen) (hB : BS w B m bs) (hm : m ≤ d) (hd : d ≤ maxLen) (ht : Half w) :
    Calls Tryd.prog 9 #[.slice A n c, .slice B m d] w fun e w' => e = .returned (.bool true) ∧ Below w.heap.size w w' := by
  unfold maxLen at hc hd
  have hlong := long03_any A n c l w hl hn hc
  cases hs : longP l
  · rw [hs] at hlong
    by_cases hm1 : m ≤ 1000
    · have hg : decide ((1000 : Int) < (m : Int)) = false := by simp; omega
      have hlf := longP_false hs
      have hn60 : n ≤ 60 := by rw [← hl.len]; exact hlf.1
      have HL := Lib.hid (And.intro hl (And.intro hlf.2 (And.intro hlf.1 (And.intro hs (And.intro ht (And.intro hlong hB))))))
      obtain ⟨i0, hi0, hz0, hz1, hz2⟩ := info_parts ninfo8
      have HI := Lib.hid (And.intro hi0 (And.intro hz0 (And.intro hz1 hz2)))
      have hpl : (partsB l).length ≤ 24000 := partsB_drop_le l 0 hlf.2 hlf.1
      clear hl hs hlf hi0 hz0 hz1 hz2 ht hlong hB
      go_enter Tryd.func9, Tryd.ntmps9
      go_wp2_with fail
      refine HL.out.2.2.2.2.2.1.mono ?_
      rintro e w0 ⟨rfl, rfl⟩
      go_wp2_with fail
      refine (written_any A n c l w HL.out.1 hn hc HL.out.2.2.2.1).mono ?_
      rintro e w1 ⟨v1, rfl, ho1, hb1⟩
      obtain ⟨B1, d1, rfl⟩ := own_slice ho1
      have hs1 := hb1.size
      have H1 := Lib.hid (And.intro ho1 (And.intro (HL.out.2.2.2.2.2.2.below hb1) hb1))
      clear ho1 hb1
      go_wp2_with (at_builtin; refine wpList_append_bs _ rfl (.tmp 17) (.tmp 18) 22 rfl w.heap.size 5 i0 Tryd.underlying22 HI.out.1 HI.out.2.1 HI.out.2.2.1 HI.out.2.2.2 (.slice B1 _ d1) _ _ rfl H1.out.1 B m d bs rfl H1.out.2.1 (by omega) (by omega) ?_; intro v2 w2 hown2 hg2 hat2)
      rw [← u8s_append] at hown2
      obtain ⟨B2, d2, rfl⟩ := own_slice hown2
      have hb2 : Below w.heap.size w w2 := H1.out.2.2.grown hg2 hs1 (fun j hj => own_ge H1.out.1 hj)
      have H2 := Lib.hid (And.intro (BS.of_own hown2) hb2)
      clear hown2 hg2 hat2 hb2
      go_wp2_with fail
      refine (read_new B2 _ d2 (partsB l ++ bs) w2 H2.out.1 (by omega)).mono ?_
      rintro e w3 ⟨q, F, rfl, hr3, hb3, hF3⟩
      have hq3 : w.heap.size ≤ q := Nat.le_trans H2.out.2.size (hF3 q hr3.self)
      have H3 := Lib.hid (And.intro hr3 (below_then H2.out.2 hb3))
      clear hr3 hb3
      go_wp2_with fail
      go_loopw [6, 7] (fun i _ wr => ∃ (k : Nat), k ≤ n ∧ i = .int .i64 k ∧ RdAt wr q ⟨partsB (l.drop k) ++ bs, 0⟩ F ∧ Below w.heap.size w wr) (fun i _ _ => n - (intOf i).toNat)
      case atStart => exact ⟨0, by omega, rfl, H3.out.1, H3.out.2⟩
      case round =>
        obtain ⟨k, hk, rfl, hrd, hb⟩ := hrel
        by_cases hlt : k < n
        · obtain ⟨b, off, rfl, hblt, _, _, _, _⟩ := part_at HL.out.1 hlt
          obtain ⟨b', off', ea, hblt', c0, c1, c2, hok⟩ := part_at (HL.out.1.below hb) hlt
          injection ea with ea
          injection ea with ea1 ea2 _
          subst ea1
          subst ea2
          have hbq : b ≠ q := by omega
          have hkl : k < l.length := by rw [HL.out.1.len]; exact hlt
          have htx := HL.out.2.1 _ (HL.out.1.mem_ hlt)
          rw [partsB_drop hkl, List.append_assoc] at hrd
          have hlen := hrd
          have hdl := partsB_drop_le l (k + 1) HL.out.2.1 HL.out.2.2.1
          have hpl' : (partB (l.getD k partK.zero) ++ (partsB (l.drop (k + 1)) ++ bs)).length ≤ 140737488351232 := by
            have := partB_le _ htx
            have := HL.out.2.2.2.2.2.2.1
            simp only [List.length_append]
            omega
          have hrel : ∀ (x : Nat × Nat) (v : Value) (e : Ending) (w' : World), x = ((partB (l.getD k partK.zero)).length, 0) → RdTo wr.drew F q v (Sl.try_ ⟨partB (l.getD k partK.zero) ++ (partsB (l.drop (k + 1)) ++ bs), 0⟩ x) e w' → e = .returned v ∧ RdAt w' q ⟨partsB (l.drop (k + 1)) ++ bs, 0⟩ F ∧ Below w.heap.size w w' ∧ Fr (fun k => k = q) wr w' := by
            rintro x v e w' rfl ⟨h1, h2, h3⟩
            rw [try_drop] at h2
            have h4 := fr_undrew h3
            exact ⟨h1, h2, hb.trans (h4.below hb.size (fun i hi => by omega)), h4⟩
          generalize l.getD k partK.zero = x at *
          generalize hrest : partsB (l.drop (k + 1)) ++ bs = rest at *
          have HR := Lib.hid hrest
          clear hrest
          have H := Lib.hid (And.intro (rd_drew hrd) (And.intro hrel (And.intro hok (And.intro htx (And.intro hb hpl')))))
          clear hrd hrel htx hpl' hlen hdl
          have hHS : w.heap.size ≤ wr.heap.size := hb.size
          clear hb
          by_cases k0 : x.kind = 0
          · have hg0 : (x.kind == 0) = true := by simp [k0]
            have hpn := part_num x rest k0 hok.2.1.2
            have hnum := rnum_any q _ F 9223372036854775807 wr.drew H.out.1 (by omega) H.out.2.2.2.2.2
            rw [hpn, out_zero] at hnum
            simp only at hnum
            have HN := Lib.hid hnum
            clear hnum hpn hok
            have HS : wr.cell? ⟨b, off + k * 3 + 1, none⟩ = some (.int .i64 x.n) := c1
            by_cases hneg : x.n < 0
            · have hmx : (max x.n 0).toNat = 0 := by omega
              rw [hmx] at HN
              go_wp2
              go_region_held3 (fun w' => w'.cell? ⟨b, off + k * 3 + 1, none⟩ = some (.int .i64 x.n)) ((first | exact HS | (simp only [World.cell?_drew]; assumption))) (first
                | (go_at_call 27; go_must (refine HN.out.mono ?_; intro e w4 h4; obtain ⟨rfl, h5, h6, h7⟩ := H.out.2.1 _ _ e w4 rfl h4; have HS := cell_fr h7 (by omega) hbq c1; have H4 := Lib.hid (And.intro h5 h6); clear h4 h5 h6 h7)))
              all_goals
                go_wp2
                go_roundw
                case rel => exact ⟨k + 1, by omega, by go_num, by rw [HR.out]; exact H4.out.1, H4.out.2⟩
                case measure => simp [intOf]; omega
            · obtain ⟨z, hz⟩ := Int.eq_ofNat_of_zero_le (by omega : 0 ≤ x.n)
              have hmx : (max x.n 0).toNat = z := by omega
              rw [hmx] at HN
              rw [hz] at HS c1 hneg
              clear hz hmx
              go_wp2
              go_region_held3 (fun w' => w'.cell? ⟨b, off + k * 3 + 1, none⟩ = some (.int .i64 (z : Int))) ((first | exact HS | (simp only [World.cell?_drew]; assumption))) (first
                | (go_at_call 27; go_must (refine HN.out.mono ?_; intro e w4 h4; obtain ⟨rfl, h5, h6, h7⟩ := H.out.2.1 _ _ e w4 rfl h4; have HS := cell_fr h7 (by omega) hbq c1; have H4 := Lib.hid (And.intro h5 h6); clear h4 h5 h6 h7)))
              all_goals
                go_wp2
                go_roundw
                case rel => exact ⟨k + 1, by omega, by go_num, by rw [HR.out]; exact H4.out.1, H4.out.2⟩
                case measure => simp [intOf]; omega
          · have hg0 : (x.kind == 0) = false := by simp [k0]
            by_cases k1 : x.kind = 1
            · have hg1 : (x.kind == 1) = true := by simp [k1]
              have hnum := rbyte_any q _ F wr.drew H.out.1 H.out.2.2.2.2.2
              rw [part_byte x rest k0 k1, out_zero] at hnum
              simp only at hnum
              have HN := Lib.hid hnum
              clear hnum hok
              have hb8 : (!(((byteOf x.n).toNat : Int) == x.n % 256)) = false := by rw [byteOf_wrap]; simp
              have HS : wr.cell? ⟨b, off + k * 3 + 1, none⟩ = some (.int .i64 x.n) := c1
              go_wp2
              go_region_held3 (fun w' => w'.cell? ⟨b, off + k * 3 + 1, none⟩ = some (.int .i64 x.n)) ((first | exact HS | (simp only [World.cell?_drew]; assumption))) (first
                | (go_at_call 29; go_must (refine HN.out.mono ?_; intro e w4 h4; obtain ⟨rfl, h5, h6, h7⟩ := H.out.2.1 _ _ e w4 rfl h4; have HS := cell_fr h7 (by omega) hbq c1; have H4 := Lib.hid (And.intro h5 h6); clear h4 h5 h6 h7)))
              all_goals
                go_wp2
                · rename_i hh
                  rw [hb8] at hh
                  cases hh
                · go_roundw
                  case rel => exact ⟨k + 1, by omega, by go_num, by rw [HR.out]; exact H4.out.1, H4.out.2⟩
                  case measure => simp [intOf]; omega
            · have hg1 : (x.kind == 1) = false := by simp [k1]
              by_cases k2 : x.kind = 2
              · have hg2 : (x.kind == 2) = true := by simp [k2]
                have hnum := rflag_any q _ F wr.drew H.out.1 H.out.2.2.2.2.2
                rw [part_flag x rest k0 k1 k2, out_zero] at hnum
                simp only at hnum
                have HN := Lib.hid hnum
                clear hnum hok
                have HS : wr.cell? ⟨b, off + k * 3 + 1, none⟩ = some (.int .i64 x.n) := c1
                go_wp2
                go_region_held3 (fun w' => w'.cell? ⟨b, off + k * 3 + 1, none⟩ = some (.int .i64 x.n)) ((first | exact HS | (simp only [World.cell?_drew]; assumption))) (first
                  | (go_at_call 31; go_must (refine HN.out.mono ?_; intro e w4 h4; obtain ⟨rfl, h5, h6, h7⟩ := H.out.2.1 _ _ e w4 rfl h4; have HS := cell_fr h7 (by omega) hbq c1; have H4 := Lib.hid (And.intro h5 h6); clear h4 h5 h6 h7)))
                all_goals
                  go_wp2
                  go_roundw
                  case rel => exact ⟨k + 1, by omega, by go_num, by rw [HR.out]; exact H4.out.1, H4.out.2⟩
                  case measure => simp [intOf]; omega
              · have hg2 : (x.kind == 2) = false := by simp [k2]
                have hnum := rtext_any q _ F 300 wr.drew H.out.1 (by omega) H.out.2.2.2.2.2
                rw [part_text x rest k0 k1 k2 H.out.2.2.2.1, out_zero] at hnum
                simp only at hnum
                unfold str at hnum
                have HN := Lib.hid hnum
                clear hnum hok
                have HS : wr.cell? ⟨b, off + k * 3 + 2, none⟩ = some (.string ⟨x.text.toArray⟩) := c2
                go_wp2
                go_region_held3 (fun w' => w'.cell? ⟨b, off + k * 3 + 2, none⟩ = some (.string ⟨x.text.toArray⟩)) ((first | exact HS | (simp only [World.cell?_drew]; assumption))) (first
                  | (go_at_call 25; go_must (refine HN.out.mono ?_; intro e w4 h4; obtain ⟨rfl, h5, h6, h7⟩ := H.out.2.1 _ _ e w4 rfl h4; have HS := cell_fr h7 (by omega) hbq c2; have H4 := Lib.hid (And.intro h5 h6); clear h4 h5 h6 h7)))
                all_goals
                  go_wp2
                  go_roundw
                  case rel => exact ⟨k + 1, by omega, by go_num, by rw [HR.out]; exact H4.out.1, H4.out.2⟩
                  case measure => simp [intOf]; omega
        · obtain rfl : k = n := by omega
          rw [List.drop_of_length_le (by rw [HL.out.1.len]; omega)] at hrd
          simp only [partsB, List.flatMap_nil, List.nil_append] at hrd
          have hbl := HL.out.2.2.2.2.2.2.1
          have herr := rerr_any q _ F wr hrd
          have hleft := rleft_any q _ F wr hrd
          simp only [hbl] at herr hleft
          have H := Lib.hid (And.intro herr (And.intro hleft hb))
          clear hrd herr hleft hb hbl
          go_wp2_with fail
          refine H.out.1.mono ?_
          rintro e w5 ⟨rfl, rfl⟩
          go_wp2_with fail
          refine H.out.2.1.mono ?_
          rintro e w5 ⟨rfl, rfl⟩
          go_wp2_with fail
          refine (awake03_any wr (HL.out.2.2.2.2.1.below H.out.2.2)).mono ?_
          rintro e w6 ⟨rfl, hb6⟩
          have H6 := Lib.hid (below_then H.out.2.2 hb6)
          clear hb6
          go_wp2
          go_ret
          exact ⟨rfl, H6.out⟩
    · have hg : decide ((1000 : Int) < (m : Int)) = true := by simp; omega
      have H := Lib.hid (And.intro hlong ht)
      clear hlong ht hl hs hB
      go_enter Tryd.func9, Tryd.ntmps9
      go_wp2_with fail
      refine H.out.1.mono ?_
      rintro e w1 ⟨rfl, rfl⟩
      go_wp2_with fail
      refine (awake03_any w H.out.2).mono ?_
      rintro e w4 ⟨rfl, hb4⟩
      have H4 := Lib.hid hb4
      clear hb4
      go_wp2
      go_ret
      exact ⟨rfl, H4.out⟩
  · rw [hs] at hlong
    have H := Lib.hid (And.intro hlong ht)
    clear hlong ht hl hs hB
    go_enter Tryd.func9, Tryd.ntmps9
    go_wp2_with fail
    refine H.out.1.mono ?_
    rintro e w1 ⟨rfl, rfl⟩
    go_wp2_with fail
    refine (awake03_any w H.out.2).mono ?_
    rintro e w4 ⟨rfl, hb4⟩
    have H4 := Lib.hid hb4
    clear hb4
    go_wp2
    go_ret
    exact ⟨rfl, H4.out⟩

theorem own : ownKnob Tryd.prog.godebug = none := by kernel_rfl
theorem laidOut : laidOutB Tryd.prog = true := by kernel_rfl
theorem params_ok : ∀ t ∈ Tryd.f9.params.toList, Tryd.prog.readableRec t = true ∧ t < Tryd.prog.types.size := by
  rw [Tryd.params9]
  intro t ht
  have ht' : t = 39 ∨ t = 22 := by
    simpa using ht
  rcases ht' with rfl | rfl
  · exact ⟨(show Tryd.prog.readableRec 39 = true by kernel_rfl), of_decide_eq_true (show decide (39 < Tryd.prog.types.size) = true by kernel_rfl)⟩
  · exact ⟨(show Tryd.prog.readableRec 22 = true by kernel_rfl), of_decide_eq_true (show decide (22 < Tryd.prog.types.size) = true by kernel_rfl)⟩
theorem gTab : Tryd.prog.globalNamed "troth/crc.half" = some 0 := by kernel_rfl
theorem gTabType : (Tryd.prog.globals[0]?).map (·.type) = some 87 := by kernel_rfl
theorem cellsTab : Tryd.prog.cellsOf 87 = 16 := by kernel_rfl
theorem cells32 : Tryd.prog.cellsOf 36 = 1 := by kernel_rfl
theorem table {W : World} (h : laidMetH Tryd.prog Rows.sealBackRow.laid W) : Half W := by
  have h1 : Lib.TabIs Tryd.prog W "troth/crc.half" .u32 (Crc.tab.map (fun n : Nat => (n : Int))) :=
    Lib.tabIs_of_head (rest := []) gTab gTabType Tryd.underlying87 Tryd.underlying36 cells32 cellsTab h
  intro i hi
  have h2 := h1.cell gTab i (by rw [List.length_map]; exact hi)
  rw [h2]
  have hi' : i < Crc.tab.length := hi
  rw [List.getD_eq_getElem?_getD, List.getElem?_map, List.getD_eq_getElem?_getD, List.getElem?_eq_getElem hi']
  rfl

set_option maxRecDepth 100000 in
theorem contract (H : Type) (enc : TypeId × Value → H) (W : World) (base : Nat) (args : Array Value) (ds gs : List (DataW H)) (before : List MemPlace)
    (hval : ∀ (j : Nat) t v, Tryd.f9.params[j]? = some t → args[j]? = some v → Value.okWide Tryd.prog W .any base t v)
    (hW : DataW.Whole enc Tryd.prog Tryd.f9.params.toList Rows.sealBackSpec.vars false W args.toList ds gs before) (hL : laidMetH Tryd.prog Rows.sealBackRow.laid W) :
    Calls Tryd.prog 9 args W fun e W' => ∃ v, e = .returned v ∧ Rows.sealBackSpec.post enc Tryd.prog Tryd.f9 false true false false W args v W' := by
  have hW' := hW
  obtain ⟨p, q, hA0, hV, rfl, hfz, hnd⟩ := hW
  have hA : DataW.TrodAll enc Tryd.prog W 0 (fun _ => true) true Tryd.f9.params.toList args.toList ds p := hA0
  rw [Tryd.params9] at hA hval
  obtain ⟨v0, vs0, d0, ds0, p0, q0, hargs, rfl, rfl, h0, r0⟩ := trodAll_cons hA
  obtain ⟨v1, vs1, d1, ds1, p1, q1, rfl, rfl, rfl, h1, r1⟩ := trodAll_cons r0
  obtain ⟨rfl, rfl, rfl⟩ := trodAll_nil r1
  obtain rfl : args = #[v0, v1] := by cases args; simp_all
  obtain ⟨rfl, rfl⟩ := trodVars_none hV
  obtain ⟨A0, n0, c0, l0, rfl, lh0, nc0, cm0⟩ := open_structs (K := partK) Tryd.underlying39 (show Tryd.prog.cellsOf 42 = (partK).k by kernel_rfl) (by decide) part_cells (hval 0 39 v0 rfl rfl) h0
  obtain ⟨A1, n1, c1, bs1, rfl, bs1h, nc1, cm1, dd1⟩ := open_bytes Tryd.underlying22 Tryd.underlying5 (show Tryd.prog.cellsOf 5 = 1 by kernel_rfl) (hval 1 22 v1 rfl rfl) h1
  refine (walk A0 n0 c0 l0 A1 n1 c1 bs1 W lh0 nc0 cm0 bs1h nc1 cm1 (table hL)).mono fun e W' ⟨he, bel⟩ => ?_
  exact ⟨_, he, post_true laidOut Tryd.underlying4 (show Tryd.f9.resultTypes = #[4] from rfl) params_ok rfl hW' rfl bel⟩

noncomputable def laidWorld (os : Os) : World :=
  { World.holding Tryd.prog os ⟨#[], #[], []⟩ with heap := (World.holding Tryd.prog os ⟨#[], #[], []⟩).heap.modify 0 fun
      | .cells _ t frozen => .cells #[.int .u32 0, .int .u32 498536548, .int .u32 997073096, .int .u32 651767980, .int .u32 1994146192, .int .u32 1802195444, .int .u32 1303535960, .int .u32 1342533948, .int .u32 3988292384, .int .u32 4027552580, .int .u32 3604390888, .int .u32 3412177804, .int .u32 2607071920, .int .u32 2262029012, .int .u32 2685067896, .int .u32 3183342108] t frozen
      | o => o }
theorem laid_met (os : Os) : laidMet Tryd.prog Rows.sealBackRow.laid ((laidWorld os).forCall (fun _ _ => 0) ⟨#[], #[.slice none 0 0, .slice none 0 0], []⟩).memory :=
  laidMet_of_run' 8 (by kernel_rfl) (by kernel_rfl)
theorem reads (os : Os) {H : Type} (enc : TypeId × Value → H) : ∃ places, DataW.whole enc Tryd.prog ((laidWorld os).forCall (fun _ _ => 0) ⟨#[], #[.slice none 0 0, .slice none 0 0], []⟩).memory Tryd.f9.params.toList Rows.sealBackSpec.vars false (#[Value.slice none 0 0, Value.slice none 0 0] : Array Value).toList 8 = some ([.nil, .nil], [], places) :=
  ⟨[], by kernel_rfl⟩
set_option maxRecDepth 100000 in
theorem lifted (os : Os) (started : os.Started) (H : Type) (enc : TypeId × Value → H) (F : Stop.Interp) :
    ReturnsInHanded {} Tryd.checked os 9 .any ((OpenSpec.ofChange Rows.sealBackSpec).preRow enc Tryd.prog Tryd.f9 Rows.sealBackRow.domain false Rows.sealBackRow.laid) (((OpenSpec.ofChange Rows.sealBackSpec).at F).post enc Tryd.prog Tryd.f9 false true false false) := by
  obtain ⟨places, hx⟩ := reads os enc
  refine returnsInHanded_of_row (C := Tryd.checked) (s := OpenSpec.ofChange Rows.sealBackSpec) own started (by kernel_rfl) Tryd.func9
    (witness_row_at (enc := enc) (C := Tryd.checked) false (laidWorld os) #[.slice none 0 0, .slice none 0 0] rfl (by kernel_rfl) (by kernel_rfl) (by kernel_rfl)
      (OpenSpec.preRow_of_cond 8 hx (by kernel_rfl) (fun k hk => by cases hk) (by kernel_rfl) (laid_met os))) ?_
  intro W base args ds gs before hval hW _ _ hsz hL _ _
  exact contract H enc W base args ds gs before hval hW hL
theorem said : Rows.SealBackSaid :=
  OpenClaim.holds_of_cond 9 Tryd.f9 rfl rfl rfl rfl rfl rfl rfl ⟨rfl, rfl, rfl, rfl, rfl⟩ rfl rfl rfl rfl rfl (by kernel_rfl) Tryd.func9 (by kernel_rfl)
    (of_decide_eq_true (by kernel_rfl)) (by unfold Func.isWrapper; first | (rw [if_pos (by decide +kernel)]; kernel_rfl) | (rw [if_neg (by decide +kernel)]; exact ⟨rfl, rfl⟩))
    (fun os started H enc _ F => by rw [OpenClaim.pre_eq_preRow]; exact lifted os started H enc F)
theorem plain (f : FuncId) (fn : Func) (hf : Tryd.pinned.checked.prog.funcNamed "troth/trothlaw03.SealBack" = some f) (hfn : Tryd.pinned.checked.prog.funcs[f]? = some fn) :
    false = Tryd.pinned.checked.prog.looks [] ∧ ∀ (j : Nat) t, fn.params[j]? = some t → Tryd.pinned.checked.prog.wantsStandIn t = false := by
  obtain rfl : f = 9 := Option.some.inj ((show Tryd.prog.funcNamed "troth/trothlaw03.SealBack" = some 9 by kernel_rfl).symm.trans hf) |>.symm
  obtain rfl : fn = Tryd.f9 := (Option.some.inj (Tryd.func9.symm.trans hfn)).symm
  refine ⟨by kernel_rfl, fun j t ht => ?_⟩
  rw [Tryd.params9] at ht
  have ht' : t = 39 ∨ t = 22 := by simpa using Array.mem_of_getElem? ht
  rcases ht' with rfl | rfl
  · exact (show Tryd.prog.wantsStandIn 39 = false by kernel_rfl)
  · exact (show Tryd.prog.wantsStandIn 22 = false by kernel_rfl)
theorem card : Rows.SealBackCardSaid :=
  Claim7.holds_tied_plain_at .later [] _ _ _ _ said (fun _ h => by cases h) (by kernel_rfl) (fun _ h => by cases h) sealBack_row_tie rfl ⟨rfl, rfl⟩ (by kernel_rfl) rfl plain (by kernel_rfl)
#print axioms card
end Go.Proofs.YtbghpdfhloalhaaDoor.sealBack
