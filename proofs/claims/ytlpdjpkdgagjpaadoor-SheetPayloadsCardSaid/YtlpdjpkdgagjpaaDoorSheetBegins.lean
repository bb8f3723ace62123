/- A finder opens the bodies that begin in a sheet. -/
import Derived.Test.YtlpdjpkdgagjpaaDoorSheetGoes
import Derived.Deep.LoopGhost
namespace Go.Proofs.YtlpdjpkdgagjpaaDoor
open Go.RowKit Mem Lift
set_option linter.unusedVariables false
set_option linter.unusedSimpArgs false
set_option maxRecDepth 100000

/-- what is put under way -/
theorem FnIn.set_all {base q : Nat} {f : Sh.F} {Ao : Option Addr} {co : Nat} {Aw : Option Addr} {cw : Nat} {w : World} {A1 : Option Addr} {c1 n : Nat} {u : Bool} {l : List UInt8} {cs : Array Value} (hblk : Blk w q 81 cs) (hcs : cs = finCells Ao co Aw cw f) (hout : w.ownsRow base 76 2 (.slice Ao f.out.length co) f.out.length (rowOf foundK f.out)) (hge : base ≤ q)
    (hway : w.ownsRow base 5 1 (.slice A1 l.length c1) l.length (u8s l)) :
    FnIn base q ⟨f.out, l, n, u⟩ Ao co A1 c1 (((w.setCell ⟨q, 1, none⟩ (.slice A1 l.length c1)).setCell ⟨q, 2, none⟩ (.int .i64 (n : Int))).setCell ⟨q, 3, none⟩ (.bool u)) := by
  subst hcs
  have hk : ∀ k, k ≠ q → (((w.setCell ⟨q, 1, none⟩ (.slice A1 l.length c1)).setCell ⟨q, 2, none⟩ (.int .i64 (n : Int))).setCell ⟨q, 3, none⟩ (.bool u)).heap[k]? = w.heap[k]? := fun k hk => by
    rw [Below.heap_setCell _ _ _ k hk, Below.heap_setCell _ _ _ k hk, Below.heap_setCell _ _ _ k hk]
  refine ⟨?_, own_keep hout (fun k e => hk k ?_), own_keep hway (fun k e => hk k ?_), hge⟩
  · have := ((hblk.put 1 (.slice A1 l.length c1)).put 2 (.int .i64 (n : Int))).put 3 (.bool u)
    simpa [finCells] using this
  · obtain ⟨cur, hc⟩ := own_block hout e
    exact blk_ne hblk hc (by decide)
  · obtain ⟨cur, hc⟩ := own_block hway e
    exact blk_ne hblk hc (by decide)
theorem RS.sub {w : World} {A : Option Addr} {n c : Nat} {bs : List UInt8} (h : RS w A n c bs) {k : Nat} (hk : k ≤ n) : RS w (subA A c k) (n - k) (c - k) (bs.drop k) := by
  refine ⟨?_, by have := h.2.1; omega, by have := h.2.2.1; omega, fun a e => ?_⟩
  · have := subA_bs h.1 c k n hk (Nat.le_refl _) h.2.1
    rwa [List.take_of_length_le (by rw [List.length_drop, h.1.1]; omega)] at this
  · unfold subA at e
    split at e
    · exact h.2.2.2 a e
    · cases A with
      | none => cases e
      | some a0 =>
        have hab : a.block = a0.block := by
          injection e with e
          rw [← e]
          unfold Addr.add
          split <;> rfl
        rw [hab]
        exact h.2.2.2 a0 rfl
theorem RS.lt {w : World} {A : Option Addr} {n c : Nat} {bs : List UInt8} (h : RS w A n c bs) {a : Addr} (e : A = some a) : a.block < w.heap.size := by
  obtain ⟨cs, fr, hc⟩ := h.2.2.2 a e
  rcases Nat.lt_or_ge a.block w.heap.size with hl | hl
  · exact hl
  · rw [Array.getElem?_eq_none hl] at hc; cases hc
/-- one more found leaves the rest -/
theorem RS.found {base q : Nat} {f : Sh.F} {Ao : Option Addr} {co : Nat} {Aw : Option Addr} {cw : Nat} {w w4 : World} {A : Option Addr} {n c : Nat} {bs : List UInt8} {o : Obj} {x : Value} (h : RS w A n c bs) (hf : FnIn base q f Ao co Aw cw w) (hg : (w.alloc o).drew.grownBy w4 (Value.slice Ao f.out.length co).ownBlock) : RS (w4.setCell ⟨q, 0, none⟩ x) A n c bs := by
  refine h.keep ?_ (fun k cs fr hk => ?_)
  · have := hg.size
    simp at this ⊢
    omega
  · have hlt : k < w.heap.size := by
      rcases Nat.lt_or_ge k w.heap.size with hl | hl
      · exact hl
      · rw [Array.getElem?_eq_none hl] at hk; cases hk
    have hq : k ≠ q := by
      rintro rfl
      have := hf.blk
      unfold Blk at this
      rw [hk] at this
      injection this with this
      injection this with _ this
      exact absurd this (by decide)
    rw [Below.heap_setCell _ _ _ k hq, hg.block k (by simp; omega) (fun e => ?_)]
    · exact Below.heap_alloc w o k hlt
    · obtain ⟨cur, hc⟩ := own_block hf.out e.symm
      rw [hk] at hc
      injection hc with hc
      injection hc with _ hc
      exact absurd hc (by decide)
set_option maxHeartbeats 4000000 in
theorem begins_any (w0 : World) (q : Nat) (f : Sh.F) (A : Option Addr) (n c : Nat) (rest : List UInt8) (i : Nat) (w : World) (ht : Half w0) (hb : Below w0.heap.size w0 w) (hf : FnA w0.heap.size q f w) (hr : RS w A n c rest) (hl1 : n ≤ 100000) (hl2 : f.out.length + n ≤ 900000) (hi : i ≤ 1000000) :
    Calls Tryd.prog 42 #[.pointer (some ⟨q, 0, none⟩), .slice A n c, .int .i64 (i : Int)] w (FnP w0 q (Sh.begins f rest i)) := by
  obtain ⟨Ao, co, Aw, cw, hf⟩ := hf
  obtain ⟨c0, c1, c2, c3⟩ := hf.cell
  have f3 := hf.blk.free 3
  have hlt := hf.blk.lt
  have hset := hf.set_under false
  have hb2 : Below w0.heap.size w0 (w.setCell ⟨q, 3, none⟩ (.bool false)) := hb.setCell (by have := hf.ge; simpa using this) _
  have hr2 : RS (w.setCell ⟨q, 3, none⟩ (.bool false)) A n c rest := hr.keep (by simp) (fun k cs fr h => Below.heap_setCell _ _ _ k (by
    rintro rfl
    have := hf.blk
    unfold Blk at this
    rw [h] at this
    injection this with this
    injection this with _ this
    exact absurd this (by decide)))
  have hlen := hr.1.1
  have hR : Sh.begins f rest i = Sh.opens rest.length ⟨f.out, f.way, f.frm, false⟩ rest i := rfl
  generalize Sh.begins f rest i = R at *
  have H := Lib.hid (And.intro hset (And.intro hb2 (And.intro hr2 (And.intro hR (And.intro ht hlen)))))
  clear hset hb2 hr2 hR ht hb hf hr hlen
  go_enter Tryd.func42, Tryd.ntmps42
  go_wp2_with fail
  go_step3
  go_wp2_with fail
  go_step3
  go_wp2_with fail
  go_loopw [1] (fun s1 wr => ∃ (k : Nat) (g : Sh.F) (A' : Option Addr) (n' c' : Nat) (bs : List UInt8), s1 = .slice A' n' c' ∧ n' ≤ k ∧ n' ≤ n ∧ g.out.length + n' ≤ 900000 ∧ g.under = false ∧ R = Sh.opens k g bs i ∧ FnA w0.heap.size q g wr ∧ Below w0.heap.size w0 wr ∧ RS wr A' n' c' bs) (fun s1 _ => sliceLen s1)
  case atStart => exact ⟨rest.length, ⟨f.out, f.way, f.frm, false⟩, A, n, c, rest, rfl, by rw [H.out.2.2.2.2.2]; omega, Nat.le_refl _, hl2, rfl, H.out.2.2.2.1, ⟨_, _, _, _, H.out.1⟩, H.out.2.1, H.out.2.2.1⟩
  case round =>
    obtain ⟨k, g, A', n', c', bs, rfl, hk, hn', ho, hu, hR, hg, hbw, hrs⟩ := hrel
    obtain ⟨Bo, do_, Bw, dw, hg⟩ := hg
    have hlb := hrs.1.1
    rcases Nat.eq_zero_or_pos n' with rfl | hpos
    · obtain rfl : bs = [] := List.length_eq_zero_iff.mp hlb
      rw [Sh.opens_nil] at hR
      have HX := Lib.hid (And.intro hR (And.intro hg hbw))
      clear hR hg hbw hrs hlb c0 c1 c2 c3 f3
      go_wp2_with fail
      try rw [Exit.noGoto_ret]
      go_ret
      rw [HX.out.1]
      exact ⟨rfl, ⟨_, _, _, _, HX.out.2.1⟩, HX.out.2.2⟩
    · obtain ⟨k, rfl⟩ : ∃ k1, k = k1 + 1 := ⟨k - 1, by omega⟩
      have hne : bs ≠ [] := by
        rintro rfl
        simp at hlb
        omega
      rw [Sh.opens, if_neg hne] at hR
      have HR := Lib.hid hR
      have HX := Lib.hid (And.intro hg (And.intro hbw (And.intro hrs hlb)))
      clear hR hg hbw hrs hlb hne c0 c1 c2 c3 f3
      go_wp2_with fail
      refine (open_any A' n' c' bs wr HX.out.2.2.1.1 (by omega) HX.out.2.2.1.2.1 HX.out.2.2.1.2.2.1 (H.out.2.2.2.2.1.below HX.out.2.1)).mono ?_
      rintro e w3 ⟨A2, c2, rfl, hb3, hc2, hm2, hbe3, _⟩
      have hsh := openB_short bs
      have hsl := Sl.seal_of_open bs
      have hRR := HR.out
      clear HR
      generalize Sl.openB bs = r at *
      obtain ⟨b, m, er⟩ := r
      simp only at hsh hRR hb3 hc2 ⊢
      have hin3 := HX.out.1.below hbe3
      have hbb := below_of HX.out.2.1 HX.out.2.1.size hbe3
      have hrs3 := HX.out.2.2.1.below hbe3
      obtain ⟨c0, c1, c2', c3⟩ := hin3.cell
      have f0 := hin3.blk.free 0
      by_cases h0 : er = 0
      · subst h0
        rw [if_pos rfl] at hRR
        obtain ⟨_, hm, hsb⟩ := hsl b m rfl
        have hm1 : 1 ≤ m := by
          have := congrArg List.length hsb
          rw [List.length_take, Sl.sealB_length] at this
          omega
        have hmn : m ≤ n' := by rw [← HX.out.2.2.2]; exact hm
        have hcv := conv_bytes0 hb3 c2 w3.drew (fun _ => rfl)
        unfold str at hcv
        have hcut := fun W => cut_l A' n' c' m (m : Int) rfl hmn W
        have H3 := Lib.hid (And.intro hin3 (And.intro hbb (And.intro hb3 (And.intro hsh (And.intro hrs3 hRR)))))
        clear hin3 hbb hb3 hsh hbe3 hrs3 hRR hsl hsb hm c1 c2' c3
        obtain ⟨i1, hj0, hj1, hj2, hj3⟩ := info_parts finfoFound
        have HJ := Lib.hid (And.intro hj0 (And.intro hj1 (And.intro hj2 hj3)))
        clear hj0 hj1 hj2 hj3
        have c0a : (w3.alloc (.cells #[.string ⟨b.toArray⟩, .int .i64 (i : Int)] 76)).cell? ⟨q, 0, none⟩ = some (.slice Bo g.out.length do_) := (World.cell?_of_block (Below.heap_alloc w3 _ q H3.out.1.blk.lt)).trans c0
        go_upto_region 7 with fail
        go_region_law ((
          refine step_app_one (by rfl) (.tmp 29) (.tmp 34) 42 (by rfl) w0.heap.size 76 i1 (.agg #[.string ⟨#[]⟩, .int .i64 0]) 2 24 Tryd.underlying42 HJ.out.1 HJ.out.2.1 HJ.out.2.2.1 HJ.out.2.2.2 rfl (by omega) (.slice Bo g.out.length do_) g.out.length (rowOf foundK g.out) (by simp [Act.eval, Act.put]) (own_keep H3.out.1.out (fun k e => Below.heap_alloc w3 _ k (own_lt H3.out.1.out e))) w3.heap.size [.string ⟨b.toArray⟩, .int .i64 (i : Int)] (by simp [Act.eval, Act.put]) rfl (heap_alloc_new w3 _) (found_one b i) (by omega) (by omega) (by have := H3.out.2.1.size; simp; omega) ?_
          intro g4 cap w4 hown hg4 hat
          have ha := H3.out.1.alloc_drew (.cells #[.string ⟨b.toArray⟩, .int .i64 (i : Int)] 76)
          have hk4 := (ha.grow_out hg4).1
          have d0 := (show w4.cell? ⟨q, 0, none⟩ = some (.slice Bo g.out.length do_) from hk4.cell 0)
          have f04 := hk4.free 0
          have H4 := Lib.hid (And.intro hown hg4)
          clear hown hg4 hat ha hk4))
        all_goals
          have hin4 := H3.out.1.set_out H4.out.1 H4.out.2
          have hr4 := H3.out.2.2.2.2.1.found (x := .slice (some ⟨g4, 0, none⟩) (g.out.length + 1) cap) H3.out.1 H4.out.2
          have hb4 : Below w0.heap.size w0 (w4.setCell ⟨q, 0, none⟩ (.slice (some ⟨g4, 0, none⟩) (g.out.length + 1) cap)) := (((H3.out.2.1.alloc H3.out.2.1.size _).drew).grown H4.out.2 (by have := H3.out.2.1.size; simp; omega) (fun j hj => own_ge H3.out.1.out hj)).setCell (by have := H3.out.1.ge; simpa using this) _
          generalize w4.setCell ⟨q, 0, none⟩ (.slice (some ⟨g4, 0, none⟩) (g.out.length + 1) cap) = w5 at *
          have H5 := Lib.hid (And.intro hin4 (And.intro hb4 hr4))
          clear hin4 hb4 hr4 c0 c0a f0 d0 f04
          go_wp2_with fail
          exact ⟨⟨k, ⟨g.out ++ [(b, i)], g.way, g.frm, g.under⟩, subA A' c' m, n' - m, c' - m, _, rfl, by omega, by omega, by simp only [List.length_append, List.length_singleton]; omega, hu, H3.out.2.2.2.2.2, ⟨_, _, _, _, H5.out.1⟩, H5.out.2.1, H5.out.2.2.sub hmn⟩, by simp [sliceLen]; omega⟩
      · rw [if_neg h0] at hRR
        have g0 : ((er : Int) == 0) = false := by rw [beq_eq_false_iff_ne]; omega
        by_cases h10 : er = 10
        · subst h10
          rw [if_pos rfl] at hRR
          obtain ⟨i0, hi0, hz0, hz1, hz2⟩ := info_parts ninfo8
          have HI := Lib.hid (And.intro hi0 (And.intro hz0 (And.intro hz1 hz2)))
          have hoe : (w3.alloc (.cells #[] 5)).ownsRow w0.heap.size 5 1 (.slice (some ⟨w3.heap.size, 0, none⟩) 0 0) 0 [] := World.ownsRow_made w3 #[] 0 hbb.size (by simp [maxLen]) (by simp)
          have hba := hrs3.1.below ((Below.refl _ _).alloc (Nat.le_refl _) (.cells #[] 5))
          have hfar : ∀ w4 k, (w3.alloc (.cells #[] 5)).grownBy w4 (some w3.heap.size) → k < w3.heap.size → w4.heap[k]? = w3.heap[k]? := fun w4 k hg hk => (hg.block k (by simp; omega) (by simp; omega)).trans (Below.heap_alloc w3 _ k hk)
          have H3 := Lib.hid (And.intro hin3 (And.intro hbb (And.intro hoe (And.intro hba (And.intro hfar (And.intro hRR HX.out.2.2.2))))))
          clear hi0 hz0 hz1 hz2 hin3 hbb hb3 hsh hbe3 hrs3 hRR hsl hoe hba hfar c0 c1 c2' c3 f0 hc2 hm2
          go_wp2_with (at_builtin; refine wpList_append_bs _ (by rfl) (.tmp 46) (.tmp 47) 38 (by rfl) w0.heap.size 5 i0 Tryd.underlying38 HI.out.1 HI.out.2.1 HI.out.2.2.1 HI.out.2.2.2 (.slice (some ⟨w3.heap.size, 0, none⟩) 0 0) 0 [] (by rfl) H3.out.2.2.1 A' n' c' bs (by rfl) H3.out.2.2.2.1 (by omega) (by have := H3.out.2.1.size; simp; omega) ?_; intro v' w4 hown hg4 _; rw [List.nil_append, Nat.zero_add] at hown; obtain ⟨A5, c5, rfl⟩ := own_slice hown; have hkq := H3.out.1.blk.keep (H3.out.2.2.2.2.1 w4 q hg4 H3.out.1.blk.lt); have d1 := (show w4.cell? ⟨q, 1, none⟩ = some (.slice Bw g.way.length dw) from hkq.cell 1); have d2 := (show w4.cell? ⟨q, 2, none⟩ = some (.int .i64 (g.frm : Int)) from hkq.cell 2); have d3 := (show w4.cell? ⟨q, 3, none⟩ = some (.bool g.under) from hkq.cell 3); have f1 := hkq.free 1; have f2 := hkq.free 2; have f3 := hkq.free 3; have H4 := Lib.hid (And.intro hown (And.intro hg4 hkq)); clear hown hg4 hkq)
          try rw [Exit.noGoto_ret]
          go_ret
          rw [H3.out.2.2.2.2.2.1]
          have hw5 := H4.out.1
          have hlb := H3.out.2.2.2.2.2.2
          rw [← hlb] at hw5 ⊢
          refine ⟨rfl, ⟨_, _, _, _, FnIn.set_all H4.out.2.2 rfl (own_keep H3.out.1.out (fun k e => H3.out.2.2.2.2.1 w4 k H4.out.2.1 (own_lt H3.out.1.out e))) H3.out.1.ge hw5⟩, ?_⟩
          have hq := H3.out.1.ge
          exact ((((H3.out.2.1.alloc H3.out.2.1.size _).grown H4.out.2.1 (by have := H3.out.2.1.size; simp; omega) (fun j hj => by have := H3.out.2.1.size; simp [Value.ownBlock] at hj; omega)).setCell (by simpa using hq) _).setCell (by simpa using hq) _).setCell (by simpa using hq) _
        · rw [if_neg h10] at hRR
          have g10 : ((er : Int) == 10) = false := by rw [beq_eq_false_iff_ne]; omega
          have H3 := Lib.hid (And.intro hin3 (And.intro hbb hRR))
          clear hin3 hbb hb3 hsh hbe3 hrs3 hRR hsl c0 c1 c2' c3 f0 hc2 hm2
          go_wp2_with fail
          try rw [Exit.noGoto_ret]
          go_ret
          rw [H3.out.2.2]
          exact ⟨rfl, ⟨_, _, _, _, H3.out.1⟩, H3.out.2.1⟩
end Go.Proofs.YtlpdjpkdgagjpaaDoor
