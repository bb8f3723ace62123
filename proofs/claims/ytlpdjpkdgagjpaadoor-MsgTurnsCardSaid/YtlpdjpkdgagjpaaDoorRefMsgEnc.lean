/- The document's messages: their bytes; whether two are alike; a message of one's own. -/
import Derived.Test.YtlpdjpkdgagjpaaDoorRefMsg
import Derived.Test.YtlpdjpkdgagjpaaDoorOutB
namespace Go.Proofs.YtlpdjpkdgagjpaaDoor
open Go.RowKit Mem
set_option maxRecDepth 100000
set_option linter.unusedVariables false
set_option linter.unusedSimpArgs false
attribute [local go_sem ↓] Go.wp_at_zero Go.wp_at_succ

set_option maxHeartbeats 8000000 in
theorem refEnc19_any (m : Mg.M) (A : Option Addr) (n c : Nat) (w : World) (hl : IS w A n m.mem) (hn : n ≤ 1000) (hc : c ≤ 9223372036854775807) (hnum : Mg.Nums m) :
    Calls Tryd.prog 31 #[mgVal m A n c] w (SealP w (Mg.enc m)) := by
  have hb0 : Below w.heap.size w (w.alloc (.cells (mgCells m A n c) 60)) := (Below.refl _ _).alloc (Nat.le_refl _) _
  have hk0 := Blk.new w 60 (mgCells m A n c)
  have hmay := refMay19_any m A n c (w.alloc (.cells (mgCells m A n c) 60)) (hl.below hb0) (by omega) hc
  have hcl := fun W (h : Below (w.alloc (.cells (mgCells m A n c) 60)).heap.size (w.alloc (.cells (mgCells m A n c) 60)) W) => mg_cells (hk0.below h (by simp))
  have h1 := fun W => refNum_any m.kind W (hnum.vals _ (by simp [Mg.M.vals]))
  have h2 := fun W => refNum_any m.from_ W (hnum.vals _ (by simp [Mg.M.vals]))
  have h3 := fun W => refNum_any m.to W (hnum.vals _ (by simp [Mg.M.vals]))
  have h4 := fun W => refNum_any m.tx W (hnum.vals _ (by simp [Mg.M.vals]))
  have l1 := (Sl.numB_length m.kind).2
  have l2 := (Sl.numB_length m.from_).2
  have l3 := (Sl.numB_length m.to).2
  have l4 := (Sl.numB_length m.tx).2
  have l5 := (Sl.numB_length (n : Int)).2
  have hble := Mg.body_le m
  rw [hl.1] at hble
  obtain ⟨R, hR⟩ : ∃ R, Mg.enc m = R := ⟨_, rfl⟩
  have hbody : Mg.body m = (Sl.numB m.kind ++ Sl.numB m.from_ ++ Sl.numB m.to ++ Sl.numB m.tx) ++ if m.kind = 1 then Sl.numB (m.mem.length : Int) ++ m.mem.flatMap Sl.numB else [] := by
    unfold Mg.body Mg.M.vals
    simp
  rw [hR]
  have H := Lib.hid (And.intro hb0 (And.intro hk0 (And.intro hmay (And.intro hcl (And.intro hl (And.intro hnum (And.intro hl.1 (And.intro hR (And.intro hbody hble)))))))))
  have HN := Lib.hid (And.intro h1 (And.intro h2 (And.intro h3 h4)))
  clear hb0 hk0 hmay hcl hl hnum h1 h2 h3 h4 hR hbody hble
  have hsz : (w.alloc (.cells (mgCells m A n c) 60)).heap.size = w.heap.size + 1 := by simp
  cases hm : Mg.may m with
  | false =>
    have hrr : R = ([], 1) := by rw [← H.out.2.2.2.2.2.2.2.1]; unfold Mg.enc; rw [hm, if_neg (by simp)]
    subst hrr
    have HM := Lib.hid hm
    clear hm
    go_enter Tryd.func31, Tryd.ntmps31
    go_wp2_with fail
    refine H.out.2.2.1.mono ?_
    rw [HM.out]
    rintro e w1 ⟨rfl, hb1⟩
    have H1 := Lib.hid (H.out.1.trans (hb1.mono H.out.1.size))
    clear hb1
    go_wp2_with fail
    go_ret2
    exact ⟨_, rfl, ⟨rfl, .inl ⟨rfl, rfl⟩⟩, H1.out⟩
  | true =>
    have hrr : R = Sl.sealE (Mg.body m) := by rw [← H.out.2.2.2.2.2.2.2.1]; unfold Mg.enc; rw [if_pos hm]
    have HM := Lib.hid (And.intro hm hrr)
    clear hm hrr
    go_enter Tryd.func31, Tryd.ntmps31
    go_wp2_with fail
    generalize hW0 : w.alloc (.cells (mgCells m A n c) 60) = W0 at *
    clear hW0
    refine H.out.2.2.1.mono ?_
    rw [HM.out.1]
    rintro e w1 ⟨rfl, hb1⟩
    obtain ⟨c0, c1, c2, c3, c4⟩ := H.out.2.2.2.1 w1 hb1
    have H1 := Lib.hid hb1
    clear hb1
    go_wp2_with fail
    refine (HN.out.1 w1).mono ?_
    rintro e w2 ⟨v2, rfl, ho2, hb2⟩
    obtain ⟨A2, d2, rfl, hO2⟩ := Out.first ho2 hb2 H1.out
    obtain ⟨c0, c1, c2, c3, c4⟩ := H.out.2.2.2.1 w2 hO2.below
    have H2 := Lib.hid hO2
    clear ho2 hb2 hO2
    go_wp2_with fail
    refine (HN.out.2.1 w2).mono ?_
    rintro e w3 ⟨v3, rfl, ho3, hb3⟩
    obtain ⟨B3, f3, rfl, hO3, hB3⟩ := H2.out.next ho3 hb3
    have H3 := Lib.hid (And.intro hO3 hB3)
    clear ho3 hb3 hO3 hB3
    go_wp2_with (at_builtin; refine wpList_out rfl (.tmp 12) (.tmp 15) rfl H3.out.1 rfl rfl H3.out.2 (by omega) ?_; intro A4 d4 w4 hO4; obtain ⟨c0, c1, c2, c3, c4⟩ := H.out.2.2.2.1 w4 hO4.below; have H4 := Lib.hid hO4; clear hO4)
    refine (HN.out.2.2.1 w4).mono ?_
    rintro e w5 ⟨v5, rfl, ho5, hb5⟩
    obtain ⟨B5, f5, rfl, hO5, hB5⟩ := H4.out.next ho5 hb5
    have H5 := Lib.hid (And.intro hO5 hB5)
    clear ho5 hb5 hO5 hB5
    go_wp2_with (at_builtin; refine wpList_out rfl (.tmp 17) (.tmp 20) rfl H5.out.1 rfl rfl H5.out.2 (by omega) ?_; intro A6 d6 w6 hO6; obtain ⟨c0, c1, c2, c3, c4⟩ := H.out.2.2.2.1 w6 hO6.below; have H6 := Lib.hid hO6; clear hO6)
    refine (HN.out.2.2.2 w6).mono ?_
    rintro e w7 ⟨v7, rfl, ho7, hb7⟩
    obtain ⟨B7, f7, rfl, hO7, hB7⟩ := H6.out.next ho7 hb7
    have H7 := Lib.hid (And.intro hO7 hB7)
    clear ho7 hb7 hO7 hB7
    obtain ⟨HD, hHD⟩ : ∃ l, Sl.numB m.kind ++ Sl.numB m.from_ ++ Sl.numB m.to ++ Sl.numB m.tx = l := ⟨_, rfl⟩
    have hbody := H.out.2.2.2.2.2.2.2.2.1
    rw [hHD] at hbody
    obtain ⟨N8, hN8⟩ : ∃ k, (Sl.numB m.kind).length + (Sl.numB m.from_).length + (Sl.numB m.to).length + (Sl.numB m.tx).length = k := ⟨_, rfl⟩
    have hN8l : N8 ≤ 44 := by omega
    have HHD := Lib.hid (And.intro hHD (And.intro hbody hN8))
    clear hHD hbody hN8
    by_cases hk1 : m.kind = 1
    · have a1 : (m.kind == 1) = true := by simpa using hk1
      have hbd := HHD.out.2.1
      rw [if_pos hk1, H.out.2.2.2.2.2.2.1] at hbd
      have HB := Lib.hid hbd
      clear hbd hk1
      have h5 := fun W => refNum_any (n : Int) W (by omega)
      have HN5 := Lib.hid h5
      clear h5
      go_wp2_with (at_builtin; refine wpList_out rfl (.tmp 22) (.tmp 25) rfl H7.out.1 rfl rfl H7.out.2 (by omega) ?_; intro A8 d8 w8 hO8; rw [HHD.out.1, HHD.out.2.2] at hO8; rw [HHD.out.2.2]; obtain ⟨c0, c1, c2, c3, c4⟩ := H.out.2.2.2.1 w8 hO8.below; have H8 := Lib.hid hO8; clear hO8)
      refine (HN5.out w8).mono ?_
      rintro e w9 ⟨v9, rfl, ho9, hb9⟩
      obtain ⟨B9, f9, rfl, hO9, hB9⟩ := H8.out.next ho9 hb9
      have H9 := Lib.hid (And.intro hO9 hB9)
      clear ho9 hb9 hO9 hB9
      go_wp2_with (at_builtin; refine wpList_out rfl (.tmp 30) (.tmp 34) rfl H9.out.1 rfl rfl H9.out.2 (by omega) ?_; intro A10 d10 w10 hO10; have H10 := Lib.hid hO10; clear hO10)
      go_loopg [4, 5] n (fun gk s4 s5 wr => ∃ (k : Nat) (A' : Option Addr) (N d : Nat), k ≤ n ∧ gk = n - k ∧ s5 = .int .i64 k ∧ s4 = .slice A' N d ∧ N ≤ 55 + 11 * k ∧ Out W0 A' N d (HD ++ Sl.numB (n : Int) ++ Mg.memTo m k) wr)
      case atStart => exact ⟨0, _, _, _, by omega, by omega, rfl, rfl, by omega, by unfold Mg.memTo; simpa using H10.out⟩
      case round =>
        obtain ⟨k, A', N, d, hk, rfl, rfl, rfl, hNk, hO⟩ := hrel
        clear H10
        obtain ⟨c0, c1, c2, c3, c4⟩ := H.out.2.2.2.1 wr hO.below
        by_cases hlt : k < n
        · obtain ⟨b, off, rfl, c8⟩ := is_at (H.out.2.2.2.2.1.below (H.out.1.trans (hO.below.mono H.out.1.size))) hlt
          have hxb := H.out.2.2.2.2.2.1.mem_ (k := k) (by rw [H.out.2.2.2.2.2.2.1]; exact hlt)
          have hstep : Mg.memTo m (k + 1) = Mg.memTo m k ++ Sl.numB (m.mem.getD k 0) := Mg.flat_succ m.mem k (by rw [H.out.2.2.2.2.2.2.1]; exact hlt)
          have hlx := (Sl.numB_length (m.mem.getD k 0)).2
          generalize m.mem.getD k 0 = x at *
          have hrn := fun W => refNum_any x W hxb
          have HX := Lib.hid (And.intro hO (And.intro hstep hrn))
          have hkn : (k : Int) < (n : Int) := by omega
          clear hO hstep hxb hrn
          go_wp2_with fail
          refine (HX.out.2.2 wr).mono ?_
          rintro e x9 ⟨v9, rfl, ho9, hb9⟩
          obtain ⟨B9, f9, rfl, hO9, hB9⟩ := HX.out.1.next ho9 hb9
          have HY := Lib.hid (And.intro hO9 hB9)
          clear ho9 hb9 hO9 hB9
          go_wp2_with (at_builtin; refine wpList_out rfl (.tmp 43) (.tmp 49) rfl HY.out.1 rfl rfl HY.out.2 (by omega) ?_; intro A11 d11 w11 hO11; have H11 := Lib.hid hO11; clear hO11)
          go_roundg (n - (k + 1))
          case measure => omega
          case rel => exact ⟨k + 1, _, _, _, by omega, rfl, by go_num, rfl, by omega, by rw [HX.out.2.1, ← List.append_assoc]; exact H11.out⟩
        · obtain rfl : k = n := by omega
          have hfin : HD ++ Sl.numB (k : Int) ++ Mg.memTo m k = Mg.body m := by
            rw [HB.out, List.append_assoc]
            unfold Mg.memTo
            rw [← H.out.2.2.2.2.2.2.1, List.take_of_length_le (Nat.le_refl _)]
          rw [hfin] at hO
          have HX := Lib.hid hO
          clear hO hfin
          go_wp2_with fail
          refine (refSeal_any A' N d (Mg.body m) wr HX.out.read (by omega)).mono ?_
          rw [← HM.out.2]
          rintro e w6 ⟨v, rfl, ho6, hb6⟩
          have hbw := H.out.1.trans (HX.out.below.mono H.out.1.size)
          have H6 := Lib.hid (And.intro (own_base ho6 hbw.size) (hbw.trans (hb6.mono hbw.size)))
          clear hb6 ho6 hbw
          go_wp2_with fail
          go_ret2
          exact ⟨v, rfl, H6.out.1, H6.out.2⟩
    · have a1 : (m.kind == 1) = false := by simpa using hk1
      have hbd := HHD.out.2.1
      rw [if_neg hk1, List.append_nil] at hbd
      have HB := Lib.hid hbd
      clear hbd hk1
      go_wp2_with (at_builtin; refine wpList_out rfl (.tmp 22) (.tmp 25) rfl H7.out.1 rfl rfl H7.out.2 (by omega) ?_; intro A8 d8 w8 hO8; rw [HHD.out.1, HHD.out.2.2, ← HB.out] at hO8; rw [HHD.out.2.2]; obtain ⟨c0, c1, c2, c3, c4⟩ := H.out.2.2.2.1 w8 hO8.below; have H8 := Lib.hid hO8; clear hO8)
      refine (refSeal_any A8 N8 d8 (Mg.body m) w8 H8.out.read (by omega)).mono ?_
      rw [← HM.out.2]
      rintro e w9 ⟨v, rfl, ho9, hb9⟩
      have hbw := H.out.1.trans (H8.out.below.mono H.out.1.size)
      have H9 := Lib.hid (And.intro (own_base ho9 hbw.size) (hbw.trans (hb9.mono hbw.size)))
      clear hb9 ho9 hbw
      go_wp2_with fail
      go_ret2
      exact ⟨v, rfl, H9.out.1, H9.out.2⟩
set_option maxHeartbeats 2000000 in
theorem sameInts_eq (A B : Option Addr) (n c d : Nat) (l : List Int) (w : World) (ha : IS w A n l) (hb : IS w B n l) (hn : n ≤ 1000000) :
    Calls Tryd.prog 59 #[.slice A n c, .slice B n d] w fun e w' => e = .returned (.bool true) ∧ Below w.heap.size w w' := by
  have H := Lib.hid (And.intro ha hb)
  clear ha hb
  go_enter Tryd.func59, Tryd.ntmps59
  go_wp2
  go_loopg [5] n (fun gk s wr => ∃ k : Nat, k ≤ n ∧ gk = n - k ∧ s = .int .i64 k ∧ Below w.heap.size w wr)
  case atStart => exact ⟨0, by omega, by omega, rfl, Below.refl _ _⟩
  case round =>
    obtain ⟨k, hk, rfl, rfl, hbw⟩ := hrel
    by_cases hlt : k < n
    · obtain ⟨b, off, rfl, c0⟩ := is_at (H.out.1.below hbw) hlt
      obtain ⟨b', off', rfl, c1⟩ := is_at (H.out.2.below hbw) hlt
      generalize l.getD k 0 = x at *
      have hkn : (k : Int) < (n : Int) := by omega
      have HB := Lib.hid hbw
      clear hbw
      go_wp2
      go_quiet (fail)
      go_wp2_with fail
      go_roundg (n - (k + 1))
      case measure => omega
      case rel => exact ⟨k + 1, by omega, rfl, by go_num, below_drN HB.out nq⟩
    · obtain rfl : k = n := by omega
      have HB := Lib.hid hbw
      clear hbw
      go_wp2_with fail
      go_ret
      exact ⟨rfl, HB.out⟩
set_option maxHeartbeats 2000000 in
theorem same19_eq (m : Mg.M) (A B : Option Addr) (n c d : Nat) (w : World) (ha : IS w A n m.mem) (hb : IS w B n m.mem) (hn : n ≤ 1000000) :
    Calls Tryd.prog 35 #[mgVal m A n c, mgVal m B n d] w fun e w' => e = .returned (.bool true) ∧ Below w.heap.size w w' := by
  have hb2 : Below w.heap.size w ((w.alloc (.cells (mgCells m A n c) 60)).alloc (.cells (mgCells m B n d) 60)) := ((Below.refl _ _).alloc (Nat.le_refl _) _).alloc (by simp) _
  have hs := fun W (h : Below w.heap.size w W) => sameInts_eq A B n c d m.mem W (ha.below h) (hb.below h) hn
  have H := Lib.hid (And.intro hb2 hs)
  clear hb2 hs ha hb
  go_enter Tryd.func35, Tryd.ntmps35
  go_wp2_with fail
  refine (H.out.2 _ H.out.1).mono ?_
  rintro e w1 ⟨rfl, hb1⟩
  have H1 := Lib.hid (H.out.1.trans (hb1.mono H.out.1.size))
  clear hb1
  go_wp2_with fail
  go_ret
  exact ⟨rfl, H1.out⟩
theorem wpList_append_isM {P : Program} (w : World) {ops : Array Oper} {rest : List Oper} {o : Oper} {a : Act} {Q : Exit → Act → World → Prop} (hgd : Region.wanted o (yielded ops a.tmps) = true) (s x : Operand) (t : TypeId)
    (ho : o.op = .call { callee := .builtin .append, args := #[s, x], argTypes := #[t, t] })
    (base : Nat) (e : TypeId) (i : TypeInfo) (ht : P.underlying t = some (.slice e)) (hi : P.info? e = some i) (hz : i.zero = some (.int .i64 0)) (hsize : i.size = 1) (hby : i.bytes = 8)
    (v : Value) (n : Nat) (xs : List Value) (hs : a.eval s = v) (hown : w.ownsRow base e 1 v n xs)
    (A : Option Addr) (m c : Nat) (ks : List Int) (hx : a.eval x = .slice A m c) (hr : IS w A m ks) (hbytes : n + m ≤ 1000000000) (hbase : base ≤ w.heap.size)
    (h : ∀ A' c' w', w'.ownsRow base e 1 (.slice A' (n + m) c') (n + m) (xs ++ i64s ks) → w.grownBy w' v.ownBlock → wpList P ops Q rest (a.put o.dst (.slice A' (n + m) c')) w') : wpList P ops Q (o :: rest) a w := by
  unfold wpList
  rw [if_pos hgd]
  refine .inl ?_
  obtain ⟨v', w', hrun, h2, h3, _⟩ := run_append_is (P := P) w base t o.type e i ht hi hz hsize hby v n xs hown A m c ks hr hbytes hbase
  have hv : ∃ A' d', v' = .slice A' (n + m) d' := by
    rcases h2.2 with ⟨rfl, e⟩ | ⟨g, cap, cur, rfl, _⟩
    · exact ⟨none, 0, by rw [e]⟩
    · exact ⟨_, _, rfl⟩
  obtain ⟨A', d', rfl⟩ := hv
  unfold Oper.wp execOp
  simp only [ho, resolve, invoke, builtin, Sem.run_bind, Sem.run_pure, Result.andThen_ok, List.map_toArray, List.map_cons, List.map_nil, hs, hx, hrun]
  exact h A' d' w' h2 h3
def OwnMsg (w : World) (m : Mg.M) (n : Nat) (e : Ending) (w' : World) : Prop := ∃ A c, e = .returned (mgVal m A n c) ∧ IS w' A n m.mem ∧ n ≤ c ∧ c ≤ 9223372036854775807 ∧ Below w.heap.size w w'
set_option maxHeartbeats 2000000 in
theorem own19_any (m : Mg.M) (A : Option Addr) (n c : Nat) (w : World) (hl : IS w A n m.mem) (hn : n ≤ 1000000) :
    Calls Tryd.prog 30 #[mgVal m A n c] w (OwnMsg w m n) := by
  obtain ⟨i0, hi0, hz0, hz1, hz2⟩ := info_parts oinfoI
  have hb2 : Below w.heap.size w ((w.alloc (.cells (mgCells m A n c) 60)).alloc (.cells #[.int .i64 0, .int .i64 0, .int .i64 0, .int .i64 0, .slice none 0 0] 60)) := ((Below.refl _ _).alloc (Nat.le_refl _) _).alloc (by simp) _
  have hk := (Blk.new w 60 (mgCells m A n c)).alloc (.cells #[.int .i64 0, .int .i64 0, .int .i64 0, .int .i64 0, .slice none 0 0] 60)
  have hr := Blk.new (w.alloc (.cells (mgCells m A n c) 60)) 60 #[.int .i64 0, .int .i64 0, .int .i64 0, .int .i64 0, .slice none 0 0]
  have hs2 : ((w.alloc (.cells (mgCells m A n c) 60)).alloc (.cells #[.int .i64 0, .int .i64 0, .int .i64 0, .int .i64 0, .slice none 0 0] 60)).heap.size = w.heap.size + 2 := by simp
  simp only [World.size_alloc] at hr
  have HI := Lib.hid (And.intro hi0 (And.intro hz0 (And.intro hz1 hz2)))
  have H := Lib.hid (And.intro hb2 (And.intro hk (And.intro hr (And.intro hl hs2))))
  clear hi0 hz0 hz1 hz2 hb2 hk hr hl hs2
  go_enter Tryd.func30, Tryd.ntmps30
  go_upto_region 1 with fail
  generalize (w.alloc (.cells (mgCells m A n c) 60)).alloc (.cells #[.int .i64 0, .int .i64 0, .int .i64 0, .int .i64 0, .slice none 0 0] 60) = w2 at *
  obtain ⟨c0, c1, c2, c3, c4⟩ := mg_cells H.out.2.1
  have hw2s := H.out.2.1.lt
  have ho : (w2.alloc (.cells #[] 3)).ownsRow w2.heap.size 3 1 (.slice (some ⟨w2.heap.size, 0, none⟩) 0 0) 0 [] := own_empty (heap_alloc_new w2 _)
  have hisE : IS (w2.alloc (.cells #[] 3)) A n m.mem := (H.out.2.2.2.1.below H.out.1).below ((Below.refl _ _).alloc (Nat.le_refl _) _)
  have HE := Lib.hid (And.intro ho hisE)
  clear ho hisE
  go_wp2_with (at_builtin; refine wpList_append_isM _ rfl (.tmp 3) (.tmp 5) 58 rfl w2.heap.size 3 i0 Tryd.underlying58 HI.out.1 HI.out.2.1 HI.out.2.2.1 HI.out.2.2.2 (.slice (some ⟨w2.heap.size, 0, none⟩) 0 0) 0 [] rfl HE.out.1 A n c m.mem rfl HE.out.2 (by omega) (by simp) ?_; intro A3 c3' w3 hown3 hg3; have hk3 : ∀ k, k < w2.heap.size → w3.heap[k]? = w2.heap[k]? := fun k hk => (hg3.block k (by simp; omega) (by simp [Value.ownBlock]; omega)).trans (Below.heap_alloc w2 _ k hk); have hm3 := H.out.2.1.keep (hk3 _ H.out.2.1.lt); have hr3 := H.out.2.2.1.keep (hk3 _ H.out.2.2.1.lt); obtain ⟨c0, c1, c2, c3, c4⟩ := mg_cells hm3; have fm4 := hm3.free 4; have r0 : w3.cell? ⟨w.heap.size + 1, 0, none⟩ = some (.int .i64 0) := hr3.cell 0; have r1 : w3.cell? ⟨w.heap.size + 1, 1, none⟩ = some (.int .i64 0) := hr3.cell 1; have r2 : w3.cell? ⟨w.heap.size + 1, 2, none⟩ = some (.int .i64 0) := hr3.cell 2; have r3 : w3.cell? ⟨w.heap.size + 1, 3, none⟩ = some (.int .i64 0) := hr3.cell 3; have r4 : w3.cell? ⟨w.heap.size + 1, 4, none⟩ = some (.slice none 0 0) := hr3.cell 4; have fr0 := hr3.free 0; have fr1 := hr3.free 1; have fr2 := hr3.free 2; have fr3 := hr3.free 3; have fr4 := hr3.free 4; have hb3 : Below w2.heap.size w2 w3 := ((Below.refl _ w2).alloc (Nat.le_refl _) (.cells #[] 3)).grown hg3 (by simp) (fun k e => by simp [Value.ownBlock] at e; omega); have H3 := Lib.hid (And.intro hown3 (And.intro hb3 (And.intro hm3 hr3))); clear hown3 hg3 hk3 hm3 hr3 hb3)
  obtain ⟨hown3, hb3, hm3, hr3⟩ := H3.out
  rw [Nat.zero_add, List.nil_append] at hown3
  have hz := H.out.2.2.2.2
  have a1 : Fr (fun k => k = w.heap.size ∨ k = w.heap.size + 1) w3 ((((((w3.setCell ⟨w.heap.size, 4, none⟩ (.slice A3 n c3')).setCell ⟨w.heap.size + 1, 0, none⟩ (.int .i64 m.kind)).setCell ⟨w.heap.size + 1, 1, none⟩ (.int .i64 m.from_)).setCell ⟨w.heap.size + 1, 2, none⟩ (.int .i64 m.to)).setCell ⟨w.heap.size + 1, 3, none⟩ (.int .i64 m.tx)).setCell ⟨w.heap.size + 1, 4, none⟩ (.slice A3 n c3')) :=
    ((((((Fr.refl _ w3).setCell ⟨w.heap.size, 4, none⟩ _ (fun _ => .inl rfl)).setCell ⟨w.heap.size + 1, 0, none⟩ _ (fun _ => .inr rfl)).setCell ⟨w.heap.size + 1, 1, none⟩ _ (fun _ => .inr rfl)).setCell ⟨w.heap.size + 1, 2, none⟩ _ (fun _ => .inr rfl)).setCell ⟨w.heap.size + 1, 3, none⟩ _ (fun _ => .inr rfl)).setCell ⟨w.heap.size + 1, 4, none⟩ _ (fun _ => .inr rfl)
  have b1 := (((((hr3.far (p := ⟨w.heap.size, 4, none⟩) (by simp) (.slice A3 n c3')).put 0 (.int .i64 m.kind)).put 1 (.int .i64 m.from_)).put 2 (.int .i64 m.to)).put 3 (.int .i64 m.tx)).put 4 (.slice A3 n c3')
  have hbw := H.out.1.trans (hb3.mono H.out.1.size)
  have hs3 := hb3.size
  have hbe := hbw.trans (a1.below (B := w.heap.size) hbw.size (fun i hi => by rcases hi with rfl | rfl <;> omega))
  have hcap : n ≤ c3' ∧ c3' ≤ 9223372036854775807 := by
    rcases hown3.2 with ⟨e0, e1⟩ | ⟨g, cap, cur, e0, _, _, h1, h2, _⟩
    · injection e0; omega
    · injection e0; unfold maxLen at h2; omega
  have his : IS ((((((w3.setCell ⟨w.heap.size, 4, none⟩ (.slice A3 n c3')).setCell ⟨w.heap.size + 1, 0, none⟩ (.int .i64 m.kind)).setCell ⟨w.heap.size + 1, 1, none⟩ (.int .i64 m.from_)).setCell ⟨w.heap.size + 1, 2, none⟩ (.int .i64 m.to)).setCell ⟨w.heap.size + 1, 3, none⟩ (.int .i64 m.tx)).setCell ⟨w.heap.size + 1, 4, none⟩ (.slice A3 n c3')) A3 n m.mem := by
    refine IS.of_own (base := w2.heap.size) (e := 3) (c := c3') ⟨hown3.1, ?_⟩
    rcases hown3.2 with x | ⟨g, cap, cur, x, hb, hg, r⟩
    · exact .inl x
    · have hgl : g < w3.heap.size := own_lt hown3 (by rw [x]; rfl)
      exact .inr ⟨g, cap, cur, x, hb, (a1.block g hgl (fun e => by omega)).trans hg, r⟩
  generalize (((((w3.setCell ⟨w.heap.size, 4, none⟩ (.slice A3 n c3')).setCell ⟨w.heap.size + 1, 0, none⟩ (.int .i64 m.kind)).setCell ⟨w.heap.size + 1, 1, none⟩ (.int .i64 m.from_)).setCell ⟨w.heap.size + 1, 2, none⟩ (.int .i64 m.to)).setCell ⟨w.heap.size + 1, 3, none⟩ (.int .i64 m.tx)).setCell ⟨w.heap.size + 1, 4, none⟩ (.slice A3 n c3') = w5 at *
  have z0 : w5.cell? ⟨w.heap.size + 1, 0, none⟩ = some (.int .i64 m.kind) := b1.cell 0
  have z1 : w5.cell? ⟨w.heap.size + 1, 1, none⟩ = some (.int .i64 m.from_) := b1.cell 1
  have z2 : w5.cell? ⟨w.heap.size + 1, 2, none⟩ = some (.int .i64 m.to) := b1.cell 2
  have z3 : w5.cell? ⟨w.heap.size + 1, 3, none⟩ = some (.int .i64 m.tx) := b1.cell 3
  have z4 : w5.cell? ⟨w.heap.size + 1, 4, none⟩ = some (.slice A3 n c3') := b1.cell 4
  exact bodyPost_ret (v := mgVal m A3 n c3') (by simp [results, Tryd.results30, go_sem, z0, z1, z2, z3, z4]) rfl ⟨A3, c3', rfl, his, hcap.1, hcap.2, hbe⟩
end Go.Proofs.YtlpdjpkdgagjpaaDoor
