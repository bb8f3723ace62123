/- A sheet's payload is written. -/
import Derived.Test.YtlpdjpkdgagjpaaDoorSheetPay
import Derived.Deep.RegionLaw
import Derived.Deep.DrawnRows
namespace Go.Proofs.YtlpdjpkdgagjpaaDoor
open Go.RowKit Mem Lift
set_option linter.unusedVariables false
set_option linter.unusedSimpArgs false
set_option maxRecDepth 100000

/-- five wide bytes, or an error -/
def W5 (w : World) (x : Int) (e : Ending) (w' : World) : Prop := ∃ v er, e = .returned (.tuple #[v, .int .i64 (er : Nat)]) ∧ Below w.heap.size w w' ∧ (x < 1099511627776 → er = 0) ∧ (1099511627776 ≤ x → er = 1)
theorem wide5_any (x : Int) (w : World) (h0 : 0 ≤ x) (h1 : x < 18446744073709551616) : Calls Tryd.prog 43 #[.int .u64 x, .int .i64 5] w (W5 w x) := by
  obtain ⟨n, rfl⟩ := Int.eq_ofNat_of_zero_le h0
  by_cases h : n < 1099511627776
  · refine (wide_ok n 5 w (by omega) (by omega) (by omega) (by show n < 256 ^ 5; omega)).mono ?_
    rintro e w' ⟨v, rfl, _, hb⟩
    exact ⟨v, 0, rfl, hb, fun _ => rfl, fun h2 => by omega⟩
  · refine (wide_more n 5 w (by omega) (by omega) (by omega) (by show 256 ^ 5 ≤ n; omega)).mono ?_
    rintro e w' ⟨rfl, rfl⟩
    exact ⟨.slice none 0 0, 1, rfl, Below.refl _ _, fun h2 => by omega, fun _ => rfl⟩
theorem sealP_nil (w w' : World) (n : Nat) (hb : Below w.heap.size w w') : SealP w ([], n) (.returned (.tuple #[.slice none 0 0, .int .i64 (n : Int)])) w' := ⟨.slice none 0 0, rfl, own_nilK _, hb⟩
theorem u64_range (x : Int) : 0 ≤ IntKind.u64.wrap x ∧ IntKind.u64.wrap x < 18446744073709551616 := by
  rw [IntKind.wrap_u64]; omega
/-- 'append(v, x...)' at a step of a region that draws -/
theorem step_app_own {w : World} {P : Program} {ops : Array Oper} {o : Oper} {a : Act} {K : Act → World → Prop} {Q : Exit → Act → World → Prop} {E : Prop} (hgd : o.guard = none) (s x : Operand) (t : TypeId)
    (ho : o.op = .call { callee := .builtin .append, args := #[s, x], argTypes := #[t, t] })
    (base : Nat) (e : TypeId) (i : TypeInfo) (ht : P.underlying t = some (.slice e)) (hi : P.info? e = some i) (hz : i.zero = some (.int .u8 0)) (hsize : i.size = 1) (hby : i.bytes = 1)
    (A0 : Option Addr) (n d : Nat) (b0 : List UInt8) (hs : a.eval s = .slice A0 n d) (hown : w.ownsRow base e 1 (.slice A0 n d) n (u8s b0))
    (A : Option Addr) (m c : Nat) (bs : List UInt8) (hx : a.eval x = .slice A m c) (hr : BS w A m bs) (hbytes : n + m ≤ 140737488355328) (hbase : base ≤ w.heap.size)
    (h : ∀ A' d' w', w'.ownsRow base e 1 (.slice A' (n + m) d') (n + m) (u8s (b0 ++ bs)) → w.grownBy w' (Value.slice A0 n d).ownBlock → K (a.put o.dst (.slice A' (n + m) d')) w') :
    if Region.wanted o (yielded ops a.tmps) = true then Oper.wp P o a w K Q else E := by
  have hw : Region.wanted o (yielded ops a.tmps) = true := by simp [Region.wanted, hgd]
  rw [if_pos hw]
  refine wp_append_bs w s x t ho base e i ht hi hz hsize hby _ n (u8s b0) hs hown A m c bs hx hr hbytes hbase ?_
  intro v' w' h1 h2 _
  rw [← u8s_append] at h1
  have hv : ∃ A' d', v' = .slice A' (n + m) d' := by
    rcases h1.2 with ⟨rfl, e⟩ | ⟨g, cap, cur, rfl, _⟩
    · exact ⟨none, 0, by rw [e]⟩
    · exact ⟨_, _, rfl⟩
  obtain ⟨A', d', rfl⟩ := hv
  exact h A' d' w' h1 h2
theorem blk_grown {w w' : World} {g base n size : Nat} {t e : TypeId} {cs : Array Value} {v : Value} {xs : List Value} (h : Blk w g t cs) (ho : w.ownsRow base e size v n xs) (hte : e ≠ t) (hg : w.grownBy w' v.ownBlock) : Blk w' g t cs := by
  refine h.keep (hg.block g h.lt (fun e2 => ?_))
  obtain ⟨cur, hc⟩ := own_block ho e2.symm
  unfold Blk at h
  rw [hc] at h
  injection h with h
  injection h with _ h
  exact hte h
theorem bs_grown {w w' : World} {base n m size : Nat} {e : TypeId} {v : Value} {xs : List Value} {g : Nat} {bs : List UInt8} (h : BS w (some ⟨g, 0, none⟩) m bs) (ho : w.ownsRow base e size v n xs) (hge : ∀ k, v.ownBlock = some k → k ≠ g) (hg : w.grownBy w' v.ownBlock) : BS w' (some ⟨g, 0, none⟩) m bs := by
  refine ⟨h.1, fun hp => ?_⟩
  obtain ⟨b, off, e1, hlt, hc⟩ := h.2 hp
  injection e1 with e1
  injection e1 with e1 e2
  subst e1 e2
  refine ⟨g, 0, rfl, Nat.lt_of_lt_of_le hlt hg.size, fun j hj => ?_⟩
  rw [World.cell?_of_block (hg.block g hlt (fun e2 => hge g e2.symm rfl))]
  exact hc j hj
theorem head_cells {s : Sh.Sd} (h : Sh.mayS s = true) : ([.int .u8 s.first, .int .u8 (s.data.length : Int)] : List Value) = u8s (Sh.headS s) := by
  have h1 := Sh.first_255 h
  have h2 := Sh.may_parts h
  unfold Sh.headS u8s
  simp only [List.map_cons, List.map_nil, u8]
  rw [Sh.ofNat_toNat (by omega), Sh.ofNat_toNat (by omega), Int.toNat_of_nonneg h1.1]
set_option maxHeartbeats 4000000 in
theorem senc_any (s : Sh.Sd) (w : World) (hi : -9223372036854775808 ≤ s.inc ∧ s.inc ≤ 9223372036854775807) (hp : -9223372036854775808 ≤ s.pos ∧ s.pos ≤ 9223372036854775807) (hf : -9223372036854775808 ≤ s.first ∧ s.first ≤ 9223372036854775807) (hd : s.data.length ≤ 1000) :
    Calls Tryd.prog 24 #[sdVal s] w (SealP w (Sh.encS s)) := by
  have hmy := fun W => smay_any s W hf
  have hb0 : Below w.heap.size w (w.alloc (.cells (sdCells s) 47)) := (Below.refl _ _).alloc (Nat.le_refl _) _
  have hk0 := Blk.new w 47 (sdCells s)
  by_cases hgood : Sh.mayS s = true ∧ Sh.topS s = false
  · obtain ⟨hm, ht⟩ := hgood
    have hr : Sh.encS s = (Sh.bodyS s, 0) := by unfold Sh.encS; rw [if_pos ⟨hm, ht⟩]
    rw [hr]
    obtain ⟨p1, p2, p3, p4, p5, _⟩ := Sh.may_parts hm
    obtain ⟨t1, t2⟩ := Sh.top_parts ht
    obtain ⟨q1, q2⟩ := Sh.first_255 hm
    have hhc := head_cells hm
    have hbl := Sh.body_len s
    have hbd : Sh.bodyS s = Num.wideB s.inc.toNat 5 ++ Num.wideB s.pos.toNat 5 ++ Sh.headS s ++ s.data := rfl
    obtain ⟨hh, hhe⟩ : ∃ hh, hh = Sh.headS s := ⟨_, rfl⟩
    have hhl : hh.length = 2 := by rw [hhe]; rfl
    rw [← hhe] at hhc hbd
    rw [hm] at hmy
    generalize Sh.bodyS s = R at *
    obtain ⟨inc, pos, first, data⟩ := s
    simp only [sdVal, sdCells] at hmy hb0 hk0 hi hp hf hd p1 p2 p3 p4 p5 t1 t2 q1 q2 hhc hbd hbl ⊢
    obtain ⟨n, rfl⟩ := Int.eq_ofNat_of_zero_le p1
    obtain ⟨m, rfl⟩ := Int.eq_ofNat_of_zero_le p3
    rw [Int.toNat_natCast, Int.toNat_natCast] at hbd
    have hw1 := fun W => wide_ok n 5 W (by omega) (by omega) (by omega) (by show n < 256 ^ 5; omega)
    have hw2 := fun W => wide_ok m 5 W (by omega) (by omega) (by omega) (by show m < 256 ^ 5; omega)
    have l1 := Num.wideB_length 5 n
    have l2 := Num.wideB_length 5 m
    generalize Num.wideB n 5 = X at *
    generalize Num.wideB m 5 = Y at *
    have hsz := ba_size data
    obtain ⟨B, hB⟩ : ∃ B : ByteArray, B = ⟨data.toArray⟩ := ⟨_, rfl⟩
    have hbc : Lib.strCells B = u8s data := by rw [hB]; exact strCells_u8s data
    rw [← hB] at hsz hmy hb0 hk0 ⊢
    have hhc : ([.int .u8 (IntKind.u8.wrap first), .int .u8 (IntKind.u8.wrap (B.size : Int))] : List Value) = u8s hh := by
      rw [← hhc, hsz, show IntKind.u8.wrap first = first by rw [IntKind.wrap_u8]; omega, show IntKind.u8.wrap (data.length : Int) = (data.length : Int) by rw [IntKind.wrap_u8]; omega]
    obtain ⟨i8, hi8, hz0, hz1, hz2⟩ := info_parts ninfo8
    have HI := Lib.hid (And.intro hi8 (And.intro hz0 (And.intro hz1 hz2)))
    have H := Lib.hid (And.intro hmy (And.intro hb0 (And.intro hk0 (And.intro hw1 (And.intro hw2 (And.intro l1 (And.intro l2 (And.intro hbd (And.intro hhc (And.intro hhl (And.intro hbl (And.intro hbc hsz))))))))))))
    clear hmy hb0 hk0 hw1 hw2 l1 l2 hbd hhc hhl hbl hm ht hr hi8 hz0 hz1 hz2 hB hhe hbc t1 t2
    have hB242 : (B.size : Int) ≤ 242 := by omega
    clear hsz
    go_enter Tryd.func24, Tryd.ntmps24
    go_wp2_with fail
    generalize w.alloc (.cells #[.int .i64 (n : Int), .int .i64 (m : Int), .int .i64 first, .string B] 47) = w1 at *
    refine (H.out.2.2.2.1 _).mono ?_
    rintro e w2 ⟨v, rfl, ho2, hb2⟩
    rw [H.out.2.2.2.2.2.1] at ho2
    obtain ⟨A2, k2, rfl⟩ := own_slice ho2
    have hk2 := H.out.2.2.1.below hb2 H.out.2.2.1.lt
    have c1 : w2.cell? ⟨w.heap.size, 1, none⟩ = some (.int .i64 (m : Int)) := hk2.cell 1
    have H2 := Lib.hid (And.intro hk2 (And.intro (below_of H.out.2.1 H.out.2.1.size hb2) (own_base ho2 H.out.2.1.size)))
    clear hk2 hb2 ho2
    go_wp2_with fail
    refine (H.out.2.2.2.2.1 _).mono ?_
    rintro e w3 ⟨v, rfl, ho3, hb3⟩
    rw [H.out.2.2.2.2.2.2.1] at ho3
    obtain ⟨A3, k3, rfl⟩ := own_slice ho3
    have hk3 := H2.out.1.below hb3 H2.out.1.lt
    have d0 : w3.cell? ⟨w.heap.size, 0, none⟩ = some (.int .i64 (n : Int)) := hk3.cell 0
    have d1 : w3.cell? ⟨w.heap.size, 1, none⟩ = some (.int .i64 (m : Int)) := hk3.cell 1
    have d2 : w3.cell? ⟨w.heap.size, 2, none⟩ = some (.int .i64 first) := hk3.cell 2
    have d3 : w3.cell? ⟨w.heap.size, 3, none⟩ = some (.string B) := hk3.cell 3
    have H3 := Lib.hid (And.intro hk3 (And.intro (below_of H2.out.2.1 H2.out.2.1.size hb3) (And.intro (own_below H2.out.2.2 hb3) ho3)))
    clear hk3 hb3 ho3 c1
    go_wp2_with fail
    refine (H.out.1 _).mono ?_
    rintro e w4 ⟨rfl, hb4⟩
    have hk4 := H3.out.1.below hb4 H3.out.1.lt
    have e2 : w4.cell? ⟨w.heap.size, 2, none⟩ = some (.int .i64 first) := hk4.cell 2
    have e3 : w4.cell? ⟨w.heap.size, 3, none⟩ = some (.string B) := hk4.cell 3
    have hro4 := own_below H3.out.2.2.1 hb4
    have hbo4 : BS w4 A3 5 Y := BS.of_own (own_below H3.out.2.2.2 hb4)
    have hbb4 := below_of H3.out.2.1 H3.out.2.1.size hb4
    have ha4 : Below w4.heap.size w4 (w4.alloc (.cells #[.int .u8 (IntKind.u8.wrap first), .int .u8 (IntKind.u8.wrap (B.size : Int))] 5)).drew := ((Below.refl _ _).alloc (Nat.le_refl _) _).drew
    have hd4 : Below w4.heap.size w4 w4.drew := (Below.refl _ _).drew
    have H4 := Lib.hid (And.intro hk4 (And.intro hbb4 (And.intro hro4 (And.intro hbo4 (And.intro ha4 hd4)))))
    clear hb4 d0 d1 d2 d3 hk4 hbb4 hro4 hbo4 ha4 hd4
    go_upto_region 5 with fail
    go_region_law ((first
      | (refine step_app_own (by rfl) (.tmp 34) (.tmp 35) 38 (by rfl) w.heap.size 5 i8 Tryd.underlying38 HI.out.1 HI.out.2.1 HI.out.2.2.1 HI.out.2.2.2 A2 5 k2 X (by simp [Act.eval, Act.put]) (own_below H4.out.2.2.1 H4.out.2.2.2.2.2) A3 5 k3 Y (by simp [Act.eval, Act.put]) (H4.out.2.2.2.1.below H4.out.2.2.2.2.2) (by omega) (by have := H4.out.2.1.size; simpa using this) ?_
         intro A5 k5 w5 hown5 hg5
         have hk5 := blk_grown (H4.out.1.below H4.out.2.2.2.2.2 H4.out.1.lt) (own_below H4.out.2.2.1 H4.out.2.2.2.2.2) (by decide) hg5
         have e52 : w5.cell? ⟨w.heap.size, 2, none⟩ = some (.int .i64 first) := hk5.cell 2
         have e53 : w5.cell? ⟨w.heap.size, 3, none⟩ = some (.string B) := hk5.cell 3
         have hbb5 : Below w.heap.size w w5 := (below_of H4.out.2.1 H4.out.2.1.size H4.out.2.2.2.2.2).grown hg5 (by have := H4.out.2.1.size; simpa using this) (fun j hj => own_ge H4.out.2.2.1 hj)
         have ha5 : Below w5.heap.size w5 (w5.alloc (.cells #[.int .u8 (IntKind.u8.wrap first), .int .u8 (IntKind.u8.wrap (B.size : Int))] 5)) := (Below.refl _ _).alloc (Nat.le_refl _) _
         have hx5 : BS (w5.alloc (.cells #[.int .u8 (IntKind.u8.wrap first), .int .u8 (IntKind.u8.wrap (B.size : Int))] 5)) (some ⟨w5.heap.size, 0, none⟩) 2 hh := by
           have h := BS.made w5 #[.int .u8 (IntKind.u8.wrap first), .int .u8 (IntKind.u8.wrap (B.size : Int))] 5 (0, 0) hh H.out.2.2.2.2.2.2.2.2.1
           rw [H.out.2.2.2.2.2.2.2.2.2.1] at h
           exact h
         have H5 := Lib.hid (And.intro (own_below hown5 ha5) (And.intro (hbb5.trans (ha5.mono hbb5.size)) (And.intro (hk5.below ha5 hk5.lt) hx5)))
         clear hown5 hg5 hbb5 hk5 ha5 hx5)
      | (refine step_app_own (by rfl) (.tmp 34) (.tmp 35) 38 (by rfl) w.heap.size 5 i8 Tryd.underlying38 HI.out.1 HI.out.2.1 HI.out.2.2.1 HI.out.2.2.2 A2 5 k2 X (by simp [Act.eval, Act.put]) (own_below H4.out.2.2.1 H4.out.2.2.2.2.1) A3 5 k3 Y (by simp [Act.eval, Act.put]) (H4.out.2.2.2.1.below H4.out.2.2.2.2.1) (by omega) (by have := H4.out.2.1.size; simp; omega) ?_
         intro A5 k5 w5 hown5 hg5
         have hk5 := blk_grown (H4.out.1.below H4.out.2.2.2.2.1 H4.out.1.lt) (own_below H4.out.2.2.1 H4.out.2.2.2.2.1) (by decide) hg5
         have e52 : w5.cell? ⟨w.heap.size, 2, none⟩ = some (.int .i64 first) := hk5.cell 2
         have e53 : w5.cell? ⟨w.heap.size, 3, none⟩ = some (.string B) := hk5.cell 3
         have hbb5 : Below w.heap.size w w5 := (below_of H4.out.2.1 H4.out.2.1.size H4.out.2.2.2.2.1).grown hg5 (by have := H4.out.2.1.size; simp; omega) (fun j hj => own_ge H4.out.2.2.1 hj)
         have hx4 : BS (w4.alloc (.cells #[.int .u8 (IntKind.u8.wrap first), .int .u8 (IntKind.u8.wrap (B.size : Int))] 5)).drew (some ⟨w4.heap.size, 0, none⟩) 2 hh := by
           have h := BS.made w4 #[.int .u8 (IntKind.u8.wrap first), .int .u8 (IntKind.u8.wrap (B.size : Int))] 5 (0, 0) hh H.out.2.2.2.2.2.2.2.2.1
           rw [H.out.2.2.2.2.2.2.2.2.2.1] at h
           exact h.below ((Below.refl _ _).drew)
         have hx5 := bs_grown hx4 (own_below H4.out.2.2.1 H4.out.2.2.2.2.1) (fun k hk => by have := own_lt H4.out.2.2.1 hk; omega) hg5
         have H5 := Lib.hid (And.intro hown5 (And.intro hbb5 (And.intro hk5 hx5)))
         clear hown5 hg5 hbb5 hk5 hx4 hx5)
      | (refine step_app_own (by rfl) (.tmp 36) (.tmp 44) 38 (by rfl) w.heap.size 5 i8 Tryd.underlying38 HI.out.1 HI.out.2.1 HI.out.2.2.1 HI.out.2.2.2 A5 10 k5 (X ++ Y) (by simp [Act.eval, Act.put]) H5.out.1 (some ⟨w5.heap.size, 0, none⟩) 2 2 hh (by simp [Act.eval, Act.put]) H5.out.2.2.2 (by omega) H5.out.2.1.size ?_
         intro A6 k6 w6 hown6 hg6
         have hk6 := blk_grown H5.out.2.2.1 H5.out.1 (by decide) hg6
         have e63 : w6.cell? ⟨w.heap.size, 3, none⟩ = some (.string B) := hk6.cell 3
         have hbb6 : Below w.heap.size w w6 := H5.out.2.1.grown hg6 H5.out.2.1.size (fun j hj => own_ge H5.out.1 hj)
         have H6 := Lib.hid (And.intro hown6 hbb6)
         clear hown6 hg6 hbb6 hk6)
      | (refine step_app_own (by rfl) (.tmp 36) (.tmp 44) 38 (by rfl) w.heap.size 5 i8 Tryd.underlying38 HI.out.1 HI.out.2.1 HI.out.2.2.1 HI.out.2.2.2 A5 10 k5 (X ++ Y) (by simp [Act.eval, Act.put]) H5.out.1 (some ⟨w4.heap.size, 0, none⟩) 2 2 hh (by simp [Act.eval, Act.put]) H5.out.2.2.2 (by omega) H5.out.2.1.size ?_
         intro A6 k6 w6 hown6 hg6
         have hk6 := blk_grown H5.out.2.2.1 H5.out.1 (by decide) hg6
         have e63 : w6.cell? ⟨w.heap.size, 3, none⟩ = some (.string B) := hk6.cell 3
         have hbb6 : Below w.heap.size w w6 := H5.out.2.1.grown hg6 H5.out.2.1.size (fun j hj => own_ge H5.out.1 hj)
         have H6 := Lib.hid (And.intro hown6 hbb6)
         clear hown6 hg6 hbb6 hk6)))
    all_goals
      go_wp2_with (at_builtin; refine Lib.wpList_append_own_string _ (by rfl) (.tmp 46) (.tmp 48) 38 9 (by rfl) w.heap.size 5 i8 Tryd.underlying38 Tryd.underlying9 HI.out.1 HI.out.2.1 HI.out.2.2.1 HI.out.2.2.2 (.slice A6 12 k6) 12 (u8s (X ++ Y ++ hh)) (by first | rfl | simp) H6.out.1 B (by rfl) (by unfold maxLen; omega) (by omega) H6.out.2.size ?_; intro v' w7 ho7 hg7 _; rw [H.out.2.2.2.2.2.2.2.2.2.2.2.1, ← u8s_append] at ho7; have H7 := Lib.hid (And.intro ho7 (H6.out.2.grown hg7 H6.out.2.size (fun j hj => own_ge H6.out.1 hj))); clear ho7 hg7)
      go_ret2
      refine ⟨v', rfl, ?_, H7.out.2⟩
      have h7 := H7.out.1
      rw [H.out.2.2.2.2.2.2.2.2.2.2.1]
      rw [H.out.2.2.2.2.2.2.2.2.2.2.2.2] at h7
      rw [H.out.2.2.2.2.2.2.2.1]
      exact h7
  · have hr : Sh.encS s = ([], 1) := by unfold Sh.encS; rw [if_neg hgood]
    rw [hr]
    cases hm : Sh.mayS s with
    | false =>
      rw [hm] at hmy
      obtain ⟨inc, pos, first, data⟩ := s
      simp only [sdVal, sdCells] at hmy hb0 hk0 hi hp hf hd ⊢
      have H := Lib.hid (And.intro hmy (And.intro hb0 hk0))
      clear hmy hb0 hk0 hgood hm hr
      go_enter Tryd.func24, Tryd.ntmps24
      go_wp2_with fail
      generalize w.alloc (.cells #[.int .i64 inc, .int .i64 pos, .int .i64 first, .string ⟨data.toArray⟩] 47) = w1 at *
      refine (wide5_any _ _ (u64_range _).1 (u64_range _).2).mono ?_
      rintro e w2 ⟨v, er, rfl, hb2, _⟩
      have hk2 := H.out.2.2.below hb2 H.out.2.2.lt
      have c1 : w2.cell? ⟨w.heap.size, 1, none⟩ = some (.int .i64 pos) := hk2.cell 1
      have H2 := Lib.hid (And.intro hk2 (below_of H.out.2.1 H.out.2.1.size hb2))
      clear hk2 hb2
      go_wp2_with fail
      refine (wide5_any _ _ (u64_range _).1 (u64_range _).2).mono ?_
      rintro e w3 ⟨v2, er2, rfl, hb3, _⟩
      have hk3 := H2.out.1.below hb3 H2.out.1.lt
      have d0 : w3.cell? ⟨w.heap.size, 0, none⟩ = some (.int .i64 inc) := hk3.cell 0
      have d1 : w3.cell? ⟨w.heap.size, 1, none⟩ = some (.int .i64 pos) := hk3.cell 1
      have d2 : w3.cell? ⟨w.heap.size, 2, none⟩ = some (.int .i64 first) := hk3.cell 2
      have d3 : w3.cell? ⟨w.heap.size, 3, none⟩ = some (.string ⟨data.toArray⟩) := hk3.cell 3
      have H3 := Lib.hid (below_of H2.out.2 H2.out.2.size hb3)
      clear hk3 hb3 c1
      go_wp2_with fail
      refine (H.out.1 _).mono ?_
      rintro e w4 ⟨rfl, hb4⟩
      have H4 := Lib.hid (below_of H3.out H3.out.size hb4)
      clear hb4 d0 d1 d2 d3
      go_wp2_with fail
      go_ret2
      exact sealP_nil w _ 1 H4.out
    | true =>
      obtain ⟨p1, p2, p3, p4, p5, p6⟩ := Sh.may_parts hm
      have htop : s.inc = 1099511627776 ∨ s.pos = 1099511627776 := by
        cases ht : Sh.topS s with
        | false => exact absurd ⟨hm, ht⟩ hgood
        | true =>
          unfold Sh.topS at ht
          simpa using ht
      rw [hm] at hmy
      obtain ⟨inc, pos, first, data⟩ := s
      simp only [sdVal, sdCells] at hmy hb0 hk0 hi hp hf hd p1 p2 p3 p4 p5 p6 htop ⊢
      have hwi : IntKind.u64.wrap inc = inc := by rw [IntKind.wrap_u64]; omega
      have hwp : IntKind.u64.wrap pos = pos := by rw [IntKind.wrap_u64]; omega
      have H := Lib.hid (And.intro hmy (And.intro hb0 (And.intro hk0 (And.intro hwi hwp))))
      clear hmy hb0 hk0 hgood hm hr p6 hwi hwp
      go_enter Tryd.func24, Tryd.ntmps24
      go_wp2_with fail
      generalize w.alloc (.cells #[.int .i64 inc, .int .i64 pos, .int .i64 first, .string ⟨data.toArray⟩] 47) = w1 at *
      try rw [H.out.2.2.2.1]
      refine (wide5_any _ _ p1 (by omega)).mono ?_
      rintro e w2 ⟨v, er, rfl, hb2, he1, he2⟩
      have hk2 := H.out.2.2.1.below hb2 H.out.2.2.1.lt
      have c1 : w2.cell? ⟨w.heap.size, 1, none⟩ = some (.int .i64 pos) := hk2.cell 1
      have H2 := Lib.hid (And.intro hk2 (And.intro (below_of H.out.2.1 H.out.2.1.size hb2) (And.intro he1 he2)))
      clear hk2 hb2 he1 he2
      go_wp2_with fail
      try rw [H.out.2.2.2.2]
      refine (wide5_any _ _ p3 (by omega)).mono ?_
      rintro e w3 ⟨v2, er2, rfl, hb3, he3, he4⟩
      have hk3 := H2.out.1.below hb3 H2.out.1.lt
      have d0 : w3.cell? ⟨w.heap.size, 0, none⟩ = some (.int .i64 inc) := hk3.cell 0
      have d1 : w3.cell? ⟨w.heap.size, 1, none⟩ = some (.int .i64 pos) := hk3.cell 1
      have d2 : w3.cell? ⟨w.heap.size, 2, none⟩ = some (.int .i64 first) := hk3.cell 2
      have d3 : w3.cell? ⟨w.heap.size, 3, none⟩ = some (.string ⟨data.toArray⟩) := hk3.cell 3
      have H3 := Lib.hid (And.intro (below_of H2.out.2.1 H2.out.2.1.size hb3) (And.intro he3 he4))
      clear hk3 hb3 c1 he3 he4
      go_wp2_with fail
      refine (H.out.1 _).mono ?_
      rintro e w4 ⟨rfl, hb4⟩
      have H4 := Lib.hid (below_of H3.out.1 H3.out.1.size hb4)
      clear hb4 d0 d1 d2 d3
      have hways : er = 1 ∨ er = 0 ∧ er2 = 1 := by
        rcases htop with h | h
        · exact .inl (H2.out.2.2.2 (by omega))
        · by_cases h2 : inc = 1099511627776
          · exact .inl (H2.out.2.2.2 (by omega))
          · exact .inr ⟨H2.out.2.2.1 (by omega), H3.out.2.2 (by omega)⟩
      clear htop
      rcases hways with rfl | ⟨rfl, rfl⟩
      all_goals
        go_wp2_with fail
        go_ret2
        exact sealP_nil w _ 1 H4.out
end Go.Proofs.YtlpdjpkdgagjpaaDoor
