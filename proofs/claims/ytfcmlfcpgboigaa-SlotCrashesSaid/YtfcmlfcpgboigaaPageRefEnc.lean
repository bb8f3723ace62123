/- A page's payload, as the document says. -/
import Derived.Test.YtfcmlfcpgboigaaPageMayE
import Derived.Test.YtfcmlfcpgboigaaOutB
namespace Go.Proofs.Ytfcmlfcpgboigaa
open Go.RowKit Mem
set_option maxRecDepth 100000
set_option linter.unusedVariables false
set_option linter.unusedSimpArgs false

/-- 'append(out, b...)', and what the append leaves alone -/
theorem wpList_outG {w0 w : World} {A : Option Addr} {n d : Nat} {bs : List UInt8} {ops : Array Oper} {rest : List Oper} {o : Oper} {a : Act} {Q : Exit → Act → World → Prop} (hgd : Region.wanted o (yielded ops a.tmps) = true) (s x : Operand)
    (ho : o.op = .call { callee := .builtin .append, args := #[s, x], argTypes := #[42, 42] })
    (h : Out w0 A n d bs w) (hs : a.eval s = .slice A n d) {B : Option Addr} {m f : Nat} {b2 : List UInt8} (hx : a.eval x = .slice B m f) (hb : BS w B m b2) (hnm : n + m ≤ 1000000000)
    (k : ∀ A' d' w', Out w0 A' (n + m) d' (bs ++ b2) w' → (∀ i, i < w.heap.size → (Value.slice A n d).ownBlock ≠ some i → w'.heap[i]? = w.heap[i]?) → ((Value.slice A' (n + m) d').ownBlock = (Value.slice A n d).ownBlock ∨ (Value.slice A' (n + m) d').ownBlock = some w.heap.size) → w.heap.size ≤ w'.heap.size → wpList Try.prog ops Q rest (a.put o.dst (.slice A' (n + m) d')) w') : wpList Try.prog ops Q (o :: rest) a w := by
  obtain ⟨i0, h0, h1, h2, h3⟩ := out_info
  refine wpList_append_bs w hgd s x 42 ho w0.heap.size 5 i0 Try.underlying42 h0 h1 h2 h3 (.slice A n d) n (u8s bs) hs h.own B m f b2 hx hb (by omega) h.below.size ?_
  intro v' w' hown hg hat
  have hv : ∃ A' d', v' = .slice A' (n + m) d' := by
    rcases hown.2 with ⟨rfl, e⟩ | ⟨g, cap, cur, rfl, _⟩
    · exact ⟨none, 0, by rw [e]⟩
    · exact ⟨_, _, rfl⟩
  obtain ⟨A', d', rfl⟩ := hv
  exact k A' d' w' ⟨by rw [u8s_append]; exact hown, h.below.grown hg h.below.size (fun j hj => own_ge h.own hj)⟩ (fun i hi hne => hg.block i hi (fun e => hne e.symm)) hat hg.size
/-- what is gathered, a cell beside it -/
structure OutC (w0 : World) (A : Option Addr) (n d : Nat) (bs : List UInt8) (cb : Nat) (cs : Array Value) (w : World) : Prop where
  out : Out w0 A n d bs w
  cel : Blk w cb 40 cs
  apart : (Value.slice A n d).ownBlock ≠ some cb
theorem Out.cell {w0 w : World} {A : Option Addr} {n d : Nat} {bs : List UInt8} (h : Out w0 A n d bs w) (cs : Array Value) : OutC w0 A n d bs w.heap.size cs (w.alloc (.cells cs 40)) :=
  ⟨h.grow ((Below.refl _ _).alloc (Nat.le_refl _) _), Blk.new _ _ _, fun e => by have := own_lt h.own e; omega⟩
theorem OutC.grow {w0 w w' : World} {A : Option Addr} {n d : Nat} {bs : List UInt8} {cb : Nat} {cs : Array Value} (h : OutC w0 A n d bs cb cs w) (hb : Below w.heap.size w w') : OutC w0 A n d bs cb cs w' := ⟨h.out.grow hb, h.cel.below hb h.cel.lt, h.apart⟩
theorem OutC.next {w0 w w' : World} {A : Option Addr} {n d : Nat} {bs b2 : List UInt8} {cb : Nat} {cs : Array Value} {v : Value} (h : OutC w0 A n d bs cb cs w) (ho : w'.ownsRow w.heap.size 5 1 v b2.length (u8s b2)) (hb : Below w.heap.size w w') : ∃ B f, v = .slice B b2.length f ∧ OutC w0 A n d bs cb cs w' ∧ BS w' B b2.length b2 := by
  obtain ⟨B, f, rfl, h1, h2⟩ := h.out.next ho hb
  exact ⟨B, f, rfl, h.grow hb, h2⟩
theorem wpList_outC {w0 w : World} {A : Option Addr} {n d : Nat} {bs : List UInt8} {cb : Nat} {cs : Array Value} {ops : Array Oper} {rest : List Oper} {o : Oper} {a : Act} {Q : Exit → Act → World → Prop} (hgd : Region.wanted o (yielded ops a.tmps) = true) (s x : Operand)
    (ho : o.op = .call { callee := .builtin .append, args := #[s, x], argTypes := #[42, 42] })
    (h : OutC w0 A n d bs cb cs w) (hs : a.eval s = .slice A n d) {B : Option Addr} {m f : Nat} {b2 : List UInt8} (hx : a.eval x = .slice B m f) (hb : BS w B m b2) (hnm : n + m ≤ 1000000000)
    (k : ∀ A' d' w', OutC w0 A' (n + m) d' (bs ++ b2) cb cs w' → wpList Try.prog ops Q rest (a.put o.dst (.slice A' (n + m) d')) w') : wpList Try.prog ops Q (o :: rest) a w :=
  wpList_outG hgd s x ho h.out hs hx hb hnm fun A' d' w' h1 h2 h3 h4 => k A' d' w' ⟨h1, h.cel.keep (h2 cb h.cel.lt h.apart), fun e => by
    rcases h3 with h5 | h5
    · exact h.apart (by rw [← h5]; exact e)
    · rw [h5] at e; injection e with e; have := h.cel.lt; omega⟩
set_option maxHeartbeats 8000000 in
theorem penc10_any (lsn : Int) (A : Option Addr) (n c : Nat) (l : List Pg.C) (w : World) (hl : ST cellK w A n l) (hn : n ≤ 1000000) (hlsn : -9223372036854775808 ≤ lsn ∧ lsn ≤ 9223372036854775807) :
    Calls Try.prog 44 #[pVal lsn A n c] w (PayP w (Pg.enc lsn l)) := by
  have hb0 : Below w.heap.size w (w.alloc (.cells #[.int .i64 lsn, .slice A n c] 24)) := (Below.refl _ _).alloc (Nat.le_refl _) _
  have hk0 := Blk.new w 24 #[.int .i64 lsn, .slice A n c]
  have hmay := refMay10_any lsn A n c l (w.alloc (.cells #[.int .i64 lsn, .slice A n c] 24)) (hl.below hb0) hn
  have hsz : (w.alloc (.cells #[.int .i64 lsn, .slice A n c] 24)).heap.size = w.heap.size + 1 := by simp
  have H := Lib.hid (And.intro hb0 (And.intro hk0 (And.intro hmay (And.intro hl (And.intro hl.len hsz)))))
  clear hb0 hk0 hmay hl hsz
  cases hm : Pg.may lsn l with
  | false =>
    have hrr : Pg.enc lsn l = ([], 1) := by unfold Pg.enc; rw [hm, if_neg (by simp)]
    rw [hrr]
    have HM := Lib.hid hm
    clear hm hrr
    go_enter Try.func44, Try.ntmps44
    go_wp2_with fail
    refine H.out.2.2.1.mono ?_
    rw [HM.out]
    rintro e w1 ⟨rfl, hb1⟩
    have H1 := Lib.hid (H.out.1.trans (hb1.mono H.out.1.size))
    clear hb1
    go_wp2_with fail
    go_ret2
    exact ⟨_, rfl, ⟨rfl, .inl ⟨rfl, rfl⟩⟩, H1.out⟩
  | true =>
    have hrr : Pg.enc lsn l = (Pg.body lsn l, 0) := by unfold Pg.enc; rw [if_pos hm]
    rw [hrr]
    obtain ⟨hm1, _, _, hm4⟩ := Pg.may_parts hm
    have hfit := Pg.rise_fits l _ hm1
    have hbd : Pg.body lsn l = Sl.numB lsn ++ Sl.numB (n : Int) ++ (l.take n).flatMap Pg.cellB := by unfold Pg.body; rw [← H.out.2.2.2.2.1, List.take_of_length_le (Nat.le_refl _)]
    have hnl := numB_le lsn
    have hnn := numB_le (n : Int)
    have hn4 : n ≤ 4 := by rw [← H.out.2.2.2.2.1]; exact hm4
    have HM := Lib.hid (And.intro hm (And.intro hfit (And.intro hbd (And.intro hnl hnn))))
    clear hm hrr hm1 hm4 hfit hbd
    go_enter Try.func44, Try.ntmps44
    go_wp2_with fail
    generalize hW0 : w.alloc (.cells #[.int .i64 lsn, .slice A n c] 24) = W0 at *
    clear hW0
    refine H.out.2.2.1.mono ?_
    rw [HM.out.1]
    rintro e w1 ⟨rfl, hb1⟩
    have hcl := fun W (h : Below W0.heap.size W0 W) => H.out.2.1.below h (by have := H.out.2.2.2.2.2; omega)
    have HC := Lib.hid hcl
    clear hcl
    have p0 : w1.cell? ⟨w.heap.size, 0, none⟩ = some (.int .i64 lsn) := (HC.out w1 hb1).cell 0
    have H1 := Lib.hid hb1
    clear hb1
    go_wp2_with fail
    refine (refNum_any lsn w1 hlsn).mono ?_
    rintro e w2 ⟨v2, rfl, ho2, hb2⟩
    obtain ⟨A2, d2, rfl, hO2⟩ := Out.first ho2 hb2 H1.out
    have p1 : w2.cell? ⟨w.heap.size, 1, none⟩ = some (.slice A n c) := (HC.out w2 hO2.below).cell 1
    have H2 := Lib.hid hO2
    clear ho2 hb2 hO2
    go_wp2_with fail
    refine (refNum_any (n : Int) w2 (by omega)).mono ?_
    rintro e w3 ⟨v3, rfl, ho3, hb3⟩
    obtain ⟨B3, f3, rfl, hO3, hB3⟩ := H2.out.next ho3 hb3
    have H3 := Lib.hid (And.intro hO3 hB3)
    clear ho3 hb3 hO3 hB3
    go_wp2_with (at_builtin; refine wpList_out rfl (.tmp 13) (.tmp 17) rfl H3.out.1 rfl rfl H3.out.2 (by omega) ?_; intro A4 d4 w4 hO4; have H4 := Lib.hid hO4; clear hO4)
    go_loopw [4, 5, 6] (fun o i _ wr => ∃ (k N d' : Nat) (A' : Option Addr), k ≤ n ∧ i = .int .i64 k ∧ o = .slice A' N d' ∧ N ≤ 306 ∧ Out W0 A' N d' (Sl.numB lsn ++ Sl.numB (n : Int) ++ (l.take k).flatMap Pg.cellB) wr) (fun _ i _ _ => n - (intOf i).toNat)
    case atStart => exact ⟨0, _, d4, A4, by omega, rfl, rfl, by omega, by simpa using H4.out⟩
    case round =>
      obtain ⟨k, N, d', A', hk, rfl, rfl, hN, hO⟩ := hrel
      clear H4
      have p1 : wr.cell? ⟨w.heap.size, 1, none⟩ = some (.slice A n c) := (HC.out wr hO.below).cell 1
      by_cases hlt : k < n
      · have hlb : Below w.heap.size w wr := H.out.1.trans (hO.below.mono H.out.1.size)
        obtain ⟨b, off, rfl, hbs, c0, c1, c2⟩ := cell_at (H.out.2.2.2.1.below hlb) hlt
        have hmem : l.getD k Pg.C.zero ∈ l := by
          rw [List.getD_eq_getElem?_getD, List.getElem?_eq_getElem (show k < l.length by rw [H.out.2.2.2.2.1]; exact hlt)]
          simp
        have hfx := HM.out.2.1 _ hmem
        have hstep := Pg.take_succ_flat l k (by rw [H.out.2.2.2.2.1]; exact hlt)
        have hfl : (Sl.numB lsn ++ Sl.numB (n : Int) ++ (l.take (k + 1)).flatMap Pg.cellB).length ≤ 306 := by
          have h3 := Pg.flat_le (l.take (k + 1)) (fun x hx => HM.out.2.1 x (List.mem_of_mem_take hx))
          have h4 : (l.take (k + 1)).length ≤ 4 := by rw [List.length_take, H.out.2.2.2.2.1]; omega
          simp only [List.length_append]
          omega
        generalize l.getD k Pg.C.zero = x at *
        have hkn : (k : Int) < (n : Int) := by omega
        have hsz := Pg.fits_sizes hfx
        have hx1 := Pg.text_le x.key
        have hx2 := Pg.text_le x.data
        have htx := fun W => refText_any x.key.data.toList W (by rw [Array.length_toList]; show x.key.size ≤ _; omega)
        have htd := fun W => refText_any x.data.data.toList W (by rw [Array.length_toList]; show x.data.size ≤ _; omega)
        simp only [Pg.str_data] at htx htd
        have HN := Lib.hid (And.intro hstep (And.intro htx (And.intro htd hfl)))
        have HO := Lib.hid (hO.cell (cCells x))
        clear hstep htx htd hfl hO hlb hmem hfx
        go_wp2_with fail
        refine (HN.out.2.1 _).mono ?_
        rintro e w5 ⟨v5, rfl, ho5, hb5⟩
        obtain ⟨B5, f5, rfl, hO5, hB5⟩ := HO.out.next ho5 hb5
        have H5 := Lib.hid (And.intro hO5 hB5)
        clear ho5 hb5 hO5 hB5 c0 c1 c2
        generalize hT1 : (Sl.textB x.key.data.toList).length = T1 at *
        have HT1 := Lib.hid hT1
        clear hT1
        cases hx : x.has with
        | false =>
          go_wp2_with (at_builtin; first
            | (refine wpList_outC rfl (.tmp 31) (.tmp 34) rfl H5.out.1 rfl rfl H5.out.2 (by omega) ?_
               intro A6 d6 w6 hO6
               have x1 : w6.cell? ⟨wr.heap.size, 1, none⟩ = some (.bool false) := by rw [← hx]; exact hO6.cel.cell 1
               have H6 := Lib.hid hO6
               clear hO6)
            | (refine wpList_outC rfl (.tmp 48) (.tmp 49) rfl (H6.out.grow ((Below.refl _ _).alloc (Nat.le_refl _) _)) rfl rfl (BS.made w6 #[.int .u8 0] 5 (0, 0) [0] rfl) (by omega) ?_
               intro A7 d7 w7 hO7
               have H7 := Lib.hid hO7
               clear hO7))
          have e : Sl.numB lsn ++ Sl.numB (n : Int) ++ (l.take (k + 1)).flatMap Pg.cellB = Sl.numB lsn ++ Sl.numB (n : Int) ++ (l.take k).flatMap Pg.cellB ++ Sl.textB x.key.data.toList ++ [0] := by
            rw [HN.out.1, Pg.cellB_not hx]
            simp only [List.append_assoc]
          have hO7 := H7.out.out
          rw [← e] at hO7
          have hln := hO7.len
          have hfl := HN.out.2.2.2
          exact ⟨⟨k + 1, _, d7, A7, by omega, by go_num, rfl, by omega, hO7⟩, by simp [intOf]; omega⟩
        | true =>
          go_wp2_with (at_builtin; first
            | (refine wpList_outC rfl (.tmp 31) (.tmp 34) rfl H5.out.1 rfl rfl H5.out.2 (by omega) ?_
               intro A6 d6 w6 hO6
               have x1 : w6.cell? ⟨wr.heap.size, 1, none⟩ = some (.bool true) := by rw [← hx]; exact hO6.cel.cell 1
               have H6 := Lib.hid hO6
               clear hO6)
            | (refine wpList_outC rfl (.tmp 39) (.tmp 40) rfl (H6.out.grow ((Below.refl _ _).alloc (Nat.le_refl _) _)) rfl rfl (BS.made w6 #[.int .u8 1] 5 (0, 0) [1] rfl) (by omega) ?_
               intro A7 d7 w7 hO7
               have x2 : w7.cell? ⟨wr.heap.size, 2, none⟩ = some (.string x.data) := hO7.cel.cell 2
               have H7 := Lib.hid hO7
               clear hO7))
          refine (HN.out.2.2.1 _).mono ?_
          rintro e w8 ⟨v8, rfl, ho8, hb8⟩
          obtain ⟨B8, f8, rfl, hO8, hB8⟩ := H7.out.next ho8 hb8
          have H8 := Lib.hid (And.intro hO8 hB8)
          clear ho8 hb8 hO8 hB8
          have hT2 : (Sl.textB x.data.data.toList).length ≤ 43 := by omega
          generalize (Sl.textB x.data.data.toList).length = T2 at *
          go_wp2_with (at_builtin; refine wpList_outC rfl (.tmp 42) (.tmp 46) rfl H8.out.1 rfl rfl H8.out.2 (by omega) ?_; intro A9 d9 w9 hO9; have H9 := Lib.hid hO9; clear hO9)
          have e : Sl.numB lsn ++ Sl.numB (n : Int) ++ (l.take (k + 1)).flatMap Pg.cellB = Sl.numB lsn ++ Sl.numB (n : Int) ++ (l.take k).flatMap Pg.cellB ++ Sl.textB x.key.data.toList ++ [1] ++ Sl.textB x.data.data.toList := by
            rw [HN.out.1, Pg.cellB_has hx]
            simp only [List.append_assoc]
          have hO9 := H9.out.out
          rw [← e] at hO9
          have hln := hO9.len
          have hfl := HN.out.2.2.2
          exact ⟨⟨k + 1, _, d9, A9, by omega, by go_num, rfl, by omega, hO9⟩, by simp [intOf]; omega⟩
      · obtain rfl : k = n := by omega
        rw [← HM.out.2.2.1] at hO
        have HO := Lib.hid hO
        clear hO
        go_wp2_with fail
        go_ret2
        have hlen := HO.out.len
        refine ⟨_, rfl, ?_, H.out.1.trans (HO.out.below.mono H.out.1.size)⟩
        rw [hlen]
        exact own_base HO.out.own H.out.1.size
end Go.Proofs.Ytfcmlfcpgboigaa
