/- StampPuts: its argument opened; own2; Put and Get over things. -/
import Derived.Test.YtaooimhodoefoaaDiskOpen
import Derived.Test.YtaooimhodoefoaaPutsMath
import Derived.Test.YtaooimhodoefoaaSep
import Derived.Test.YtaooimhodoefoaaOwn04
import Derived.Test.YtaooimhodoefoaaOwn05
import Derived.Test.YtaooimhodoefoaaStampRefs
namespace Go.Proofs.Ytaooimhodoefoaa
open Go.ChangeShapes Go.WideShapes Go.ChangeAt Go.RowKit Mem Lift
set_option linter.unusedVariables false
set_option linter.unusedSimpArgs false

structure DoneD where
  n : Int
  dA : Option Addr
  dn : Nat
  dc : Nat
  data : List UInt8
  kA : Option Addr
  kn : Nat
  kc : Nat
  keep : List Int
  torn : Bool
  cut : Int
  falls : Bool
def DoneD.zero : DoneD := ⟨0, none, 0, 0, [], none, 0, 0, [], false, 0, false⟩
def DoneD.cells (x : DoneD) : List Value := [.int .i64 x.n, .slice x.dA x.dn x.dc, .slice x.kA x.kn x.kc, .bool x.torn, .int .i64 x.cut, .bool x.falls]
structure DoneD.Ok (w : World) (x : DoneD) : Prop where
  data : BS w x.dA x.dn x.data
  keep : IS w x.kA x.kn x.keep
  dc : x.dn ≤ x.dc ∧ x.dc ≤ maxLen
  kc : x.kn ≤ x.kc ∧ x.kc ≤ maxLen
theorem DoneD.Ok.below {w w' : World} {x : DoneD} (h : x.Ok w) (hb : Below w.heap.size w w') : x.Ok w' := ⟨h.data.below hb, h.keep.below hb, h.dc, h.kc⟩
structure DS (w : World) (A : Option Addr) (n : Nat) (l : List DoneD) : Prop where
  len : l.length = n
  ok : ∀ x ∈ l, x.Ok w
  mem : 0 < n → ∃ b off, A = some ⟨b, off, none⟩ ∧ b < w.heap.size ∧ ∀ i, i < l.length → ∀ j, j < 6 → w.cell? ⟨b, off + i * 6 + j, none⟩ = (l.getD i .zero).cells[j]?
theorem DS.below {w w' : World} {A : Option Addr} {n : Nat} {l : List DoneD} (h : DS w A n l) (hb : Below w.heap.size w w') : DS w' A n l := by
  refine ⟨h.len, fun x hx => (h.ok x hx).below hb, fun hn => ?_⟩
  obtain ⟨b, off, rfl, hlt, hc⟩ := h.mem hn
  exact ⟨b, off, rfl, Nat.lt_of_lt_of_le hlt hb.size, fun i hi j hj => (World.cell?_of_block (hb.block b hlt)).trans (hc i hi j hj)⟩
theorem DS.at_ {w : World} {A : Option Addr} {n : Nat} {l : List DoneD} (h : DS w A n l) {i : Nat} (hi : i < n) : ∃ b off, A = some ⟨b, off, none⟩ ∧ w.cell? ⟨b, off + i * 6, none⟩ = some (.int .i64 (l.getD i .zero).n) ∧
    w.cell? ⟨b, off + i * 6 + 1, none⟩ = some (.slice (l.getD i .zero).dA (l.getD i .zero).dn (l.getD i .zero).dc) ∧ w.cell? ⟨b, off + i * 6 + 2, none⟩ = some (.slice (l.getD i .zero).kA (l.getD i .zero).kn (l.getD i .zero).kc) ∧
    w.cell? ⟨b, off + i * 6 + 3, none⟩ = some (.bool (l.getD i .zero).torn) ∧ w.cell? ⟨b, off + i * 6 + 4, none⟩ = some (.int .i64 (l.getD i .zero).cut) ∧ w.cell? ⟨b, off + i * 6 + 5, none⟩ = some (.bool (l.getD i .zero).falls) := by
  obtain ⟨b, off, rfl, _, hc⟩ := h.mem (by omega)
  have hl : i < l.length := by rw [h.len]; exact hi
  exact ⟨b, off, rfl, hc i hl 0 (by omega), hc i hl 1 (by omega), hc i hl 2 (by omega), hc i hl 3 (by omega), hc i hl 4 (by omega), hc i hl 5 (by omega)⟩
theorem list6 {α : Type} {cs : List α} (h : cs.length = 6) : ∃ a b c d e f, cs = [a, b, c, d, e, f] := by
  match cs, h with
  | [a, b, c, d, e, f], _ => exact ⟨a, b, c, d, e, f, rfl⟩
section
variable {H : Type} {enc : TypeId × Value → H} {W : World}
theorem done_cells {cs : List Value} (h : Rd enc Try.prog W 86 cs) : ∃ x : DoneD, cs = x.cells ∧ x.Ok W := by
  obtain ⟨hl, hf⟩ := h.struct Try.underlying86
  rw [show Try.prog.cellsOf 86 = 6 by kernel_rfl] at hl
  obtain ⟨a0, a1, a2, a3, a4, a5, rfl⟩ := list6 hl
  have h0 : Rd enc Try.prog W 3 [a0] := by
    have y : Rd enc Try.prog W 3 ((([a0, a1, a2, a3, a4, a5] : List Value).drop 0).take (Try.prog.cellsOf 3)) := hf 0 _ rfl
    rw [show Try.prog.cellsOf 3 = 1 by kernel_rfl] at y
    exact y
  have h1 : Rd enc Try.prog W 22 [a1] := by
    have y : Rd enc Try.prog W 22 ((([a0, a1, a2, a3, a4, a5] : List Value).drop 1).take (Try.prog.cellsOf 22)) := hf 1 _ rfl
    rw [show Try.prog.cellsOf 22 = 1 by kernel_rfl] at y
    exact y
  have h2 : Rd enc Try.prog W 52 [a2, a3, a4] := by
    have y : Rd enc Try.prog W 52 ((([a0, a1, a2, a3, a4, a5] : List Value).drop 2).take (Try.prog.cellsOf 52)) := hf 2 _ rfl
    rw [show Try.prog.cellsOf 52 = 3 by kernel_rfl] at y
    exact y
  have h3 : Rd enc Try.prog W 4 [a5] := by
    have y : Rd enc Try.prog W 4 ((([a0, a1, a2, a3, a4, a5] : List Value).drop 5).take (Try.prog.cellsOf 4)) := hf 3 _ rfl
    rw [show Try.prog.cellsOf 4 = 1 by kernel_rfl] at y
    exact y
  obtain ⟨n, e0, w0⟩ := h0.int Try.underlying3
  obtain ⟨dA, dn, dc, e1, hs⟩ := h1.slice Try.underlying22 (by rw [show Try.prog.cellsOf 5 = 1 by kernel_rfl]; omega)
  obtain ⟨AK, nk, ck, torn, cut, ks, e2, hk, hk1, hk2, hk3⟩ := crash_cells h2
  obtain ⟨falls, e5⟩ := h3.bool Try.underlying4
  simp only [List.cons.injEq, and_true] at e0 e1 e2 e5
  obtain ⟨e2, e3, e4⟩ := e2
  subst e0 e1 e2 e3 e4 e5
  obtain ⟨data, hd⟩ := hs.bytes Try.underlying5 (by kernel_rfl)
  exact ⟨⟨n, dA, dn, dc, data, AK, nk, ck, ks, torn, cut, falls⟩, rfl, ⟨hd, hk, ⟨hs.1, hs.2.1⟩, ⟨hk1, hk2⟩⟩⟩
theorem open_dones {v : Value} {d : DataW H} {p : List MemPlace} {base : Nat} (hv : Value.okWide Try.prog W .any base 83 v) (h : DataW.Trod enc Try.prog W 0 (fun _ => true) true 83 v d p) :
    ∃ A n c l, v = .slice A n c ∧ DS W A n l ∧ n ≤ c ∧ c ≤ maxLen := by
  obtain ⟨A, n, c, rfl⟩ := okWide_slice Try.underlying83 hv
  have h7 : Try.prog.cellsOf 86 = 6 := by kernel_rfl
  obtain ⟨A', n', c', e, hs⟩ := (rd_of h).slice Try.underlying83 (by rw [h7]; omega)
  simp [Value.cells] at e
  obtain ⟨rfl, rfl, rfl⟩ := e
  obtain ⟨hn, hc, hx⟩ := hs
  rcases Nat.eq_zero_or_pos n with rfl | hp
  · exact ⟨A, 0, c, [], rfl, ⟨rfl, fun x hx => (by cases hx), fun h => absurd h (by omega)⟩, hn, hc⟩
  · obtain ⟨b, off, rfl, hb, hx⟩ := hx hp
    obtain ⟨l, hl, hq⟩ := list_of (n := n) (q := fun i (x : DoneD) => (∀ j, j < 6 → W.cell? ⟨b, off + i * 6 + j, none⟩ = x.cells[j]?) ∧ x.Ok W) (fun i hi => by
      obtain ⟨es, h1, h2, h3⟩ := hx i hi
      obtain ⟨x, rfl, hok⟩ := done_cells h3
      rw [h7] at h2
      exact ⟨x, h2, hok⟩)
    refine ⟨_, n, c, l, rfl, ⟨hl, fun x hx => ?_, fun _ => ⟨b, off, rfl, hb, fun i hi j hj => ?_⟩⟩, hn, hc⟩
    · obtain ⟨i, hi, rfl⟩ := List.getElem_of_mem hx
      exact (hq i hi).2
    · rw [List.getD_eq_getElem?_getD, List.getElem?_eq_getElem hi]
      exact (hq i hi).1 j hj
end
/-- numbers of one's own -/
def OwnI (w : World) (n : Nat) (ks : List Int) (e : Ending) (w' : World) : Prop := ∃ A c, e = .returned (.slice A n c) ∧ IS w' A n ks ∧ Below w.heap.size w w'
theorem wpList_append_is {P : Program} (w : World) {ops : Array Oper} {rest : List Oper} {o : Oper} {a : Act} {Q : Exit → Act → World → Prop} (hgd : Region.wanted o (yielded ops a.tmps) = true) (s x : Operand) (t : TypeId)
    (ho : o.op = .call { callee := .builtin .append, args := #[s, x], argTypes := #[t, t] })
    (base : Nat) (e : TypeId) (i : TypeInfo) (ht : P.underlying t = some (.slice e)) (hi : P.info? e = some i) (hz : i.zero = some (.int .i64 0)) (hsize : i.size = 1) (hby : i.bytes = 8)
    (v : Value) (n : Nat) (xs : List Value) (hs : a.eval s = v) (hown : w.ownsRow base e 1 v n xs)
    (A : Option Addr) (m c : Nat) (ks : List Int) (hx : a.eval x = .slice A m c) (hr : IS w A m ks) (hbytes : n + m ≤ 1000000000) (hbase : base ≤ w.heap.size)
    (h : ∀ v' w', w'.ownsRow base e 1 v' (n + m) (xs ++ i64s ks) → w.grownBy w' v.ownBlock → wpList P ops Q rest (a.put o.dst v') w') : wpList P ops Q (o :: rest) a w := by
  unfold wpList
  rw [if_pos hgd]
  refine .inl ?_
  obtain ⟨v', w', hrun, h2, h3, _⟩ := run_append_is (P := P) w base t o.type e i ht hi hz hsize hby v n xs hown A m c ks hr hbytes hbase
  unfold Oper.wp execOp
  simp only [ho, resolve, invoke, builtin, Sem.run_bind, Sem.run_pure, Result.andThen_ok, List.map_toArray, List.map_cons, List.map_nil, hs, hx, hrun]
  exact h v' w' h2 h3
set_option maxHeartbeats 400000 in
theorem own2_any (A : Option Addr) (n cap : Nat) (ks : List Int) (w : World) (hk : IS w A n ks) (hn : n ≤ 1000000) : Calls Try.prog 48 #[.slice A n cap] w (OwnI w n ks) := by
  obtain ⟨i0, hi0, hz0, hz1, hz2⟩ := info_parts oinfoI
  go_enter Try.func48, Try.ntmps48
  have h' : IS (w.alloc (.cells #[] 3)) A n ks := hk.keep (by simp) (fun b hb => Below.heap_alloc _ _ _ hb)
  have ho : (w.alloc (.cells #[] 3)).ownsRow w.heap.size 3 1 (.slice (some ⟨w.heap.size, 0, none⟩) 0 0) 0 [] := own_empty (heap_alloc_new w _)
  have HI := Lib.hid (And.intro hi0 (And.intro hz0 (And.intro hz1 hz2)))
  have H' := Lib.hid (And.intro h' ho)
  clear hi0 h' ho hk hz0 hz1 hz2
  go_wp2_with (at_builtin; refine wpList_append_is _ rfl _ _ 50 rfl w.heap.size 3 i0 Try.underlying50 HI.out.1 HI.out.2.1 HI.out.2.2.1 HI.out.2.2.2 (.slice (some ⟨w.heap.size, 0, none⟩) 0 0) 0 [] rfl H'.out.2 A n cap ks rfl H'.out.1 (by omega) (by simp) ?_; intro v' w1 hown hg)
  go_ret
  rw [Nat.zero_add, List.nil_append] at hown
  obtain ⟨A', c', rfl⟩ := own_slice hown
  exact ⟨A', c', rfl, IS.of_own hown, ((Below.refl _ _).alloc (Nat.le_refl _) _).grown hg (by simp) (by simp [Value.ownBlock])⟩
/-! Put and Get -/
theorem sep_put {w0 w : World} {Rs : List Res} (h : Sep w0 w Rs) {i : Nat} {p : Nat} {d : Dk.D} (hi : Rs[i]? = some (.dsk p d)) (hok : Dk.Ok d) (hlen : d.pend.length ≤ 1000000) (n : Int) {A : Option Addr} {m cap : Nat} {bs : List UInt8} (hbs : BS w A m bs) :
    Calls Try.prog 25 #[.pointer (some ⟨p, 0, none⟩), .int .i64 n, .slice A m cap] w fun e w' => e = .returned (.int .i64 ((Dk.put2 d n bs).1 : Int)) ∧ Sep w0 w' (Rs.set i (.dsk p (Dk.put2 d n bs).2)) := by
  obtain ⟨F, hF, hF0, hby, hturn⟩ := h.open_ i _ hi
  refine (put_any p d F n A m cap bs w hF hok hbs hlen).mono ?_
  rintro e w' ⟨rfl, F', g1, g2, g3⟩
  exact ⟨rfl, hturn w' (.dsk p (Dk.put2 d n bs).2) F' g1 g2 g3⟩
theorem sep_get {w0 w : World} {Rs : List Res} (h : Sep w0 w Rs) {i : Nat} {p : Nat} {d : Dk.D} (hi : Rs[i]? = some (.dsk p d)) (hok : Dk.Ok d) (n : Int) : Calls Try.prog 26 #[.pointer (some ⟨p, 0, none⟩), .int .i64 n] w (BytesE w (Dk.get2 d n)) := by
  obtain ⟨F, hF, _⟩ := h.open_ i _ hi
  exact get_any p d F n w hF hok
end Go.Proofs.Ytaooimhodoefoaa
