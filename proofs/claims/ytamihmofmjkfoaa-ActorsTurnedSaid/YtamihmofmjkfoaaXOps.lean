/- Ops that come in, opened: each field's cells and range. -/
import Derived.Test.YtamihmofmjkfoaaXOpen
import Derived.OpenShut
set_option linter.unusedVariables false
namespace Go.Proofs.Ytamihmofmjkfoaa.X
open Go.RowKit Go.Proofs.YtamihmofmjkfoaaW.PrintWords Go.Proofs.YtamihmofmjkfoaaW.PrintLast Go.Deep Go.Joins Go.Proofs.Ytamihmofmjkfoaa.Q Go.ChangeShapes

theorem cells9 : Try.prog.cellsOf 9 = 1 := by kernel_rfl
theorem cells2 : Try.prog.cellsOf 2 = 1 := by kernel_rfl
theorem cells3 : Try.prog.cellsOf 3 = 1 := by kernel_rfl
theorem cells4 : Try.prog.cellsOf 4 = 1 := by kernel_rfl
theorem cells39 : Try.prog.cellsOf 39 = 1 := by kernel_rfl
theorem cells38 : Try.prog.cellsOf 38 = 2 := by kernel_rfl
theorem cells41 : Try.prog.cellsOf 41 = 4 := by kernel_rfl
theorem cells42 : Try.prog.cellsOf 42 = 1 := by kernel_rfl
theorem cells44 : Try.prog.cellsOf 44 = 13 := by kernel_rfl
def I64 (n : Int) : Prop := -9223372036854775808 ≤ n ∧ n < 9223372036854775808
def U64 (n : Int) : Prop := 0 ≤ n ∧ n < 18446744073709551616
theorem i64_wf {n : Int} (h : (Lit.int .i64 n).wf = true) : I64 n := by
  have := bounds_i64 h
  unfold I64
  omega
theorem u64_wf {n : Int} (h : (Lit.int .u64 n).wf = true) : U64 n := by
  simp [Lit.wf, IntKind.min, IntKind.max, IntKind.signed, IntKind.bits] at h
  unfold U64
  omega
theorem list2 {α : Type} : ∀ {l : List α}, l.length = 2 → ∃ c0 c1, l = [c0, c1]
  | [c0, c1], _ => ⟨c0, c1, rfl⟩
theorem list4 {α : Type} : ∀ {l : List α}, l.length = 4 → ∃ c0 c1 c2 c3, l = [c0, c1, c2, c3]
  | [c0, c1, c2, c3], _ => ⟨c0, c1, c2, c3, rfl⟩
theorem list13 {α : Type} : ∀ {l : List α}, l.length = 13 → ∃ c0 c1 c2 c3 c4 c5 c6 c7 c8 c9 c10 c11 c12, l = [c0, c1, c2, c3, c4, c5, c6, c7, c8, c9, c10, c11, c12]
  | [c0, c1, c2, c3, c4, c5, c6, c7, c8, c9, c10, c11, c12], _ => ⟨c0, c1, c2, c3, c4, c5, c6, c7, c8, c9, c10, c11, c12, rfl⟩

section
variable {H : Type} {enc : TypeId × Value → H} {w : World} {base : Nat} {spare : Nat → Bool} {held : Bool}
theorem opId_of_trod (fuel : Nat) (cs : List Value) (x : DataW H × List MemPlace) (h : DataW.trod enc Try.prog w base spare held fuel 38 cs = some x) : ∃ y : S38, k38.K w y cs ∧ I64 y.f0 := by
  obtain ⟨y0, y1, n, _, hl, h0, h1⟩ := trod_struct2 Try.underlying38 h
  rw [cells38] at hl
  obtain ⟨c0, c1, rfl⟩ := list2 hl
  obtain ⟨a, e0, _, wa⟩ := DataW.trod_int Try.underlying2 h0
  obtain ⟨s, e1, _, _⟩ := DataW.trod_string Try.underlying9 h1
  simp only [cells2, cells9, List.drop_zero, List.take_succ_cons, List.take_zero, List.drop_succ_cons, List.cons.injEq, and_true] at e0 e1
  subst e0 e1
  exact ⟨⟨a, s⟩, k38_mk w ⟨a, s⟩, i64_wf wa⟩
theorem val_of_trod (fuel : Nat) (cs : List Value) (x : DataW H × List MemPlace) (h : DataW.trod enc Try.prog w base spare held fuel 41 cs = some x) : ∃ y : S41, cs = [.int .i64 y.f0, .int .u64 y.f1, .int .i64 y.f2, .string y.f3] ∧ I64 y.f0 ∧ U64 y.f1 ∧ I64 y.f2 := by
  obtain ⟨y0, y1, y2, y3, n, _, hl, h0, h1, h2, h3⟩ := trod_struct4 Try.underlying41 h
  rw [cells41] at hl
  obtain ⟨c0, c1, c2, c3, rfl⟩ := list4 hl
  obtain ⟨a, e0, _, wa⟩ := DataW.trod_int Try.underlying3 h0
  obtain ⟨b, e1, _, wb⟩ := DataW.trod_int Try.underlying39 h1
  obtain ⟨c, e2, _, wc⟩ := DataW.trod_int Try.underlying2 h2
  obtain ⟨s, e3, _, _⟩ := DataW.trod_string Try.underlying9 h3
  simp only [cells2, cells3, cells39, cells9, List.drop_zero, List.take_succ_cons, List.take_zero, List.drop_succ_cons, List.cons.injEq, and_true] at e0 e1 e2 e3
  subst e0 e1 e2 e3
  exact ⟨⟨a, b, c, s⟩, rfl, i64_wf wa, u64_wf wb, i64_wf wc⟩
/-- What is known of an op that came in. -/
def OpG (o : S44) : Prop := I64 o.f0.f0 ∧ I64 o.f3.f0 ∧ I64 o.f5 ∧ (I64 o.f6.f0 ∧ U64 o.f6.f1 ∧ I64 o.f6.f2) ∧ ∀ p ∈ o.f7, I64 p.f0
set_option maxRecDepth 10000 in
theorem op_of_trod (fuel : Nat) (cs : List Value) (x : DataW H × List MemPlace) (h : DataW.trod enc Try.prog w base spare held fuel 44 cs = some x) : ∃ y : S44, k44.K w y cs ∧ OpG y := by
  obtain ⟨xs, n, _, _, hl, hlen, hf⟩ := DataW.trod_struct Try.underlying44 h
  rw [cells44] at hl
  obtain ⟨c0, c1, c2, c3, c4, c5, c6, c7, c8, c9, c10, c11, c12, rfl⟩ := list13 hl
  have hx : ∀ i, i < 8 → ∃ y, xs[i]? = some y := fun i hi => ⟨xs[i]'(by rw [hlen]; exact hi), List.getElem?_eq_getElem _⟩
  obtain ⟨y0, q0⟩ := hx 0 (by omega)
  obtain ⟨y1, q1⟩ := hx 1 (by omega)
  obtain ⟨y2, q2⟩ := hx 2 (by omega)
  obtain ⟨y3, q3⟩ := hx 3 (by omega)
  obtain ⟨y4, q4⟩ := hx 4 (by omega)
  obtain ⟨y5, q5⟩ := hx 5 (by omega)
  obtain ⟨y6, q6⟩ := hx 6 (by omega)
  obtain ⟨y7, q7⟩ := hx 7 (by omega)
  have h0 : DataW.trod enc Try.prog w base spare held n 38 ((List.drop 0 [c0, c1, c2, c3, c4, c5, c6, c7, c8, c9, c10, c11, c12]).take (Try.prog.cellsOf 38)) = some y0 := (hf 0 _ rfl).trans q0
  have h1 : DataW.trod enc Try.prog w base spare held n 9 ((List.drop 2 [c0, c1, c2, c3, c4, c5, c6, c7, c8, c9, c10, c11, c12]).take (Try.prog.cellsOf 9)) = some y1 := (hf 1 _ rfl).trans q1
  have h2 : DataW.trod enc Try.prog w base spare held n 4 ((List.drop 3 [c0, c1, c2, c3, c4, c5, c6, c7, c8, c9, c10, c11, c12]).take (Try.prog.cellsOf 4)) = some y2 := (hf 2 _ rfl).trans q2
  have h3 : DataW.trod enc Try.prog w base spare held n 38 ((List.drop 4 [c0, c1, c2, c3, c4, c5, c6, c7, c8, c9, c10, c11, c12]).take (Try.prog.cellsOf 38)) = some y3 := (hf 3 _ rfl).trans q3
  have h4 : DataW.trod enc Try.prog w base spare held n 4 ((List.drop 6 [c0, c1, c2, c3, c4, c5, c6, c7, c8, c9, c10, c11, c12]).take (Try.prog.cellsOf 4)) = some y4 := (hf 4 _ rfl).trans q4
  have h5 : DataW.trod enc Try.prog w base spare held n 2 ((List.drop 7 [c0, c1, c2, c3, c4, c5, c6, c7, c8, c9, c10, c11, c12]).take (Try.prog.cellsOf 2)) = some y5 := (hf 5 _ rfl).trans q5
  have h6 : DataW.trod enc Try.prog w base spare held n 41 ((List.drop 8 [c0, c1, c2, c3, c4, c5, c6, c7, c8, c9, c10, c11, c12]).take (Try.prog.cellsOf 41)) = some y6 := (hf 6 _ rfl).trans q6
  have h7 : DataW.trod enc Try.prog w base spare held n 42 ((List.drop 12 [c0, c1, c2, c3, c4, c5, c6, c7, c8, c9, c10, c11, c12]).take (Try.prog.cellsOf 42)) = some y7 := (hf 7 _ rfl).trans q7
  clear hf hx q0 q1 q2 q3 q4 q5 q6 q7
  simp only [cells2, cells4, cells38, cells41, cells42, cells9, List.drop_zero, List.take_succ_cons, List.take_zero, List.drop_succ_cons] at h0 h1 h2 h3 h4 h5 h6 h7
  obtain ⟨p0, k0, g0⟩ := opId_of_trod _ _ _ h0
  obtain ⟨s1, e1, _, _⟩ := DataW.trod_string Try.underlying9 h1
  obtain ⟨b2, e2, _⟩ := DataW.trod_bool Try.underlying4 h2
  obtain ⟨p3, k3, g3⟩ := opId_of_trod _ _ _ h3
  obtain ⟨b4, e4, _⟩ := DataW.trod_bool Try.underlying4 h4
  obtain ⟨a5, e5, _, w5⟩ := DataW.trod_int Try.underlying2 h5
  obtain ⟨v6, e6, g6⟩ := val_of_trod _ _ _ h6
  obtain ⟨ps, k7, g7⟩ := Ks_of_trod k38 z38 (fun y => I64 y.f0) Try.underlying42 cells38 opId_of_trod h7
  have e0 := k38_open k0
  have e3 := k38_open k3
  obtain ⟨A, c, e7, l7, g7'⟩ := k7
  simp only [List.cons.injEq, and_true] at e0 e1 e2 e3 e4 e5 e6 e7
  obtain ⟨rfl, rfl⟩ := e0
  obtain ⟨rfl, rfl⟩ := e3
  obtain ⟨rfl, rfl, rfl, rfl⟩ := e6
  subst e1 e2 e4 e5 e7
  exact ⟨⟨p0, s1, b2, p3, b4, a5, v6, ps⟩, k44_mk w ⟨p0, s1, b2, p3, b4, a5, v6, ps⟩ l7 g7', g0, g3, i64_wf w5, g6, g7⟩
/-- A slice of ops that came in. -/
theorem ops_of_trod {fuel : Nat} {v : Value} {x : DataW H × List MemPlace} (h : DataW.trod enc Try.prog w base spare held fuel 22 [v] = some x) : ∃ A len cap xs, v = .slice A len cap ∧ xs.length = len ∧ len ≤ cap ∧ k44.C w A len xs ∧ ∀ y ∈ xs, OpG y :=
  C_of_trod k44 z44 OpG Try.underlying22 cells44 op_of_trod h
theorem ops_arg {a : Option Addr} {n c : Nat} {d : DataW H} {p : List MemPlace} (h : DataW.Trod enc Try.prog w base spare held 22 (.slice a n c) d p) : ∃ A len cap xs, Value.slice a n c = .slice A len cap ∧ xs.length = len ∧ len ≤ cap ∧ k44.C w A len xs ∧ ∀ y ∈ xs, OpG y := by
  obtain ⟨fuel, hf⟩ := h
  exact ops_of_trod (v := .slice a n c) (by simpa [Value.cells] using hf)
/-- A slice of bytes that came in. -/
theorem bytes_arg {a : Option Addr} {n c : Nat} {d : DataW H} {p : List MemPlace} (h : DataW.Trod enc Try.prog w base spare held 34 (.slice a n c) d p) : ∃ A len cap xs, Value.slice a n c = .slice A len cap ∧ xs.length = len ∧ len ≤ cap ∧ (Kd.int .u8).C w A len xs ∧ ∀ y ∈ xs, 0 ≤ y ∧ y < 256 := by
  obtain ⟨fuel, hf⟩ := h
  refine C_of_trod (v := .slice a n c) (Kd.int .u8) (0 : Int) (fun y => 0 ≤ y ∧ y < 256) Try.underlying34 (by kernel_rfl) (fun fuel cs x h => ?_) (by simpa [Value.cells] using hf)
  obtain ⟨y, rfl, _, wy⟩ := DataW.trod_int Try.underlying5 h
  have := bounds_u8 wy
  exact ⟨y, rfl, this.1, by omega⟩
end
end Go.Proofs.Ytamihmofmjkfoaa.X
