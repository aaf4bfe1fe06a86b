/- From an argument that is read as data to what a walk asks: slices of structs, slices in structs. -/
import Derived.Test.YtamihmofmjkfoaaQ0
import Derived.Deep.Slices
import Derived.ChangeSame
import Derived.ChangeArms
import Derived.ProofKit
import Derived.Lib.SmallJoins
set_option linter.unusedVariables false
namespace Go.Proofs.Ytamihmofmjkfoaa.X
open Go.RowKit Go.Proofs.YtamihmofmjkfoaaW.PrintWords Go.Proofs.YtamihmofmjkfoaaW.PrintLast Go.Deep Go.Proofs.Ytamihmofmjkfoaa.Q

section
variable {H : Type} {enc : TypeId × Value → H} {P : Program} {w : World} {base : Nat} {spare : Nat → Bool} {held : Bool}
theorem add_of_add (a : Addr) (i j : Nat) : (a.add i).add j = a.add (i + j) := by
  unfold Addr.add
  by_cases hi : i = 0 <;> by_cases hj : j = 0 <;> simp [hi, hj, Nat.add_assoc]
theorem C_of_trod {α : Type} (d : Kd α) (z : α) (G : α → Prop) {t e : TypeId} {fuel : Nat} {v : Value} {x : DataW H × List MemPlace} (ht : P.underlying t = some (.slice e)) (hc : P.cellsOf e = d.sz)
    (he : ∀ (fuel : Nat) (cs : List Value) (x : DataW H × List MemPlace), DataW.trod enc P w base spare held fuel e cs = some x → ∃ y, d.K w y cs ∧ G y)
    (h : DataW.trod enc P w base spare held fuel t [v] = some x) : ∃ A len cap xs, v = .slice A len cap ∧ xs.length = len ∧ len ≤ cap ∧ d.C w A len xs ∧ ∀ y ∈ xs, G y := by
  rcases open_slice ht h with ⟨h1, _⟩ | ⟨a, len, cap, m, n, D, Pl, h1, hb, hl, hm, hmm, _, hx⟩
  · simp only [List.cons.injEq, and_true] at h1
    subst h1
    exact ⟨none, 0, 0, [], rfl, rfl, Nat.le_refl _, ⟨rfl, by omega, fun h => absurd h (by omega)⟩, fun y hy => by cases hy⟩
  · simp only [List.cons.injEq, and_true] at h1
    subst h1
    have hlm : len ≤ m := by rw [hmm]; split <;> omega
    have hel : ∀ i, i < len → ∃ y, ∃ cs, d.K w y cs ∧ G y ∧ w.cells? base (a.add (i * P.cellsOf e)) (P.cellsOf e) = some cs := fun i hi => by
      obtain ⟨cs, h2, h3⟩ := hx i (by omega)
      obtain ⟨y, hy, hg⟩ := he _ _ _ h3
      exact ⟨y, cs, hy, hg, h2⟩
    obtain ⟨Y, hY⟩ : ∃ Y : Nat → α, ∀ i, i < len → ∃ cs, d.K w (Y i) cs ∧ G (Y i) ∧ w.cells? base (a.add (i * P.cellsOf e)) (P.cellsOf e) = some cs :=
      ⟨fun i => if hi : i < len then Classical.choose (hel i hi) else z, fun i hi => by simp only [dif_pos hi]; exact Classical.choose_spec (hel i hi)⟩
    refine ⟨some a, len, cap, (List.range len).map Y, rfl, by simp, hl, ⟨by simp, by simp only [maxLen] at hm; omega, fun _ => ⟨a, rfl, fun j p hj => ?_⟩⟩, fun y hy => ?_⟩
    · obtain ⟨hj1, hj2⟩ := List.getElem?_eq_some_iff.1 hj
      simp only [List.length_map, List.length_range] at hj1
      simp only [List.getElem_map, List.getElem_range] at hj2
      subst hj2
      obtain ⟨cs, hK, _, hcs⟩ := hY j hj1
      refine ⟨cs, d.K_len hK, hK, fun i u hu => ?_⟩
      rw [hc] at hcs
      obtain ⟨_, h2, h3⟩ := World.cells?_some hcs
      have hi := (List.getElem?_eq_some_iff.1 hu).1
      rw [← add_of_add, h3 i (by omega), hu]
    · rw [List.mem_map] at hy
      obtain ⟨i, hi, rfl⟩ := hy
      obtain ⟨cs, _, hg, _⟩ := hY i (List.mem_range.1 hi)
      exact hg
/-- A slice as a struct's field. -/
theorem Ks_of_trod {α : Type} (d : Kd α) (z : α) (G : α → Prop) {t e : TypeId} {fuel : Nat} {cs : List Value} {x : DataW H × List MemPlace} (ht : P.underlying t = some (.slice e)) (hc : P.cellsOf e = d.sz)
    (he : ∀ (fuel : Nat) (cs : List Value) (x : DataW H × List MemPlace), DataW.trod enc P w base spare held fuel e cs = some x → ∃ y, d.K w y cs ∧ G y)
    (h : DataW.trod enc P w base spare held fuel t cs = some x) : ∃ xs, (Kd.slice e d).K w xs cs ∧ ∀ y ∈ xs, G y := by
  have h1 : ∃ v, cs = [v] := by
    rcases open_slice ht h with ⟨h1, _⟩ | ⟨a, len, cap, m, n, D, Pl, h1, _⟩
    · exact ⟨_, h1⟩
    · exact ⟨_, h1⟩
  obtain ⟨v, rfl⟩ := h1
  obtain ⟨A, len, cap, xs, rfl, rfl, h2, h3, h4⟩ := C_of_trod d z G ht hc he h
  exact ⟨xs, ⟨A, cap, rfl, h2, h3⟩, h4⟩
/-- A struct's cells, field by field. -/
theorem cut_of {cs a b : List Value} {o n : Nat} (h : cs = a ++ b) (ho : a.length = o) : (cs.drop o).take n = b.take n := by
  rw [h, ← ho, List.drop_left]
end
end Go.Proofs.Ytamihmofmjkfoaa.X
