/- Small steps of worlds: only one block, and what is new, has turned. No program in sight. -/
import Derived.Test.YtamihmofmjkfoaaQ0
set_option linter.unusedVariables false
namespace Go.Proofs.Ytamihmofmjkfoaa.X
open Go.RowKit Go.Proofs.YtamihmofmjkfoaaW.PrintWords Go.Proofs.YtamihmofmjkfoaaW.PrintLast

section
variable {a w w' : World} {row : Option Nat}
theorem gb_drew (h : a.grownBy w row) : a.grownBy w.drew row := ⟨h.os, h.tape, h.output, h.size, h.block⟩
theorem gb_drewN (h : a.grownBy w row) (n : Nat) : a.grownBy (w.drewN n) row := ⟨h.os, h.tape, h.output, h.size, h.block⟩
theorem gb_then (h : a.grownBy w row) {r : Option Nat} (hg : w.grownBy w' r) (hr : ∀ k, r = some k → a.heap.size ≤ k ∨ row = some k) : a.grownBy w' row :=
  ⟨hg.os.trans h.os, hg.tape.trans h.tape, hg.output.trans h.output, Nat.le_trans h.size hg.size, fun k hk hne => (hg.block k (Nat.lt_of_lt_of_le hk h.size) (fun e => by
    rcases hr k e.symm with h1 | h1
    · omega
    · exact hne h1.symm)).trans (h.block k hk hne)⟩
theorem gb_alloc (h : a.grownBy w row) (o : Obj) : a.grownBy (w.alloc o) row := gb_then h (World.grownBy_alloc w o none) (by simp)
theorem gb_setCell (h : a.grownBy w row) {p : Addr} (hp : a.heap.size ≤ p.block ∨ row = some p.block) (u : Value) : a.grownBy (w.setCell p u) row :=
  ⟨h.os, h.tape, h.output, by simpa [World.setCell] using h.size, fun k hk hne => (Below.heap_setCell w p u k (by
    rintro rfl
    rcases hp with h1 | h1
    · omega
    · exact hne h1.symm)).trans (h.block k hk hne)⟩
theorem gb_below (h : a.grownBy w row) {B : Nat} (hb : Below B w w') (hB : a.heap.size ≤ B) : a.grownBy w' row :=
  ⟨hb.os.trans h.os, hb.tape.trans h.tape, hb.output.trans h.output, Nat.le_trans h.size hb.size, fun k hk hne => (hb.block k (by omega)).trans (h.block k hk hne)⟩
theorem gb_to_below {B : Nat} {w0 : World} (h : a.grownBy w row) (hb : Below B w0 a) (hB : B ≤ a.heap.size) (hr : ∀ k, row = some k → B ≤ k) : Below B w0 w := pw_below_grown hb row hB h hr
theorem gb_is_below (h : a.grownBy w none) : Below a.heap.size a w := ⟨h.os, h.tape, h.output, h.size, fun k hk => h.block k hk (by simp)⟩
theorem bl_is_gb (h : Below a.heap.size a w) : a.grownBy w none := ⟨h.os, h.tape, h.output, h.size, fun k hk _ => h.block k hk⟩
end

section
variable {α : Type} {d : Kd α} {e base : Nat} {ok : Nat → Prop} {w w' : World} {v : Value} {xs : List α}
/-- What was made between two sizes: as long as none of these blocks turns it stands. -/
theorem R_between (h : d.R e w base ok v xs) : d.R e w base (fun k => base ≤ k ∧ k < w.heap.size) v xs := Kd.R_mono (Kd.R_bound h) (fun k hk => ⟨hk.2.1, hk.2.2.1⟩)
theorem R_gb {n : Nat} {row : Option Nat} (h : d.R e w base (fun k => base ≤ k ∧ k < w.heap.size) v xs) (hg : w.grownBy w' row) (hr : ∀ k, row = some k → k < base) : d.R e w' base (fun _ => True) v xs :=
  Kd.R_mono (Kd.R_move h (fun k hk => hg.block k hk.2 (fun e1 => by have := hr k e1.symm; omega))) (fun _ _ => trivial)
end
section
variable {α : Type} {d : Kd α} {e base : Nat} {ok : Nat → Prop} {w w' : World} {v : Value} {xs : List α}
theorem R_gbT {row : Option Nat} (h : d.R e w base ok v xs) (hg : w.grownBy w' row) (hr : ∀ k, row = some k → k < base) : d.R e w' base (fun _ => True) v xs := R_gb (n := 0) (R_between h) hg hr
theorem R_base (h : d.R e w base ok v xs) (k : Nat) (hk : v.ownBlock = some k) : base ≤ k := by
  obtain ⟨inner, h⟩ := Kd.R_own h
  exact own_base h k hk
theorem R_lt (h : d.R e w base ok v xs) (k : Nat) (hk : v.ownBlock = some k) : k < w.heap.size := by
  obtain ⟨inner, h⟩ := Kd.R_own h
  exact own_lt h k hk
end
theorem R_readsv {α : Type} {d : Kd α} {e base : Nat} {ok : Nat → Prop} {w : World} {xs : List α} {A : Option Addr} {n c : Nat} (h : d.R e w base ok (.slice A n c) xs) : n = xs.length ∧ xs.length ≤ c ∧ d.C w A xs.length xs := by
  obtain ⟨A', c', e1, h1, h2⟩ := Kd.R_reads h
  simp only [Value.slice.injEq] at e1
  obtain ⟨rfl, rfl, rfl⟩ := e1
  exact ⟨rfl, h1, h2⟩
/-- A kind whose elements' cells say a fixed thing: for rows of what came in. -/
def held {α : Type} (R : α → List Value → Prop) (sz : Nat) (hl : ∀ {x cs}, R x cs → cs.length = sz) (h1 : ∀ {x cs}, R x cs → ∀ u ∈ cs, u.oneCell' = true) : Kd α where
  sz := sz
  E := []
  K := fun _ => R
  M := fun _ _ _ => R
  K_len := hl
  K_one := h1
  K_below := fun _ h => h
  K_of_M := fun h => h
  M_mono := fun _ h => h
  M_bound := fun h => h
  M_move := fun _ h => h
  M_lower := fun _ h => h
theorem R_lits {α : Type} (d : Kd α) (e : Nat) (W : World) (xs : List α) (inner : List Value) (hrep : Reps (d.M W W.heap.size (fun _ => False)) d.sz xs inner) (hm : xs.length ≤ 9223372036854775807) :
    d.R e (W.alloc (.cells inner.toArray e)) W.heap.size (fun _ => True) (.slice (some ⟨W.heap.size, 0, none⟩) xs.length xs.length) xs := by
  refine ⟨fun k hk => trivial, inner, ?_, ?_⟩
  · have h2 := World.ownsRow_lit (base := W.heap.size) (e := e) (size := d.sz) W inner.toArray xs.length (Nat.le_refl _) (by simpa [maxLen] using hm) (by simpa using hrep.1)
    simpa using h2
  · refine hrep.imp_ (fun p c hp => d.M_mono (fun k hk => hk.1.elim) (Kd.M_below (d.M_bound hp) (below_alloc (Below.refl _ _) _)))
theorem bdn {w w' : World} {n : Nat} (h : Below (w.drewN n).heap.size (w.drewN n) w') : Below w.heap.size w w' := below_then (pw_below_drewN (Below.refl _ _) n) (Nat.le_refl _) h
end Go.Proofs.Ytamihmofmjkfoaa.X
