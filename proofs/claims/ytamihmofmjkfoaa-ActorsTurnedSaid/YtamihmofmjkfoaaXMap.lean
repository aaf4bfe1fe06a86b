/- A map from texts to truths that a call makes and keeps as a set: what a look-up and a store do to it, at the operation. Conditions: the keys' lengths are at most maxLen. -/
import Derived.Maps.OwnSet
import Derived.Maps.Views
import Derived.WalkKit
namespace Go.Proofs.Ytamihmofmjkfoaa.X
open Go.Maps (Keyed)

theorem plainElem_bool_inv {H : Type} {P : Program} {e : TypeId} (he : P.underlying e = some .bool) {v : Value} {z : DataW H × List MemPlace} (h : plainElem P e v = some z) : ∃ a, v = .bool a ∧ z = (.lit (.bool a), []) := by
  unfold plainElem at h
  rw [he] at h
  cases v <;> simp at h
  exact ⟨_, rfl, h.symm⟩

theorem keyOf_string_mk {P : Program} {k : TypeId} (hk : P.underlying k = some .string) (s : ByteArray) (hs : s.size ≤ maxLen) : keyOf P k (.string s) = some (.string s.data.toList) := by
  rw [keyOf_string hk]
  simp [mapKey, hk, hs]

/-- Block b is a map of at most n entries that holds 'true' at the texts ks and nothing at any other. -/
def IsSet (w : World) (P : Program) (k e : TypeId) (b n : Nat) (ks : List (List UInt8)) : Prop :=
  ∃ D : DataW Unit, w.ownsMap P k (plainElem P e) b n D ∧ ∀ s : List UInt8, D.atKey (.string s) (.lit (.bool false)) = .lit (.bool (decide (s ∈ ks)))

section
variable {P : Program} {k e : TypeId} {w w' : World} {b n : Nat} {ks : List (List UInt8)}

theorem IsSet.made (w : World) (P : Program) (k e : TypeId) : IsSet (w.alloc (.map #[] 0)) P k e w.heap.size 0 [] :=
  ⟨_, World.ownsMap_made w P k _, fun s => by simp [DataW.atKey]⟩
theorem IsSet.kept (h : IsSet w P k e b n ks) {row : Option Nat} (hg : w.grownBy w' row) (hne : some b ≠ row) : IsSet w' P k e b n ks := by
  obtain ⟨D, h1, h2⟩ := h
  exact ⟨D, h1.kept hg hne, h2⟩
theorem IsSet.mono {n' : Nat} (h : IsSet w P k e b n ks) (hn : n ≤ n') : IsSet w P k e b n' ks := by
  obtain ⟨D, h1, h2⟩ := h
  exact ⟨D, h1.mono hn, h2⟩
theorem IsSet.lt (h : IsSet w P k e b n ks) : b < w.heap.size := by
  obtain ⟨D, h1, _⟩ := h
  exact h1.lt
theorem IsSet.put_ (h : IsSet w P k e b n ks) {s : List UInt8} (hw : w'.ownsMap P k (plainElem P e) b (n + 1) ((Classical.choose h).put (.string s) (.lit (.bool true)))) : IsSet w' P k e b (n + 1) (s :: ks) := by
  obtain ⟨h1, h2⟩ := Classical.choose_spec h
  refine ⟨_, hw, fun t => ?_⟩
  by_cases ht : t = s
  · subst ht
    rw [Maps.atKey_put_same (h1.isMap) (k := .string t) (by exact ⟨⟩)]
    simp
  · rw [Maps.atKey_put_other (by simpa using ht), h2]
    simp [ht]
end

section
variable {P : Program} {ops : Array Oper} {rest : List Oper} {o : Oper} {a : Act} {Q : Exit → Act → World → Prop}
/-- The look-up (without ok). -/
theorem wp_look {w : World} (hg : o.guard = none) (m x : Operand) (t : TypeId) (hop : o.op = Op.lookup t m x false)
    (k e : TypeId) (hk : P.underlying k = some .string) (he : P.underlying e = some .bool) (ht : P.underlying t = some (.map k e)) (hz : (zeroValue e).run P w = .ok (.bool false) w) (b n : Nat) (ks : List (List UInt8))
    (hm : a.eval m = .map (some b)) (hown : IsSet w P k e b n ks) (s : ByteArray) (hx : a.eval x = .string s) (hs : s.size ≤ maxLen)
    (hK : wpList P ops Q rest (a.put o.dst (.bool (decide (s.data.toList ∈ ks)))) w) : wpList P ops Q (o :: rest) a w := by
  refine wpList_plain hg fun K' hK' => ?_
  obtain ⟨D, h1, h2⟩ := hown
  obtain ⟨v, ps, hrun, hv⟩ := h1.lookup (Maps.string_keyed hk) ht hz (plainElem_bool he false) (keyOf_string_mk hk s hs)
  rw [h2] at hv
  obtain ⟨c, rfl, hc⟩ := plainElem_bool_inv he hv
  simp only [Prod.mk.injEq, DataW.lit.injEq, Lit.bool.injEq] at hc
  obtain ⟨rfl, _⟩ := hc
  unfold Oper.wp
  simp [execOp, hop, hm, hx, hrun, Result.andThen]
  exact hK' _ _ (by simpa using hK)
theorem put_core {w : World} (k e t : TypeId) (hk : P.underlying k = some .string) (he : P.underlying e = some .bool) (ht : P.underlying t = some (.map k e)) (b n : Nat) (hn : n < maxLen) (ks : List (List UInt8))
    (hown : IsSet w P k e b n ks) (s : ByteArray) (hs : s.size ≤ maxLen) :
    ∃ w', (Instr.mapUpdate t (.map (some b)) (.string s) (.bool true)).run P w = .ok () w' ∧ IsSet w' P k e b (n + 1) (s.data.toList :: ks) ∧ w.grownBy w' (some b) := by
  obtain ⟨w', hrun, r1, r2⟩ := (Classical.choose_spec hown).1.update (Maps.string_keyed hk) ht hn (keyOf_string_mk hk s hs) (plainElem_bool he true)
  exact ⟨w', hrun, hown.put_ r1, r2⟩
/-- m[s] = true. -/
theorem wp_put {w : World} (hg : o.guard = none) (m x v : Operand) (t : TypeId) (hop : o.op = Op.mapUpdate t m x v) (hv : a.eval v = .bool true)
    (k e : TypeId) (hk : P.underlying k = some .string) (he : P.underlying e = some .bool) (ht : P.underlying t = some (.map k e)) (b n : Nat) (hn : n < maxLen) (ks : List (List UInt8))
    (hm : a.eval m = .map (some b)) (hown : IsSet w P k e b n ks) (s : ByteArray) (hx : a.eval x = .string s) (hs : s.size ≤ maxLen)
    (hK : ∀ w', IsSet w' P k e b (n + 1) (s.data.toList :: ks) → w.grownBy w' (some b) → wpList P ops Q rest (a.put o.dst undef) w') : wpList P ops Q (o :: rest) a w := by
  refine wpList_plain hg fun K' hK' => ?_
  obtain ⟨w', hrun, r1, r2⟩ := put_core k e t hk he ht b n hn ks hown s hs
  unfold Oper.wp
  simp [execOp, hop, hm, hx, hv, hrun, Result.andThen]
  exact hK' _ _ (hK w' r1 r2)
/-- The same in a literal. -/
theorem wp_insert {w : World} (hg : o.guard = none) (m x v : Operand) (t : TypeId) (hop : o.op = Op.insert t m x v) (hv : a.eval v = .bool true)
    (k e : TypeId) (hk : P.underlying k = some .string) (he : P.underlying e = some .bool) (ht : P.underlying t = some (.map k e)) (b n : Nat) (hn : n < maxLen) (ks : List (List UInt8))
    (hm : a.eval m = .map (some b)) (hown : IsSet w P k e b n ks) (s : ByteArray) (hx : a.eval x = .string s) (hs : s.size ≤ maxLen)
    (hK : ∀ w', IsSet w' P k e b (n + 1) (s.data.toList :: ks) → w.grownBy w' (some b) → wpList P ops Q rest (a.put o.dst undef) w') : wpList P ops Q (o :: rest) a w := by
  refine wpList_plain hg fun K' hK' => ?_
  obtain ⟨w', hrun, r1, r2⟩ := put_core k e t hk he ht b n hn ks hown s hs
  unfold Oper.wp
  simp [execOp, hop, hm, hx, hv, hrun, Result.andThen]
  exact hK' _ _ (hK w' r1 r2)
end
end Go.Proofs.Ytamihmofmjkfoaa.X
