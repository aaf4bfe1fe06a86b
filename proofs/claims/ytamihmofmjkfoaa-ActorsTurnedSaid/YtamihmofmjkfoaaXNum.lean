/- Plain arithmetic: numbers in base 128, their bytes, and bits as sums. No program in sight. Conditions: bytes are 0 to 255. -/
import Derived.Laws.BitsLemmas
import Derived.RowKit
namespace Go.Proofs.Ytamihmofmjkfoaa.X
open Go.RowKit

/-! ### bytes -/
def By (l : List Int) : Prop := ∀ x ∈ l, 0 ≤ x ∧ x < 256
instance (l : List Int) : Decidable (By l) := by unfold By; exact inferInstance
theorem By.nil : By [] := fun _ h => by cases h
theorem By.app {a b : List Int} (h : By a) (k : By b) : By (a ++ b) := fun x hx => by
  rcases List.mem_append.1 hx with h1 | h1
  · exact h x h1
  · exact k x h1
theorem By.take {l : List Int} (h : By l) (n : Nat) : By (l.take n) := fun x hx => h x (List.mem_of_mem_take hx)
theorem By.drop {l : List Int} (h : By l) (n : Nat) : By (l.drop n) := fun x hx => h x (List.mem_of_mem_drop hx)
theorem By.get {l : List Int} (h : By l) (i : Nat) : 0 ≤ l.getD i 0 ∧ l.getD i 0 < 256 := by
  by_cases hi : i < l.length
  · rw [List.getD_eq_getElem?_getD, List.getElem?_eq_getElem hi]
    exact h _ (List.getElem_mem hi)
  · rw [List.getD_eq_getElem?_getD, List.getElem?_eq_none (by omega)]
    simp

/-! ### bits -/
theorem and127 {x : Int} (h0 : 0 ≤ x) (h1 : x < 256) : bits .and .u8 x 127 = x % 128 := bits_mask .u8 8 (by decide) (fun n a b => by rw [IntKind.wrap_u8]; omega) 7 (by decide) x h0 h1
theorem ofInt64 (a : Nat) (ha : a < 2 ^ 64) : (BitVec.ofInt 64 (a : Int)).toNat = a := by
  rw [BitVec.ofInt_natCast, BitVec.toNat_ofNat]; exact Nat.mod_eq_of_lt ha
theorem wrap_u64 (n : Int) : IntKind.u64.wrap n = n % 18446744073709551616 := by simp [IntKind.wrap, IntKind.bits, IntKind.signed]
theorem or_add_u64 {n m s : Nat} (hn : n < 2 ^ s) (hm : m * 2 ^ s < 2 ^ 64) (hs : s ≤ 64) : bits .or .u64 (n : Int) ((m * 2 ^ s : Nat) : Int) = ((m * 2 ^ s + n : Nat) : Int) := by
  have h2 : (2 : Nat) ^ s ≤ 2 ^ 64 := Nat.pow_le_pow_right (by decide) hs
  have e : n ||| m * 2 ^ s = m * 2 ^ s + n := by rw [Nat.mul_comm, Nat.two_pow_add_eq_or_of_lt hn, Nat.or_comm]
  show IntKind.u64.wrap ((BitVec.ofInt 64 (n : Int) ||| BitVec.ofInt 64 ((m * 2 ^ s : Nat) : Int)).toNat : Int) = _
  rw [BitVec.toNat_or, ofInt64 n (by omega), ofInt64 _ hm, e, wrap_u64]
  have hlt : m * 2 ^ s + n < 2 ^ 64 := by rw [← e]; exact Nat.or_lt_two_pow (by omega) hm
  omega

/-! ### numbers to the base 128 -/
def val7 : List Int → Nat
  | [] => 0
  | x :: t => x.toNat % 128 + 128 * val7 t
theorem val7_lt : ∀ l : List Int, val7 l < 128 ^ l.length
  | [] => by decide
  | x :: t => by
    have := val7_lt t
    simp only [val7, List.length_cons, Nat.pow_succ]
    omega
theorem val7_app : ∀ a b : List Int, val7 (a ++ b) = val7 a + 128 ^ a.length * val7 b
  | [], b => by simp [val7]
  | x :: t, b => by
    simp only [List.cons_append, val7, val7_app t b, List.length_cons, Nat.pow_succ, Nat.mul_add]
    rw [Nat.mul_comm (128 ^ t.length) 128, Nat.mul_assoc]
    omega
/-- How many bytes the number at the beginning has, and the error. -/
def spanF : Nat → List Int → Int × Int
  | _, [] => (0, 2)
  | i, x :: t => if x < 128 then ((i : Int) + 1, 0) else if i = 9 then (0, 3) else spanF (i + 1) t
def ubF : Nat → Nat → List Int
  | 0, n => [(n : Int)]
  | f + 1, n => if n < 128 then [(n : Int)] else ((128 + n % 128 : Nat) : Int) :: ubF f (n / 128)
/-- The bytes of a number without a sign. -/
def ub (n : Nat) : List Int := ubF 9 n
theorem spanF_spec : ∀ (l : List Int) (i : Nat), i ≤ 9 → (∃ k : Nat, (spanF i l).1 = (k : Int) + i ∧ (spanF i l).2 = 0 ∧ 1 ≤ k ∧ k ≤ l.length ∧ k + i ≤ 10) ∨ (spanF i l).1 = 0 ∧ ((spanF i l).2 = 2 ∨ (spanF i l).2 = 3)
  | [], i, _ => .inr ⟨rfl, .inl rfl⟩
  | x :: t, i, hi => by
    unfold spanF
    by_cases hx : x < 128
    · rw [if_pos hx]
      exact .inl ⟨1, by simp; omega, rfl, by omega, by simp, by omega⟩
    · rw [if_neg hx]
      by_cases h9 : i = 9
      · rw [if_pos h9]
        exact .inr ⟨rfl, .inr rfl⟩
      · rw [if_neg h9]
        rcases spanF_spec t (i + 1) (by omega) with ⟨k, h1, h2, h3, h4, h5⟩ | h
        · exact .inl ⟨k + 1, by rw [h1]; omega, h2, by omega, by simp; omega, by omega⟩
        · exact .inr h
/-- What the program's GetU tells: the number, how many bytes, the error. -/
def getU (l : List Int) : Int × Int × Int :=
  let s := spanF 0 l
  if s.2 = 0 then
    let k := s.1.toNat
    let n := val7 (l.take k) % 2 ^ 64
    if (ub n).length ≠ k ∨ k = 10 ∧ l.getD 9 0 > 1 then (0, 0, 3) else ((n : Int), (k : Int), 0)
  else (0, 0, s.2)
end Go.Proofs.Ytamihmofmjkfoaa.X
