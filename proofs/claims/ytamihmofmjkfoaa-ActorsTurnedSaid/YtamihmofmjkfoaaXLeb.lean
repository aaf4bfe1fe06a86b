/- What the program's leb package tells, in plain words. Conditions: lengths are those that Go lets stand. -/
import Derived.Test.YtamihmofmjkfoaaQ0
import Derived.Test.YtamihmofmjkfoaaQ100
import Derived.Test.YtamihmofmjkfoaaQ59
import Derived.Test.YtamihmofmjkfoaaXNum
import Derived.Test.YtamihmofmjkfoaaXWorld
import Derived.Lib.Hide
import Derived.Outline
namespace Go.Proofs.Ytamihmofmjkfoaa.X
open Go.RowKit Go.Proofs.YtamihmofmjkfoaaW.PrintWords Go.Proofs.YtamihmofmjkfoaaW.PrintLast Go.Proofs.YtamihmofmjkfoaaW.PrintMore Go.Proofs.Ytamihmofmjkfoaa.Q
set_option linter.unusedVariables false
set_option linter.unusedSimpArgs false
attribute [local go_sem] max2_int min2_int max_two min_two max_three min_three max_four min_four

/-! ### the plain part -/
theorem w64 {x : Int} (h0 : -9223372036854775808 ≤ x) (h1 : x < 9223372036854775808) : wrap64 x = x := by unfold wrap64; omega
theorem span_plain (l : List Int) (hl : l.length ≤ 9223372036854775807) : ∀ (d k i : Nat), l.length - i = d → i ≤ l.length → i ≤ 9 → d < k → leb_span.l0 k l (l.length : Int) i = some (spanF i (l.drop i)) := by
  intro d
  induction d with
  | zero =>
    intro k i hd hi _ hk
    obtain ⟨k, rfl⟩ : ∃ m, k = m + 1 := ⟨k - 1, by omega⟩
    simp only [leb_span.l0]
    rw [if_neg (by omega), List.drop_eq_nil_of_le (by omega)]
    rfl
  | succ d ih =>
    intro k i hd hi h9 hk
    obtain ⟨k, rfl⟩ : ∃ m, k = m + 1 := ⟨k - 1, by omega⟩
    have hlt : i < l.length := by omega
    simp only [leb_span.l0]
    rw [if_pos (by omega), if_pos (by omega), if_pos (by omega), List.drop_eq_getElem_cons hlt]
    have hr : rd l (i : Int) = l[i] := by unfold rd; simp [List.getD_eq_getElem?_getD, hlt]
    rw [hr]
    unfold spanF
    rw [w64 (by omega) (by omega)]
    by_cases hx : l[i] < 128
    · rw [if_pos hx, if_pos hx]
    · rw [if_neg hx, if_neg hx]
      by_cases e : i = 9
      · rw [if_pos (by omega), if_pos e]
      · rw [if_neg (by omega), if_neg e]
        exact ih k (i + 1) (by omega) (by omega) (by omega) (by omega)
theorem span_f (l : List Int) (hl : l.length ≤ 9223372036854775807) : leb_span.f (l.length + 1) l = some (spanF 0 l) := by
  unfold leb_span.f
  exact span_plain l hl l.length (l.length + 1) 0 (by omega) (by omega) (by omega) (by omega)
theorem or128 {x : Int} (h0 : 0 ≤ x) (h1 : x < 256) : bits .or .u8 x 128 = 128 + x % 128 := by
  obtain ⟨n, rfl⟩ := Int.eq_ofNat_of_zero_le h0
  have hn : n < 256 := by omega
  have : ∀ n : Fin 256, bits .or .u8 ((n.1 : Nat) : Int) 128 = 128 + ((n.1 : Nat) : Int) % 128 := by decide +kernel
  exact this ⟨n, hn⟩
theorem U_plain : ∀ (f k n : Nat) (out : List Int), n < 128 ^ (f + 1) → f < k → out.length + f < 1000 → leb_U.l0 k n out = some (out ++ ubF f n)
  | 0, k, n, out, hn, hk, ho => by
    obtain ⟨k, rfl⟩ : ∃ m, k = m + 1 := ⟨k - 1, by omega⟩
    simp only [leb_U.l0, ubF]
    rw [if_neg (by omega), if_pos (by omega)]
    have e : (n : Int) % 256 = n := by omega
    rw [e]
  | f + 1, k, n, out, hn, hk, ho => by
    obtain ⟨k, rfl⟩ : ∃ m, k = m + 1 := ⟨k - 1, by omega⟩
    simp only [leb_U.l0, ubF]
    by_cases h : n < 128
    · rw [if_neg (by omega), if_pos (by omega), if_pos h]
      have e : (n : Int) % 256 = n := by omega
      rw [e]
    · rw [if_pos (by omega), if_pos (by omega), if_neg h, or128 (by omega) (by omega)]
      have e1 : (n : Int) / 128 = ((n / 128 : Nat) : Int) := by omega
      have e2 : (128 : Int) + (n : Int) % 256 % 128 = ((128 + n % 128 : Nat) : Int) := by omega
      rw [e1, e2, U_plain f k (n / 128) _ (by rw [Nat.pow_succ] at hn; omega) (by omega) (by simp; omega)]
      simp
theorem U_f (n : Nat) (hn : n < 2 ^ 64) : leb_U.f 10 n = some (ub n) := by
  unfold leb_U.f ub
  have := U_plain 9 10 n [] (by omega) (by omega) (by simp)
  simpa using this
/-! ### the calls -/
theorem U_calls (n : Nat) (hn : n < 2 ^ 64) (w : World) : Calls Try.prog 59 #[.int .u64 n] w fun e w' => ∃ v0_ : Value, e = .returned v0_ ∧ Kd.R (Kd.int .u8) 5 w' w.heap.size (fun _ => True) v0_ (ub n) ∧ Below w.heap.size w w' :=
  leb_U.calls 10 n (ub n) w (U_f n hn)
theorem span_calls (A0 : Option Addr) (c0 : Nat) (l0 : List Int) (w : World) (hr0 : Kd.C (Kd.int .u8) w A0 l0.length l0) (hc0 : l0.length ≤ c0) (hl : l0.length ≤ 9223372036854775807) :
    Calls Try.prog 100 #[.slice A0 l0.length c0] w fun e w' => e = .returned (.tuple #[.int .i64 (spanF 0 l0).1, .int .i64 (spanF 0 l0).2]) ∧ Drawn0 w w' :=
  leb_span.calls _ A0 c0 l0 _ _ w hr0 hc0 (span_f l0 hl)

def acc (l : List Int) (i : Nat) : Int := ((val7 (l.take i) % 2 ^ 64 : Nat) : Int)
theorem getU_step {l : List Int} (hb : By l) (i : Nat) (hi : i < l.length) (h9 : i ≤ 9) :
    bits .or .u64 (acc l i) (IntKind.u64.wrap (IntKind.u64.wrap (bits .and .u8 (l[i]?.getD 0) 127) * 2 ^ (7 * i))) = acc l (i + 1) := by
  have hx := hb.get i
  rw [List.getD_eq_getElem?_getD] at hx
  have hxi : l[i]?.getD 0 = l[i] := by simp [hi]
  rw [and127 hx.1 hx.2, hxi]
  rw [hxi] at hx
  obtain ⟨x, hxe⟩ := Int.eq_ofNat_of_zero_le hx.1
  unfold acc
  rw [List.take_succ_eq_append_getElem hi, val7_app, hxe]
  have hn := val7_lt (l.take i)
  have hlen : (l.take i).length = i := by simp; omega
  rw [hlen] at hn ⊢
  generalize val7 (l.take i) = n at *
  have h128 : (128 : Nat) ^ i = 2 ^ (7 * i) := by rw [show (128 : Nat) = 2 ^ 7 from rfl, ← Nat.pow_mul]
  rw [h128] at hn ⊢
  have hp63 : (2 : Nat) ^ (7 * i) ≤ 2 ^ 63 := Nat.pow_le_pow_right (by decide) (by omega)
  have e1 : n % 2 ^ 64 = n := Nat.mod_eq_of_lt (by omega)
  rw [e1]
  have e2 : IntKind.u64.wrap ((x : Int) % 128) = ((x % 128 : Nat) : Int) := by rw [wrap_u64]; omega
  rw [e2]
  have hv : val7 [(x : Int)] = x % 128 := by simp [val7]
  rw [hv]
  generalize x % 128 = d
  have hsplit : (2 : Nat) ^ 64 = 2 ^ (64 - 7 * i) * 2 ^ (7 * i) := by rw [← Nat.pow_add]; congr 1; omega
  have e3 : IntKind.u64.wrap ((d : Int) * 2 ^ (7 * i)) = ((d % 2 ^ (64 - 7 * i) * 2 ^ (7 * i) : Nat) : Int) := by
    rw [wrap_u64]
    have : (d : Int) * 2 ^ (7 * i) = ((d * 2 ^ (7 * i) : Nat) : Int) := by simp
    rw [this, show (18446744073709551616 : Int) = ((2 ^ 64 : Nat) : Int) from by decide, ← Int.natCast_emod]
    rw [hsplit, Nat.mul_mod_mul_right]
  have hm : d % 2 ^ (64 - 7 * i) * 2 ^ (7 * i) < 2 ^ 64 := by
    conv => rhs; rw [hsplit]
    exact Nat.mul_lt_mul_of_pos_right (Nat.mod_lt _ (Nat.two_pow_pos _)) (Nat.two_pow_pos _)
  rw [e3, or_add_u64 hn hm (by omega)]
  congr 1
  have hm2 : d % 2 ^ (64 - 7 * i) * 2 ^ (7 * i) + 2 ^ (7 * i) ≤ 2 ^ 64 := by
    have : d % 2 ^ (64 - 7 * i) + 1 ≤ 2 ^ (64 - 7 * i) := Nat.mod_lt _ (Nat.two_pow_pos _)
    have := Nat.mul_le_mul_right (2 ^ (7 * i)) this
    rw [Nat.add_mul, ← hsplit, Nat.one_mul] at this
    exact this
  have hq : d * 2 ^ (7 * i) % 2 ^ 64 = d % 2 ^ (64 - 7 * i) * 2 ^ (7 * i) := by
    conv => lhs; rw [hsplit]
    exact Nat.mul_mod_mul_right _ _ _
  generalize d % 2 ^ (64 - 7 * i) * 2 ^ (7 * i) = a at *
  generalize 2 ^ (7 * i) = q at *
  rw [Nat.mul_comm q d, Nat.add_mod, hq, e1, Nat.add_comm, Nat.mod_eq_of_lt (by omega)]
theorem GetU_ok (l : List Int) (k : Nat) (hs : spanF 0 l = ((k : Int), 0)) (h1 : (ub (val7 (l.take k) % 2 ^ 64)).length = k) (h2 : ¬ (k = 10 ∧ l.getD 9 0 > 1)) : getU l = (acc l k, (k : Int), 0) := by
  unfold getU
  simp only [hs, if_true, Int.toNat_natCast]
  rw [if_neg (by rintro (h | h); exact h h1; exact h2 h)]
  rfl
theorem GetU_bad (l : List Int) (k : Nat) (hs : spanF 0 l = ((k : Int), 0)) (h : (ub (val7 (l.take k) % 2 ^ 64)).length ≠ k ∨ k = 10 ∧ l.getD 9 0 > 1) : getU l = (0, 0, 3) := by
  unfold getU
  simp only [hs, if_true, Int.toNat_natCast]
  rw [if_pos h]
theorem GetU_err (l : List Int) (e : Int) (h2 : (spanF 0 l).2 ≠ 0) : getU l = (0, 0, (spanF 0 l).2) := by
  unfold getU
  simp only [if_neg h2]
theorem ret3 {a b c d e f : Int} (h : (a, b, c) = (d, e, f)) : Ending.returned (.tuple #[.int .u64 a, .int .i64 b, .int .i64 c]) = Ending.returned (.tuple #[.int .u64 d, .int .i64 e, .int .i64 f]) := by
  simp only [Prod.mk.injEq] at h
  obtain ⟨rfl, rfl, rfl⟩ := h
  rfl
set_option maxHeartbeats 400000 in
theorem GetU_calls (A0 : Option Addr) (c0 : Nat) (l0 : List Int) (w : World) (hr0 : Kd.C (Kd.int .u8) w A0 l0.length l0) (hc0 : l0.length ≤ c0) (hl : l0.length ≤ 9223372036854775807) (hb : By l0) :
    Calls Try.prog 61 #[.slice A0 l0.length c0] w fun e w' => e = .returned (.tuple #[.int .u64 (getU l0).1, .int .i64 (getU l0).2.1, .int .i64 (getU l0).2.2]) ∧ Below w.heap.size w w' := by
  rcases spanF_spec l0 0 (by omega) with ⟨k, h1, h2, h3, h4, h5⟩ | ⟨h1, h2⟩
  · have hs : spanF 0 l0 = ((k : Int), 0) := Prod.ext (by rw [h1]; simp) h2
    have hcall : ∀ W, Kd.C (Kd.int .u8) W A0 l0.length l0 → Calls Try.prog 100 #[.slice A0 l0.length c0] W fun e w' => e = .returned (.tuple #[.int .i64 (k : Int), .int .i64 0]) ∧ Drawn0 W w' := fun W hW => by
      have := span_calls _ _ _ W hW hc0 hl
      rw [hs] at this
      exact this
    have HU : ∀ W : World, Calls Try.prog 59 #[.int .u64 (acc l0 k)] W fun e w' => ∃ v0_ : Value, e = .returned v0_ ∧ Kd.R (Kd.int .u8) 5 w' W.heap.size (fun _ => True) v0_ (ub (val7 (l0.take k) % 2 ^ 64)) ∧ Below W.heap.size W w' := fun W => U_calls _ (Nat.mod_lt _ (by decide)) W
    have hok := GetU_ok l0 k hs
    have hbad := GetU_bad l0 k hs
    generalize ub (val7 (l0.take k) % 2 ^ 64) = u at *
    obtain ⟨m, hm⟩ : ∃ m, m = u.length := ⟨_, rfl⟩
    rw [← hm] at hok hbad
    have Hok := Lib.hid hok
    have Hbad := Lib.hid hbad
    have Hm := Lib.hid hm
    obtain ⟨ad, rfl, hcell⟩ := (Kd.reads_of_C (d := (0 : Int)) hr0).2.2 (by omega)
    clear hs h1 h2 hok hbad hm
    go_enter Try.func61, Try.ntmps61
    go_wp2_with (go_at_call 100; refine (hcall _ hr0).mono ?_; rintro e w' ⟨rfl, ⟨nd, rfl⟩⟩)
    clear hcall
    go_loop [7, 22] (fun v7 v22 => ∃ i : Nat, i ≤ k ∧ v22 = .int .i64 i ∧ v7 = .int .u64 (acc l0 i)) (fun _ v22 => k - (intOf v22).toNat)
    case atStart => exact ⟨0, Nat.zero_le _, rfl, rfl⟩
    case round =>
      obtain ⟨i, hi, rfl, rfl⟩ := hrel
      by_cases hlt : i < k
      · have hc := hcell i (by omega)
        go_wp2
        go_round
        case rel => exact ⟨i + 1, by omega, by go_num, by rw [getU_step hb i (by omega) (by omega)]⟩
        case measure => simp [intOf]; omega
      · obtain rfl : i = k := by omega
        by_cases h10 : i = 10
        · subst h10
          have hc : w.cell? ⟨ad.block, ad.off + 9, none⟩ = some (.int .u8 (l0.getD 9 0)) := by simpa [Addr.add] using hcell 9 (by omega)
          have hz := hb.get 9
          clear hcell
          generalize l0.getD 9 0 = z at *
          go_wp2_with (go_at_call 59; refine (HU _).mono ?_; rintro e w' ⟨v0, rfl, hR, hB⟩; obtain ⟨A1, c1, rfl⟩ := Kd.R_slice hR; have hc1 := pw_cell_below hB hc)
          all_goals go_ret3
          all_goals
            have hq : u.length = 10 ∨ u.length ≠ 10 := by omega
            have hq2 : z > 1 ∨ ¬ (z > 1) := by omega
            rcases hq with hq | hq <;> rcases hq2 with hq2 | hq2
            all_goals first
              | (exfalso; omega)
              | exact ⟨ret3 (Hok.out (Hm.out.trans hq) (fun h => hq2 h.2)).symm, bdn hB⟩
              | exact ⟨ret3 (Hbad.out (.inl (fun h => hq (Hm.out.symm.trans h)))).symm, bdn hB⟩
              | exact ⟨ret3 (Hbad.out (.inr ⟨by first | exact rfl | exact trivial, hq2⟩)).symm, bdn hB⟩
        · clear hcell
          go_wp2_with (go_at_call 59; refine (HU _).mono ?_; rintro e w' ⟨v0, rfl, hR, hB⟩; obtain ⟨A1, c1, rfl⟩ := Kd.R_slice hR)
          all_goals go_ret3
          all_goals
            have hq : u.length = i ∨ u.length ≠ i := by omega
            rcases hq with hq | hq
            all_goals first
              | (exfalso; omega)
              | exact ⟨ret3 (Hok.out (Hm.out.trans hq) (fun h => h10 h.1)).symm, bdn hB⟩
              | exact ⟨ret3 (Hbad.out (.inl (fun h => hq (Hm.out.symm.trans h)))).symm, bdn hB⟩
  · have hcall : ∀ W, Kd.C (Kd.int .u8) W A0 l0.length l0 → Calls Try.prog 100 #[.slice A0 l0.length c0] W fun e w' => e = .returned (.tuple #[.int .i64 (spanF 0 l0).1, .int .i64 (spanF 0 l0).2]) ∧ Drawn0 W w' := fun W hW => span_calls _ _ _ W hW hc0 hl
    have he := GetU_err l0 (spanF 0 l0).2 (by omega)
    generalize spanF 0 l0 = s at *
    obtain ⟨s1, s2⟩ := s
    have He := Lib.hid he
    clear he
    have hne : (s2 != 0) = true := by simp at h2 ⊢; omega
    have H2 := Lib.hid h2
    have H1 := Lib.hid h1
    clear h1 h2
    go_enter Try.func61, Try.ntmps61
    go_wp2_with (go_at_call 100; refine (hcall _ hr0).mono ?_; rintro e w' ⟨rfl, ⟨nd, rfl⟩⟩)
    go_ret3
    exact ⟨ret3 He.out.symm, pw_below_drewN (Below.refl _ _) nd⟩
end Go.Proofs.Ytamihmofmjkfoaa.X
