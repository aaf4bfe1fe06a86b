-- By myprint.py, out of the translation, by way of the kit's print.
import Derived.Test.YtamihmofmjkfoaaQ0
namespace Go.Proofs.Ytamihmofmjkfoaa.Q
open Go.RowKit Go.Proofs.YtamihmofmjkfoaaW.PrintWords Go.Proofs.YtamihmofmjkfoaaW.PrintLast Go.Proofs.YtamihmofmjkfoaaW.PrintMore
attribute [local go_sem] max2_int min2_int max_two min_two max_three min_three max_four min_four   -- for this text's walks alone
set_option linter.unusedVariables false
set_option linter.unusedSimpArgs false

/-! ### leb_span: function 100 -/
def leb_span.l0 : Nat → List Int → Int → Int → Option (Int × Int)
  | 0, _, _, _ => none
  | k + 1, x6, x7, x8 => if x8 < x7 then (if 0 ≤ x8 then (if x8 < (x6.length : Int) then (if (rd x6 x8) < 128 then (some (wrap64 (x8 + 1), 0)) else (if x8 = 9 then (some (0, 3)) else (leb_span.l0 k x6 x7 (wrap64 (x8 + 1))))) else (none)) else (none)) else (some (0, 2))
def leb_span.f (k : Nat) (l0 : List Int) : Option (Int × Int) := leb_span.l0 k l0 (l0.length : Int) 0
theorem leb_span.mono_l : ∀ k, (∀ y0 y1 y2, LeO (leb_span.l0 k y0 y1 y2) (leb_span.l0 (k + 1) y0 y1 y2))
  | 0 => fun _ _ _ r h => by simp [leb_span.l0] at h
  | k + 1 => by
    have ih0 := leb_span.mono_l k
    · intro y0 y1 y2
      unfold leb_span.l0
      repeat' first
      | (with_reducible exact ih0 _ _ _)
      | (with_reducible exact LeO.refl _)
      | (with_reducible exact LeO.none _)
      | (with_reducible refine LeO.ite ?_ ?_)
      | (with_reducible refine LeO.bind ?_ (fun _ => ?_))
      | exact ih0 _ _ _
      | exact LeO.none _
      | refine LeO.ite ?_ ?_
      | refine LeO.bind ?_ (fun _ => ?_)
theorem leb_span.mono : ∀ a0 k, LeO (leb_span.f k a0) (leb_span.f (k + 1) a0) := by
  intro a0 k
  have ih0 := leb_span.mono_l k
  unfold leb_span.f
  repeat' first
      | (with_reducible exact ih0 _ _ _)
      | (with_reducible exact LeO.refl _)
      | (with_reducible exact LeO.none _)
      | (with_reducible refine LeO.ite ?_ ?_)
      | (with_reducible refine LeO.bind ?_ (fun _ => ?_))
      | exact ih0 _ _ _
      | exact LeO.none _
      | refine LeO.ite ?_ ?_
      | refine LeO.bind ?_ (fun _ => ?_)
set_option maxHeartbeats 8000000 in
set_option maxRecDepth 100000 in
theorem leb_span.calls (k : Nat) (A0 : Option Addr) (c0 : Nat) (l0 : List Int) (r1 : Int) (r2 : Int) (w : World) (hr0 : Kd.C (Kd.int .u8) w A0 l0.length l0) (hc0 : l0.length ≤ c0) (h : leb_span.f k l0 = some (r1, r2)) :
    Calls Try.prog 100 #[.slice A0 l0.length c0] w fun e w' => e = .returned (.tuple #[.int .i64 r1, .int .i64 r2]) ∧ Drawn0 w w' := by
  have HR0 := Aside0.mk hr0
  have HC0 := Aside0.mk hc0
  clear hr0 hc0
  have H : (leb_span.l0 k l0 (l0.length : Int) 0) = some (r1, r2) := h
  clear h
  have H' := Aside0.mk H
  clear H
  go_enter Try.func100, Try.ntmps100
  go_wp2
  go_loopg [8] k (fun kq v8 w' => ∃ (x8_1 : Int), v8 = .int .i64 x8_1 ∧ Aside0 (leb_span.l0 kq l0 (l0.length : Int) x8_1 = some (r1, r2)) ∧ Aside0 (kq ≤ k) ∧ Drawn0 w w')
  case atStart => exact ⟨(0), (by first | rfl | (simp; done) | (simp [*]; done)), H', ⟨Nat.le_refl _⟩, by repeat (first | exact Drawn0.refl _ | apply Drawn0.step)⟩
  case round =>
    clear H'
    try clear c1
    obtain ⟨x8_1, rfl, HA, HK1, ⟨m1, rfl⟩⟩ := hrel
    cases gk with
    | zero => exact absurd HA.out (by simp [leb_span.l0])
    | succ k1 =>
      have H := HA.out
      clear HA
      simp only [leb_span.l0] at H
      by_cases c2 : x8_1 < (l0.length : Int)
      · rw [if_pos c2] at H
        have c2b0 : decide (x8_1 < (l0.length : Int)) = true := decide_eq_true c2
        clear c2
        by_cases c3 : 0 ≤ x8_1
        · rw [if_pos c3] at H
          have c3b0 : decide (0 ≤ x8_1) = true := decide_eq_true c3
          clear c3
          by_cases c4 : x8_1 < (l0.length : Int)
          · rw [if_pos c4] at H
            have c4b0 : decide (x8_1 < (l0.length : Int)) = true := decide_eq_true c4
            clear c4
            by_cases c5 : (rd l0 x8_1) < 128
            · rw [if_pos c5] at H
              have c5b0 : decide ((rd l0 x8_1) < 128) = true := decide_eq_true c5
              clear c5
              simp only [Option.some.injEq, Prod.mk.injEq] at H
              obtain ⟨rfl, rfl⟩ := H
              have p215 : 0 ≤ (x8_1 : Int) := of_decide_eq_true (by first | (with_reducible assumption) | assumption)
              have q215 : x8_1 < (l0.length : Int) := of_decide_eq_true (by first | (with_reducible assumption) | assumption)
              obtain ⟨ad215, e215, hx215_0⟩ := Kd.at_int HR0.out x8_1 p215 q215
              cases e215
              replace p215 := eq_true p215
              replace q215 := eq_true q215
              go_wp2
              go_ret2
              exact ⟨by first | rfl | (simp; done) | (simp [*]; done), by repeat (first | exact Drawn0.refl _ | apply Drawn0.step)⟩
            · rw [if_neg c5] at H
              have c5b0 : decide ((rd l0 x8_1) < 128) = false := decide_eq_false c5
              clear c5
              by_cases c6 : x8_1 = 9
              · rw [if_pos c6] at H
                have c6b0 : (x8_1 == 9) = true := beq_iff_eq.mpr c6
                have c6b1 : (x8_1 != 9) = false := bne_eq_false_iff_eq.mpr c6
                clear c6
                simp only [Option.some.injEq, Prod.mk.injEq] at H
                obtain ⟨rfl, rfl⟩ := H
                have p215 : 0 ≤ (x8_1 : Int) := of_decide_eq_true (by first | (with_reducible assumption) | assumption)
                have q215 : x8_1 < (l0.length : Int) := of_decide_eq_true (by first | (with_reducible assumption) | assumption)
                obtain ⟨ad215, e215, hx215_0⟩ := Kd.at_int HR0.out x8_1 p215 q215
                cases e215
                replace p215 := eq_true p215
                replace q215 := eq_true q215
                go_wp2
                go_ret2
                exact ⟨by first | rfl | (simp; done) | (simp [*]; done), by repeat (first | exact Drawn0.refl _ | apply Drawn0.step)⟩
              · rw [if_neg c6] at H
                have c6b0 : (x8_1 == 9) = false := beq_eq_false_iff_ne.mpr c6
                have c6b1 : (x8_1 != 9) = true := bne_iff_ne.mpr c6
                have H' := Aside0.mk H
                clear H
                have p215 : 0 ≤ (x8_1 : Int) := of_decide_eq_true (by first | (with_reducible assumption) | assumption)
                have q215 : x8_1 < (l0.length : Int) := of_decide_eq_true (by first | (with_reducible assumption) | assumption)
                obtain ⟨ad215, e215, hx215_0⟩ := Kd.at_int HR0.out x8_1 p215 q215
                cases e215
                replace p215 := eq_true p215
                replace q215 := eq_true q215
                go_wp2
                go_roundg k1
                case measure => have := HK1.out; omega
                case rel => exact ⟨(wrap64 (x8_1 + 1)), (by first | rfl | (simp; done) | (simp [*]; done)), H', ⟨by have := HK1.out; omega⟩, by repeat (first | exact Drawn0.refl _ | apply Drawn0.step)⟩
          · rw [if_neg c4] at H
            exact absurd H (by simp)
        · rw [if_neg c3] at H
          exact absurd H (by simp)
      · rw [if_neg c2] at H
        have c2b0 : decide (x8_1 < (l0.length : Int)) = false := decide_eq_false c2
        clear c2
        simp only [Option.some.injEq, Prod.mk.injEq] at H
        obtain ⟨rfl, rfl⟩ := H
        go_wp2
        go_ret2
        exact ⟨by first | rfl | (simp; done) | (simp [*]; done), by repeat (first | exact Drawn0.refl _ | apply Drawn0.step)⟩

end Go.Proofs.Ytamihmofmjkfoaa.Q
