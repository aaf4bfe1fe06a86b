-- By myprint.py, out of the translation, by way of the kit's print.
import Derived.Test.YtamihmofmjkfoaaQ0
namespace Go.Proofs.Ytamihmofmjkfoaa.Q
open Go.RowKit Go.Proofs.YtamihmofmjkfoaaW.PrintWords Go.Proofs.YtamihmofmjkfoaaW.PrintLast Go.Proofs.YtamihmofmjkfoaaW.PrintMore
attribute [local go_sem] max2_int min2_int max_two min_two max_three min_three max_four min_four   -- for this text's walks alone
set_option linter.unusedVariables false
set_option linter.unusedSimpArgs false

/-! ### inkwellref17_Few: function 15 -/
mutual
def inkwellref17_Few.l0 : Nat → List (S44) → Int → Option (Bool)
  | 0, _, _ => none
  | k + 1, x0, x5 => if x5 < (x0.length : Int) then (if 0 ≤ x5 then (if (((rd_T44 x0 x5).f7).length : Int) > 40 then (inkwellref17_Few.j1 k x0 x5 true) else (if (((rd_T44 x0 x5).f1).size : Int) > 5000 then (inkwellref17_Few.j1 k x0 x5 true) else (if (((rd_T44 x0 x5).f6.f3).size : Int) > 5000 then (inkwellref17_Few.j1 k x0 x5 true) else (if (((rd_T44 x0 x5).f0.f1).size : Int) > 100 then (inkwellref17_Few.j1 k x0 x5 true) else (inkwellref17_Few.j1 k x0 x5 (decide ((((rd_T44 x0 x5).f3.f1).size : Int) > 100))))))) else (none)) else (some true)
def inkwellref17_Few.j1 : Nat → List (S44) → Int → Bool → Option (Bool)
  | 0, _, _, _ => none
  | k + 1, x0, x5, x62 => if x62 = true then (some false) else (inkwellref17_Few.l1 k x0 x5 0)
def inkwellref17_Few.l1 : Nat → List (S44) → Int → Int → Option (Bool)
  | 0, _, _, _ => none
  | k + 1, x0, x5, x6 => if 0 ≤ x5 then (if x5 < (x0.length : Int) then (if x6 < (((rd_T44 x0 x5).f7).length : Int) then (if 0 ≤ x6 then (if (((rd_T38 ((rd_T44 x0 x5).f7) x6).f1).size : Int) > 100 then (some false) else (inkwellref17_Few.l1 k x0 x5 (wrap64 (x6 + 1)))) else (none)) else (inkwellref17_Few.l0 k x0 (wrap64 (x5 + 1)))) else (none)) else (none)
end
def inkwellref17_Few.f (k : Nat) (l0 : List (S44)) (a1 : Int) : Option (Bool) := if (l0.length : Int) > a1 then (some false) else (inkwellref17_Few.l0 k l0 0)
theorem inkwellref17_Few.mono_l : ∀ k, (∀ y0 y1, LeO (inkwellref17_Few.l0 k y0 y1) (inkwellref17_Few.l0 (k + 1) y0 y1)) ∧ (∀ y0 y1 y2, LeO (inkwellref17_Few.j1 k y0 y1 y2) (inkwellref17_Few.j1 (k + 1) y0 y1 y2)) ∧ (∀ y0 y1 y2, LeO (inkwellref17_Few.l1 k y0 y1 y2) (inkwellref17_Few.l1 (k + 1) y0 y1 y2))
  | 0 => ⟨fun _ _ r h => by simp [inkwellref17_Few.l0] at h, fun _ _ _ r h => by simp [inkwellref17_Few.j1] at h, fun _ _ _ r h => by simp [inkwellref17_Few.l1] at h⟩
  | k + 1 => by
    obtain ⟨ih0, ih1, ih2⟩ := inkwellref17_Few.mono_l k
    refine ⟨?_, ?_, ?_⟩
    · intro y0 y1
      unfold inkwellref17_Few.l0
      repeat' first
      | (with_reducible exact ih0 _ _)
      | (with_reducible exact ih1 _ _ _)
      | (with_reducible exact ih2 _ _ _)
      | (with_reducible exact LeO.refl _)
      | (with_reducible exact LeO.none _)
      | (with_reducible refine LeO.ite ?_ ?_)
      | (with_reducible refine LeO.bind ?_ (fun _ => ?_))
      | exact ih0 _ _
      | exact ih1 _ _ _
      | exact ih2 _ _ _
      | exact LeO.none _
      | refine LeO.ite ?_ ?_
      | refine LeO.bind ?_ (fun _ => ?_)
    · intro y0 y1 y2
      unfold inkwellref17_Few.j1
      repeat' first
      | (with_reducible exact ih0 _ _)
      | (with_reducible exact ih1 _ _ _)
      | (with_reducible exact ih2 _ _ _)
      | (with_reducible exact LeO.refl _)
      | (with_reducible exact LeO.none _)
      | (with_reducible refine LeO.ite ?_ ?_)
      | (with_reducible refine LeO.bind ?_ (fun _ => ?_))
      | exact ih0 _ _
      | exact ih1 _ _ _
      | exact ih2 _ _ _
      | exact LeO.none _
      | refine LeO.ite ?_ ?_
      | refine LeO.bind ?_ (fun _ => ?_)
    · intro y0 y1 y2
      unfold inkwellref17_Few.l1
      repeat' first
      | (with_reducible exact ih0 _ _)
      | (with_reducible exact ih1 _ _ _)
      | (with_reducible exact ih2 _ _ _)
      | (with_reducible exact LeO.refl _)
      | (with_reducible exact LeO.none _)
      | (with_reducible refine LeO.ite ?_ ?_)
      | (with_reducible refine LeO.bind ?_ (fun _ => ?_))
      | exact ih0 _ _
      | exact ih1 _ _ _
      | exact ih2 _ _ _
      | exact LeO.none _
      | refine LeO.ite ?_ ?_
      | refine LeO.bind ?_ (fun _ => ?_)
theorem inkwellref17_Few.mono : ∀ a0 a1 k, LeO (inkwellref17_Few.f k a0 a1) (inkwellref17_Few.f (k + 1) a0 a1) := by
  intro a0 a1 k
  obtain ⟨ih0, ih1, ih2⟩ := inkwellref17_Few.mono_l k
  unfold inkwellref17_Few.f
  repeat' first
      | (with_reducible exact ih0 _ _)
      | (with_reducible exact ih1 _ _ _)
      | (with_reducible exact ih2 _ _ _)
      | (with_reducible exact LeO.refl _)
      | (with_reducible exact LeO.none _)
      | (with_reducible refine LeO.ite ?_ ?_)
      | (with_reducible refine LeO.bind ?_ (fun _ => ?_))
      | exact ih0 _ _
      | exact ih1 _ _ _
      | exact ih2 _ _ _
      | exact LeO.none _
      | refine LeO.ite ?_ ?_
      | refine LeO.bind ?_ (fun _ => ?_)
set_option maxHeartbeats 8000000 in
set_option maxRecDepth 100000 in
theorem inkwellref17_Few.calls (k : Nat) (A0 : Option Addr) (c0 : Nat) (l0 : List (S44)) (a1 : Int) (r : Bool) (w : World) (hr0 : Kd.C k44 w A0 l0.length l0) (hc0 : l0.length ≤ c0) (h : inkwellref17_Few.f k l0 a1 = some r) :
    Calls Try.prog 15 #[.slice A0 l0.length c0, .int .i64 a1] w fun e w' => e = .returned (.bool r) ∧ Drawn0 w w' := by
  have HR0 := Aside0.mk hr0
  have HC0 := Aside0.mk hc0
  clear hr0 hc0
  have H : (if (l0.length : Int) > a1 then (some false) else (inkwellref17_Few.l0 k l0 0)) = some r := h
  clear h
  by_cases c3 : (l0.length : Int) > a1
  · rw [if_pos c3] at H
    have c3b0 : decide (a1 < (l0.length : Int)) = true := decide_eq_true c3
    clear c3
    obtain rfl := Option.some.inj H
    go_enter Try.func15, Try.ntmps15
    go_wp2
    go_ret
    exact ⟨by first | rfl | (simp; done) | (simp [*]; done), by repeat (first | exact Drawn0.refl _ | apply Drawn0.step)⟩
  · rw [if_neg c3] at H
    have c3b0 : decide (a1 < (l0.length : Int)) = false := decide_eq_false c3
    clear c3
    have H' := Aside0.mk H
    clear H
    go_enter Try.func15, Try.ntmps15
    go_wp2
    go_loopg [5] k (fun kq v5 w' => ∃ (x5_1 : Int), v5 = .int .i64 x5_1 ∧ Aside0 (inkwellref17_Few.l0 kq l0 x5_1 = some r) ∧ Aside0 (kq ≤ k) ∧ Drawn0 w w')
    case atStart => exact ⟨(0), (by first | rfl | (simp; done) | (simp [*]; done)), H', ⟨Nat.le_refl _⟩, by repeat (first | exact Drawn0.refl _ | apply Drawn0.step)⟩
    case round =>
      clear H'
      try clear c1
      try clear p2
      try clear c3
      try clear c3b0
      obtain ⟨x5_1, rfl, HA, HK1, ⟨m1, rfl⟩⟩ := hrel
      cases gk with
      | zero => exact absurd HA.out (by simp [inkwellref17_Few.l0])
      | succ k1 =>
        have H := HA.out
        clear HA
        simp only [inkwellref17_Few.l0] at H
        by_cases c4 : x5_1 < (l0.length : Int)
        · rw [if_pos c4] at H
          have c4b0 : decide (x5_1 < (l0.length : Int)) = true := decide_eq_true c4
          clear c4
          have HC5 := Aside0.mk H
          clear H
          go_upto_region 6 with (fail)
          go_cut [62] (fun v62 wc => ∃ (kq : Nat) (x62_4 : Bool), v62 = .bool x62_4 ∧ Aside0 (inkwellref17_Few.j1 kq l0 x5_1 x62_4 = some r) ∧ Aside0 (kq ≤ k1) ∧ Drawn0 w wc)
          case first =>
            have H := HC5.out
            clear HC5
            by_cases c6 : 0 ≤ x5_1
            · rw [if_pos c6] at H
              have c6b0 : decide (0 ≤ x5_1) = true := decide_eq_true c6
              clear c6
              (first | rw [c6b0] | (simp only [i64_w, i32_w]; rw [c6b0]) | skip)
              by_cases c7 : (((rd_T44 l0 x5_1).f7).length : Int) > 40
              · rw [if_pos c7] at H
                have c7b0 : decide (40 < (((rd_T44 l0 x5_1).f7).length : Int)) = true := decide_eq_true c7
                have c7b1 : decide (40 < ((rd_T44 l0 x5_1).f7).length) = true := decide_eq_true (by omega)
                clear c7
                have H' := Aside0.mk H
                clear H
                have p101 : 0 ≤ (x5_1 : Int) := of_decide_eq_true (by first | (with_reducible assumption) | assumption)
                have q101 : x5_1 < (l0.length : Int) := of_decide_eq_true (by first | (with_reducible assumption) | assumption)
                obtain ⟨ad101, A101_12, c101_12, e101, hx101_0, hx101_1, hx101_2, hx101_3, hx101_4, hx101_5, hx101_6, hx101_7, hx101_8, hx101_9, hx101_10, hx101_11, hx101_12, hl101_12, hi101_12⟩ := at_T44 HR0.out x5_1 p101 q101
                cases e101
                have HR101_12 := Aside0.mk hi101_12
                have HC101_12 := Aside0.mk hl101_12
                clear hi101_12 hl101_12
                replace p101 := eq_true p101
                replace q101 := eq_true q101
                go_wp2
                go_meet
                case rel => exact ⟨_, (true), (by first | rfl | (simp; done) | (simp [*]; done)), H', ⟨by have := HK1.out; first | omega | exact Nat.le_refl _⟩, by repeat (first | exact Drawn0.refl _ | apply Drawn0.step)⟩
              · rw [if_neg c7] at H
                have c7b0 : decide (40 < (((rd_T44 l0 x5_1).f7).length : Int)) = false := decide_eq_false c7
                have c7b1 : decide (40 < ((rd_T44 l0 x5_1).f7).length) = false := decide_eq_false (by omega)
                clear c7
                by_cases c8 : (((rd_T44 l0 x5_1).f1).size : Int) > 5000
                · rw [if_pos c8] at H
                  have c8b0 : decide (5000 < (((rd_T44 l0 x5_1).f1).size : Int)) = true := decide_eq_true c8
                  have c8b1 : decide (5000 < ((rd_T44 l0 x5_1).f1).size) = true := decide_eq_true (by omega)
                  clear c8
                  have H' := Aside0.mk H
                  clear H
                  have p101 : 0 ≤ (x5_1 : Int) := of_decide_eq_true (by first | (with_reducible assumption) | assumption)
                  have q101 : x5_1 < (l0.length : Int) := of_decide_eq_true (by first | (with_reducible assumption) | assumption)
                  obtain ⟨ad101, A101_12, c101_12, e101, hx101_0, hx101_1, hx101_2, hx101_3, hx101_4, hx101_5, hx101_6, hx101_7, hx101_8, hx101_9, hx101_10, hx101_11, hx101_12, hl101_12, hi101_12⟩ := at_T44 HR0.out x5_1 p101 q101
                  cases e101
                  have HR101_12 := Aside0.mk hi101_12
                  have HC101_12 := Aside0.mk hl101_12
                  clear hi101_12 hl101_12
                  replace p101 := eq_true p101
                  replace q101 := eq_true q101
                  have p102 : 0 ≤ (x5_1 : Int) := of_decide_eq_true (by first | (with_reducible assumption) | assumption)
                  have q102 : x5_1 < (l0.length : Int) := of_decide_eq_true (by first | (with_reducible assumption) | assumption)
                  obtain ⟨ad102, A102_12, c102_12, e102, hx102_0, hx102_1, hx102_2, hx102_3, hx102_4, hx102_5, hx102_6, hx102_7, hx102_8, hx102_9, hx102_10, hx102_11, hx102_12, hl102_12, hi102_12⟩ := at_T44 HR0.out x5_1 p102 q102
                  obtain rfl : ad101 = ad102 := (by injection e102)
                  have HR102_12 := Aside0.mk hi102_12
                  have HC102_12 := Aside0.mk hl102_12
                  clear hi102_12 hl102_12
                  replace p102 := eq_true p102
                  replace q102 := eq_true q102
                  have ea_ := Option.some.inj (hx101_12.symm.trans hx102_12)
                  injection ea_ with ea_ en_ ec_
                  subst ea_
                  subst ec_
                  clear en_
                  go_wp2
                  go_meet
                  case rel => exact ⟨_, (true), (by first | rfl | (simp; done) | (simp [*]; done)), H', ⟨by have := HK1.out; first | omega | exact Nat.le_refl _⟩, by repeat (first | exact Drawn0.refl _ | apply Drawn0.step)⟩
                · rw [if_neg c8] at H
                  have c8b0 : decide (5000 < (((rd_T44 l0 x5_1).f1).size : Int)) = false := decide_eq_false c8
                  have c8b1 : decide (5000 < ((rd_T44 l0 x5_1).f1).size) = false := decide_eq_false (by omega)
                  clear c8
                  by_cases c9 : (((rd_T44 l0 x5_1).f6.f3).size : Int) > 5000
                  · rw [if_pos c9] at H
                    have c9b0 : decide (5000 < (((rd_T44 l0 x5_1).f6.f3).size : Int)) = true := decide_eq_true c9
                    have c9b1 : decide (5000 < ((rd_T44 l0 x5_1).f6.f3).size) = true := decide_eq_true (by omega)
                    clear c9
                    have H' := Aside0.mk H
                    clear H
                    have p101 : 0 ≤ (x5_1 : Int) := of_decide_eq_true (by first | (with_reducible assumption) | assumption)
                    have q101 : x5_1 < (l0.length : Int) := of_decide_eq_true (by first | (with_reducible assumption) | assumption)
                    obtain ⟨ad101, A101_12, c101_12, e101, hx101_0, hx101_1, hx101_2, hx101_3, hx101_4, hx101_5, hx101_6, hx101_7, hx101_8, hx101_9, hx101_10, hx101_11, hx101_12, hl101_12, hi101_12⟩ := at_T44 HR0.out x5_1 p101 q101
                    cases e101
                    have HR101_12 := Aside0.mk hi101_12
                    have HC101_12 := Aside0.mk hl101_12
                    clear hi101_12 hl101_12
                    replace p101 := eq_true p101
                    replace q101 := eq_true q101
                    have p102 : 0 ≤ (x5_1 : Int) := of_decide_eq_true (by first | (with_reducible assumption) | assumption)
                    have q102 : x5_1 < (l0.length : Int) := of_decide_eq_true (by first | (with_reducible assumption) | assumption)
                    obtain ⟨ad102, A102_12, c102_12, e102, hx102_0, hx102_1, hx102_2, hx102_3, hx102_4, hx102_5, hx102_6, hx102_7, hx102_8, hx102_9, hx102_10, hx102_11, hx102_12, hl102_12, hi102_12⟩ := at_T44 HR0.out x5_1 p102 q102
                    obtain rfl : ad101 = ad102 := (by injection e102)
                    have HR102_12 := Aside0.mk hi102_12
                    have HC102_12 := Aside0.mk hl102_12
                    clear hi102_12 hl102_12
                    replace p102 := eq_true p102
                    replace q102 := eq_true q102
                    have ea_ := Option.some.inj (hx101_12.symm.trans hx102_12)
                    injection ea_ with ea_ en_ ec_
                    subst ea_
                    subst ec_
                    clear en_
                    have p103 : 0 ≤ (x5_1 : Int) := of_decide_eq_true (by first | (with_reducible assumption) | assumption)
                    have q103 : x5_1 < (l0.length : Int) := of_decide_eq_true (by first | (with_reducible assumption) | assumption)
                    obtain ⟨ad103, A103_12, c103_12, e103, hx103_0, hx103_1, hx103_2, hx103_3, hx103_4, hx103_5, hx103_6, hx103_7, hx103_8, hx103_9, hx103_10, hx103_11, hx103_12, hl103_12, hi103_12⟩ := at_T44 HR0.out x5_1 p103 q103
                    obtain rfl : ad101 = ad103 := (by injection e103)
                    have HR103_12 := Aside0.mk hi103_12
                    have HC103_12 := Aside0.mk hl103_12
                    clear hi103_12 hl103_12
                    replace p103 := eq_true p103
                    replace q103 := eq_true q103
                    have ea_ := Option.some.inj (hx101_12.symm.trans hx103_12)
                    injection ea_ with ea_ en_ ec_
                    subst ea_
                    subst ec_
                    clear en_
                    go_wp2
                    go_meet
                    case rel => exact ⟨_, (true), (by first | rfl | (simp; done) | (simp [*]; done)), H', ⟨by have := HK1.out; first | omega | exact Nat.le_refl _⟩, by repeat (first | exact Drawn0.refl _ | apply Drawn0.step)⟩
                  · rw [if_neg c9] at H
                    have c9b0 : decide (5000 < (((rd_T44 l0 x5_1).f6.f3).size : Int)) = false := decide_eq_false c9
                    have c9b1 : decide (5000 < ((rd_T44 l0 x5_1).f6.f3).size) = false := decide_eq_false (by omega)
                    clear c9
                    by_cases c10 : (((rd_T44 l0 x5_1).f0.f1).size : Int) > 100
                    · rw [if_pos c10] at H
                      have c10b0 : decide (100 < (((rd_T44 l0 x5_1).f0.f1).size : Int)) = true := decide_eq_true c10
                      have c10b1 : decide (100 < ((rd_T44 l0 x5_1).f0.f1).size) = true := decide_eq_true (by omega)
                      clear c10
                      have H' := Aside0.mk H
                      clear H
                      have p101 : 0 ≤ (x5_1 : Int) := of_decide_eq_true (by first | (with_reducible assumption) | assumption)
                      have q101 : x5_1 < (l0.length : Int) := of_decide_eq_true (by first | (with_reducible assumption) | assumption)
                      obtain ⟨ad101, A101_12, c101_12, e101, hx101_0, hx101_1, hx101_2, hx101_3, hx101_4, hx101_5, hx101_6, hx101_7, hx101_8, hx101_9, hx101_10, hx101_11, hx101_12, hl101_12, hi101_12⟩ := at_T44 HR0.out x5_1 p101 q101
                      cases e101
                      have HR101_12 := Aside0.mk hi101_12
                      have HC101_12 := Aside0.mk hl101_12
                      clear hi101_12 hl101_12
                      replace p101 := eq_true p101
                      replace q101 := eq_true q101
                      have p102 : 0 ≤ (x5_1 : Int) := of_decide_eq_true (by first | (with_reducible assumption) | assumption)
                      have q102 : x5_1 < (l0.length : Int) := of_decide_eq_true (by first | (with_reducible assumption) | assumption)
                      obtain ⟨ad102, A102_12, c102_12, e102, hx102_0, hx102_1, hx102_2, hx102_3, hx102_4, hx102_5, hx102_6, hx102_7, hx102_8, hx102_9, hx102_10, hx102_11, hx102_12, hl102_12, hi102_12⟩ := at_T44 HR0.out x5_1 p102 q102
                      obtain rfl : ad101 = ad102 := (by injection e102)
                      have HR102_12 := Aside0.mk hi102_12
                      have HC102_12 := Aside0.mk hl102_12
                      clear hi102_12 hl102_12
                      replace p102 := eq_true p102
                      replace q102 := eq_true q102
                      have ea_ := Option.some.inj (hx101_12.symm.trans hx102_12)
                      injection ea_ with ea_ en_ ec_
                      subst ea_
                      subst ec_
                      clear en_
                      have p103 : 0 ≤ (x5_1 : Int) := of_decide_eq_true (by first | (with_reducible assumption) | assumption)
                      have q103 : x5_1 < (l0.length : Int) := of_decide_eq_true (by first | (with_reducible assumption) | assumption)
                      obtain ⟨ad103, A103_12, c103_12, e103, hx103_0, hx103_1, hx103_2, hx103_3, hx103_4, hx103_5, hx103_6, hx103_7, hx103_8, hx103_9, hx103_10, hx103_11, hx103_12, hl103_12, hi103_12⟩ := at_T44 HR0.out x5_1 p103 q103
                      obtain rfl : ad101 = ad103 := (by injection e103)
                      have HR103_12 := Aside0.mk hi103_12
                      have HC103_12 := Aside0.mk hl103_12
                      clear hi103_12 hl103_12
                      replace p103 := eq_true p103
                      replace q103 := eq_true q103
                      have ea_ := Option.some.inj (hx101_12.symm.trans hx103_12)
                      injection ea_ with ea_ en_ ec_
                      subst ea_
                      subst ec_
                      clear en_
                      have p104 : 0 ≤ (x5_1 : Int) := of_decide_eq_true (by first | (with_reducible assumption) | assumption)
                      have q104 : x5_1 < (l0.length : Int) := of_decide_eq_true (by first | (with_reducible assumption) | assumption)
                      obtain ⟨ad104, A104_12, c104_12, e104, hx104_0, hx104_1, hx104_2, hx104_3, hx104_4, hx104_5, hx104_6, hx104_7, hx104_8, hx104_9, hx104_10, hx104_11, hx104_12, hl104_12, hi104_12⟩ := at_T44 HR0.out x5_1 p104 q104
                      obtain rfl : ad101 = ad104 := (by injection e104)
                      have HR104_12 := Aside0.mk hi104_12
                      have HC104_12 := Aside0.mk hl104_12
                      clear hi104_12 hl104_12
                      replace p104 := eq_true p104
                      replace q104 := eq_true q104
                      have ea_ := Option.some.inj (hx101_12.symm.trans hx104_12)
                      injection ea_ with ea_ en_ ec_
                      subst ea_
                      subst ec_
                      clear en_
                      go_wp2
                      go_meet
                      case rel => exact ⟨_, (true), (by first | rfl | (simp; done) | (simp [*]; done)), H', ⟨by have := HK1.out; first | omega | exact Nat.le_refl _⟩, by repeat (first | exact Drawn0.refl _ | apply Drawn0.step)⟩
                    · rw [if_neg c10] at H
                      have c10b0 : decide (100 < (((rd_T44 l0 x5_1).f0.f1).size : Int)) = false := decide_eq_false c10
                      have c10b1 : decide (100 < ((rd_T44 l0 x5_1).f0.f1).size) = false := decide_eq_false (by omega)
                      clear c10
                      have H' := Aside0.mk H
                      clear H
                      have p101 : 0 ≤ (x5_1 : Int) := of_decide_eq_true (by first | (with_reducible assumption) | assumption)
                      have q101 : x5_1 < (l0.length : Int) := of_decide_eq_true (by first | (with_reducible assumption) | assumption)
                      obtain ⟨ad101, A101_12, c101_12, e101, hx101_0, hx101_1, hx101_2, hx101_3, hx101_4, hx101_5, hx101_6, hx101_7, hx101_8, hx101_9, hx101_10, hx101_11, hx101_12, hl101_12, hi101_12⟩ := at_T44 HR0.out x5_1 p101 q101
                      cases e101
                      have HR101_12 := Aside0.mk hi101_12
                      have HC101_12 := Aside0.mk hl101_12
                      clear hi101_12 hl101_12
                      replace p101 := eq_true p101
                      replace q101 := eq_true q101
                      have p102 : 0 ≤ (x5_1 : Int) := of_decide_eq_true (by first | (with_reducible assumption) | assumption)
                      have q102 : x5_1 < (l0.length : Int) := of_decide_eq_true (by first | (with_reducible assumption) | assumption)
                      obtain ⟨ad102, A102_12, c102_12, e102, hx102_0, hx102_1, hx102_2, hx102_3, hx102_4, hx102_5, hx102_6, hx102_7, hx102_8, hx102_9, hx102_10, hx102_11, hx102_12, hl102_12, hi102_12⟩ := at_T44 HR0.out x5_1 p102 q102
                      obtain rfl : ad101 = ad102 := (by injection e102)
                      have HR102_12 := Aside0.mk hi102_12
                      have HC102_12 := Aside0.mk hl102_12
                      clear hi102_12 hl102_12
                      replace p102 := eq_true p102
                      replace q102 := eq_true q102
                      have ea_ := Option.some.inj (hx101_12.symm.trans hx102_12)
                      injection ea_ with ea_ en_ ec_
                      subst ea_
                      subst ec_
                      clear en_
                      have p103 : 0 ≤ (x5_1 : Int) := of_decide_eq_true (by first | (with_reducible assumption) | assumption)
                      have q103 : x5_1 < (l0.length : Int) := of_decide_eq_true (by first | (with_reducible assumption) | assumption)
                      obtain ⟨ad103, A103_12, c103_12, e103, hx103_0, hx103_1, hx103_2, hx103_3, hx103_4, hx103_5, hx103_6, hx103_7, hx103_8, hx103_9, hx103_10, hx103_11, hx103_12, hl103_12, hi103_12⟩ := at_T44 HR0.out x5_1 p103 q103
                      obtain rfl : ad101 = ad103 := (by injection e103)
                      have HR103_12 := Aside0.mk hi103_12
                      have HC103_12 := Aside0.mk hl103_12
                      clear hi103_12 hl103_12
                      replace p103 := eq_true p103
                      replace q103 := eq_true q103
                      have ea_ := Option.some.inj (hx101_12.symm.trans hx103_12)
                      injection ea_ with ea_ en_ ec_
                      subst ea_
                      subst ec_
                      clear en_
                      have p104 : 0 ≤ (x5_1 : Int) := of_decide_eq_true (by first | (with_reducible assumption) | assumption)
                      have q104 : x5_1 < (l0.length : Int) := of_decide_eq_true (by first | (with_reducible assumption) | assumption)
                      obtain ⟨ad104, A104_12, c104_12, e104, hx104_0, hx104_1, hx104_2, hx104_3, hx104_4, hx104_5, hx104_6, hx104_7, hx104_8, hx104_9, hx104_10, hx104_11, hx104_12, hl104_12, hi104_12⟩ := at_T44 HR0.out x5_1 p104 q104
                      obtain rfl : ad101 = ad104 := (by injection e104)
                      have HR104_12 := Aside0.mk hi104_12
                      have HC104_12 := Aside0.mk hl104_12
                      clear hi104_12 hl104_12
                      replace p104 := eq_true p104
                      replace q104 := eq_true q104
                      have ea_ := Option.some.inj (hx101_12.symm.trans hx104_12)
                      injection ea_ with ea_ en_ ec_
                      subst ea_
                      subst ec_
                      clear en_
                      have p105 : 0 ≤ (x5_1 : Int) := of_decide_eq_true (by first | (with_reducible assumption) | assumption)
                      have q105 : x5_1 < (l0.length : Int) := of_decide_eq_true (by first | (with_reducible assumption) | assumption)
                      obtain ⟨ad105, A105_12, c105_12, e105, hx105_0, hx105_1, hx105_2, hx105_3, hx105_4, hx105_5, hx105_6, hx105_7, hx105_8, hx105_9, hx105_10, hx105_11, hx105_12, hl105_12, hi105_12⟩ := at_T44 HR0.out x5_1 p105 q105
                      obtain rfl : ad101 = ad105 := (by injection e105)
                      have HR105_12 := Aside0.mk hi105_12
                      have HC105_12 := Aside0.mk hl105_12
                      clear hi105_12 hl105_12
                      replace p105 := eq_true p105
                      replace q105 := eq_true q105
                      have ea_ := Option.some.inj (hx101_12.symm.trans hx105_12)
                      injection ea_ with ea_ en_ ec_
                      subst ea_
                      subst ec_
                      clear en_
                      go_wp2
                      go_meet
                      case rel => exact ⟨_, (decide ((((rd_T44 l0 x5_1).f3.f1).size : Int) > 100)), (by first | rfl | (simp; done) | (simp [*]; done)), H', ⟨by have := HK1.out; first | omega | exact Nat.le_refl _⟩, by repeat (first | exact Drawn0.refl _ | apply Drawn0.step)⟩
            · rw [if_neg c6] at H
              exact absurd H (by simp)
          case rest =>
            clear HC5
            try clear c1
            try clear p1
            try clear q1
            try clear hx1
            try clear p2
            try clear c3
            try clear c3b0
            try clear c4
            try clear c4b0
            try clear c6
            try clear c6b0
            try clear c7
            try clear c7b0
            try clear c7b1
            try clear c8
            try clear c8b0
            try clear c8b1
            try clear c9
            try clear c9b0
            try clear c9b1
            try clear c10
            try clear c10b0
            try clear c10b1
            try clear p10
            try clear q10
            try clear hx10
            try clear hx101_0
            try clear hx101_1
            try clear hx101_10
            try clear hx101_11
            try clear hx101_12
            try clear hx101_2
            try clear hx101_3
            try clear hx101_4
            try clear hx101_5
            try clear hx101_6
            try clear hx101_7
            try clear hx101_8
            try clear hx101_9
            try clear hx102_0
            try clear hx102_1
            try clear hx102_10
            try clear hx102_11
            try clear hx102_12
            try clear hx102_2
            try clear hx102_3
            try clear hx102_4
            try clear hx102_5
            try clear hx102_6
            try clear hx102_7
            try clear hx102_8
            try clear hx102_9
            try clear hx103_0
            try clear hx103_1
            try clear hx103_10
            try clear hx103_11
            try clear hx103_12
            try clear hx103_2
            try clear hx103_3
            try clear hx103_4
            try clear hx103_5
            try clear hx103_6
            try clear hx103_7
            try clear hx103_8
            try clear hx103_9
            try clear hx104_0
            try clear hx104_1
            try clear hx104_10
            try clear hx104_11
            try clear hx104_12
            try clear hx104_2
            try clear hx104_3
            try clear hx104_4
            try clear hx104_5
            try clear hx104_6
            try clear hx104_7
            try clear hx104_8
            try clear hx104_9
            try clear hx105_0
            try clear hx105_1
            try clear hx105_10
            try clear hx105_11
            try clear hx105_12
            try clear hx105_2
            try clear hx105_3
            try clear hx105_4
            try clear hx105_5
            try clear hx105_6
            try clear hx105_7
            try clear hx105_8
            try clear hx105_9
            try clear p101
            try clear p102
            try clear p103
            try clear p104
            try clear p105
            try clear p2
            try clear q101
            try clear q102
            try clear q103
            try clear q104
            try clear q105
            obtain ⟨kq, x62_4, rfl, HA, HJ4, ⟨mc4, rfl⟩⟩ := hcut
            cases kq with
            | zero => exact absurd HA.out (by simp [inkwellref17_Few.j1])
            | succ kj4 =>
              have H := HA.out
              clear HA
              simp only [inkwellref17_Few.j1] at H
              by_cases c11 : x62_4 = true
              · subst c11
                have H1 : (some false) = some r := by rw [if_pos rfl] at H; exact H
                clear H
                have H := H1
                clear H1
                obtain rfl := Option.some.inj H
                go_wp2
                go_ret
                exact ⟨by first | rfl | (simp; done) | (simp [*]; done), by repeat (first | exact Drawn0.refl _ | apply Drawn0.step)⟩
              · replace c11 := Bool.eq_false_iff.mpr c11
                subst c11
                have H1 : (inkwellref17_Few.l1 kj4 l0 x5_1 0) = some r := by rw [if_neg (show ¬ (false = true) by decide)] at H; exact H
                clear H
                have H := H1
                clear H1
                have H' := Aside0.mk H
                clear H
                go_wp2
                go_loopg [6] kj4 (fun kq v6 w' => ∃ (x6_3 : Int), v6 = .int .i64 x6_3 ∧ Aside0 (inkwellref17_Few.l1 kq l0 x5_1 x6_3 = some r) ∧ Aside0 (kq ≤ kj4) ∧ Drawn0 w w')
                case atStart => exact ⟨(0), (by first | rfl | (simp; done) | (simp [*]; done)), H', ⟨Nat.le_refl _⟩, by repeat (first | exact Drawn0.refl _ | apply Drawn0.step)⟩
                case round =>
                  clear H'
                  try clear c1
                  try clear p1
                  try clear q1
                  try clear hx1
                  try clear p2
                  try clear c3
                  try clear c3b0
                  try clear c4
                  try clear c4b0
                  try clear c6
                  try clear c6b0
                  try clear c7
                  try clear c7b0
                  try clear c7b1
                  try clear c8
                  try clear c8b0
                  try clear c8b1
                  try clear c9
                  try clear c9b0
                  try clear c9b1
                  try clear c10
                  try clear c10b0
                  try clear c10b1
                  try clear p10
                  try clear q10
                  try clear hx10
                  try clear c11
                  try clear hx101_0
                  try clear hx101_1
                  try clear hx101_10
                  try clear hx101_11
                  try clear hx101_12
                  try clear hx101_2
                  try clear hx101_3
                  try clear hx101_4
                  try clear hx101_5
                  try clear hx101_6
                  try clear hx101_7
                  try clear hx101_8
                  try clear hx101_9
                  try clear hx102_0
                  try clear hx102_1
                  try clear hx102_10
                  try clear hx102_11
                  try clear hx102_12
                  try clear hx102_2
                  try clear hx102_3
                  try clear hx102_4
                  try clear hx102_5
                  try clear hx102_6
                  try clear hx102_7
                  try clear hx102_8
                  try clear hx102_9
                  try clear hx103_0
                  try clear hx103_1
                  try clear hx103_10
                  try clear hx103_11
                  try clear hx103_12
                  try clear hx103_2
                  try clear hx103_3
                  try clear hx103_4
                  try clear hx103_5
                  try clear hx103_6
                  try clear hx103_7
                  try clear hx103_8
                  try clear hx103_9
                  try clear hx104_0
                  try clear hx104_1
                  try clear hx104_10
                  try clear hx104_11
                  try clear hx104_12
                  try clear hx104_2
                  try clear hx104_3
                  try clear hx104_4
                  try clear hx104_5
                  try clear hx104_6
                  try clear hx104_7
                  try clear hx104_8
                  try clear hx104_9
                  try clear hx105_0
                  try clear hx105_1
                  try clear hx105_10
                  try clear hx105_11
                  try clear hx105_12
                  try clear hx105_2
                  try clear hx105_3
                  try clear hx105_4
                  try clear hx105_5
                  try clear hx105_6
                  try clear hx105_7
                  try clear hx105_8
                  try clear hx105_9
                  try clear p1
                  try clear p10
                  try clear p101
                  try clear p102
                  try clear p103
                  try clear p104
                  try clear p105
                  try clear p2
                  try clear q1
                  try clear q10
                  try clear q101
                  try clear q102
                  try clear q103
                  try clear q104
                  try clear q105
                  obtain ⟨x6_3, rfl, HA, HK3, ⟨m3, rfl⟩⟩ := hrel
                  cases gk with
                  | zero => exact absurd HA.out (by simp [inkwellref17_Few.l1])
                  | succ k3 =>
                    have H := HA.out
                    clear HA
                    simp only [inkwellref17_Few.l1] at H
                    by_cases c12 : 0 ≤ x5_1
                    · rw [if_pos c12] at H
                      have c12b0 : decide (0 ≤ x5_1) = true := decide_eq_true c12
                      clear c12
                      by_cases c13 : x5_1 < (l0.length : Int)
                      · rw [if_pos c13] at H
                        have c13b0 : decide (x5_1 < (l0.length : Int)) = true := decide_eq_true c13
                        clear c13
                        by_cases c14 : x6_3 < (((rd_T44 l0 x5_1).f7).length : Int)
                        · rw [if_pos c14] at H
                          have c14b0 : decide (x6_3 < (((rd_T44 l0 x5_1).f7).length : Int)) = true := decide_eq_true c14
                          clear c14
                          by_cases c15 : 0 ≤ x6_3
                          · rw [if_pos c15] at H
                            have c15b0 : decide (0 ≤ x6_3) = true := decide_eq_true c15
                            clear c15
                            by_cases c16 : (((rd_T38 ((rd_T44 l0 x5_1).f7) x6_3).f1).size : Int) > 100
                            · rw [if_pos c16] at H
                              have c16b0 : decide (100 < (((rd_T38 ((rd_T44 l0 x5_1).f7) x6_3).f1).size : Int)) = true := decide_eq_true c16
                              have c16b1 : decide (100 < ((rd_T38 ((rd_T44 l0 x5_1).f7) x6_3).f1).size) = true := decide_eq_true (by omega)
                              clear c16
                              obtain rfl := Option.some.inj H
                              have p106 : 0 ≤ (x5_1 : Int) := of_decide_eq_true (by first | (with_reducible assumption) | assumption)
                              have q106 : x5_1 < (l0.length : Int) := of_decide_eq_true (by first | (with_reducible assumption) | assumption)
                              obtain ⟨ad106, A106_12, c106_12, e106, hx106_0, hx106_1, hx106_2, hx106_3, hx106_4, hx106_5, hx106_6, hx106_7, hx106_8, hx106_9, hx106_10, hx106_11, hx106_12, hl106_12, hi106_12⟩ := at_T44 HR0.out x5_1 p106 q106
                              cases e106
                              have HR106_12 := Aside0.mk hi106_12
                              have HC106_12 := Aside0.mk hl106_12
                              clear hi106_12 hl106_12
                              replace p106 := eq_true p106
                              replace q106 := eq_true q106
                              have p107 : 0 ≤ (x5_1 : Int) := of_decide_eq_true (by first | (with_reducible assumption) | assumption)
                              have q107 : x5_1 < (l0.length : Int) := of_decide_eq_true (by first | (with_reducible assumption) | assumption)
                              obtain ⟨ad107, A107_12, c107_12, e107, hx107_0, hx107_1, hx107_2, hx107_3, hx107_4, hx107_5, hx107_6, hx107_7, hx107_8, hx107_9, hx107_10, hx107_11, hx107_12, hl107_12, hi107_12⟩ := at_T44 HR0.out x5_1 p107 q107
                              obtain rfl : ad106 = ad107 := (by injection e107)
                              have HR107_12 := Aside0.mk hi107_12
                              have HC107_12 := Aside0.mk hl107_12
                              clear hi107_12 hl107_12
                              replace p107 := eq_true p107
                              replace q107 := eq_true q107
                              have ea_ := Option.some.inj (hx106_12.symm.trans hx107_12)
                              injection ea_ with ea_ en_ ec_
                              subst ea_
                              subst ec_
                              clear en_
                              have p108 : 0 ≤ (x6_3 : Int) := of_decide_eq_true (by first | (with_reducible assumption) | assumption)
                              have q108 : x6_3 < (((rd_T44 l0 x5_1).f7).length : Int) := of_decide_eq_true (by first | (with_reducible assumption) | assumption)
                              obtain ⟨ad108, e108, hx108_0, hx108_1⟩ := at_T38 HR107_12.out x6_3 p108 q108
                              cases e108
                              replace p108 := eq_true p108
                              replace q108 := eq_true q108
                              go_wp2
                              go_ret
                              exact ⟨by first | rfl | (simp; done) | (simp [*]; done), by repeat (first | exact Drawn0.refl _ | apply Drawn0.step)⟩
                            · rw [if_neg c16] at H
                              have c16b0 : decide (100 < (((rd_T38 ((rd_T44 l0 x5_1).f7) x6_3).f1).size : Int)) = false := decide_eq_false c16
                              have c16b1 : decide (100 < ((rd_T38 ((rd_T44 l0 x5_1).f7) x6_3).f1).size) = false := decide_eq_false (by omega)
                              clear c16
                              have H' := Aside0.mk H
                              clear H
                              have p106 : 0 ≤ (x5_1 : Int) := of_decide_eq_true (by first | (with_reducible assumption) | assumption)
                              have q106 : x5_1 < (l0.length : Int) := of_decide_eq_true (by first | (with_reducible assumption) | assumption)
                              obtain ⟨ad106, A106_12, c106_12, e106, hx106_0, hx106_1, hx106_2, hx106_3, hx106_4, hx106_5, hx106_6, hx106_7, hx106_8, hx106_9, hx106_10, hx106_11, hx106_12, hl106_12, hi106_12⟩ := at_T44 HR0.out x5_1 p106 q106
                              cases e106
                              have HR106_12 := Aside0.mk hi106_12
                              have HC106_12 := Aside0.mk hl106_12
                              clear hi106_12 hl106_12
                              replace p106 := eq_true p106
                              replace q106 := eq_true q106
                              have p107 : 0 ≤ (x5_1 : Int) := of_decide_eq_true (by first | (with_reducible assumption) | assumption)
                              have q107 : x5_1 < (l0.length : Int) := of_decide_eq_true (by first | (with_reducible assumption) | assumption)
                              obtain ⟨ad107, A107_12, c107_12, e107, hx107_0, hx107_1, hx107_2, hx107_3, hx107_4, hx107_5, hx107_6, hx107_7, hx107_8, hx107_9, hx107_10, hx107_11, hx107_12, hl107_12, hi107_12⟩ := at_T44 HR0.out x5_1 p107 q107
                              obtain rfl : ad106 = ad107 := (by injection e107)
                              have HR107_12 := Aside0.mk hi107_12
                              have HC107_12 := Aside0.mk hl107_12
                              clear hi107_12 hl107_12
                              replace p107 := eq_true p107
                              replace q107 := eq_true q107
                              have ea_ := Option.some.inj (hx106_12.symm.trans hx107_12)
                              injection ea_ with ea_ en_ ec_
                              subst ea_
                              subst ec_
                              clear en_
                              have p108 : 0 ≤ (x6_3 : Int) := of_decide_eq_true (by first | (with_reducible assumption) | assumption)
                              have q108 : x6_3 < (((rd_T44 l0 x5_1).f7).length : Int) := of_decide_eq_true (by first | (with_reducible assumption) | assumption)
                              obtain ⟨ad108, e108, hx108_0, hx108_1⟩ := at_T38 HR107_12.out x6_3 p108 q108
                              cases e108
                              replace p108 := eq_true p108
                              replace q108 := eq_true q108
                              go_wp2
                              go_roundg k3
                              case measure => have := HK1.out; have := HJ4.out; have := HK3.out; omega
                              case rel => exact ⟨(wrap64 (x6_3 + 1)), (by first | rfl | (simp; done) | (simp [*]; done)), H', ⟨by have := HK1.out; have := HJ4.out; have := HK3.out; omega⟩, by repeat (first | exact Drawn0.refl _ | apply Drawn0.step)⟩
                          · rw [if_neg c15] at H
                            exact absurd H (by simp)
                        · rw [if_neg c14] at H
                          have c14b0 : decide (x6_3 < (((rd_T44 l0 x5_1).f7).length : Int)) = false := decide_eq_false c14
                          clear c14
                          have H' := Aside0.mk H
                          clear H
                          have p106 : 0 ≤ (x5_1 : Int) := of_decide_eq_true (by first | (with_reducible assumption) | assumption)
                          have q106 : x5_1 < (l0.length : Int) := of_decide_eq_true (by first | (with_reducible assumption) | assumption)
                          obtain ⟨ad106, A106_12, c106_12, e106, hx106_0, hx106_1, hx106_2, hx106_3, hx106_4, hx106_5, hx106_6, hx106_7, hx106_8, hx106_9, hx106_10, hx106_11, hx106_12, hl106_12, hi106_12⟩ := at_T44 HR0.out x5_1 p106 q106
                          cases e106
                          have HR106_12 := Aside0.mk hi106_12
                          have HC106_12 := Aside0.mk hl106_12
                          clear hi106_12 hl106_12
                          replace p106 := eq_true p106
                          replace q106 := eq_true q106
                          go_wp2
                          go_roundg k3
                          case measure => have := HK1.out; have := HJ4.out; have := HK3.out; omega
                          case rel => exact ⟨(wrap64 (x5_1 + 1)), (by first | rfl | (simp; done) | (simp [*]; done)), H', ⟨by have := HK1.out; have := HJ4.out; have := HK3.out; omega⟩, by repeat (first | exact Drawn0.refl _ | apply Drawn0.step)⟩
                      · rw [if_neg c13] at H
                        exact absurd H (by simp)
                    · rw [if_neg c12] at H
                      exact absurd H (by simp)
        · rw [if_neg c4] at H
          have c4b0 : decide (x5_1 < (l0.length : Int)) = false := decide_eq_false c4
          clear c4
          obtain rfl := Option.some.inj H
          go_wp2
          go_ret
          exact ⟨by first | rfl | (simp; done) | (simp [*]; done), by repeat (first | exact Drawn0.refl _ | apply Drawn0.step)⟩

end Go.Proofs.Ytamihmofmjkfoaa.Q
