/- What Few tells of ops. No condition. -/
import Derived.Test.YtamihmofmjkfoaaXNames
set_option linter.unusedVariables false
set_option linter.unusedSimpArgs false
namespace Go.Proofs.Ytamihmofmjkfoaa.X
open Go.RowKit Go.Proofs.YtamihmofmjkfoaaW.PrintWords Go.Proofs.YtamihmofmjkfoaaW.PrintLast Go.Proofs.YtamihmofmjkfoaaW.PrintMore Go.Proofs.Ytamihmofmjkfoaa.Q

def fewOp (o : Op) : Bool := decide (o.f7.length ≤ 40) && decide (o.f1.size ≤ 5000) && decide (o.f6.f3.size ≤ 5000) && decide (o.f0.f1.size ≤ 100) && decide (o.f3.f1.size ≤ 100) && o.f7.all fun p => decide (p.f1.size ≤ 100)
def fewL (l : List Op) (most : Int) : Bool := decide ((l.length : Int) ≤ most) && l.all fewOp
theorem few_l1 (x0 : List Op) (i : Nat) (hi : i < x0.length) (h7 : x0[i].f7.length ≤ 40) (r : Bool) (ht : Evt (fun k => inkwellref17_Few.l0 k x0 (wrap64 ((i : Int) + 1))) r) :
    ∀ (d j : Nat), x0[i].f7.length - j = d → j ≤ x0[i].f7.length → Evt (fun k => inkwellref17_Few.l1 k x0 i j) (((x0[i].f7.drop j).all fun p => decide (p.f1.size ≤ 100)) && r) := by
  have hr : rd_T44 x0 (i : Int) = x0[i] := by unfold rd_T44; rw [Int.toNat_natCast, getD_get _ _ _ hi]
  intro d
  induction d with
  | zero =>
    intro j hd hj
    rw [List.drop_eq_nil_of_le (by omega)]
    refine (ht.of fun k => rfl).step fun k => ?_
    simp only [inkwellref17_Few.l1, hr, List.all_nil, Bool.true_and]
    rw [if_pos (by omega), if_pos (by omega), if_neg (by omega)]
  | succ d ih =>
    intro j hd hj
    have hlt : j < x0[i].f7.length := by omega
    have hw : wrap64 ((j : Int) + 1) = ((j + 1 : Nat) : Int) := by rw [w64' (by omega) (by omega)]; omega
    have hrj : rd_T38 x0[i].f7 (j : Int) = x0[i].f7[j] := by unfold rd_T38; rw [Int.toNat_natCast, getD_get _ _ _ hlt]
    rw [List.drop_eq_getElem_cons hlt, List.all_cons]
    by_cases hz : x0[i].f7[j].f1.size ≤ 100
    · simp only [hz, decide_true, Bool.true_and]
      refine (ih (j + 1) (by omega) (by omega)).step fun k => ?_
      simp only [inkwellref17_Few.l1, hr, hrj]
      rw [if_pos (by omega), if_pos (by omega), if_pos (by omega), if_pos (by omega), if_neg (by omega), hw]
    · simp only [hz, decide_false, Bool.false_and]
      refine Evt.one fun k => ?_
      simp only [inkwellref17_Few.l1, hr, hrj]
      rw [if_pos (by omega), if_pos (by omega), if_pos (by omega), if_pos (by omega), if_pos (by omega)]
theorem few_l0 (x0 : List Op) (hl : x0.length ≤ 1000000000) : ∀ (d i : Nat), x0.length - i = d → i ≤ x0.length → Evt (fun k => inkwellref17_Few.l0 k x0 i) ((x0.drop i).all fewOp) := by
  intro d
  induction d with
  | zero =>
    intro i hd hi
    rw [List.drop_eq_nil_of_le (by omega)]
    refine Evt.one fun k => ?_
    simp only [inkwellref17_Few.l0]
    rw [if_neg (by omega)]
    rfl
  | succ d ih =>
    intro i hd hi
    have hlt : i < x0.length := by omega
    have hw : wrap64 ((i : Int) + 1) = ((i + 1 : Nat) : Int) := by rw [w64' (by omega) (by omega)]; omega
    have hr : rd_T44 x0 (i : Int) = x0[i] := by unfold rd_T44; rw [Int.toNat_natCast, getD_get _ _ _ hlt]
    rw [List.drop_eq_getElem_cons hlt, List.all_cons]
    by_cases hA : x0[i].f7.length ≤ 40 ∧ x0[i].f1.size ≤ 5000 ∧ x0[i].f6.f3.size ≤ 5000 ∧ x0[i].f0.f1.size ≤ 100 ∧ x0[i].f3.f1.size ≤ 100
    · obtain ⟨h1, h2, h3, h4, h5⟩ := hA
      have key := few_l1 x0 i hlt h1 _ ((ih (i + 1) (by omega) (by omega)).of fun k => by rw [hw]) _ 0 rfl (Nat.zero_le _)
      have e : fewOp x0[i] = (x0[i].f7.all fun p => decide (p.f1.size ≤ 100)) := by simp [fewOp, h1, h2, h3, h4, h5]
      rw [e]
      rw [List.drop_zero] at key
      have k2 : Evt (fun k => inkwellref17_Few.j1 k x0 i false) _ := key.step fun k => by simp only [inkwellref17_Few.j1]; rw [if_neg (by decide)]; rfl
      refine k2.step fun k => ?_
      simp only [inkwellref17_Few.l0, hr]
      rw [if_pos (by omega), if_pos (by omega), if_neg (by omega), if_neg (by omega), if_neg (by omega), if_neg (by omega), decide_eq_false (by omega)]
    · have e : fewOp x0[i] = false := by
        cases hf : fewOp x0[i]
        · rfl
        · exfalso
          apply hA
          simp [fewOp] at hf
          obtain ⟨⟨⟨⟨⟨a, b⟩, c⟩, d⟩, e⟩, _⟩ := hf
          exact ⟨a, b, c, d, e⟩
      rw [e, Bool.false_and]
      have k2 : Evt (fun k => inkwellref17_Few.j1 k x0 i true) false := Evt.one fun k => by simp only [inkwellref17_Few.j1]; rw [if_pos trivial]
      refine k2.step fun k => ?_
      simp only [inkwellref17_Few.l0, hr]
      rw [if_pos (by omega), if_pos (by omega)]
      repeat' split
      all_goals first | rfl | (rw [decide_eq_true (by omega)])
theorem Few_f (l : List Op) (most : Int) (hm : most ≤ 1000000) : ∃ k, inkwellref17_Few.f k l most = some (fewL l most) := by
  unfold inkwellref17_Few.f fewL
  by_cases h : (l.length : Int) > most
  · refine ⟨0, ?_⟩
    rw [if_pos h, decide_eq_false (by omega)]
    rfl
  · obtain ⟨K, hK⟩ := few_l0 l (by omega) l.length 0 (by omega) (by omega)
    refine ⟨K, ?_⟩
    rw [if_neg h, decide_eq_true (by omega)]
    simpa using hK K (Nat.le_refl _)
theorem Few_calls (A0 : Option Addr) (c0 : Nat) (l0 : List Op) (most : Int) (w : World) (hr0 : Kd.C k44 w A0 l0.length l0) (hc0 : l0.length ≤ c0) (hm : most ≤ 1000000) :
    Calls Try.prog 15 #[.slice A0 l0.length c0, .int .i64 most] w fun e w' => e = .returned (.bool (fewL l0 most)) ∧ Drawn0 w w' := by
  obtain ⟨k, hk⟩ := Few_f l0 most hm
  exact inkwellref17_Few.calls k A0 c0 l0 most _ w hr0 hc0 hk
theorem few_sm {l : List Op} {most : Int} (hm : most ≤ 10000) (h : fewL l most = true) : l.length ≤ most ∧ ∀ o ∈ l, fewOp o = true := by
  unfold fewL at h
  simp only [Bool.and_eq_true, decide_eq_true_eq, List.all_eq_true] at h
  exact h
theorem fewOp_parts {o : Op} (h : fewOp o = true) : o.f7.length ≤ 40 ∧ o.f1.size ≤ 5000 ∧ o.f6.f3.size ≤ 5000 ∧ o.f0.f1.size ≤ 100 ∧ o.f3.f1.size ≤ 100 ∧ ∀ p ∈ o.f7, p.f1.size ≤ 100 := by
  simp [fewOp] at h
  obtain ⟨⟨⟨⟨⟨a, b⟩, c⟩, d⟩, e⟩, f⟩ := h
  exact ⟨a, b, c, d, e, f⟩
end Go.Proofs.Ytamihmofmjkfoaa.X
