/- Layer 18's example holds. No condition. -/
import Derived.Test.YtamihmofmjkfoaaXTable
import Derived.Test.YtamihmofmjkfoaaXPut
set_option linter.unusedVariables false
set_option linter.unusedSimpArgs false
namespace Go.Proofs.Ytamihmofmjkfoaa.X
open Go.RowKit Go.Proofs.YtamihmofmjkfoaaW.PrintWords Go.Proofs.YtamihmofmjkfoaaW.PrintLast Go.Proofs.YtamihmofmjkfoaaW.PrintMore Go.Proofs.Ytamihmofmjkfoaa.Q
attribute [local go_sem] max2_int min2_int max_two min_two max_three min_three max_four min_four

def aOp : Op := { zOp with f3 := ⟨1, ⟨#[97]⟩⟩ }
theorem aTable : tableOf ⟨#[98]⟩ [aOp] = [⟨#[98]⟩, ⟨#[97]⟩] := by decide +kernel
theorem aPut : putT [⟨#[98]⟩, ⟨#[97]⟩] = [1, 1, 97] := by decide +kernel
theorem aStr : strOfNums [1, 1, 97] = ⟨#[1, 1, 97]⟩ := by decide +kernel
set_option maxHeartbeats 1000000 in
set_option maxRecDepth 100000 in
theorem awake18 (w : World) : Calls Try.prog 21 #[] w fun e w' => e = .returned (.bool true) ∧ Below w.heap.size w w' := by
  have hlit := (R_readsv (R_lits k44 44 w [aOp] _ ((Reps.none _ _).snoc (k44_mkM w w.heap.size (fun _ => False) aOp (Kd.R_nil _ _ _ _ _)) rfl) (by simp))).2.2
  have HL := Lib.hid hlit
  clear hlit
  go_enter Try.func21, Try.ntmps21
  go_wp2_with fail
  refine (Table_calls ⟨#[98]⟩ _ _ [aOp] _ HL.out (by simp) ⟨by simp, by simp [aOp, z44]⟩ (by decide) (by decide +kernel)).mono ?_
  rintro e w1 ⟨v1, rfl, hR, hB⟩
  rw [aTable] at hR
  obtain ⟨A1, c1, rfl, hc1, hC1⟩ := Kd.R_reads hR
  obtain ⟨ad, rfl, hcell⟩ := (Kd.reads_of_C (d := (⟨#[]⟩ : ByteArray)) hC1).2.2 (by simp)
  have h0 : w1.cell? ad = some (.string ⟨#[98]⟩) := by simpa [Addr.add] using hcell 0 (by simp)
  have h1 : w1.cell? ⟨ad.block, ad.off + 1, none⟩ = some (.string ⟨#[97]⟩) := by simpa [Addr.add] using hcell 1 (by simp)
  have hb1 : Below w.heap.size w w1 := below_then ((Below.refl _ _).alloc (Nat.le_refl _) _) (by simp) hB
  have HR := Lib.hid hR
  have HC1 := Lib.hid hC1
  have HB1 := Lib.hid hb1
  clear hR hC1 hb1 hB hcell HL
  simp only [List.length_cons, List.length_nil, Nat.zero_add] at hc1 ⊢
  go_wp2_with fail
  refine (Put_calls _ _ [⟨#[98]⟩, ⟨#[97]⟩] _ HC1.out hc1 (by simp) (by decide +kernel)).mono ?_
  rintro e w2 ⟨v2, rfl, hR2, hB2⟩
  rw [aPut] at hR2
  have hconv : (convert 34 9 v2).run Try.prog w2 = .ok (.string ⟨#[1, 1, 97]⟩) w2 := by
    have := own_string (P := Try.prog) Try.underlying34 Try.underlying5 Try.underlying9 (Kd.own_of_R hR2)
    rw [aStr] at this
    exact this
  have hb2 : Below w.heap.size w w2 := below_then HB1.out HB1.out.size hB2
  clear hR2 hB2
  go_wp2_with fail
  go_ret
  exact ⟨rfl, hb2⟩
end Go.Proofs.Ytamihmofmjkfoaa.X
