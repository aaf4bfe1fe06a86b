/- Plain laws on tables: sorted, once each, of whatever order. -/
import Derived.Test.YtamihmofmjkfoaaXTable
import Derived.Test.YtamihmofmjkfoaaXFew
import Derived.Test.YtamihmofmjkfoaaQ22
import Derived.Sort.KeysCollected
set_option linter.unusedVariables false
set_option linter.unusedSimpArgs false
namespace Go.Proofs.Ytamihmofmjkfoaa.X
open Go.RowKit Go.Proofs.YtamihmofmjkfoaaW.PrintWords Go.Proofs.YtamihmofmjkfoaaW.PrintLast Go.Proofs.YtamihmofmjkfoaaW.PrintMore Go.Proofs.Ytamihmofmjkfoaa.Q

theorem bl_inj {s t : ByteArray} (h : bl s = bl t) : s = t := by rw [← mkS_bl s, ← mkS_bl t, h]
theorem uniq_mem : ∀ (l : List ByteArray) (seen : List (List UInt8)) (s : List UInt8), s ∈ (uniq seen l).map bl ↔ s ∈ l.map bl ∧ s ∉ seen
  | [], seen, s => by simp [uniq]
  | x :: t, seen, s => by
    unfold uniq
    by_cases h : bl x ∈ seen
    · rw [if_pos h, uniq_mem t seen s, List.map_cons, List.mem_cons]
      constructor
      · rintro ⟨h1, h2⟩; exact ⟨.inr h1, h2⟩
      · rintro ⟨rfl | h1, h2⟩
        · exact absurd h h2
        · exact ⟨h1, h2⟩
    · rw [if_neg h, List.map_cons, List.mem_cons, uniq_mem t _ s, List.map_cons, List.mem_cons, List.mem_cons, not_or]
      constructor
      · rintro (rfl | ⟨h1, h2, h3⟩)
        · exact ⟨.inl rfl, h⟩
        · exact ⟨.inr h1, h3⟩
      · rintro ⟨rfl | h1, h2⟩
        · exact .inl rfl
        · by_cases e : s = bl x
          · exact .inl e
          · exact .inr ⟨h1, e, h2⟩
theorem uniq_nodup : ∀ (l : List ByteArray) (seen : List (List UInt8)), ((uniq seen l).map bl).Nodup
  | [], seen => by simp [uniq]
  | x :: t, seen => by
    unfold uniq
    split
    · exact uniq_nodup t seen
    · rw [List.map_cons, List.nodup_cons]
      refine ⟨fun h => ?_, uniq_nodup t _⟩
      rw [uniq_mem] at h
      exact h.2 List.mem_cons_self
theorem uniq_len : ∀ (l : List ByteArray) (seen : List (List UInt8)), (uniq seen l).length ≤ l.length
  | [], seen => by simp [uniq]
  | x :: t, seen => by
    unfold uniq
    split
    · have := uniq_len t seen
      simp only [List.length_cons]; omega
    · have := uniq_len t (bl x :: seen)
      simp only [List.length_cons]; omega
/-- Tables of ops that speak of the same. -/
theorem table_same (a : ByteArray) (l l' : List Op) (h : ∀ x, x ∈ namesOf l ↔ x ∈ namesOf l') : tableOf a l = tableOf a l' := by
  unfold tableOf sortS othersOf
  congr 2
  refine mergeSort_of_perm ?_
  rw [List.perm_ext_iff_of_nodup (uniq_nodup _ _) (uniq_nodup _ _)]
  intro s
  rw [uniq_mem, uniq_mem]
  have e : (s ∈ ((namesOf l).map (·.f1)).map bl) ↔ (s ∈ ((namesOf l').map (·.f1)).map bl) := by
    simp only [List.mem_map]
    constructor
    · rintro ⟨y, ⟨x, hx, rfl⟩, rfl⟩; exact ⟨_, ⟨x, (h x).1 hx, rfl⟩, rfl⟩
    · rintro ⟨y, ⟨x, hx, rfl⟩, rfl⟩; exact ⟨_, ⟨x, (h x).2 hx, rfl⟩, rfl⟩
  rw [e]
theorem table_len (a : ByteArray) (l : List Op) (h : Sm l) : (tableOf a l).length ≤ 1000000000 := by
  have h1 := uniq_len ((namesOf l).map (·.f1)) [bl a]
  have h2 := flat_le l h.2
  have h3 := h.1
  simp only [tableOf, List.length_cons, sortS_length, othersOf, List.length_map] at h1 ⊢
  omega
theorem few_names {l : List Op} (h : ∀ o ∈ l, fewOp o = true) : ∀ x ∈ namesOf l, x.f1.size ≤ 100 := by
  intro x hx
  simp only [namesOf, List.mem_flatMap, List.mem_filter] at hx
  obtain ⟨o, ho, hx, _⟩ := hx
  obtain ⟨_, _, _, h4, h5, h6⟩ := fewOp_parts (h o ho)
  simp only [List.cons_append, List.nil_append, List.mem_cons] at hx
  rcases hx with rfl | rfl | hx
  · exact h4
  · exact h5
  · exact h6 x hx
theorem few_Sm {l : List Op} (hl : l.length ≤ 10000) (h : ∀ o ∈ l, fewOp o = true) : Sm l := ⟨hl, fun o ho => by have := (fewOp_parts (h o ho)).1; omega⟩
/-! ### the same texts -/
theorem rdOf_get {l : List ByteArray} (i : Nat) (h : i < l.length) : rdOf ByteArray.empty l (i : Int) = l[i] := by unfold rdOf; rw [Int.toNat_natCast, getD_get _ _ _ h]
theorem same_l0 (x0 x1 : List ByteArray) (he : x0.length = x1.length) (hl : x0.length ≤ 1000000000) : ∀ (d i : Nat), x0.length - i = d → i ≤ x0.length → Evt (fun k => inkwellref18_Same.l0 k x0 x1 i) (decide (x0.drop i = x1.drop i)) := by
  intro d
  induction d with
  | zero =>
    intro i hd hi
    rw [List.drop_eq_nil_of_le (by omega), List.drop_eq_nil_of_le (by omega)]
    refine Evt.one fun k => ?_
    simp only [inkwellref18_Same.l0]
    rw [if_neg (by omega)]
    rfl
  | succ d ih =>
    intro i hd hi
    have hlt : i < x0.length := by omega
    have hlt1 : i < x1.length := by omega
    have hw : wrap64 ((i : Int) + 1) = ((i + 1 : Nat) : Int) := by rw [w64' (by omega) (by omega)]; omega
    rw [List.drop_eq_getElem_cons hlt, List.drop_eq_getElem_cons hlt1]
    by_cases hz : x0[i] = x1[i]
    · have e : decide (x0[i] :: x0.drop (i + 1) = x1[i] :: x1.drop (i + 1)) = decide (x0.drop (i + 1) = x1.drop (i + 1)) := by rw [hz]; simp only [List.cons.injEq, true_and]
      rw [e]
      refine (ih (i + 1) (by omega) (by omega)).step fun k => ?_
      simp only [inkwellref18_Same.l0, rdOf_get i hlt, rdOf_get i hlt1]
      simp [hlt, hlt1, hz, hw]
    · have e : decide (x0[i] :: x0.drop (i + 1) = x1[i] :: x1.drop (i + 1)) = false := decide_eq_false (fun h => hz (List.cons.inj h).1)
      rw [e]
      refine Evt.one fun k => ?_
      simp only [inkwellref18_Same.l0, rdOf_get i hlt, rdOf_get i hlt1]
      have hz2 : ¬ x0[i].toList = x1[i].toList := fun h => hz (by rw [ByteArray.toList_eq, ByteArray.toList_eq] at h; exact bl_inj h)
      simp [hlt, hlt1, hz2]
theorem Same_calls (A0 : Option Addr) (c0 : Nat) (l0 : List ByteArray) (A1 : Option Addr) (c1 : Nat) (l1 : List ByteArray) (w : World) (hr0 : Kd.C Kd.string w A0 l0.length l0) (hc0 : l0.length ≤ c0) (hr1 : Kd.C Kd.string w A1 l1.length l1) (hc1 : l1.length ≤ c1) (hl : l0.length ≤ 1000000000) :
    Calls Try.prog 22 #[.slice A0 l0.length c0, .slice A1 l1.length c1] w fun e w' => e = .returned (.bool (decide (l0 = l1))) ∧ Drawn0 w w' := by
  have h : ∃ k, inkwellref18_Same.f k l0 l1 = some (decide (l0 = l1)) := by
    unfold inkwellref18_Same.f
    by_cases he : l0.length = l1.length
    · obtain ⟨K, hK⟩ := same_l0 l0 l1 he hl l0.length 0 (by omega) (by omega)
      refine ⟨K, ?_⟩
      rw [if_pos (by omega)]
      simpa using hK K (Nat.le_refl _)
    · refine ⟨0, ?_⟩
      rw [if_neg (by omega), decide_eq_false (fun e => he (by rw [e]))]
  obtain ⟨k, hk⟩ := h
  exact inkwellref18_Same.calls k A0 c0 l0 A1 c1 l1 _ w hr0 hc0 hr1 hc1 hk
end Go.Proofs.Ytamihmofmjkfoaa.X
