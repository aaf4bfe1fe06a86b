/- Who is spoken of by ops: the plain answers of Names and Few. Conditions: the ops are fewer than some thousands. -/
import Derived.Test.YtamihmofmjkfoaaQ0
import Derived.Test.YtamihmofmjkfoaaQ56
import Derived.Test.YtamihmofmjkfoaaQ15
import Derived.Test.YtamihmofmjkfoaaXNum
set_option linter.unusedVariables false
set_option linter.unusedSimpArgs false
namespace Go.Proofs.Ytamihmofmjkfoaa.X
open Go.RowKit Go.Proofs.YtamihmofmjkfoaaW.PrintWords Go.Proofs.YtamihmofmjkfoaaW.PrintLast Go.Proofs.YtamihmofmjkfoaaW.PrintMore Go.Proofs.Ytamihmofmjkfoaa.Q

/-- With enough rounds it answers r. -/
def Evt {α : Type} (g : Nat → Option α) (r : α) : Prop := ∃ K, ∀ k, K ≤ k → g k = some r
theorem Evt.step {α : Type} {g g' : Nat → Option α} {r : α} (h : Evt g r) (e : ∀ k, g' (k + 1) = g k) : Evt g' r := by
  obtain ⟨K, hK⟩ := h
  refine ⟨K + 1, fun k hk => ?_⟩
  obtain ⟨k, rfl⟩ : ∃ m, k = m + 1 := ⟨k - 1, by omega⟩
  rw [e]
  exact hK k (by omega)
theorem Evt.one {α : Type} {g : Nat → Option α} {r : α} (e : ∀ k, g (k + 1) = some r) : Evt g r := ⟨1, fun k hk => by
  obtain ⟨k, rfl⟩ : ∃ m, k = m + 1 := ⟨k - 1, by omega⟩
  exact e k⟩
theorem Evt.of {α : Type} {g g' : Nat → Option α} {r : α} (h : Evt g r) (e : ∀ k, g' k = g k) : Evt g' r := by
  obtain ⟨K, hK⟩ := h
  exact ⟨K, fun k hk => by rw [e]; exact hK k hk⟩
theorem Evt.const {α : Type} (r : α) : Evt (fun _ => some r) r := ⟨0, fun _ _ => rfl⟩
theorem Evt.bind {α β : Type} {g : Nat → Option α} {f : Nat → α → Option β} {r : α} {q : β} (h : Evt g r) (k : Evt (fun n => f n r) q) : Evt (fun n => (g n).bind (f n)) q := by
  obtain ⟨K, hK⟩ := h
  obtain ⟨L, hL⟩ := k
  exact ⟨max K L, fun n hn => by simp only [hK n (by omega), Option.bind_some]; exact hL n (by omega)⟩

theorem w64' {x : Int} (h0 : -9223372036854775808 ≤ x) (h1 : x < 9223372036854775808) : wrap64 x = x := by unfold wrap64; omega

abbrev OpId := S38
abbrev Val := S41
abbrev Op := S44
abbrev zOp : Op := z44

/-- Does it name something? -/
def nz (x : OpId) : Bool := !(x.f0 == 0 && (x.f1.toList == ([] : List UInt8)))
def namesOf (l : List Op) : List OpId := l.flatMap fun o => ([o.f0, o.f3] ++ o.f7).filter nz
/-- Few enough for every list that is made of them. -/
def Sm (l : List Op) : Prop := l.length ≤ 10000 ∧ ∀ o ∈ l, o.f7.length ≤ 10000
theorem getD_get {α : Type} (l : List α) (d : α) (i : Nat) (h : i < l.length) : l.getD i d = l[i] := by simp [List.getD_eq_getElem?_getD, h]
theorem names_l1 (x8 : List Op) (x9 x10 : Int) (x21 : List OpId) (h21 : x21.length ≤ 20000) (r : List OpId) :
    ∀ (d j : Nat) (x3 : List OpId), x21.length - j = d → j ≤ x21.length → x3.length + d ≤ 1000000000 →
      Evt (fun k => op_Names.l0 k (x3 ++ (x21.drop j).filter nz) x8 x9 (wrap64 (x10 + 1))) r → Evt (fun k => op_Names.l1 k x3 x8 x9 x10 x21 (x21.length : Int) j) r := by
  intro d
  induction d with
  | zero =>
    intro j x3 hd hj hx h
    refine h.step fun k => ?_
    simp only [op_Names.l1]
    rw [if_neg (by omega), List.drop_eq_nil_of_le (by omega)]
    simp
  | succ d ih =>
    intro j x3 hd hj hx h
    have hlt : j < x21.length := by omega
    have hw : wrap64 ((j : Int) + 1) = ((j + 1 : Nat) : Int) := by rw [w64' (by omega) (by omega)]; omega
    have hr : rd_T38 x21 (j : Int) = x21[j] := by unfold rd_T38; rw [Int.toNat_natCast, getD_get _ _ _ hlt]
    rw [List.drop_eq_getElem_cons hlt, List.filter_cons] at h
    by_cases hz : nz x21[j] = true
    · rw [if_pos hz] at h
      refine (ih (j + 1) (x3 ++ [x21[j]]) (by omega) (by omega) (by simp; omega) (h.of fun k => by simp)).step fun k => ?_
      simp only [op_Names.l1, op_Zero.f, hr, Option.bind_some]
      rw [if_pos (by omega), if_pos (by omega), if_pos (by omega), if_neg (fun hh => by unfold nz at hz; rw [hh] at hz; exact absurd hz (by decide)), if_pos (by omega), hw]
    · rw [if_neg hz] at h
      refine (ih (j + 1) x3 (by omega) (by omega) (by omega) h).step fun k => ?_
      simp only [op_Names.l1, op_Zero.f, hr, Option.bind_some]
      rw [if_pos (by omega), if_pos (by omega), if_pos (by omega), if_pos (by unfold nz at hz; simpa using hz), hw]
theorem flat_le (l : List Op) (h : ∀ o ∈ l, o.f7.length ≤ 10000) : (namesOf l).length ≤ 10002 * l.length := by
  induction l with
  | nil => simp [namesOf]
  | cons o t ih =>
    have := ih (fun p hp => h p (List.mem_cons_of_mem _ hp))
    have h1 := List.length_filter_le nz ([o.f0, o.f3] ++ o.f7)
    have h2 := h o List.mem_cons_self
    simp only [namesOf, List.flatMap_cons, List.length_append, List.length_cons, List.length_nil] at this h1 ⊢
    omega
theorem names_l0 (x8 : List Op) (hs : Sm x8) : ∀ (d i : Nat), x8.length - i = d → i ≤ x8.length →
    Evt (fun k => op_Names.l0 k (namesOf (x8.take i)) x8 (x8.length : Int) i) (namesOf x8) := by
  intro d
  induction d with
  | zero =>
    intro i hd hi
    refine Evt.one fun k => ?_
    simp only [op_Names.l0]
    rw [if_neg (by omega), List.take_of_length_le (by omega)]
  | succ d ih =>
    intro i hd hi
    have hlt : i < x8.length := by omega
    have hl : x8.length ≤ 10000 := hs.1
    have hw : wrap64 ((i : Int) + 1) = ((i + 1 : Nat) : Int) := by rw [w64' (by omega) (by omega)]; omega
    have hr : rd_T44 x8 (i : Int) = x8[i] := by unfold rd_T44; rw [Int.toNat_natCast, getD_get _ _ _ hlt]
    have hp := hs.2 _ (List.getElem_mem hlt)
    have hnl := flat_le (x8.take i) (fun o ho => hs.2 o (List.mem_of_mem_take ho))
    have htl : (x8.take i).length ≤ 10000 := by simp; omega
    have key := names_l1 x8 (x8.length : Int) i ([x8[i].f0, x8[i].f3] ++ x8[i].f7) (by simp; omega) (namesOf x8) _ 0 (namesOf (x8.take i)) rfl (Nat.zero_le _) (by simp; omega) ((ih (i + 1) (by omega) (by omega)).of fun k => by
      rw [hw, List.drop_zero, List.take_succ_eq_append_getElem hlt]
      simp only [namesOf, List.flatMap_append, List.flatMap_cons, List.flatMap_nil, List.append_nil])
    refine key.step fun k => ?_
    simp only [op_Names.l0, hr, Option.bind_some]
    rw [if_pos (by omega), if_pos (by omega), if_pos (by omega), if_pos (by simp; omega)]
    rfl
theorem Names_f (l : List Op) (hs : Sm l) : ∃ k, op_Names.f k l = some (namesOf l) := by
  obtain ⟨K, hK⟩ := names_l0 l hs l.length 0 (by omega) (by omega)
  exact ⟨K, by unfold op_Names.f; exact hK K (Nat.le_refl _)⟩
end Go.Proofs.Ytamihmofmjkfoaa.X
