/- The table of who is spoken of: what the program's Table answers. Conditions: the ops are few, no text is longer than Go lets it be. -/
import Derived.Test.YtamihmofmjkfoaaXNames
import Derived.Test.YtamihmofmjkfoaaXMap
import Derived.Test.YtamihmofmjkfoaaXWorld
import Derived.Test.YtamihmofmjkfoaaShelf
import Derived.Sort.OwnSorted
import Derived.Lib.Hide
import Derived.Outline
import Derived.Deep.DeepMust
set_option linter.unusedVariables false
set_option linter.unusedSimpArgs false
namespace Go.Proofs.Ytamihmofmjkfoaa.X
open Go.RowKit Go.Proofs.YtamihmofmjkfoaaW.PrintWords Go.Proofs.YtamihmofmjkfoaaW.PrintLast Go.Proofs.YtamihmofmjkfoaaW.PrintMore Go.Proofs.Ytamihmofmjkfoaa.Q
attribute [local go_sem] max2_int min2_int max_two min_two max_three min_three max_four min_four

def bl (s : ByteArray) : List UInt8 := s.data.toList
def mkS (l : List UInt8) : ByteArray := ⟨l.toArray⟩
theorem mkS_bl (s : ByteArray) : mkS (bl s) = s := by cases s; simp [mkS, bl]
theorem bl_mkS (l : List UInt8) : bl (mkS l) = l := by simp [mkS, bl]
def uniq : List (List UInt8) → List ByteArray → List ByteArray
  | _, [] => []
  | seen, s :: t => if bl s ∈ seen then uniq seen t else s :: uniq (bl s :: seen) t
def leB (x y : List UInt8) : Bool := decide (x ≤ y)
def sortS (l : List ByteArray) : List ByteArray := ((l.map bl).mergeSort fun x y => decide (x ≤ y)).map mkS
def othersOf (a : ByteArray) (l : List Op) : List ByteArray := uniq [bl a] ((namesOf l).map (·.f1))
def tableOf (a : ByteArray) (l : List Op) : List ByteArray := a :: sortS (othersOf a l)
theorem Names_calls (A0 : Option Addr) (c0 : Nat) (l0 : List Op) (w : World) (hr0 : Kd.C k44 w A0 l0.length l0) (hc0 : l0.length ≤ c0) (hs : Sm l0) :
    Calls Try.prog 56 #[.slice A0 l0.length c0] w fun e w' => ∃ v0_ : Value, e = .returned (v0_) ∧ Kd.R k38 38 w' w.heap.size (fun _ => True) v0_ (namesOf l0) ∧ Below w.heap.size w w' := by
  obtain ⟨k, hk⟩ := Names_f l0 hs
  exact op_Names.calls k A0 c0 l0 _ w hr0 hc0 hk
theorem encs_str (xs : List ByteArray) : encs Value.string xs = (xs.map bl).map encStr := by
  simp only [encs, List.map_map]
  refine List.map_congr_left fun x _ => ?_
  show Value.string x = Value.string (mkS (bl x))
  rw [mkS_bl]
theorem sortS_bl (xs : List ByteArray) : (sortS xs).map bl = (xs.map bl).mergeSort fun x y => decide (x ≤ y) := by
  simp only [sortS, List.map_map]
  rw [show bl ∘ mkS = id from funext fun l => bl_mkS l, List.map_id]
theorem sortS_length (xs : List ByteArray) : (sortS xs).length = xs.length := by simp [sortS]
/-- slices.Sort of a row of texts of the call's own. -/
theorem Sort_calls (v : Value) (xs : List ByteArray) (base : Nat) (w : World) (h : Kd.R Kd.string 9 w base (fun _ => True) v xs) (hl : xs.length < 4611686018427387904) :
    Calls Try.prog 57 #[v] w fun e w' => e = .returned (.tuple #[]) ∧ Kd.R Kd.string 9 w' base (fun _ => True) v (sortS xs) ∧ w.grownBy w' v.ownBlock := by
  have ho := Kd.own_of_R h
  rcases ho.2 with ⟨rfl, h0⟩ | ⟨g, cap, cur, rfl, hbase, hb, h1, h2, h3, h4⟩
  · have hx : xs = [] := by
      have := ho.1
      simpa [encs] using h0
    subst hx
    refine (Try.slices_Sort_string_none none 0 w).mono ?_
    rintro e w' ⟨rfl, rfl⟩
    exact ⟨rfl, by simpa [sortS] using h, World.grownBy.refl _ _⟩
  · have hln : (xs.map bl).length = xs.length := by simp
    have hH := Go.holds_of_block (ss := xs.map bl) hb (by rw [← encs_str, hln]; simpa using h4)
    have hc := Try.slices_Sort_string g 0 cap (xs.map bl) w hH (blk_lt hb) (by omega)
    rw [hln] at hc
    refine hc.mono ?_
    rintro e w' ⟨rfl, n, os, rfl⟩
    refine ⟨rfl, ?_, Go.grownBy_sorted _⟩
    have hs := Go.ownsRow_sorted (n := n) (os := os) (ss := xs.map bl) (ts := (xs.map bl).mergeSort fun x y => decide (x ≤ y)) (by simp) hbase hb (by omega) h2 h3
    rw [← sortS_bl] at hs ⊢
    rw [hln] at hs
    exact Kd.R_of_own (by rw [encs_str, sortS_length]; exact hs) (fun _ _ => trivial)
/-- What holds at the head of each round. -/
structure TR (w3 : World) (b : Nat) (a0 : ByteArray) (ns : List OpId) (v6 : Value) (i : Nat) (wr : World) : Prop where
  hi : i ≤ ns.length
  hG : w3.grownBy wr (some b)
  go : ∃ seen outs, outs ++ uniq seen ((ns.drop i).map (·.f1)) = uniq [bl a0] (ns.map (·.f1)) ∧ IsSet wr Try.prog 9 4 b (i + 1) seen ∧ Kd.R Kd.string 9 wr w3.heap.size (fun _ => True) v6 outs ∧ outs.length ≤ i
set_option maxHeartbeats 1000000 in
set_option maxRecDepth 100000 in
theorem Table_calls (a0 : ByteArray) (A1 : Option Addr) (c1 : Nat) (l1 : List Op) (w : World) (hr1 : Kd.C k44 w A1 l1.length l1) (hc1 : l1.length ≤ c1) (hs : Sm l1) (ha : a0.size ≤ maxLen) (hz : ∀ x ∈ namesOf l1, x.f1.size ≤ maxLen) :
    Calls Try.prog 23 #[.string a0, .slice A1 l1.length c1] w fun e w' => ∃ v0_ : Value, e = .returned v0_ ∧ Kd.R Kd.string 9 w' w.heap.size (fun _ => True) v0_ (tableOf a0 l1) ∧ Below w.heap.size w w' := by
  have hmm := @run_makeMap Try.prog
  have zeroE : ∀ W : World, (zeroValue 4).run Try.prog W = .ok (.bool false) W := fun W => by kernel_rfl
  go_enter Try.func23, Try.ntmps23
  go_wp2_with (first | ((with_reducible refine gate_ (.insert 108 (.tmp 9) (.tmp 10) (.const (.bool true))) rfl ?_); refine wp_insert rfl (.tmp 9) (.tmp 10) _ 108 rfl rfl 9 4 Try.underlying9 Try.underlying4 Try.underlying108 w.heap.size 0 (by unfold maxLen; omega) [] rfl (IsSet.made _ _ _ _) a0 rfl ha ?_; intro w2 hset hg2))
  have hB2 : Below w.heap.size w w2 := pw_below_grown ((Below.refl _ _).alloc (Nat.le_refl _) _) _ (by simp) hg2 (by intro k hk; cases hk; exact Nat.le_refl _)
  have hz2 := hset.lt
  refine (Names_calls _ _ _ _ (Kd.C_below hr1 hB2) hc1 hs).mono ?_
  rintro e w3 ⟨v0, rfl, hR, hB3⟩
  obtain ⟨A3, c3, rfl, hc3, _⟩ := Kd.R_reads hR
  have hset3 := hset.kept (grown_of_below hB3 none) (by simp)
  have hB03 : Below w.heap.size w w3 := below_then hB2 (by omega) hB3
  have Hz := Lib.hid hz
  have Hset3 := Lib.hid hset3
  have HR := Lib.hid hR
  have HB := Lib.hid hB03
  have Hzz := hB3.size
  clear hz hset hg2 hB2 hR hB3 hset3 hB03 hmm hr1
  have hnl : (namesOf l1).length ≤ 100020000 := by
    have := flat_le l1 hs.2
    have := hs.1
    omega
  generalize hns : namesOf l1 = ns at *
  have Hns := Lib.hid hns
  clear hns
  go_wp2_with fail
  go_loopw [6, 15] (fun v6 v15 wr => ∃ i : Nat, v15 = .int .i64 i ∧ TR w3 w.heap.size a0 ns v6 i wr) (fun _ v15 _ => ns.length - (intOf v15).toNat)
  case atStart => exact ⟨0, rfl, ⟨Nat.zero_le _, World.grownBy.refl _ _, [bl a0], [], by simp, Hset3.out, Kd.R_nil _ _ _ _ _, Nat.le_refl _⟩⟩
  case round =>
    obtain ⟨i, rfl, hrel⟩ := hrel
    have hi := hrel.hi
    have hsG := hrel.hG.size
    by_cases hlt : i < ns.length
    · obtain ⟨seen, outs, h1, h2, h3, h4⟩ := hrel.go
      have hC := (R_readsv (R_gbT HR.out hrel.hG (by intro k hk; cases hk; exact hz2))).2.2
      obtain ⟨ad, rfl, q1, q2⟩ := at_T38 hC i (by omega) (by omega)
      have hx : (rd_T38 ns i) = ns[i] := by unfold rd_T38; rw [Int.toNat_natCast, getD_get _ _ _ hlt]
      have hsz := Hz.out _ (List.getElem_mem hlt)
      rw [hx, Int.toNat_natCast] at q1 q2
      clear hx hC
      by_cases hm : ns[i].f1.data.toList ∈ seen
      · have hm' : decide (ns[i].f1.data.toList ∈ seen) = true := decide_eq_true hm
        go_wp2_with (first | ((with_reducible refine gate_ (.lookup 108 (.tmp 19) (.tmp 21) false) rfl ?_); refine wp_look rfl (.tmp 19) (.tmp 21) 108 rfl 9 4 Try.underlying9 Try.underlying4 Try.underlying108 (zeroE _) w.heap.size (i + 1) seen rfl ?l1 ns[i].f1 rfl hsz ?_; (case l1 => exact h2.kept (World.grownBy_alloc _ _ none) (by simp))))
        go_roundw
        case rel => exact ⟨i + 1, by go_num, ⟨by omega, gb_alloc hrel.hG _, seen, outs, by rw [← h1, List.drop_eq_getElem_cons hlt, List.map_cons, uniq, if_pos (show bl ns[i].f1 ∈ seen from hm)], (h2.kept (World.grownBy_alloc _ _ none) (by simp)).mono (by omega), Kd.R_alloc h3 _, by omega⟩⟩
        case measure => simp [intOf]; omega
      · have hm' : decide (ns[i].f1.data.toList ∈ seen) = false := decide_eq_false hm
        go_wp2_with (first | ((with_reducible refine gate_ (.lookup 108 (.tmp 19) (.tmp 21) false) rfl ?_); refine wp_look rfl (.tmp 19) (.tmp 21) 108 rfl 9 4 Try.underlying9 Try.underlying4 Try.underlying108 (zeroE _) w.heap.size (i + 1) seen rfl ?l1 ns[i].f1 rfl hsz ?_; (case l1 => exact h2.kept (World.grownBy_alloc _ _ none) (by simp))) | ((with_reducible refine gate_ (.mapUpdate 108 (.tmp 24) (.tmp 26) (.const (.bool true))) rfl ?_); go_must (refine wp_put rfl (.tmp 24) (.tmp 26) _ 108 rfl rfl 9 4 Try.underlying9 Try.underlying4 Try.underlying108 w.heap.size (i + 1) (by unfold maxLen; omega) seen rfl ?l1 ns[i].f1 rfl hsz ?_; (case l1 => exact h2.kept (World.grownBy_alloc _ _ none) (by simp)); intro w4 hset4 hg4; have hc8 : w4.cell? ⟨wr.heap.size, 1, none⟩ = some (.string ns[i].f1) := (World.cell?_of_block (hg4.block _ (by simp) (by simp; omega))).trans (blk_cell (blk_new _ _) 1); have hG4 := gb_then (gb_alloc hrel.hG (Obj.cells #[Value.int IntKind.i64 ns[i].f0, Value.string ns[i].f1] 38)) hg4 (by simp); have hs4 : w3.heap.size ≤ w4.heap.size := hG4.size; have h34 : Kd.R Kd.string 9 w4 w3.heap.size (fun _ => True) u6 outs := R_gbT (Kd.R_alloc h3 _) hg4 (by intro k hk; cases hk; omega))) | ((with_reducible refine gate_builtin (b := .append) (xs := #[.tmp 27, .tmp 30]) rfl ?_); at_builtin; go_must (refine Kd.R_append Kd.string (w0 := w4) w3.heap.size rfl (.tmp 27) (.tmp 30) 26 9 (.string ⟨#[]⟩) 16 rfl Try.underlying26 info9 rfl (by decide) (by omega) u6 outs ns[i].f1 [.string ns[i].f1] (fun _ => True) (fun _ => False) rfl rfl ?aP (fun _ hk => hk.elim) ?aF ?aO ?aB ?aS ?aL ?_; (case aP => exact rfl); (case aF => exact fun _ _ => trivial); (case aO => exact h34); (case aB => exact Below.refl _ _); (case aS => exact hs4); (case aL => omega); intro v5 w5 HO5 _ hg5 _)))
        go_roundw
        case rel => exact ⟨i + 1, by go_num, ⟨by omega, gb_then hG4 hg5 (by intro k hk; exact .inl (R_base h3 _ hk)), bl ns[i].f1 :: seen, outs ++ [ns[i].f1], by rw [← h1, List.drop_eq_getElem_cons hlt, List.map_cons, uniq, if_neg (show ¬ bl ns[i].f1 ∈ seen from hm), List.append_assoc]; rfl, hset4.kept hg5 (by intro e; have := R_base h3 _ e.symm; omega), HO5, by simp; omega⟩⟩
        case measure => simp [intOf]; omega
    · obtain rfl : i = ns.length := by omega
      obtain ⟨seen, outs, h1, h2, h3, h4⟩ := hrel.go
      rw [List.drop_eq_nil_of_le (Nat.le_refl _), List.map_nil, uniq, List.append_nil] at h1
      go_wp2_with fail
      refine (Sort_calls _ outs _ _ h3 (by omega)).mono ?_
      rintro e w4 ⟨rfl, hR4, hg4⟩
      obtain ⟨A4, c4, rfl, hc4, hC4⟩ := Kd.R_reads hR4
      have hG4 := gb_then hrel.hG hg4 (by intro k hk; exact .inl (R_base h3 _ hk))
      have hB4 : Below w.heap.size w w4 := gb_to_below hG4 HB.out HB.out.size (by intro k hk; cases hk; exact Nat.le_refl _)
      have HR4 := Lib.hid hR4
      have HC4 := Lib.hid hC4
      have HB4 := Lib.hid hB4
      have H1 := Lib.hid h1
      have hs4 := hB4.size
      have h4' : (sortS outs).length ≤ 100020000 := by rw [sortS_length]; omega
      clear hR4 hC4 hB4 hG4 hg4 h1 h2 h3 hrel
      go_wp2_with (first | ((with_reducible refine gate_builtin (b := .append) (xs := #[.tmp 36, .tmp 37]) rfl ?_); at_builtin; go_must (refine Kd.R_append_row Value.string (⟨#[]⟩ : ByteArray) (h1 := fun _ => rfl) (w0 := w) w.heap.size rfl (.tmp 36) (.tmp 37) 26 9 (.string ⟨#[]⟩) 16 rfl Try.underlying26 info9 rfl (by omega) _ [a0] (sortS outs) A4 (sortS outs).length c4 (fun _ => True) rfl rfl (fun _ _ => trivial) ?aO ?aC ?aB ?aS ?aL ?_; (case aO => exact Kd.R_of_own (xs := [a0]) (own_lit_of _ _ _ [a0] (by omega) (by simp)) (fun _ _ => trivial)); (case aC => exact Kd.C_alloc HC4.out _); (case aB => exact below_alloc HB4.out _); (case aS => simp; omega); (case aL => simp; omega); intro v5 w5 HO5 hB5 _ _)))
      go_ret
      exact ⟨_, rfl, by unfold tableOf; rw [othersOf, Hns.out, ← H1.out]; exact HO5, hB5⟩
end Go.Proofs.Ytamihmofmjkfoaa.X
