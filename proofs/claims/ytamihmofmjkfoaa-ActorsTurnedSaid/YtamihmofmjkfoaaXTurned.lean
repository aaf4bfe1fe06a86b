/- Who is spoken of hangs on no order of the ops, nor on how often: the law's walk. Condition: none beyond what a slice's reading brings. -/
import Derived.Test.YtamihmofmjkfoaaXAwake18
import Derived.Test.YtamihmofmjkfoaaXPlain18
import Derived.Deep.RegionHeld3
import Derived.Deep.AppendLies
set_option linter.unusedVariables false
set_option linter.unusedSimpArgs false
namespace Go.Proofs.Ytamihmofmjkfoaa.X
open Go.RowKit Go.Proofs.YtamihmofmjkfoaaW.PrintWords Go.Proofs.YtamihmofmjkfoaaW.PrintLast Go.Proofs.YtamihmofmjkfoaaW.PrintMore Go.Proofs.Ytamihmofmjkfoaa.Q
attribute [local go_sem] max2_int min2_int max_two min_two max_three min_three max_four min_four

set_option maxHeartbeats 1000000 in
set_option maxRecDepth 100000 in
theorem turned_not (a0 : ByteArray) (A1 : Option Addr) (c1 : Nat) (l1 : List Op) (w : World) (hr1 : Kd.C k44 w A1 l1.length l1) (hc1 : l1.length ≤ c1) (h : a0.size > 1000 ∨ fewL l1 40 = false) :
    Calls Try.prog 5 #[.string a0, .slice A1 l1.length c1] w fun e w' => e = .returned (.bool true) ∧ Below w.heap.size w w' := by
  rcases h with h | h
  · go_enter Try.func5, Try.ntmps5
    go_wp2_with fail
    refine (awake18 _).mono ?_
    rintro e w1 ⟨rfl, hB1⟩
    go_wp2_with fail
    refine (awake18 _).mono ?_
    rintro e w2 ⟨rfl, hB2⟩
    go_wp2_with fail
    go_ret
    exact ⟨rfl, below_then hB1 hB1.size hB2⟩
  · by_cases hs : a0.size > 1000
    · go_enter Try.func5, Try.ntmps5
      go_wp2_with fail
      refine (awake18 _).mono ?_
      rintro e w1 ⟨rfl, hB1⟩
      go_wp2_with fail
      refine (awake18 _).mono ?_
      rintro e w2 ⟨rfl, hB2⟩
      go_wp2_with fail
      go_ret
      exact ⟨rfl, below_then hB1 hB1.size hB2⟩
    · have hf : ∀ W, Kd.C k44 W A1 l1.length l1 → Calls Try.prog 15 #[.slice A1 l1.length c1, .int .i64 40] W fun e w' => e = .returned (.bool false) ∧ Drawn0 W w' := fun W hW => by
        have := Few_calls A1 c1 l1 40 W hW hc1 (by omega)
        rw [h] at this
        exact this
      clear h
      go_enter Try.func5, Try.ntmps5
      go_wp2_with fail
      refine (awake18 _).mono ?_
      rintro e w1 ⟨rfl, hB1⟩
      go_wp2_with fail
      refine (hf _ (Kd.C_below hr1 hB1)).mono ?_
      rintro e w2 ⟨rfl, ⟨nd, rfl⟩⟩
      go_wp2_with fail
      refine (awake18 _).mono ?_
      rintro e w3 ⟨rfl, hB3⟩
      go_wp2_with fail
      go_ret
      exact ⟨rfl, below_then (pw_below_drewN hB1 nd) hB1.size hB3⟩

theorem info44 : (Try.prog.info? 44).map (fun i => (i.zero, i.size, i.bytes)) = some (some (.agg #[.int .i64 0, .string ⟨#[]⟩, .string ⟨#[]⟩, .bool false, .int .i64 0, .string ⟨#[]⟩, .bool false, .int .i64 0, .int .i64 0, .int .u64 0, .int .i64 0, .string ⟨#[]⟩, .slice none 0 0]), 13, 152) := by kernel_rfl
abbrev hOp (w : World) : Kd Op := held (k44.K w) 13 (fun h => k44.K_len h) (fun h => k44.K_one h)
def twice (l : List Op) (m : Nat) : List Op := (l.reverse.take m).flatMap fun o => [o, o]
theorem twice_len (l : List Op) (m : Nat) : (twice l m).length ≤ 2 * l.length := by
  have h : ∀ t : List Op, (t.flatMap fun o => [o, o]).length = 2 * t.length := fun t => by induction t with
    | nil => rfl
    | cons a t ih => simp only [List.flatMap_cons, List.length_append, ih, List.length_cons, List.length_nil]; omega
  have := h (l.reverse.take m)
  unfold twice
  simp only [List.length_take, List.length_reverse] at this
  omega
theorem far_cell {w w8 : World} {O : Obj} {row : Option Nat} {p : Addr} {u : Value} (h : w.cell? p = some u) (hp : p.block < w.heap.size) (hg : ((w.alloc O).drew).grownBy w8 row) (hne : row ≠ some p.block) : w8.cell? p = some u :=
  (World.cell?_of_block (hg.block _ (by simp; omega) (fun e => hne e.symm))).trans ((World.cell?_alloc_lt w O p hp).trans h)
theorem at_Op {w : World} {A : Option Addr} {l : List Op} (h : Kd.C k44 w A l.length l) (i : Nat) (hi : i < l.length) (o : Op) (ho : l[i] = o) :
    ∃ ad A12 c12, A = some ad ∧ (ad.add (i * 13)).block < w.heap.size ∧ k44.K w o [.int .i64 o.f0.f0, .string o.f0.f1, .string o.f1, .bool o.f2, .int .i64 o.f3.f0, .string o.f3.f1, .bool o.f4, .int .i64 o.f5, .int .i64 o.f6.f0, .int .u64 o.f6.f1, .int .i64 o.f6.f2, .string o.f6.f3, .slice A12 o.f7.length c12] ∧ w.cell? (ad.add (i * 13)) = some (.int .i64 o.f0.f0) ∧ w.cell? ⟨(ad.add (i * 13)).block, (ad.add (i * 13)).off + 1, none⟩ = some (.string o.f0.f1) ∧ w.cell? ⟨(ad.add (i * 13)).block, (ad.add (i * 13)).off + 2, none⟩ = some (.string o.f1) ∧ w.cell? ⟨(ad.add (i * 13)).block, (ad.add (i * 13)).off + 3, none⟩ = some (.bool o.f2) ∧ w.cell? ⟨(ad.add (i * 13)).block, (ad.add (i * 13)).off + 4, none⟩ = some (.int .i64 o.f3.f0) ∧ w.cell? ⟨(ad.add (i * 13)).block, (ad.add (i * 13)).off + 5, none⟩ = some (.string o.f3.f1) ∧ w.cell? ⟨(ad.add (i * 13)).block, (ad.add (i * 13)).off + 6, none⟩ = some (.bool o.f4) ∧ w.cell? ⟨(ad.add (i * 13)).block, (ad.add (i * 13)).off + 7, none⟩ = some (.int .i64 o.f5) ∧ w.cell? ⟨(ad.add (i * 13)).block, (ad.add (i * 13)).off + 8, none⟩ = some (.int .i64 o.f6.f0) ∧ w.cell? ⟨(ad.add (i * 13)).block, (ad.add (i * 13)).off + 9, none⟩ = some (.int .u64 o.f6.f1) ∧ w.cell? ⟨(ad.add (i * 13)).block, (ad.add (i * 13)).off + 10, none⟩ = some (.int .i64 o.f6.f2) ∧ w.cell? ⟨(ad.add (i * 13)).block, (ad.add (i * 13)).off + 11, none⟩ = some (.string o.f6.f3) ∧ w.cell? ⟨(ad.add (i * 13)).block, (ad.add (i * 13)).off + 12, none⟩ = some (.slice A12 o.f7.length c12) := by
  obtain ⟨ad, c, e, _, hK, hc0⟩ := Kd.C_get h z44 (i : Int) (by omega) (by omega)
  rw [Int.toNat_natCast, getD_get _ _ _ hi, ho] at hK
  have hc : ∀ j u, c[j]? = some u → w.cell? (ad.add (i * 13 + j)) = some u := hc0
  obtain ⟨A12, c12, rfl, h1, h2⟩ := k44_open hK
  exact ⟨ad, A12, c12, e, World.block_lt_of_cell? w _ (hc 0 _ rfl), hK, hc 0 _ rfl, by rw [← add_field _ _ 1 (by omega)]; exact hc 1 _ rfl, by rw [← add_field _ _ 2 (by omega)]; exact hc 2 _ rfl, by rw [← add_field _ _ 3 (by omega)]; exact hc 3 _ rfl, by rw [← add_field _ _ 4 (by omega)]; exact hc 4 _ rfl, by rw [← add_field _ _ 5 (by omega)]; exact hc 5 _ rfl, by rw [← add_field _ _ 6 (by omega)]; exact hc 6 _ rfl, by rw [← add_field _ _ 7 (by omega)]; exact hc 7 _ rfl, by rw [← add_field _ _ 8 (by omega)]; exact hc 8 _ rfl, by rw [← add_field _ _ 9 (by omega)]; exact hc 9 _ rfl, by rw [← add_field _ _ 10 (by omega)]; exact hc 10 _ rfl, by rw [← add_field _ _ 11 (by omega)]; exact hc 11 _ rfl, by rw [← add_field _ _ 12 (by omega)]; exact hc 12 _ rfl⟩
theorem twice_step (l : List Op) (i : Nat) (hi : i < l.length) : twice l (l.length - i) = twice l (l.length - (i + 1)) ++ [l[i], l[i]] := by
  have e : l.length - i = (l.length - (i + 1)) + 1 := by omega
  have hlt : l.length - (i + 1) < l.reverse.length := by simp; omega
  unfold twice
  rw [e, List.take_succ_eq_append_getElem hlt, List.flatMap_append]
  have : l.reverse[l.length - (i + 1)] = l[i] := by
    rw [List.getElem_reverse]
    congr 1
    omega
  rw [this]
  rfl
theorem twice_mem (l : List Op) (o : Op) : o ∈ twice l l.length ↔ o ∈ l := by
  unfold twice
  rw [List.take_of_length_le (by simp), List.mem_flatMap]
  constructor
  · rintro ⟨p, hp, h⟩
    simp only [List.mem_cons, List.not_mem_nil, or_false, or_self] at h
    subst h
    exact List.mem_reverse.1 hp
  · intro h
    exact ⟨o, List.mem_reverse.2 h, List.mem_cons_self⟩
theorem tables_turned (a : ByteArray) (l : List Op) : tableOf a (twice l l.length) = tableOf a l := by
  refine table_same a _ _ fun x => ?_
  simp only [namesOf, List.mem_flatMap, twice_mem]
theorem turned_sm (l : List Op) (hl : (l.length : Int) ≤ 40) (h : ∀ o ∈ l, fewOp o = true) : Sm l ∧ (∀ x ∈ namesOf l, x.f1.size ≤ maxLen) ∧ Sm (twice l l.length) ∧ (∀ x ∈ namesOf (twice l l.length), x.f1.size ≤ maxLen) := by
  have h2 : ∀ o ∈ twice l l.length, fewOp o = true := fun o ho => h o ((twice_mem l o).1 ho)
  have := twice_len l l.length
  refine ⟨few_Sm (by omega) h, fun x hx => ?_, few_Sm (by omega) h2, fun x hx => ?_⟩
  · have := few_names h x hx; unfold maxLen; omega
  · have := few_names h2 x hx; unfold maxLen; omega
structure TuR (w : World) (l : List Op) (v5 : Value) (m : Nat) (wr : World) : Prop where
  hm : m ≤ l.length
  hB : Below w.heap.size w wr
  hR : (hOp w).R 44 wr w.heap.size (fun _ => True) v5 (twice l m)
set_option maxHeartbeats 1000000 in
set_option maxRecDepth 100000 in
theorem turned_yes (a0 : ByteArray) (A1 : Option Addr) (c1 : Nat) (l1 : List Op) (w : World) (hr1 : Kd.C k44 w A1 l1.length l1) (hc1 : l1.length ≤ c1) (ha : a0.size ≤ 1000) (h : fewL l1 40 = true) :
    Calls Try.prog 5 #[.string a0, .slice A1 l1.length c1] w fun e w' => e = .returned (.bool true) ∧ Below w.heap.size w w' := by
  have hf : ∀ W, Kd.C k44 W A1 l1.length l1 → Calls Try.prog 15 #[.slice A1 l1.length c1, .int .i64 40] W fun e w' => e = .returned (.bool true) ∧ Drawn0 W w' := fun W hW => by
    have := Few_calls A1 c1 l1 40 W hW hc1 (by omega)
    rw [h] at this
    exact this
  obtain ⟨hl, hops⟩ := few_sm (by omega) h
  have HO := Lib.hid hops
  clear h hops
  go_enter Try.func5, Try.ntmps5
  go_wp2_with fail
  refine (awake18 _).mono ?_
  rintro e w1 ⟨rfl, hB1⟩
  go_wp2_with fail
  refine (hf _ (Kd.C_below hr1 hB1)).mono ?_
  rintro e w2 ⟨rfl, ⟨nd, rfl⟩⟩
  clear hf
  go_wp2_with fail
  go_loopw [5, 6] (fun v5 v6 wr => ∃ i : Nat, i ≤ l1.length ∧ v6 = .int .i64 ((i : Int) - 1) ∧ TuR w l1 v5 (l1.length - i) wr) (fun _ v6 _ => (intOf v6 + 1).toNat)
  case atStart => exact ⟨l1.length, Nat.le_refl _, rfl, ⟨by omega, pw_below_drewN hB1 nd, by rw [Nat.sub_self]; exact Kd.R_nil _ _ _ _ _⟩⟩
  case round =>
    obtain ⟨i, hi, rfl, hrel⟩ := hrel
    have hs := hrel.hB.size
    by_cases hlt : 1 ≤ i
    · obtain ⟨i, rfl⟩ : ∃ j, i = j + 1 := ⟨i - 1, by omega⟩
      have ei : ((i + 1 : Nat) : Int) - 1 = (i : Int) := by omega
      rw [ei]
      clear ei hlt
      have hi0 : (0 : Int) ≤ (i : Int) := by omega
      have hi1 : (i : Int) < (l1.length : Int) := by omega
      have hin : i < l1.length := by omega
      obtain ⟨o, ho⟩ : ∃ o, l1[i] = o := ⟨_, rfl⟩
      obtain ⟨ad, A12, c12, rfl, hblk, hKo, p0, p1, p2, p3, p4, p5, p6, p7, p8, p9, p10, p11, p12⟩ := at_Op hr1 i hin o ho
      have q0 := pw_cell_below hrel.hB p0
      have q1 := pw_cell_below hrel.hB p1
      have q2 := pw_cell_below hrel.hB p2
      have q3 := pw_cell_below hrel.hB p3
      have q4 := pw_cell_below hrel.hB p4
      have q5 := pw_cell_below hrel.hB p5
      have q6 := pw_cell_below hrel.hB p6
      have q7 := pw_cell_below hrel.hB p7
      have q8 := pw_cell_below hrel.hB p8
      have q9 := pw_cell_below hrel.hB p9
      have q10 := pw_cell_below hrel.hB p10
      have q11 := pw_cell_below hrel.hB p11
      have q12 := pw_cell_below hrel.hB p12
      have Ho := Lib.hid ho
      clear p0 p1 p2 p3 p4 p5 p6 p7 p8 p9 p10 p11 p12 ho
      go_wp2_with fail
      have hlits := (R_readsv (R_lits (hOp w) 44 wr [o, o] _ (((Reps.none _ _).snoc hKo rfl).snoc hKo rfl) (by simp))).2.2
      have HLits := Lib.hid hlits
      have hne : u5.ownBlock ≠ some (ad.add (i * 13)).block := fun e => by have := R_base hrel.hR _ e; omega
      have hlb : (ad.add (i * 13)).block < wr.heap.size := by omega
      have htl := twice_len l1 (l1.length - (i + 1))
      have HRel := Lib.hid hrel
      clear hlits hrel
      go_region_held3 (fun w' => w'.cell? (ad.add (i * 13)) = some (.int .i64 o.f0.f0) ∧ w'.cell? ⟨(ad.add (i * 13)).block, (ad.add (i * 13)).off + 1, none⟩ = some (.string o.f0.f1) ∧ w'.cell? ⟨(ad.add (i * 13)).block, (ad.add (i * 13)).off + 2, none⟩ = some (.string o.f1) ∧ w'.cell? ⟨(ad.add (i * 13)).block, (ad.add (i * 13)).off + 3, none⟩ = some (.bool o.f2) ∧ w'.cell? ⟨(ad.add (i * 13)).block, (ad.add (i * 13)).off + 4, none⟩ = some (.int .i64 o.f3.f0) ∧ w'.cell? ⟨(ad.add (i * 13)).block, (ad.add (i * 13)).off + 5, none⟩ = some (.string o.f3.f1) ∧ w'.cell? ⟨(ad.add (i * 13)).block, (ad.add (i * 13)).off + 6, none⟩ = some (.bool o.f4) ∧ w'.cell? ⟨(ad.add (i * 13)).block, (ad.add (i * 13)).off + 7, none⟩ = some (.int .i64 o.f5) ∧ w'.cell? ⟨(ad.add (i * 13)).block, (ad.add (i * 13)).off + 8, none⟩ = some (.int .i64 o.f6.f0) ∧ w'.cell? ⟨(ad.add (i * 13)).block, (ad.add (i * 13)).off + 9, none⟩ = some (.int .u64 o.f6.f1) ∧ w'.cell? ⟨(ad.add (i * 13)).block, (ad.add (i * 13)).off + 10, none⟩ = some (.int .i64 o.f6.f2) ∧ w'.cell? ⟨(ad.add (i * 13)).block, (ad.add (i * 13)).off + 11, none⟩ = some (.string o.f6.f3) ∧ w'.cell? ⟨(ad.add (i * 13)).block, (ad.add (i * 13)).off + 12, none⟩ = some (.slice A12 o.f7.length c12))
        (first
          | exact ⟨q0, q1, q2, q3, q4, q5, q6, q7, q8, q9, q10, q11, q12⟩
          | go_keep
          | exact ⟨far_cell q0 hlb hg8 hne, far_cell q1 hlb hg8 hne, far_cell q2 hlb hg8 hne, far_cell q3 hlb hg8 hne, far_cell q4 hlb hg8 hne, far_cell q5 hlb hg8 hne, far_cell q6 hlb hg8 hne, far_cell q7 hlb hg8 hne, far_cell q8 hlb hg8 hne, far_cell q9 hlb hg8 hne, far_cell q10 hlb hg8 hne, far_cell q11 hlb hg8 hne, far_cell q12 hlb hg8 hne⟩)
        (go_must (refine Kd.R_append_rows_step (hOp w) (w0 := wr) w.heap.size (by rfl) (.tmp 27) (.tmp 36) 22 44 _ _ (by rfl) Try.underlying22 info44 rfl (by exact Nat.succ_pos _) (by decide) u5 (twice l1 (l1.length - (i + 1))) [o, o] (some ⟨wr.heap.size, 0, none⟩) 2 2 (fun _ => True) (fun _ => False) (by rfl) (by rfl) ?aO ?aR (fun _ _ h => h) (fun _ h => h.elim) (fun _ _ => trivial) ?aB ?aS ?aL ?_; (case aO => exact (by (with_reducible repeat (first | apply Kd.R_alloc | apply Kd.R_drewN | apply Kd.R_drew)); exact HRel.out.hR)); (case aR => exact Kd.C_drew HLits.out); (case aB => exact below_drew (Below.alloc (Below.refl _ _) hs _)); (case aS => simp; omega); (case aL => omega); intro v8 w8 hR8 _ hg8 _))
      go_wp2
      go_roundw
      case rel => exact ⟨i, by omega, rfl, ⟨by omega, pw_below_grown (below_drew (HRel.out.hB.alloc HRel.out.hB.size _)) _ (by simp; omega) hg8 (fun k hk => R_base HRel.out.hR k hk), by rw [twice_step l1 i hin, Ho.out]; exact hR8⟩⟩
      case measure => simp [intOf]
    · obtain rfl : i = 0 := by omega
      have e0 : ((0 : Nat) : Int) - 1 = -1 := rfl
      rw [e0]
      clear e0
      have hB := hrel.hB
      have hR := hrel.hR
      rw [Nat.sub_zero] at hR
      have hT := tables_turned a0 l1
      have hS := turned_sm l1 hl HO.out
      obtain ⟨A5, c5, rfl, hc5, hC5⟩ := Kd.R_reads hR
      have hC5' : Kd.C k44 wr A5 (twice l1 l1.length).length (twice l1 l1.length) := ReadsRow.imp_ hC5 (Below.refl _ _) (fun _ _ h => k44.K_below hB h)
      have hcr := Kd.C_below hr1 hB
      have HT := Lib.hid hT
      clear hC5 hR hrel hr1 hT
      generalize twice l1 l1.length = tw at *
      go_wp2_with fail
      refine (Table_calls a0 _ _ l1 _ hcr hc1 hS.1 (by unfold maxLen; omega) hS.2.1).mono ?_
      rintro e w3 ⟨v3, rfl, hR3, hB3⟩
      obtain ⟨A3, c3, rfl, hc3, hC3⟩ := Kd.R_reads hR3
      go_wp2_with fail
      refine (Table_calls a0 _ _ tw _ (Kd.C_below hC5' hB3) hc5 hS.2.2.1 (by unfold maxLen; omega) hS.2.2.2).mono ?_
      rintro e w4 ⟨v4, rfl, hR4, hB4⟩
      rw [HT.out] at hR4
      obtain ⟨A4, c4, rfl, hc4, hC4⟩ := Kd.R_reads hR4
      have hC34 := Kd.C_below hC3 hB4
      have hlen := table_len a0 l1 hS.1
      have hB34 : Below w.heap.size w w4 := below_then (below_then hB hB.size hB3) (below_then hB hB.size hB3).size hB4
      clear hR3 hR4 hC5' hcr hS hB3 hB4 hC3
      go_wp2_with fail
      refine (Same_calls _ _ _ _ _ _ _ hC34 hc3 hC4 hc4 (by omega)).mono ?_
      rintro e w5 ⟨rfl, ⟨nd, rfl⟩⟩
      go_wp2_with fail
      go_ret
      exact ⟨by simp, pw_below_drewN hB34 nd⟩
theorem turned_calls (a0 : ByteArray) (A1 : Option Addr) (c1 : Nat) (l1 : List Op) (w : World) (hr1 : Kd.C k44 w A1 l1.length l1) (hc1 : l1.length ≤ c1) :
    Calls Try.prog 5 #[.string a0, .slice A1 l1.length c1] w fun e w' => e = .returned (.bool true) ∧ Below w.heap.size w w' := by
  by_cases h : a0.size > 1000 ∨ fewL l1 40 = false
  · exact turned_not a0 A1 c1 l1 w hr1 hc1 h
  · rw [not_or] at h
    exact turned_yes a0 A1 c1 l1 w hr1 hc1 (by omega) (by simpa using h.2)
end Go.Proofs.Ytamihmofmjkfoaa.X
