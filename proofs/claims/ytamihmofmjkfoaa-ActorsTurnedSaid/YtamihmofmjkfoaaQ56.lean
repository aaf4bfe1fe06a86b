-- By myprint.py, out of the translation, by way of the kit's print.
import Derived.Test.YtamihmofmjkfoaaQ0
import Derived.Test.YtamihmofmjkfoaaQ97
namespace Go.Proofs.Ytamihmofmjkfoaa.Q
open Go.RowKit Go.Proofs.YtamihmofmjkfoaaW.PrintWords Go.Proofs.YtamihmofmjkfoaaW.PrintLast Go.Proofs.YtamihmofmjkfoaaW.PrintMore
attribute [local go_sem] max2_int min2_int max_two min_two max_three min_three max_four min_four   -- for this text's walks alone
set_option linter.unusedVariables false
set_option linter.unusedSimpArgs false

/-! ### op_Names: function 56 -/
mutual
def op_Names.l0 : Nat → List (S38) → List (S44) → Int → Int → Option ((List (S38)))
  | 0, _, _, _, _ => none
  | k + 1, x3, x8, x9, x10 => if x10 < x9 then (if 0 ≤ x10 then (if x10 < (x8.length : Int) then ((some (([(⟨(rd_T44 x8 x10).f0.f0, (rd_T44 x8 x10).f0.f1⟩ : S38), (⟨(rd_T44 x8 x10).f3.f0, (rd_T44 x8 x10).f3.f1⟩ : S38)] : List (S38)) : List (S38))).bind fun y112 => (if y112.length + ((rd_T44 x8 x10).f7).length < 5864062014805 then ((some (y112 ++ ((rd_T44 x8 x10).f7) : List (S38))).bind fun y115 => (op_Names.l1 k x3 x8 x9 x10 y115 (y115.length : Int) 0)) else (none))) else (none)) else (none)) else (some x3)
def op_Names.l1 : Nat → List (S38) → List (S44) → Int → Int → List (S38) → Int → Int → Option ((List (S38)))
  | 0, _, _, _, _, _, _, _ => none
  | k + 1, x3, x8, x9, x10, x21, x22, x23 => if x23 < x22 then (if 0 ≤ x23 then (if x23 < (x21.length : Int) then ((op_Zero.f ((rd_T38 x21 x23).f0) ((rd_T38 x21 x23).f1)).bind fun t120 => (if t120 = true then (op_Names.l1 k x3 x8 x9 x10 x21 x22 (wrap64 (x23 + 1))) else (if x3.length < 5864062014805 then (op_Names.l1 k (x3 ++ [(⟨(rd_T38 x21 x23).f0, (rd_T38 x21 x23).f1⟩ : S38)]) x8 x9 x10 x21 x22 (wrap64 (x23 + 1))) else (none)))) else (none)) else (none)) else (op_Names.l0 k x3 x8 x9 (wrap64 (x10 + 1)))
end
def op_Names.f (k : Nat) (l0 : List (S44)) : Option ((List (S38))) := op_Names.l0 k ([] : List (S38)) l0 (l0.length : Int) 0
theorem op_Names.mono_l : ∀ k, (∀ y0 y1 y2 y3, LeO (op_Names.l0 k y0 y1 y2 y3) (op_Names.l0 (k + 1) y0 y1 y2 y3)) ∧ (∀ y0 y1 y2 y3 y4 y5 y6, LeO (op_Names.l1 k y0 y1 y2 y3 y4 y5 y6) (op_Names.l1 (k + 1) y0 y1 y2 y3 y4 y5 y6))
  | 0 => ⟨fun _ _ _ _ r h => by simp [op_Names.l0] at h, fun _ _ _ _ _ _ _ r h => by simp [op_Names.l1] at h⟩
  | k + 1 => by
    obtain ⟨ih0, ih1⟩ := op_Names.mono_l k
    refine ⟨?_, ?_⟩
    · intro y0 y1 y2 y3
      unfold op_Names.l0
      repeat' first
      | (with_reducible exact ih0 _ _ _ _)
      | (with_reducible exact ih1 _ _ _ _ _ _ _)
      | (with_reducible exact LeO.refl _)
      | (with_reducible exact LeO.none _)
      | (with_reducible refine LeO.ite ?_ ?_)
      | (with_reducible refine LeO.bind ?_ (fun _ => ?_))
      | exact ih0 _ _ _ _
      | exact ih1 _ _ _ _ _ _ _
      | exact LeO.none _
      | refine LeO.ite ?_ ?_
      | refine LeO.bind ?_ (fun _ => ?_)
    · intro y0 y1 y2 y3 y4 y5 y6
      unfold op_Names.l1
      repeat' first
      | (with_reducible exact ih0 _ _ _ _)
      | (with_reducible exact ih1 _ _ _ _ _ _ _)
      | (with_reducible exact LeO.refl _)
      | (with_reducible exact LeO.none _)
      | (with_reducible refine LeO.ite ?_ ?_)
      | (with_reducible refine LeO.bind ?_ (fun _ => ?_))
      | exact ih0 _ _ _ _
      | exact ih1 _ _ _ _ _ _ _
      | exact LeO.none _
      | refine LeO.ite ?_ ?_
      | refine LeO.bind ?_ (fun _ => ?_)
theorem op_Names.mono : ∀ a0 k, LeO (op_Names.f k a0) (op_Names.f (k + 1) a0) := by
  intro a0 k
  obtain ⟨ih0, ih1⟩ := op_Names.mono_l k
  unfold op_Names.f
  repeat' first
      | (with_reducible exact ih0 _ _ _ _)
      | (with_reducible exact ih1 _ _ _ _ _ _ _)
      | (with_reducible exact LeO.refl _)
      | (with_reducible exact LeO.none _)
      | (with_reducible refine LeO.ite ?_ ?_)
      | (with_reducible refine LeO.bind ?_ (fun _ => ?_))
      | exact ih0 _ _ _ _
      | exact ih1 _ _ _ _ _ _ _
      | exact LeO.none _
      | refine LeO.ite ?_ ?_
      | refine LeO.bind ?_ (fun _ => ?_)
set_option maxHeartbeats 8000000 in
set_option maxRecDepth 100000 in
theorem op_Names.calls (k : Nat) (A0 : Option Addr) (c0 : Nat) (l0 : List (S44)) (r : List (S38)) (w : World) (hr0 : Kd.C k44 w A0 l0.length l0) (hc0 : l0.length ≤ c0) (h : op_Names.f k l0 = some r) :
    Calls Try.prog 56 #[.slice A0 l0.length c0] w fun e w' => ∃ v0_ : Value, e = .returned (v0_) ∧ Kd.R k38 38 w' w.heap.size (fun _ => True) v0_ r ∧ Below w.heap.size w w' := by
  have hu44 := Try.underlying44
  have hu38 := Try.underlying38
  have HR0 := Aside0.mk hr0
  have HC0 := Aside0.mk hc0
  clear hr0 hc0
  have HB := Aside0.mk (Below.refl w.heap.size w)
  have H : (op_Names.l0 k ([] : List (S38)) l0 (l0.length : Int) 0) = some r := h
  clear h
  have H' := Aside0.mk H
  clear H
  go_enter Try.func56, Try.ntmps56
  go_wp2
  go_loopg [3, 10] k (fun kq v3 v10 w' => ∃ (x3_1 : List (S38)) (x10_1 : Int), v10 = .int .i64 x10_1 ∧ Aside0 (op_Names.l0 kq x3_1 l0 (l0.length : Int) x10_1 = some r) ∧ Aside0 (kq ≤ k) ∧ Aside0 (Kd.R k38 38 w' w.heap.size (fun _ => True) v3 x3_1) ∧ Aside0 (Below w.heap.size w w'))
  case atStart => exact ⟨(([] : List (S38))), (0), (by first | rfl | (simp; done) | (simp [*]; done)), H', ⟨Nat.le_refl _⟩, ⟨by first | exact Kd.R_nil _ _ _ _ _ | exact Kd.N_nil _ _ _ _ _ | exact Kd.V_nil _ _ _ _ _ | exact Kd.Q_nil _ _ _ _ _ | exact Kd.S_nil _ _ _ _ _⟩, ⟨by repeat (first | (with_reducible first | exact HB.out | apply below_alloc | apply pw_below_drewN | apply below_drew1) | exact HB.out)⟩⟩
  case round =>
    clear H'
    obtain ⟨x3_1, x10_1, rfl, HA, HK1, HO_3, HB⟩ := hrel
    cases gk with
    | zero => exact absurd HA.out (by simp [op_Names.l0])
    | succ k1 =>
      have H := HA.out
      clear HA
      simp only [op_Names.l0] at H
      by_cases c2 : x10_1 < (l0.length : Int)
      · rw [if_pos c2] at H
        have c2b0 : decide (x10_1 < (l0.length : Int)) = true := decide_eq_true c2
        clear c2
        by_cases c3 : 0 ≤ x10_1
        · rw [if_pos c3] at H
          have c3b0 : decide (0 ≤ x10_1) = true := decide_eq_true c3
          clear c3
          by_cases c4 : x10_1 < (l0.length : Int)
          · rw [if_pos c4] at H
            have c4b0 : decide (x10_1 < (l0.length : Int)) = true := decide_eq_true c4
            clear c4
            obtain ⟨y112, hy112⟩ : ∃ y_ : List (S38), y_ = (([(⟨(rd_T44 l0 x10_1).f0.f0, (rd_T44 l0 x10_1).f0.f1⟩ : S38), (⟨(rd_T44 l0 x10_1).f3.f0, (rd_T44 l0 x10_1).f3.f1⟩ : S38)] : List (S38))) := ⟨_, rfl⟩
            replace H : (if y112.length + ((rd_T44 l0 x10_1).f7).length < 5864062014805 then ((some (y112 ++ ((rd_T44 l0 x10_1).f7) : List (S38))).bind fun y115 => (op_Names.l1 k1 x3_1 l0 (l0.length : Int) x10_1 y115 (y115.length : Int) 0)) else (none)) = some r := by first | (rw [hy112]; with_reducible exact H) | (have H2_ := (Option.bind_some _ _).symm.trans H; rw [hy112]; with_reducible exact H2_) | (have H2_ := (Option.bind_some _ _).symm.trans H; with_reducible exact H2_) | with_reducible exact H | (rw [hy112]; exact H) | exact H
            have Ny112 := Aside0.mk hy112
            clear hy112
            by_cases c5 : y112.length + ((rd_T44 l0 x10_1).f7).length < 5864062014805
            · rw [if_pos c5] at H
              have LMc5 := Aside0.mk c5
              clear c5
              obtain ⟨y115, hy115⟩ : ∃ y_ : List (S38), y_ = (y112 ++ ((rd_T44 l0 x10_1).f7)) := ⟨_, rfl⟩
              replace H : (op_Names.l1 k1 x3_1 l0 (l0.length : Int) x10_1 y115 (y115.length : Int) 0) = some r := by first | (rw [hy115]; with_reducible exact H) | (have H2_ := (Option.bind_some _ _).symm.trans H; rw [hy115]; with_reducible exact H2_) | (have H2_ := (Option.bind_some _ _).symm.trans H; with_reducible exact H2_) | with_reducible exact H | (rw [hy115]; exact H) | exact H
              have Ny115 := Aside0.mk hy115
              clear hy115
              have H' := Aside0.mk H
              clear H
              have p110 : 0 ≤ (x10_1 : Int) := of_decide_eq_true (by first | (with_reducible assumption) | assumption)
              have q110 : x10_1 < (l0.length : Int) := of_decide_eq_true (by first | (with_reducible assumption) | assumption)
              obtain ⟨ad110, A110_12, c110_12, e110, hx110_0, hx110_1, hx110_2, hx110_3, hx110_4, hx110_5, hx110_6, hx110_7, hx110_8, hx110_9, hx110_10, hx110_11, hx110_12, hl110_12, hi110_12⟩ := at_T44 HR0.out x10_1 p110 q110
              cases e110
              replace hx110_0 := (HB.out.cell (World.block_lt_of_cell? w _ hx110_0)).trans hx110_0
              replace hx110_1 := (HB.out.cell (World.block_lt_of_cell? w _ hx110_1)).trans hx110_1
              replace hx110_2 := (HB.out.cell (World.block_lt_of_cell? w _ hx110_2)).trans hx110_2
              replace hx110_3 := (HB.out.cell (World.block_lt_of_cell? w _ hx110_3)).trans hx110_3
              replace hx110_4 := (HB.out.cell (World.block_lt_of_cell? w _ hx110_4)).trans hx110_4
              replace hx110_5 := (HB.out.cell (World.block_lt_of_cell? w _ hx110_5)).trans hx110_5
              replace hx110_6 := (HB.out.cell (World.block_lt_of_cell? w _ hx110_6)).trans hx110_6
              replace hx110_7 := (HB.out.cell (World.block_lt_of_cell? w _ hx110_7)).trans hx110_7
              replace hx110_8 := (HB.out.cell (World.block_lt_of_cell? w _ hx110_8)).trans hx110_8
              replace hx110_9 := (HB.out.cell (World.block_lt_of_cell? w _ hx110_9)).trans hx110_9
              replace hx110_10 := (HB.out.cell (World.block_lt_of_cell? w _ hx110_10)).trans hx110_10
              replace hx110_11 := (HB.out.cell (World.block_lt_of_cell? w _ hx110_11)).trans hx110_11
              replace hx110_12 := (HB.out.cell (World.block_lt_of_cell? w _ hx110_12)).trans hx110_12
              have HR110_12 := Aside0.mk hi110_12
              have HC110_12 := Aside0.mk hl110_12
              clear hi110_12 hl110_12
              replace p110 := eq_true p110
              replace q110 := eq_true q110
              go_wp2_with (first | ((with_reducible refine gate_dst (N := 5) rfl ?_); refine box_event ?hg (N := 5) ?hd (cs := #[.int .i64 0, .string (⟨#[]⟩ : ByteArray), .string (⟨#[]⟩ : ByteArray), .bool false, .int .i64 0, .string (⟨#[]⟩ : ByteArray), .bool false, .int .i64 0, .int .i64 0, .int .u64 0, .int .i64 0, .string (⟨#[]⟩ : ByteArray), .slice none 0 0]) (t := 44) ?hr ?_; (case hd => rfl); (case hg => rfl); (case hr => first | (go_simp; done) | (go_simp; rfl)); intro gb111 hg w6 hbox hb; have n0_ := Aside0.mk (Kd.R_below (by (with_reducible repeat (first | apply Kd.R_alloc | apply Kd.R_drewN | apply Kd.R_drew)); exact HO_3.out) hb); have n1_ := Aside0.mk (below_step (by repeat (first | (with_reducible first | exact HB.out | apply below_alloc | apply pw_below_drewN | apply below_drew1) | exact HB.out)) hb); have n2_ := Aside0.mk (hbox); have n3_ := Aside0.mk ((by rw [hg]; exact (below_size (by repeat (first | (with_reducible first | exact HB.out | apply below_alloc | apply pw_below_drewN | apply below_drew1) | exact HB.out))) : w.heap.size ≤ gb111)); have n4_ := Aside0.mk ((by rw [hg]; exact (below_size (by repeat (first | (with_reducible first | exact HB.out | apply below_alloc | apply pw_below_drewN | apply below_drew1) | exact HB.out))) : w.heap.size ≤ gb111)); clear HO_3; clear HB; have HO_3 := n0_; have HB := n1_; have BK111 := n2_; have GW111 := n3_; have GE111 := n4_; clear n0_ n1_ n2_ n3_ n4_; clear hb hbox hg; have hcz7_0 : w6.cell? ⟨gb111, 0, none⟩ = some (.int .i64 0) := (blk_cell BK111.out 0).trans rfl; have hcz7_1 : w6.cell? ⟨gb111, 1, none⟩ = some (.string (⟨#[]⟩ : ByteArray)) := (blk_cell BK111.out 1).trans rfl; have hcz7_2 : w6.cell? ⟨gb111, 2, none⟩ = some (.string (⟨#[]⟩ : ByteArray)) := (blk_cell BK111.out 2).trans rfl; have hcz7_3 : w6.cell? ⟨gb111, 3, none⟩ = some (.bool false) := (blk_cell BK111.out 3).trans rfl; have hcz7_4 : w6.cell? ⟨gb111, 4, none⟩ = some (.int .i64 0) := (blk_cell BK111.out 4).trans rfl; have hcz7_5 : w6.cell? ⟨gb111, 5, none⟩ = some (.string (⟨#[]⟩ : ByteArray)) := (blk_cell BK111.out 5).trans rfl; have hcz7_6 : w6.cell? ⟨gb111, 6, none⟩ = some (.bool false) := (blk_cell BK111.out 6).trans rfl; have hcz7_7 : w6.cell? ⟨gb111, 7, none⟩ = some (.int .i64 0) := (blk_cell BK111.out 7).trans rfl; have hcz7_8 : w6.cell? ⟨gb111, 8, none⟩ = some (.int .i64 0) := (blk_cell BK111.out 8).trans rfl; have hcz7_9 : w6.cell? ⟨gb111, 9, none⟩ = some (.int .u64 0) := (blk_cell BK111.out 9).trans rfl; have hcz7_10 : w6.cell? ⟨gb111, 10, none⟩ = some (.int .i64 0) := (blk_cell BK111.out 10).trans rfl; have hcz7_11 : w6.cell? ⟨gb111, 11, none⟩ = some (.string (⟨#[]⟩ : ByteArray)) := (blk_cell BK111.out 11).trans rfl; have hcz7_12 : w6.cell? ⟨gb111, 12, none⟩ = some (.slice none 0 0) := (blk_cell BK111.out 12).trans rfl; have hfz7_0 := blk_frozen BK111.out 0; have hfz7_1 := blk_frozen BK111.out 1; have hfz7_2 := blk_frozen BK111.out 2; have hfz7_3 := blk_frozen BK111.out 3; have hfz7_4 := blk_frozen BK111.out 4; have hfz7_5 := blk_frozen BK111.out 5; have hfz7_6 := blk_frozen BK111.out 6; have hfz7_7 := blk_frozen BK111.out 7; have hfz7_8 := blk_frozen BK111.out 8; have hfz7_9 := blk_frozen BK111.out 9; have hfz7_10 := blk_frozen BK111.out 10; have hfz7_11 := blk_frozen BK111.out 11; have hfz7_12 := blk_frozen BK111.out 12) | ((with_reducible refine gate_dst (N := 18) rfl ?_); refine Kd.R_lit k38 _ 38 ?hg (N := 18) ?hd (xs := ([(⟨(rd_T44 l0 x10_1).f0.f0, (rd_T44 l0 x10_1).f0.f1⟩ : S38), (⟨(rd_T44 l0 x10_1).f3.f0, (rd_T44 l0 x10_1).f3.f1⟩ : S38)] : List (S38))) (inner := [.int .i64 ((rd_T44 l0 x10_1).f0.f0), .string ((rd_T44 l0 x10_1).f0.f1), .int .i64 ((rd_T44 l0 x10_1).f3.f0), .string ((rd_T44 l0 x10_1).f3.f1)]) (ok := fun _ => True) (okp := fun _ => True) ?hr ?hp (fun _ hk => hk) trivial (Below.refl _ _) (Nat.le_refl _) (by simp) ?_; (case hd => rfl); (case hg => rfl); (case hr => first | (go_simp; done) | (go_simp; rfl)); (case hp => exact (Reps.c2 (show Kd.M k38 _ _ _ (⟨(rd_T44 l0 x10_1).f0.f0, (rd_T44 l0 x10_1).f0.f1⟩ : S38) [.int .i64 ((rd_T44 l0 x10_1).f0.f0), .string ((rd_T44 l0 x10_1).f0.f1)] from (k38_mkM _ _ _ (⟨(rd_T44 l0 x10_1).f0.f0, (rd_T44 l0 x10_1).f0.f1⟩ : S38) )) (Reps.c2 (show Kd.M k38 _ _ _ (⟨(rd_T44 l0 x10_1).f3.f0, (rd_T44 l0 x10_1).f3.f1⟩ : S38) [.int .i64 ((rd_T44 l0 x10_1).f3.f0), .string ((rd_T44 l0 x10_1).f3.f1)] from (k38_mkM _ _ _ (⟨(rd_T44 l0 x10_1).f3.f0, (rd_T44 l0 x10_1).f3.f1⟩ : S38) )) (Reps.none _ _)))); intro v113 w8 ho9 hb hg_ hnew_; clear hg_ hnew_; (first | rw [← Ny112.out] at ho9 | (simp only [Int.reduceToNat] at ho9; rw [← Ny112.out] at ho9)); have n0_ := Aside0.mk (Kd.R_elder' (by (with_reducible repeat (first | apply Kd.R_alloc | apply Kd.R_drewN | apply Kd.R_drew)); exact (Kd.R_mono (Kd.R_far (p := ⟨gb111, 12, none⟩) (Kd.R_far (p := ⟨gb111, 11, none⟩) (Kd.R_far (p := ⟨gb111, 10, none⟩) (Kd.R_far (p := ⟨gb111, 9, none⟩) (Kd.R_far (p := ⟨gb111, 8, none⟩) (Kd.R_far (p := ⟨gb111, 7, none⟩) (Kd.R_far (p := ⟨gb111, 6, none⟩) (Kd.R_far (p := ⟨gb111, 5, none⟩) (Kd.R_far (p := ⟨gb111, 4, none⟩) (Kd.R_far (p := ⟨gb111, 3, none⟩) (Kd.R_far (p := ⟨gb111, 2, none⟩) (Kd.R_far (p := ⟨gb111, 1, none⟩) (Kd.R_far (p := ⟨gb111, 0, none⟩) (Kd.R_types HO_3.out BK111.out (by decide)) (fun _ hk => hk.2) (.int .i64 ((rd_T44 l0 x10_1).f0.f0))) (fun _ hk => hk.2) (.string ((rd_T44 l0 x10_1).f0.f1))) (fun _ hk => hk.2) (.string ((rd_T44 l0 x10_1).f1))) (fun _ hk => hk.2) (.bool ((rd_T44 l0 x10_1).f2))) (fun _ hk => hk.2) (.int .i64 ((rd_T44 l0 x10_1).f3.f0))) (fun _ hk => hk.2) (.string ((rd_T44 l0 x10_1).f3.f1))) (fun _ hk => hk.2) (.bool ((rd_T44 l0 x10_1).f4))) (fun _ hk => hk.2) (.int .i64 ((rd_T44 l0 x10_1).f5))) (fun _ hk => hk.2) (.int .i64 ((rd_T44 l0 x10_1).f6.f0))) (fun _ hk => hk.2) (.int .u64 ((rd_T44 l0 x10_1).f6.f1))) (fun _ hk => hk.2) (.int .i64 ((rd_T44 l0 x10_1).f6.f2))) (fun _ hk => hk.2) (.string ((rd_T44 l0 x10_1).f6.f3))) (fun _ hk => hk.2) (.slice A110_12 ((rd_T44 l0 x10_1).f7).length c110_12)) (fun _ h_ => h_.1))) (Kd.R_base ho9) hb); have n1_ := Aside0.mk (Kd.R_lower (Kd.R_new' ho9 (Kd.R_lt (by (with_reducible repeat (first | apply Kd.R_alloc | apply Kd.R_drewN | apply Kd.R_drew)); exact (Kd.R_mono (Kd.R_far (p := ⟨gb111, 12, none⟩) (Kd.R_far (p := ⟨gb111, 11, none⟩) (Kd.R_far (p := ⟨gb111, 10, none⟩) (Kd.R_far (p := ⟨gb111, 9, none⟩) (Kd.R_far (p := ⟨gb111, 8, none⟩) (Kd.R_far (p := ⟨gb111, 7, none⟩) (Kd.R_far (p := ⟨gb111, 6, none⟩) (Kd.R_far (p := ⟨gb111, 5, none⟩) (Kd.R_far (p := ⟨gb111, 4, none⟩) (Kd.R_far (p := ⟨gb111, 3, none⟩) (Kd.R_far (p := ⟨gb111, 2, none⟩) (Kd.R_far (p := ⟨gb111, 1, none⟩) (Kd.R_far (p := ⟨gb111, 0, none⟩) (Kd.R_types HO_3.out BK111.out (by decide)) (fun _ hk => hk.2) (.int .i64 ((rd_T44 l0 x10_1).f0.f0))) (fun _ hk => hk.2) (.string ((rd_T44 l0 x10_1).f0.f1))) (fun _ hk => hk.2) (.string ((rd_T44 l0 x10_1).f1))) (fun _ hk => hk.2) (.bool ((rd_T44 l0 x10_1).f2))) (fun _ hk => hk.2) (.int .i64 ((rd_T44 l0 x10_1).f3.f0))) (fun _ hk => hk.2) (.string ((rd_T44 l0 x10_1).f3.f1))) (fun _ hk => hk.2) (.bool ((rd_T44 l0 x10_1).f4))) (fun _ hk => hk.2) (.int .i64 ((rd_T44 l0 x10_1).f5))) (fun _ hk => hk.2) (.int .i64 ((rd_T44 l0 x10_1).f6.f0))) (fun _ hk => hk.2) (.int .u64 ((rd_T44 l0 x10_1).f6.f1))) (fun _ hk => hk.2) (.int .i64 ((rd_T44 l0 x10_1).f6.f2))) (fun _ hk => hk.2) (.string ((rd_T44 l0 x10_1).f6.f3))) (fun _ hk => hk.2) (.slice A110_12 ((rd_T44 l0 x10_1).f7).length c110_12)) (fun _ h_ => h_.1))))) (below_size (by repeat (first | (with_reducible first | exact HB.out | apply below_alloc | apply pw_below_drewN | apply below_drew1 | refine below_set ?_ GE111.out) | exact HB.out)))); have n2_ := Aside0.mk (blk_below (g := gb111) (o := .cells #[.int .i64 ((rd_T44 l0 x10_1).f0.f0), .string ((rd_T44 l0 x10_1).f0.f1), .string ((rd_T44 l0 x10_1).f1), .bool ((rd_T44 l0 x10_1).f2), .int .i64 ((rd_T44 l0 x10_1).f3.f0), .string ((rd_T44 l0 x10_1).f3.f1), .bool ((rd_T44 l0 x10_1).f4), .int .i64 ((rd_T44 l0 x10_1).f5), .int .i64 ((rd_T44 l0 x10_1).f6.f0), .int .u64 ((rd_T44 l0 x10_1).f6.f1), .int .i64 ((rd_T44 l0 x10_1).f6.f2), .string ((rd_T44 l0 x10_1).f6.f3), .slice A110_12 ((rd_T44 l0 x10_1).f7).length c110_12] 44 (0, 0)) (by (with_reducible repeat (first | refine blk_drewN ?_ _ | refine blk_drew ?_ | refine blk_alloc ?_ _)); refine blk_put (cs := #[.int .i64 ((rd_T44 l0 x10_1).f0.f0), .string ((rd_T44 l0 x10_1).f0.f1), .string ((rd_T44 l0 x10_1).f1), .bool ((rd_T44 l0 x10_1).f2), .int .i64 ((rd_T44 l0 x10_1).f3.f0), .string ((rd_T44 l0 x10_1).f3.f1), .bool ((rd_T44 l0 x10_1).f4), .int .i64 ((rd_T44 l0 x10_1).f5), .int .i64 ((rd_T44 l0 x10_1).f6.f0), .int .u64 ((rd_T44 l0 x10_1).f6.f1), .int .i64 ((rd_T44 l0 x10_1).f6.f2), .string ((rd_T44 l0 x10_1).f6.f3), .slice none 0 0]) ?_ 12 _ rfl; (with_reducible repeat (first | refine blk_drewN ?_ _ | refine blk_drew ?_ | refine blk_alloc ?_ _)); refine blk_put (cs := #[.int .i64 ((rd_T44 l0 x10_1).f0.f0), .string ((rd_T44 l0 x10_1).f0.f1), .string ((rd_T44 l0 x10_1).f1), .bool ((rd_T44 l0 x10_1).f2), .int .i64 ((rd_T44 l0 x10_1).f3.f0), .string ((rd_T44 l0 x10_1).f3.f1), .bool ((rd_T44 l0 x10_1).f4), .int .i64 ((rd_T44 l0 x10_1).f5), .int .i64 ((rd_T44 l0 x10_1).f6.f0), .int .u64 ((rd_T44 l0 x10_1).f6.f1), .int .i64 ((rd_T44 l0 x10_1).f6.f2), .string (⟨#[]⟩ : ByteArray), .slice none 0 0]) ?_ 11 _ rfl; (with_reducible repeat (first | refine blk_drewN ?_ _ | refine blk_drew ?_ | refine blk_alloc ?_ _)); refine blk_put (cs := #[.int .i64 ((rd_T44 l0 x10_1).f0.f0), .string ((rd_T44 l0 x10_1).f0.f1), .string ((rd_T44 l0 x10_1).f1), .bool ((rd_T44 l0 x10_1).f2), .int .i64 ((rd_T44 l0 x10_1).f3.f0), .string ((rd_T44 l0 x10_1).f3.f1), .bool ((rd_T44 l0 x10_1).f4), .int .i64 ((rd_T44 l0 x10_1).f5), .int .i64 ((rd_T44 l0 x10_1).f6.f0), .int .u64 ((rd_T44 l0 x10_1).f6.f1), .int .i64 0, .string (⟨#[]⟩ : ByteArray), .slice none 0 0]) ?_ 10 _ rfl; (with_reducible repeat (first | refine blk_drewN ?_ _ | refine blk_drew ?_ | refine blk_alloc ?_ _)); refine blk_put (cs := #[.int .i64 ((rd_T44 l0 x10_1).f0.f0), .string ((rd_T44 l0 x10_1).f0.f1), .string ((rd_T44 l0 x10_1).f1), .bool ((rd_T44 l0 x10_1).f2), .int .i64 ((rd_T44 l0 x10_1).f3.f0), .string ((rd_T44 l0 x10_1).f3.f1), .bool ((rd_T44 l0 x10_1).f4), .int .i64 ((rd_T44 l0 x10_1).f5), .int .i64 ((rd_T44 l0 x10_1).f6.f0), .int .u64 0, .int .i64 0, .string (⟨#[]⟩ : ByteArray), .slice none 0 0]) ?_ 9 _ rfl; (with_reducible repeat (first | refine blk_drewN ?_ _ | refine blk_drew ?_ | refine blk_alloc ?_ _)); refine blk_put (cs := #[.int .i64 ((rd_T44 l0 x10_1).f0.f0), .string ((rd_T44 l0 x10_1).f0.f1), .string ((rd_T44 l0 x10_1).f1), .bool ((rd_T44 l0 x10_1).f2), .int .i64 ((rd_T44 l0 x10_1).f3.f0), .string ((rd_T44 l0 x10_1).f3.f1), .bool ((rd_T44 l0 x10_1).f4), .int .i64 ((rd_T44 l0 x10_1).f5), .int .i64 0, .int .u64 0, .int .i64 0, .string (⟨#[]⟩ : ByteArray), .slice none 0 0]) ?_ 8 _ rfl; (with_reducible repeat (first | refine blk_drewN ?_ _ | refine blk_drew ?_ | refine blk_alloc ?_ _)); refine blk_put (cs := #[.int .i64 ((rd_T44 l0 x10_1).f0.f0), .string ((rd_T44 l0 x10_1).f0.f1), .string ((rd_T44 l0 x10_1).f1), .bool ((rd_T44 l0 x10_1).f2), .int .i64 ((rd_T44 l0 x10_1).f3.f0), .string ((rd_T44 l0 x10_1).f3.f1), .bool ((rd_T44 l0 x10_1).f4), .int .i64 0, .int .i64 0, .int .u64 0, .int .i64 0, .string (⟨#[]⟩ : ByteArray), .slice none 0 0]) ?_ 7 _ rfl; (with_reducible repeat (first | refine blk_drewN ?_ _ | refine blk_drew ?_ | refine blk_alloc ?_ _)); refine blk_put (cs := #[.int .i64 ((rd_T44 l0 x10_1).f0.f0), .string ((rd_T44 l0 x10_1).f0.f1), .string ((rd_T44 l0 x10_1).f1), .bool ((rd_T44 l0 x10_1).f2), .int .i64 ((rd_T44 l0 x10_1).f3.f0), .string ((rd_T44 l0 x10_1).f3.f1), .bool false, .int .i64 0, .int .i64 0, .int .u64 0, .int .i64 0, .string (⟨#[]⟩ : ByteArray), .slice none 0 0]) ?_ 6 _ rfl; (with_reducible repeat (first | refine blk_drewN ?_ _ | refine blk_drew ?_ | refine blk_alloc ?_ _)); refine blk_put (cs := #[.int .i64 ((rd_T44 l0 x10_1).f0.f0), .string ((rd_T44 l0 x10_1).f0.f1), .string ((rd_T44 l0 x10_1).f1), .bool ((rd_T44 l0 x10_1).f2), .int .i64 ((rd_T44 l0 x10_1).f3.f0), .string (⟨#[]⟩ : ByteArray), .bool false, .int .i64 0, .int .i64 0, .int .u64 0, .int .i64 0, .string (⟨#[]⟩ : ByteArray), .slice none 0 0]) ?_ 5 _ rfl; (with_reducible repeat (first | refine blk_drewN ?_ _ | refine blk_drew ?_ | refine blk_alloc ?_ _)); refine blk_put (cs := #[.int .i64 ((rd_T44 l0 x10_1).f0.f0), .string ((rd_T44 l0 x10_1).f0.f1), .string ((rd_T44 l0 x10_1).f1), .bool ((rd_T44 l0 x10_1).f2), .int .i64 0, .string (⟨#[]⟩ : ByteArray), .bool false, .int .i64 0, .int .i64 0, .int .u64 0, .int .i64 0, .string (⟨#[]⟩ : ByteArray), .slice none 0 0]) ?_ 4 _ rfl; (with_reducible repeat (first | refine blk_drewN ?_ _ | refine blk_drew ?_ | refine blk_alloc ?_ _)); refine blk_put (cs := #[.int .i64 ((rd_T44 l0 x10_1).f0.f0), .string ((rd_T44 l0 x10_1).f0.f1), .string ((rd_T44 l0 x10_1).f1), .bool false, .int .i64 0, .string (⟨#[]⟩ : ByteArray), .bool false, .int .i64 0, .int .i64 0, .int .u64 0, .int .i64 0, .string (⟨#[]⟩ : ByteArray), .slice none 0 0]) ?_ 3 _ rfl; (with_reducible repeat (first | refine blk_drewN ?_ _ | refine blk_drew ?_ | refine blk_alloc ?_ _)); refine blk_put (cs := #[.int .i64 ((rd_T44 l0 x10_1).f0.f0), .string ((rd_T44 l0 x10_1).f0.f1), .string (⟨#[]⟩ : ByteArray), .bool false, .int .i64 0, .string (⟨#[]⟩ : ByteArray), .bool false, .int .i64 0, .int .i64 0, .int .u64 0, .int .i64 0, .string (⟨#[]⟩ : ByteArray), .slice none 0 0]) ?_ 2 _ rfl; (with_reducible repeat (first | refine blk_drewN ?_ _ | refine blk_drew ?_ | refine blk_alloc ?_ _)); refine blk_put (cs := #[.int .i64 ((rd_T44 l0 x10_1).f0.f0), .string (⟨#[]⟩ : ByteArray), .string (⟨#[]⟩ : ByteArray), .bool false, .int .i64 0, .string (⟨#[]⟩ : ByteArray), .bool false, .int .i64 0, .int .i64 0, .int .u64 0, .int .i64 0, .string (⟨#[]⟩ : ByteArray), .slice none 0 0]) ?_ 1 _ rfl; (with_reducible repeat (first | refine blk_drewN ?_ _ | refine blk_drew ?_ | refine blk_alloc ?_ _)); refine blk_put (cs := #[.int .i64 0, .string (⟨#[]⟩ : ByteArray), .string (⟨#[]⟩ : ByteArray), .bool false, .int .i64 0, .string (⟨#[]⟩ : ByteArray), .bool false, .int .i64 0, .int .i64 0, .int .u64 0, .int .i64 0, .string (⟨#[]⟩ : ByteArray), .slice none 0 0]) ?_ 0 _ rfl; (with_reducible repeat (first | refine blk_drewN ?_ _ | refine blk_drew ?_ | refine blk_alloc ?_ _)); exact BK111.out) hb); have n3_ := Aside0.mk (below_step (by repeat (first | (with_reducible first | exact HB.out | apply below_alloc | apply pw_below_drewN | apply below_drew1 | refine below_set ?_ GE111.out) | exact HB.out)) hb); clear HO_3; clear BK111; clear HB; have HO_3 := n0_; have HO114 := n1_; have BK111 := n2_; have HB := n3_; clear n0_ n1_ n2_ n3_; clear hb ho9; have hcz10_0 : w8.cell? ⟨gb111, 0, none⟩ = some (.int .i64 ((rd_T44 l0 x10_1).f0.f0)) := (blk_cell BK111.out 0).trans rfl; have hcz10_1 : w8.cell? ⟨gb111, 1, none⟩ = some (.string ((rd_T44 l0 x10_1).f0.f1)) := (blk_cell BK111.out 1).trans rfl; have hcz10_2 : w8.cell? ⟨gb111, 2, none⟩ = some (.string ((rd_T44 l0 x10_1).f1)) := (blk_cell BK111.out 2).trans rfl; have hcz10_3 : w8.cell? ⟨gb111, 3, none⟩ = some (.bool ((rd_T44 l0 x10_1).f2)) := (blk_cell BK111.out 3).trans rfl; have hcz10_4 : w8.cell? ⟨gb111, 4, none⟩ = some (.int .i64 ((rd_T44 l0 x10_1).f3.f0)) := (blk_cell BK111.out 4).trans rfl; have hcz10_5 : w8.cell? ⟨gb111, 5, none⟩ = some (.string ((rd_T44 l0 x10_1).f3.f1)) := (blk_cell BK111.out 5).trans rfl; have hcz10_6 : w8.cell? ⟨gb111, 6, none⟩ = some (.bool ((rd_T44 l0 x10_1).f4)) := (blk_cell BK111.out 6).trans rfl; have hcz10_7 : w8.cell? ⟨gb111, 7, none⟩ = some (.int .i64 ((rd_T44 l0 x10_1).f5)) := (blk_cell BK111.out 7).trans rfl; have hcz10_8 : w8.cell? ⟨gb111, 8, none⟩ = some (.int .i64 ((rd_T44 l0 x10_1).f6.f0)) := (blk_cell BK111.out 8).trans rfl; have hcz10_9 : w8.cell? ⟨gb111, 9, none⟩ = some (.int .u64 ((rd_T44 l0 x10_1).f6.f1)) := (blk_cell BK111.out 9).trans rfl; have hcz10_10 : w8.cell? ⟨gb111, 10, none⟩ = some (.int .i64 ((rd_T44 l0 x10_1).f6.f2)) := (blk_cell BK111.out 10).trans rfl; have hcz10_11 : w8.cell? ⟨gb111, 11, none⟩ = some (.string ((rd_T44 l0 x10_1).f6.f3)) := (blk_cell BK111.out 11).trans rfl; have hcz10_12 : w8.cell? ⟨gb111, 12, none⟩ = some (.slice A110_12 ((rd_T44 l0 x10_1).f7).length c110_12) := (blk_cell BK111.out 12).trans rfl; have hfz10_0 := blk_frozen BK111.out 0; have hfz10_1 := blk_frozen BK111.out 1; have hfz10_2 := blk_frozen BK111.out 2; have hfz10_3 := blk_frozen BK111.out 3; have hfz10_4 := blk_frozen BK111.out 4; have hfz10_5 := blk_frozen BK111.out 5; have hfz10_6 := blk_frozen BK111.out 6; have hfz10_7 := blk_frozen BK111.out 7; have hfz10_8 := blk_frozen BK111.out 8; have hfz10_9 := blk_frozen BK111.out 9; have hfz10_10 := blk_frozen BK111.out 10; have hfz10_11 := blk_frozen BK111.out 11; have hfz10_12 := blk_frozen BK111.out 12) | ((with_reducible refine gate_builtin (b := .append) (xs := #[.tmp 18, .tmp 20]) rfl ?_); at_builtin; refine Kd.R_append_rows k38 (w0 := w) w.heap.size rfl (.tmp 18) (.tmp 20) 42 38 (.agg #[(.int .i64 0), (.string ⟨#[]⟩)]) 24 rfl Try.underlying42 info38 rfl (by decide) (by omega) v113 y112 ((rd_T44 l0 x10_1).f7) _ _ _ (fun k_ => some k_ ≠ (u3 : Value).ownBlock) (fun _ => False) rfl rfl ?aO ?aR (fun _ _ h => h) (fun _ h => h.elim) ?aF ?aB ?aS ?aL ?_; (case aR => repeat (first | exact (Kd.C_below HR110_12.out HB.out) | (with_reducible refine Kd.C_alloc ?_ _) | (with_reducible refine Kd.C_drewN ?_ _) | (with_reducible refine Kd.C_drew ?_))); (case aB => exact (by repeat (first | (with_reducible first | exact HB.out | apply below_alloc | apply pw_below_drewN | apply below_drew1 | refine below_set ?_ GE111.out) | exact HB.out))); (case aF => exact (fun k_ hk => Kd.fresh' (Kd.R_lt (by (with_reducible repeat (first | apply Kd.R_alloc | apply Kd.R_drewN | apply Kd.R_drew)); exact HO_3.out)) k_ hk)); (case aO => exact (by (with_reducible repeat (first | apply Kd.R_alloc | apply Kd.R_drewN | apply Kd.R_drew)); exact Kd.R_mono HO114.out (fun _ hk => hk.2))); (case aS => exact (below_size (by repeat (first | (with_reducible first | exact HB.out | apply below_alloc | apply pw_below_drewN | apply below_drew1 | refine below_set ?_ GE111.out) | exact HB.out)))); (case aL => have := LMc5.out; omega); intro v116 w11 ho hb hg hat; rw [← Ny115.out] at ho; have n0_ := Aside0.mk (Kd.R_after (ok := (fun _ => True)) (by (with_reducible repeat (first | apply Kd.R_alloc | apply Kd.R_drewN | apply Kd.R_drew)); exact HO_3.out) hg hat); have n1_ := Aside0.mk (blk_grown (g := gb111) (o := .cells #[.int .i64 ((rd_T44 l0 x10_1).f0.f0), .string ((rd_T44 l0 x10_1).f0.f1), .string ((rd_T44 l0 x10_1).f1), .bool ((rd_T44 l0 x10_1).f2), .int .i64 ((rd_T44 l0 x10_1).f3.f0), .string ((rd_T44 l0 x10_1).f3.f1), .bool ((rd_T44 l0 x10_1).f4), .int .i64 ((rd_T44 l0 x10_1).f5), .int .i64 ((rd_T44 l0 x10_1).f6.f0), .int .u64 ((rd_T44 l0 x10_1).f6.f1), .int .i64 ((rd_T44 l0 x10_1).f6.f2), .string ((rd_T44 l0 x10_1).f6.f3), .slice A110_12 ((rd_T44 l0 x10_1).f7).length c110_12] 44 (0, 0)) (by (with_reducible repeat (first | refine blk_drewN ?_ _ | refine blk_drew ?_ | refine blk_alloc ?_ _)); exact BK111.out) hg (Kd.R_ne HO114.out BK111.out (by decide))); have n2_ := Aside0.mk (hb); have n3_ := Aside0.mk (ho); clear HO_3; clear BK111; clear HB; clear HO114; have HO_3 := n0_; have BK111 := n1_; have HB := n2_; have HO117 := n3_; clear n0_ n1_ n2_ n3_; clear ho hb hg hat; obtain ⟨Ao12, co12, eo12⟩ := Kd.R_slice HO117.out; subst eo12))
              go_loopg [3, 23] k1 (fun kq v3 v23 w' => ∃ (x3_2 : List (S38)) (x23_2 : Int), v23 = .int .i64 x23_2 ∧ Aside0 (op_Names.l1 kq x3_2 l0 (l0.length : Int) x10_1 y115 (y115.length : Int) x23_2 = some r) ∧ Aside0 (kq ≤ k1) ∧ Aside0 (Kd.R k38 38 w' w.heap.size (fun k_ => some k_ ≠ ((.slice Ao12 y115.length co12) : Value).ownBlock) v3 x3_2) ∧ Aside0 (Kd.R k38 38 w' w.heap.size (fun k_ => some k_ ≠ (v3 : Value).ownBlock) (.slice Ao12 y115.length co12) y115) ∧ Aside0 (w'.heap[gb111]? = some (.cells #[.int .i64 ((rd_T44 l0 x10_1).f0.f0), .string ((rd_T44 l0 x10_1).f0.f1), .string ((rd_T44 l0 x10_1).f1), .bool ((rd_T44 l0 x10_1).f2), .int .i64 ((rd_T44 l0 x10_1).f3.f0), .string ((rd_T44 l0 x10_1).f3.f1), .bool ((rd_T44 l0 x10_1).f4), .int .i64 ((rd_T44 l0 x10_1).f5), .int .i64 ((rd_T44 l0 x10_1).f6.f0), .int .u64 ((rd_T44 l0 x10_1).f6.f1), .int .i64 ((rd_T44 l0 x10_1).f6.f2), .string ((rd_T44 l0 x10_1).f6.f3), (.slice A110_12 ((rd_T44 l0 x10_1).f7).length c110_12)] 44 (0, 0))) ∧ Aside0 (Below w.heap.size w w'))
              case atStart => exact ⟨(x3_1), (0), (by first | rfl | (simp; done) | (simp [*]; done)), H', ⟨Nat.le_refl _⟩, ⟨by (with_reducible repeat (first | apply Kd.R_alloc | apply Kd.R_drewN | apply Kd.R_drew)); exact Kd.R_mono HO_3.out (fun _ hk => hk.2)⟩, ⟨by (with_reducible repeat (first | apply Kd.R_alloc | apply Kd.R_drewN | apply Kd.R_drew)); exact HO117.out⟩, ⟨by (with_reducible repeat (first | refine blk_drewN ?_ _ | refine blk_drew ?_ | refine blk_alloc ?_ _)); exact BK111.out⟩, ⟨by repeat (first | (with_reducible first | exact HB.out | apply below_alloc | apply pw_below_drewN | apply below_drew1 | refine below_set ?_ GE111.out) | exact HB.out)⟩⟩
              case round =>
                clear H'
                try clear c1
                try clear p1
                try clear q1
                try clear hx1
                try clear c2
                try clear c2b0
                try clear p2
                try clear c3
                try clear c3b0
                try clear c4
                try clear c4b0
                try clear c5
                try clear c11
                try clear p11
                try clear q11
                try clear hx11
                try clear hcz10_0
                try clear hcz10_1
                try clear hcz10_10
                try clear hcz10_11
                try clear hcz10_12
                try clear hcz10_2
                try clear hcz10_3
                try clear hcz10_4
                try clear hcz10_5
                try clear hcz10_6
                try clear hcz10_7
                try clear hcz10_8
                try clear hcz10_9
                try clear hcz7_0
                try clear hcz7_1
                try clear hcz7_10
                try clear hcz7_11
                try clear hcz7_12
                try clear hcz7_2
                try clear hcz7_3
                try clear hcz7_4
                try clear hcz7_5
                try clear hcz7_6
                try clear hcz7_7
                try clear hcz7_8
                try clear hcz7_9
                try clear hfz10_0
                try clear hfz10_1
                try clear hfz10_10
                try clear hfz10_11
                try clear hfz10_12
                try clear hfz10_2
                try clear hfz10_3
                try clear hfz10_4
                try clear hfz10_5
                try clear hfz10_6
                try clear hfz10_7
                try clear hfz10_8
                try clear hfz10_9
                try clear hfz7_0
                try clear hfz7_1
                try clear hfz7_10
                try clear hfz7_11
                try clear hfz7_12
                try clear hfz7_2
                try clear hfz7_3
                try clear hfz7_4
                try clear hfz7_5
                try clear hfz7_6
                try clear hfz7_7
                try clear hfz7_8
                try clear hfz7_9
                try clear hx110_0
                try clear hx110_1
                try clear hx110_10
                try clear hx110_11
                try clear hx110_12
                try clear hx110_2
                try clear hx110_3
                try clear hx110_4
                try clear hx110_5
                try clear hx110_6
                try clear hx110_7
                try clear hx110_8
                try clear hx110_9
                try clear p110
                try clear q110
                obtain ⟨x3_2, x23_2, rfl, HA, HK2, HO_3, HO_21, BK111, HB⟩ := hrel
                cases gk with
                | zero => exact absurd HA.out (by simp [op_Names.l1])
                | succ k2 =>
                  have H := HA.out
                  clear HA
                  simp only [op_Names.l1] at H
                  by_cases c13 : x23_2 < (y115.length : Int)
                  · rw [if_pos c13] at H
                    have c13b0 : decide (x23_2 < (y115.length : Int)) = true := decide_eq_true c13
                    clear c13
                    by_cases c14 : 0 ≤ x23_2
                    · rw [if_pos c14] at H
                      have c14b0 : decide (0 ≤ x23_2) = true := decide_eq_true c14
                      clear c14
                      by_cases c15 : x23_2 < (y115.length : Int)
                      · rw [if_pos c15] at H
                        have c15b0 : decide (x23_2 < (y115.length : Int)) = true := decide_eq_true c15
                        clear c15
                        replace H := Option.bind_eq_some_iff.mp H
                        obtain ⟨t120, A160, H⟩ := H
                        replace H : (if t120 = true then (op_Names.l1 k2 x3_2 l0 (l0.length : Int) x10_1 y115 (y115.length : Int) (wrap64 (x23_2 + 1))) else (if x3_2.length < 5864062014805 then (op_Names.l1 k2 (x3_2 ++ [(⟨(rd_T38 y115 x23_2).f0, (rd_T38 y115 x23_2).f1⟩ : S38)]) l0 (l0.length : Int) x10_1 y115 (y115.length : Int) (wrap64 (x23_2 + 1))) else (none))) = some r := H
                        have A16 := Aside0.mk A160
                        clear A160
                        by_cases c17 : t120 = true
                        · subst c17
                          have H1 : (op_Names.l1 k2 x3_2 l0 (l0.length : Int) x10_1 y115 (y115.length : Int) (wrap64 (x23_2 + 1))) = some r := by rw [if_pos rfl] at H; exact H
                          clear H
                          have H := H1
                          clear H1
                          have H' := Aside0.mk H
                          clear H
                          have p118 : 0 ≤ (x23_2 : Int) := of_decide_eq_true (by first | (with_reducible assumption) | assumption)
                          have q118 : x23_2 < (y115.length : Int) := of_decide_eq_true (by first | (with_reducible assumption) | assumption)
                          obtain ⟨ad118, e118, hx118_0, hx118_1⟩ := at_T38 (Kd.R_reads' HO_21.out).2.2 x23_2 p118 q118
                          cases e118
                          replace p118 := eq_true p118
                          replace q118 := eq_true q118
                          go_wp2_with (first | ((with_reducible refine gate_dst (N := 7) rfl ?_); refine box_event ?hg (N := 7) ?hd (cs := #[.int .i64 0, .string (⟨#[]⟩ : ByteArray)]) (t := 38) ?hr ?_; (case hd => rfl); (case hg => rfl); (case hr => first | (go_simp; done) | (go_simp; rfl)); intro gb119 hg w18 hbox hb; have n0_ := Aside0.mk (Kd.R_below (Kd.R_elderB (by (with_reducible repeat (first | apply Kd.R_alloc | apply Kd.R_drewN | apply Kd.R_drew)); exact HO_3.out) gb119 (Nat.le_of_eq hg.symm)) hb); have n1_ := Aside0.mk (Kd.R_below (Kd.R_elderB (by (with_reducible repeat (first | apply Kd.R_alloc | apply Kd.R_drewN | apply Kd.R_drew)); exact HO_21.out) gb119 (Nat.le_of_eq hg.symm)) hb); have n2_ := Aside0.mk (blk_below (g := gb111) (o := .cells #[.int .i64 ((rd_T44 l0 x10_1).f0.f0), .string ((rd_T44 l0 x10_1).f0.f1), .string ((rd_T44 l0 x10_1).f1), .bool ((rd_T44 l0 x10_1).f2), .int .i64 ((rd_T44 l0 x10_1).f3.f0), .string ((rd_T44 l0 x10_1).f3.f1), .bool ((rd_T44 l0 x10_1).f4), .int .i64 ((rd_T44 l0 x10_1).f5), .int .i64 ((rd_T44 l0 x10_1).f6.f0), .int .u64 ((rd_T44 l0 x10_1).f6.f1), .int .i64 ((rd_T44 l0 x10_1).f6.f2), .string ((rd_T44 l0 x10_1).f6.f3), .slice A110_12 ((rd_T44 l0 x10_1).f7).length c110_12] 44 (0, 0)) (by (with_reducible repeat (first | refine blk_drewN ?_ _ | refine blk_drew ?_ | refine blk_alloc ?_ _)); exact BK111.out) hb); have n3_ := Aside0.mk (below_step (by repeat (first | (with_reducible first | exact HB.out | apply below_alloc | apply pw_below_drewN | apply below_drew1 | refine below_set ?_ GE111.out) | exact HB.out)) hb); have n4_ := Aside0.mk (hbox); have n5_ := Aside0.mk ((by rw [hg]; exact (below_size (by repeat (first | (with_reducible first | exact HB.out | apply below_alloc | apply pw_below_drewN | apply below_drew1 | refine below_set ?_ GE111.out) | exact HB.out))) : w.heap.size ≤ gb119)); have n6_ := Aside0.mk ((by rw [hg]; exact (below_size (by repeat (first | (with_reducible first | exact HB.out | apply below_alloc | apply pw_below_drewN | apply below_drew1 | refine below_set ?_ GE111.out) | exact HB.out))) : w.heap.size ≤ gb119)); have n7_ := Aside0.mk ((by rw [hg]; exact Nat.ne_of_lt (blk_lt (g := gb111) (o := .cells #[.int .i64 ((rd_T44 l0 x10_1).f0.f0), .string ((rd_T44 l0 x10_1).f0.f1), .string ((rd_T44 l0 x10_1).f1), .bool ((rd_T44 l0 x10_1).f2), .int .i64 ((rd_T44 l0 x10_1).f3.f0), .string ((rd_T44 l0 x10_1).f3.f1), .bool ((rd_T44 l0 x10_1).f4), .int .i64 ((rd_T44 l0 x10_1).f5), .int .i64 ((rd_T44 l0 x10_1).f6.f0), .int .u64 ((rd_T44 l0 x10_1).f6.f1), .int .i64 ((rd_T44 l0 x10_1).f6.f2), .string ((rd_T44 l0 x10_1).f6.f3), .slice A110_12 ((rd_T44 l0 x10_1).f7).length c110_12] 44 (0, 0)) (by (with_reducible repeat (first | refine blk_drewN ?_ _ | refine blk_drew ?_ | refine blk_alloc ?_ _)); exact BK111.out)) : gb111 ≠ gb119)); have n8_ := Aside0.mk ((by rw [hg]; exact Nat.ne_of_gt (blk_lt (g := gb111) (o := .cells #[.int .i64 ((rd_T44 l0 x10_1).f0.f0), .string ((rd_T44 l0 x10_1).f0.f1), .string ((rd_T44 l0 x10_1).f1), .bool ((rd_T44 l0 x10_1).f2), .int .i64 ((rd_T44 l0 x10_1).f3.f0), .string ((rd_T44 l0 x10_1).f3.f1), .bool ((rd_T44 l0 x10_1).f4), .int .i64 ((rd_T44 l0 x10_1).f5), .int .i64 ((rd_T44 l0 x10_1).f6.f0), .int .u64 ((rd_T44 l0 x10_1).f6.f1), .int .i64 ((rd_T44 l0 x10_1).f6.f2), .string ((rd_T44 l0 x10_1).f6.f3), .slice A110_12 ((rd_T44 l0 x10_1).f7).length c110_12] 44 (0, 0)) (by (with_reducible repeat (first | refine blk_drewN ?_ _ | refine blk_drew ?_ | refine blk_alloc ?_ _)); exact BK111.out)) : gb119 ≠ gb111)); clear HO_3; clear HO_21; clear BK111; clear HB; have HO_3 := n0_; have HO_21 := n1_; have BK111 := n2_; have HB := n3_; have BK119 := n4_; have GW119 := n5_; have GE119 := n6_; have NB111_119 := n7_; have NB119_111 := n8_; clear n0_ n1_ n2_ n3_ n4_ n5_ n6_ n7_ n8_; clear hb hbox hg; have hnb19 := NB119_111.out; have hnc19 := NB111_119.out; have hcz20_0 : w18.cell? ⟨gb119, 0, none⟩ = some (.int .i64 0) := (blk_cell BK119.out 0).trans rfl; have hcz20_1 : w18.cell? ⟨gb119, 1, none⟩ = some (.string (⟨#[]⟩ : ByteArray)) := (blk_cell BK119.out 1).trans rfl; have hfz20_0 := blk_frozen BK119.out 0; have hfz20_1 := blk_frozen BK119.out 1) | ((with_reducible refine gate_callee (f := 97) rfl ?_); refine goesL_ (some 28) rfl rfl Try.func97 (by kernel_rfl) rfl #[.agg #[.int .i64 ((rd_T38 y115 x23_2).f0), .string ((rd_T38 y115 x23_2).f1)]] rfl (by (try simp only [List.map_toArray, List.map_cons, List.map_nil]); first | done | rfl | (simp only [List.length_drop, List.length_take]; rfl)) ?_; (with_reducible refine (op_Zero.calls ((rd_T38 y115 x23_2).f0) ((rd_T38 y115 x23_2).f1) true _ A16.out).mono ?_); rintro e w21 ⟨rfl, hb⟩; refine ⟨_, rfl, ?_⟩; have n0_ := Aside0.mk (Kd.R_below (by (with_reducible repeat (first | apply Kd.R_alloc | apply Kd.R_drewN | apply Kd.R_drew)); exact (Kd.R_mono (Kd.R_far (p := ⟨gb119, 1, none⟩) (Kd.R_far (p := ⟨gb119, 0, none⟩) (Kd.R_mono HO_3.out (fun k_ hk => (⟨hk, hk.2⟩ : _ ∧ k_ ≠ gb119))) (fun _ hk => hk.2) (.int .i64 ((rd_T38 y115 x23_2).f0))) (fun _ hk => hk.2) (.string ((rd_T38 y115 x23_2).f1))) (fun _ h_ => h_.1))) hb); have n1_ := Aside0.mk (Kd.R_below (by (with_reducible repeat (first | apply Kd.R_alloc | apply Kd.R_drewN | apply Kd.R_drew)); exact (Kd.R_mono (Kd.R_far (p := ⟨gb119, 1, none⟩) (Kd.R_far (p := ⟨gb119, 0, none⟩) (Kd.R_mono HO_21.out (fun k_ hk => (⟨hk, hk.2⟩ : _ ∧ k_ ≠ gb119))) (fun _ hk => hk.2) (.int .i64 ((rd_T38 y115 x23_2).f0))) (fun _ hk => hk.2) (.string ((rd_T38 y115 x23_2).f1))) (fun _ h_ => h_.1))) hb); have n2_ := Aside0.mk (blk_below (g := gb111) (o := .cells #[.int .i64 ((rd_T44 l0 x10_1).f0.f0), .string ((rd_T44 l0 x10_1).f0.f1), .string ((rd_T44 l0 x10_1).f1), .bool ((rd_T44 l0 x10_1).f2), .int .i64 ((rd_T44 l0 x10_1).f3.f0), .string ((rd_T44 l0 x10_1).f3.f1), .bool ((rd_T44 l0 x10_1).f4), .int .i64 ((rd_T44 l0 x10_1).f5), .int .i64 ((rd_T44 l0 x10_1).f6.f0), .int .u64 ((rd_T44 l0 x10_1).f6.f1), .int .i64 ((rd_T44 l0 x10_1).f6.f2), .string ((rd_T44 l0 x10_1).f6.f3), .slice A110_12 ((rd_T44 l0 x10_1).f7).length c110_12] 44 (0, 0)) (by (with_reducible repeat (first | refine blk_drewN ?_ _ | refine blk_drew ?_ | refine blk_alloc ?_ _)); refine blk_far ?_ NB111_119.out _; (with_reducible repeat (first | refine blk_drewN ?_ _ | refine blk_drew ?_ | refine blk_alloc ?_ _)); refine blk_far ?_ NB111_119.out _; (with_reducible repeat (first | refine blk_drewN ?_ _ | refine blk_drew ?_ | refine blk_alloc ?_ _)); exact BK111.out) hb); have n3_ := Aside0.mk (blk_below (g := gb119) (o := .cells #[.int .i64 ((rd_T38 y115 x23_2).f0), .string ((rd_T38 y115 x23_2).f1)] 38 (0, 0)) (by (with_reducible repeat (first | refine blk_drewN ?_ _ | refine blk_drew ?_ | refine blk_alloc ?_ _)); refine blk_put (cs := #[.int .i64 ((rd_T38 y115 x23_2).f0), .string (⟨#[]⟩ : ByteArray)]) ?_ 1 _ rfl; (with_reducible repeat (first | refine blk_drewN ?_ _ | refine blk_drew ?_ | refine blk_alloc ?_ _)); refine blk_put (cs := #[.int .i64 0, .string (⟨#[]⟩ : ByteArray)]) ?_ 0 _ rfl; (with_reducible repeat (first | refine blk_drewN ?_ _ | refine blk_drew ?_ | refine blk_alloc ?_ _)); exact BK119.out) hb); have n4_ := Aside0.mk (below_step (by repeat (first | (with_reducible first | exact HB.out | apply below_alloc | apply pw_below_drewN | apply below_drew1 | refine below_set ?_ GE111.out | refine below_set ?_ GE119.out) | exact HB.out)) hb); clear HO_3; clear HO_21; clear BK111; clear BK119; clear HB; have HO_3 := n0_; have HO_21 := n1_; have BK111 := n2_; have BK119 := n3_; have HB := n4_; clear n0_ n1_ n2_ n3_ n4_; (try clear hb); (try clear hb2); (try clear hk); (try clear hi)))
                          go_roundg k2
                          case measure => have := HK1.out; have := HK2.out; omega
                          case rel => exact ⟨(x3_2), (wrap64 (x23_2 + 1)), (by first | rfl | (simp; done) | (simp [*]; done)), H', ⟨by have := HK1.out; have := HK2.out; omega⟩, ⟨by (with_reducible repeat (first | apply Kd.R_alloc | apply Kd.R_drewN | apply Kd.R_drew)); exact Kd.R_mono HO_3.out (fun _ hk => hk.1)⟩, ⟨by (with_reducible repeat (first | apply Kd.R_alloc | apply Kd.R_drewN | apply Kd.R_drew)); exact Kd.R_mono HO_21.out (fun _ hk => hk.1)⟩, ⟨by (with_reducible repeat (first | refine blk_drewN ?_ _ | refine blk_drew ?_ | refine blk_alloc ?_ _)); exact BK111.out⟩, ⟨by repeat (first | (with_reducible first | exact HB.out | apply below_alloc | apply pw_below_drewN | apply below_drew1 | refine below_set ?_ GE111.out | refine below_set ?_ GE119.out) | exact HB.out)⟩⟩
                        · replace c17 := Bool.eq_false_iff.mpr c17
                          subst c17
                          have H1 : (if x3_2.length < 5864062014805 then (op_Names.l1 k2 (x3_2 ++ [(⟨(rd_T38 y115 x23_2).f0, (rd_T38 y115 x23_2).f1⟩ : S38)]) l0 (l0.length : Int) x10_1 y115 (y115.length : Int) (wrap64 (x23_2 + 1))) else (none)) = some r := by rw [if_neg (show ¬ (false = true) by decide)] at H; exact H
                          clear H
                          have H := H1
                          clear H1
                          by_cases c22 : x3_2.length < 5864062014805
                          · rw [if_pos c22] at H
                            have LMc22 := Aside0.mk c22
                            clear c22
                            obtain ⟨y121, hy121⟩ : ∃ y_ : List (S38), y_ = (x3_2 ++ [(⟨(rd_T38 y115 x23_2).f0, (rd_T38 y115 x23_2).f1⟩ : S38)]) := ⟨_, rfl⟩
                            replace H : (op_Names.l1 k2 y121 l0 (l0.length : Int) x10_1 y115 (y115.length : Int) (wrap64 (x23_2 + 1))) = some r := by first | (rw [hy121]; with_reducible exact H) | (have H2_ := (Option.bind_some _ _).symm.trans H; rw [hy121]; with_reducible exact H2_) | (have H2_ := (Option.bind_some _ _).symm.trans H; with_reducible exact H2_) | with_reducible exact H | (rw [hy121]; exact H) | exact H
                            have Ny121 := Aside0.mk hy121
                            clear hy121
                            have H' := Aside0.mk H
                            clear H
                            have p118 : 0 ≤ (x23_2 : Int) := of_decide_eq_true (by first | (with_reducible assumption) | assumption)
                            have q118 : x23_2 < (y115.length : Int) := of_decide_eq_true (by first | (with_reducible assumption) | assumption)
                            obtain ⟨ad118, e118, hx118_0, hx118_1⟩ := at_T38 (Kd.R_reads' HO_21.out).2.2 x23_2 p118 q118
                            cases e118
                            replace p118 := eq_true p118
                            replace q118 := eq_true q118
                            go_wp2_with (first | ((with_reducible refine gate_dst (N := 7) rfl ?_); refine box_event ?hg (N := 7) ?hd (cs := #[.int .i64 0, .string (⟨#[]⟩ : ByteArray)]) (t := 38) ?hr ?_; (case hd => rfl); (case hg => rfl); (case hr => first | (go_simp; done) | (go_simp; rfl)); intro gb119 hg w23 hbox hb; have n0_ := Aside0.mk (Kd.R_below (Kd.R_elderB (by (with_reducible repeat (first | apply Kd.R_alloc | apply Kd.R_drewN | apply Kd.R_drew)); exact HO_3.out) gb119 (Nat.le_of_eq hg.symm)) hb); have n1_ := Aside0.mk (Kd.R_below (Kd.R_elderB (by (with_reducible repeat (first | apply Kd.R_alloc | apply Kd.R_drewN | apply Kd.R_drew)); exact HO_21.out) gb119 (Nat.le_of_eq hg.symm)) hb); have n2_ := Aside0.mk (blk_below (g := gb111) (o := .cells #[.int .i64 ((rd_T44 l0 x10_1).f0.f0), .string ((rd_T44 l0 x10_1).f0.f1), .string ((rd_T44 l0 x10_1).f1), .bool ((rd_T44 l0 x10_1).f2), .int .i64 ((rd_T44 l0 x10_1).f3.f0), .string ((rd_T44 l0 x10_1).f3.f1), .bool ((rd_T44 l0 x10_1).f4), .int .i64 ((rd_T44 l0 x10_1).f5), .int .i64 ((rd_T44 l0 x10_1).f6.f0), .int .u64 ((rd_T44 l0 x10_1).f6.f1), .int .i64 ((rd_T44 l0 x10_1).f6.f2), .string ((rd_T44 l0 x10_1).f6.f3), .slice A110_12 ((rd_T44 l0 x10_1).f7).length c110_12] 44 (0, 0)) (by (with_reducible repeat (first | refine blk_drewN ?_ _ | refine blk_drew ?_ | refine blk_alloc ?_ _)); exact BK111.out) hb); have n3_ := Aside0.mk (below_step (by repeat (first | (with_reducible first | exact HB.out | apply below_alloc | apply pw_below_drewN | apply below_drew1 | refine below_set ?_ GE111.out) | exact HB.out)) hb); have n4_ := Aside0.mk (hbox); have n5_ := Aside0.mk ((by rw [hg]; exact (below_size (by repeat (first | (with_reducible first | exact HB.out | apply below_alloc | apply pw_below_drewN | apply below_drew1 | refine below_set ?_ GE111.out) | exact HB.out))) : w.heap.size ≤ gb119)); have n6_ := Aside0.mk ((by rw [hg]; exact (below_size (by repeat (first | (with_reducible first | exact HB.out | apply below_alloc | apply pw_below_drewN | apply below_drew1 | refine below_set ?_ GE111.out) | exact HB.out))) : w.heap.size ≤ gb119)); have n7_ := Aside0.mk ((by rw [hg]; exact Nat.ne_of_lt (blk_lt (g := gb111) (o := .cells #[.int .i64 ((rd_T44 l0 x10_1).f0.f0), .string ((rd_T44 l0 x10_1).f0.f1), .string ((rd_T44 l0 x10_1).f1), .bool ((rd_T44 l0 x10_1).f2), .int .i64 ((rd_T44 l0 x10_1).f3.f0), .string ((rd_T44 l0 x10_1).f3.f1), .bool ((rd_T44 l0 x10_1).f4), .int .i64 ((rd_T44 l0 x10_1).f5), .int .i64 ((rd_T44 l0 x10_1).f6.f0), .int .u64 ((rd_T44 l0 x10_1).f6.f1), .int .i64 ((rd_T44 l0 x10_1).f6.f2), .string ((rd_T44 l0 x10_1).f6.f3), .slice A110_12 ((rd_T44 l0 x10_1).f7).length c110_12] 44 (0, 0)) (by (with_reducible repeat (first | refine blk_drewN ?_ _ | refine blk_drew ?_ | refine blk_alloc ?_ _)); exact BK111.out)) : gb111 ≠ gb119)); have n8_ := Aside0.mk ((by rw [hg]; exact Nat.ne_of_gt (blk_lt (g := gb111) (o := .cells #[.int .i64 ((rd_T44 l0 x10_1).f0.f0), .string ((rd_T44 l0 x10_1).f0.f1), .string ((rd_T44 l0 x10_1).f1), .bool ((rd_T44 l0 x10_1).f2), .int .i64 ((rd_T44 l0 x10_1).f3.f0), .string ((rd_T44 l0 x10_1).f3.f1), .bool ((rd_T44 l0 x10_1).f4), .int .i64 ((rd_T44 l0 x10_1).f5), .int .i64 ((rd_T44 l0 x10_1).f6.f0), .int .u64 ((rd_T44 l0 x10_1).f6.f1), .int .i64 ((rd_T44 l0 x10_1).f6.f2), .string ((rd_T44 l0 x10_1).f6.f3), .slice A110_12 ((rd_T44 l0 x10_1).f7).length c110_12] 44 (0, 0)) (by (with_reducible repeat (first | refine blk_drewN ?_ _ | refine blk_drew ?_ | refine blk_alloc ?_ _)); exact BK111.out)) : gb119 ≠ gb111)); clear HO_3; clear HO_21; clear BK111; clear HB; have HO_3 := n0_; have HO_21 := n1_; have BK111 := n2_; have HB := n3_; have BK119 := n4_; have GW119 := n5_; have GE119 := n6_; have NB111_119 := n7_; have NB119_111 := n8_; clear n0_ n1_ n2_ n3_ n4_ n5_ n6_ n7_ n8_; clear hb hbox hg; have hnb24 := NB119_111.out; have hnc24 := NB111_119.out; have hcz25_0 : w23.cell? ⟨gb119, 0, none⟩ = some (.int .i64 0) := (blk_cell BK119.out 0).trans rfl; have hcz25_1 : w23.cell? ⟨gb119, 1, none⟩ = some (.string (⟨#[]⟩ : ByteArray)) := (blk_cell BK119.out 1).trans rfl; have hfz25_0 := blk_frozen BK119.out 0; have hfz25_1 := blk_frozen BK119.out 1) | ((with_reducible refine gate_callee (f := 97) rfl ?_); refine goesL_ (some 28) rfl rfl Try.func97 (by kernel_rfl) rfl #[.agg #[.int .i64 ((rd_T38 y115 x23_2).f0), .string ((rd_T38 y115 x23_2).f1)]] rfl (by (try simp only [List.map_toArray, List.map_cons, List.map_nil]); first | done | rfl | (simp only [List.length_drop, List.length_take]; rfl)) ?_; (with_reducible refine (op_Zero.calls ((rd_T38 y115 x23_2).f0) ((rd_T38 y115 x23_2).f1) false _ A16.out).mono ?_); rintro e w26 ⟨rfl, hb⟩; refine ⟨_, rfl, ?_⟩; have n0_ := Aside0.mk (Kd.R_below (by (with_reducible repeat (first | apply Kd.R_alloc | apply Kd.R_drewN | apply Kd.R_drew)); exact (Kd.R_mono (Kd.R_far (p := ⟨gb119, 1, none⟩) (Kd.R_far (p := ⟨gb119, 0, none⟩) (Kd.R_mono HO_3.out (fun k_ hk => (⟨hk, hk.2⟩ : _ ∧ k_ ≠ gb119))) (fun _ hk => hk.2) (.int .i64 ((rd_T38 y115 x23_2).f0))) (fun _ hk => hk.2) (.string ((rd_T38 y115 x23_2).f1))) (fun _ h_ => h_.1))) hb); have n1_ := Aside0.mk (Kd.R_below (by (with_reducible repeat (first | apply Kd.R_alloc | apply Kd.R_drewN | apply Kd.R_drew)); exact (Kd.R_mono (Kd.R_far (p := ⟨gb119, 1, none⟩) (Kd.R_far (p := ⟨gb119, 0, none⟩) (Kd.R_mono HO_21.out (fun k_ hk => (⟨hk, hk.2⟩ : _ ∧ k_ ≠ gb119))) (fun _ hk => hk.2) (.int .i64 ((rd_T38 y115 x23_2).f0))) (fun _ hk => hk.2) (.string ((rd_T38 y115 x23_2).f1))) (fun _ h_ => h_.1))) hb); have n2_ := Aside0.mk (blk_below (g := gb111) (o := .cells #[.int .i64 ((rd_T44 l0 x10_1).f0.f0), .string ((rd_T44 l0 x10_1).f0.f1), .string ((rd_T44 l0 x10_1).f1), .bool ((rd_T44 l0 x10_1).f2), .int .i64 ((rd_T44 l0 x10_1).f3.f0), .string ((rd_T44 l0 x10_1).f3.f1), .bool ((rd_T44 l0 x10_1).f4), .int .i64 ((rd_T44 l0 x10_1).f5), .int .i64 ((rd_T44 l0 x10_1).f6.f0), .int .u64 ((rd_T44 l0 x10_1).f6.f1), .int .i64 ((rd_T44 l0 x10_1).f6.f2), .string ((rd_T44 l0 x10_1).f6.f3), .slice A110_12 ((rd_T44 l0 x10_1).f7).length c110_12] 44 (0, 0)) (by (with_reducible repeat (first | refine blk_drewN ?_ _ | refine blk_drew ?_ | refine blk_alloc ?_ _)); refine blk_far ?_ NB111_119.out _; (with_reducible repeat (first | refine blk_drewN ?_ _ | refine blk_drew ?_ | refine blk_alloc ?_ _)); refine blk_far ?_ NB111_119.out _; (with_reducible repeat (first | refine blk_drewN ?_ _ | refine blk_drew ?_ | refine blk_alloc ?_ _)); exact BK111.out) hb); have n3_ := Aside0.mk (blk_below (g := gb119) (o := .cells #[.int .i64 ((rd_T38 y115 x23_2).f0), .string ((rd_T38 y115 x23_2).f1)] 38 (0, 0)) (by (with_reducible repeat (first | refine blk_drewN ?_ _ | refine blk_drew ?_ | refine blk_alloc ?_ _)); refine blk_put (cs := #[.int .i64 ((rd_T38 y115 x23_2).f0), .string (⟨#[]⟩ : ByteArray)]) ?_ 1 _ rfl; (with_reducible repeat (first | refine blk_drewN ?_ _ | refine blk_drew ?_ | refine blk_alloc ?_ _)); refine blk_put (cs := #[.int .i64 0, .string (⟨#[]⟩ : ByteArray)]) ?_ 0 _ rfl; (with_reducible repeat (first | refine blk_drewN ?_ _ | refine blk_drew ?_ | refine blk_alloc ?_ _)); exact BK119.out) hb); have n4_ := Aside0.mk (below_step (by repeat (first | (with_reducible first | exact HB.out | apply below_alloc | apply pw_below_drewN | apply below_drew1 | refine below_set ?_ GE111.out | refine below_set ?_ GE119.out) | exact HB.out)) hb); clear HO_3; clear HO_21; clear BK111; clear BK119; clear HB; have HO_3 := n0_; have HO_21 := n1_; have BK111 := n2_; have BK119 := n3_; have HB := n4_; clear n0_ n1_ n2_ n3_ n4_; (try clear hb); (try clear hb2); (try clear hk); (try clear hi); have hcz27_0 : w26.cell? ⟨gb119, 0, none⟩ = some (.int .i64 ((rd_T38 y115 x23_2).f0)) := (blk_cell BK119.out 0).trans rfl; have hcz27_1 : w26.cell? ⟨gb119, 1, none⟩ = some (.string ((rd_T38 y115 x23_2).f1)) := (blk_cell BK119.out 1).trans rfl; have hfz27_0 := blk_frozen BK119.out 0; have hfz27_1 := blk_frozen BK119.out 1) | ((with_reducible refine gate_builtin (b := .append) (xs := #[.tmp 30, .tmp 32]) rfl ?_); at_builtin; refine Kd.R_append k38 (w0 := w) w.heap.size rfl (.tmp 30) (.tmp 32) 42 38 (.agg #[(.int .i64 0), (.string ⟨#[]⟩)]) 24 rfl Try.underlying42 info38 rfl (by decide) (by omega) u3 x3_2 (⟨(rd_T38 y115 x23_2).f0, (rd_T38 y115 x23_2).f1⟩ : S38) [.int .i64 ((rd_T38 y115 x23_2).f0), .string ((rd_T38 y115 x23_2).f1)] (fun k_ => some k_ ≠ (.slice (some ad118) y115.length co12 : Value).ownBlock ∧ k_ ≠ gb119) (fun _ => False) rfl rfl ?aP (fun _ hk => hk.elim) ?aF ?aO ?aB ?aS ?aL ?_; (case aP => exact k38_mkM _ _ _ (⟨(rd_T38 y115 x23_2).f0, (rd_T38 y115 x23_2).f1⟩ : S38)); (case aB => exact (by repeat (first | (with_reducible first | exact HB.out | apply below_alloc | apply pw_below_drewN | apply below_drew1 | refine below_set ?_ GE111.out | refine below_set ?_ GE119.out) | exact HB.out))); (case aF => exact (fun k_ hk => ⟨Kd.fresh' (Kd.R_lt (by (with_reducible repeat (first | apply Kd.R_alloc | apply Kd.R_drewN | apply Kd.R_drew)); exact HO_21.out)) k_ hk, Kd.freshB (g := gb119) (o := .cells #[.int .i64 ((rd_T38 y115 x23_2).f0), .string ((rd_T38 y115 x23_2).f1)] 38 (0, 0)) (by (with_reducible repeat (first | refine blk_drewN ?_ _ | refine blk_drew ?_ | refine blk_alloc ?_ _)); exact BK119.out) k_ hk⟩)); (case aO => exact (by (with_reducible repeat (first | apply Kd.R_alloc | apply Kd.R_drewN | apply Kd.R_drew)); exact HO_3.out)); (case aS => exact (below_size (by repeat (first | (with_reducible first | exact HB.out | apply below_alloc | apply pw_below_drewN | apply below_drew1 | refine below_set ?_ GE111.out | refine below_set ?_ GE119.out) | exact HB.out)))); (case aL => have := LMc22.out; omega); intro v122 w28 ho hb hg hat; rw [← Ny121.out] at ho; have n0_ := Aside0.mk (Kd.R_after (ok := (fun k_ => k_ ≠ gb119)) (by (with_reducible repeat (first | apply Kd.R_alloc | apply Kd.R_drewN | apply Kd.R_drew)); exact Kd.R_mono HO_21.out (fun _ hk => ⟨hk.2, hk.1⟩)) hg hat); have n1_ := Aside0.mk (blk_grown (g := gb111) (o := .cells #[.int .i64 ((rd_T44 l0 x10_1).f0.f0), .string ((rd_T44 l0 x10_1).f0.f1), .string ((rd_T44 l0 x10_1).f1), .bool ((rd_T44 l0 x10_1).f2), .int .i64 ((rd_T44 l0 x10_1).f3.f0), .string ((rd_T44 l0 x10_1).f3.f1), .bool ((rd_T44 l0 x10_1).f4), .int .i64 ((rd_T44 l0 x10_1).f5), .int .i64 ((rd_T44 l0 x10_1).f6.f0), .int .u64 ((rd_T44 l0 x10_1).f6.f1), .int .i64 ((rd_T44 l0 x10_1).f6.f2), .string ((rd_T44 l0 x10_1).f6.f3), .slice A110_12 ((rd_T44 l0 x10_1).f7).length c110_12] 44 (0, 0)) (by (with_reducible repeat (first | refine blk_drewN ?_ _ | refine blk_drew ?_ | refine blk_alloc ?_ _)); exact BK111.out) hg (Kd.R_ne HO_3.out BK111.out (by decide))); have n2_ := Aside0.mk (blk_grown (g := gb119) (o := .cells #[.int .i64 ((rd_T38 y115 x23_2).f0), .string ((rd_T38 y115 x23_2).f1)] 38 (0, 0)) (by (with_reducible repeat (first | refine blk_drewN ?_ _ | refine blk_drew ?_ | refine blk_alloc ?_ _)); exact BK119.out) hg (Kd.R_away HO_3.out (fun _ hk => hk.2))); have n3_ := Aside0.mk (hb); have n4_ := Aside0.mk (ho); clear HO_21; clear BK111; clear BK119; clear HB; clear HO_3; have HO_21 := n0_; have BK111 := n1_; have BK119 := n2_; have HB := n3_; have HO123 := n4_; clear n0_ n1_ n2_ n3_ n4_; clear ho hb hg hat))
                            go_roundg k2
                            case measure => have := HK1.out; have := HK2.out; omega
                            case rel => exact ⟨(y121), (wrap64 (x23_2 + 1)), (by first | rfl | (simp; done) | (simp [*]; done)), H', ⟨by have := HK1.out; have := HK2.out; omega⟩, ⟨by (with_reducible repeat (first | apply Kd.R_alloc | apply Kd.R_drewN | apply Kd.R_drew)); exact Kd.R_mono HO123.out (fun _ hk => hk.1)⟩, ⟨by (with_reducible repeat (first | apply Kd.R_alloc | apply Kd.R_drewN | apply Kd.R_drew)); exact Kd.R_mono HO_21.out (fun _ hk => hk.2)⟩, ⟨by (with_reducible repeat (first | refine blk_drewN ?_ _ | refine blk_drew ?_ | refine blk_alloc ?_ _)); exact BK111.out⟩, ⟨by repeat (first | (with_reducible first | exact HB.out | apply below_alloc | apply pw_below_drewN | apply below_drew1 | refine below_set ?_ GE111.out | refine below_set ?_ GE119.out) | exact HB.out)⟩⟩
                          · rw [if_neg c22] at H
                            exact absurd H (by simp)
                      · rw [if_neg c15] at H
                        exact absurd H (by simp)
                    · rw [if_neg c14] at H
                      exact absurd H (by simp)
                  · rw [if_neg c13] at H
                    have c13b0 : decide (x23_2 < (y115.length : Int)) = false := decide_eq_false c13
                    clear c13
                    have H' := Aside0.mk H
                    clear H
                    go_wp2
                    go_roundg k2
                    case measure => have := HK1.out; have := HK2.out; omega
                    case rel => exact ⟨(x3_2), (wrap64 (x10_1 + 1)), (by first | rfl | (simp; done) | (simp [*]; done)), H', ⟨by have := HK1.out; have := HK2.out; omega⟩, ⟨by (with_reducible repeat (first | apply Kd.R_alloc | apply Kd.R_drewN | apply Kd.R_drew)); exact Kd.R_mono HO_3.out (fun _ hk => trivial)⟩, ⟨by repeat (first | (with_reducible first | exact HB.out | apply below_alloc | apply pw_below_drewN | apply below_drew1 | refine below_set ?_ GE111.out) | exact HB.out)⟩⟩
            · rw [if_neg c5] at H
              exact absurd H (by simp)
          · rw [if_neg c4] at H
            exact absurd H (by simp)
        · rw [if_neg c3] at H
          exact absurd H (by simp)
      · rw [if_neg c2] at H
        have c2b0 : decide (x10_1 < (l0.length : Int)) = false := decide_eq_false c2
        clear c2
        obtain rfl := Option.some.inj H
        go_wp2
        go_ret
        exact ⟨_, by first | rfl | (simp [errW_none, errW_some] <;> rfl) | (simp [*, errW_none, errW_some] <;> rfl), by (with_reducible repeat (first | apply Kd.R_alloc | apply Kd.R_drewN | apply Kd.R_drew)); exact HO_3.out, by repeat (first | (with_reducible first | exact HB.out | apply below_alloc | apply pw_below_drewN | apply below_drew1) | exact HB.out)⟩

end Go.Proofs.Ytamihmofmjkfoaa.Q
