import Derived.Test.YtamihmofmjkfoaaKBaC
import Derived.Deep.DeepMust
import Derived.Deep.DeepCutAuto
import Derived.Lib.Bytes
import Derived.Deep.RegionWith
import Derived.Deep.QuietTactic
import Derived.BigQuiet
import Derived.WalkLawsBesides
import Derived.IntWalk
import Derived.Deep.Slices
import Derived.ChangeSame
import Derived.ChangeArms
import Derived.ProofKit
import Derived.Lib.SmallJoins
import Derived.OpenShut
import Derived.Test.YtamihmofmjkfoaaRows
import Derived.WalkKit
import Derived.ShutString
import Derived.ChangeOld
import Derived.Below
import Derived.SizedLaws
import Derived.Test.YtamihmofmjkfoaaKBaB
/-! ## Q42 -/
section
-- By myprint.py, out of the translation, by way of the kit's print.
namespace Go.Proofs.Ytamihmofmjkfoaa.Q
open Go.RowKit Go.Proofs.YtamihmofmjkfoaaW.PrintWords Go.Proofs.YtamihmofmjkfoaaW.PrintLast Go.Proofs.YtamihmofmjkfoaaW.PrintMore
attribute [local go_sem] max2_int min2_int max_two min_two max_three min_three max_four min_four   -- for this text's walks alone
set_option linter.unusedVariables false
set_option linter.unusedSimpArgs false

/-! ### inkwellref18_less: function 42 -/
def inkwellref18_less.f (k : Nat) (a0 : ByteArray) (a1 : ByteArray) : Option (Bool) := (inkwellref17_Less.f k 1 a0 1 a1).bind fun t101 => (some t101)
theorem inkwellref18_less.mono : ∀ a0 a1 k, LeO (inkwellref18_less.f k a0 a1) (inkwellref18_less.f (k + 1) a0 a1) := by
  intro a0 a1 k
  unfold inkwellref18_less.f
  repeat' first
      | (with_reducible exact inkwellref17_Less.mono _ _ _ _ _)
      | (with_reducible exact LeO.refl _)
      | (with_reducible exact LeO.none _)
      | (with_reducible refine LeO.ite ?_ ?_)
      | (with_reducible refine LeO.bind ?_ (fun _ => ?_))
      | exact inkwellref17_Less.mono _ _ _ _ _
      | exact LeO.none _
      | refine LeO.ite ?_ ?_
      | refine LeO.bind ?_ (fun _ => ?_)
set_option maxHeartbeats 8000000 in
set_option maxRecDepth 100000 in
theorem inkwellref18_less.calls (k : Nat) (a0 : ByteArray) (a1 : ByteArray) (r : Bool) (w : World) (h : inkwellref18_less.f k a0 a1 = some r) :
    Calls Try.prog 42 #[.string a0, .string a1] w fun e w' => e = .returned (.bool r) ∧ Below w.heap.size w w' := by
  have hu38 := Try.underlying38
  have HB := Aside0.mk (Below.refl w.heap.size w)
  have H : ((inkwellref17_Less.f k 1 a0 1 a1).bind fun t101 => (some t101)) = some r := h
  clear h
  replace H := Option.bind_eq_some_iff.mp H
  obtain ⟨t101, A30, H⟩ := H
  replace H : (some t101) = some r := H
  have A3 := Aside0.mk A30
  clear A30
  obtain rfl := Option.some.inj H
  go_enter Try.func42, Try.ntmps42
  go_wp2_with (first | ((with_reducible refine gate_callee (f := 82) rfl ?_); refine goesL_ (some 9) rfl rfl Try.func82 (by kernel_rfl) rfl #[.agg #[.int .i64 1, .string a0], .agg #[.int .i64 1, .string a1]] rfl (by (try simp only [List.map_toArray, List.map_cons, List.map_nil]); first | done | rfl | (simp only [List.length_drop, List.length_take]; rfl)) ?_; (with_reducible refine (inkwellref17_Less.calls k 1 a0 1 a1 t101 _ A3.out).mono ?_); rintro e w4 ⟨rfl, hb⟩; refine ⟨_, rfl, ?_⟩; have n0_ := Aside0.mk (below_step (by repeat (first | (with_reducible first | exact HB.out | apply below_alloc | apply pw_below_drewN | apply below_drew1) | exact HB.out)) hb); clear HB; have HB := n0_; clear n0_; (try clear hb); (try clear hb2); (try clear hk); (try clear hi)))
  go_ret
  exact ⟨by first | rfl | (simp [errW_none, errW_some] <;> rfl) | (simp [*, errW_none, errW_some] <;> rfl), by repeat (first | (with_reducible first | exact HB.out | apply below_alloc | apply pw_below_drewN | apply below_drew1) | exact HB.out)⟩

end Go.Proofs.Ytamihmofmjkfoaa.Q
end

/-! ## XAt -/
section
/- An op of a slice that came in: its cells, one by one, in a later world. -/
set_option linter.unusedVariables false
namespace Go.Proofs.Ytamihmofmjkfoaa.X
open Go.RowKit Go.Proofs.YtamihmofmjkfoaaW.PrintWords Go.Proofs.YtamihmofmjkfoaaW.PrintLast Go.Proofs.Ytamihmofmjkfoaa.Q
theorem at_Op' {w w' : World} {A : Option Addr} {l : List Op} (h : Kd.C k44 w A l.length l) (hb : Below w.heap.size w w') (i : Nat) (hi : i < l.length) (o : Op) (ho : l[i] = o) :
    ∃ ad A12 c12, A = some ad ∧ (ad.add (i * 13)).block < w.heap.size ∧ o.f7.length ≤ c12 ∧ k38.C w' A12 o.f7.length o.f7 ∧ w'.cell? (ad.add (i * 13)) = some (.int .i64 o.f0.f0) ∧ w'.cell? ⟨(ad.add (i * 13)).block, (ad.add (i * 13)).off + 1, none⟩ = some (.string o.f0.f1) ∧ w'.cell? ⟨(ad.add (i * 13)).block, (ad.add (i * 13)).off + 2, none⟩ = some (.string o.f1) ∧ w'.cell? ⟨(ad.add (i * 13)).block, (ad.add (i * 13)).off + 3, none⟩ = some (.bool o.f2) ∧ w'.cell? ⟨(ad.add (i * 13)).block, (ad.add (i * 13)).off + 4, none⟩ = some (.int .i64 o.f3.f0) ∧ w'.cell? ⟨(ad.add (i * 13)).block, (ad.add (i * 13)).off + 5, none⟩ = some (.string o.f3.f1) ∧ w'.cell? ⟨(ad.add (i * 13)).block, (ad.add (i * 13)).off + 6, none⟩ = some (.bool o.f4) ∧ w'.cell? ⟨(ad.add (i * 13)).block, (ad.add (i * 13)).off + 7, none⟩ = some (.int .i64 o.f5) ∧ w'.cell? ⟨(ad.add (i * 13)).block, (ad.add (i * 13)).off + 8, none⟩ = some (.int .i64 o.f6.f0) ∧ w'.cell? ⟨(ad.add (i * 13)).block, (ad.add (i * 13)).off + 9, none⟩ = some (.int .u64 o.f6.f1) ∧ w'.cell? ⟨(ad.add (i * 13)).block, (ad.add (i * 13)).off + 10, none⟩ = some (.int .i64 o.f6.f2) ∧ w'.cell? ⟨(ad.add (i * 13)).block, (ad.add (i * 13)).off + 11, none⟩ = some (.string o.f6.f3) ∧ w'.cell? ⟨(ad.add (i * 13)).block, (ad.add (i * 13)).off + 12, none⟩ = some (.slice A12 o.f7.length c12) := by
  obtain ⟨ad, c, e, _, hK, hc0⟩ := Kd.C_get h z44 (i : Int) (by omega) (by omega)
  rw [Int.toNat_natCast, getD_get _ _ _ hi, ho] at hK
  have hc : ∀ j u, c[j]? = some u → w.cell? (ad.add (i * 13 + j)) = some u := hc0
  obtain ⟨A12, c12, rfl, h1, h2⟩ := k44_open hK
  exact ⟨ad, A12, c12, e, World.block_lt_of_cell? w _ (hc 0 _ rfl), h1, Kd.C_below h2 hb, pw_cell_below hb (hc 0 _ rfl), pw_cell_below hb (by rw [← add_field _ _ 1 (by omega)]; exact hc 1 _ rfl), pw_cell_below hb (by rw [← add_field _ _ 2 (by omega)]; exact hc 2 _ rfl), pw_cell_below hb (by rw [← add_field _ _ 3 (by omega)]; exact hc 3 _ rfl), pw_cell_below hb (by rw [← add_field _ _ 4 (by omega)]; exact hc 4 _ rfl), pw_cell_below hb (by rw [← add_field _ _ 5 (by omega)]; exact hc 5 _ rfl), pw_cell_below hb (by rw [← add_field _ _ 6 (by omega)]; exact hc 6 _ rfl), pw_cell_below hb (by rw [← add_field _ _ 7 (by omega)]; exact hc 7 _ rfl), pw_cell_below hb (by rw [← add_field _ _ 8 (by omega)]; exact hc 8 _ rfl), pw_cell_below hb (by rw [← add_field _ _ 9 (by omega)]; exact hc 9 _ rfl), pw_cell_below hb (by rw [← add_field _ _ 10 (by omega)]; exact hc 10 _ rfl), pw_cell_below hb (by rw [← add_field _ _ 11 (by omega)]; exact hc 11 _ rfl), pw_cell_below hb (by rw [← add_field _ _ 12 (by omega)]; exact hc 12 _ rfl)⟩
end Go.Proofs.Ytamihmofmjkfoaa.X
end

/-! ## XNames17 -/
section
/- The reference's Names: the same names. Condition: the ops are few. -/
set_option linter.unusedVariables false
set_option linter.unusedSimpArgs false
namespace Go.Proofs.Ytamihmofmjkfoaa.X
open Go.RowKit Go.Proofs.YtamihmofmjkfoaaW.PrintWords Go.Proofs.YtamihmofmjkfoaaW.PrintLast Go.Proofs.YtamihmofmjkfoaaW.PrintMore Go.Proofs.Ytamihmofmjkfoaa.Q
attribute [local go_sem] max2_int min2_int max_two min_two max_three min_three max_four min_four
attribute [local go_sem high] eqA38
/-- What has been gathered so far. -/
structure NC (w : World) (v3 : Value) (xs : List OpId) (wr : World) : Prop where
  hB : Below w.heap.size w wr
  hR : Kd.R k38 38 wr w.heap.size (fun _ => True) v3 xs
theorem nz_true {x : OpId} (h : (!x.f0 == 0) = true ∨ (!x.f1.toList.isEmpty) = true) : nz x = true := by
  unfold nz
  rcases h with h | h
  · simp at h; simp [h]
  · have : x.f1.toList ≠ [] := by
      intro e
      rw [e] at h
      simp at h
    simp [this]
theorem nz_false {x : OpId} (h : (!x.f0 == 0) = false ∧ (!x.f1.toList.isEmpty) = false) : nz x = false := by
  unfold nz
  obtain ⟨h1, h2⟩ := h
  have e1 : x.f0 = 0 := by simpa using h1
  have e2 : x.f1.toList = [] := by simpa using h2
  simp [e1, e2]
set_option maxHeartbeats 4000000 in
set_option maxRecDepth 100000 in
theorem Names17_calls (A0 : Option Addr) (c0 : Nat) (l0 : List Op) (w : World) (hr0 : Kd.C k44 w A0 l0.length l0) (hc0 : l0.length ≤ c0) (hs : Sm l0) :
    Calls Try.prog 28 #[.slice A0 l0.length c0] w fun e w' => ∃ v0_ : Value, e = .returned v0_ ∧ Kd.R k38 38 w' w.heap.size (fun _ => True) v0_ (namesOf l0) ∧ Below w.heap.size w w' := by
  have hl := hs.1
  go_enter Try.func28, Try.ntmps28
  go_wp2_with fail
  go_loopw [3, 4] (fun v3 v4 wr => ∃ i : Nat, v4 = .int .i64 i ∧ i ≤ l0.length ∧ NC w v3 (namesOf (l0.take i)) wr) (fun _ v4 _ => l0.length - (intOf v4).toNat)
  case atStart => exact ⟨0, rfl, Nat.zero_le _, ⟨Below.refl _ _, Kd.R_nil _ _ _ _ _⟩⟩
  case round =>
    obtain ⟨i, rfl, hi, hc⟩ := hrel
    have hsz := hc.hB.size
    by_cases hlt : i < l0.length
    · obtain ⟨o, ho⟩ : ∃ o, l0[i] = o := ⟨_, rfl⟩
      obtain ⟨ad, A12, c12, rfl, hblk, h12, hC12, p0, p1, p2, p3, p4, p5, p6, p7, p8, p9, p10, p11, p12⟩ := at_Op' hr0 hc.hB i hlt o ho
      have hnl := flat_le (l0.take i) (fun o ho => hs.2 o (List.mem_of_mem_take ho))
      have htl : (l0.take i).length ≤ 10000 := by simp; omega
      have h7 : o.f7.length ≤ 10000 := hs.2 o (by rw [← ho]; exact List.getElem_mem hlt)
      have Hst := Lib.hid (show namesOf (l0.take (i + 1)) = namesOf (l0.take i) ++ ([o.f0, o.f3] ++ o.f7).filter nz by
        rw [List.take_succ_eq_append_getElem hlt, ho]
        simp only [namesOf, List.flatMap_append, List.flatMap_cons, List.flatMap_nil, List.append_nil])
      have Ho := Lib.hid ho
      clear p2 p3 p6 p7 p8 p9 p10 p11 ho
      generalize namesOf (l0.take i) = xs at *
      go_upto_if 18 with (fail)
      go_cut [3] (fun v3 wx => NC w v3 (xs ++ [o.f0].filter nz) wx)
      case first =>
        go_wp2_with (first | ((with_reducible refine gate_builtin (b := .append) (xs := #[.tmp 19, .tmp 25]) rfl ?_); at_builtin; go_must (refine Kd.R_append k38 (w0 := wr) w.heap.size rfl (.tmp 19) (.tmp 25) 42 38 (.agg #[.int .i64 0, .string ⟨#[]⟩]) 24 rfl Try.underlying42 info38 rfl (by decide) (by decide) u3 xs o.f0 [.int .i64 o.f0.f0, .string o.f0.f1] (fun _ => True) (fun _ => False) rfl rfl ?aP (fun _ hk => hk.elim) ?aF ?aO ?aB ?aS ?aL ?_; (case aP => exact k38_mkM _ _ _ _); (case aF => exact fun _ _ => trivial); (case aO => exact hc.hR); (case aB => exact Below.refl _ _); (case aS => exact hc.hB.size); (case aL => omega); intro v9 w9 hR9 _ hg9 _)))
        · go_meet
          exact ⟨pw_below_grown hc.hB _ hsz hg9 (fun k hk => R_base hc.hR k hk), by rw [List.filter_cons, if_pos (nz_true ‹_›)]; exact hR9⟩
        · go_meet
          exact ⟨hc.hB, by rw [List.filter_cons, if_neg (by rw [nz_false ‹_›]; decide), List.filter_nil, List.append_nil]; exact hc.hR⟩
      case rest =>
        obtain ⟨wx, rfl⟩ : ∃ wx : World, wx = wc := ⟨_, rfl⟩
        obtain ⟨v3, rfl⟩ : ∃ v : Value, v = u3 := ⟨_, rfl⟩
        have h2 := hcut
        clear hcut hc hC12 p0 p1 p4 p5 p12
        obtain ⟨ad', A12, c12, e', hblk, h12, hC12, p0, p1, p2, p3, p4, p5, p6, p7, p8, p9, p10, p11, p12⟩ := at_Op' hr0 h2.hB i hlt o Ho.out
        cases e'
        clear p0 p1 p2 p3 p6 p7 p8 p9 p10 p11
        have hsz2 := h2.hB.size
        have hf0 := List.length_filter_le nz [o.f0]
        simp only [List.length_cons, List.length_nil] at hf0
        obtain ⟨ys, hys⟩ : ∃ ys, ys = xs ++ [o.f0].filter nz := ⟨_, rfl⟩
        have hyl : ys.length ≤ xs.length + 1 := by rw [hys, List.length_append]; omega
        rw [← hys] at h2
        have Hys := Lib.hid hys
        clear hys hf0
        go_upto_if 33 with (fail)
        go_cut [3] (fun v3 wx => NC w v3 (ys ++ [o.f3].filter nz) wx)
        case first =>
          go_wp2_with (first | ((with_reducible refine gate_builtin (b := .append) (xs := #[.tmp 34, .tmp 40]) rfl ?_); at_builtin; go_must (refine Kd.R_append k38 (w0 := wx) w.heap.size rfl (.tmp 34) (.tmp 40) 42 38 (.agg #[.int .i64 0, .string ⟨#[]⟩]) 24 rfl Try.underlying42 info38 rfl (by decide) (by decide) v3 ys o.f3 [.int .i64 o.f3.f0, .string o.f3.f1] (fun _ => True) (fun _ => False) rfl rfl ?aP (fun _ hk => hk.elim) ?aF ?aO ?aB ?aS ?aL ?_; (case aP => exact k38_mkM _ _ _ _); (case aF => exact fun _ _ => trivial); (case aO => exact h2.hR); (case aB => exact Below.refl _ _); (case aS => exact h2.hB.size); (case aL => omega); intro v9 w9 hR9 _ hg9 _)))
          · go_meet
            exact ⟨pw_below_grown h2.hB _ hsz2 hg9 (fun k hk => R_base h2.hR k hk), by rw [List.filter_cons, if_pos (nz_true ‹_›)]; exact hR9⟩
          · go_meet
            exact ⟨h2.hB, by rw [List.filter_cons, if_neg (by rw [nz_false ‹_›]; decide), List.filter_nil, List.append_nil]; exact h2.hR⟩
        case rest =>
          obtain ⟨wy, rfl⟩ : ∃ wx : World, wx = wc := ⟨_, rfl⟩
          obtain ⟨v4, rfl⟩ : ∃ v : Value, v = u3 := ⟨_, rfl⟩
          have h3 := hcut
          clear hcut h2 hC12 p4 p5 p12
          have hf0 := List.length_filter_le nz [o.f3]
          simp only [List.length_cons, List.length_nil] at hf0
          obtain ⟨zs, hzs⟩ : ∃ zs, zs = ys ++ [o.f3].filter nz := ⟨_, rfl⟩
          have hzl : zs.length ≤ ys.length + 1 := by rw [hzs, List.length_append]; omega
          rw [← hzs] at h3
          have Hzs := Lib.hid hzs
          clear hzs hf0
          have hi0 : (0 : Int) ≤ (i : Int) := by omega
          go_wp2_with fail
          go_loopw [3, 5] (fun v3 v5 wr => ∃ j : Nat, v5 = .int .i64 j ∧ j ≤ o.f7.length ∧ NC w v3 (zs ++ (o.f7.take j).filter nz) wr) (fun _ v5 _ => o.f7.length - (intOf v5).toNat)
          case atStart => exact ⟨0, rfl, Nat.zero_le _, by rw [List.take_zero, List.filter_nil, List.append_nil]; exact h3⟩
          case round =>
            obtain ⟨j, rfl, hj, h4⟩ := hrel
            have hs4 := h4.hB.size
            obtain ⟨ad', A13, c13, e', _, h13, hC13, p0, p1, p2, p3, p4, p5, p6, p7, p8, p9, p10, p11, p12⟩ := at_Op' hr0 h4.hB i hlt o Ho.out
            cases e'
            clear p0 p1 p2 p3 p4 p5 p6 p7 p8 p9 p10 p11 h3
            by_cases hlj : j < o.f7.length
            · obtain ⟨pd, rfl, q0, q1⟩ := at_T38 hC13 (j : Int) (by omega) (by omega)
              have hx : rd_T38 o.f7 (j : Int) = o.f7[j] := by unfold rd_T38; rw [Int.toNat_natCast, getD_get _ _ _ hlj]
              rw [hx, Int.toNat_natCast] at q0 q1
              have hfl := List.length_filter_le nz (o.f7.take j)
              rw [List.length_take] at hfl
              have Hst2 := Lib.hid (show (o.f7.take (j + 1)).filter nz = (o.f7.take j).filter nz ++ [o.f7[j]].filter nz by rw [List.take_succ_eq_append_getElem hlj, List.filter_append])
              obtain ⟨xx, hxx⟩ : ∃ x, x = o.f7[j] := ⟨_, rfl⟩
              rw [← hxx] at q0 q1
              have Hxx := Lib.hid hxx
              obtain ⟨us, hus⟩ : ∃ us, us = zs ++ (o.f7.take j).filter nz := ⟨_, rfl⟩
              have hul : us.length ≤ zs.length + j := by rw [hus, List.length_append]; omega
              rw [← hus] at h4
              have Hus := Lib.hid hus
              clear hx hxx hus hC13 hfl
              go_wp2_with (first | ((with_reducible refine gate_builtin (b := .append) (xs := #[.tmp 62, .tmp 71]) rfl ?_); at_builtin; go_must (refine Kd.R_append k38 (w0 := wr) w.heap.size rfl (.tmp 62) (.tmp 71) 42 38 (.agg #[.int .i64 0, .string ⟨#[]⟩]) 24 rfl Try.underlying42 info38 rfl (by decide) (by decide) u3 us xx [.int .i64 xx.f0, .string xx.f1] (fun _ => True) (fun _ => False) rfl rfl ?aP (fun _ hk => hk.elim) ?aF ?aO ?aB ?aS ?aL ?_; (case aP => exact k38_mkM _ _ _ _); (case aF => exact fun _ _ => trivial); (case aO => exact h4.hR); (case aB => exact Below.refl _ _); (case aS => exact h4.hB.size); (case aL => omega); intro v9 w9 hR9 _ hg9 _)))
              · go_roundw
                case rel => exact ⟨j + 1, by go_num, by omega, ⟨pw_below_grown h4.hB _ hs4 hg9 (fun k hk => R_base h4.hR k hk), by rw [Hst2.out, ← List.append_assoc, ← Hus.out, ← Hxx.out, List.filter_cons, if_pos (nz_true ‹_›)]; exact hR9⟩⟩
                case measure => simp [intOf]; omega
              · go_roundw
                case rel => exact ⟨j + 1, by go_num, by omega, ⟨h4.hB, by rw [Hst2.out, ← List.append_assoc, ← Hus.out, ← Hxx.out, List.filter_cons, if_neg (by rw [nz_false ‹_›]; decide), List.filter_nil, List.append_nil]; exact h4.hR⟩⟩
                case measure => simp [intOf]; omega
            · obtain rfl : j = o.f7.length := by omega
              rw [List.take_length] at h4
              go_wp2
              go_roundw
              case rel => exact ⟨i + 1, by go_num, by omega, by
                rw [Hst.out]
                have e : xs ++ ([o.f0, o.f3] ++ o.f7).filter nz = zs ++ o.f7.filter nz := by
                  rw [Hzs.out, Hys.out, show [o.f0, o.f3] = [o.f0] ++ [o.f3] from rfl]
                  simp only [List.filter_append, List.append_assoc]
                rw [e]
                exact h4⟩
              case measure => simp [intOf]; omega
    · obtain rfl : i = l0.length := by omega
      rw [List.take_length] at hc
      go_wp2
      go_ret
      exact ⟨_, rfl, hc.hR, hc.hB⟩
end Go.Proofs.Ytamihmofmjkfoaa.X
end

/-! ## XE28 -/
section
/- The reference's Names, as the print's callers ask it. -/
set_option linter.unusedVariables false
namespace Go.Proofs.Ytamihmofmjkfoaa.Q
open Go.RowKit Go.Proofs.YtamihmofmjkfoaaW.PrintWords Go.Proofs.YtamihmofmjkfoaaW.PrintLast Go.Proofs.YtamihmofmjkfoaaW.PrintMore
def inkwellref17_Names.f (l0 : List (S44)) : Option (List (S38)) := if X.Sm l0 then (some (X.namesOf l0)) else none
theorem inkwellref17_Names.calls (A0 : Option Addr) (c0 : Nat) (l0 : List (S44)) (r : List (S38)) (w : World) (hr0 : Kd.C k44 w A0 l0.length l0) (hc0 : l0.length ≤ c0) (h : inkwellref17_Names.f l0 = some r) :
    Calls Try.prog 28 #[.slice A0 l0.length c0] w fun e w' => ∃ v0_ : Value, e = .returned (v0_) ∧ Kd.R k38 38 w' w.heap.size (fun _ => True) v0_ r ∧ Below w.heap.size w w' := by
  unfold inkwellref17_Names.f at h
  split at h
  · cases h
    exact X.Names17_calls A0 c0 l0 w hr0 hc0 ‹_›
  · cases h
end Go.Proofs.Ytamihmofmjkfoaa.Q
end

/-! ## Q17 -/
section
-- By myprint.py, out of the translation, by way of the kit's print.
namespace Go.Proofs.Ytamihmofmjkfoaa.Q
open Go.RowKit Go.Proofs.YtamihmofmjkfoaaW.PrintWords Go.Proofs.YtamihmofmjkfoaaW.PrintLast Go.Proofs.YtamihmofmjkfoaaW.PrintMore
attribute [local go_sem] max2_int min2_int max_two min_two max_three min_three max_four min_four   -- for this text's walks alone
set_option linter.unusedVariables false
set_option linter.unusedSimpArgs false

/-! ### inkwellref18_Table: function 17 -/
mutual
def inkwellref18_Table.l0 : Nat → ByteArray → List ByteArray → List (S38) → Option (List ByteArray)
  | 0, _, _, _ => none
  | k + 1, x0, x5, x6 => inkwellref18_Table.l1 k x0 x5 x6 (-1) 0
def inkwellref18_Table.l1 : Nat → ByteArray → List ByteArray → List (S38) → Int → Int → Option (List ByteArray)
  | 0, _, _, _, _, _ => none
  | k + 1, x0, x5, x6, x7, x8 => if x8 < (x6.length : Int) then (if 0 ≤ x8 then (if ((rd_T38 x6 x8).f1).toList = x0.toList then (inkwellref18_Table.j2 k x0 x5 x6 x7 x8 ((rd_T38 x6 x8).f1) true) else (if (x5.length : Int) > 1 then (if 0 ≤ (wrap64 ((x5.length : Int) - 1)) then (if (wrap64 ((x5.length : Int) - 1)) < (x5.length : Int) then ((inkwellref18_less.f k (rdOf ByteArray.empty x5 (wrap64 ((x5.length : Int) - 1))) ((rd_T38 x6 x8).f1)).bind fun t113 => (inkwellref18_Table.j2 k x0 x5 x6 x7 x8 ((rd_T38 x6 x8).f1) (!t113))) else (none)) else (none)) else (inkwellref18_Table.j2 k x0 x5 x6 x7 x8 ((rd_T38 x6 x8).f1) false))) else (none)) else (if x7 < 0 then (some x5) else (if 0 ≤ x7 then (if x7 < (x6.length : Int) then (if x5.length < 8796093022208 then (inkwellref18_Table.l0 k x0 (x5 ++ [(rd_T38 x6 x7).f1]) x6) else (none)) else (none)) else (none)))
def inkwellref18_Table.j2 : Nat → ByteArray → List ByteArray → List (S38) → Int → Int → ByteArray → Bool → Option (List ByteArray)
  | 0, _, _, _, _, _, _, _ => none
  | k + 1, x0, x5, x6, x7, x8, x9, x43 => if x43 = true then (inkwellref18_Table.l1 k x0 x5 x6 x7 (wrap64 (x8 + 1))) else (if x7 < 0 then (inkwellref18_Table.l1 k x0 x5 x6 x8 (wrap64 (x8 + 1))) else (if 0 ≤ x7 then (if x7 < (x6.length : Int) then ((inkwellref18_less.f k x9 ((rd_T38 x6 x7).f1)).bind fun t115 => (if t115 = true then (inkwellref18_Table.l1 k x0 x5 x6 x8 (wrap64 (x8 + 1))) else (inkwellref18_Table.l1 k x0 x5 x6 x7 (wrap64 (x8 + 1))))) else (none)) else (none)))
end
def inkwellref18_Table.f (k : Nat) (a0 : ByteArray) (l1 : List (S44)) : Option (List ByteArray) := (inkwellref17_Names.f l1).bind fun t104 => (inkwellref18_Table.l0 k a0 (([a0] : List ByteArray)) t104)
theorem inkwellref18_Table.mono_l : ∀ k, (∀ y0 y1 y2, LeO (inkwellref18_Table.l0 k y0 y1 y2) (inkwellref18_Table.l0 (k + 1) y0 y1 y2)) ∧ (∀ y0 y1 y2 y3 y4, LeO (inkwellref18_Table.l1 k y0 y1 y2 y3 y4) (inkwellref18_Table.l1 (k + 1) y0 y1 y2 y3 y4)) ∧ (∀ y0 y1 y2 y3 y4 y5 y6, LeO (inkwellref18_Table.j2 k y0 y1 y2 y3 y4 y5 y6) (inkwellref18_Table.j2 (k + 1) y0 y1 y2 y3 y4 y5 y6))
  | 0 => ⟨fun _ _ _ r h => by simp [inkwellref18_Table.l0] at h, fun _ _ _ _ _ r h => by simp [inkwellref18_Table.l1] at h, fun _ _ _ _ _ _ _ r h => by simp [inkwellref18_Table.j2] at h⟩
  | k + 1 => by
    obtain ⟨ih0, ih1, ih2⟩ := inkwellref18_Table.mono_l k
    refine ⟨?_, ?_, ?_⟩
    · intro y0 y1 y2
      unfold inkwellref18_Table.l0
      repeat' first
      | (with_reducible exact ih0 _ _ _)
      | (with_reducible exact ih1 _ _ _ _ _)
      | (with_reducible exact ih2 _ _ _ _ _ _ _)
      | (with_reducible exact inkwellref18_less.mono _ _ _)
      | (with_reducible exact LeO.refl _)
      | (with_reducible exact LeO.none _)
      | (with_reducible refine LeO.ite ?_ ?_)
      | (with_reducible refine LeO.bind ?_ (fun _ => ?_))
      | exact ih0 _ _ _
      | exact ih1 _ _ _ _ _
      | exact ih2 _ _ _ _ _ _ _
      | exact inkwellref18_less.mono _ _ _
      | exact LeO.none _
      | refine LeO.ite ?_ ?_
      | refine LeO.bind ?_ (fun _ => ?_)
    · intro y0 y1 y2 y3 y4
      unfold inkwellref18_Table.l1
      repeat' first
      | (with_reducible exact ih0 _ _ _)
      | (with_reducible exact ih1 _ _ _ _ _)
      | (with_reducible exact ih2 _ _ _ _ _ _ _)
      | (with_reducible exact inkwellref18_less.mono _ _ _)
      | (with_reducible exact LeO.refl _)
      | (with_reducible exact LeO.none _)
      | (with_reducible refine LeO.ite ?_ ?_)
      | (with_reducible refine LeO.bind ?_ (fun _ => ?_))
      | exact ih0 _ _ _
      | exact ih1 _ _ _ _ _
      | exact ih2 _ _ _ _ _ _ _
      | exact inkwellref18_less.mono _ _ _
      | exact LeO.none _
      | refine LeO.ite ?_ ?_
      | refine LeO.bind ?_ (fun _ => ?_)
    · intro y0 y1 y2 y3 y4 y5 y6
      unfold inkwellref18_Table.j2
      repeat' first
      | (with_reducible exact ih0 _ _ _)
      | (with_reducible exact ih1 _ _ _ _ _)
      | (with_reducible exact ih2 _ _ _ _ _ _ _)
      | (with_reducible exact inkwellref18_less.mono _ _ _)
      | (with_reducible exact LeO.refl _)
      | (with_reducible exact LeO.none _)
      | (with_reducible refine LeO.ite ?_ ?_)
      | (with_reducible refine LeO.bind ?_ (fun _ => ?_))
      | exact ih0 _ _ _
      | exact ih1 _ _ _ _ _
      | exact ih2 _ _ _ _ _ _ _
      | exact inkwellref18_less.mono _ _ _
      | exact LeO.none _
      | refine LeO.ite ?_ ?_
      | refine LeO.bind ?_ (fun _ => ?_)
theorem inkwellref18_Table.mono : ∀ a0 a1 k, LeO (inkwellref18_Table.f k a0 a1) (inkwellref18_Table.f (k + 1) a0 a1) := by
  intro a0 a1 k
  obtain ⟨ih0, ih1, ih2⟩ := inkwellref18_Table.mono_l k
  unfold inkwellref18_Table.f
  repeat' first
      | (with_reducible exact ih0 _ _ _)
      | (with_reducible exact ih1 _ _ _ _ _)
      | (with_reducible exact ih2 _ _ _ _ _ _ _)
      | (with_reducible exact inkwellref18_less.mono _ _ _)
      | (with_reducible exact LeO.refl _)
      | (with_reducible exact LeO.none _)
      | (with_reducible refine LeO.ite ?_ ?_)
      | (with_reducible refine LeO.bind ?_ (fun _ => ?_))
      | exact ih0 _ _ _
      | exact ih1 _ _ _ _ _
      | exact ih2 _ _ _ _ _ _ _
      | exact inkwellref18_less.mono _ _ _
      | exact LeO.none _
      | refine LeO.ite ?_ ?_
      | refine LeO.bind ?_ (fun _ => ?_)
set_option maxHeartbeats 8000000 in
set_option maxRecDepth 100000 in
theorem inkwellref18_Table.calls (k : Nat) (a0 : ByteArray) (A1 : Option Addr) (c1 : Nat) (l1 : List (S44)) (r : List ByteArray) (w : World) (hr1 : Kd.C k44 w A1 l1.length l1) (hc1 : l1.length ≤ c1) (h : inkwellref18_Table.f k a0 l1 = some r) :
    Calls Try.prog 17 #[.string a0, .slice A1 l1.length c1] w fun e w' => ∃ v0_ : Value, e = .returned (v0_) ∧ Kd.R Kd.string 9 w' w.heap.size (fun _ => True) v0_ r ∧ Below w.heap.size w w' := by
  have HR1 := Aside0.mk hr1
  have HC1 := Aside0.mk hc1
  clear hr1 hc1
  have HB := Aside0.mk (Below.refl w.heap.size w)
  have H : ((inkwellref17_Names.f l1).bind fun t104 => (inkwellref18_Table.l0 k a0 (([a0] : List ByteArray)) t104)) = some r := h
  clear h
  obtain ⟨y101, hy101⟩ : ∃ y_ : List ByteArray, y_ = (([a0] : List ByteArray)) := ⟨_, rfl⟩
  replace H : ((inkwellref17_Names.f l1).bind fun t104 => (inkwellref18_Table.l0 k a0 y101 t104)) = some r := by first | (rw [hy101]; with_reducible exact H) | (have H2_ := (Option.bind_some _ _).symm.trans H; rw [hy101]; with_reducible exact H2_) | (have H2_ := (Option.bind_some _ _).symm.trans H; with_reducible exact H2_) | with_reducible exact H | (rw [hy101]; exact H) | exact H
  have Ny101 := Aside0.mk hy101
  clear hy101
  replace H := Option.bind_eq_some_iff.mp H
  obtain ⟨t104, A30, H⟩ := H
  replace H : (inkwellref18_Table.l0 k a0 y101 t104) = some r := H
  have A3 := Aside0.mk A30
  clear A30
  have H' := Aside0.mk H
  clear H
  go_enter Try.func17, Try.ntmps17
  go_wp2_with (first | ((with_reducible refine gate_dst (N := 11) rfl ?_); (try (refine gate_guard (by rfl) ?_; dsimp only)); refine Kd.R_lit Kd.string _ 9 ?hg (N := 11) ?hd (xs := ([a0] : List ByteArray)) (inner := [.string a0]) (ok := fun _ => True) (okp := fun _ => True) ?hr ?hp (fun _ hk => hk) trivial (Below.refl _ _) (Nat.le_refl _) (by simp) ?_; (case hd => rfl); (case hg => rfl); (case hr => first | (go_simp; done) | (go_simp; rfl)); (case hp => exact (Reps.one (show Kd.M Kd.string _ _ _ a0 [.string a0] from rfl) (Reps.none _ _))); intro v102 w4 ho5 hb hg_ hnew_; clear hg_ hnew_; (first | rw [← Ny101.out] at ho5 | (simp only [Int.reduceToNat] at ho5; rw [← Ny101.out] at ho5)); have n0_ := Aside0.mk (Kd.R_lower ho5 (below_size (by repeat (first | (with_reducible first | exact HB.out | apply below_alloc | apply pw_below_drewN | apply below_drew1) | exact HB.out)))); have n1_ := Aside0.mk (below_step (by repeat (first | (with_reducible first | exact HB.out | apply below_alloc | apply pw_below_drewN | apply below_drew1) | exact HB.out)) hb); clear HB; have HO103 := n0_; have HB := n1_; clear n0_ n1_; clear hb ho5) | ((with_reducible refine gate_callee (f := 28) rfl ?_); refine goesL_ (some 13) rfl rfl Try.func28 (by kernel_rfl) rfl #[.slice A1 l1.length c1] rfl (by (try simp only [List.map_toArray, List.map_cons, List.map_nil]); first | done | rfl | (simp only [List.length_drop, List.length_take]; rfl)) ?_; (with_reducible refine (inkwellref17_Names.calls _ _ l1 t104 _ ?side1 ?side2 A3.out).mono ?_); (case side1 => repeat (first | exact (Kd.C_below HR1.out HB.out) | (with_reducible refine Kd.C_alloc ?_ _) | (with_reducible refine Kd.C_drewN ?_ _) | (with_reducible refine Kd.C_drew ?_))); (case side2 => exact HC1.out); rintro e w6 ⟨v105, rfl, ho0, hb⟩; refine ⟨_, rfl, ?_⟩; have n0_ := Aside0.mk (Kd.R_below (by (with_reducible repeat (first | apply Kd.R_alloc | apply Kd.R_drewN | apply Kd.R_drew)); exact HO103.out) hb); have n1_ := Aside0.mk (Kd.R_lower ho0 (below_size (by repeat (first | (with_reducible first | exact HB.out | apply below_alloc | apply pw_below_drewN | apply below_drew1) | exact HB.out)))); have n2_ := Aside0.mk (below_step (by repeat (first | (with_reducible first | exact HB.out | apply below_alloc | apply pw_below_drewN | apply below_drew1) | exact HB.out)) hb); clear HO103; clear HB; have HO103 := n0_; have HO106 := n1_; have HB := n2_; clear n0_ n1_ n2_; (try clear hb); (try clear hb2); (try clear hk); (try clear hi); (try clear ho0)))
  go_loopg [5] k (fun kq v5 w' => ∃ (x5_1 : List ByteArray), Aside0 (inkwellref18_Table.l0 kq a0 x5_1 t104 = some r) ∧ Aside0 (kq ≤ k) ∧ Aside0 (Kd.R Kd.string 9 w' w.heap.size (fun _ => True) v5 x5_1) ∧ Aside0 (Kd.R k38 38 w' w.heap.size (fun _ => True) v105 t104) ∧ Aside0 (Below w.heap.size w w'))
  case atStart => exact ⟨(y101), H', ⟨Nat.le_refl _⟩, ⟨by (with_reducible repeat (first | apply Kd.R_alloc | apply Kd.R_drewN | apply Kd.R_drew)); exact HO103.out⟩, ⟨by (with_reducible repeat (first | apply Kd.R_alloc | apply Kd.R_drewN | apply Kd.R_drew)); exact HO106.out⟩, ⟨by repeat (first | (with_reducible first | exact HB.out | apply below_alloc | apply pw_below_drewN | apply below_drew1) | exact HB.out)⟩⟩
  case round =>
    clear H'
    try clear c1
    try clear c2
    try clear p2
    obtain ⟨x5_1, HA, HK1, HO_5, HO_6, HB⟩ := hrel
    cases gk with
    | zero => exact absurd HA.out (by simp [inkwellref18_Table.l0])
    | succ k1 =>
      have H := HA.out
      clear HA
      simp only [inkwellref18_Table.l0] at H
      have H' := Aside0.mk H
      clear H
      go_wp2
      go_loopg [7, 8] k1 (fun kq v7 v8 w' => ∃ (x7_2 : Int) (x8_2 : Int), v7 = .int .i64 x7_2 ∧ v8 = .int .i64 x8_2 ∧ Aside0 (inkwellref18_Table.l1 kq a0 x5_1 t104 x7_2 x8_2 = some r) ∧ Aside0 (kq ≤ k1) ∧ Aside0 (Kd.R Kd.string 9 w' w.heap.size (fun _ => True) u5 x5_1) ∧ Aside0 (Kd.R k38 38 w' w.heap.size (fun _ => True) v105 t104) ∧ Aside0 (Below w.heap.size w w'))
      case atStart => exact ⟨((-1)), (0), (by first | rfl | (simp; done) | (simp [*]; done)), (by first | rfl | (simp; done) | (simp [*]; done)), H', ⟨Nat.le_refl _⟩, ⟨by (with_reducible repeat (first | apply Kd.R_alloc | apply Kd.R_drewN | apply Kd.R_drew)); exact HO_5.out⟩, ⟨by (with_reducible repeat (first | apply Kd.R_alloc | apply Kd.R_drewN | apply Kd.R_drew)); exact HO_6.out⟩, ⟨by repeat (first | (with_reducible first | exact HB.out | apply below_alloc | apply pw_below_drewN | apply below_drew1) | exact HB.out)⟩⟩
      case round =>
        clear H'
        try clear c1
        try clear c2
        try clear p2
        try clear p2
        obtain ⟨x7_2, x8_2, rfl, rfl, HA, HK2, HO_5, HO_6, HB⟩ := hrel
        cases gk with
        | zero => exact absurd HA.out (by simp [inkwellref18_Table.l1])
        | succ k2 =>
          have H := HA.out
          clear HA
          simp only [inkwellref18_Table.l1] at H
          by_cases c7 : x8_2 < (t104.length : Int)
          · rw [if_pos c7] at H
            have c7b0 : decide (x8_2 < (t104.length : Int)) = true := decide_eq_true c7
            clear c7
            by_cases c8 : 0 ≤ x8_2
            · rw [if_pos c8] at H
              have c8b0 : decide (0 ≤ x8_2) = true := decide_eq_true c8
              clear c8
              have HC9 := Aside0.mk H
              clear H
              obtain ⟨Ao10, co10, eo10⟩ := Kd.R_slice HO_6.out
              subst eo10
              have p111 : 0 ≤ (x8_2 : Int) := of_decide_eq_true (by first | (with_reducible assumption) | assumption)
              have q111 : x8_2 < (t104.length : Int) := of_decide_eq_true (by first | (with_reducible assumption) | assumption)
              obtain ⟨ad111, e111, hx111_0, hx111_1⟩ := at_T38 (Kd.R_reads' HO_6.out).2.2 x8_2 p111 q111
              cases e111
              replace p111 := eq_true p111
              replace q111 := eq_true q111
              go_upto_region 8 with (fail)
              go_cut [43] (fun v43 wc => ∃ (kq : Nat) (x43_8 : Bool), v43 = .bool x43_8 ∧ Aside0 (inkwellref18_Table.j2 kq a0 x5_1 t104 x7_2 x8_2 ((rd_T38 t104 x8_2).f1) x43_8 = some r) ∧ Aside0 (kq ≤ k2) ∧ Aside0 (Kd.R Kd.string 9 wc w.heap.size (fun _ => True) u5 x5_1) ∧ Aside0 (Kd.R k38 38 wc w.heap.size (fun _ => True) (.slice (some ad111) t104.length co10) t104) ∧ Aside0 (Below w.heap.size w wc))
              case first =>
                have H := HC9.out
                clear HC9
                by_cases c11 : ((rd_T38 t104 x8_2).f1).toList = a0.toList
                · rw [if_pos c11] at H
                  have c11b0 : (((rd_T38 t104 x8_2).f1).toList == a0.toList) = true := beq_iff_eq.mpr c11
                  have c11b1 : (((rd_T38 t104 x8_2).f1).toList != a0.toList) = false := bne_eq_false_iff_eq.mpr c11
                  clear c11
                  (first | rw [c11b0] | (simp only [i64_w, i32_w]; rw [c11b0]) | skip)
                  have H' := Aside0.mk H
                  clear H
                  go_wp2
                  go_meet
                  case rel => exact ⟨_, (true), (by first | rfl | (simp; done) | (simp [*]; done)), H', ⟨by have := HK1.out; have := HK2.out; first | omega | exact Nat.le_refl _⟩, ⟨by (with_reducible repeat (first | apply Kd.R_alloc | apply Kd.R_drewN | apply Kd.R_drew)); exact HO_5.out⟩, ⟨by (with_reducible repeat (first | apply Kd.R_alloc | apply Kd.R_drewN | apply Kd.R_drew)); exact HO_6.out⟩, ⟨by repeat (first | (with_reducible first | exact HB.out | apply below_alloc | apply pw_below_drewN | apply below_drew1) | exact HB.out)⟩⟩
                · rw [if_neg c11] at H
                  have c11b0 : (((rd_T38 t104 x8_2).f1).toList == a0.toList) = false := beq_eq_false_iff_ne.mpr c11
                  have c11b1 : (((rd_T38 t104 x8_2).f1).toList != a0.toList) = true := bne_iff_ne.mpr c11
                  (first | rw [c11b0] | (simp only [i64_w, i32_w]; rw [c11b0]) | skip)
                  by_cases c12 : (x5_1.length : Int) > 1
                  · rw [if_pos c12] at H
                    have c12b0 : decide (1 < (x5_1.length : Int)) = true := decide_eq_true c12
                    have c12b1 : decide (1 < x5_1.length) = true := decide_eq_true (by omega)
                    clear c12
                    obtain ⟨ji13, hji13⟩ : ∃ j_ : Int, (wrap64 ((x5_1.length : Int) - 1)) = j_ := ⟨_, rfl⟩
                    replace H : (if 0 ≤ (ji13) then (if (ji13) < (x5_1.length : Int) then ((inkwellref18_less.f k2 (rdOf ByteArray.empty x5_1 (ji13)) ((rd_T38 t104 x8_2).f1)).bind fun t113 => (inkwellref18_Table.j2 k2 a0 x5_1 t104 x7_2 x8_2 ((rd_T38 t104 x8_2).f1) (!t113))) else (none)) else (none)) = some r := by first | (rw [hji13] at H; exact H) | (simp only [hji13] at H ⊢; exact H)
                    have hji13w : (IntKind.i64.wrap ((x5_1.length : Int) - 1)) = ji13 := (i64_w _).trans hji13
                    by_cases c14 : 0 ≤ (ji13)
                    · rw [if_pos c14] at H
                      have c14b0 : decide (0 ≤ (ji13)) = true := decide_eq_true c14
                      clear c14
                      by_cases c15 : (ji13) < (x5_1.length : Int)
                      · rw [if_pos c15] at H
                        have c15b0 : decide ((ji13) < (x5_1.length : Int)) = true := decide_eq_true c15
                        clear c15
                        replace H := Option.bind_eq_some_iff.mp H
                        obtain ⟨t113, A160, H⟩ := H
                        replace H : (inkwellref18_Table.j2 k2 a0 x5_1 t104 x7_2 x8_2 ((rd_T38 t104 x8_2).f1) (!t113)) = some r := H
                        have A16 := Aside0.mk A160
                        clear A160
                        have H' := Aside0.mk H
                        clear H
                        obtain ⟨Ao17, co17, eo17⟩ := Kd.R_slice HO_5.out
                        subst eo17
                        have p112 : 0 ≤ ((ji13) : Int) := of_decide_eq_true (by first | (with_reducible assumption) | assumption)
                        have q112 : (ji13) < (x5_1.length : Int) := of_decide_eq_true (by first | (with_reducible assumption) | assumption)
                        obtain ⟨ad112, e112, hx112_0⟩ := Kd.at_string (Kd.R_reads' HO_5.out).2.2 (ji13) p112 q112
                        cases e112
                        replace p112 := eq_true p112
                        replace q112 := eq_true q112
                        go_wp2_with (first | (go_at_call 42; (with_reducible refine (inkwellref18_less.calls k2 (rdOf ByteArray.empty x5_1 (ji13)) ((rd_T38 t104 x8_2).f1) t113 _ A16.out).mono ?_); rintro e w18 ⟨rfl, hb⟩; have n0_ := Aside0.mk (Kd.R_below (by (with_reducible repeat (first | apply Kd.R_alloc | apply Kd.R_drewN | apply Kd.R_drew)); exact HO_5.out) hb); have n1_ := Aside0.mk (Kd.R_below (by (with_reducible repeat (first | apply Kd.R_alloc | apply Kd.R_drewN | apply Kd.R_drew)); exact HO_6.out) hb); have n2_ := Aside0.mk (below_step (by repeat (first | (with_reducible first | exact HB.out | apply below_alloc | apply pw_below_drewN | apply below_drew1) | exact HB.out)) hb); clear HO_5; clear HO_6; clear HB; have HO_5 := n0_; have HO_6 := n1_; have HB := n2_; clear n0_ n1_ n2_; (try clear hb); (try clear hb2); (try clear hk); (try clear hi)))
                        go_meet
                        case rel => exact ⟨_, (!t113), (by first | rfl | (simp; done) | (simp [*]; done)), H', ⟨by have := HK1.out; have := HK2.out; first | omega | exact Nat.le_refl _⟩, ⟨by (with_reducible repeat (first | apply Kd.R_alloc | apply Kd.R_drewN | apply Kd.R_drew)); exact HO_5.out⟩, ⟨by (with_reducible repeat (first | apply Kd.R_alloc | apply Kd.R_drewN | apply Kd.R_drew)); exact HO_6.out⟩, ⟨by repeat (first | (with_reducible first | exact HB.out | apply below_alloc | apply pw_below_drewN | apply below_drew1) | exact HB.out)⟩⟩
                      · rw [if_neg c15] at H
                        exact absurd H (by simp)
                    · rw [if_neg c14] at H
                      exact absurd H (by simp)
                  · rw [if_neg c12] at H
                    have c12b0 : decide (1 < (x5_1.length : Int)) = false := decide_eq_false c12
                    have c12b1 : decide (1 < x5_1.length) = false := decide_eq_false (by omega)
                    clear c12
                    have H' := Aside0.mk H
                    clear H
                    obtain ⟨Ao19, co19, eo19⟩ := Kd.R_slice HO_5.out
                    subst eo19
                    go_wp2
                    go_meet
                    case rel => exact ⟨_, (false), (by first | rfl | (simp; done) | (simp [*]; done)), H', ⟨by have := HK1.out; have := HK2.out; first | omega | exact Nat.le_refl _⟩, ⟨by (with_reducible repeat (first | apply Kd.R_alloc | apply Kd.R_drewN | apply Kd.R_drew)); exact HO_5.out⟩, ⟨by (with_reducible repeat (first | apply Kd.R_alloc | apply Kd.R_drewN | apply Kd.R_drew)); exact HO_6.out⟩, ⟨by repeat (first | (with_reducible first | exact HB.out | apply below_alloc | apply pw_below_drewN | apply below_drew1) | exact HB.out)⟩⟩
              case rest =>
                clear HC9
                try clear c1
                try clear p1
                try clear q1
                try clear hx1
                try clear c2
                try clear p2
                try clear p6
                try clear c7
                try clear c7b0
                try clear c8
                try clear c8b0
                try clear c11
                try clear c11b0
                try clear c11b1
                try clear p11
                try clear q11
                try clear hx11
                try clear c12
                try clear c12b0
                try clear c12b1
                try clear c14
                try clear c14b0
                try clear c15
                try clear c15b0
                try clear c17
                try clear hx111_0
                try clear hx111_1
                try clear hx112_0
                try clear p111
                try clear p112
                try clear p2
                try clear q111
                try clear q112
                obtain ⟨kq, x43_8, rfl, HA, HJ8, HO_5, HO_6, HB⟩ := hcut
                cases kq with
                | zero => exact absurd HA.out (by simp [inkwellref18_Table.j2])
                | succ kj8 =>
                  have H := HA.out
                  clear HA
                  simp only [inkwellref18_Table.j2] at H
                  by_cases c20 : x43_8 = true
                  · subst c20
                    have H1 : (inkwellref18_Table.l1 kj8 a0 x5_1 t104 x7_2 (wrap64 (x8_2 + 1))) = some r := by rw [if_pos rfl] at H; exact H
                    clear H
                    have H := H1
                    clear H1
                    have H' := Aside0.mk H
                    clear H
                    go_wp2
                    go_roundg kj8
                    case measure => have := HK1.out; have := HK2.out; have := HJ8.out; omega
                    case rel => exact ⟨(x7_2), (wrap64 (x8_2 + 1)), (by first | rfl | (simp; done) | (simp [*]; done)), (by first | rfl | (simp; done) | (simp [*]; done)), H', ⟨by have := HK1.out; have := HK2.out; have := HJ8.out; omega⟩, ⟨by (with_reducible repeat (first | apply Kd.R_alloc | apply Kd.R_drewN | apply Kd.R_drew)); exact HO_5.out⟩, ⟨by (with_reducible repeat (first | apply Kd.R_alloc | apply Kd.R_drewN | apply Kd.R_drew)); exact HO_6.out⟩, ⟨by repeat (first | (with_reducible first | exact HB.out | apply below_alloc | apply pw_below_drewN | apply below_drew1) | exact HB.out)⟩⟩
                  · replace c20 := Bool.eq_false_iff.mpr c20
                    subst c20
                    have H1 : (if x7_2 < 0 then (inkwellref18_Table.l1 kj8 a0 x5_1 t104 x8_2 (wrap64 (x8_2 + 1))) else (if 0 ≤ x7_2 then (if x7_2 < (t104.length : Int) then ((inkwellref18_less.f kj8 ((rd_T38 t104 x8_2).f1) ((rd_T38 t104 x7_2).f1)).bind fun t115 => (if t115 = true then (inkwellref18_Table.l1 kj8 a0 x5_1 t104 x8_2 (wrap64 (x8_2 + 1))) else (inkwellref18_Table.l1 kj8 a0 x5_1 t104 x7_2 (wrap64 (x8_2 + 1))))) else (none)) else (none))) = some r := by rw [if_neg (show ¬ (false = true) by decide)] at H; exact H
                    clear H
                    have H := H1
                    clear H1
                    by_cases c21 : x7_2 < 0
                    · rw [if_pos c21] at H
                      have c21b0 : decide (x7_2 < 0) = true := decide_eq_true c21
                      clear c21
                      have H' := Aside0.mk H
                      clear H
                      go_wp2
                      go_roundg kj8
                      case measure => have := HK1.out; have := HK2.out; have := HJ8.out; omega
                      case rel => exact ⟨(x8_2), (wrap64 (x8_2 + 1)), (by first | rfl | (simp; done) | (simp [*]; done)), (by first | rfl | (simp; done) | (simp [*]; done)), H', ⟨by have := HK1.out; have := HK2.out; have := HJ8.out; omega⟩, ⟨by (with_reducible repeat (first | apply Kd.R_alloc | apply Kd.R_drewN | apply Kd.R_drew)); exact HO_5.out⟩, ⟨by (with_reducible repeat (first | apply Kd.R_alloc | apply Kd.R_drewN | apply Kd.R_drew)); exact HO_6.out⟩, ⟨by repeat (first | (with_reducible first | exact HB.out | apply below_alloc | apply pw_below_drewN | apply below_drew1) | exact HB.out)⟩⟩
                    · rw [if_neg c21] at H
                      have c21b0 : decide (x7_2 < 0) = false := decide_eq_false c21
                      clear c21
                      by_cases c22 : 0 ≤ x7_2
                      · rw [if_pos c22] at H
                        have c22b0 : decide (0 ≤ x7_2) = true := decide_eq_true c22
                        clear c22
                        by_cases c23 : x7_2 < (t104.length : Int)
                        · rw [if_pos c23] at H
                          have c23b0 : decide (x7_2 < (t104.length : Int)) = true := decide_eq_true c23
                          clear c23
                          replace H := Option.bind_eq_some_iff.mp H
                          obtain ⟨t115, A240, H⟩ := H
                          replace H : (if t115 = true then (inkwellref18_Table.l1 kj8 a0 x5_1 t104 x8_2 (wrap64 (x8_2 + 1))) else (inkwellref18_Table.l1 kj8 a0 x5_1 t104 x7_2 (wrap64 (x8_2 + 1)))) = some r := H
                          have A24 := Aside0.mk A240
                          clear A240
                          by_cases c25 : t115 = true
                          · subst c25
                            have H1 : (inkwellref18_Table.l1 kj8 a0 x5_1 t104 x8_2 (wrap64 (x8_2 + 1))) = some r := by rw [if_pos rfl] at H; exact H
                            clear H
                            have H := H1
                            clear H1
                            have H' := Aside0.mk H
                            clear H
                            have p114 : 0 ≤ (x7_2 : Int) := of_decide_eq_true (by first | (with_reducible assumption) | assumption)
                            have q114 : x7_2 < (t104.length : Int) := of_decide_eq_true (by first | (with_reducible assumption) | assumption)
                            obtain ⟨ad114, e114, hx114_0, hx114_1⟩ := at_T38 (Kd.R_reads' HO_6.out).2.2 x7_2 p114 q114
                            obtain rfl : ad111 = ad114 := (by injection e114)
                            replace p114 := eq_true p114
                            replace q114 := eq_true q114
                            go_wp2_with (first | (go_at_call 42; (with_reducible refine (inkwellref18_less.calls kj8 ((rd_T38 t104 x8_2).f1) ((rd_T38 t104 x7_2).f1) true _ A24.out).mono ?_); rintro e w26 ⟨rfl, hb⟩; have n0_ := Aside0.mk (Kd.R_below (by (with_reducible repeat (first | apply Kd.R_alloc | apply Kd.R_drewN | apply Kd.R_drew)); exact HO_5.out) hb); have n1_ := Aside0.mk (Kd.R_below (by (with_reducible repeat (first | apply Kd.R_alloc | apply Kd.R_drewN | apply Kd.R_drew)); exact HO_6.out) hb); have n2_ := Aside0.mk (below_step (by repeat (first | (with_reducible first | exact HB.out | apply below_alloc | apply pw_below_drewN | apply below_drew1) | exact HB.out)) hb); clear HO_5; clear HO_6; clear HB; have HO_5 := n0_; have HO_6 := n1_; have HB := n2_; clear n0_ n1_ n2_; (try clear hb); (try clear hb2); (try clear hk); (try clear hi)))
                            go_roundg kj8
                            case measure => have := HK1.out; have := HK2.out; have := HJ8.out; omega
                            case rel => exact ⟨(x8_2), (wrap64 (x8_2 + 1)), (by first | rfl | (simp; done) | (simp [*]; done)), (by first | rfl | (simp; done) | (simp [*]; done)), H', ⟨by have := HK1.out; have := HK2.out; have := HJ8.out; omega⟩, ⟨by (with_reducible repeat (first | apply Kd.R_alloc | apply Kd.R_drewN | apply Kd.R_drew)); exact HO_5.out⟩, ⟨by (with_reducible repeat (first | apply Kd.R_alloc | apply Kd.R_drewN | apply Kd.R_drew)); exact HO_6.out⟩, ⟨by repeat (first | (with_reducible first | exact HB.out | apply below_alloc | apply pw_below_drewN | apply below_drew1) | exact HB.out)⟩⟩
                          · replace c25 := Bool.eq_false_iff.mpr c25
                            subst c25
                            have H1 : (inkwellref18_Table.l1 kj8 a0 x5_1 t104 x7_2 (wrap64 (x8_2 + 1))) = some r := by rw [if_neg (show ¬ (false = true) by decide)] at H; exact H
                            clear H
                            have H := H1
                            clear H1
                            have H' := Aside0.mk H
                            clear H
                            have p114 : 0 ≤ (x7_2 : Int) := of_decide_eq_true (by first | (with_reducible assumption) | assumption)
                            have q114 : x7_2 < (t104.length : Int) := of_decide_eq_true (by first | (with_reducible assumption) | assumption)
                            obtain ⟨ad114, e114, hx114_0, hx114_1⟩ := at_T38 (Kd.R_reads' HO_6.out).2.2 x7_2 p114 q114
                            obtain rfl : ad111 = ad114 := (by injection e114)
                            replace p114 := eq_true p114
                            replace q114 := eq_true q114
                            go_wp2_with (first | (go_at_call 42; (with_reducible refine (inkwellref18_less.calls kj8 ((rd_T38 t104 x8_2).f1) ((rd_T38 t104 x7_2).f1) false _ A24.out).mono ?_); rintro e w27 ⟨rfl, hb⟩; have n0_ := Aside0.mk (Kd.R_below (by (with_reducible repeat (first | apply Kd.R_alloc | apply Kd.R_drewN | apply Kd.R_drew)); exact HO_5.out) hb); have n1_ := Aside0.mk (Kd.R_below (by (with_reducible repeat (first | apply Kd.R_alloc | apply Kd.R_drewN | apply Kd.R_drew)); exact HO_6.out) hb); have n2_ := Aside0.mk (below_step (by repeat (first | (with_reducible first | exact HB.out | apply below_alloc | apply pw_below_drewN | apply below_drew1) | exact HB.out)) hb); clear HO_5; clear HO_6; clear HB; have HO_5 := n0_; have HO_6 := n1_; have HB := n2_; clear n0_ n1_ n2_; (try clear hb); (try clear hb2); (try clear hk); (try clear hi)))
                            go_roundg kj8
                            case measure => have := HK1.out; have := HK2.out; have := HJ8.out; omega
                            case rel => exact ⟨(x7_2), (wrap64 (x8_2 + 1)), (by first | rfl | (simp; done) | (simp [*]; done)), (by first | rfl | (simp; done) | (simp [*]; done)), H', ⟨by have := HK1.out; have := HK2.out; have := HJ8.out; omega⟩, ⟨by (with_reducible repeat (first | apply Kd.R_alloc | apply Kd.R_drewN | apply Kd.R_drew)); exact HO_5.out⟩, ⟨by (with_reducible repeat (first | apply Kd.R_alloc | apply Kd.R_drewN | apply Kd.R_drew)); exact HO_6.out⟩, ⟨by repeat (first | (with_reducible first | exact HB.out | apply below_alloc | apply pw_below_drewN | apply below_drew1) | exact HB.out)⟩⟩
                        · rw [if_neg c23] at H
                          exact absurd H (by simp)
                      · rw [if_neg c22] at H
                        exact absurd H (by simp)
            · rw [if_neg c8] at H
              exact absurd H (by simp)
          · rw [if_neg c7] at H
            have c7b0 : decide (x8_2 < (t104.length : Int)) = false := decide_eq_false c7
            clear c7
            by_cases c28 : x7_2 < 0
            · rw [if_pos c28] at H
              have c28b0 : decide (x7_2 < 0) = true := decide_eq_true c28
              clear c28
              obtain rfl := Option.some.inj H
              obtain ⟨Ao29, co29, eo29⟩ := Kd.R_slice HO_6.out
              subst eo29
              go_wp2
              go_ret
              exact ⟨_, by first | rfl | (simp [errW_none, errW_some] <;> rfl) | (simp [*, errW_none, errW_some] <;> rfl), by (with_reducible repeat (first | apply Kd.R_alloc | apply Kd.R_drewN | apply Kd.R_drew)); exact HO_5.out, by repeat (first | (with_reducible first | exact HB.out | apply below_alloc | apply pw_below_drewN | apply below_drew1) | exact HB.out)⟩
            · rw [if_neg c28] at H
              have c28b0 : decide (x7_2 < 0) = false := decide_eq_false c28
              clear c28
              by_cases c30 : 0 ≤ x7_2
              · rw [if_pos c30] at H
                have c30b0 : decide (0 ≤ x7_2) = true := decide_eq_true c30
                clear c30
                by_cases c31 : x7_2 < (t104.length : Int)
                · rw [if_pos c31] at H
                  have c31b0 : decide (x7_2 < (t104.length : Int)) = true := decide_eq_true c31
                  clear c31
                  by_cases c32 : x5_1.length < 8796093022208
                  · rw [if_pos c32] at H
                    have LMc32 := Aside0.mk c32
                    clear c32
                    obtain ⟨y108, hy108⟩ : ∃ y_ : List ByteArray, y_ = (x5_1 ++ [(rd_T38 t104 x7_2).f1]) := ⟨_, rfl⟩
                    replace H : (inkwellref18_Table.l0 k2 a0 y108 t104) = some r := by first | (rw [hy108]; with_reducible exact H) | (have H2_ := (Option.bind_some _ _).symm.trans H; rw [hy108]; with_reducible exact H2_) | (have H2_ := (Option.bind_some _ _).symm.trans H; with_reducible exact H2_) | with_reducible exact H | (rw [hy108]; exact H) | exact H
                    have Ny108 := Aside0.mk hy108
                    clear hy108
                    have H' := Aside0.mk H
                    clear H
                    obtain ⟨Ao33, co33, eo33⟩ := Kd.R_slice HO_6.out
                    subst eo33
                    have p107 : 0 ≤ (x7_2 : Int) := of_decide_eq_true (by first | (with_reducible assumption) | assumption)
                    have q107 : x7_2 < (t104.length : Int) := of_decide_eq_true (by first | (with_reducible assumption) | assumption)
                    obtain ⟨ad107, e107, hx107_0, hx107_1⟩ := at_T38 (Kd.R_reads' HO_6.out).2.2 x7_2 p107 q107
                    cases e107
                    replace p107 := eq_true p107
                    replace q107 := eq_true q107
                    go_wp2_with (first | ((with_reducible refine gate_builtin (b := .append) (xs := #[.tmp 59, .tmp 65]) rfl ?_); (try (refine gate_guard (by rfl) ?_; dsimp only)); at_builtin; refine Kd.R_append Kd.string (w0 := w) w.heap.size rfl (.tmp 59) (.tmp 65) 26 9 (.string ⟨#[]⟩) 16 rfl Try.underlying26 info9 rfl (by decide) (by omega) u5 x5_1 ((rd_T38 t104 x7_2).f1) [.string ((rd_T38 t104 x7_2).f1)] (fun _ => True) (fun _ => False) rfl rfl ?aP (fun _ hk => hk.elim) ?aF ?aO ?aB ?aS ?aL ?_; (case aP => exact rfl); (case aB => exact (by repeat (first | (with_reducible first | exact HB.out | apply below_alloc | apply pw_below_drewN | apply below_drew1) | exact HB.out))); (case aF => exact (fun _ _ => trivial)); (case aO => exact (by (with_reducible repeat (first | apply Kd.R_alloc | apply Kd.R_drewN | apply Kd.R_drew)); exact HO_5.out)); (case aS => exact (below_size (by repeat (first | (with_reducible first | exact HB.out | apply below_alloc | apply pw_below_drewN | apply below_drew1) | exact HB.out)))); (case aL => have := LMc32.out; omega); intro v109 w34 ho hb hg hat; rw [← Ny108.out] at ho; have n0_ := Aside0.mk (Kd.R_over' (by (with_reducible repeat (first | apply Kd.R_alloc | apply Kd.R_drewN | apply Kd.R_drew)); exact HO_6.out) (Kd.R_typed (by (with_reducible repeat (first | apply Kd.R_alloc | apply Kd.R_drewN | apply Kd.R_drew)); exact HO_5.out)) (by decide) hg); have n1_ := Aside0.mk (hb); have n2_ := Aside0.mk (ho); clear HO_6; clear HB; clear HO_5; have HO_6 := n0_; have HB := n1_; have HO110 := n2_; clear n0_ n1_ n2_; clear ho hb hg hat))
                    go_roundg k2
                    case measure => have := HK1.out; have := HK2.out; omega
                    case rel => exact ⟨(y108), H', ⟨by have := HK1.out; have := HK2.out; omega⟩, ⟨by (with_reducible repeat (first | apply Kd.R_alloc | apply Kd.R_drewN | apply Kd.R_drew)); exact HO110.out⟩, ⟨by (with_reducible repeat (first | apply Kd.R_alloc | apply Kd.R_drewN | apply Kd.R_drew)); exact HO_6.out⟩, ⟨by repeat (first | (with_reducible first | exact HB.out | apply below_alloc | apply pw_below_drewN | apply below_drew1) | exact HB.out)⟩⟩
                  · rw [if_neg c32] at H
                    exact absurd H (by simp)
                · rw [if_neg c31] at H
                  exact absurd H (by simp)
              · rw [if_neg c30] at H
                exact absurd H (by simp)

end Go.Proofs.Ytamihmofmjkfoaa.Q
end

/-! ## XTab17 -/
section
/- The reference's Table answers the same table. Conditions: few ops, short texts. -/
set_option linter.unusedVariables false
set_option linter.unusedSimpArgs false
namespace Go.Proofs.Ytamihmofmjkfoaa.X
open Go.RowKit Go.Proofs.YtamihmofmjkfoaaW.PrintWords Go.Proofs.YtamihmofmjkfoaaW.PrintLast Go.Proofs.YtamihmofmjkfoaaW.PrintMore Go.Proofs.Ytamihmofmjkfoaa.Q

theorem bt_bl (s : ByteArray) (i : Nat) (h : i < s.size) : ∃ hb : i < (bl s).length, bt s (i : Int) = (((bl s)[i]).toNat : Int) := by
  have hl : i < (bl s).length := by unfold bl; rw [data_length]; exact h
  refine ⟨hl, ?_⟩
  unfold bt
  rw [dif_pos (by simpa using h)]
  simp [bl]
  rfl
theorem bl_length (s : ByteArray) : (bl s).length = s.size := by unfold bl; exact data_length s
theorem drop_all {α : Type} (l : List α) (i : Nat) (h : l.length ≤ i) : l.drop i = [] := List.drop_eq_nil_of_le h
/-- Is x the lesser text? -/
def ltB (x y : List UInt8) : Bool := decide (x < y)
theorem ltB_true {x y : List UInt8} : ltB x y = true ↔ x < y := by unfold ltB; exact decide_eq_true_iff
theorem ltB_false {x y : List UInt8} : ltB x y = false ↔ y ≤ x := by unfold ltB; rw [decide_eq_false_iff_not]; exact List.not_lt
theorem ltB_nil_right (x : List UInt8) : ltB x [] = false := by unfold ltB; exact decide_eq_false (List.not_lt_nil _)
theorem ltB_nil_cons (y : UInt8) (t : List UInt8) : ltB [] (y :: t) = true := by unfold ltB; exact decide_eq_true (List.nil_lt_cons _ _)
theorem ltB_same {x y : UInt8} {s t : List UInt8} (h : x = y) : ltB (x :: s) (y :: t) = ltB s t := by
  subst h
  unfold ltB
  rw [decide_eq_decide, List.cons_lt_cons_iff]
  constructor
  · rintro (h | ⟨_, h⟩)
    · exact absurd h (by rw [UInt8.lt_iff_toNat_lt]; omega)
    · exact h
  · intro h; exact .inr ⟨rfl, h⟩
theorem ltB_other {x y : UInt8} {s t : List UInt8} (h : ¬ x = y) : ltB (x :: s) (y :: t) = decide ((x.toNat : Int) < (y.toNat : Int)) := by
  unfold ltB
  rw [decide_eq_decide, List.cons_lt_cons_iff, UInt8.lt_iff_toNat_lt]
  constructor
  · rintro (h1 | h1)
    · omega
    · exact absurd h1.1 h
  · intro h1; exact .inl (by omega)
theorem less_l0 (c : Int) (a b : ByteArray) (ha : a.size ≤ 1000000000) : ∀ (d i : Nat), a.size - i = d → i ≤ a.size → i ≤ b.size →
    Evt (fun k => inkwellref17_Less.l0 k i c a c b) (ltB ((bl a).drop i) ((bl b).drop i)) := by
  intro d
  induction d with
  | zero =>
    intro i hd hi hb
    have e : i = a.size := by omega
    have key : Evt (fun k => inkwellref17_Less.j1 k i false c a c b) (ltB ((bl a).drop i) ((bl b).drop i)) := by
      refine Evt.one fun k => ?_
      simp only [inkwellref17_Less.j1]
      rw [if_neg (by decide), drop_all (bl a) i (by rw [bl_length]; omega)]
      congr 1
      by_cases h : i < (bl b).length
      · rw [List.drop_eq_getElem_cons h, ltB_nil_cons]
        rw [bl_length] at h
        exact decide_eq_true (by omega)
      · rw [List.drop_eq_nil_of_le (by omega), ltB_nil_right]
        rw [bl_length] at h
        exact decide_eq_false (by omega)
    refine key.step fun k => ?_
    simp only [inkwellref17_Less.l0]
    rw [if_neg (by omega)]
  | succ d ih =>
    intro i hd hi hb
    have hlt : i < a.size := by omega
    by_cases hib : i < b.size
    · have hw : wrap64 ((i : Int) + 1) = ((i + 1 : Nat) : Int) := by rw [w64' (by omega) (by omega)]; omega
      have ih2 := ih (i + 1) (by omega) (by omega) (by omega)
      obtain ⟨hla, hba⟩ := bt_bl a i hlt
      obtain ⟨hlb, hbb⟩ := bt_bl b i hib
      rw [List.drop_eq_getElem_cons hla, List.drop_eq_getElem_cons hlb]
      generalize (bl a)[i] = x at *
      generalize (bl b)[i] = y at *
      generalize (bl a).drop (i + 1) = s at *
      generalize (bl b).drop (i + 1) = t at *
      have key : Evt (fun k => inkwellref17_Less.j1 k i true c a c b) (ltB (x :: s) (y :: t)) := by
        by_cases he : x = y
        · rw [ltB_same he]
          refine ih2.step fun k => ?_
          simp only [inkwellref17_Less.j1, if_true]
          rw [if_pos (show (0 : Int) ≤ (i : Int) from by omega), if_pos (by omega), if_pos (by omega), if_pos (by rw [hba, hbb, he]), hw]
        · refine Evt.one fun k => ?_
          have hne : (x.toNat : Int) ≠ (y.toNat : Int) := fun h => he (UInt8.toNat_inj.1 (by omega))
          simp only [inkwellref17_Less.j1, if_true]
          rw [if_pos (show (0 : Int) ≤ (i : Int) from by omega), if_pos (by omega), if_pos (by omega), if_neg (by rw [hba, hbb]; exact hne), hba, hbb, ltB_other he]
      refine key.step fun k => ?_
      simp only [inkwellref17_Less.l0]
      rw [if_pos (by omega), decide_eq_true (by omega)]
    · have key : Evt (fun k => inkwellref17_Less.j1 k i false c a c b) (ltB ((bl a).drop i) ((bl b).drop i)) := by
        refine Evt.one fun k => ?_
        simp only [inkwellref17_Less.j1]
        rw [if_neg (by decide), drop_all (bl b) i (by rw [bl_length]; omega), ltB_nil_right]
        congr 1
        exact decide_eq_false (by omega)
      refine key.step fun k => ?_
      simp only [inkwellref17_Less.l0]
      rw [if_pos (by omega), decide_eq_false (by omega)]
theorem less_f (a b : ByteArray) (ha : a.size ≤ 1000000000) : Evt (fun k => inkwellref18_less.f k a b) (ltB (bl a) (bl b)) := by
  have h := less_l0 1 a b ha a.size 0 (by omega) (by omega) (by omega)
  rw [List.drop_zero, List.drop_zero] at h
  refine h.of fun k => ?_
  unfold inkwellref18_less.f inkwellref17_Less.f
  rw [if_pos rfl]
  show Option.bind _ (fun t => some t) = _
  cases inkwellref17_Less.l0 k 0 1 a 1 b <;> rfl
theorem less_calls (a b : ByteArray) (ha : a.size ≤ 1000000000) (w : World) : Calls Try.prog 42 #[.string a, .string b] w fun e w' => e = .returned (.bool (ltB (bl a) (bl b))) ∧ Below w.heap.size w w' := by
  obtain ⟨K, hK⟩ := less_f a b ha
  exact inkwellref18_less.calls K a b _ w (hK K (Nat.le_refl _))
/-! ### the table -/
def keysOf (a : ByteArray) (ns : List OpId) : List (List UInt8) := ((uniq [bl a] (ns.map (·.f1))).map bl).mergeSort fun x y => decide (x ≤ y)
theorem keys_mem (a : ByteArray) (ns : List OpId) (s : List UInt8) : s ∈ keysOf a ns ↔ (∃ x ∈ ns, bl x.f1 = s) ∧ s ≠ bl a := by
  unfold keysOf
  rw [(List.mergeSort_perm _ _).mem_iff, uniq_mem]
  simp only [List.map_map, List.mem_map, Function.comp, List.mem_singleton]
theorem keys_sorted (a : ByteArray) (ns : List OpId) : (keysOf a ns).Pairwise (· < ·) := by
  have tr : ∀ x y z : List UInt8, decide (x ≤ y) = true → decide (y ≤ z) = true → decide (x ≤ z) = true := fun x y z h1 h2 => by simp only [decide_eq_true_eq] at *; exact List.le_trans h1 h2
  have tot : ∀ x y : List UInt8, (decide (x ≤ y) || decide (y ≤ x)) = true := fun x y => by simp only [Bool.or_eq_true, decide_eq_true_eq]; exact List.le_total x y
  have h1 : (keysOf a ns).Pairwise (fun x y => decide (x ≤ y) = true) := List.pairwise_mergeSort tr tot _
  have h2 : (keysOf a ns).Nodup := (List.mergeSort_perm _ _).nodup_iff.2 (uniq_nodup _ _)
  refine (h1.and h2).imp fun {x y} h => ?_
  have hle : x ≤ y := by simpa using h.1
  rcases Decidable.em (x < y) with h3 | h3
  · exact h3
  · exact absurd (List.le_antisymm hle (List.not_lt.1 h3)) h.2
/-- May it stand next, behind m texts? -/
def Elig (a : ByteArray) (S : List (List UInt8)) (m : Nat) (s : List UInt8) : Prop := s ≠ bl a ∧ (0 < m → S.getD (m - 1) [] < s)
theorem elig_drop {a : ByteArray} {ns : List OpId} {m : Nat} (hm : m ≤ (keysOf a ns).length) {s : List UInt8} (hs : ∃ x ∈ ns, bl x.f1 = s) : Elig a (keysOf a ns) m s ↔ s ∈ (keysOf a ns).drop m := by
  have hso := keys_sorted a ns
  rw [List.pairwise_iff_getElem] at hso
  constructor
  · rintro ⟨h1, h2⟩
    have : s ∈ keysOf a ns := (keys_mem a ns s).2 ⟨hs, h1⟩
    obtain ⟨j, hj, rfl⟩ := List.mem_iff_getElem.1 this
    rw [List.mem_iff_getElem]
    have hge : m ≤ j := by
      rcases Nat.eq_zero_or_pos m with h0 | h0
      · omega
      · have h3 := h2 h0
        rw [getD_get _ _ _ (by omega)] at h3
        rcases Nat.lt_or_ge j m with h4 | h4
        · exfalso
          rcases Nat.lt_or_ge j (m - 1) with h5 | h5
          · exact List.lt_irrefl _ (List.lt_trans h3 (hso j (m - 1) hj (by omega) h5))
          · have : j = m - 1 := by omega
            subst this
            exact List.lt_irrefl _ h3
        · exact h4
    exact ⟨j - m, by rw [List.length_drop]; omega, by rw [List.getElem_drop]; congr 1; omega⟩
  · intro h
    obtain ⟨j, hj, rfl⟩ := List.mem_iff_getElem.1 h
    rw [List.length_drop] at hj
    rw [List.getElem_drop]
    refine ⟨((keys_mem a ns _).1 (List.getElem_mem (by omega))).2, fun h0 => ?_⟩
    rw [getD_get _ _ _ (by omega)]
    exact hso (m - 1) (m + j) (by omega) (by omega) (by omega)
/-- The least of what may stand next, among the first i. -/
def Best (a : ByteArray) (S : List (List UInt8)) (m : Nat) (ns : List OpId) (i : Nat) (b : Int) : Prop :=
  (b = -1 ∧ ∀ j (h : j < ns.length), j < i → ¬ Elig a S m (bl ns[j].f1)) ∨
  ∃ q : Nat, ∃ h : q < ns.length, b = q ∧ q < i ∧ Elig a S m (bl ns[q].f1) ∧ ∀ j (h' : j < ns.length), j < i → Elig a S m (bl ns[j].f1) → bl ns[q].f1 ≤ bl ns[j].f1
theorem toList_bl (s t : ByteArray) : (s.toList = t.toList) ↔ bl s = bl t := by rw [ByteArray.toList_eq, ByteArray.toList_eq]; rfl

theorem best_step_skip {a : ByteArray} {S : List (List UInt8)} {m : Nat} {ns : List OpId} {i : Nat} {b : Int} (hi : i < ns.length) (h : Best a S m ns i b) (hn : ¬ Elig a S m (bl ns[i].f1)) : Best a S m ns (i + 1) b := by
  rcases h with ⟨rfl, h⟩ | ⟨q, hq, rfl, h1, h2, h3⟩
  · refine .inl ⟨rfl, fun j hj hji => ?_⟩
    rcases Nat.lt_or_ge j i with h4 | h4
    · exact h j hj h4
    · obtain rfl : j = i := by omega
      exact hn
  · refine .inr ⟨q, hq, rfl, by omega, h2, fun j hj hji he => ?_⟩
    rcases Nat.lt_or_ge j i with h4 | h4
    · exact h3 j hj h4 he
    · obtain rfl : j = i := by omega
      exact absurd he hn
theorem best_step_take {a : ByteArray} {S : List (List UInt8)} {m : Nat} {ns : List OpId} {i : Nat} {b : Int} (hi : i < ns.length) (h : Best a S m ns i b) (hn : Elig a S m (bl ns[i].f1))
    (hb : b < 0 ∨ ∃ q : Nat, ∃ h : q < ns.length, b = q ∧ bl ns[i].f1 < bl ns[q].f1) : Best a S m ns (i + 1) i := by
  refine .inr ⟨i, hi, rfl, by omega, hn, fun j hj hji he => ?_⟩
  rcases Nat.lt_or_ge j i with h4 | h4
  · rcases h with ⟨rfl, h⟩ | ⟨q, hq, rfl, h1, h2, h3⟩
    · exact absurd he (h j hj h4)
    · rcases hb with hb | ⟨q', hq', e, hlt⟩
      · omega
      · have : q' = q := by omega
        subst this
        exact List.le_trans (List.le_of_lt hlt) (h3 j hj h4 he)
  · obtain rfl : j = i := by omega
    exact List.le_refl _
theorem best_step_keep {a : ByteArray} {S : List (List UInt8)} {m : Nat} {ns : List OpId} {i q : Nat} (hi : i < ns.length) (hq : q < ns.length) (h : Best a S m ns i q) (hle : bl ns[q].f1 ≤ bl ns[i].f1) : Best a S m ns (i + 1) q := by
  rcases h with ⟨e, _⟩ | ⟨q', hq', e, h1, h2, h3⟩
  · omega
  · have : q' = q := by omega
    subst this
    refine .inr ⟨q', hq', rfl, by omega, h2, fun j hj hji he => ?_⟩
    rcases Nat.lt_or_ge j i with h4 | h4
    · exact h3 j hj h4 he
    · obtain rfl : j = i := by omega
      exact hle
theorem best_end {a : ByteArray} {ns : List OpId} {m : Nat} (hm : m < (keysOf a ns).length) {b : Int} (h : Best a (keysOf a ns) m ns ns.length b) : ∃ q : Nat, ∃ hq : q < ns.length, b = q ∧ bl ns[q].f1 = (keysOf a ns)[m] := by
  have hS : (keysOf a ns)[m] ∈ (keysOf a ns).drop m := by rw [List.drop_eq_getElem_cons hm]; exact List.mem_cons_self
  obtain ⟨⟨x, hx, hxe⟩, _⟩ := (keys_mem a ns _).1 (List.getElem_mem hm)
  obtain ⟨j, hj, rfl⟩ := List.mem_iff_getElem.1 hx
  have hej : Elig a (keysOf a ns) m (bl ns[j].f1) := (elig_drop (by omega) ⟨_, hx, rfl⟩).2 (by rw [hxe]; exact hS)
  rcases h with ⟨_, h⟩ | ⟨q, hq, rfl, h1, h2, h3⟩
  · exact absurd hej (h j hj hj)
  · refine ⟨q, hq, rfl, ?_⟩
    have h4 := h3 j hj hj hej
    rw [hxe] at h4
    have h5 := (elig_drop (a := a) (ns := ns) (by omega) ⟨_, List.getElem_mem hq, rfl⟩).1 h2
    obtain ⟨p, hp, hpe⟩ := List.mem_iff_getElem.1 h5
    rw [List.length_drop] at hp
    rw [List.getElem_drop] at hpe
    rcases Nat.eq_zero_or_pos p with h0 | h0
    · subst h0; exact hpe.symm
    · exfalso
      have hso := keys_sorted a ns
      rw [List.pairwise_iff_getElem] at hso
      have := hso m (m + p) hm (by omega) (by omega)
      rw [hpe] at this
      exact List.not_lt.2 h4 this
theorem best_none {a : ByteArray} {ns : List OpId} {b : Int} (h : Best a (keysOf a ns) (keysOf a ns).length ns ns.length b) : b = -1 := by
  rcases h with ⟨rfl, _⟩ | ⟨q, hq, rfl, h1, h2, h3⟩
  · rfl
  · have := (elig_drop (a := a) (ns := ns) (Nat.le_refl _) ⟨_, List.getElem_mem hq, rfl⟩).1 h2
    rw [List.drop_eq_nil_of_le (Nat.le_refl _)] at this
    cases this

section
variable (a : ByteArray) (ns : List OpId) (x5 : List ByteArray) (m : Nat) (hm : m ≤ (keysOf a ns).length) (h5 : x5.length = m + 1) (hlast : ∀ h : 0 < m, bl (rdOf ByteArray.empty x5 (m : Int)) = (keysOf a ns).getD (m - 1) [])
  (hns : ns.length ≤ 1000000000) (hm9 : m ≤ 1000000000) (hz : ∀ x ∈ ns, x.f1.size ≤ 1000000000) (hzl : (rdOf ByteArray.empty x5 (m : Int)).size ≤ 1000000000)
theorem rd38 (i : Nat) (h : i < ns.length) : rd_T38 ns (i : Int) = ns[i] := by unfold rd_T38; rw [Int.toNat_natCast, getD_get _ _ _ h]
include hz in
theorem tab_j2 (i : Nat) (hi : i < ns.length) (b : Int) (x43 : Bool) (hb : Best a (keysOf a ns) m ns i b) (hx : x43 = true ↔ ¬ Elig a (keysOf a ns) m (bl ns[i].f1)) (r : List ByteArray)
    (h : ∀ b', Best a (keysOf a ns) m ns (i + 1) b' → Evt (fun k => inkwellref18_Table.l1 k a x5 ns b' (wrap64 ((i : Int) + 1))) r) :
    Evt (fun k => inkwellref18_Table.j2 k a x5 ns b i ns[i].f1 x43) r := by
  cases x43 with
  | true =>
    refine (h b (best_step_skip hi hb (hx.1 rfl))).step fun k => ?_
    simp only [inkwellref18_Table.j2, if_true]
  | false =>
    have he : Elig a (keysOf a ns) m (bl ns[i].f1) := by
      rcases Classical.em (Elig a (keysOf a ns) m (bl ns[i].f1)) with h1 | h1
      · exact h1
      · exact absurd (hx.2 h1) (by decide)
    by_cases hneg : b < 0
    · refine (h i (best_step_take hi hb he (.inl hneg))).step fun k => ?_
      simp only [inkwellref18_Table.j2, hneg, if_true, Bool.false_eq_true, if_false]
    · obtain ⟨q, hq, rfl, hq1⟩ : ∃ q : Nat, ∃ hq : q < ns.length, b = q ∧ True := by
        rcases hb with ⟨rfl, _⟩ | ⟨q, hq, rfl, _⟩
        · omega
        · exact ⟨q, hq, rfl, trivial⟩
      have hl := less_f ns[i].f1 ns[q].f1 (hz _ (List.getElem_mem hi))
      have hpos : (0 : Int) ≤ (q : Int) := by omega
      have hlen : (q : Int) < (ns.length : Int) := by omega
      cases hc : ltB (bl ns[i].f1) (bl ns[q].f1) with
      | true =>
        rw [hc] at hl
        refine (Evt.bind (f := fun k t => if t = true then inkwellref18_Table.l1 k a x5 ns i (wrap64 ((i : Int) + 1)) else inkwellref18_Table.l1 k a x5 ns q (wrap64 ((i : Int) + 1))) hl ((h i (best_step_take hi hb he (.inr ⟨q, hq, rfl, ltB_true.1 hc⟩))).of (g' := fun k => if true = true then inkwellref18_Table.l1 k a x5 ns i (wrap64 ((i : Int) + 1)) else inkwellref18_Table.l1 k a x5 ns q (wrap64 ((i : Int) + 1))) fun k => by rw [if_pos rfl])).step fun k => ?_
        simp only [inkwellref18_Table.j2, hneg, hpos, hlen, if_true, Bool.false_eq_true, if_false, rd38 ns q hq]
      | false =>
        rw [hc] at hl
        refine (Evt.bind (f := fun k t => if t = true then inkwellref18_Table.l1 k a x5 ns i (wrap64 ((i : Int) + 1)) else inkwellref18_Table.l1 k a x5 ns q (wrap64 ((i : Int) + 1))) hl ((h q (best_step_keep hi hq hb (ltB_false.1 hc))).of (g' := fun k => if false = true then inkwellref18_Table.l1 k a x5 ns i (wrap64 ((i : Int) + 1)) else inkwellref18_Table.l1 k a x5 ns q (wrap64 ((i : Int) + 1))) fun k => by rw [if_neg (by decide)])).step fun k => ?_
        simp only [inkwellref18_Table.j2, hneg, hpos, hlen, if_true, Bool.false_eq_true, if_false, rd38 ns q hq]
include h5 hlast hns hm9 hz hzl in
theorem tab_l1 (r : List ByteArray) (hend : ∀ b', Best a (keysOf a ns) m ns ns.length b' → Evt (fun k => inkwellref18_Table.l1 k a x5 ns b' (ns.length : Int)) r) :
    ∀ (d i : Nat) (b : Int), ns.length - i = d → i ≤ ns.length → Best a (keysOf a ns) m ns i b → Evt (fun k => inkwellref18_Table.l1 k a x5 ns b i) r := by
  intro d
  induction d with
  | zero =>
    intro i b hd hi hb
    obtain rfl : i = ns.length := by omega
    exact hend b hb
  | succ d ih =>
    intro i b hd hi hb
    have hlt : i < ns.length := by omega
    have hw : wrap64 ((i : Int) + 1) = ((i + 1 : Nat) : Int) := by rw [w64' (by omega) (by omega)]; omega
    have hnext : ∀ b', Best a (keysOf a ns) m ns (i + 1) b' → Evt (fun k => inkwellref18_Table.l1 k a x5 ns b' (wrap64 ((i : Int) + 1))) r := fun b' hb' => (ih (i + 1) b' (by omega) (by omega) hb').of fun k => by rw [hw]
    have hpos : (0 : Int) ≤ (i : Int) := by omega
    have hlen : (i : Int) < (ns.length : Int) := by omega
    by_cases hea : bl ns[i].f1 = bl a
    · have key := tab_j2 a ns x5 m hz i hlt b true hb (by simp [Elig, hea]) r hnext
      refine key.step fun k => ?_
      simp only [inkwellref18_Table.l1, hpos, hlen, if_true, rd38 ns i hlt, (toList_bl ns[i].f1 a).2 hea]
    · have hna : ¬ ns[i].f1.toList = a.toList := fun e => hea ((toList_bl _ _).1 e)
      rcases Nat.eq_zero_or_pos m with h0 | h0
      · have key := tab_j2 a ns x5 m hz i hlt b false hb (by subst h0; simp [Elig, hea]) r hnext
        refine key.step fun k => ?_
        have hx : ¬ (x5.length : Int) > 1 := by omega
        simp only [inkwellref18_Table.l1, hpos, hlen, if_true, rd38 ns i hlt, hna, hx, if_false]
      · have hx : (x5.length : Int) > 1 := by omega
        have hwm : wrap64 ((x5.length : Int) - 1) = (m : Int) := by rw [w64' (by omega) (by omega)]; omega
        have hm0 : (0 : Int) ≤ (m : Int) := by omega
        have hm1 : (m : Int) < (x5.length : Int) := by omega
        have hl := less_f (rdOf ByteArray.empty x5 (m : Int)) ns[i].f1 hzl
        have key := tab_j2 a ns x5 m hz i hlt b (!ltB (bl (rdOf ByteArray.empty x5 (m : Int))) (bl ns[i].f1)) hb (by
          rw [hlast h0]
          simp only [Elig, hea, ne_eq, not_false_eq_true, true_and, Bool.not_eq_true', ltB_false]
          constructor
          · intro h1 h2; exact List.not_lt.2 h1 (h2 h0)
          · intro h1; exact List.not_lt.1 (fun h2 => h1 (fun _ => h2))) r hnext
        refine (Evt.bind (f := fun k t => inkwellref18_Table.j2 k a x5 ns b i ns[i].f1 (!t)) hl key).step fun k => ?_
        simp only [inkwellref18_Table.l1, hpos, hlen, if_true, rd38 ns i hlt, hna, hx, if_false, hwm, hm0, hm1]
end

theorem keys_len (a : ByteArray) (ns : List OpId) : (keysOf a ns).length ≤ ns.length := by
  unfold keysOf
  rw [List.length_mergeSort, List.length_map]
  have := uniq_len (ns.map (·.f1)) [bl a]
  rw [List.length_map] at this
  exact this
theorem tab_l0 (a : ByteArray) (ns : List OpId) (hns : ns.length ≤ 100020000) (ha : a.size ≤ 1000000000) (hz : ∀ x ∈ ns, x.f1.size ≤ 1000000000) : ∀ (d m : Nat), (keysOf a ns).length - m = d → m ≤ (keysOf a ns).length →
    Evt (fun k => inkwellref18_Table.l0 k a (a :: ((keysOf a ns).take m).map mkS) ns) (a :: (keysOf a ns).map mkS) := by
  have hkl := keys_len a ns
  have hpre : ∀ m, m ≤ (keysOf a ns).length → (a :: ((keysOf a ns).take m).map mkS).length = m + 1 ∧ (∀ h : 0 < m, bl (rdOf ByteArray.empty (a :: ((keysOf a ns).take m).map mkS) (m : Int)) = (keysOf a ns).getD (m - 1) []) ∧ (rdOf ByteArray.empty (a :: ((keysOf a ns).take m).map mkS) (m : Int)).size ≤ 1000000000 := by
    intro m hm
    have hl : (a :: ((keysOf a ns).take m).map mkS).length = m + 1 := by simp; omega
    rw [rdOf_get m (by rw [hl]; omega)]
    refine ⟨hl, fun h => ?_, ?_⟩
    · obtain ⟨j, rfl⟩ : ∃ j, m = j + 1 := ⟨m - 1, by omega⟩
      simp only [List.getElem_cons_succ, List.getElem_map, List.getElem_take, bl_mkS]
      rw [getD_get _ _ _ (by omega)]
      congr 1
    · cases m with
      | zero => exact ha
      | succ j =>
        simp only [List.getElem_cons_succ, List.getElem_map, List.getElem_take]
        obtain ⟨⟨x, hx, hxe⟩, _⟩ := (keys_mem a ns _).1 (List.getElem_mem (show j < (keysOf a ns).length by omega))
        rw [← hxe, mkS_bl]
        exact hz x hx
  have start : ∀ m, Best a (keysOf a ns) m ns 0 (-1) := fun m => .inl ⟨rfl, fun j _ h => by omega⟩
  intro d
  induction d with
  | zero =>
    intro m hd hm
    obtain rfl : m = (keysOf a ns).length := by omega
    obtain ⟨h5, hlast, hzl⟩ := hpre _ hm
    have key := tab_l1 a ns _ _ h5 hlast (by omega) (by omega) hz hzl (a :: (keysOf a ns).map mkS) (fun b' hb' => by
      have := best_none hb'
      subst this
      refine Evt.one fun k => ?_
      simp only [inkwellref18_Table.l1]
      rw [if_neg (by omega), if_pos (by omega), List.take_length]) ns.length 0 (-1) (by omega) (by omega) (start _)
    exact key.step fun k => by simp only [inkwellref18_Table.l0]; rfl
  | succ d ih =>
    intro m hd hm
    obtain ⟨h5, hlast, hzl⟩ := hpre _ hm
    have hlt : m < (keysOf a ns).length := by omega
    have ihm := ih (m + 1) (by omega) (by omega)
    have key := tab_l1 a ns _ _ h5 hlast (by omega) (by omega) hz hzl (a :: (keysOf a ns).map mkS) (fun b' hb' => by
      obtain ⟨q, hq, rfl, hqe⟩ := best_end hlt hb'
      refine ihm.step fun k => ?_
      have e : (a :: ((keysOf a ns).take m).map mkS) ++ [ns[q].f1] = a :: ((keysOf a ns).take (m + 1)).map mkS := by
        rw [List.take_succ_eq_append_getElem hlt, List.map_append, ← hqe]
        simp [mkS_bl]
      simp only [inkwellref18_Table.l1, rd38 ns q hq]
      rw [if_neg (by omega), if_neg (by omega), if_pos (by omega), if_pos (by omega), if_pos (by rw [h5]; omega), e]) ns.length 0 (-1) (by omega) (by omega) (start _)
    exact key.step fun k => by simp only [inkwellref18_Table.l0]; rfl
theorem Table17_f (a : ByteArray) (l : List Op) (hs : Sm l) (ha : a.size ≤ 1000000000) (hz : ∀ x ∈ namesOf l, x.f1.size ≤ 1000000000) : ∃ k, inkwellref18_Table.f k a l = some (tableOf a l) := by
  have hnl := flat_le l hs.2
  have hl := hs.1
  obtain ⟨K, hK⟩ := tab_l0 a (namesOf l) (by omega) ha hz _ 0 rfl (Nat.zero_le _)
  refine ⟨K, ?_⟩
  unfold inkwellref18_Table.f
  have hN : inkwellref17_Names.f l = some (namesOf l) := by unfold inkwellref17_Names.f; rw [if_pos hs]
  rw [hN]
  exact hK K (Nat.le_refl _)
theorem Table17_calls (a0 : ByteArray) (A1 : Option Addr) (c1 : Nat) (l1 : List Op) (w : World) (hr1 : Kd.C k44 w A1 l1.length l1) (hc1 : l1.length ≤ c1) (hs : Sm l1) (ha : a0.size ≤ 1000000000) (hz : ∀ x ∈ namesOf l1, x.f1.size ≤ 1000000000) :
    Calls Try.prog 17 #[.string a0, .slice A1 l1.length c1] w fun e w' => ∃ v0_ : Value, e = .returned (v0_) ∧ Kd.R Kd.string 9 w' w.heap.size (fun _ => True) v0_ (tableOf a0 l1) ∧ Below w.heap.size w w' := by
  obtain ⟨k, hk⟩ := Table17_f a0 l1 hs ha hz
  exact inkwellref18_Table.calls k a0 A1 c1 l1 _ w hr1 hc1 hk
end Go.Proofs.Ytamihmofmjkfoaa.X
end

/-! ## Q60 -/
section
-- By myprint.py, out of the translation, by way of the kit's print.
namespace Go.Proofs.Ytamihmofmjkfoaa.Q
open Go.RowKit Go.Proofs.YtamihmofmjkfoaaW.PrintWords Go.Proofs.YtamihmofmjkfoaaW.PrintLast Go.Proofs.YtamihmofmjkfoaaW.PrintMore
attribute [local go_sem] max2_int min2_int max_two min_two max_three min_three max_four min_four   -- for this text's walks alone
set_option linter.unusedVariables false
set_option linter.unusedSimpArgs false

/-! ### inkwellref02_U: function 60 -/
def inkwellref02_U.f : Nat → Int → Option (List Int)
  | 0, _ => none
  | k + 1, a0 => if a0 < 128 then (some (([(a0) % 256] : List Int))) else ((some (([(IntKind.u64.wrap (128 + (Int.tmod a0 128))) % 256] : List Int) : List Int)).bind fun y104 => ((inkwellref02_U.f k (IntKind.u64.wrap (Int.tdiv a0 128))).bind fun t107 => (if y104.length + t107.length < 140737488355328 then (some (y104 ++ t107)) else (none))))
theorem inkwellref02_U.mono_l : ∀ k, (∀ y0, LeO (inkwellref02_U.f k y0) (inkwellref02_U.f (k + 1) y0))
  | 0 => fun _ r h => by simp [inkwellref02_U.f] at h
  | k + 1 => by
    have ih0 := inkwellref02_U.mono_l k
    · intro y0
      unfold inkwellref02_U.f
      repeat' first
      | (with_reducible exact ih0 _)
      | (with_reducible exact LeO.refl _)
      | (with_reducible exact LeO.none _)
      | (with_reducible refine LeO.ite ?_ ?_)
      | (with_reducible refine LeO.bind ?_ (fun _ => ?_))
      | exact ih0 _
      | exact LeO.none _
      | refine LeO.ite ?_ ?_
      | refine LeO.bind ?_ (fun _ => ?_)
theorem inkwellref02_U.mono : ∀ a0 k, LeO (inkwellref02_U.f k a0) (inkwellref02_U.f (k + 1) a0) := by
  intro a0 k
  have ih0 := inkwellref02_U.mono_l k
  exact ih0 a0
set_option maxHeartbeats 8000000 in
set_option maxRecDepth 100000 in
theorem inkwellref02_U.calls (k : Nat) : ∀ (a0 : Int) (r : List Int) (w : World) (h : inkwellref02_U.f k a0 = some r),
    Calls Try.prog 60 #[.int .u64 a0] w fun e w' => ∃ v0_ : Value, e = .returned (v0_) ∧ Kd.R (Kd.int .u8) 5 w' w.heap.size (fun _ => True) v0_ r ∧ Below w.heap.size w w' := by
  induction k using Nat.strongRecOn with
  | _ k ih =>
  intro a0 r w h
  cases k with
  | zero => exact absurd h (by simp [inkwellref02_U.f])
  | succ k =>
  simp only [inkwellref02_U.f] at h
  have HB := Aside0.mk (Below.refl w.heap.size w)
  have H : (if a0 < 128 then (some (([(a0) % 256] : List Int))) else ((some (([(IntKind.u64.wrap (128 + (Int.tmod a0 128))) % 256] : List Int) : List Int)).bind fun y104 => ((inkwellref02_U.f k (IntKind.u64.wrap (Int.tdiv a0 128))).bind fun t107 => (if y104.length + t107.length < 140737488355328 then (some (y104 ++ t107)) else (none))))) = some r := h
  clear h
  by_cases c2 : a0 < 128
  · rw [if_pos c2] at H
    have c2b0 : decide (a0 < 128) = true := decide_eq_true c2
    clear c2
    obtain ⟨y101, hy101⟩ : ∃ y_ : List Int, y_ = (([(a0) % 256] : List Int)) := ⟨_, rfl⟩
    replace H : (some y101) = some r := by first | (rw [hy101]; with_reducible exact H) | (have H2_ := (Option.bind_some _ _).symm.trans H; rw [hy101]; with_reducible exact H2_) | (have H2_ := (Option.bind_some _ _).symm.trans H; with_reducible exact H2_) | with_reducible exact H | (rw [hy101]; exact H) | exact H
    have Ny101 := Aside0.mk hy101
    clear hy101
    obtain rfl := Option.some.inj H
    go_enter Try.func60, Try.ntmps60
    go_wp2_with (first | ((with_reducible refine gate_dst (N := 7) rfl ?_); refine Kd.R_lit (Kd.int .u8) _ 5 ?hg (N := 7) ?hd (xs := ([(a0) % 256] : List Int)) (inner := [.int .u8 ((a0) % 256)]) (ok := fun _ => True) (okp := fun _ => True) ?hr ?hp (fun _ hk => hk) trivial (Below.refl _ _) (Nat.le_refl _) (by simp) ?_; (case hd => rfl); (case hg => rfl); (case hr => first | (go_simp; done) | (go_simp; rfl)); (case hp => exact (Reps.one (show Kd.M (Kd.int .u8) _ _ _ ((a0) % 256) [.int .u8 ((a0) % 256)] from rfl) (Reps.none _ _))); intro v102 w3 ho4 hb hg_ hnew_; clear hg_ hnew_; (first | rw [← Ny101.out] at ho4 | (simp only [Int.reduceToNat] at ho4; rw [← Ny101.out] at ho4)); have n0_ := Aside0.mk (Kd.R_lower ho4 (below_size (by repeat (first | (with_reducible first | exact HB.out | apply below_alloc | apply pw_below_drewN | apply below_drew1) | exact HB.out)))); have n1_ := Aside0.mk (below_step (by repeat (first | (with_reducible first | exact HB.out | apply below_alloc | apply pw_below_drewN | apply below_drew1) | exact HB.out)) hb); clear HB; have HO103 := n0_; have HB := n1_; clear n0_ n1_; clear hb ho4))
    go_ret
    exact ⟨_, by first | rfl | (simp [errW_none, errW_some] <;> rfl) | (simp [*, errW_none, errW_some] <;> rfl), by (with_reducible repeat (first | apply Kd.R_alloc | apply Kd.R_drewN | apply Kd.R_drew)); exact HO103.out, by repeat (first | (with_reducible first | exact HB.out | apply below_alloc | apply pw_below_drewN | apply below_drew1) | exact HB.out)⟩
  · rw [if_neg c2] at H
    have c2b0 : decide (a0 < 128) = false := decide_eq_false c2
    clear c2
    obtain ⟨y104, hy104⟩ : ∃ y_ : List Int, y_ = (([(IntKind.u64.wrap (128 + (Int.tmod a0 128))) % 256] : List Int)) := ⟨_, rfl⟩
    replace H : ((inkwellref02_U.f k (IntKind.u64.wrap (Int.tdiv a0 128))).bind fun t107 => (if y104.length + t107.length < 140737488355328 then (some (y104 ++ t107)) else (none))) = some r := by first | (rw [hy104]; with_reducible exact H) | (have H2_ := (Option.bind_some _ _).symm.trans H; rw [hy104]; with_reducible exact H2_) | (have H2_ := (Option.bind_some _ _).symm.trans H; with_reducible exact H2_) | with_reducible exact H | (rw [hy104]; exact H) | exact H
    have Ny104 := Aside0.mk hy104
    clear hy104
    replace H := Option.bind_eq_some_iff.mp H
    obtain ⟨t107, A50, H⟩ := H
    replace H : (if y104.length + t107.length < 140737488355328 then (some (y104 ++ t107)) else (none)) = some r := H
    have A5 := Aside0.mk A50
    clear A50
    by_cases c6 : y104.length + t107.length < 140737488355328
    · rw [if_pos c6] at H
      have LMc6 := Aside0.mk c6
      clear c6
      obtain ⟨y110, hy110⟩ : ∃ y_ : List Int, y_ = (y104 ++ t107) := ⟨_, rfl⟩
      replace H : (some y110) = some r := by first | (rw [hy110]; with_reducible exact H) | (have H2_ := (Option.bind_some _ _).symm.trans H; rw [hy110]; with_reducible exact H2_) | (have H2_ := (Option.bind_some _ _).symm.trans H; with_reducible exact H2_) | with_reducible exact H | (rw [hy110]; exact H) | exact H
      have Ny110 := Aside0.mk hy110
      clear hy110
      obtain rfl := Option.some.inj H
      go_enter Try.func60, Try.ntmps60
      go_wp2_with (first | ((with_reducible refine gate_dst (N := 12) rfl ?_); refine Kd.R_lit (Kd.int .u8) _ 5 ?hg (N := 12) ?hd (xs := ([(IntKind.u64.wrap (128 + (Int.tmod a0 128))) % 256] : List Int)) (inner := [.int .u8 ((IntKind.u64.wrap (128 + (Int.tmod a0 128))) % 256)]) (ok := fun _ => True) (okp := fun _ => True) ?hr ?hp (fun _ hk => hk) trivial (Below.refl _ _) (Nat.le_refl _) (by simp) ?_; (case hd => rfl); (case hg => rfl); (case hr => first | (go_simp; done) | (go_simp; rfl)); (case hp => exact (Reps.one (show Kd.M (Kd.int .u8) _ _ _ ((IntKind.u64.wrap (128 + (Int.tmod a0 128))) % 256) [.int .u8 ((IntKind.u64.wrap (128 + (Int.tmod a0 128))) % 256)] from rfl) (Reps.none _ _))); intro v105 w7 ho8 hb hg_ hnew_; clear hg_ hnew_; (first | rw [← Ny104.out] at ho8 | (simp only [Int.reduceToNat] at ho8; rw [← Ny104.out] at ho8)); have n0_ := Aside0.mk (Kd.R_lower ho8 (below_size (by repeat (first | (with_reducible first | exact HB.out | apply below_alloc | apply pw_below_drewN | apply below_drew1) | exact HB.out)))); have n1_ := Aside0.mk (below_step (by repeat (first | (with_reducible first | exact HB.out | apply below_alloc | apply pw_below_drewN | apply below_drew1) | exact HB.out)) hb); clear HB; have HO106 := n0_; have HB := n1_; clear n0_ n1_; clear hb ho8) | ((with_reducible refine gate_callee (f := 60) rfl ?_); refine goesL_ (some 15) rfl rfl Try.func60 (by kernel_rfl) rfl #[.int .u64 (IntKind.u64.wrap (Int.tdiv a0 128))] rfl (by (try simp only [List.map_toArray, List.map_cons, List.map_nil]); first | done | rfl | (simp only [List.length_drop, List.length_take]; rfl)) ?_; (with_reducible refine (ih k (by omega) (IntKind.u64.wrap (Int.tdiv a0 128)) t107 _ A5.out).mono ?_); rintro e w9 ⟨v108, rfl, ho0, hb⟩; refine ⟨_, rfl, ?_⟩; have n0_ := Aside0.mk (Kd.R_elder' (by (with_reducible repeat (first | apply Kd.R_alloc | apply Kd.R_drewN | apply Kd.R_drew)); exact HO106.out) (Kd.R_base ho0) hb); have n1_ := Aside0.mk (Kd.R_lower (Kd.R_new' ho0 (Kd.R_lt (by (with_reducible repeat (first | apply Kd.R_alloc | apply Kd.R_drewN | apply Kd.R_drew)); exact HO106.out))) (below_size (by repeat (first | (with_reducible first | exact HB.out | apply below_alloc | apply pw_below_drewN | apply below_drew1) | exact HB.out)))); have n2_ := Aside0.mk (below_step (by repeat (first | (with_reducible first | exact HB.out | apply below_alloc | apply pw_below_drewN | apply below_drew1) | exact HB.out)) hb); clear HO106; clear HB; have HO106 := n0_; have HO109 := n1_; have HB := n2_; clear n0_ n1_ n2_; (try clear hb); (try clear hb2); (try clear hk); (try clear hi); (try clear ho0); obtain ⟨Ao11, co11, eo11⟩ := Kd.R_slice HO109.out; subst eo11) | ((with_reducible refine gate_builtin (b := .append) (xs := #[.tmp 12, .tmp 15]) rfl ?_); at_builtin; refine Kd.R_append_rows (Kd.int .u8) (w0 := w) w.heap.size rfl (.tmp 12) (.tmp 15) 34 5 (.int .u8 0) 1 rfl Try.underlying34 info5 rfl (by decide) (by omega) v105 y104 t107 _ _ _ (fun k_ => some k_ ≠ (.slice Ao11 t107.length co11 : Value).ownBlock) (fun _ => False) rfl rfl ?aO ?aR (fun _ _ h => h) (fun _ h => h.elim) ?aF ?aB ?aS ?aL ?_; (case aR => repeat (first | exact (Kd.R_reads' HO109.out).2.2 | (with_reducible refine Kd.C_alloc ?_ _) | (with_reducible refine Kd.C_drewN ?_ _) | (with_reducible refine Kd.C_drew ?_))); (case aB => exact (by repeat (first | (with_reducible first | exact HB.out | apply below_alloc | apply pw_below_drewN | apply below_drew1) | exact HB.out))); (case aF => exact (fun k_ hk => Kd.fresh' (Kd.R_lt (by (with_reducible repeat (first | apply Kd.R_alloc | apply Kd.R_drewN | apply Kd.R_drew)); exact HO109.out)) k_ hk)); (case aO => exact (by (with_reducible repeat (first | apply Kd.R_alloc | apply Kd.R_drewN | apply Kd.R_drew)); exact Kd.R_mono HO106.out (fun _ hk => hk.2))); (case aS => exact (below_size (by repeat (first | (with_reducible first | exact HB.out | apply below_alloc | apply pw_below_drewN | apply below_drew1) | exact HB.out)))); (case aL => have := LMc6.out; omega); intro v111 w10 ho hb hg hat; rw [← Ny110.out] at ho; have n0_ := Aside0.mk (Kd.R_after (ok := (fun _ => True)) (by (with_reducible repeat (first | apply Kd.R_alloc | apply Kd.R_drewN | apply Kd.R_drew)); exact HO109.out) hg hat); have n1_ := Aside0.mk (hb); have n2_ := Aside0.mk (ho); clear HO109; clear HB; clear HO106; have HO109 := n0_; have HB := n1_; have HO112 := n2_; clear n0_ n1_ n2_; clear ho hb hg hat))
      go_ret
      exact ⟨_, by first | rfl | (simp [errW_none, errW_some] <;> rfl) | (simp [*, errW_none, errW_some] <;> rfl), by (with_reducible repeat (first | apply Kd.R_alloc | apply Kd.R_drewN | apply Kd.R_drew)); exact Kd.R_mono HO112.out (fun _ hk => trivial), by repeat (first | (with_reducible first | exact HB.out | apply below_alloc | apply pw_below_drewN | apply below_drew1) | exact HB.out)⟩
    · rw [if_neg c6] at H
      exact absurd H (by simp)

end Go.Proofs.Ytamihmofmjkfoaa.Q
end

/-! ## Q25 -/
section
-- By myprint.py, out of the translation, by way of the kit's print.
namespace Go.Proofs.Ytamihmofmjkfoaa.Q
open Go.RowKit Go.Proofs.YtamihmofmjkfoaaW.PrintWords Go.Proofs.YtamihmofmjkfoaaW.PrintLast Go.Proofs.YtamihmofmjkfoaaW.PrintMore
attribute [local go_sem] max2_int min2_int max_two min_two max_three min_three max_four min_four   -- for this text's walks alone
set_option linter.unusedVariables false
set_option linter.unusedSimpArgs false

/-! ### inkwellref18_Index: function 25 -/
def inkwellref18_Index.l0 : Nat → List ByteArray → ByteArray → Int → Option (Int)
  | 0, _, _, _ => none
  | k + 1, x0, x1, x5 => if x5 < (x0.length : Int) then (if 0 ≤ x5 then (if (rdOf ByteArray.empty x0 x5).toList = x1.toList then (some x5) else (inkwellref18_Index.l0 k x0 x1 (wrap64 (x5 + 1)))) else (none)) else (some (-1))
def inkwellref18_Index.f (k : Nat) (l0 : List ByteArray) (a1 : ByteArray) : Option (Int) := inkwellref18_Index.l0 k l0 a1 0
theorem inkwellref18_Index.mono_l : ∀ k, (∀ y0 y1 y2, LeO (inkwellref18_Index.l0 k y0 y1 y2) (inkwellref18_Index.l0 (k + 1) y0 y1 y2))
  | 0 => fun _ _ _ r h => by simp [inkwellref18_Index.l0] at h
  | k + 1 => by
    have ih0 := inkwellref18_Index.mono_l k
    · intro y0 y1 y2
      unfold inkwellref18_Index.l0
      repeat' first
      | (with_reducible exact ih0 _ _ _)
      | (with_reducible exact LeO.refl _)
      | (with_reducible exact LeO.none _)
      | (with_reducible refine LeO.ite ?_ ?_)
      | (with_reducible refine LeO.bind ?_ (fun _ => ?_))
      | exact ih0 _ _ _
      | exact LeO.none _
      | refine LeO.ite ?_ ?_
      | refine LeO.bind ?_ (fun _ => ?_)
theorem inkwellref18_Index.mono : ∀ a0 a1 k, LeO (inkwellref18_Index.f k a0 a1) (inkwellref18_Index.f (k + 1) a0 a1) := by
  intro a0 a1 k
  have ih0 := inkwellref18_Index.mono_l k
  unfold inkwellref18_Index.f
  repeat' first
      | (with_reducible exact ih0 _ _ _)
      | (with_reducible exact LeO.refl _)
      | (with_reducible exact LeO.none _)
      | (with_reducible refine LeO.ite ?_ ?_)
      | (with_reducible refine LeO.bind ?_ (fun _ => ?_))
      | exact ih0 _ _ _
      | exact LeO.none _
      | refine LeO.ite ?_ ?_
      | refine LeO.bind ?_ (fun _ => ?_)
set_option maxHeartbeats 8000000 in
set_option maxRecDepth 100000 in
theorem inkwellref18_Index.calls (k : Nat) (A0 : Option Addr) (c0 : Nat) (l0 : List ByteArray) (a1 : ByteArray) (r : Int) (w : World) (hr0 : Kd.C Kd.string w A0 l0.length l0) (hc0 : l0.length ≤ c0) (h : inkwellref18_Index.f k l0 a1 = some r) :
    Calls Try.prog 25 #[.slice A0 l0.length c0, .string a1] w fun e w' => e = .returned (.int .i64 r) ∧ Drawn0 w w' := by
  have HR0 := Aside0.mk hr0
  have HC0 := Aside0.mk hc0
  clear hr0 hc0
  have H : (inkwellref18_Index.l0 k l0 a1 0) = some r := h
  clear h
  have H' := Aside0.mk H
  clear H
  go_enter Try.func25, Try.ntmps25
  go_wp2
  go_loopg [5] k (fun kq v5 w' => ∃ (x5_1 : Int), v5 = .int .i64 x5_1 ∧ Aside0 (inkwellref18_Index.l0 kq l0 a1 x5_1 = some r) ∧ Aside0 (kq ≤ k) ∧ Drawn0 w w')
  case atStart => exact ⟨(0), (by first | rfl | (simp; done) | (simp [*]; done)), H', ⟨Nat.le_refl _⟩, by repeat (first | exact Drawn0.refl _ | apply Drawn0.step)⟩
  case round =>
    clear H'
    try clear c2
    try clear p2
    obtain ⟨x5_1, rfl, HA, HK1, ⟨m1, rfl⟩⟩ := hrel
    cases gk with
    | zero => exact absurd HA.out (by simp [inkwellref18_Index.l0])
    | succ k1 =>
      have H := HA.out
      clear HA
      simp only [inkwellref18_Index.l0] at H
      by_cases c3 : x5_1 < (l0.length : Int)
      · rw [if_pos c3] at H
        have c3b0 : decide (x5_1 < (l0.length : Int)) = true := decide_eq_true c3
        clear c3
        by_cases c4 : 0 ≤ x5_1
        · rw [if_pos c4] at H
          have c4b0 : decide (0 ≤ x5_1) = true := decide_eq_true c4
          clear c4
          by_cases c5 : (rdOf ByteArray.empty l0 x5_1).toList = a1.toList
          · rw [if_pos c5] at H
            have c5b0 : ((rdOf ByteArray.empty l0 x5_1).toList == a1.toList) = true := beq_iff_eq.mpr c5
            have c5b1 : ((rdOf ByteArray.empty l0 x5_1).toList != a1.toList) = false := bne_eq_false_iff_eq.mpr c5
            clear c5
            obtain rfl := Option.some.inj H
            have p101 : 0 ≤ (x5_1 : Int) := of_decide_eq_true (by first | (with_reducible assumption) | assumption)
            have q101 : x5_1 < (l0.length : Int) := of_decide_eq_true (by first | (with_reducible assumption) | assumption)
            obtain ⟨ad101, e101, hx101_0⟩ := Kd.at_string HR0.out x5_1 p101 q101
            cases e101
            replace p101 := eq_true p101
            replace q101 := eq_true q101
            go_wp2
            go_ret
            exact ⟨by first | rfl | (simp; done) | (simp [*]; done), by repeat (first | exact Drawn0.refl _ | apply Drawn0.step)⟩
          · rw [if_neg c5] at H
            have c5b0 : ((rdOf ByteArray.empty l0 x5_1).toList == a1.toList) = false := beq_eq_false_iff_ne.mpr c5
            have c5b1 : ((rdOf ByteArray.empty l0 x5_1).toList != a1.toList) = true := bne_iff_ne.mpr c5
            have H' := Aside0.mk H
            clear H
            have p101 : 0 ≤ (x5_1 : Int) := of_decide_eq_true (by first | (with_reducible assumption) | assumption)
            have q101 : x5_1 < (l0.length : Int) := of_decide_eq_true (by first | (with_reducible assumption) | assumption)
            obtain ⟨ad101, e101, hx101_0⟩ := Kd.at_string HR0.out x5_1 p101 q101
            cases e101
            replace p101 := eq_true p101
            replace q101 := eq_true q101
            go_wp2
            go_roundg k1
            case measure => have := HK1.out; omega
            case rel => exact ⟨(wrap64 (x5_1 + 1)), (by first | rfl | (simp; done) | (simp [*]; done)), H', ⟨by have := HK1.out; omega⟩, by repeat (first | exact Drawn0.refl _ | apply Drawn0.step)⟩
        · rw [if_neg c4] at H
          exact absurd H (by simp)
      · rw [if_neg c3] at H
        have c3b0 : decide (x5_1 < (l0.length : Int)) = false := decide_eq_false c3
        clear c3
        obtain rfl := Option.some.inj H
        go_wp2
        go_ret
        exact ⟨by first | rfl | (simp; done) | (simp [*]; done), by repeat (first | exact Drawn0.refl _ | apply Drawn0.step)⟩

end Go.Proofs.Ytamihmofmjkfoaa.Q
end

/-! ## Q58 -/
section
-- By myprint.py, out of the translation, by way of the kit's print.
namespace Go.Proofs.Ytamihmofmjkfoaa.Q
open Go.RowKit Go.Proofs.YtamihmofmjkfoaaW.PrintWords Go.Proofs.YtamihmofmjkfoaaW.PrintLast Go.Proofs.YtamihmofmjkfoaaW.PrintMore
attribute [local go_sem] max2_int min2_int max_two min_two max_three min_three max_four min_four   -- for this text's walks alone
set_option linter.unusedVariables false
set_option linter.unusedSimpArgs false

/-! ### slices_Index_string_string: function 58 -/
def slices_Index_string_string.l0 : Nat → List ByteArray → ByteArray → Int → Int → Option (Int)
  | 0, _, _, _, _ => none
  | k + 1, x0, x1, x7, x8 => if x8 < x7 then (if 0 ≤ x8 then (if x8 < (x0.length : Int) then (if x1.toList = (rdOf ByteArray.empty x0 x8).toList then (some x8) else (slices_Index_string_string.l0 k x0 x1 x7 (wrap64 (x8 + 1)))) else (none)) else (none)) else (some (-1))
def slices_Index_string_string.f (k : Nat) (l0 : List ByteArray) (a1 : ByteArray) : Option (Int) := slices_Index_string_string.l0 k l0 a1 (l0.length : Int) 0
theorem slices_Index_string_string.mono_l : ∀ k, (∀ y0 y1 y2 y3, LeO (slices_Index_string_string.l0 k y0 y1 y2 y3) (slices_Index_string_string.l0 (k + 1) y0 y1 y2 y3))
  | 0 => fun _ _ _ _ r h => by simp [slices_Index_string_string.l0] at h
  | k + 1 => by
    have ih0 := slices_Index_string_string.mono_l k
    · intro y0 y1 y2 y3
      unfold slices_Index_string_string.l0
      repeat' first
      | (with_reducible exact ih0 _ _ _ _)
      | (with_reducible exact LeO.refl _)
      | (with_reducible exact LeO.none _)
      | (with_reducible refine LeO.ite ?_ ?_)
      | (with_reducible refine LeO.bind ?_ (fun _ => ?_))
      | exact ih0 _ _ _ _
      | exact LeO.none _
      | refine LeO.ite ?_ ?_
      | refine LeO.bind ?_ (fun _ => ?_)
theorem slices_Index_string_string.mono : ∀ a0 a1 k, LeO (slices_Index_string_string.f k a0 a1) (slices_Index_string_string.f (k + 1) a0 a1) := by
  intro a0 a1 k
  have ih0 := slices_Index_string_string.mono_l k
  unfold slices_Index_string_string.f
  repeat' first
      | (with_reducible exact ih0 _ _ _ _)
      | (with_reducible exact LeO.refl _)
      | (with_reducible exact LeO.none _)
      | (with_reducible refine LeO.ite ?_ ?_)
      | (with_reducible refine LeO.bind ?_ (fun _ => ?_))
      | exact ih0 _ _ _ _
      | exact LeO.none _
      | refine LeO.ite ?_ ?_
      | refine LeO.bind ?_ (fun _ => ?_)
set_option maxHeartbeats 8000000 in
set_option maxRecDepth 100000 in
theorem slices_Index_string_string.calls (k : Nat) (A0 : Option Addr) (c0 : Nat) (l0 : List ByteArray) (a1 : ByteArray) (r : Int) (w : World) (hr0 : Kd.C Kd.string w A0 l0.length l0) (hc0 : l0.length ≤ c0) (h : slices_Index_string_string.f k l0 a1 = some r) :
    Calls Try.prog 58 #[.slice A0 l0.length c0, .string a1] w fun e w' => e = .returned (.int .i64 r) ∧ Drawn0 w w' := by
  have HR0 := Aside0.mk hr0
  have HC0 := Aside0.mk hc0
  clear hr0 hc0
  have H : (slices_Index_string_string.l0 k l0 a1 (l0.length : Int) 0) = some r := h
  clear h
  have H' := Aside0.mk H
  clear H
  go_enter Try.func58, Try.ntmps58
  go_wp2
  go_loopg [8] k (fun kq v8 w' => ∃ (x8_1 : Int), v8 = .int .i64 x8_1 ∧ Aside0 (slices_Index_string_string.l0 kq l0 a1 (l0.length : Int) x8_1 = some r) ∧ Aside0 (kq ≤ k) ∧ Drawn0 w w')
  case atStart => exact ⟨(0), (by first | rfl | (simp; done) | (simp [*]; done)), H', ⟨Nat.le_refl _⟩, by repeat (first | exact Drawn0.refl _ | apply Drawn0.step)⟩
  case round =>
    clear H'
    try clear p2
    obtain ⟨x8_1, rfl, HA, HK1, ⟨m1, rfl⟩⟩ := hrel
    cases gk with
    | zero => exact absurd HA.out (by simp [slices_Index_string_string.l0])
    | succ k1 =>
      have H := HA.out
      clear HA
      simp only [slices_Index_string_string.l0] at H
      by_cases c3 : x8_1 < (l0.length : Int)
      · rw [if_pos c3] at H
        have c3b0 : decide (x8_1 < (l0.length : Int)) = true := decide_eq_true c3
        clear c3
        by_cases c4 : 0 ≤ x8_1
        · rw [if_pos c4] at H
          have c4b0 : decide (0 ≤ x8_1) = true := decide_eq_true c4
          clear c4
          by_cases c5 : x8_1 < (l0.length : Int)
          · rw [if_pos c5] at H
            have c5b0 : decide (x8_1 < (l0.length : Int)) = true := decide_eq_true c5
            clear c5
            by_cases c6 : a1.toList = (rdOf ByteArray.empty l0 x8_1).toList
            · rw [if_pos c6] at H
              have c6b0 : (a1.toList == (rdOf ByteArray.empty l0 x8_1).toList) = true := beq_iff_eq.mpr c6
              have c6b1 : (a1.toList != (rdOf ByteArray.empty l0 x8_1).toList) = false := bne_eq_false_iff_eq.mpr c6
              clear c6
              obtain rfl := Option.some.inj H
              have p101 : 0 ≤ (x8_1 : Int) := of_decide_eq_true (by first | (with_reducible assumption) | assumption)
              have q101 : x8_1 < (l0.length : Int) := of_decide_eq_true (by first | (with_reducible assumption) | assumption)
              obtain ⟨ad101, e101, hx101_0⟩ := Kd.at_string HR0.out x8_1 p101 q101
              cases e101
              replace p101 := eq_true p101
              replace q101 := eq_true q101
              go_wp2
              go_ret
              exact ⟨by first | rfl | (simp; done) | (simp [*]; done), by repeat (first | exact Drawn0.refl _ | apply Drawn0.step)⟩
            · rw [if_neg c6] at H
              have c6b0 : (a1.toList == (rdOf ByteArray.empty l0 x8_1).toList) = false := beq_eq_false_iff_ne.mpr c6
              have c6b1 : (a1.toList != (rdOf ByteArray.empty l0 x8_1).toList) = true := bne_iff_ne.mpr c6
              have H' := Aside0.mk H
              clear H
              have p101 : 0 ≤ (x8_1 : Int) := of_decide_eq_true (by first | (with_reducible assumption) | assumption)
              have q101 : x8_1 < (l0.length : Int) := of_decide_eq_true (by first | (with_reducible assumption) | assumption)
              obtain ⟨ad101, e101, hx101_0⟩ := Kd.at_string HR0.out x8_1 p101 q101
              cases e101
              replace p101 := eq_true p101
              replace q101 := eq_true q101
              go_wp2
              go_roundg k1
              case measure => have := HK1.out; omega
              case rel => exact ⟨(wrap64 (x8_1 + 1)), (by first | rfl | (simp; done) | (simp [*]; done)), H', ⟨by have := HK1.out; omega⟩, by repeat (first | exact Drawn0.refl _ | apply Drawn0.step)⟩
          · rw [if_neg c5] at H
            exact absurd H (by simp)
        · rw [if_neg c4] at H
          exact absurd H (by simp)
      · rw [if_neg c3] at H
        have c3b0 : decide (x8_1 < (l0.length : Int)) = false := decide_eq_false c3
        clear c3
        obtain rfl := Option.some.inj H
        go_wp2
        go_ret
        exact ⟨by first | rfl | (simp; done) | (simp [*]; done), by repeat (first | exact Drawn0.refl _ | apply Drawn0.step)⟩

end Go.Proofs.Ytamihmofmjkfoaa.Q
end

/-! ## Q24 -/
section
-- By myprint.py, out of the translation, by way of the kit's print.
namespace Go.Proofs.Ytamihmofmjkfoaa.Q
open Go.RowKit Go.Proofs.YtamihmofmjkfoaaW.PrintWords Go.Proofs.YtamihmofmjkfoaaW.PrintLast Go.Proofs.YtamihmofmjkfoaaW.PrintMore
attribute [local go_sem] max2_int min2_int max_two min_two max_three min_three max_four min_four   -- for this text's walks alone
set_option linter.unusedVariables false
set_option linter.unusedSimpArgs false

/-! ### actors_Index: function 24 -/
def actors_Index.f (k : Nat) (l0 : List ByteArray) (a1 : ByteArray) : Option (Int) := (slices_Index_string_string.f k l0 a1).bind fun t101 => (some t101)
theorem actors_Index.mono : ∀ a0 a1 k, LeO (actors_Index.f k a0 a1) (actors_Index.f (k + 1) a0 a1) := by
  intro a0 a1 k
  unfold actors_Index.f
  repeat' first
      | (with_reducible exact slices_Index_string_string.mono _ _ _)
      | (with_reducible exact LeO.refl _)
      | (with_reducible exact LeO.none _)
      | (with_reducible refine LeO.ite ?_ ?_)
      | (with_reducible refine LeO.bind ?_ (fun _ => ?_))
      | exact slices_Index_string_string.mono _ _ _
      | exact LeO.none _
      | refine LeO.ite ?_ ?_
      | refine LeO.bind ?_ (fun _ => ?_)
set_option maxHeartbeats 8000000 in
set_option maxRecDepth 100000 in
theorem actors_Index.calls (k : Nat) (A0 : Option Addr) (c0 : Nat) (l0 : List ByteArray) (a1 : ByteArray) (r : Int) (w : World) (hr0 : Kd.C Kd.string w A0 l0.length l0) (hc0 : l0.length ≤ c0) (h : actors_Index.f k l0 a1 = some r) :
    Calls Try.prog 24 #[.slice A0 l0.length c0, .string a1] w fun e w' => e = .returned (.int .i64 r) ∧ Drawn0 w w' := by
  have HR0 := Aside0.mk hr0
  have HC0 := Aside0.mk hc0
  clear hr0 hc0
  have H : ((slices_Index_string_string.f k l0 a1).bind fun t101 => (some t101)) = some r := h
  clear h
  replace H := Option.bind_eq_some_iff.mp H
  obtain ⟨t101, A30, H⟩ := H
  replace H : (some t101) = some r := H
  have A3 := Aside0.mk A30
  clear A30
  obtain rfl := Option.some.inj H
  go_enter Try.func24, Try.ntmps24
  go_wp2_with (first | ((with_reducible refine gate_callee (f := 58) rfl ?_); refine goesL_ (some 7) rfl rfl Try.func58 (by kernel_rfl) rfl #[.slice A0 l0.length c0, .string a1] rfl (by (try simp only [List.map_toArray, List.map_cons, List.map_nil]); first | done | rfl | (simp only [List.length_drop, List.length_take]; rfl)) ?_; (with_reducible refine (slices_Index_string_string.calls k _ _ l0 a1 t101 _ ?side1 ?side2 A3.out).mono ?_); (case side1 => repeat (first | exact HR0.out | (with_reducible refine Kd.C_alloc ?_ _) | (with_reducible refine Kd.C_drewN ?_ _) | (with_reducible refine Kd.C_drew ?_))); (case side2 => exact HC0.out); rintro e w' ⟨rfl, ⟨nd, rfl⟩⟩; refine ⟨_, rfl, ?_⟩))
  go_ret
  exact ⟨by first | rfl | (simp; done) | (simp [*]; done), by repeat (first | exact Drawn0.refl _ | apply Drawn0.step)⟩

end Go.Proofs.Ytamihmofmjkfoaa.Q
end

/-! ## XRPut -/
section
/- The reference's bytes of a table; where somebody stands in a table. Conditions: lengths are those that Go lets stand. -/
set_option linter.unusedVariables false
set_option linter.unusedSimpArgs false
namespace Go.Proofs.Ytamihmofmjkfoaa.X
open Go.RowKit Go.Proofs.YtamihmofmjkfoaaW.PrintWords Go.Proofs.YtamihmofmjkfoaaW.PrintLast Go.Proofs.YtamihmofmjkfoaaW.PrintMore Go.Proofs.Ytamihmofmjkfoaa.Q
attribute [local go_sem] max2_int min2_int max_two min_two max_three min_three max_four min_four

theorem U02_f : ∀ (f n k : Nat), n < 128 ^ (f + 1) → n < 2 ^ 64 → f < k → f ≤ 100 → inkwellref02_U.f k n = some (ubF f n)
  | 0, n, k, hn, h64, hk, hf => by
    obtain ⟨k, rfl⟩ : ∃ m, k = m + 1 := ⟨k - 1, by omega⟩
    simp only [inkwellref02_U.f, ubF]
    rw [if_pos (by omega)]
    have e : (n : Int) % 256 = n := by omega
    rw [e]
  | f + 1, n, k, hn, h64, hk, hf => by
    obtain ⟨k, rfl⟩ : ∃ m, k = m + 1 := ⟨k - 1, by omega⟩
    simp only [inkwellref02_U.f, ubF]
    by_cases h : n < 128
    · rw [if_pos (by omega), if_pos h]
      have e : (n : Int) % 256 = n := by omega
      rw [e]
    · rw [if_neg (by omega), if_neg h]
      have e1 : IntKind.u64.wrap (Int.tdiv (n : Int) 128) = ((n / 128 : Nat) : Int) := by
        rw [wrap_u64, Int.tdiv_eq_ediv_of_nonneg (by omega)]; omega
      have e2 : IntKind.u64.wrap (128 + Int.tmod (n : Int) 128) % 256 = ((128 + n % 128 : Nat) : Int) := by
        rw [wrap_u64, Int.tmod_eq_emod_of_nonneg (by omega)]; omega
      rw [e1, e2, U02_f f (n / 128) k (by rw [Nat.pow_succ] at hn; omega) (by omega) (by omega) (by omega)]
      have := ubF_len f (n / 128)
      simp only [Option.bind_some, List.length_cons, List.length_nil]
      rw [if_pos (by omega)]
      rfl
theorem U02_calls (n : Nat) (hn : n < 2 ^ 64) (w : World) : Calls Try.prog 60 #[.int .u64 n] w fun e w' => ∃ v0_ : Value, e = .returned v0_ ∧ Kd.R (Kd.int .u8) 5 w' w.heap.size (fun _ => True) v0_ (ub n) ∧ Below w.heap.size w w' :=
  inkwellref02_U.calls 10 n (ub n) w (U02_f 9 n 10 (by omega) hn (by omega) (by omega))
/-! ### where somebody stands -/
def idxF (a : ByteArray) : List ByteArray → Nat → Int
  | [], _ => -1
  | x :: t, i => if x = a then (i : Int) else idxF a t (i + 1)
def idxOf (l : List ByteArray) (a : ByteArray) : Int := idxF a l 0
theorem tl_inj {s t : ByteArray} (h : s.toList = t.toList) : s = t := bl_inj (by rw [ByteArray.toList_eq, ByteArray.toList_eq] at h; exact h)
theorem idx_slices (l : List ByteArray) (a : ByteArray) (hl : l.length ≤ 1000000000000) : ∀ (d i : Nat), l.length - i = d → i ≤ l.length → Evt (fun k => slices_Index_string_string.l0 k l a (l.length : Int) i) (idxF a (l.drop i) i) := by
  intro d
  induction d with
  | zero =>
    intro i hd hi
    refine Evt.one fun k => ?_
    simp only [slices_Index_string_string.l0]
    rw [if_neg (by omega), List.drop_eq_nil_of_le (by omega)]
    rfl
  | succ d ih =>
    intro i hd hi
    have hlt : i < l.length := by omega
    have hw : wrap64 ((i : Int) + 1) = ((i + 1 : Nat) : Int) := by rw [w64' (by omega) (by omega)]; omega
    rw [List.drop_eq_getElem_cons hlt]
    by_cases h : l[i] = a
    · refine Evt.one fun k => ?_
      simp only [slices_Index_string_string.l0, idxF, rdOf_get i hlt]
      rw [if_pos (by omega), if_pos (by omega), if_pos (by omega), if_pos (by rw [h]), if_pos h]
    · have e : idxF a (l[i] :: l.drop (i + 1)) i = idxF a (l.drop (i + 1)) (i + 1) := by rw [idxF, if_neg h]
      rw [e]
      refine (ih (i + 1) (by omega) (by omega)).step fun k => ?_
      simp only [slices_Index_string_string.l0, rdOf_get i hlt]
      rw [if_pos (by omega), if_pos (by omega), if_pos (by omega), if_neg (fun he => h (tl_inj he.symm)), hw]
theorem Index_calls (A0 : Option Addr) (c0 : Nat) (l0 : List ByteArray) (a : ByteArray) (w : World) (hr0 : Kd.C Kd.string w A0 l0.length l0) (hc0 : l0.length ≤ c0) (hl : l0.length ≤ 1000000000000) :
    Calls Try.prog 24 #[.slice A0 l0.length c0, .string a] w fun e w' => e = .returned (.int .i64 (idxOf l0 a)) ∧ Drawn0 w w' := by
  obtain ⟨K, hK⟩ := idx_slices l0 a hl l0.length 0 (by omega) (by omega)
  have := hK K (Nat.le_refl _)
  simp only [List.drop_zero] at this
  refine actors_Index.calls K A0 c0 l0 a _ w hr0 hc0 ?_
  unfold actors_Index.f slices_Index_string_string.f
  have e0 : ((0 : Nat) : Int) = 0 := rfl
  rw [e0] at this
  rw [this]
  rfl
theorem idx_ref (l : List ByteArray) (a : ByteArray) (hl : l.length ≤ 1000000000000) : ∀ (d i : Nat), l.length - i = d → i ≤ l.length → Evt (fun k => inkwellref18_Index.l0 k l a i) (idxF a (l.drop i) i) := by
  intro d
  induction d with
  | zero =>
    intro i hd hi
    refine Evt.one fun k => ?_
    simp only [inkwellref18_Index.l0]
    rw [if_neg (by omega), List.drop_eq_nil_of_le (by omega)]
    rfl
  | succ d ih =>
    intro i hd hi
    have hlt : i < l.length := by omega
    have hw : wrap64 ((i : Int) + 1) = ((i + 1 : Nat) : Int) := by rw [w64' (by omega) (by omega)]; omega
    rw [List.drop_eq_getElem_cons hlt]
    by_cases h : l[i] = a
    · refine Evt.one fun k => ?_
      simp only [inkwellref18_Index.l0, idxF, rdOf_get i hlt]
      rw [if_pos (by omega), if_pos (by omega), if_pos (by rw [h]), if_pos h]
    · have e : idxF a (l[i] :: l.drop (i + 1)) i = idxF a (l.drop (i + 1)) (i + 1) := by rw [idxF, if_neg h]
      rw [e]
      refine (ih (i + 1) (by omega) (by omega)).step fun k => ?_
      simp only [inkwellref18_Index.l0, rdOf_get i hlt]
      rw [if_pos (by omega), if_pos (by omega), if_neg (fun he => h (tl_inj he)), hw]
theorem Index18_calls (A0 : Option Addr) (c0 : Nat) (l0 : List ByteArray) (a : ByteArray) (w : World) (hr0 : Kd.C Kd.string w A0 l0.length l0) (hc0 : l0.length ≤ c0) (hl : l0.length ≤ 1000000000000) :
    Calls Try.prog 25 #[.slice A0 l0.length c0, .string a] w fun e w' => e = .returned (.int .i64 (idxOf l0 a)) ∧ Drawn0 w w' := by
  obtain ⟨K, hK⟩ := idx_ref l0 a hl l0.length 0 (by omega) (by omega)
  have := hK K (Nat.le_refl _)
  simp only [List.drop_zero] at this
  exact inkwellref18_Index.calls K A0 c0 l0 a _ w hr0 hc0 this
/-! ### the reference's bytes -/
structure RPutR (w : World) (l : List ByteArray) (v3 : Value) (i : Nat) (wr : World) : Prop where
  h1 : 1 ≤ i
  hi : i ≤ max l.length 1
  hB : Below w.heap.size w wr
  hR : Kd.R (Kd.int .u8) 5 wr w.heap.size (fun _ => True) v3 (ub (l.drop 1).length ++ putA ((l.take i).drop 1))
set_option maxHeartbeats 1000000 in
set_option maxRecDepth 100000 in
theorem RPut_calls (A0 : Option Addr) (c0 : Nat) (l0 : List ByteArray) (w : World) (hr0 : Kd.C Kd.string w A0 l0.length l0) (hc0 : l0.length ≤ c0) (hl : l0.length ≤ 10000000) (hz : ∀ a ∈ l0, a.size ≤ 1000000) :
    Calls Try.prog 27 #[.slice A0 l0.length c0] w fun e w' => ∃ v0_ : Value, e = .returned v0_ ∧ Kd.R (Kd.int .u8) 5 w' w.heap.size (fun _ => True) v0_ (putT l0) ∧ Below w.heap.size w w' := by
  have Hz := Lib.hid hz
  clear hz
  have hm : (if (l0.length : Int) < 1 then (1 : Int) else (l0.length : Int)) - 1 = ((l0.drop 1).length : Int) := by rw [List.length_drop]; split <;> omega
  have hd := List.length_drop (i := 1) (l := l0)
  have hU : l0.length - 1 < 2 ^ 64 := by omega
  have hcU := fun W => U02_calls (l0.length - 1) hU W
  go_enter Try.func27, Try.ntmps27
  go_wp2_with fail
  all_goals
    refine (hcU _).mono ?_
    rintro e w1 ⟨v3, rfl, hR1, hB1⟩
    go_wp2_with fail
    go_loopw [3, 4] (fun v3 v4 wr => ∃ i : Nat, v4 = .int .i64 i ∧ RPutR w l0 v3 i wr) (fun _ v4 _ => l0.length - (intOf v4).toNat)
    case atStart => exact ⟨1, rfl, ⟨Nat.le_refl _, by omega, hB1, by rw [hd, show (l0.take 1).drop 1 = [] from List.drop_eq_nil_of_le (by simp; omega)]; simpa [putA] using hR1⟩⟩
    case round =>
      obtain ⟨i, rfl, hrel⟩ := hrel
      have hi1 := hrel.h1
      have hi := hrel.hi
      have hs := hrel.hB.size
      by_cases hlt : i < l0.length
      · obtain ⟨ad, rfl, hcell⟩ := (Kd.reads_of_C (d := (⟨#[]⟩ : ByteArray)) hr0).2.2 (by omega)
        have hc0 := hcell i hlt
        rw [getD_get _ _ _ hlt] at hc0
        have hc := pw_cell_below hrel.hB hc0
        have hsz := Hz.out _ (List.getElem_mem hlt)
        have hlen := putA_len ((l0.take i).drop 1) (fun a ha => Hz.out a (List.mem_of_mem_take (List.mem_of_mem_drop ha)))
        have hlt2 : ((l0.take i).drop 1).length ≤ i := by simp; omega
        have hub := ub_len (l0.drop 1).length
        have hstep : putA ((l0.take (i + 1)).drop 1) = putA ((l0.take i).drop 1) ++ (ub l0[i].size ++ bytesOf l0[i]) := by rw [List.take_succ_eq_append_getElem hlt, List.drop_append_of_le_length (by simp; omega)]; simp only [putA, List.flatMap_append, List.flatMap_cons, List.flatMap_nil, List.append_nil]
        have Hstep := Lib.hid hstep
        have hub2 := ub_len l0[i].size
        clear hcell hstep
        generalize l0[i] = y at *
        go_wp2_with fail
        refine (U02_calls y.size (by omega) _).mono ?_
        rintro e w5 ⟨v5, rfl, hR5, hB5⟩
        obtain ⟨A5, c5, rfl, hc5, hC5⟩ := Kd.R_reads hR5
        have h45 := R_gbT hrel.hR (bl_is_gb hB5) (by simp)
        have hs5 := hB5.size
        go_wp2_with (first | ((with_reducible refine gate_builtin (b := .append) (xs := #[.tmp 17, .tmp 24]) rfl ?_); at_builtin; go_must (refine wp_app_bytes w.heap.size rfl (.tmp 17) (.tmp 24) 34 5 rfl Try.underlying34 info5 u3 _ _ A5 c5 rfl rfl h45 hC5 (by omega) (by simp only [List.length_append]; omega) ?_; intro v6 w6 hR6 hg6; have hs6 := hg6.size; have hB6 := pw_below_grown (below_then hrel.hB hs hB5) _ (by omega) hg6 (fun k hk => R_base hrel.hR k hk); have hc6 := pw_cell_below hB6 hc0)) | ((with_reducible refine gate_builtin (b := .append) (xs := #[.tmp 26, .tmp 30]) rfl ?_); at_builtin; go_must (refine wp_app_str w.heap.size rfl (.tmp 26) (.tmp 30) 34 9 5 rfl Try.underlying34 Try.underlying9 info5 v6 _ y rfl rfl hR6 (by omega) (by simp only [List.length_append]; omega) ?_; intro v7 w7 hR7 hg7)))
        go_roundw
        case rel => exact ⟨i + 1, by go_num, ⟨by omega, by omega, pw_below_grown hB6 _ (by omega) hg7 (fun k hk => R_base hR6 k hk), by rw [Hstep.out]; simpa only [List.append_assoc] using hR7⟩⟩
        case measure => simp [intOf]; omega
      · have hR := hrel.hR
        rw [List.take_of_length_le (by omega)] at hR
        go_wp2
        go_ret
        exact ⟨_, rfl, hR, hrel.hB⟩
end Go.Proofs.Ytamihmofmjkfoaa.X
end

/-! ## XStr -/
section
/- Texts and their bytes as numbers. No program in sight. -/
set_option linter.unusedVariables false
namespace Go.Proofs.Ytamihmofmjkfoaa.X
open Go.RowKit Go.Proofs.YtamihmofmjkfoaaW.PrintWords Go.Proofs.YtamihmofmjkfoaaW.PrintLast
theorem bytesOf_by (s : ByteArray) : By (bytesOf s) := by
  intro x hx
  obtain ⟨b, _, rfl⟩ := List.mem_map.1 hx
  have := b.toNat_lt
  omega
theorem bytesOf_strOfNums (l : List Int) (h : By l) : bytesOf (strOfNums l) = l := by
  have e : (strOfNums l).data.toList = l.map fun n => UInt8.ofNat n.toNat := by
    rw [← ByteArray.toList_eq]; exact Lib.strOfNums_toList l
  unfold bytesOf
  rw [e, List.map_map]
  conv => rhs; rw [← List.map_id l]
  refine List.map_congr_left fun x hx => ?_
  have := h x hx
  simp only [Function.comp, UInt8.toNat_ofNat']
  simp only [id]
  omega
theorem strOfNums_bytesOf (s : ByteArray) : strOfNums (bytesOf s) = s := by
  have : (strOfNums (bytesOf s)).toList = s.toList := by
    rw [Lib.strOfNums_toList, ByteArray.toList_eq]
    unfold bytesOf Lib.bytesOf
    rw [List.map_map]
    conv => rhs; rw [← List.map_id s.data.toList]
    refine List.map_congr_left fun x hx => ?_
    simp [Function.comp]
  rw [ByteArray.toList_eq, ByteArray.toList_eq] at this
  cases hs : strOfNums (bytesOf s)
  cases s
  rw [hs] at this
  simp only [ByteArray.mk.injEq]
  exact Array.toList_inj.1 this
theorem strOfNums_inj {a b : List Int} (ha : By a) (hb : By b) (h : strOfNums a = strOfNums b) : a = b := by
  rw [← bytesOf_strOfNums a ha, ← bytesOf_strOfNums b hb, h]
theorem strOfNums_size (l : List Int) : (strOfNums l).size = l.length := by
  have e : (strOfNums l).data.toList = l.map fun n => UInt8.ofNat n.toNat := by
    rw [← ByteArray.toList_eq]; exact Lib.strOfNums_toList l
  have := congrArg List.length e
  rw [List.length_map, data_length] at this
  exact this
theorem strOfNums_toList_inj {a b : List Int} (ha : By a) (hb : By b) : (strOfNums a).toList = (strOfNums b).toList ↔ a = b := by
  constructor
  · intro h
    rw [← bytesOf_strOfNums a ha, ← bytesOf_strOfNums b hb]
    unfold bytesOf
    rw [ByteArray.toList_eq, ByteArray.toList_eq] at h
    rw [h]
  · rintro rfl; rfl
theorem conv_str {w : World} {base : Nat} {v : Value} {xs : List Int} {ok : Nat → Prop} (h : Kd.R (Kd.int .u8) 5 w base ok v xs) : (convert 34 9 v).run Try.prog w = .ok (.string (strOfNums xs)) w :=
  own_string (P := Try.prog) Try.underlying34 Try.underlying5 Try.underlying9 (Kd.own_of_R h)
end Go.Proofs.Ytamihmofmjkfoaa.X
end

/-! ## XTables -/
section
/- Who is spoken of, and the table's bytes, are the reference's: the law's walk. -/
set_option linter.unusedVariables false
set_option linter.unusedSimpArgs false
namespace Go.Proofs.Ytamihmofmjkfoaa.X
open Go.RowKit Go.Proofs.YtamihmofmjkfoaaW.PrintWords Go.Proofs.YtamihmofmjkfoaaW.PrintLast Go.Proofs.YtamihmofmjkfoaaW.PrintMore Go.Proofs.Ytamihmofmjkfoaa.Q
attribute [local go_sem] max2_int min2_int max_two min_two max_three min_three max_four min_four

theorem table_mem (a : ByteArray) (l : List Op) (x : ByteArray) (h : x ∈ tableOf a l) : x = a ∨ ∃ n ∈ namesOf l, n.f1 = x := by
  unfold tableOf at h
  rcases List.mem_cons.1 h with rfl | h
  · exact .inl rfl
  · refine .inr ?_
    unfold sortS at h
    obtain ⟨y, hy, rfl⟩ := List.mem_map.1 h
    rw [List.mem_mergeSort] at hy
    have := (uniq_mem _ _ _).1 hy
    obtain ⟨z, hz, hzy⟩ := List.mem_map.1 this.1
    obtain ⟨n, hn, rfl⟩ := List.mem_map.1 hz
    exact ⟨n, hn, by rw [← hzy, mkS_bl]⟩
theorem table_few (a : ByteArray) (l : List Op) (ha : a.size ≤ 1000) (hl : (l.length : Int) ≤ 40) (h : ∀ o ∈ l, fewOp o = true) : Sm l ∧ (∀ x ∈ namesOf l, x.f1.size ≤ 100) ∧ (tableOf a l).length ≤ 500000 ∧ ∀ x ∈ tableOf a l, x.size ≤ 1000000 := by
  have hs : Sm l := few_Sm (by omega) h
  have hn := few_names h
  refine ⟨hs, hn, ?_, ?_⟩
  · have h1 := uniq_len ((namesOf l).map (·.f1)) [bl a]
    have h2 := flat_le l hs.2
    simp only [tableOf, List.length_cons, sortS_length, othersOf, List.length_map] at h1 ⊢
    omega
  · intro x hx
    rcases table_mem a l x hx with rfl | ⟨n, hn', rfl⟩
    · omega
    · have := hn n hn'; omega
theorem putT_nil : strOfNums (putT []) = ⟨#[0]⟩ := by decide +kernel
theorem PutNil_calls (w : World) : Calls Try.prog 26 #[.slice none 0 0] w fun e w' => ∃ v0_ : Value, e = .returned v0_ ∧ (convert 34 9 v0_).run Try.prog w' = .ok (.string ⟨#[0]⟩) w' ∧ Below w.heap.size w w' := by
  refine (Put_calls none 0 [] w (Kd.C_nil _ _) (Nat.le_refl _) (by simp) (by simp)).mono ?_
  rintro e w' ⟨v, rfl, hR, hB⟩
  have h := conv_str hR
  rw [putT_nil] at h
  exact ⟨v, rfl, h, hB⟩
set_option maxHeartbeats 4000000 in
set_option maxRecDepth 100000 in
theorem tables_calls (a0 : ByteArray) (A1 : Option Addr) (c1 : Nat) (l1 : List Op) (a2 : ByteArray) (w : World) (hr1 : Kd.C k44 w A1 l1.length l1) (hc1 : l1.length ≤ c1) :
    Calls Try.prog 6 #[.string a0, .slice A1 l1.length c1, .string a2] w fun e w' => e = .returned (.bool true) ∧ Below w.heap.size w w' := by
  by_cases hs : a0.size > 1000
  · go_enter Try.func6, Try.ntmps6
    go_wp2_with fail
    refine (awake18 _).mono ?_
    rintro e w1 ⟨rfl, hB1⟩
    go_wp2_with fail
    refine (awake18 _).mono ?_
    rintro e w2 ⟨rfl, hB2⟩
    go_wp2_with fail
    go_ret
    exact ⟨rfl, below_then hB1 hB1.size hB2⟩
  · by_cases hs2 : a2.size > 1000
    · go_enter Try.func6, Try.ntmps6
      go_wp2_with fail
      refine (awake18 _).mono ?_
      rintro e w1 ⟨rfl, hB1⟩
      go_wp2_with fail
      refine (awake18 _).mono ?_
      rintro e w2 ⟨rfl, hB2⟩
      go_wp2_with fail
      go_ret
      exact ⟨rfl, below_then hB1 hB1.size hB2⟩
    · have hf : ∀ W, Kd.C k44 W A1 l1.length l1 → Calls Try.prog 15 #[.slice A1 l1.length c1, .int .i64 40] W fun e w' => e = .returned (.bool (fewL l1 40)) ∧ Drawn0 W w' := fun W hW => Few_calls A1 c1 l1 40 W hW hc1 (by omega)
      cases h : fewL l1 40
      · rw [h] at hf
        clear h
        go_enter Try.func6, Try.ntmps6
        go_wp2_with fail
        refine (awake18 _).mono ?_
        rintro e w1 ⟨rfl, hB1⟩
        go_wp2_with fail
        refine (hf _ (Kd.C_below hr1 hB1)).mono ?_
        rintro e w2 ⟨rfl, ⟨nd, rfl⟩⟩
        go_wp2_with fail
        refine (awake18 _).mono ?_
        rintro e w3 ⟨rfl, hB3⟩
        go_wp2_with fail
        go_ret
        exact ⟨rfl, below_then (pw_below_drewN hB1 nd) hB1.size hB3⟩
      · rw [h] at hf
        obtain ⟨hl, hops⟩ := few_sm (by omega) h
        obtain ⟨hsm, hnm, htl, htz⟩ := table_few a0 l1 (by omega) hl hops
        have HZ := Lib.hid htz
        have HN := Lib.hid hnm
        have HP := Lib.hid putT_nil
        clear h hops htz hnm
        go_enter Try.func6, Try.ntmps6
        go_wp2_with fail
        refine (awake18 _).mono ?_
        rintro e w1 ⟨rfl, hB1⟩
        go_wp2_with fail
        refine (hf _ (Kd.C_below hr1 hB1)).mono ?_
        rintro e w2 ⟨rfl, ⟨nd, rfl⟩⟩
        clear hf
        have hb2 : Below w.heap.size w (w1.drewN nd) := pw_below_drewN hB1 nd
        have hr2 := Kd.C_below hr1 hb2
        go_wp2_with fail
        refine (Table_calls a0 _ _ l1 _ hr2 hc1 hsm (by unfold maxLen; omega) (fun x hx => by have := HN.out x hx; unfold maxLen; omega)).mono ?_
        rintro e w3 ⟨v3, rfl, hR3, hB3⟩
        obtain ⟨A3, c3, rfl, hc3, hC3⟩ := Kd.R_reads hR3
        have hb3 := below_then hb2 hb2.size hB3
        go_wp2_with fail
        refine (Table17_calls a0 _ _ l1 _ (Kd.C_below hr1 hb3) hc1 hsm (by omega) (fun x hx => by have := HN.out x hx; omega)).mono ?_
        rintro e w4 ⟨v4, rfl, hR4, hB4⟩
        obtain ⟨A4, c4, rfl, hc4, hC4⟩ := Kd.R_reads hR4
        have hC34 := Kd.C_below hC3 hB4
        have hb4 := below_then hb3 hb3.size hB4
        clear hR3 hR4 hC3 hr2 hB1 hB3 hB4 hb2 hb3
        go_wp2_with fail
        go_region_with (first
          | (go_at_call 22; go_must (refine (Same_calls _ _ _ _ _ _ _ (by first | exact hC34 | exact Kd.C_drew hC34) hc3 (by first | exact hC4 | exact Kd.C_drew hC4) hc4 (by omega)).mono ?_; rintro e w5 ⟨rfl, ⟨nd5, rfl⟩⟩; rw [decide_eq_true rfl]))
          | (go_at_call 24; go_must (refine (Index_calls _ _ _ _ _ (Kd.C_drewN hC34 _) hc3 (by omega)).mono ?_; rintro e w6 ⟨rfl, ⟨nd6, rfl⟩⟩))
          | (go_at_call 25; go_must (refine (Index18_calls _ _ _ _ _ (Kd.C_drewN hC4 _) hc4 (by omega)).mono ?_; rintro e w7 ⟨rfl, ⟨nd7, rfl⟩⟩))
          | (go_at_call 26; (with_reducible refine (PutNil_calls _).mono ?_); go_must (rintro e w10 ⟨v10, rfl, hcv10, hB10⟩))
          | (go_at_call 26; refine (Put_calls A3 c3 (tableOf a0 l1) _ (Kd.C_drewN hC34 _) hc3 (by omega) HZ.out).mono ?_; rintro e w8 ⟨v8, rfl, hR8, hB8⟩; have hcv8 := conv_str hR8; have hC48 := Kd.C_below (Kd.C_drewN hC4 _) hB8)
          | (go_at_call 27; go_must (refine (RPut_calls A4 c4 (tableOf a0 l1) _ hC48 hc4 (by omega) HZ.out).mono ?_; rintro e w9 ⟨v9, rfl, hR9, hB9⟩; have hcv9 := conv_str hR9; have hcv89 := conv_str (R_gbT hR8 (bl_is_gb hB9) (by simp)); have hb8 := below_then (pw_below_drewN hb4 _) (pw_below_drewN hb4 _).size hB8; have hb9 := below_then hb8 hb8.size hB9)))
        all_goals
          go_wp2_with fail
          go_ret
          exact ⟨rfl, below_then hb9 hb9.size hB10⟩
end Go.Proofs.Ytamihmofmjkfoaa.X
end

/-! ## XAll -/
section
/- Each name's actor stands in the table, and nobody else: the law's walk. -/
set_option linter.unusedVariables false
set_option linter.unusedSimpArgs false
namespace Go.Proofs.Ytamihmofmjkfoaa.X
open Go.RowKit Go.Proofs.YtamihmofmjkfoaaW.PrintWords Go.Proofs.YtamihmofmjkfoaaW.PrintLast Go.Proofs.YtamihmofmjkfoaaW.PrintMore Go.Proofs.Ytamihmofmjkfoaa.Q
attribute [local go_sem] max2_int min2_int max_two min_two max_three min_three max_four min_four

theorem idxF_mem (a : ByteArray) : ∀ (l : List ByteArray) (i : Nat), a ∈ l → (i : Int) ≤ idxF a l i
  | [], i, h => by cases h
  | x :: t, i, h => by
    unfold idxF
    by_cases e : x = a
    · rw [if_pos e]; omega
    · rw [if_neg e]
      have := idxF_mem a t (i + 1) (by rcases List.mem_cons.1 h with h | h; exact absurd h.symm e; exact h)
      omega
theorem idxF_at : ∀ (l : List ByteArray) (i j : Nat) (hj : j < l.length), l.Nodup → idxF l[j] l i = ((i + j : Nat) : Int)
  | x :: t, i, 0, hj, h => by simp [idxF]
  | x :: t, i, j + 1, hj, h => by
    rw [List.nodup_cons] at h
    have hjt : j < t.length := by simpa using hj
    simp only [List.getElem_cons_succ]
    unfold idxF
    rw [if_neg (fun e => h.1 (by rw [e]; exact List.getElem_mem hjt)), idxF_at t (i + 1) j hjt h.2]
    omega
theorem strLeB (s x : ByteArray) : bl s ≤ bl x ↔ (Op.bytesLess s.toList x.toList = true ∨ (s.toList == x.toList) = true) := by
  rw [Proofs.bytesLess_eq, ByteArray.toList_eq, ByteArray.toList_eq]
  simp only [decide_eq_true_eq, beq_iff_eq]
  unfold bl
  exact List.le_iff_lt_or_eq
theorem uniq_sub (l : List ByteArray) (seen : List (List UInt8)) : ∀ x ∈ uniq seen l, bl x ∉ seen := fun x hx => ((uniq_mem l seen (bl x)).1 (List.mem_map_of_mem hx)).2
/-- The table's facts. -/
theorem table_facts (a : ByteArray) (l : List Op) : (tableOf a l).getD 0 ⟨#[]⟩ = a ∧ (∀ n ∈ namesOf l, n.f1 ∈ tableOf a l) ∧
    (∀ i (h : i < (tableOf a l).length), 1 ≤ i → (∃ n ∈ namesOf l, n.f1 = (tableOf a l)[i]) ∧ (tableOf a l)[i] ≠ a ∧ (2 ≤ i → ∀ h' : i - 1 < (tableOf a l).length, bl (tableOf a l)[i - 1] < bl (tableOf a l)[i])) ∧ (tableOf a l).Nodup := by
  have hb : (sortS (othersOf a l)).map bl = keysOf a (namesOf l) := by rw [sortS_bl]; rfl
  have hmem : ∀ x, x ∈ sortS (othersOf a l) ↔ bl x ∈ keysOf a (namesOf l) := by
    intro x
    rw [← hb]
    constructor
    · intro h; exact List.mem_map_of_mem h
    · intro h
      obtain ⟨y, hy, e⟩ := List.mem_map.1 h
      rw [← bl_inj e]; exact hy
  have hk := keys_mem a (namesOf l)
  have hso := keys_sorted a (namesOf l)
  rw [List.pairwise_iff_getElem] at hso
  have hlen : (sortS (othersOf a l)).length = (keysOf a (namesOf l)).length := by rw [← hb, List.length_map]
  have hget : ∀ i (h : i < (sortS (othersOf a l)).length), bl (sortS (othersOf a l))[i] = (keysOf a (namesOf l))[i]'(by omega) := by
    intro i h
    have : ((sortS (othersOf a l)).map bl)[i]'(by simpa using h) = (keysOf a (namesOf l))[i]'(by omega) := by simp only [hb]
    simpa using this
  refine ⟨rfl, fun n hn => ?_, fun i h h1 => ?_, ?_⟩
  · unfold tableOf
    by_cases e : n.f1 = a
    · rw [e]; exact List.mem_cons_self
    · refine List.mem_cons_of_mem _ ((hmem _).2 ((hk _).2 ⟨⟨n, hn, rfl⟩, fun e2 => e (bl_inj e2)⟩))
  · obtain ⟨j, rfl⟩ : ∃ j, i = j + 1 := ⟨i - 1, by omega⟩
    have hj : j < (sortS (othersOf a l)).length := by simpa [tableOf] using h
    have e : (tableOf a l)[j + 1] = (sortS (othersOf a l))[j] := by simp [tableOf]
    rw [e]
    have hm := (hmem _).1 (List.getElem_mem hj)
    obtain ⟨⟨n, hn, hne⟩, hna⟩ := (hk _).1 hm
    refine ⟨⟨n, hn, bl_inj hne⟩, fun e2 => hna (by rw [e2]), fun h2 h' => ?_⟩
    obtain ⟨k, rfl⟩ : ∃ k, j = k + 1 := ⟨j - 1, by omega⟩
    have e3 : (tableOf a l)[k + 1 + 1 - 1]'h' = (sortS (othersOf a l))[k]'(by omega) := by simp [tableOf]
    rw [e3, hget _ (by omega), hget _ hj]
    exact hso k (k + 1) (by omega) (by omega) (by omega)
  · unfold tableOf
    rw [List.nodup_cons]
    refine ⟨fun h => ((hk _).1 ((hmem _).1 h)).2 rfl, ?_⟩
    refine (List.pairwise_iff_getElem.2 fun i j hi hj hij e => ?_)
    have := hso i j (by omega) (by omega) hij
    rw [← hget i hi, ← hget j hj, e] at this
    exact List.lt_irrefl _ this
def anyN (ns : List OpId) (x : ByteArray) : Bool := ns.any fun n => n.f1.toList == x.toList
theorem anyN_step (ns : List OpId) (x : ByteArray) (j : Nat) (h : j < ns.length) : anyN (ns.take (j + 1)) x = (anyN (ns.take j) x || (ns[j].f1.toList == x.toList)) := by
  unfold anyN
  rw [List.take_succ_eq_append_getElem h, List.any_append]
  simp
theorem anyN_true (ns : List OpId) (x : ByteArray) (h : ∃ n ∈ ns, n.f1 = x) : anyN ns x = true := by
  obtain ⟨n, hn, rfl⟩ := h
  unfold anyN
  rw [List.any_eq_true]
  exact ⟨n, hn, by simp⟩

set_option maxHeartbeats 600000 in
set_option maxRecDepth 100000 in
theorem all_calls (a0 : ByteArray) (A1 : Option Addr) (c1 : Nat) (l1 : List Op) (w : World) (hr1 : Kd.C k44 w A1 l1.length l1) (hc1 : l1.length ≤ c1) :
    Calls Try.prog 7 #[.string a0, .slice A1 l1.length c1] w fun e w' => e = .returned (.bool true) ∧ Below w.heap.size w w' := by
  by_cases hs : a0.size > 1000
  · go_enter Try.func7, Try.ntmps7
    go_wp2_with fail
    refine (awake18 _).mono ?_
    rintro e w1 ⟨rfl, hB1⟩
    go_wp2_with fail
    refine (awake18 _).mono ?_
    rintro e w2 ⟨rfl, hB2⟩
    go_wp2_with fail
    go_ret
    exact ⟨rfl, below_then hB1 hB1.size hB2⟩
  · have hf : ∀ W, Kd.C k44 W A1 l1.length l1 → Calls Try.prog 15 #[.slice A1 l1.length c1, .int .i64 40] W fun e w' => e = .returned (.bool (fewL l1 40)) ∧ Drawn0 W w' := fun W hW => Few_calls A1 c1 l1 40 W hW hc1 (by omega)
    cases h : fewL l1 40
    · rw [h] at hf
      clear h
      go_enter Try.func7, Try.ntmps7
      go_wp2_with fail
      refine (awake18 _).mono ?_
      rintro e w1 ⟨rfl, hB1⟩
      go_wp2_with fail
      refine (hf _ (Kd.C_below hr1 hB1)).mono ?_
      rintro e w2 ⟨rfl, ⟨nd, rfl⟩⟩
      go_wp2_with fail
      refine (awake18 _).mono ?_
      rintro e w3 ⟨rfl, hB3⟩
      go_wp2_with fail
      go_ret
      exact ⟨rfl, below_then (pw_below_drewN hB1 nd) hB1.size hB3⟩
    · rw [h] at hf
      obtain ⟨hl, hops⟩ := few_sm (by omega) h
      obtain ⟨hsm, hnm, htl, htz⟩ := table_few a0 l1 (by omega) hl hops
      have hn1 := flat_le l1 hsm.2
      have hn2 := hsm.1
      obtain ⟨f0, f1, f2, f3⟩ := table_facts a0 l1
      have htb := fun W hW => Table_calls a0 A1 c1 l1 W hW hc1 hsm (by unfold maxLen; omega) (fun x hx => by have := hnm x hx; unfold maxLen; omega)
      have hnc := fun W hW => Names17_calls A1 c1 l1 W hW hc1 hsm
      have htp : 1 ≤ (tableOf a0 l1).length := by simp [tableOf]
      generalize tableOf a0 l1 = T at *
      generalize namesOf l1 = ns at *
      have hnl : ns.length ≤ 100020000 := by omega
      have F0 := Lib.hid f0
      have F1 := Lib.hid f1
      have F2 := Lib.hid f2
      have F3 := Lib.hid f3
      have HNM := Lib.hid hnm
      clear h hops htz hnm f0 f1 f2 f3 hn1 hn2 hsm
      go_enter Try.func7, Try.ntmps7
      go_wp2_with fail
      refine (awake18 _).mono ?_
      rintro e w1 ⟨rfl, hB1⟩
      go_wp2_with fail
      refine (hf _ (Kd.C_below hr1 hB1)).mono ?_
      rintro e w2 ⟨rfl, ⟨nd, rfl⟩⟩
      clear hf
      have hb2 : Below w.heap.size w (w1.drewN nd) := pw_below_drewN hB1 nd
      go_wp2_with fail
      refine (htb _ (Kd.C_below hr1 hb2)).mono ?_
      rintro e w3 ⟨v3, rfl, hR3, hB3⟩
      obtain ⟨A3, c3, rfl, hc3, hC3⟩ := Kd.R_reads hR3
      have hb3 := below_then hb2 hb2.size hB3
      obtain ⟨ad3, rfl, hcell⟩ := (Kd.reads_of_C (d := (⟨#[]⟩ : ByteArray)) hC3).2.2 (by omega)
      have hT0 : w3.cell? ad3 = some (.string a0) := by
        have h := hcell 0 (by omega)
        rw [F0.out] at h
        simpa [Addr.add] using h
      have hT0b : (a0.toList == a0.toList) = true := beq_self_eq_true _
      have hTne : (T.length == 0) = false := beq_eq_false_iff_ne.mpr (by omega)
      have hTne2 : ((T.length : Int) == 0) = false := beq_eq_false_iff_ne.mpr (by omega)
      clear hcell hR3 htb
      go_wp2_with fail
      refine (hnc _ (Kd.C_below hr1 hb3)).mono ?_
      rintro e w4 ⟨v4, rfl, hR4, hB4⟩
      obtain ⟨A4, c4, rfl, hc4, hC4⟩ := Kd.R_reads hR4
      have hC34 := Kd.C_below hC3 hB4
      have hb4 := below_then hb3 hb3.size hB4
      clear hR4 hC3 hr1 hB1 hB3 hB4 hb2 hb3 hnc hT0 hT0b
      go_wp2_with fail
      clear hTne hTne2
      go_loopw [7] (fun v7 wr => ∃ i : Nat, v7 = .int .i64 i ∧ i ≤ ns.length ∧ ∃ nd, wr = w4.drewN nd) (fun v7 _ => ns.length - (intOf v7).toNat)
      case atStart => exact ⟨0, rfl, Nat.zero_le _, 0, rfl⟩
      case round =>
        obtain ⟨i, rfl, hi, nd1, rfl⟩ := hrel
        by_cases hlt : i < ns.length
        · obtain ⟨pd, rfl, q0, q1⟩ := at_T38 (Kd.C_drewN hC4 nd1) (i : Int) (by omega) (by omega)
          have hx : rd_T38 ns (i : Int) = ns[i] := by unfold rd_T38; rw [Int.toNat_natCast, getD_get _ _ _ hlt]
          rw [hx, Int.toNat_natCast] at q0 q1
          have hm : ns[i].f1 ∈ T := F1.out _ (List.getElem_mem hlt)
          have hix := fun W hW => Index_calls (some ad3) c3 T ns[i].f1 W hW hc3 (by omega)
          have hid : (0 : Int) ≤ idxOf T ns[i].f1 := idxF_mem _ _ 0 hm
          clear hx hm
          generalize idxOf T ns[i].f1 = z at *
          generalize ns[i] = y at *
          go_wp2_with (go_at_call 24; refine (hix _ (Kd.C_drewN hC34 _)).mono ?_; rintro e w5 ⟨rfl, ⟨nd5, rfl⟩⟩)
          go_roundw
          case rel => exact ⟨i + 1, by go_num, by omega, _, by first | rfl | exact World.drewN_drewN _ _ _⟩
          case measure => simp [intOf]; omega
        · go_wp2_with fail
          go_loopw [8] (fun v8 wr => ∃ i : Nat, v8 = .int .i64 i ∧ 1 ≤ i ∧ i ≤ T.length ∧ ∃ nd, wr = w4.drewN nd) (fun v8 _ => T.length - (intOf v8).toNat)
          case atStart => exact ⟨1, rfl, Nat.le_refl _, htp, nd1, rfl⟩
          case round =>
            obtain ⟨i, rfl, hi1, hi, nd1, rfl⟩ := hrel
            by_cases hlt : i < T.length
            · obtain ⟨g1, g2, g3⟩ := F2.out i hlt hi1
              have g4 : idxOf T T[i] = (i : Int) := by have := idxF_at T 0 i hlt F3.out; simpa [idxOf] using this
              have hix := fun W hW => Index_calls (some ad3) c3 T T[i] W hW hc3 (by omega)
              rw [g4] at hix
              have hcT : w4.cell? (ad3.add i) = some (.string T[i]) := by
                have h := (Kd.reads_of_C (d := (⟨#[]⟩ : ByteArray)) hC34).2.2 (by omega)
                obtain ⟨ad, e, h⟩ := h
                cases e
                have := h i hlt
                rwa [getD_get _ _ _ hlt] at this
              have ga : (T[i].toList == a0.toList) = false := beq_eq_false_iff_ne.mpr (fun e => g2 (tl_inj e))
              have Gany := Lib.hid (anyN_true ns T[i] g1)
              have G3 := Lib.hid g3
              clear g1 g2 g3 g4
              go_wp2_with fail
              go_loopw [9, 10] (fun v9 v10 wr => ∃ j : Nat, v10 = .int .i64 j ∧ j ≤ ns.length ∧ v9 = .bool (anyN (ns.take j) T[i]) ∧ ∃ nd, wr = w4.drewN nd) (fun _ v10 _ => ns.length - (intOf v10).toNat)
              case atStart => exact ⟨0, rfl, Nat.zero_le _, rfl, nd1, rfl⟩
              case round =>
                obtain ⟨j, rfl, hj, rfl, nd1, rfl⟩ := hrel
                by_cases hlj : j < ns.length
                · obtain ⟨pd, rfl, q0, q1⟩ := at_T38 hC4 (j : Int) (by omega) (by omega)
                  have hx : rd_T38 ns (j : Int) = ns[j] := by unfold rd_T38; rw [Int.toNat_natCast, getD_get _ _ _ hlj]
                  rw [hx, Int.toNat_natCast] at q0 q1
                  have hstep := anyN_step ns T[i] j hlj
                  have hj0 : (0 : Int) ≤ (j : Int) := by omega
                  have hi0 : (0 : Int) ≤ (i : Int) := by omega
                  clear hx ga hix
                  generalize ns[j] = y at *
                  cases hb : anyN (ns.take j) T[i]
                  · rw [hb, Bool.false_or] at hstep
                    have Hst := Lib.hid hstep
                    clear hstep
                    go_wp2_with fail
                    go_quiet (fail)
                    go_wp2_with fail
                    go_roundw
                    case rel => exact ⟨j + 1, by go_num, by omega, by rw [Hst.out], _, rfl⟩
                    case measure => simp [intOf]; omega
                  · rw [hb, Bool.true_or] at hstep
                    have Hst := Lib.hid hstep
                    clear hstep
                    go_wp2_with fail
                    go_quiet (fail)
                    go_wp2_with fail
                    go_roundw
                    case rel => exact ⟨j + 1, by go_num, by omega, by rw [Hst.out], _, rfl⟩
                    case measure => simp [intOf]; omega
                · obtain rfl : j = ns.length := by omega
                  rw [List.take_length, Gany.out]
                  by_cases hi2 : i = 1
                  · have hg1 : decide ((1 : Int) < (i : Int)) = false := decide_eq_false (by omega)
                    have hi0 : (0 : Int) ≤ (i : Int) := by omega
                    have Hi2 := Lib.hid hi2
                    clear hi2
                    go_wp2_with fail
                    go_quiet ((go_at_call 24; refine (hix _ (Kd.C_drewN hC34 _)).mono ?_; rintro e w' ⟨rfl, ⟨nd, rfl⟩⟩; exact ⟨rfl, _, by rw [World.drewN_drewN, Nat.add_assoc]⟩))
                    go_wp2_with fail
                    go_roundw
                    case rel => exact ⟨i + 1, by go_num, by omega, by omega, _, rfl⟩
                    case measure => simp [intOf]; omega
                  · have hg1 : decide ((1 : Int) < (i : Int)) = true := decide_eq_true (by omega)
                    have hi0 : (0 : Int) ≤ (i : Int) := by omega
                    have hlt3 := G3.out (by omega) (by omega)
                    have hle : ¬ (bl T[i] ≤ bl T[i - 1]) := List.not_le.2 hlt3
                    rw [strLeB] at hle
                    simp only [not_or, Bool.not_eq_true] at hle
                    obtain ⟨hle1, hle2⟩ := hle
                    have hcT1 : w4.cell? (ad3.add (i - 1)) = some (.string T[i - 1]) := by
                      have h := (Kd.reads_of_C (d := (⟨#[]⟩ : ByteArray)) hC34).2.2 (by omega)
                      obtain ⟨ad, e, h⟩ := h
                      cases e
                      have := h (i - 1) (by omega)
                      rwa [getD_get _ _ _ (by omega)] at this
                    have hw : IntKind.i64.wrap ((i : Int) - 1) = (i : Int) - 1 := IntWalk.i64_in _ (by omega)
                    have hn : ((i : Int) - 1).toNat = i - 1 := by omega
                    have h01 : (0 : Int) ≤ (i : Int) - 1 := by omega
                    have h02 : (1 : Int) ≤ (i : Int) := by omega
                    have h03 : (i : Int) - 1 < (T.length : Int) := by omega
                    clear hlt3
                    go_wp2_with fail
                    go_quiet ((go_at_call 24; refine (hix _ (Kd.C_drewN hC34 _)).mono ?_; rintro e w' ⟨rfl, ⟨nd, rfl⟩⟩; exact ⟨rfl, _, by rw [World.drewN_drewN, Nat.add_assoc]⟩))
                    clear hw hn
                    go_wp2_with fail
                    go_roundw
                    case rel => exact ⟨i + 1, by go_num, by omega, by omega, _, rfl⟩
                    case measure => simp [intOf]; omega
            · obtain rfl : i = T.length := by omega
              go_wp2_with fail
              go_ret
              exact ⟨rfl, pw_below_drewN hb4 _⟩
end Go.Proofs.Ytamihmofmjkfoaa.X
end

/-! ## XText -/
section
/- What the program's text of a table tells. Conditions: lengths are those that Go lets stand. -/
set_option linter.unusedVariables false
set_option linter.unusedSimpArgs false
namespace Go.Proofs.Ytamihmofmjkfoaa.X
open Go.RowKit Go.Proofs.YtamihmofmjkfoaaW.PrintWords Go.Proofs.YtamihmofmjkfoaaW.PrintLast Go.Proofs.YtamihmofmjkfoaaW.PrintMore Go.Proofs.Ytamihmofmjkfoaa.Q
attribute [local go_sem] max2_int min2_int max_two min_two max_three min_three max_four min_four

theorem getU_cases (l : List Int) : (∃ n k : Nat, getU l = ((n : Int), (k : Int), 0) ∧ 1 ≤ k ∧ k ≤ l.length ∧ k ≤ 10 ∧ n < 2 ^ 64) ∨ (∃ e : Int, getU l = (0, 0, e) ∧ (e = 2 ∨ e = 3)) := by
  rcases spanF_spec l 0 (by omega) with ⟨k, h1, h2, h3, h4, h5⟩ | ⟨h1, h2⟩
  · have hs : spanF 0 l = ((k : Int), 0) := Prod.ext (by rw [h1]; simp) h2
    by_cases h : (ub (val7 (l.take k) % 2 ^ 64)).length ≠ k ∨ k = 10 ∧ l.getD 9 0 > 1
    · exact .inr ⟨3, GetU_bad l k hs h, .inr rfl⟩
    · simp only [not_or, Decidable.not_not] at h
      exact .inl ⟨_, k, GetU_ok l k hs h.1 h.2, h3, h4, by omega, Nat.mod_lt _ (by decide)⟩
  · exact .inr ⟨_, GetU_err l 0 (by omega), h2⟩
def textF (l : List Int) : ByteArray × List Int × Int :=
  let g := getU l
  if g.2.2 ≠ 0 then (⟨#[]⟩, [], g.2.2) else if g.1 < 1 ∨ g.1 > 16 then (⟨#[]⟩, [], 4) else if g.1 > (l.length : Int) - g.2.1 then (⟨#[]⟩, [], 2) else
    (strOfNums ((l.take (g.2.1.toNat + g.1.toNat)).drop g.2.1.toNat), l.drop (g.2.1.toNat + g.1.toNat), 0)
def TextR (w0 w : World) (r : ByteArray × List Int × Int) (e : Ending) (w' : World) : Prop :=
  ∃ A' n' c', e = .returned (.tuple #[.string r.1, .slice A' n' c', .int .i64 r.2.2]) ∧ n' = r.2.1.length ∧ r.2.1.length ≤ c' ∧ Kd.C (Kd.int .u8) w0 A' r.2.1.length r.2.1 ∧ Below w.heap.size w w'
theorem TextR.err {w0 w w' : World} {e : Int} (hB : Below w.heap.size w w') : TextR w0 w (⟨#[]⟩, [], e) (.returned (.tuple #[.string ⟨#[]⟩, .slice none 0 0, .int .i64 e])) w' :=
  ⟨none, 0, 0, rfl, rfl, Nat.le_refl _, Kd.C_nil _ _, hB⟩
set_option maxHeartbeats 1000000 in
set_option maxRecDepth 100000 in
theorem text_calls (A0 : Option Addr) (c0 : Nat) (l0 : List Int) (w0 w : World) (hr00 : Kd.C (Kd.int .u8) w0 A0 l0.length l0) (hB0 : Below w0.heap.size w0 w) (hc0 : l0.length ≤ c0) (hl : l0.length ≤ 1000000000) (hb : By l0) :
    Calls Try.prog 62 #[.slice A0 l0.length c0] w (TextR w0 w (textF l0)) := by
  have hr0 := Kd.C_below hr00 hB0
  have hcall := fun W hW => GetU_calls A0 c0 l0 W hW hc0 (by omega) hb
  rcases getU_cases l0 with ⟨n, k, h, h1, h2, h3, h4⟩ | ⟨e, h, he⟩
  · rw [h] at hcall
    by_cases h5 : n < 1 ∨ n > 16
    · have ht : textF l0 = (⟨#[]⟩, [], 4) := by unfold textF; simp only [h]; rw [if_neg (by decide), if_pos (by omega)]
      rw [ht]
      rcases h5 with h5 | h5
      · obtain rfl : n = 0 := by omega
        clear ht h
        go_enter Try.func62, Try.ntmps62
        go_wp2_with (go_at_call 61; refine (hcall _ hr0).mono ?_; rintro e w' ⟨rfl, hB⟩)
        go_ret3
        exact TextR.err hB
      · clear ht h
        have h6 : ¬ (n : Int) < 1 := by omega
        go_enter Try.func62, Try.ntmps62
        go_wp2_with (go_at_call 61; refine (hcall _ hr0).mono ?_; rintro e w' ⟨rfl, hB⟩)
        go_ret3
        exact TextR.err hB
    · have h6 : ¬ (n : Int) < 1 := by omega
      have h7 : (n : Int) ≤ 16 := by omega
      by_cases h8 : n > l0.length - k
      · have ht : textF l0 = (⟨#[]⟩, [], 2) := by unfold textF; simp only [h]; rw [if_neg (by decide), if_neg (by omega), if_pos (by omega)]
        rw [ht]
        clear ht h h5
        have h9 : (l0.length : Int) - (k : Int) < (n : Int) := by omega
        have h10 : (0 : Int) ≤ (l0.length : Int) - (k : Int) := by omega
        go_enter Try.func62, Try.ntmps62
        go_wp2_with (go_at_call 61; refine (hcall _ hr0).mono ?_; rintro e w' ⟨rfl, hB⟩)
        go_ret3
        exact TextR.err hB
      · have ht : textF l0 = (strOfNums ((l0.take (k + n)).drop k), l0.drop (k + n), 0) := by unfold textF; simp only [h]; rw [if_neg (by decide), if_neg (by omega), if_neg (by omega)]; simp
        rw [ht]
        clear ht h h5
        have h9 : ¬ ((l0.length : Int) - (k : Int) < (n : Int)) := by omega
        have h10 : (0 : Int) ≤ (l0.length : Int) - (k : Int) := by omega
        obtain ⟨i0, hi0, _, hsz0, _⟩ := info_parts info5
        obtain ⟨A1, hcut1, hA1, hC1⟩ := print_mid_of (P := Try.prog) (Value.int .u8) (0 : Int) 34 5 .i64 .i64 Try.underlying34 hi0 hsz0 A0 c0 l0 (k : Int) ((k : Int) + (n : Int)) (by omega) (by omega) (by omega) hc0
        obtain ⟨A2, hcut2, hA2, hC2⟩ := print_drop_of (P := Try.prog) (Value.int .u8) (0 : Int) 34 5 .i64 Try.underlying34 hi0 hsz0 A0 c0 l0 ((k : Int) + (n : Int)) (by omega) (by omega) hc0
        have e1 : ((k : Int) + (n : Int)).toNat = k + n := by omega
        have e2 : ((l0.take (k + n)).drop k).length = n := by simp; omega
        have e3 : (l0.drop (k + n)).length = l0.length - (k + n) := by simp
        rw [e1, Int.toNat_natCast] at hcut1 hA1 hC1
        rw [e1] at hcut2 hA2 hC2
        have hT1 : ∀ W, Kd.C (Kd.int .u8) W A0 l0.length l0 → (convert 34 9 (.slice A1 n (c0 - k))).run Try.prog W = .ok (.string (strOfNums ((l0.take (k + n)).drop k))) W := fun W hW => by
          have := Kd.C_of_reads (enc := Value.int .u8) (d := (0 : Int)) (h1 := fun _ => rfl) (hA1 W (Kd.reads_of_C hW))
          rw [e2] at this
          exact Kd.C_string Try.underlying34 Try.underlying5 Try.underlying9 this
        have hT2 := Kd.C_of_reads (enc := Value.int .u8) (d := (0 : Int)) (h1 := fun _ => rfl) (hA2 w0 (Kd.reads_of_C hr00))
        rw [e2] at hcut1
        have Hend := Lib.hid (And.intro hC2 hT2)
        clear hi0 hsz0 hA1 hA2 hT2 hC1 hC2 e1 e2 e3 hr00 hB0
        generalize strOfNums ((l0.take (k + n)).drop k) = s at *
        generalize l0.drop (k + n) = l2 at *
        go_enter Try.func62, Try.ntmps62
        go_wp2_with (go_at_call 61; refine (hcall _ hr0).mono ?_; rintro e w' ⟨rfl, hB⟩)
        have hcv := hT1 _ (Kd.C_drew (Kd.C_below hr0 hB))
        have hw1 : IntKind.i64.wrap ((k : Int) + (n : Int)) = (k : Int) + (n : Int) := IntWalk.i64_in _ (by omega)
        have hw2 : IntKind.i64.wrap (n : Int) = (n : Int) := IntWalk.i64_in _ (by omega)
        go_region_with (fail)
        all_goals go_wp2_with fail
        all_goals go_ret3
        all_goals exact ⟨A2, _, _, rfl, rfl, Hend.out.1, Hend.out.2, below_drew1 hB⟩
  · rw [h] at hcall
    have ht : textF l0 = (⟨#[]⟩, [], e) := by unfold textF; simp only [h]; rw [if_pos (by omega)]
    rw [ht]
    have hne : (e != 0) = true := by simp; omega
    clear ht h he
    go_enter Try.func62, Try.ntmps62
    go_wp2_with (go_at_call 61; refine (hcall _ hr0).mono ?_; rintro e w' ⟨rfl, hB⟩)
    go_ret3
    exact TextR.err hB
end Go.Proofs.Ytamihmofmjkfoaa.X
end

/-! ## XGet -/
section
/- What the program's Get of a table tells. Conditions: few bytes. -/
set_option linter.unusedVariables false
set_option linter.unusedSimpArgs false
namespace Go.Proofs.Ytamihmofmjkfoaa.X
open Go.RowKit Go.Proofs.YtamihmofmjkfoaaW.PrintWords Go.Proofs.YtamihmofmjkfoaaW.PrintLast Go.Proofs.YtamihmofmjkfoaaW.PrintMore Go.Proofs.Ytamihmofmjkfoaa.Q
attribute [local go_sem] max2_int min2_int max_two min_two max_three min_three max_four min_four

/-- May a text not stand next? -/
def badNext (a : ByteArray) (out : List ByteArray) (s : ByteArray) : Prop := bl s = bl a ∨ 1 < out.length ∧ bl s ≤ bl (out.getD (out.length - 1) ⟨#[]⟩)
instance (a : ByteArray) (out : List ByteArray) (s : ByteArray) : Decidable (badNext a out s) := by unfold badNext; exact inferInstance
def getLoop (a : ByteArray) : Nat → List Int → List ByteArray → List ByteArray × List Int × Int
  | 0, rest, out => (out, rest, 0)
  | n + 1, rest, out => if (textF rest).2.2 ≠ 0 then ([], [], (textF rest).2.2) else if badNext a out (textF rest).1 then ([], [], 3) else getLoop a n (textF rest).2.1 (out ++ [(textF rest).1])
def getT (a : ByteArray) (l : List Int) : List ByteArray × Int × Int :=
  if (getU l).2.2 ≠ 0 then ([], 0, (getU l).2.2) else
    let r := getLoop a (getU l).1.toNat (l.drop (getU l).2.1.toNat) [a]
    if r.2.2 ≠ 0 then ([], 0, r.2.2) else (r.1, (l.length : Int) - (r.2.1.length : Int), 0)
theorem toList_bl' (s t : ByteArray) : (s.toList = t.toList) ↔ bl s = bl t := by rw [ByteArray.toList_eq, ByteArray.toList_eq]; rfl
theorem strLe (s x : ByteArray) : bl s ≤ bl x ↔ (Op.bytesLess s.toList x.toList = true ∨ (s.toList == x.toList) = true) := by
  rw [Proofs.bytesLess_eq, ByteArray.toList_eq, ByteArray.toList_eq]
  simp only [decide_eq_true_eq, beq_iff_eq]
  unfold bl
  exact List.le_iff_lt_or_eq
theorem textF_ok {l : List Int} (h : (textF l).2.2 = 0) : (textF l).2.1.length + 2 ≤ l.length ∧ (∃ j, (textF l).2.1 = l.drop j) ∧ 1 ≤ (textF l).1.size ∧ (textF l).1.size ≤ 16 := by
  rcases getU_cases l with ⟨n, k, hg, h1, h2, h3, h4⟩ | ⟨e, hg, he⟩
  · unfold textF at h ⊢
    simp only [hg] at h ⊢
    rw [if_neg (by decide)] at h ⊢
    by_cases h5 : (n : Int) < 1 ∨ (n : Int) > 16
    · rw [if_pos h5] at h; simp at h
    · rw [if_neg h5] at h ⊢
      by_cases h6 : (n : Int) > (l.length : Int) - (k : Int)
      · rw [if_pos h6] at h; simp at h
      · rw [if_neg h6]
        simp only [Int.toNat_natCast]
        refine ⟨by simp; omega, ⟨_, rfl⟩, ?_, ?_⟩
        all_goals
          rw [strOfNums_size]
          simp
          omega
  · unfold textF at h
    simp only [hg] at h
    rw [if_pos (by omega)] at h
    simp at h
    omega
theorem getLoop_len (a : ByteArray) : ∀ (n : Nat) (rest : List Int) (out : List ByteArray), (getLoop a n rest out).2.1.length ≤ rest.length ∧ ((getLoop a n rest out).2.2 = 0 → (getLoop a n rest out).1.length = out.length + n)
  | 0, rest, out => by simp [getLoop]
  | n + 1, rest, out => by
    unfold getLoop
    split
    · simp; intro h; contradiction
    · split
      · simp
      · have h0 := textF_ok (l := rest) (by omega)
        have := getLoop_len a n (textF rest).2.1 (out ++ [(textF rest).1])
        refine ⟨by omega, fun h => ?_⟩
        rw [this.2 h]
        simp; omega
theorem getLoop_cost (a : ByteArray) : ∀ (n : Nat) (rest : List Int) (out : List ByteArray), (getLoop a n rest out).2.2 = 0 → out.length + n = (getLoop a n rest out).1.length ∧ 2 * n + (getLoop a n rest out).2.1.length ≤ rest.length
  | 0, rest, out, _ => by simp [getLoop]
  | n + 1, rest, out, h => by
    unfold getLoop at h ⊢
    split at h
    · simp at h; contradiction
    · rename_i h1
      split at h
      · simp at h
      · rename_i h2
        have h0 := textF_ok (l := rest) (by omega)
        have := getLoop_cost a n (textF rest).2.1 (out ++ [(textF rest).1]) h
        rw [if_neg h1, if_neg h2]
        simp only [List.length_append, List.length_cons, List.length_nil] at this
        omega
structure GetR (w : World) (a : ByteArray) (m n : Nat) (l : List Int) (v10 v11 : Value) (i : Nat) (wr : World) : Prop where
  hi : i ≤ n
  hB : Below w.heap.size w wr
  go : ∃ out rest A c, v11 = .slice A rest.length c ∧ rest.length ≤ c ∧ Kd.C (Kd.int .u8) w A rest.length rest ∧ By rest ∧ i + rest.length ≤ m ∧ out.length = i + 1 ∧ Kd.R Kd.string 9 wr w.heap.size (fun _ => True) v10 out ∧ getLoop a (n - i) rest out = getLoop a n l [a]
def GetPost (w : World) (r : List ByteArray × Int × Int) (e : Ending) (w' : World) : Prop :=
  ∃ v0 : Value, e = .returned (.tuple #[v0, .int .i64 r.2.1, .int .i64 r.2.2]) ∧ Kd.R Kd.string 9 w' w.heap.size (fun _ => True) v0 r.1 ∧ Below w.heap.size w w'
theorem GetPost.err {w w' : World} {e : Int} (hB : Below w.heap.size w w') : GetPost w ([], 0, e) (.returned (.tuple #[.slice none 0 0, .int .i64 0, .int .i64 e])) w' := ⟨_, rfl, Kd.R_nil _ _ _ _ _, hB⟩
set_option maxHeartbeats 2000000 in
set_option maxRecDepth 100000 in
theorem Get_calls (a : ByteArray) (A0 : Option Addr) (c0 : Nat) (l0 : List Int) (w : World) (hr0 : Kd.C (Kd.int .u8) w A0 l0.length l0) (hc0 : l0.length ≤ c0) (hl : l0.length ≤ 500000000) (hb : By l0) :
    Calls Try.prog 29 #[.string a, .slice A0 l0.length c0] w (GetPost w (getT a l0)) := by
  have hcall := fun W hW => GetU_calls A0 c0 l0 W hW hc0 (by omega) hb
  rcases getU_cases l0 with ⟨n, k, h, h1, h2, h3, h4⟩ | ⟨e, h, he⟩
  · rw [h] at hcall
    have ht : getT a l0 = (if (getLoop a n (l0.drop k) [a]).2.2 ≠ 0 then ([], 0, (getLoop a n (l0.drop k) [a]).2.2) else ((getLoop a n (l0.drop k) [a]).1, (l0.length : Int) - ((getLoop a n (l0.drop k) [a]).2.1.length : Int), 0)) := by
      unfold getT; simp only [h]; rw [if_neg (by decide)]; simp
    have Ht := Lib.hid ht
    obtain ⟨i0, hi0, _, hsz0, _⟩ := info_parts info5
    obtain ⟨A2, hcut2, hA2, hC2⟩ := print_drop_of (P := Try.prog) (Value.int .u8) (0 : Int) 34 5 .i64 Try.underlying34 hi0 hsz0 A0 c0 l0 (k : Int) (by omega) (by omega) hc0
    rw [Int.toNat_natCast] at hcut2 hA2 hC2
    have hT2 := Kd.C_of_reads (enc := Value.int .u8) (d := (0 : Int)) (h1 := fun _ => rfl) (hA2 w (Kd.reads_of_C hr0))
    have hb2 := hb.drop k
    have hl2 : (l0.drop k).length + k = l0.length := by simp; omega
    have Hend := Lib.hid (And.intro hC2 hT2)
    clear hi0 hsz0 hA2 hT2 hC2 ht h
    generalize l0.drop k = l2 at *
    go_enter Try.func29, Try.ntmps29
    go_wp2_with (go_at_call 61; refine (hcall _ hr0).mono ?_; rintro e w' ⟨rfl, hB⟩)
    have hB2 : Below w.heap.size w (w'.alloc (.cells #[.string a] 9)) := below_alloc hB _
    have hR2 : Kd.R Kd.string 9 (w'.alloc (.cells #[.string a] 9)) w.heap.size (fun _ => True) (.slice (some ⟨w'.heap.size, 0, none⟩) 1 1) [a] := Kd.R_of_own (xs := [a]) (own_lit_of _ _ _ [a] hB.size (by simp)) (fun _ _ => trivial)
    have HB2 := Lib.hid hB2
    have HR2 := Lib.hid hR2
    clear hB2 hR2 hB hcall hcut2
    go_loopw [10, 11, 28] (fun v10 v11 v28 wr => ∃ i : Nat, v28 = .int .u64 i ∧ GetR w a l0.length n l2 v10 v11 i wr) (fun _ _ v28 _ => n - (intOf v28).toNat)
    case atStart => exact ⟨0, rfl, ⟨Nat.zero_le _, HB2.out, [a], l2, A2, _, rfl, Hend.out.1, Hend.out.2, hb2, by omega, rfl, HR2.out, rfl⟩⟩
    case round =>
      obtain ⟨i, rfl, hrel⟩ := hrel
      have hi := hrel.hi
      have hB := hrel.hB
      have hs := hB.size
      obtain ⟨out, rest, A, c, rfl, h5, h6, h7, h8, h9, h10, h11⟩ := hrel.go
      clear hrel HB2 HR2 Hend
      have h11' := Lib.hid h11
      obtain ⟨A10, c10, rfl, hc10, hC10⟩ := Kd.R_reads h10
      rw [h9] at h10
      have HR10 := Lib.hid h10
      clear h11 h10
      by_cases hlt : i < n
      · have htx := text_calls A c rest w wr h6 hB h5 (by omega) h7
        have hst : getLoop a (n - i) rest out = (if (textF rest).2.2 ≠ 0 then ([], [], (textF rest).2.2) else if badNext a out (textF rest).1 then ([], [], 3) else getLoop a (n - (i + 1)) (textF rest).2.1 (out ++ [(textF rest).1])) := by
          rw [show n - i = (n - (i + 1)) + 1 by omega]; rfl
        have hok := textF_ok (l := rest)
        rw [h11'.out] at hst
        rcases htf : textF rest with ⟨s, rest', e⟩
        rw [htf] at htx hst hok
        simp only at hst hok
        by_cases he : e = 0
        · subst he
          rw [if_neg (by decide)] at hst
          obtain ⟨g1, g2, g3, g4⟩ := hok rfl
          have hby : By rest' := by obtain ⟨j, rfl⟩ := g2; exact h7.drop j
          clear g2
          by_cases hsa : s.toList = a.toList
          · rw [if_pos (.inl ((toList_bl' _ _).1 hsa))] at hst
            have Hst := Lib.hid hst
            clear hst htf hok
            go_wp2_with (first | (go_at_call 62; refine htx.mono ?_; rintro e w5 ⟨A5, n5, c5, rfl, rfl, h15, h16, hB5⟩))
            go_ret3
            rw [Ht.out, Hst.out, if_pos (by decide)]
            exact GetPost.err (below_then hB hs hB5)
          · have hsab : (s.toList == a.toList) = false := beq_eq_false_iff_ne.mpr hsa
            by_cases hi0 : i = 0
            · have hi1 : ¬ (1 : Int) < (i : Int) + 1 := by omega
              rw [if_neg (by rintro (h | h); exact hsa ((toList_bl' _ _).2 h); omega)] at hst
              have Hst := Lib.hid hst
              have Hi0 := Lib.hid hi0
              clear hst htf hok hi0
              go_wp2_with (first | (go_at_call 62; refine htx.mono ?_; rintro e w5 ⟨A5, n5, c5, rfl, rfl, h15, h16, hB5⟩; have hs5 := hB5.size) | ((with_reducible refine gate_builtin (b := .append) (xs := #[.tmp 57, .tmp 59]) rfl ?_); at_builtin; go_must (refine Kd.R_append Kd.string (w0 := w5) w.heap.size rfl (.tmp 57) (.tmp 59) 26 9 (.string ⟨#[]⟩) 16 rfl Try.underlying26 info9 rfl (by decide) (by omega) (.slice A10 (i + 1) c10) out s [.string s] (fun _ => True) (fun _ => False) rfl rfl ?aP (fun _ hk => hk.elim) ?aF ?aO ?aB ?aS ?aL ?_; (case aP => exact rfl); (case aF => exact fun _ _ => trivial); (case aO => exact R_gbT HR10.out (bl_is_gb hB5) (by simp)); (case aB => exact Below.refl _ _); (case aS => omega); (case aL => omega); intro v9 w9 hR9 _ hg9 _)))
              go_roundw
              case rel => exact ⟨i + 1, by first | go_num | rfl, ⟨by omega, pw_below_grown (below_then hB hs hB5) _ (by omega) hg9 (fun k hk => R_base HR10.out k hk), out ++ [s], rest', A5, c5, rfl, h15, h16, hby, by omega, by rw [List.length_append, h9]; rfl, hR9, by rw [← Hst.out]⟩⟩
              case measure => simp [intOf]; omega
            · have hi1 : (1 : Int) < (i : Int) + 1 := by omega
              obtain ⟨ad10, rfl, hcell⟩ := (Kd.reads_of_C (d := (⟨#[]⟩ : ByteArray)) hC10).2.2 (by omega)
              have hc := hcell i (by omega)
              have hbx : badNext a out s ↔ bl s ≤ bl (out.getD i ⟨#[]⟩) := by
                unfold badNext
                rw [show out.length - 1 = i by omega]
                constructor
                · rintro (h | h)
                  · exact absurd ((toList_bl' _ _).2 h) hsa
                  · exact h.2
                · intro h; exact .inr ⟨by omega, h⟩
              have hle := strLe s (out.getD i ⟨#[]⟩)
              have Hst := Lib.hid hst
              clear hst htf hok hcell hi0
              generalize out.getD i ⟨#[]⟩ = x at *
              cases hL : Op.bytesLess s.toList x.toList <;> cases hE : (s.toList == x.toList)
              rotate_left
              all_goals try
                have hst := Hst.out
                rw [if_pos (hbx.2 (by rw [hle]; simp [hL, hE]))] at hst
                have Hst := Lib.hid hst
                clear hst hbx hle
                go_wp2_with (first | (go_at_call 62; refine htx.mono ?_; rintro e w5 ⟨A5, n5, c5, rfl, rfl, h15, h16, hB5⟩; have hs5 := hB5.size; have hc5 := pw_cell_below hB5 hc))
                go_ret3
                rw [Ht.out, Hst.out, if_pos (by decide)]
                exact GetPost.err (below_then hB hs hB5)
              have hst := Hst.out
              rw [if_neg (fun h => by have := hle.1 (hbx.1 h); simp [hL, hE] at this)] at hst
              have Hst := Lib.hid hst
              clear hst hbx hle
              go_wp2_with (first | (go_at_call 62; refine htx.mono ?_; rintro e w5 ⟨A5, n5, c5, rfl, rfl, h15, h16, hB5⟩; have hs5 := hB5.size; have hc5 := pw_cell_below hB5 hc) | ((with_reducible refine gate_builtin (b := .append) (xs := #[.tmp 57, .tmp 59]) rfl ?_); at_builtin; go_must (refine Kd.R_append Kd.string (w0 := w5) w.heap.size rfl (.tmp 57) (.tmp 59) 26 9 (.string ⟨#[]⟩) 16 rfl Try.underlying26 info9 rfl (by decide) (by omega) (.slice (some ad10) (i + 1) c10) out s [.string s] (fun _ => True) (fun _ => False) rfl rfl ?aP (fun _ hk => hk.elim) ?aF ?aO ?aB ?aS ?aL ?_; (case aP => exact rfl); (case aF => exact fun _ _ => trivial); (case aO => exact R_gbT HR10.out (bl_is_gb hB5) (by simp)); (case aB => exact Below.refl _ _); (case aS => omega); (case aL => omega); intro v9 w9 hR9 _ hg9 _)))
              go_roundw
              case rel => exact ⟨i + 1, by first | go_num | rfl, ⟨by omega, pw_below_grown (below_then hB hs hB5) _ (by omega) hg9 (fun k hk => R_base HR10.out k hk), out ++ [s], rest', A5, c5, rfl, h15, h16, hby, by omega, by rw [List.length_append, h9]; rfl, hR9, by rw [← Hst.out]⟩⟩
              case measure => simp [intOf]; omega
        · rw [if_pos he] at hst
          have Hst := Lib.hid hst
          have hne : (e != 0) = true := by simpa using he
          clear hst htf hok he
          go_wp2_with (first | (go_at_call 62; refine htx.mono ?_; rintro e w5 ⟨A5, n5, c5, rfl, rfl, h15, h16, hB5⟩))
          go_ret3
          rw [Ht.out, Hst.out, if_pos (by simpa using hne)]
          exact GetPost.err (below_then hB hs hB5)
      · obtain rfl : i = n := by omega
        have hst := h11'.out
        rw [Nat.sub_self] at hst
        have Hst := Lib.hid hst
        have hrl : (rest.length : Int) ≤ (l0.length : Int) := by omega
        clear h6 hst hC10
        go_wp2
        go_ret3
        rw [Ht.out, ← Hst.out]
        have hR := HR10.out
        rw [← h9] at hR
        exact ⟨_, rfl, hR, hB⟩
  · rw [h] at hcall
    have ht : getT a l0 = ([], 0, e) := by unfold getT; simp only [h]; rw [if_pos (by omega)]
    rw [ht]
    have hne : (e != 0) = true := by simp; omega
    clear ht h he
    go_enter Try.func29, Try.ntmps29
    go_wp2_with (go_at_call 61; refine (hcall _ hr0).mono ?_; rintro e w' ⟨rfl, hB⟩)
    go_ret3
    exact GetPost.err hB
end Go.Proofs.Ytamihmofmjkfoaa.X
end

/-! ## XNum18 -/
section
/- Numbers read: the shortest bytes alone. No program in sight. Conditions: bytes are 0 to 255. -/
set_option linter.unusedVariables false
set_option linter.unusedSimpArgs false
namespace Go.Proofs.Ytamihmofmjkfoaa.X
/-- Bytes that go on, and one that ends. -/
def Ends : List Int → Prop
  | [] => False
  | [x] => 0 ≤ x ∧ x < 128
  | x :: t => 128 ≤ x ∧ x < 256 ∧ Ends t
theorem span_ends : ∀ (l : List Int) (i : Nat), i ≤ 9 → By l → ∀ k : Nat, (spanF i l).2 = 0 → (spanF i l).1 = (k : Int) + i → Ends (l.take k)
  | [], i, _, hb, k, h, _ => by simp [spanF] at h
  | x :: t, i, hi9, hb, k, h, hk => by
    have hx := hb x List.mem_cons_self
    unfold spanF at h hk
    by_cases h1 : x < 128
    · rw [if_pos h1] at hk
      simp only at hk
      obtain rfl : k = 1 := by omega
      simp [Ends]; omega
    · rw [if_neg h1] at h hk
      by_cases h2 : i = 9
      · rw [if_pos h2] at h; simp at h
      · rw [if_neg h2] at h hk
        have hle : i + 1 ≤ (spanF (i + 1) t).1.toNat := by
          rcases spanF_spec t (i + 1) (by omega) with ⟨j, h3, h4, h5, _⟩ | ⟨h3, h4⟩
          · omega
          · omega
        obtain ⟨j, rfl⟩ : ∃ j, k = j + 1 := ⟨k - 1, by omega⟩
        have ih := span_ends t (i + 1) (by omega) (fun y hy => hb y (List.mem_cons_of_mem _ hy)) j h (by rw [hk]; omega)
        rw [List.take_succ_cons]
        cases hj : t.take j with
        | nil => rw [hj] at ih; exact ih.elim
        | cons y u =>
          rw [hj] at ih
          exact ⟨by omega, hx.2, ih⟩
theorem val7_ub : ∀ (f n : Nat), n < 128 ^ (f + 1) → val7 (ubF f n) = n
  | 0, n, h => by simp [ubF, val7] at h ⊢; omega
  | f + 1, n, h => by
    unfold ubF
    by_cases h1 : n < 128
    · rw [if_pos h1]; simp [val7]; omega
    · rw [if_neg h1, val7, val7_ub f (n / 128) (by rw [Nat.pow_succ] at h; omega)]
      omega
theorem ub_of_len : ∀ (f : Nat) (d : List Int), Ends d → (ubF f (val7 d)).length = d.length → ubF f (val7 d) = d
  | f, [], h, _ => h.elim
  | f, [x], h, _ => by
    have hx : 0 ≤ x ∧ x < 128 := h
    have e : val7 [x] = x.toNat := by simp [val7]; omega
    rw [e]
    cases f with
    | zero => simp [ubF]; omega
    | succ f => unfold ubF; rw [if_pos (by omega)]; simp; omega
  | 0, x :: y :: t, h, hl => by simp [ubF] at hl
  | f + 1, x :: y :: t, h, hl => by
    obtain ⟨h1, h2, h3⟩ := h
    have e : val7 (x :: y :: t) = x.toNat % 128 + 128 * val7 (y :: t) := rfl
    unfold ubF at hl ⊢
    by_cases hs : val7 (x :: y :: t) < 128
    · rw [if_pos hs] at hl; simp at hl
    · rw [if_neg hs] at hl ⊢
      have e1 : val7 (x :: y :: t) / 128 = val7 (y :: t) := by omega
      have e2 : ((128 + val7 (x :: y :: t) % 128 : Nat) : Int) = x := by omega
      rw [e1] at hl ⊢
      rw [e2, ub_of_len f (y :: t) h3 (by simpa using hl)]
theorem val7_get9 : ∀ (d : List Int), d.length = 10 → (d.getD 9 0).toNat % 128 * 128 ^ 9 ≤ val7 d := by
  intro d h
  have e : d = d.take 9 ++ [d.getD 9 0] := by
    conv => lhs; rw [← List.take_append_drop 9 d]
    congr 1
    have : (d.drop 9).length = 1 := by simp; omega
    obtain ⟨y, hy⟩ : ∃ y, d.drop 9 = [y] := List.length_eq_one_iff.1 this
    rw [hy]
    have h9 : d[9]? = some y := by
      have := congrArg (fun l => l[0]?) hy
      simpa using this
    rw [List.getD_eq_getElem?_getD, h9]; rfl
  rw [e, val7_app]
  have hl : (d.take 9).length = 9 := by simp; omega
  rw [hl]
  have : (d.take 9 ++ [d.getD 9 0]).getD 9 0 = d.getD 9 0 := by rw [← e]
  rw [this]
  simp only [val7, Nat.mul_zero, Nat.add_zero]
  rw [Nat.mul_comm]
  omega
theorem ends_last : ∀ d : List Int, Ends d → d.getD (d.length - 1) 0 < 128
  | [], h => h.elim
  | [x], h => h.2
  | x :: y :: t, h => by
    have := ends_last (y :: t) h.2.2
    simpa using this
/-- Read the one way, and the other. -/
theorem num_iff (l : List Int) (hb : By l) (k : Nat) (h0 : (spanF 0 l).2 = 0) (h1 : (spanF 0 l).1 = (k : Int)) :
    (ub (val7 (l.take k) % 2 ^ 64) = l.take k) ↔ ¬ ((ub (val7 (l.take k) % 2 ^ 64)).length ≠ k ∨ k = 10 ∧ l.getD 9 0 > 1) := by
  have he := span_ends l 0 (by omega) hb k h0 (by omega)
  rcases spanF_spec l 0 (by omega) with ⟨j, h2, _, h4, h5, h6⟩ | ⟨h2, h3⟩
  rotate_left
  · omega
  obtain rfl : j = k := by omega
  have hlen : (l.take j).length = j := by simp; omega
  have hlt := val7_lt (l.take j)
  rw [hlen] at hlt
  have h9 : j = 10 → (l.take j).getD 9 0 = l.getD 9 0 := by
    rintro rfl
    simp [List.getD_eq_getElem?_getD, List.getElem?_take]
  have hend : ∀ h : j = 10, l.getD 9 0 < 128 := by
    rintro rfl
    rw [← h9 rfl]
    have := ends_last _ he
    rw [hlen] at this
    exact this
  constructor
  · intro h
    rintro (h3 | ⟨rfl, h3⟩)
    · rw [h] at h3; exact h3 hlen
    · have hv := val7_get9 (l.take 10) hlen
      rw [h9 rfl] at hv
      have hu : val7 (ub (val7 (l.take 10) % 2 ^ 64)) = val7 (l.take 10) % 2 ^ 64 := val7_ub 9 _ (by have : (2:Nat) ^ 64 ≤ 128 ^ (9 + 1) := by decide
                                                                                                     omega)
      rw [h] at hu
      have hm : val7 (l.take 10) % 2 ^ 64 < 2 ^ 64 := Nat.mod_lt _ (by decide)
      have hd := hend rfl
      have h128 : (128 : Nat) ^ 9 = 9223372036854775808 := by decide
      rw [h128] at hv
      omega
  · intro h
    simp only [not_or, Decidable.not_not, not_and] at h
    obtain ⟨h3, h4'⟩ := h
    have hsm : val7 (l.take j) < 2 ^ 64 := by
      by_cases h10 : j = 10
      · have hd := h4' h10
        subst h10
        have e : l.take 10 = l.take 9 ++ [l.getD 9 0] := by
          rw [List.take_add_one]
          congr 1
          have : 9 < l.length := by omega
          simp [List.getD_eq_getElem?_getD, this]
        have hl9 := val7_lt (l.take 9)
        have hl9' : (l.take 9).length = 9 := by simp; omega
        rw [e, val7_app, hl9']
        rw [hl9'] at hl9
        simp only [val7, Nat.mul_zero, Nat.add_zero]
        have h128 : (128 : Nat) ^ 9 = 9223372036854775808 := by decide
        rw [h128] at hl9 ⊢
        have := hb.get 9
        omega
      · have : (128 : Nat) ^ j ≤ 128 ^ 9 := Nat.pow_le_pow_right (by decide) (by omega)
        have h128 : (128 : Nat) ^ 9 = 9223372036854775808 := by decide
        omega
    rw [Nat.mod_eq_of_lt hsm] at h3 ⊢
    exact ub_of_len 9 _ he (by rw [hlen]; exact h3)
end Go.Proofs.Ytamihmofmjkfoaa.X
end

/-! ## Q73 -/
section
-- By myprint.py, out of the translation, by way of the kit's print.
namespace Go.Proofs.Ytamihmofmjkfoaa.Q
open Go.RowKit Go.Proofs.YtamihmofmjkfoaaW.PrintWords Go.Proofs.YtamihmofmjkfoaaW.PrintLast Go.Proofs.YtamihmofmjkfoaaW.PrintMore
attribute [local go_sem] max2_int min2_int max_two min_two max_three min_three max_four min_four   -- for this text's walks alone
set_option linter.unusedVariables false
set_option linter.unusedSimpArgs false

/-! ### inkwellref02_Span: function 73 -/
def inkwellref02_Span.l0 : Nat → List Int → Int → Option (Int × Int)
  | 0, _, _ => none
  | k + 1, x0, x4 => if x4 < (x0.length : Int) then (if 0 ≤ x4 then (if (rd x0 x4) < 128 then (some (wrap64 (x4 + 1), 0)) else (if x4 = 9 then (some (0, 3)) else (inkwellref02_Span.l0 k x0 (wrap64 (x4 + 1))))) else (none)) else (some (0, 2))
def inkwellref02_Span.f (k : Nat) (l0 : List Int) : Option (Int × Int) := inkwellref02_Span.l0 k l0 0
theorem inkwellref02_Span.mono_l : ∀ k, (∀ y0 y1, LeO (inkwellref02_Span.l0 k y0 y1) (inkwellref02_Span.l0 (k + 1) y0 y1))
  | 0 => fun _ _ r h => by simp [inkwellref02_Span.l0] at h
  | k + 1 => by
    have ih0 := inkwellref02_Span.mono_l k
    · intro y0 y1
      unfold inkwellref02_Span.l0
      repeat' first
      | (with_reducible exact ih0 _ _)
      | (with_reducible exact LeO.refl _)
      | (with_reducible exact LeO.none _)
      | (with_reducible refine LeO.ite ?_ ?_)
      | (with_reducible refine LeO.bind ?_ (fun _ => ?_))
      | exact ih0 _ _
      | exact LeO.none _
      | refine LeO.ite ?_ ?_
      | refine LeO.bind ?_ (fun _ => ?_)
theorem inkwellref02_Span.mono : ∀ a0 k, LeO (inkwellref02_Span.f k a0) (inkwellref02_Span.f (k + 1) a0) := by
  intro a0 k
  have ih0 := inkwellref02_Span.mono_l k
  unfold inkwellref02_Span.f
  repeat' first
      | (with_reducible exact ih0 _ _)
      | (with_reducible exact LeO.refl _)
      | (with_reducible exact LeO.none _)
      | (with_reducible refine LeO.ite ?_ ?_)
      | (with_reducible refine LeO.bind ?_ (fun _ => ?_))
      | exact ih0 _ _
      | exact LeO.none _
      | refine LeO.ite ?_ ?_
      | refine LeO.bind ?_ (fun _ => ?_)
set_option maxHeartbeats 8000000 in
set_option maxRecDepth 100000 in
theorem inkwellref02_Span.calls (k : Nat) (A0 : Option Addr) (c0 : Nat) (l0 : List Int) (r1 : Int) (r2 : Int) (w : World) (hr0 : Kd.C (Kd.int .u8) w A0 l0.length l0) (hc0 : l0.length ≤ c0) (h : inkwellref02_Span.f k l0 = some (r1, r2)) :
    Calls Try.prog 73 #[.slice A0 l0.length c0] w fun e w' => e = .returned (.tuple #[.int .i64 r1, .int .i64 r2]) ∧ Drawn0 w w' := by
  have HR0 := Aside0.mk hr0
  have HC0 := Aside0.mk hc0
  clear hr0 hc0
  have H : (inkwellref02_Span.l0 k l0 0) = some (r1, r2) := h
  clear h
  have H' := Aside0.mk H
  clear H
  go_enter Try.func73, Try.ntmps73
  go_wp2
  go_loopg [4] k (fun kq v4 w' => ∃ (x4_1 : Int), v4 = .int .i64 x4_1 ∧ Aside0 (inkwellref02_Span.l0 kq l0 x4_1 = some (r1, r2)) ∧ Aside0 (kq ≤ k) ∧ Drawn0 w w')
  case atStart => exact ⟨(0), (by first | rfl | (simp; done) | (simp [*]; done)), H', ⟨Nat.le_refl _⟩, by repeat (first | exact Drawn0.refl _ | apply Drawn0.step)⟩
  case round =>
    clear H'
    obtain ⟨x4_1, rfl, HA, HK1, ⟨m1, rfl⟩⟩ := hrel
    cases gk with
    | zero => exact absurd HA.out (by simp [inkwellref02_Span.l0])
    | succ k1 =>
      have H := HA.out
      clear HA
      simp only [inkwellref02_Span.l0] at H
      by_cases c2 : x4_1 < (l0.length : Int)
      · rw [if_pos c2] at H
        have c2b0 : decide (x4_1 < (l0.length : Int)) = true := decide_eq_true c2
        clear c2
        by_cases c3 : 0 ≤ x4_1
        · rw [if_pos c3] at H
          have c3b0 : decide (0 ≤ x4_1) = true := decide_eq_true c3
          clear c3
          by_cases c4 : (rd l0 x4_1) < 128
          · rw [if_pos c4] at H
            have c4b0 : decide ((rd l0 x4_1) < 128) = true := decide_eq_true c4
            clear c4
            simp only [Option.some.injEq, Prod.mk.injEq] at H
            obtain ⟨rfl, rfl⟩ := H
            have p101 : 0 ≤ (x4_1 : Int) := of_decide_eq_true (by first | (with_reducible assumption) | assumption)
            have q101 : x4_1 < (l0.length : Int) := of_decide_eq_true (by first | (with_reducible assumption) | assumption)
            obtain ⟨ad101, e101, hx101_0⟩ := Kd.at_int HR0.out x4_1 p101 q101
            cases e101
            replace p101 := eq_true p101
            replace q101 := eq_true q101
            go_wp2
            go_ret2
            exact ⟨by first | rfl | (simp; done) | (simp [*]; done), by repeat (first | exact Drawn0.refl _ | apply Drawn0.step)⟩
          · rw [if_neg c4] at H
            have c4b0 : decide ((rd l0 x4_1) < 128) = false := decide_eq_false c4
            clear c4
            by_cases c5 : x4_1 = 9
            · rw [if_pos c5] at H
              have c5b0 : (x4_1 == 9) = true := beq_iff_eq.mpr c5
              have c5b1 : (x4_1 != 9) = false := bne_eq_false_iff_eq.mpr c5
              clear c5
              simp only [Option.some.injEq, Prod.mk.injEq] at H
              obtain ⟨rfl, rfl⟩ := H
              have p101 : 0 ≤ (x4_1 : Int) := of_decide_eq_true (by first | (with_reducible assumption) | assumption)
              have q101 : x4_1 < (l0.length : Int) := of_decide_eq_true (by first | (with_reducible assumption) | assumption)
              obtain ⟨ad101, e101, hx101_0⟩ := Kd.at_int HR0.out x4_1 p101 q101
              cases e101
              replace p101 := eq_true p101
              replace q101 := eq_true q101
              go_wp2
              go_ret2
              exact ⟨by first | rfl | (simp; done) | (simp [*]; done), by repeat (first | exact Drawn0.refl _ | apply Drawn0.step)⟩
            · rw [if_neg c5] at H
              have c5b0 : (x4_1 == 9) = false := beq_eq_false_iff_ne.mpr c5
              have c5b1 : (x4_1 != 9) = true := bne_iff_ne.mpr c5
              have H' := Aside0.mk H
              clear H
              have p101 : 0 ≤ (x4_1 : Int) := of_decide_eq_true (by first | (with_reducible assumption) | assumption)
              have q101 : x4_1 < (l0.length : Int) := of_decide_eq_true (by first | (with_reducible assumption) | assumption)
              obtain ⟨ad101, e101, hx101_0⟩ := Kd.at_int HR0.out x4_1 p101 q101
              cases e101
              replace p101 := eq_true p101
              replace q101 := eq_true q101
              go_wp2
              go_roundg k1
              case measure => have := HK1.out; omega
              case rel => exact ⟨(wrap64 (x4_1 + 1)), (by first | rfl | (simp; done) | (simp [*]; done)), H', ⟨by have := HK1.out; omega⟩, by repeat (first | exact Drawn0.refl _ | apply Drawn0.step)⟩
        · rw [if_neg c3] at H
          exact absurd H (by simp)
      · rw [if_neg c2] at H
        have c2b0 : decide (x4_1 < (l0.length : Int)) = false := decide_eq_false c2
        clear c2
        simp only [Option.some.injEq, Prod.mk.injEq] at H
        obtain ⟨rfl, rfl⟩ := H
        go_wp2
        go_ret2
        exact ⟨by first | rfl | (simp; done) | (simp [*]; done), by repeat (first | exact Drawn0.refl _ | apply Drawn0.step)⟩

end Go.Proofs.Ytamihmofmjkfoaa.Q
end

/-! ## XNumCalls -/
section
/- What the reference's Num tells: the same as the program's GetU. Conditions: lengths are those that Go lets stand. -/
set_option linter.unusedVariables false
set_option linter.unusedSimpArgs false
namespace Go.Proofs.Ytamihmofmjkfoaa.X
open Go.RowKit Go.Proofs.YtamihmofmjkfoaaW.PrintWords Go.Proofs.YtamihmofmjkfoaaW.PrintLast Go.Proofs.YtamihmofmjkfoaaW.PrintMore Go.Proofs.Ytamihmofmjkfoaa.Q
attribute [local go_sem] max2_int min2_int max_two min_two max_three min_three max_four min_four

theorem span02_plain (l : List Int) (hl : l.length ≤ 9223372036854775806) : ∀ (d i : Nat), l.length - i = d → i ≤ l.length → i ≤ 9 → Evt (fun k => inkwellref02_Span.l0 k l i) (spanF i (l.drop i)) := by
  intro d
  induction d with
  | zero =>
    intro i hd hi _
    refine Evt.one fun k => ?_
    simp only [inkwellref02_Span.l0]
    rw [if_neg (by omega), List.drop_eq_nil_of_le (by omega)]
    rfl
  | succ d ih =>
    intro i hd hi h9
    have hlt : i < l.length := by omega
    have hr : rd l (i : Int) = l[i] := by unfold rd; simp [List.getD_eq_getElem?_getD, hlt]
    rw [List.drop_eq_getElem_cons hlt]
    unfold spanF
    have hw : wrap64 ((i : Int) + 1) = ((i + 1 : Nat) : Int) := by rw [w64' (by omega) (by omega)]; omega
    by_cases hx : l[i] < 128
    · rw [if_pos hx]
      refine Evt.one fun k => ?_
      simp only [inkwellref02_Span.l0, hr]
      rw [if_pos (by omega), if_pos (by omega), if_pos hx, hw]
      rfl
    · rw [if_neg hx]
      by_cases e : i = 9
      · rw [if_pos e]
        refine Evt.one fun k => ?_
        simp only [inkwellref02_Span.l0, hr]
        rw [if_pos (by omega), if_pos (by omega), if_neg hx, if_pos (by omega)]
      · rw [if_neg e]
        refine (ih (i + 1) (by omega) (by omega) (by omega)).step fun k => ?_
        simp only [inkwellref02_Span.l0, hr]
        rw [if_pos (by omega), if_pos (by omega), if_neg hx, if_neg (by omega), hw]
theorem Span_calls (A0 : Option Addr) (c0 : Nat) (l0 : List Int) (w : World) (hr0 : Kd.C (Kd.int .u8) w A0 l0.length l0) (hc0 : l0.length ≤ c0) (hl : l0.length ≤ 9223372036854775806) :
    Calls Try.prog 73 #[.slice A0 l0.length c0] w fun e w' => e = .returned (.tuple #[.int .i64 (spanF 0 l0).1, .int .i64 (spanF 0 l0).2]) ∧ Drawn0 w w' := by
  obtain ⟨K, hK⟩ := span02_plain l0 hl l0.length 0 (by omega) (by omega) (by omega)
  exact inkwellref02_Span.calls K A0 c0 l0 _ _ w hr0 hc0 (hK K (Nat.le_refl _))
def racc (l : List Int) (k i : Nat) : Int := ((val7 ((l.take k).drop i) % 2 ^ 64 : Nat) : Int)
theorem ubF_by : ∀ (f n : Nat), n < 128 ^ (f + 1) → By (ubF f n)
  | 0, n, h => by
    intro x hx
    simp only [ubF, List.mem_singleton] at hx
    subst hx
    omega
  | f + 1, n, h => by
    unfold ubF
    split
    · intro x hx
      simp only [List.mem_singleton] at hx
      subst hx
      omega
    · intro x hx
      rcases List.mem_cons.1 hx with rfl | hx
      · omega
      · exact ubF_by f (n / 128) (by rw [Nat.pow_succ] at h; omega) x hx
theorem ub_by {n : Nat} (h : n < 2 ^ 64) : By (ub n) :=
  ubF_by 9 n (Nat.lt_of_lt_of_le h (by decide))
theorem racc_step {l : List Int} (hb : By l) (k i : Nat) (hk : k ≤ l.length) (hi : i < k) :
    (racc l k (i + 1) * 128 % 18446744073709551616 + l[i]?.getD 0 % 128) % 18446744073709551616 = racc l k i := by
  have hx := hb.get i
  rw [List.getD_eq_getElem?_getD] at hx
  have hxi : l[i]?.getD 0 = l[i]'(by omega) := by simp [show i < l.length by omega]
  rw [hxi] at hx ⊢
  unfold racc
  rw [List.drop_eq_getElem_cons (show i < (l.take k).length by simp; omega)]
  simp only [List.getElem_take, val7]
  generalize val7 ((l.take k).drop (i + 1)) = n
  obtain ⟨x, hxe⟩ := Int.eq_ofNat_of_zero_le hx.1
  rw [hxe]
  rw [Int.toNat_natCast]
  omega
set_option maxHeartbeats 1000000 in
set_option maxRecDepth 100000 in
theorem Num_calls (A0 : Option Addr) (c0 : Nat) (l0 : List Int) (w : World) (hr0 : Kd.C (Kd.int .u8) w A0 l0.length l0) (hc0 : l0.length ≤ c0) (hl : l0.length ≤ 9223372036854775806) (hb : By l0) :
    Calls Try.prog 63 #[.slice A0 l0.length c0] w fun e w' => e = .returned (.tuple #[.int .u64 (getU l0).1, .int .i64 (getU l0).2.1, .int .i64 (getU l0).2.2]) ∧ Below w.heap.size w w' := by
  rcases spanF_spec l0 0 (by omega) with ⟨k, h1, h2, h3, h4, h5⟩ | ⟨h1, h2⟩
  · have hs : spanF 0 l0 = ((k : Int), 0) := Prod.ext (by rw [h1]; simp) h2
    have hcall : ∀ W, Kd.C (Kd.int .u8) W A0 l0.length l0 → Calls Try.prog 73 #[.slice A0 l0.length c0] W fun e w' => e = .returned (.tuple #[.int .i64 (k : Int), .int .i64 0]) ∧ Drawn0 W w' := fun W hW => by
      have := Span_calls _ _ _ W hW hc0 hl
      rw [hs] at this
      exact this
    have hiff := num_iff l0 hb k h2 (by omega)
    have hok := GetU_ok l0 k hs
    have hbad := GetU_bad l0 k hs
    have hnlt : val7 (l0.take k) % 2 ^ 64 < 2 ^ 64 := Nat.mod_lt _ (by decide)
    have hr0e : racc l0 k 0 = ((val7 (l0.take k) % 2 ^ 64 : Nat) : Int) := by unfold racc; rw [List.drop_zero]
    have hacc : acc l0 k = racc l0 k 0 := by rw [hr0e]; rfl
    have hsi := strOfNums_toList_inj (a := ub (val7 (l0.take k) % 2 ^ 64)) (b := l0.take k) (ub_by hnlt) (hb.take k)
    have hstep := fun i h => racc_step hb k i h4 h
    have hrr : racc l0 k k = 0 := by unfold racc; rw [List.drop_eq_nil_of_le (by simp; omega)]; rfl
    have hrb : ∀ i, 0 ≤ racc l0 k i ∧ racc l0 k i < 18446744073709551616 := fun i => by unfold racc; omega
    have HU : ∀ W : World, Calls Try.prog 60 #[.int .u64 (racc l0 k 0)] W fun e w' => ∃ v0_ : Value, e = .returned v0_ ∧ Kd.R (Kd.int .u8) 5 w' W.heap.size (fun _ => True) v0_ (ub (val7 (l0.take k) % 2 ^ 64)) ∧ Below W.heap.size W w' := fun W => by rw [hr0e]; exact U02_calls _ hnlt W
    obtain ⟨i0, hi0, _, hsz0, _⟩ := info_parts info5
    obtain ⟨hcut, hA, hC⟩ := print_take_of (P := Try.prog) (Value.int .u8) (0 : Int) 34 5 .i64 Try.underlying34 hi0 hsz0 A0 c0 l0 (k : Int) (by omega) (by omega) hc0
    have hT : ∀ W, Kd.C (Kd.int .u8) W A0 l0.length l0 → Kd.C (Kd.int .u8) W A0 k (l0.take k) := fun W h => by
      have := Kd.C_of_reads (enc := Value.int .u8) (d := (0 : Int)) (h1 := fun _ => rfl) (hA W (Kd.reads_of_C h))
      rwa [Int.toNat_natCast, show (l0.take k).length = k by simp; omega] at this
    rw [Int.toNat_natCast, show (l0.take k).length = k by simp; omega] at hcut
    rw [← hacc] at hr0e
    generalize ub (val7 (l0.take k) % 2 ^ 64) = u at *
    have Hiff := Lib.hid hiff
    have Hok := Lib.hid hok
    have Hbad := Lib.hid hbad
    have Hsi := Lib.hid hsi
    have Hstep := Lib.hid hstep
    have Hrr := Lib.hid hrr
    have Hacc := Lib.hid hacc
    have Hrb := Lib.hid hrb
    obtain ⟨ad, rfl, hcell⟩ := (Kd.reads_of_C (d := (0 : Int)) hr0).2.2 (by omega)
    clear hs h1 h2 hok hbad hiff hsi hstep hrr hacc hr0e hrb
    go_enter Try.func63, Try.ntmps63
    go_wp2_with (go_at_call 73; refine (hcall _ hr0).mono ?_; rintro e w' ⟨rfl, ⟨nd, rfl⟩⟩)
    clear hcall
    go_loop [7, 8] (fun v7 v8 => ∃ i : Nat, i ≤ k ∧ v8 = .int .i64 ((i : Int) - 1) ∧ v7 = .int .u64 (racc l0 k i)) (fun _ v8 => (intOf v8 + 1).toNat)
    case atStart => exact ⟨k, Nat.le_refl _, rfl, by rw [Hrr.out]⟩
    case round =>
      obtain ⟨i, hi, rfl, rfl⟩ := hrel
      by_cases hlt : 1 ≤ i
      · obtain ⟨j, rfl⟩ : ∃ j, i = j + 1 := ⟨i - 1, by omega⟩
        have hc := hcell j (by omega)
        have hz := hb.get j
        have hr := Hrb.out (j + 1)
        have hstep := Hstep.out j (by omega)
        have ej : ((j + 1 : Nat) : Int) - 1 = (j : Int) := by omega
        rw [ej]
        rw [← List.getD_eq_getElem?_getD] at hstep
        clear hcell ej
        generalize l0.getD j 0 = z at *
        generalize racc l0 k (j + 1) = q at *
        have Hs := Lib.hid hstep
        clear hstep
        go_wp2
        go_round
        case rel => exact ⟨j, by omega, rfl, by rw [← Hs.out, wrap_u64, wrap_u64]⟩
        case measure => simp [intOf]
      · obtain rfl : i = 0 := by omega
        have hC0 := Kd.C_drewN (hT w hr0) (nd + 1)
        have hcv : (convert 34 9 (.slice (some ad) k c0)).run Try.prog (w.drewN (nd + 1)) = .ok (.string (strOfNums (l0.take k))) (w.drewN (nd + 1)) := Kd.C_string Try.underlying34 Try.underlying5 Try.underlying9 hC0
        have hn9 : ¬ (0 : Int) ≤ ((0 : Nat) : Int) - 1 := by omega
        clear hcell
        by_cases hq : u = l0.take k
        · have hb1 : ((strOfNums u).toList == (strOfNums (l0.take k)).toList) = true := beq_iff_eq.mpr (Hsi.out.2 hq)
          have Hfin := Lib.hid (show getU l0 = (racc l0 k 0, (k : Int), 0) by
            have h := Hiff.out.1 hq
            simp only [not_or, Decidable.not_not] at h
            rw [Hok.out h.1 h.2, Hacc.out])
          go_wp2_with fail
          go_region_with (first | (go_at_call 60; go_must (refine (HU _).mono ?_; rintro e w5 ⟨v5, rfl, hR5, hB5⟩; have hcv5 := conv_str hR5; have hcv6 : (convert 34 9 (.slice (some ad) k c0)).run Try.prog w5 = .ok (.string (strOfNums (l0.take k))) w5 := Kd.C_string Try.underlying34 Try.underlying5 Try.underlying9 (Kd.C_below hC0 hB5))))
          all_goals go_wp2_with fail
          all_goals go_ret3
          all_goals exact ⟨ret3 Hfin.out.symm, below_then (pw_below_drewN (Below.refl _ _) (nd + 1)) (by simp) hB5⟩
        · have hb1 : ((strOfNums u).toList == (strOfNums (l0.take k)).toList) = false := beq_eq_false_iff_ne.mpr (fun h => hq (Hsi.out.1 h))
          have Hfin := Lib.hid (show getU l0 = (0, 0, 3) by
            exact Hbad.out (Decidable.not_not.1 (fun h => hq (Hiff.out.2 h))))
          go_wp2_with fail
          go_region_with (first | (go_at_call 60; go_must (refine (HU _).mono ?_; rintro e w5 ⟨v5, rfl, hR5, hB5⟩; have hcv5 := conv_str hR5; have hcv6 : (convert 34 9 (.slice (some ad) k c0)).run Try.prog w5 = .ok (.string (strOfNums (l0.take k))) w5 := Kd.C_string Try.underlying34 Try.underlying5 Try.underlying9 (Kd.C_below hC0 hB5))))
          all_goals go_wp2_with fail
          all_goals go_ret3
          all_goals exact ⟨ret3 Hfin.out.symm, below_then (pw_below_drewN (Below.refl _ _) (nd + 1)) (by simp) hB5⟩
  · have hcall : ∀ W, Kd.C (Kd.int .u8) W A0 l0.length l0 → Calls Try.prog 73 #[.slice A0 l0.length c0] W fun e w' => e = .returned (.tuple #[.int .i64 (spanF 0 l0).1, .int .i64 (spanF 0 l0).2]) ∧ Drawn0 W w' := fun W hW => Span_calls _ _ _ W hW hc0 hl
    have he := GetU_err l0 (spanF 0 l0).2 (by omega)
    generalize spanF 0 l0 = s at *
    obtain ⟨s1, s2⟩ := s
    have He := Lib.hid he
    clear he
    have hne : (s2 != 0) = true := by simp at h2 ⊢; omega
    clear h1 h2
    go_enter Try.func63, Try.ntmps63
    go_wp2_with (go_at_call 73; refine (hcall _ hr0).mono ?_; rintro e w' ⟨rfl, ⟨nd, rfl⟩⟩)
    go_ret3
    exact ⟨ret3 He.out.symm, pw_below_drewN (Below.refl _ _) nd⟩
end Go.Proofs.Ytamihmofmjkfoaa.X
end

/-! ## XBackPlain -/
section
/- What is put is read as it was: the plain part, of tables. No program in sight. -/
set_option linter.unusedVariables false
namespace Go.Proofs.Ytamihmofmjkfoaa.X
open Go.RowKit Go.Proofs.YtamihmofmjkfoaaW.PrintWords

theorem spanF_ub : ∀ (f i n : Nat) (rest : List Int), n < 128 ^ (f + 1) → i + f ≤ 9 → spanF i (ubF f n ++ rest) = (((ubF f n).length : Int) + i, 0)
  | 0, i, n, rest, h, hi => by
    simp only [ubF, List.cons_append, List.nil_append, spanF]
    rw [if_pos (by omega)]
    simp; omega
  | f + 1, i, n, rest, h, hi => by
    unfold ubF
    by_cases h1 : n < 128
    · rw [if_pos h1]
      simp only [List.cons_append, List.nil_append, spanF]
      rw [if_pos (by omega)]
      simp; omega
    · rw [if_neg h1]
      simp only [List.cons_append, spanF]
      rw [if_neg (by omega), if_neg (by omega), spanF_ub f (i + 1) (n / 128) rest (by rw [Nat.pow_succ] at h; omega) (by omega)]
      simp; omega
theorem ub_pos (n : Nat) : 1 ≤ (ub n).length := by
  unfold ub ubF
  split <;> simp
theorem getU_ub (n : Nat) (rest : List Int) (hn : n < 2 ^ 64) (hr : By rest) : getU (ub n ++ rest) = ((n : Int), ((ub n).length : Int), 0) := by
  have hb : By (ub n ++ rest) := (ub_by hn).app hr
  have h128 : n < 128 ^ (9 + 1) := Nat.lt_of_lt_of_le hn (by decide)
  have hs : spanF 0 (ub n ++ rest) = (((ub n).length : Int), 0) := by
    have := spanF_ub 9 0 n rest h128 (by omega)
    unfold ub
    simpa using this
  have ht : (ub n ++ rest).take (ub n).length = ub n := by simp
  have hv : val7 (ub n) = n := val7_ub 9 n h128
  have hi := num_iff (ub n ++ rest) hb (ub n).length (by rw [hs]) (by rw [hs])
  rw [ht, hv, Nat.mod_eq_of_lt hn] at hi
  have h2 := hi.1 rfl
  simp only [not_or, Decidable.not_not] at h2
  have := GetU_ok (ub n ++ rest) (ub n).length hs (by rw [ht, hv, Nat.mod_eq_of_lt hn]) h2.2
  rw [this]
  unfold acc
  rw [ht, hv, Nat.mod_eq_of_lt hn]
theorem spanF_cut : ∀ (f i n m : Nat), n < 128 ^ (f + 1) → i + f ≤ 9 → m < (ubF f n).length → spanF i ((ubF f n).take m) = (0, 2)
  | f, i, n, 0, h, hi, hm => by simp [spanF]
  | 0, i, n, m + 1, h, hi, hm => by simp [ubF] at hm
  | f + 1, i, n, m + 1, h, hi, hm => by
    unfold ubF at hm ⊢
    by_cases h1 : n < 128
    · rw [if_pos h1] at hm; simp at hm
    · rw [if_neg h1] at hm ⊢
      simp only [List.take_succ_cons, spanF]
      rw [if_neg (by omega), if_neg (by omega)]
      exact spanF_cut f (i + 1) (n / 128) m (by rw [Nat.pow_succ] at h; omega) (by omega) (by simpa using hm)
theorem getU_cut (n m : Nat) (hn : n < 2 ^ 64) (hm : m < (ub n).length) : getU ((ub n).take m) = (0, 0, 2) := by
  have hs := spanF_cut 9 0 n m (Nat.lt_of_lt_of_le hn (by decide)) (by omega) hm
  have : getU ((ub n).take m) = (0, 0, (spanF 0 ((ub n).take m)).2) := GetU_err _ 0 (by unfold ub; rw [hs]; decide)
  rw [this]
  unfold ub
  rw [hs]
def ok16 (s : ByteArray) : Prop := 1 ≤ s.size ∧ s.size ≤ 16
theorem textF_put (s : ByteArray) (rest : List Int) (hs : ok16 s) (hr : By rest) : textF (ub s.size ++ bytesOf s ++ rest) = (s, rest, 0) := by
  obtain ⟨h1, h2⟩ := hs
  have hn : s.size < 2 ^ 64 := Nat.lt_of_le_of_lt h2 (by decide)
  unfold textF
  rw [List.append_assoc, getU_ub s.size (bytesOf s ++ rest) hn ((bytesOf_by s).app hr)]
  simp only
  rw [if_neg (by decide), if_neg (by omega), if_neg (by simp only [List.length_append, bytesOf_length]; omega)]
  simp only [Int.toNat_natCast]
  have e1 : ((ub s.size ++ (bytesOf s ++ rest)).take ((ub s.size).length + s.size)).drop (ub s.size).length = bytesOf s := by
    rw [← bytesOf_length s, ← List.append_assoc, ← List.length_append, List.take_left, List.drop_left]
  have e2 : (ub s.size ++ (bytesOf s ++ rest)).drop ((ub s.size).length + s.size) = rest := by
    rw [← bytesOf_length s, ← List.append_assoc, ← List.length_append, List.drop_left]
  rw [e1, e2, strOfNums_bytesOf]
theorem textF_cut (s : ByteArray) (m : Nat) (hs : ok16 s) (hm : m < (ub s.size ++ bytesOf s).length) : textF ((ub s.size ++ bytesOf s).take m) = (⟨#[]⟩, [], 2) := by
  obtain ⟨h1, h2⟩ := hs
  have hn : s.size < 2 ^ 64 := Nat.lt_of_le_of_lt h2 (by decide)
  by_cases hlt : m < (ub s.size).length
  · unfold textF
    rw [List.take_append_of_le_length (by omega), getU_cut s.size m hn hlt]
    simp
  · obtain ⟨j, rfl⟩ : ∃ j, m = (ub s.size).length + j := ⟨m - (ub s.size).length, by omega⟩
    rw [List.take_length_add_append]
    have hj : j < s.size := by rw [List.length_append, bytesOf_length] at hm; omega
    have hjl : ((bytesOf s).take j).length = j := by rw [List.length_take, bytesOf_length]; omega
    unfold textF
    rw [getU_ub s.size _ hn ((bytesOf_by s).take j)]
    simp only
    rw [if_neg (by decide), if_neg (by omega), if_pos (by rw [List.length_append, hjl]; omega)]
theorem putA_by (ys : List ByteArray) (h : ∀ y ∈ ys, y.size < 2 ^ 64) : By (putA ys) := by
  intro x hx
  obtain ⟨y, hy, hx⟩ := List.mem_flatMap.1 hx
  rcases List.mem_append.1 hx with h1 | h1
  · exact ub_by (h y hy) x h1
  · exact bytesOf_by y x h1
theorem putA_cons (y : ByteArray) (t : List ByteArray) : putA (y :: t) = (ub y.size ++ bytesOf y) ++ putA t := by simp [putA]
/-- May these stand next, one behind the other? -/
def nextOk (a : ByteArray) : List ByteArray → List ByteArray → Prop
  | _, [] => True
  | out, y :: t => ok16 y ∧ ¬ badNext a out y ∧ nextOk a (out ++ [y]) t
theorem nextOk_size {a : ByteArray} : ∀ {ys out : List ByteArray}, nextOk a out ys → ∀ y ∈ ys, ok16 y
  | [], _, _, y, h => by cases h
  | z :: t, out, h, y, hy => by
    rcases List.mem_cons.1 hy with rfl | hy
    · exact h.1
    · exact nextOk_size h.2.2 y hy
theorem nextOk_by {a : ByteArray} {ys out : List ByteArray} (h : nextOk a out ys) : By (putA ys) := putA_by ys fun y hy => Nat.lt_of_le_of_lt (nextOk_size h y hy).2 (by decide)
theorem getLoop_put (a : ByteArray) (rest : List Int) (hr : By rest) : ∀ (ys out : List ByteArray), nextOk a out ys → getLoop a ys.length (putA ys ++ rest) out = (out ++ ys, rest, 0)
  | [], out, _ => by simp [getLoop, putA]
  | y :: t, out, h => by
    obtain ⟨h1, h2, h3⟩ := h
    rw [List.length_cons, putA_cons, List.append_assoc]
    unfold getLoop
    rw [textF_put y _ h1 ((nextOk_by h3).app hr)]
    simp only
    rw [if_neg (by decide), if_neg h2, getLoop_put a rest hr t _ h3, List.append_assoc]
    rfl
theorem getLoop_cut (a : ByteArray) : ∀ (ys out : List ByteArray) (m : Nat), nextOk a out ys → m < (putA ys).length → getLoop a ys.length ((putA ys).take m) out = ([], [], 2)
  | [], out, m, _, hm => by simp [putA] at hm
  | y :: t, out, m, h, hm => by
    obtain ⟨h1, h2, h3⟩ := h
    rw [List.length_cons, putA_cons]
    unfold getLoop
    by_cases hlt : m < (ub y.size ++ bytesOf y).length
    · rw [List.take_append_of_le_length (by omega), textF_cut y m h1 hlt]
      simp
    · obtain ⟨j, rfl⟩ : ∃ j, m = (ub y.size ++ bytesOf y).length + j := ⟨m - (ub y.size ++ bytesOf y).length, by omega⟩
      have hj : j < (putA t).length := by simp only [putA_cons, List.length_append] at hm hlt; omega
      rw [List.take_length_add_append, textF_put y _ h1 ((nextOk_by h3).take j)]
      simp only
      rw [if_neg (by decide), if_neg h2]
      exact getLoop_cut a t _ j h3 hj
theorem getT_put (a : ByteArray) (ys : List ByteArray) (more : List Int) (hl : ys.length < 2 ^ 64) (h : nextOk a [a] ys) (hm : By more) : getT a (putT (a :: ys) ++ more) = (a :: ys, ((putT (a :: ys)).length : Int), 0) := by
  have e : putT (a :: ys) = ub ys.length ++ putA ys := rfl
  unfold getT
  rw [e, List.append_assoc, getU_ub ys.length _ hl ((nextOk_by h).app hm)]
  simp only [Int.toNat_natCast]
  rw [if_neg (by decide), List.drop_left, getLoop_put a more hm ys [a] h]
  simp only
  rw [if_neg (by decide)]
  simp only [List.cons_append, List.nil_append, List.length_append]
  congr 2
  omega
theorem getT_cut (a : ByteArray) (ys : List ByteArray) (m : Nat) (hl : ys.length < 2 ^ 64) (h : nextOk a [a] ys) (hm : m < (putT (a :: ys)).length) : getT a ((putT (a :: ys)).take m) = ([], 0, 2) := by
  have e : putT (a :: ys) = ub ys.length ++ putA ys := rfl
  rw [e] at hm ⊢
  unfold getT
  by_cases hlt : m < (ub ys.length).length
  · rw [List.take_append_of_le_length (by omega), getU_cut _ _ hl hlt]
    simp
  · obtain ⟨j, rfl⟩ : ∃ j, m = (ub ys.length).length + j := ⟨m - (ub ys.length).length, by omega⟩
    rw [List.length_append] at hm
    rw [List.take_length_add_append, getU_ub ys.length _ hl ((nextOk_by h).take j)]
    simp only [Int.toNat_natCast]
    rw [if_neg (by decide), List.drop_left, getLoop_cut a ys [a] j h (by omega)]
    simp
end Go.Proofs.Ytamihmofmjkfoaa.X
end

/-! ## Q31 -/
section
-- By myprint.py, out of the translation, by way of the kit's print.
namespace Go.Proofs.Ytamihmofmjkfoaa.Q
open Go.RowKit Go.Proofs.YtamihmofmjkfoaaW.PrintWords Go.Proofs.YtamihmofmjkfoaaW.PrintLast Go.Proofs.YtamihmofmjkfoaaW.PrintMore
attribute [local go_sem] max2_int min2_int max_two min_two max_three min_three max_four min_four   -- for this text's walks alone
set_option linter.unusedVariables false
set_option linter.unusedSimpArgs false

/-! ### inkwellref17_Actor: function 31 -/
def inkwellref17_Actor.f (a0 : ByteArray) : Option (Bool) := if (a0.size : Int) > 0 then (some (decide ((a0.size : Int) < 17))) else (some false)
set_option maxHeartbeats 8000000 in
set_option maxRecDepth 100000 in
theorem inkwellref17_Actor.calls (a0 : ByteArray) (r : Bool) (w : World) (h : inkwellref17_Actor.f a0 = some r) :
    Calls Try.prog 31 #[.string a0] w fun e w' => e = .returned (.bool r) ∧ Drawn0 w w' := by
  have H : (if (a0.size : Int) > 0 then (some (decide ((a0.size : Int) < 17))) else (some false)) = some r := h
  clear h
  by_cases c2 : (a0.size : Int) > 0
  · rw [if_pos c2] at H
    have c2b0 : decide (0 < (a0.size : Int)) = true := decide_eq_true c2
    have c2b1 : decide (0 < a0.size) = true := decide_eq_true (by omega)
    clear c2
    obtain rfl := Option.some.inj H
    go_enter Try.func31, Try.ntmps31
    go_wp2
    go_ret
    exact ⟨by first | rfl | (simp; done) | (simp [*]; done), by repeat (first | exact Drawn0.refl _ | apply Drawn0.step)⟩
  · rw [if_neg c2] at H
    have c2b0 : decide (0 < (a0.size : Int)) = false := decide_eq_false c2
    have c2b1 : decide (0 < a0.size) = false := decide_eq_false (by omega)
    clear c2
    obtain rfl := Option.some.inj H
    go_enter Try.func31, Try.ntmps31
    go_wp2
    go_ret
    exact ⟨by first | rfl | (simp; done) | (simp [*]; done), by repeat (first | exact Drawn0.refl _ | apply Drawn0.step)⟩

end Go.Proofs.Ytamihmofmjkfoaa.Q
end

/-! ## XBack -/
section
/- What is put is read as it was, a front of it is too short: the law's walk. -/
set_option linter.unusedVariables false
set_option linter.unusedSimpArgs false
namespace Go.Proofs.Ytamihmofmjkfoaa.X
open Go.RowKit Go.Proofs.YtamihmofmjkfoaaW.PrintWords Go.Proofs.YtamihmofmjkfoaaW.PrintLast Go.Proofs.YtamihmofmjkfoaaW.PrintMore Go.Proofs.Ytamihmofmjkfoaa.Q
attribute [local go_sem] max2_int min2_int max_two min_two max_three min_three max_four min_four

theorem table_next (a : ByteArray) (l : List Op) : ∃ ys, tableOf a l = a :: ys ∧ ys.Pairwise (fun x y => bl x < bl y) ∧ (∀ y ∈ ys, bl y ≠ bl a) := by
  refine ⟨sortS (othersOf a l), rfl, ?_, ?_⟩
  · have hb : (sortS (othersOf a l)).map bl = keysOf a (namesOf l) := by rw [sortS_bl]; rfl
    have := keys_sorted a (namesOf l)
    rw [← hb, List.pairwise_map] at this
    exact this
  · intro y hy
    have hb : (sortS (othersOf a l)).map bl = keysOf a (namesOf l) := by rw [sortS_bl]; rfl
    have : bl y ∈ keysOf a (namesOf l) := by rw [← hb]; exact List.mem_map_of_mem hy
    exact ((keys_mem a (namesOf l) _).1 this).2
theorem nextOk_of (a : ByteArray) : ∀ (ys out : List ByteArray), ys.Pairwise (fun x y => bl x < bl y) → (∀ y ∈ ys, ok16 y ∧ bl y ≠ bl a) → (1 < out.length → ∀ y ∈ ys, bl (out.getD (out.length - 1) ⟨#[]⟩) < bl y) → nextOk a out ys
  | [], _, _, _, _ => trivial
  | y :: t, out, hp, ho, hl => by
    rw [List.pairwise_cons] at hp
    refine ⟨(ho y List.mem_cons_self).1, ?_, nextOk_of a t (out ++ [y]) hp.2 (fun z hz => ho z (List.mem_cons_of_mem _ hz)) (fun _ z hz => ?_)⟩
    · rintro (h | ⟨h1, h2⟩)
      · exact (ho y List.mem_cons_self).2 h
      · exact List.not_lt.2 h2 (hl h1 y List.mem_cons_self)
    · have : (out ++ [y]).getD ((out ++ [y]).length - 1) ⟨#[]⟩ = y := by simp
      rw [this]
      exact hp.1 z hz
theorem putA_len16 : ∀ l : List ByteArray, (∀ a ∈ l, a.size ≤ 16) → (putA l).length ≤ 26 * l.length
  | [], _ => by simp [putA]
  | a :: t, h => by
    have h1 := putA_len16 t (fun x hx => h x (List.mem_cons_of_mem _ hx))
    have h2 := h a List.mem_cons_self
    have h3 := ub_len a.size
    rw [putA_cons]
    simp only [List.length_append, List.length_cons, bytesOf_length] at h1 ⊢
    omega
def actB (s : ByteArray) : Bool := decide (0 < s.size) && decide (s.size < 17)
theorem actB_ok (s : ByteArray) : actB s = true ↔ ok16 s := by unfold actB ok16; simp; omega
theorem Actor_calls (s : ByteArray) (w : World) : Calls Try.prog 31 #[.string s] w fun e w' => e = .returned (.bool (actB s)) ∧ Drawn0 w w' := by
  refine inkwellref17_Actor.calls s _ w ?_
  unfold inkwellref17_Actor.f actB
  by_cases h : (s.size : Int) > 0
  · rw [if_pos h, decide_eq_true (show 0 < s.size by omega), Bool.true_and]
    congr 1
    rw [decide_eq_decide]; omega
  · rw [if_neg h, decide_eq_false (show ¬ 0 < s.size by omega), Bool.false_and]
theorem own_nil8 (w5 : World) : Kd.R (Kd.int .u8) 5 (w5.alloc (.cells #[] 5)) w5.heap.size (fun _ => True) (.slice (some ⟨w5.heap.size, 0, none⟩) 0 0) [] :=
  Kd.R_of_own (enc := Value.int .u8) (h1 := fun _ => rfl) (xs := []) (own_lit_of (enc := Value.int .u8) w5 w5.heap.size 5 [] (Nat.le_refl _) (by simp)) (fun _ _ => trivial)
theorem nil8_below (w5 : World) : Below w5.heap.size w5 (w5.alloc (.cells #[] 5)) := (Below.refl w5.heap.size w5).alloc (Nat.le_refl _) (.cells #[] 5)
set_option maxHeartbeats 2000000 in
set_option maxRecDepth 100000 in
theorem back_calls (a0 : ByteArray) (A1 : Option Addr) (c1 : Nat) (l1 : List Op) (A2 : Option Addr) (c2 : Nat) (l2 : List Int) (x3 : Int) (w : World) (hr1 : Kd.C k44 w A1 l1.length l1) (hc1 : l1.length ≤ c1) (hr2 : Kd.C (Kd.int .u8) w A2 l2.length l2) (hc2 : l2.length ≤ c2) (hby : By l2) (hx0 : 0 ≤ x3) (hx1 : x3 ≤ 255) :
    Calls Try.prog 9 #[.string a0, .slice A1 l1.length c1, .slice A2 l2.length c2, .int .u8 x3] w fun e w' => e = .returned (.bool true) ∧ Below w.heap.size w w' := by
  by_cases hs : a0.size > 1000
  · go_enter Try.func9, Try.ntmps9
    go_wp2_with fail
    refine (awake18 _).mono ?_
    rintro e w1 ⟨rfl, hB1⟩
    go_wp2_with fail
    refine (awake18 _).mono ?_
    rintro e w2 ⟨rfl, hB2⟩
    go_wp2_with fail
    go_ret
    exact ⟨rfl, below_then hB1 hB1.size hB2⟩
  · by_cases hs2 : l2.length > 1000
    · go_enter Try.func9, Try.ntmps9
      go_wp2_with fail
      refine (awake18 _).mono ?_
      rintro e w1 ⟨rfl, hB1⟩
      go_wp2_with fail
      refine (awake18 _).mono ?_
      rintro e w2 ⟨rfl, hB2⟩
      go_wp2_with fail
      go_ret
      exact ⟨rfl, below_then hB1 hB1.size hB2⟩
    · have hf : ∀ W, Kd.C k44 W A1 l1.length l1 → Calls Try.prog 15 #[.slice A1 l1.length c1, .int .i64 40] W fun e w' => e = .returned (.bool (fewL l1 40)) ∧ Drawn0 W w' := fun W hW => Few_calls A1 c1 l1 40 W hW hc1 (by omega)
      cases h : fewL l1 40
      · rw [h] at hf
        clear h
        go_enter Try.func9, Try.ntmps9
        go_wp2_with fail
        refine (awake18 _).mono ?_
        rintro e w1 ⟨rfl, hB1⟩
        go_wp2_with fail
        refine (hf _ (Kd.C_below hr1 hB1)).mono ?_
        rintro e w2 ⟨rfl, ⟨nd, rfl⟩⟩
        go_wp2_with fail
        refine (awake18 _).mono ?_
        rintro e w3 ⟨rfl, hB3⟩
        go_wp2_with fail
        go_ret
        exact ⟨rfl, below_then (pw_below_drewN hB1 nd) hB1.size hB3⟩
      · rw [h] at hf
        obtain ⟨hl, hops⟩ := few_sm (by omega) h
        obtain ⟨hsm, hnm, htl, htz⟩ := table_few a0 l1 (by omega) hl hops
        obtain ⟨ys, hys, hp, hna⟩ := table_next a0 l1
        have htb := fun W hW => Table_calls a0 A1 c1 l1 W hW hc1 hsm (by unfold maxLen; omega) (fun x hx => by have := hnm x hx; unfold maxLen; omega)
        rw [hys] at htb htl htz
        have hyl : ys.length ≤ 500000 := by simpa using Nat.le_of_succ_le htl
        have HZ := Lib.hid htz
        have HP := Lib.hid hp
        have HNA := Lib.hid hna
        clear h hops htz hnm hp hna hsm hys htl
        go_enter Try.func9, Try.ntmps9
        go_wp2_with fail
        refine (awake18 _).mono ?_
        rintro e w1 ⟨rfl, hB1⟩
        go_wp2_with fail
        refine (hf _ (Kd.C_below hr1 hB1)).mono ?_
        rintro e w2 ⟨rfl, ⟨nd, rfl⟩⟩
        clear hf
        have hb2 : Below w.heap.size w (w1.drewN nd) := pw_below_drewN hB1 nd
        go_wp2_with fail
        refine (htb _ (Kd.C_below hr1 hb2)).mono ?_
        rintro e w3 ⟨v3, rfl, hR3, hB3⟩
        obtain ⟨A3, c3, rfl, hc3, hC3⟩ := Kd.R_reads hR3
        obtain ⟨T, hT⟩ : ∃ T, T = a0 :: ys := ⟨_, rfl⟩
        have hTl : T.length ≤ ys.length + 1 := by rw [hT]; simp
        have hTl2 : ys.length + 1 ≤ T.length := by rw [hT]; simp
        rw [← hT] at hc3 hC3
        have HT := Lib.hid hT
        have hb3 := below_then hb2 hb2.size hB3
        have hr23 := Kd.C_below hr2 hb3
        rw [show (a0 :: ys).length = T.length by rw [hT]]
        obtain ⟨ad3, rfl, hcell⟩ := (Kd.reads_of_C (d := (⟨#[]⟩ : ByteArray)) hC3).2.2 (by omega)
        clear hR3 htb hr1 hB1 hB3 hb2 hT
        go_wp2_with fail
        go_loopw [10] (fun v10 wr => ∃ i : Nat, v10 = .int .i64 i ∧ 1 ≤ i ∧ i ≤ T.length ∧ Hid (∀ j (h : j < T.length), 1 ≤ j → j < i → ok16 T[j]) ∧ ∃ nd, wr = w3.drewN nd) (fun v10 _ => T.length - (intOf v10).toNat)
        case atStart => exact ⟨1, rfl, Nat.le_refl _, by omega, Lib.hid (fun j _ h1 h2 => by omega), 0, rfl⟩
        case round =>
          obtain ⟨i, rfl, hi1, hi, hok, nd1, rfl⟩ := hrel
          by_cases hlt : i < T.length
          · have hcT : w3.cell? (ad3.add i) = some (.string T[i]) := by
              have := hcell i hlt
              rwa [getD_get _ _ _ hlt] at this
            have hac := fun W => Actor_calls T[i] W
            have hab := actB_ok T[i]
            have Hab := Lib.hid hab
            clear hcell hab
            cases hb : actB T[i]
            · rw [hb] at hac
              go_wp2_with (go_at_call 31; refine (hac _).mono ?_; rintro e w5 ⟨rfl, ⟨nd5, rfl⟩⟩)
              go_ret
              exact ⟨rfl, by first | exact pw_below_drewN hb3 _ | exact pw_below_drewN (pw_below_drewN hb3 _) _⟩
            · rw [hb] at hac
              have Hok := Lib.hid (show ∀ j (h : j < T.length), 1 ≤ j → j < i + 1 → ok16 T[j] from fun j h h1 h2 => by
                rcases Nat.lt_or_ge j i with h3 | h3
                · exact hok.out j h h1 h3
                · obtain rfl : j = i := by omega
                  exact Hab.out.1 hb)
              go_wp2_with (go_at_call 31; refine (hac _).mono ?_; rintro e w5 ⟨rfl, ⟨nd5, rfl⟩⟩)
              go_roundw
              case rel => exact ⟨i + 1, by go_num, by omega, by omega, Hok, _, by first | rfl | exact World.drewN_drewN _ _ _⟩
              case measure => simp [intOf]; omega
          · obtain rfl : i = T.length := by omega
            have hys16 : ∀ y ∈ ys, ok16 y := by
              intro y hy
              obtain ⟨j, hj, rfl⟩ := List.mem_iff_getElem.1 hy
              have := hok.out (j + 1) (by omega) (by omega) (by omega)
              have e : T[j + 1]'(by omega) = ys[j] := by simp only [HT.out, List.getElem_cons_succ]
              rwa [e] at this
            have hnext : nextOk a0 [a0] ys := nextOk_of a0 ys [a0] HP.out (fun y hy => ⟨hys16 y hy, HNA.out y hy⟩) (fun h => by simp at h)
            have hpl : (putA ys).length ≤ 26 * ys.length := putA_len16 ys (fun y hy => (hys16 y hy).2)
            have hul := ub_len ys.length
            have hup := ub_pos ys.length
            have hge := getT_put a0 ys l2 (by omega) hnext hby
            have hgc := fun m hm => getT_cut a0 ys m (by omega) hnext hm
            have hbyP : By (putT (a0 :: ys)) := show By (ub ys.length ++ putA ys) from (ub_by (by omega)).app (nextOk_by hnext)
            have hpT : (putT (a0 :: ys)).length ≤ 13000010 := by show (ub ys.length ++ putA ys).length ≤ _; rw [List.length_append]; omega
            have hpT1 : 1 ≤ (putT (a0 :: ys)).length := by show 1 ≤ (ub ys.length ++ putA ys).length; rw [List.length_append]; omega
            rw [← HT.out] at hge hgc hbyP hpT hpT1
            have hputc := fun W hW => Put_calls (some ad3) c3 T W hW hc3 (by omega) (by rw [HT.out]; exact HZ.out)
            clear hok hnext hpl hul hup hys16 hcell
            generalize putT T = b at *
            have hget1 := fun A c W hW hc => Get_calls a0 A c (b ++ l2) W hW hc (by rw [List.length_append]; omega) (hbyP.app hby)
            simp only [hge, List.length_append] at hget1
            obtain ⟨m, hm⟩ : ∃ m : Nat, m = (x3 % (b.length : Int)).toNat := ⟨_, rfl⟩
            have hmlt : m < b.length := by
              rw [hm]
              have := Int.emod_lt_of_pos x3 (show (0 : Int) < (b.length : Int) by omega)
              have := Int.emod_nonneg x3 (show (b.length : Int) ≠ 0 by omega)
              omega
            have hx3 : 0 ≤ x3 % (b.length : Int) ∧ x3 % (b.length : Int) < (b.length : Int) := ⟨Int.emod_nonneg x3 (by omega), Int.emod_lt_of_pos x3 (by omega)⟩
            have hlm : (b.take m).length = m := by simp; omega
            have hget2 := fun A c W hW hc => Get_calls a0 A c (b.take m) W hW hc (by omega) (hbyP.take m)
            simp only [hgc m hmlt] at hget2
            obtain ⟨i0, hi0, _, hsz0, _⟩ := info_parts info5
            have hcutT : ∀ A c, b.length ≤ c → ((∀ W : World, (Instr.slice 34 (.slice A b.length c) none (some (.int .i64 (x3 % (b.length : Int)))) none).run Try.prog W = .ok (.slice A m c) W) ∧ (∀ W, Kd.C (Kd.int .u8) W A b.length b → Kd.C (Kd.int .u8) W A m (b.take m)) ∧ m ≤ c) := fun A c hc => by
              obtain ⟨q1, q2, q3⟩ := print_take_of (P := Try.prog) (Value.int .u8) (0 : Int) 34 5 .i64 Try.underlying34 hi0 hsz0 A c b (x3 % (b.length : Int)) hx3.1 (by omega) hc
              rw [← hm, hlm] at q1 q2 q3
              exact ⟨q1, fun W h => Kd.C_of_reads (enc := Value.int .u8) (d := (0 : Int)) (h1 := fun _ => rfl) (q2 W (Kd.reads_of_C h)), q3⟩
            rw [hlm] at hget2
            have HcutT := Lib.hid hcutT
            have hx30 := hx3.1
            have hx31 := hx3.2
            clear hge hgc hbyP hm hcutT hi0 hsz0 hlm hx3
            go_wp2_with (first
              | (go_at_call 26; go_must (refine (hputc _ (Kd.C_drewN hC3 _)).mono ?_; rintro e w5 ⟨v5, rfl, hR5, hB5⟩; obtain ⟨A5, c5, rfl, hc5, hC5⟩ := Kd.R_reads hR5; have hB35 := bdn hB5; have hBw5 := below_then hb3 hb3.size hB35; have hs5 := hBw5.size; obtain ⟨hct1, hct2, hct3⟩ := HcutT.out A5 c5 hc5; have hO5 := own_nil8 w5))
              | ((with_reducible refine gate_builtin (b := .append) (xs := #[.tmp 55, .tmp 56]) rfl ?_); at_builtin; go_must (refine wp_app_bytes w5.heap.size rfl (.tmp 55) (.tmp 56) 34 5 rfl Try.underlying34 info5 (.slice (some ⟨w5.heap.size, 0, none⟩) 0 0) [] b A5 c5 rfl rfl hO5 (Kd.C_alloc hC5 _) (by simp) (by simp only [List.length_nil]; omega) ?_; intro v6 w6 hR6 hg6; have hA6 := pw_below_grown (nil8_below w5) _ (by simp) hg6 (fun k hk => R_base hO5 k hk); have hs6 := hA6.size; rw [List.nil_append] at hR6))
              | ((with_reducible refine gate_builtin (b := .append) (xs := #[.tmp 57, .tmp 58]) rfl ?_); at_builtin; go_must (refine wp_app_bytes w5.heap.size rfl (.tmp 57) (.tmp 58) 34 5 rfl Try.underlying34 info5 v6 b l2 A2 c2 rfl rfl hR6 (Kd.C_below (Kd.C_below hr2 hBw5) hA6) hs6 (by omega) ?_; intro v7 w7 hR7 hg7; obtain ⟨A7, c7, rfl, hc7, hC7⟩ := Kd.R_reads hR7; rw [List.length_append] at hc7 hC7; have hA7 := pw_below_grown hA6 _ hs6 hg7 (fun k hk => R_base hR6 k hk); have hs7 := hA7.size))
              | ((with_reducible refine (hget1 A7 c7 _ hC7 hc7).mono ?_); rintro e w8 ⟨v8, rfl, hR8, hB8⟩; obtain ⟨A8, c8, rfl, hc8, hC8⟩ := Kd.R_reads hR8; have hA8 := below_then hA7 hs7 hB8; have hs8 := hA8.size)
              | ((with_reducible refine (hget2 A5 c5 _ (hct2 _ (Kd.C_below hC5 hA8)) hct3).mono ?_); rintro e w9 ⟨v9, rfl, hR9, hB9⟩; obtain ⟨A9, c9, rfl, hc9, hC9⟩ := Kd.R_reads hR9; have hA9 := below_then hA8 hs8 hB9; have hs9 := hA9.size; have hC89 := Kd.C_below hC8 hB9; have hC39 := Kd.C_below (Kd.C_below hC3 hB35) hA9)
              | (go_at_call 22; go_must (refine (Same_calls _ _ _ _ _ _ _ (by first | exact hC89 | exact Kd.C_drew hC89) hc8 (by first | exact hC39 | exact Kd.C_drew hC39) hc3 (by omega)).mono ?_; rintro e w10 ⟨rfl, ⟨nd10, rfl⟩⟩; rw [decide_eq_true rfl])))
            go_ret
            exact ⟨rfl, pw_below_drewN (below_then hBw5 hs5 hA9) _⟩
end Go.Proofs.Ytamihmofmjkfoaa.X
end

/-! ## XOpen -/
section
/- From an argument that is read as data to what a walk asks: slices of structs, slices in structs. -/
set_option linter.unusedVariables false
namespace Go.Proofs.Ytamihmofmjkfoaa.X
open Go.RowKit Go.Proofs.YtamihmofmjkfoaaW.PrintWords Go.Proofs.YtamihmofmjkfoaaW.PrintLast Go.Deep Go.Proofs.Ytamihmofmjkfoaa.Q

section
variable {H : Type} {enc : TypeId × Value → H} {P : Program} {w : World} {base : Nat} {spare : Nat → Bool} {held : Bool}
theorem add_of_add (a : Addr) (i j : Nat) : (a.add i).add j = a.add (i + j) := by
  unfold Addr.add
  by_cases hi : i = 0 <;> by_cases hj : j = 0 <;> simp [hi, hj, Nat.add_assoc]
theorem C_of_trod {α : Type} (d : Kd α) (z : α) (G : α → Prop) {t e : TypeId} {fuel : Nat} {v : Value} {x : DataW H × List MemPlace} (ht : P.underlying t = some (.slice e)) (hc : P.cellsOf e = d.sz)
    (he : ∀ (fuel : Nat) (cs : List Value) (x : DataW H × List MemPlace), DataW.trod enc P w base spare held fuel e cs = some x → ∃ y, d.K w y cs ∧ G y)
    (h : DataW.trod enc P w base spare held fuel t [v] = some x) : ∃ A len cap xs, v = .slice A len cap ∧ xs.length = len ∧ len ≤ cap ∧ d.C w A len xs ∧ ∀ y ∈ xs, G y := by
  rcases open_slice ht h with ⟨h1, _⟩ | ⟨a, len, cap, m, n, D, Pl, h1, hb, hl, hm, hmm, _, hx⟩
  · simp only [List.cons.injEq, and_true] at h1
    subst h1
    exact ⟨none, 0, 0, [], rfl, rfl, Nat.le_refl _, ⟨rfl, by omega, fun h => absurd h (by omega)⟩, fun y hy => by cases hy⟩
  · simp only [List.cons.injEq, and_true] at h1
    subst h1
    have hlm : len ≤ m := by rw [hmm]; split <;> omega
    have hel : ∀ i, i < len → ∃ y, ∃ cs, d.K w y cs ∧ G y ∧ w.cells? base (a.add (i * P.cellsOf e)) (P.cellsOf e) = some cs := fun i hi => by
      obtain ⟨cs, h2, h3⟩ := hx i (by omega)
      obtain ⟨y, hy, hg⟩ := he _ _ _ h3
      exact ⟨y, cs, hy, hg, h2⟩
    obtain ⟨Y, hY⟩ : ∃ Y : Nat → α, ∀ i, i < len → ∃ cs, d.K w (Y i) cs ∧ G (Y i) ∧ w.cells? base (a.add (i * P.cellsOf e)) (P.cellsOf e) = some cs :=
      ⟨fun i => if hi : i < len then Classical.choose (hel i hi) else z, fun i hi => by simp only [dif_pos hi]; exact Classical.choose_spec (hel i hi)⟩
    refine ⟨some a, len, cap, (List.range len).map Y, rfl, by simp, hl, ⟨by simp, by simp only [maxLen] at hm; omega, fun _ => ⟨a, rfl, fun j p hj => ?_⟩⟩, fun y hy => ?_⟩
    · obtain ⟨hj1, hj2⟩ := List.getElem?_eq_some_iff.1 hj
      simp only [List.length_map, List.length_range] at hj1
      simp only [List.getElem_map, List.getElem_range] at hj2
      subst hj2
      obtain ⟨cs, hK, _, hcs⟩ := hY j hj1
      refine ⟨cs, d.K_len hK, hK, fun i u hu => ?_⟩
      rw [hc] at hcs
      obtain ⟨_, h2, h3⟩ := World.cells?_some hcs
      have hi := (List.getElem?_eq_some_iff.1 hu).1
      rw [← add_of_add, h3 i (by omega), hu]
    · rw [List.mem_map] at hy
      obtain ⟨i, hi, rfl⟩ := hy
      obtain ⟨cs, _, hg, _⟩ := hY i (List.mem_range.1 hi)
      exact hg
/-- A slice as a struct's field. -/
theorem Ks_of_trod {α : Type} (d : Kd α) (z : α) (G : α → Prop) {t e : TypeId} {fuel : Nat} {cs : List Value} {x : DataW H × List MemPlace} (ht : P.underlying t = some (.slice e)) (hc : P.cellsOf e = d.sz)
    (he : ∀ (fuel : Nat) (cs : List Value) (x : DataW H × List MemPlace), DataW.trod enc P w base spare held fuel e cs = some x → ∃ y, d.K w y cs ∧ G y)
    (h : DataW.trod enc P w base spare held fuel t cs = some x) : ∃ xs, (Kd.slice e d).K w xs cs ∧ ∀ y ∈ xs, G y := by
  have h1 : ∃ v, cs = [v] := by
    rcases open_slice ht h with ⟨h1, _⟩ | ⟨a, len, cap, m, n, D, Pl, h1, _⟩
    · exact ⟨_, h1⟩
    · exact ⟨_, h1⟩
  obtain ⟨v, rfl⟩ := h1
  obtain ⟨A, len, cap, xs, rfl, rfl, h2, h3, h4⟩ := C_of_trod d z G ht hc he h
  exact ⟨xs, ⟨A, cap, rfl, h2, h3⟩, h4⟩
/-- A struct's cells, field by field. -/
theorem cut_of {cs a b : List Value} {o n : Nat} (h : cs = a ++ b) (ho : a.length = o) : (cs.drop o).take n = b.take n := by
  rw [h, ← ho, List.drop_left]
end
end Go.Proofs.Ytamihmofmjkfoaa.X
end

/-! ## XOps -/
section
/- Ops that come in, opened: each field's cells and range. -/
set_option linter.unusedVariables false
namespace Go.Proofs.Ytamihmofmjkfoaa.X
open Go.RowKit Go.Proofs.YtamihmofmjkfoaaW.PrintWords Go.Proofs.YtamihmofmjkfoaaW.PrintLast Go.Deep Go.Joins Go.Proofs.Ytamihmofmjkfoaa.Q Go.ChangeShapes

theorem cells9 : Try.prog.cellsOf 9 = 1 := by kernel_rfl
theorem cells2 : Try.prog.cellsOf 2 = 1 := by kernel_rfl
theorem cells3 : Try.prog.cellsOf 3 = 1 := by kernel_rfl
theorem cells4 : Try.prog.cellsOf 4 = 1 := by kernel_rfl
theorem cells39 : Try.prog.cellsOf 39 = 1 := by kernel_rfl
theorem cells38 : Try.prog.cellsOf 38 = 2 := by kernel_rfl
theorem cells41 : Try.prog.cellsOf 41 = 4 := by kernel_rfl
theorem cells42 : Try.prog.cellsOf 42 = 1 := by kernel_rfl
theorem cells44 : Try.prog.cellsOf 44 = 13 := by kernel_rfl
def I64 (n : Int) : Prop := -9223372036854775808 ≤ n ∧ n < 9223372036854775808
def U64 (n : Int) : Prop := 0 ≤ n ∧ n < 18446744073709551616
theorem i64_wf {n : Int} (h : (Lit.int .i64 n).wf = true) : I64 n := by
  have := bounds_i64 h
  unfold I64
  omega
theorem u64_wf {n : Int} (h : (Lit.int .u64 n).wf = true) : U64 n := by
  simp [Lit.wf, IntKind.min, IntKind.max, IntKind.signed, IntKind.bits] at h
  unfold U64
  omega
theorem list2 {α : Type} : ∀ {l : List α}, l.length = 2 → ∃ c0 c1, l = [c0, c1]
  | [c0, c1], _ => ⟨c0, c1, rfl⟩
theorem list4 {α : Type} : ∀ {l : List α}, l.length = 4 → ∃ c0 c1 c2 c3, l = [c0, c1, c2, c3]
  | [c0, c1, c2, c3], _ => ⟨c0, c1, c2, c3, rfl⟩
theorem list13 {α : Type} : ∀ {l : List α}, l.length = 13 → ∃ c0 c1 c2 c3 c4 c5 c6 c7 c8 c9 c10 c11 c12, l = [c0, c1, c2, c3, c4, c5, c6, c7, c8, c9, c10, c11, c12]
  | [c0, c1, c2, c3, c4, c5, c6, c7, c8, c9, c10, c11, c12], _ => ⟨c0, c1, c2, c3, c4, c5, c6, c7, c8, c9, c10, c11, c12, rfl⟩

section
variable {H : Type} {enc : TypeId × Value → H} {w : World} {base : Nat} {spare : Nat → Bool} {held : Bool}
theorem opId_of_trod (fuel : Nat) (cs : List Value) (x : DataW H × List MemPlace) (h : DataW.trod enc Try.prog w base spare held fuel 38 cs = some x) : ∃ y : S38, k38.K w y cs ∧ I64 y.f0 := by
  obtain ⟨y0, y1, n, _, hl, h0, h1⟩ := trod_struct2 Try.underlying38 h
  rw [cells38] at hl
  obtain ⟨c0, c1, rfl⟩ := list2 hl
  obtain ⟨a, e0, _, wa⟩ := DataW.trod_int Try.underlying2 h0
  obtain ⟨s, e1, _, _⟩ := DataW.trod_string Try.underlying9 h1
  simp only [cells2, cells9, List.drop_zero, List.take_succ_cons, List.take_zero, List.drop_succ_cons, List.cons.injEq, and_true] at e0 e1
  subst e0 e1
  exact ⟨⟨a, s⟩, k38_mk w ⟨a, s⟩, i64_wf wa⟩
theorem val_of_trod (fuel : Nat) (cs : List Value) (x : DataW H × List MemPlace) (h : DataW.trod enc Try.prog w base spare held fuel 41 cs = some x) : ∃ y : S41, cs = [.int .i64 y.f0, .int .u64 y.f1, .int .i64 y.f2, .string y.f3] ∧ I64 y.f0 ∧ U64 y.f1 ∧ I64 y.f2 := by
  obtain ⟨y0, y1, y2, y3, n, _, hl, h0, h1, h2, h3⟩ := trod_struct4 Try.underlying41 h
  rw [cells41] at hl
  obtain ⟨c0, c1, c2, c3, rfl⟩ := list4 hl
  obtain ⟨a, e0, _, wa⟩ := DataW.trod_int Try.underlying3 h0
  obtain ⟨b, e1, _, wb⟩ := DataW.trod_int Try.underlying39 h1
  obtain ⟨c, e2, _, wc⟩ := DataW.trod_int Try.underlying2 h2
  obtain ⟨s, e3, _, _⟩ := DataW.trod_string Try.underlying9 h3
  simp only [cells2, cells3, cells39, cells9, List.drop_zero, List.take_succ_cons, List.take_zero, List.drop_succ_cons, List.cons.injEq, and_true] at e0 e1 e2 e3
  subst e0 e1 e2 e3
  exact ⟨⟨a, b, c, s⟩, rfl, i64_wf wa, u64_wf wb, i64_wf wc⟩
/-- What is known of an op that came in. -/
def OpG (o : S44) : Prop := I64 o.f0.f0 ∧ I64 o.f3.f0 ∧ I64 o.f5 ∧ (I64 o.f6.f0 ∧ U64 o.f6.f1 ∧ I64 o.f6.f2) ∧ ∀ p ∈ o.f7, I64 p.f0
set_option maxRecDepth 10000 in
theorem op_of_trod (fuel : Nat) (cs : List Value) (x : DataW H × List MemPlace) (h : DataW.trod enc Try.prog w base spare held fuel 44 cs = some x) : ∃ y : S44, k44.K w y cs ∧ OpG y := by
  obtain ⟨xs, n, _, _, hl, hlen, hf⟩ := DataW.trod_struct Try.underlying44 h
  rw [cells44] at hl
  obtain ⟨c0, c1, c2, c3, c4, c5, c6, c7, c8, c9, c10, c11, c12, rfl⟩ := list13 hl
  have hx : ∀ i, i < 8 → ∃ y, xs[i]? = some y := fun i hi => ⟨xs[i]'(by rw [hlen]; exact hi), List.getElem?_eq_getElem _⟩
  obtain ⟨y0, q0⟩ := hx 0 (by omega)
  obtain ⟨y1, q1⟩ := hx 1 (by omega)
  obtain ⟨y2, q2⟩ := hx 2 (by omega)
  obtain ⟨y3, q3⟩ := hx 3 (by omega)
  obtain ⟨y4, q4⟩ := hx 4 (by omega)
  obtain ⟨y5, q5⟩ := hx 5 (by omega)
  obtain ⟨y6, q6⟩ := hx 6 (by omega)
  obtain ⟨y7, q7⟩ := hx 7 (by omega)
  have h0 : DataW.trod enc Try.prog w base spare held n 38 ((List.drop 0 [c0, c1, c2, c3, c4, c5, c6, c7, c8, c9, c10, c11, c12]).take (Try.prog.cellsOf 38)) = some y0 := (hf 0 _ rfl).trans q0
  have h1 : DataW.trod enc Try.prog w base spare held n 9 ((List.drop 2 [c0, c1, c2, c3, c4, c5, c6, c7, c8, c9, c10, c11, c12]).take (Try.prog.cellsOf 9)) = some y1 := (hf 1 _ rfl).trans q1
  have h2 : DataW.trod enc Try.prog w base spare held n 4 ((List.drop 3 [c0, c1, c2, c3, c4, c5, c6, c7, c8, c9, c10, c11, c12]).take (Try.prog.cellsOf 4)) = some y2 := (hf 2 _ rfl).trans q2
  have h3 : DataW.trod enc Try.prog w base spare held n 38 ((List.drop 4 [c0, c1, c2, c3, c4, c5, c6, c7, c8, c9, c10, c11, c12]).take (Try.prog.cellsOf 38)) = some y3 := (hf 3 _ rfl).trans q3
  have h4 : DataW.trod enc Try.prog w base spare held n 4 ((List.drop 6 [c0, c1, c2, c3, c4, c5, c6, c7, c8, c9, c10, c11, c12]).take (Try.prog.cellsOf 4)) = some y4 := (hf 4 _ rfl).trans q4
  have h5 : DataW.trod enc Try.prog w base spare held n 2 ((List.drop 7 [c0, c1, c2, c3, c4, c5, c6, c7, c8, c9, c10, c11, c12]).take (Try.prog.cellsOf 2)) = some y5 := (hf 5 _ rfl).trans q5
  have h6 : DataW.trod enc Try.prog w base spare held n 41 ((List.drop 8 [c0, c1, c2, c3, c4, c5, c6, c7, c8, c9, c10, c11, c12]).take (Try.prog.cellsOf 41)) = some y6 := (hf 6 _ rfl).trans q6
  have h7 : DataW.trod enc Try.prog w base spare held n 42 ((List.drop 12 [c0, c1, c2, c3, c4, c5, c6, c7, c8, c9, c10, c11, c12]).take (Try.prog.cellsOf 42)) = some y7 := (hf 7 _ rfl).trans q7
  clear hf hx q0 q1 q2 q3 q4 q5 q6 q7
  simp only [cells2, cells4, cells38, cells41, cells42, cells9, List.drop_zero, List.take_succ_cons, List.take_zero, List.drop_succ_cons] at h0 h1 h2 h3 h4 h5 h6 h7
  obtain ⟨p0, k0, g0⟩ := opId_of_trod _ _ _ h0
  obtain ⟨s1, e1, _, _⟩ := DataW.trod_string Try.underlying9 h1
  obtain ⟨b2, e2, _⟩ := DataW.trod_bool Try.underlying4 h2
  obtain ⟨p3, k3, g3⟩ := opId_of_trod _ _ _ h3
  obtain ⟨b4, e4, _⟩ := DataW.trod_bool Try.underlying4 h4
  obtain ⟨a5, e5, _, w5⟩ := DataW.trod_int Try.underlying2 h5
  obtain ⟨v6, e6, g6⟩ := val_of_trod _ _ _ h6
  obtain ⟨ps, k7, g7⟩ := Ks_of_trod k38 z38 (fun y => I64 y.f0) Try.underlying42 cells38 opId_of_trod h7
  have e0 := k38_open k0
  have e3 := k38_open k3
  obtain ⟨A, c, e7, l7, g7'⟩ := k7
  simp only [List.cons.injEq, and_true] at e0 e1 e2 e3 e4 e5 e6 e7
  obtain ⟨rfl, rfl⟩ := e0
  obtain ⟨rfl, rfl⟩ := e3
  obtain ⟨rfl, rfl, rfl, rfl⟩ := e6
  subst e1 e2 e4 e5 e7
  exact ⟨⟨p0, s1, b2, p3, b4, a5, v6, ps⟩, k44_mk w ⟨p0, s1, b2, p3, b4, a5, v6, ps⟩ l7 g7', g0, g3, i64_wf w5, g6, g7⟩
/-- A slice of ops that came in. -/
theorem ops_of_trod {fuel : Nat} {v : Value} {x : DataW H × List MemPlace} (h : DataW.trod enc Try.prog w base spare held fuel 22 [v] = some x) : ∃ A len cap xs, v = .slice A len cap ∧ xs.length = len ∧ len ≤ cap ∧ k44.C w A len xs ∧ ∀ y ∈ xs, OpG y :=
  C_of_trod k44 z44 OpG Try.underlying22 cells44 op_of_trod h
theorem ops_arg {a : Option Addr} {n c : Nat} {d : DataW H} {p : List MemPlace} (h : DataW.Trod enc Try.prog w base spare held 22 (.slice a n c) d p) : ∃ A len cap xs, Value.slice a n c = .slice A len cap ∧ xs.length = len ∧ len ≤ cap ∧ k44.C w A len xs ∧ ∀ y ∈ xs, OpG y := by
  obtain ⟨fuel, hf⟩ := h
  exact ops_of_trod (v := .slice a n c) (by simpa [Value.cells] using hf)
/-- A slice of bytes that came in. -/
theorem bytes_arg {a : Option Addr} {n c : Nat} {d : DataW H} {p : List MemPlace} (h : DataW.Trod enc Try.prog w base spare held 34 (.slice a n c) d p) : ∃ A len cap xs, Value.slice a n c = .slice A len cap ∧ xs.length = len ∧ len ≤ cap ∧ (Kd.int .u8).C w A len xs ∧ ∀ y ∈ xs, 0 ≤ y ∧ y < 256 := by
  obtain ⟨fuel, hf⟩ := h
  refine C_of_trod (v := .slice a n c) (Kd.int .u8) (0 : Int) (fun y => 0 ≤ y ∧ y < 256) Try.underlying34 (by kernel_rfl) (fun fuel cs x h => ?_) (by simpa [Value.cells] using hf)
  obtain ⟨y, rfl, _, wy⟩ := DataW.trod_int Try.underlying5 h
  have := bounds_u8 wy
  exact ⟨y, rfl, this.1, by omega⟩
end
end Go.Proofs.Ytamihmofmjkfoaa.X
end

/-! ## LawActorsBack -/
section
/- The row of the law ActorsBack: for every input it answers true, and its arguments read behind it as they read before. No condition. -/
set_option linter.unusedVariables false
namespace Go.Proofs.Ytamihmofmjkfoaa.actorsBack
open Go.ChangeShapes Go.WideShapes Go.ChangeAt Go.RowKit
open Go.ChangeMaps (open_string shut_string)
open Go.Proofs.Ytamihmofmjkfoaa.X Go.Proofs.YtamihmofmjkfoaaW.PrintWords
theorem own : ownKnob Try.prog.godebug = none := by kernel_rfl
theorem laidOut : laidOutB Try.prog = true := by kernel_rfl
set_option maxRecDepth 100000 in
theorem lifted (os : Os) (started : os.Started) (H : Type) (enc : TypeId × Value → H) :
    ReturnsInHanded {} Try.checked os 9 .any (Rows.actorsBackSpec.pre6 enc Try.prog Try.f9 Rows.actorsBackRow.domain false) (Rows.actorsBackSpec.post enc Try.prog Try.f9 false true false false) := by
  refine returnsInHanded_of_change_sized (C := Try.checked) own started (by kernel_rfl) Try.func9
    (ChangeSpec.witness6 (enc := enc) (C := Try.checked) false ⟨#[], #[.string ByteArray.empty, .slice none 0 0, .slice none 0 0, .int .u8 0], []⟩ 8 (by kernel_rfl) (by kernel_rfl) (by kernel_rfl) (by kernel_rfl)) ?_
  intro W base args ds gs before hval0 hW hcnd hsz0 _
  have hsz : (DataW.weightsEach Try.prog (Try.f9.params.toList ++ Rows.actorsBackSpec.plain.varTypes Try.prog) (ds ++ gs)).all (· ≤ reachBytes) = true := hsz0
  have hval : ∀ (j : Nat) t v, Try.f9.params[j]? = some t → args[j]? = some v → Value.okWide Try.prog W .any base t v := hval0
  have hW' := hW
  obtain ⟨p, q, hA0, hV, rfl, hfz, hnd⟩ := hW
  have hA : DataW.TrodAll enc Try.prog W 0 (fun _ => true) true Try.f9.params.toList args.toList ds p := hA0
  rw [Try.params9] at hA hval hsz
  obtain ⟨v0, vs0, d0, ds0, p0, q0, hargs, rfl, rfl, h0, r0⟩ := trodAll_cons hA
  obtain ⟨v1, vs1, d1, ds1, p1, q1, rfl, rfl, rfl, h1, r1⟩ := trodAll_cons r0
  obtain ⟨v2, vs2, d2, ds2, p2, q2, rfl, rfl, rfl, h2, r2⟩ := trodAll_cons r1
  obtain ⟨v3, vs3, d3, ds3, p3, q3, rfl, rfl, rfl, h3, r3⟩ := trodAll_cons r2
  obtain ⟨rfl, rfl, rfl⟩ := trodAll_nil r3
  obtain rfl : args = #[v0, v1, v2, v3] := by cases args; simp_all
  obtain ⟨rfl, rfl⟩ := trodVars_none hV
  obtain ⟨a0, rfl, rfl, rfl, y0⟩ := open_string Try.underlying9 (hval 0 9 v0 rfl rfl) h0
  obtain ⟨a1, len1, cap1, rfl⟩ := okWide_slice Try.underlying22 (hval 1 22 v1 rfl rfl)
  have k1 := h1
  have lt1 : ∀ x ∈ p1, x.block < W.heap.size := by obtain ⟨m, hm⟩ := k1; exact DataW.trod_lt m _ _ _ hm
  obtain ⟨A1, n1, c1, l1, e1, hl1, hc1, hC1, hG1⟩ := ops_arg h1
  simp only [Value.slice.injEq] at e1
  obtain ⟨rfl, rfl, rfl⟩ := e1
  subst hl1
  obtain ⟨a2, len2, cap2, rfl⟩ := okWide_slice Try.underlying34 (hval 2 34 v2 rfl rfl)
  have k2 := h2
  have lt2 : ∀ x ∈ p2, x.block < W.heap.size := by obtain ⟨m, hm⟩ := k2; exact DataW.trod_lt m _ _ _ hm
  obtain ⟨A2, n2, c2, l2, e2, hl2, hc2, hC2, hG2⟩ := bytes_arg h2
  simp only [Value.slice.injEq] at e2
  obtain ⟨rfl, rfl, rfl⟩ := e2
  subst hl2
  obtain ⟨a3, rfl, rfl, rfl, w3⟩ := open_int Try.underlying5 (hval 3 5 v3 rfl rfl) h3
  clear hA0 hval0 hsz0 hsz
  refine (back_calls a0 a1 cap1 l1 a2 cap2 l2 a3 W hC1 hc1 hC2 hc2 hG2 (bounds_u8 w3).1 (bounds_u8 w3).2).mono fun e W' ⟨he, bel⟩ => ?_
  subst he
  exact ⟨_, rfl, _, _, _, [], _, [], hW', trodAll_mk1 (shut_bool Try.underlying4 _), (trodAll_cons_mk (shut_string Try.underlying9 y0) (trodAll_cons_mk (Below.trod laidOut (by kernel_rfl) (of_decide_eq_true (by kernel_rfl)) k1 bel lt1) (trodAll_cons_mk (Below.trod laidOut (by kernel_rfl) (of_decide_eq_true (by kernel_rfl)) k2 bel lt2) (trodAll_cons_mk (shut_int Try.underlying5 w3) trodAll_mk0)))), rfl, bel.frame _, fun h => by cases h⟩
theorem over : Rows.actorsBackRow.holds Try.pinned (OpenSpec.ofChange Rows.actorsBackSpec) :=
  OpenClaim.holds_of_wide 9 Try.f9 rfl rfl rfl rfl rfl rfl rfl ⟨rfl, rfl, rfl, rfl, rfl⟩ rfl rfl rfl rfl rfl (by kernel_rfl) Try.func9 (by kernel_rfl)
    (of_decide_eq_true (by kernel_rfl)) (by unfold Func.isWrapper; first | (rw [if_pos (by decide +kernel)]; kernel_rfl) | (rw [if_neg (by decide +kernel)]; exact ⟨rfl, rfl⟩))
    (fun os started H enc _ => lifted os started H enc)
theorem proved : Rows.ActorsBackSaid := over
#print axioms proved
end Go.Proofs.Ytamihmofmjkfoaa.actorsBack
namespace Go.Proofs.Ytamihmofmjkfoaa
/-- The row, under a short name, for the claim. -/
theorem actorsBack_holds : Rows.ActorsBackSaid := actorsBack.proved
end Go.Proofs.Ytamihmofmjkfoaa
end
