/- The bytes of a table: what the program's actors.Put answers. Conditions: fewer than some millions of actors, each of some millions of bytes. -/
import Derived.Test.YtamihmofmjkfoaaXLeb
import Derived.Test.YtamihmofmjkfoaaXApp
import Derived.Test.YtamihmofmjkfoaaXNames
import Derived.Deep.DeepMust
set_option linter.unusedVariables false
set_option linter.unusedSimpArgs false
namespace Go.Proofs.Ytamihmofmjkfoaa.X
open Go.RowKit Go.Proofs.YtamihmofmjkfoaaW.PrintWords Go.Proofs.YtamihmofmjkfoaaW.PrintLast Go.Proofs.YtamihmofmjkfoaaW.PrintMore Go.Proofs.Ytamihmofmjkfoaa.Q
attribute [local go_sem] max2_int min2_int max_two min_two max_three min_three max_four min_four

def putA (l : List ByteArray) : List Int := l.flatMap fun a => ub a.size ++ bytesOf a
def putT (t : List ByteArray) : List Int := ub (t.drop 1).length ++ putA (t.drop 1)
theorem ubF_len : ∀ (f n : Nat), (ubF f n).length ≤ f + 1
  | 0, _ => by simp [ubF]
  | f + 1, n => by
    unfold ubF
    split
    · simp
    · have := ubF_len f (n / 128)
      simp; omega
theorem ub_len (n : Nat) : (ub n).length ≤ 10 := ubF_len 9 n
theorem putA_len : ∀ l : List ByteArray, (∀ a ∈ l, a.size ≤ 1000000) → (putA l).length ≤ 1000010 * l.length
  | [], _ => by simp [putA]
  | a :: t, h => by
    have h1 := putA_len t (fun x hx => h x (List.mem_cons_of_mem _ hx))
    have h2 := h a List.mem_cons_self
    have h3 := ub_len a.size
    simp only [putA, List.flatMap_cons, List.length_append, List.length_cons, bytesOf_length] at h1 ⊢
    omega
structure PutR (w : World) (ys : List ByteArray) (v4 : Value) (i : Nat) (wr : World) : Prop where
  hi : i ≤ ys.length
  hB : Below w.heap.size w wr
  hR : Kd.R (Kd.int .u8) 5 wr w.heap.size (fun _ => True) v4 (ub ys.length ++ putA (ys.take i))
set_option maxHeartbeats 1000000 in
set_option maxRecDepth 100000 in
theorem Put_calls (A0 : Option Addr) (c0 : Nat) (l0 : List ByteArray) (w : World) (hr0 : Kd.C Kd.string w A0 l0.length l0) (hc0 : l0.length ≤ c0) (hl : l0.length ≤ 10000000) (hz : ∀ a ∈ l0, a.size ≤ 1000000) :
    Calls Try.prog 26 #[.slice A0 l0.length c0] w fun e w' => ∃ v0_ : Value, e = .returned v0_ ∧ Kd.R (Kd.int .u8) 5 w' w.heap.size (fun _ => True) v0_ (putT l0) ∧ Below w.heap.size w w' := by
  obtain ⟨i0, hi0, _, hsz0, _⟩ := info_parts info9
  obtain ⟨j, hj, A1, c1, hcut, hA1, hc1⟩ : ∃ (j : Int), (j = 0 ∧ l0.length = 0 ∨ j = 1 ∧ 1 ≤ l0.length) ∧ ∃ (A' : Option Addr) (c1 : Nat), (∀ W : World, (Instr.slice 26 (.slice A0 l0.length c0) (some (.int .i64 j)) none none).run Try.prog W = .ok (.slice A' (l0.drop 1).length c1) W) ∧ ((Kd.string).C w A' (l0.drop 1).length (l0.drop 1)) ∧ (l0.drop 1).length ≤ c1 := by
    obtain ⟨A', h1, h2, h3⟩ := print_drop_of (P := Try.prog) Value.string (⟨#[]⟩ : ByteArray) 26 9 .i64 Try.underlying26 hi0 hsz0 A0 c0 l0 (min 1 l0.length : Nat) (by omega) (by omega) hc0
    have e : l0.drop (min 1 l0.length) = l0.drop 1 := by cases l0 <;> simp
    rw [Int.toNat_natCast, e] at h1 h2 h3
    exact ⟨((min 1 l0.length : Nat) : Int), by omega, A', _, h1, Kd.C_of_reads (h1 := fun _ => rfl) (h2 w (Kd.reads_of_C hr0)), h3⟩
  have hz' : ∀ a ∈ l0.drop 1, a.size ≤ 1000000 := fun a ha => hz a (List.mem_of_mem_drop ha)
  have hn : (l0.drop 1).length ≤ 10000000 := by simp; omega
  have hfin : putT l0 = ub (l0.drop 1).length ++ putA (l0.drop 1) := rfl
  have Hfin := Lib.hid hfin
  have Hz := Lib.hid hz'
  clear hfin hz hz' hr0 hi0 hsz0
  generalize l0.drop 1 = ys at *
  rcases hj with ⟨rfl, h1⟩ | ⟨rfl, h1⟩
  all_goals
    try rw [h1] at hcut ⊢
    go_enter Try.func26, Try.ntmps26
    go_wp2_with (go_at_call 59; go_must (refine (U_calls ys.length (by omega) _).mono ?_); rintro e w' ⟨v4, rfl, hR4, hB4⟩)
    go_loopw [4, 18] (fun v4 v18 wr => ∃ i : Nat, v18 = .int .i64 i ∧ PutR w ys v4 i wr) (fun _ v18 _ => ys.length - (intOf v18).toNat)
    case atStart => exact ⟨0, rfl, ⟨Nat.zero_le _, hB4, by simpa [putA] using hR4⟩⟩
    case round =>
      obtain ⟨i, rfl, hrel⟩ := hrel
      clear hcut
      have hi := hrel.hi
      have hs := hrel.hB.size
      by_cases hlt : i < ys.length
      · obtain ⟨ad, rfl, hcell⟩ := (Kd.reads_of_C (d := (⟨#[]⟩ : ByteArray)) hA1).2.2 (by omega)
        have hc := pw_cell_below hrel.hB (hcell i hlt)
        rw [getD_get _ _ _ hlt] at hc
        have hsz := Hz.out _ (List.getElem_mem hlt)
        have hlen := putA_len (ys.take i) (fun a ha => Hz.out a (List.mem_of_mem_take ha))
        have hlt2 : (ys.take i).length = i := by simp; omega
        have hub := ub_len ys.length
        have hstep : putA (ys.take (i + 1)) = putA (ys.take i) ++ (ub ys[i].size ++ bytesOf ys[i]) := by rw [List.take_succ_eq_append_getElem hlt]; simp only [putA, List.flatMap_append, List.flatMap_cons, List.flatMap_nil, List.append_nil]
        have Hstep := Lib.hid hstep
        have hub2 := ub_len ys[i].size
        clear hcell hstep
        generalize ys[i] = y at *
        go_wp2_with (first | (go_at_call 59; go_must (refine (U_calls y.size (by omega) _).mono ?_); rintro e w5 ⟨v5, rfl, hR5, hB5⟩; obtain ⟨A5, c5, rfl, hc5, hC5⟩ := Kd.R_reads hR5; have h45 := R_gbT hrel.hR (bl_is_gb hB5) (by simp); have hs5 := hB5.size) | ((with_reducible refine gate_builtin (b := .append) (xs := #[.tmp 22, .tmp 26]) rfl ?_); at_builtin; go_must (refine wp_app_bytes w.heap.size rfl (.tmp 22) (.tmp 26) 34 5 rfl Try.underlying34 info5 u4 _ _ A5 c5 rfl rfl h45 hC5 (by omega) (by simp; omega) ?_; intro v6 w6 hR6 hg6; have hs6 := hg6.size)) | ((with_reducible refine gate_builtin (b := .append) (xs := #[.tmp 27, .tmp 28]) rfl ?_); at_builtin; go_must (refine wp_app_str w.heap.size rfl (.tmp 27) (.tmp 28) 34 9 5 rfl Try.underlying34 Try.underlying9 info5 v6 _ y rfl rfl hR6 (by omega) (by simp; omega) ?_; intro v7 w7 hR7 hg7)))
        go_roundw
        case rel => exact ⟨i + 1, by go_num, ⟨by omega, pw_below_grown (pw_below_grown (below_then hrel.hB hs hB5) _ (by omega) hg6 (fun k hk => R_base hrel.hR k hk)) _ (by omega) hg7 (fun k hk => R_base hR6 k hk), by rw [Hstep.out]; simpa only [List.append_assoc] using hR7⟩⟩
        case measure => simp [intOf]; omega
      · obtain rfl : i = ys.length := by omega
        have hR := hrel.hR
        rw [List.take_length] at hR
        go_wp2
        go_ret
        exact ⟨_, rfl, by rw [Hfin.out]; exact hR, hrel.hB⟩
end Go.Proofs.Ytamihmofmjkfoaa.X
