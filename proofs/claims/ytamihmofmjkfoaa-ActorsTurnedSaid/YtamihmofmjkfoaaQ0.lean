-- By myprint.py, out of the translation, by way of the kit's print.
import Derived.Test.YtamihmofmjkfoaaProg
import Derived.Below
import Derived.Deep.Draws
import Derived.Deep.AppendLies
import Derived.Maps.AppendAt
import Derived.OwnWalk
import Derived.Laws.BytesArg
import Derived.Laws.MakeOwn
import Derived.Laws.OwnMore
import Derived.Deep.OwnRows
import Derived.Tactics
import Derived.Lib.ConvBytes
import Derived.Laws.Slices
import Derived.WalkKit
import Derived.KernelRfl
import Derived.RowKit3
import Derived.Deep.LoopGhost
import Derived.Deep.QuietTactic
import Derived.BigQuiet
import Derived.WideLaws
import Derived.Deep.DeepCutAuto
import Derived.Deep.CutBlock
import Derived.Deep.RegionHeld3
import Derived.Laws.Rows
import Derived.Lib.AppendStr
import Derived.ArgAppend
import Derived.Laws.IdiomCopy
import Derived.OrdersHeld
import Derived.Laws.BitsLemmas
import Derived.RowKit
import Derived.Test.YtamihmofmjkfoaaWWords
import Derived.Test.YtamihmofmjkfoaaWLast
import Derived.Test.YtamihmofmjkfoaaWTab
import Derived.Test.YtamihmofmjkfoaaWFour
import Derived.Test.YtamihmofmjkfoaaWQPut
import Derived.Test.YtamihmofmjkfoaaWApart
import Derived.Test.YtamihmofmjkfoaaWArr
import Derived.Test.YtamihmofmjkfoaaWZeros
import Derived.Test.YtamihmofmjkfoaaWFoot
import Derived.Test.YtamihmofmjkfoaaWKept
import Derived.Test.YtamihmofmjkfoaaWShare
import Derived.Test.YtamihmofmjkfoaaWN
import Derived.Test.YtamihmofmjkfoaaWFootNe
import Derived.Test.YtamihmofmjkfoaaWAt
import Derived.Test.YtamihmofmjkfoaaWEqStruct
import Derived.Test.YtamihmofmjkfoaaWRepsOne
import Derived.Test.YtamihmofmjkfoaaWInv
import Derived.Test.YtamihmofmjkfoaaWInvWords
import Derived.Test.YtamihmofmjkfoaaWGuard
import Derived.Test.YtamihmofmjkfoaaWNEv
import Derived.Test.YtamihmofmjkfoaaWMore
namespace Go.Proofs.Ytamihmofmjkfoaa.Q
open Go.RowKit Go.Proofs.YtamihmofmjkfoaaW.PrintWords Go.Proofs.YtamihmofmjkfoaaW.PrintLast Go.Proofs.YtamihmofmjkfoaaW.PrintMore
attribute [local go_sem] max2_int min2_int max_two min_two max_three min_three max_four min_four   -- for this text's walks alone
set_option linter.unusedVariables false
set_option linter.unusedSimpArgs false



def errW : Option Int → Value
  | none => .nilIface
  | some c => .iface 0 (.int .i64 c)
theorem errW_none : errW none = .nilIface := rfl
theorem errW_some (c : Int) : errW (some c) = .iface 0 (.int .i64 c) := rfl

theorem info5 : (Try.prog.info? 5).map (fun i => (i.zero, i.size, i.bytes)) = some (some (.int .u8 0), 1, 1) := by kernel_rfl
theorem info9 : (Try.prog.info? 9).map (fun i => (i.zero, i.size, i.bytes)) = some (some (.string ⟨#[]⟩), 1, 16) := by kernel_rfl
theorem info38 : (Try.prog.info? 38).map (fun i => (i.zero, i.size, i.bytes)) = some (some (.agg #[(.int .i64 0), (.string ⟨#[]⟩)]), 2, 24) := by kernel_rfl
theorem info39 : (Try.prog.info? 39).map (fun i => (i.zero, i.size, i.bytes)) = some (some (.int .u64 0), 1, 8) := by kernel_rfl
theorem info97 : (Try.prog.info? 97).map (fun i => (i.zero, i.size, i.bytes)) = some (some (.agg #[(.bool false), (.int .i64 0)]), 2, 16) := by kernel_rfl
theorem info164 : (Try.prog.info? 164).map (fun i => (i.zero, i.size, i.bytes)) = some (some (.agg #[(.bool false), (.string ⟨#[]⟩)]), 2, 24) := by kernel_rfl
-- the values' own types
/-! #### struct type 38 -/
structure S38 where
  f0 : Int
  f1 : ByteArray
def z38 : S38 := ⟨(0 : Int), (⟨#[]⟩ : ByteArray)⟩
def k38 : Kd S38 := Kd.iso (Kd.pair (Kd.int .i64) Kd.string) (fun x : S38 => (x.f0, x.f1))
theorem k38_open {w : World} {x : S38} {cs : List Value} (h : k38.K w x cs) : cs = [.int .i64 x.f0, .string x.f1] := by
  obtain ⟨_, _, rfl, rfl, rfl⟩ := h
  exact rfl
theorem k38_openM {w : World} {base : Nat} {ok : Nat → Prop} {x : S38} {cs : List Value} (h : k38.M w base ok x cs) : cs = [.int .i64 x.f0, .string x.f1] := by
  obtain ⟨_, _, rfl, rfl, rfl⟩ := h
  exact rfl
theorem k38_mk (w : World) (x : S38)  : k38.K w x [.int .i64 x.f0, .string x.f1] := ⟨[.int .i64 x.f0], [.string x.f1], rfl, rfl, rfl⟩
theorem k38_mkM (w : World) (base : Nat) (ok : Nat → Prop) (x : S38)  : k38.M w base ok x [.int .i64 x.f0, .string x.f1] := ⟨[.int .i64 x.f0], [.string x.f1], rfl, rfl, rfl⟩
def rd_T38 (xs : List S38) (i : Int) : S38 := xs.getD i.toNat z38
theorem at_T38 {w : World} {A : Option Addr} {n : Nat} {xs : List S38} (h : Kd.C k38 w A n xs) (i : Int) (h0 : 0 ≤ i) (h1 : i < n) : ∃ ad , A = some ad ∧ w.cell? (ad.add (i.toNat * 2)) = some (.int .i64 (rd_T38 xs i).f0) ∧ w.cell? ⟨(ad.add (i.toNat * 2)).block, (ad.add (i.toNat * 2)).off + 1, none⟩ = some (.string (rd_T38 xs i).f1) := by
  obtain ⟨ad, c, e, _, hK, hc0⟩ := Kd.C_get h z38 i h0 h1
  have hc : ∀ j u, c[j]? = some u → w.cell? (ad.add (i.toNat * 2 + j)) = some u := hc0
  obtain rfl := k38_open hK
  exact ⟨ad, e, hc 0 _ rfl, by rw [← add_field _ _ 1 (by omega)]; exact hc 1 _ rfl⟩

/-! #### struct type 41 -/
structure S41 where
  f0 : Int
  f1 : Int
  f2 : Int
  f3 : ByteArray
def z41 : S41 := ⟨(0 : Int), (0 : Int), (0 : Int), (⟨#[]⟩ : ByteArray)⟩
def k41 : Kd S41 := Kd.iso (Kd.pair (Kd.int .i64) (Kd.pair (Kd.int .u64) (Kd.pair (Kd.int .i64) Kd.string))) (fun x : S41 => (x.f0, x.f1, x.f2, x.f3))
theorem k41_open {w : World} {x : S41} {cs : List Value} (h : k41.K w x cs) : cs = [.int .i64 x.f0, .int .u64 x.f1, .int .i64 x.f2, .string x.f3] := by
  obtain ⟨_, _, rfl, rfl, ⟨_, _, rfl, rfl, ⟨_, _, rfl, rfl, rfl⟩⟩⟩ := h
  exact rfl
theorem k41_openM {w : World} {base : Nat} {ok : Nat → Prop} {x : S41} {cs : List Value} (h : k41.M w base ok x cs) : cs = [.int .i64 x.f0, .int .u64 x.f1, .int .i64 x.f2, .string x.f3] := by
  obtain ⟨_, _, rfl, rfl, ⟨_, _, rfl, rfl, ⟨_, _, rfl, rfl, rfl⟩⟩⟩ := h
  exact rfl
theorem k41_mk (w : World) (x : S41)  : k41.K w x [.int .i64 x.f0, .int .u64 x.f1, .int .i64 x.f2, .string x.f3] := ⟨[.int .i64 x.f0], [.int .u64 x.f1, .int .i64 x.f2, .string x.f3], rfl, rfl, ⟨[.int .u64 x.f1], [.int .i64 x.f2, .string x.f3], rfl, rfl, ⟨[.int .i64 x.f2], [.string x.f3], rfl, rfl, rfl⟩⟩⟩
theorem k41_mkM (w : World) (base : Nat) (ok : Nat → Prop) (x : S41)  : k41.M w base ok x [.int .i64 x.f0, .int .u64 x.f1, .int .i64 x.f2, .string x.f3] := ⟨[.int .i64 x.f0], [.int .u64 x.f1, .int .i64 x.f2, .string x.f3], rfl, rfl, ⟨[.int .u64 x.f1], [.int .i64 x.f2, .string x.f3], rfl, rfl, ⟨[.int .i64 x.f2], [.string x.f3], rfl, rfl, rfl⟩⟩⟩
def rd_T41 (xs : List S41) (i : Int) : S41 := xs.getD i.toNat z41
theorem at_T41 {w : World} {A : Option Addr} {n : Nat} {xs : List S41} (h : Kd.C k41 w A n xs) (i : Int) (h0 : 0 ≤ i) (h1 : i < n) : ∃ ad , A = some ad ∧ w.cell? (ad.add (i.toNat * 4)) = some (.int .i64 (rd_T41 xs i).f0) ∧ w.cell? ⟨(ad.add (i.toNat * 4)).block, (ad.add (i.toNat * 4)).off + 1, none⟩ = some (.int .u64 (rd_T41 xs i).f1) ∧ w.cell? ⟨(ad.add (i.toNat * 4)).block, (ad.add (i.toNat * 4)).off + 2, none⟩ = some (.int .i64 (rd_T41 xs i).f2) ∧ w.cell? ⟨(ad.add (i.toNat * 4)).block, (ad.add (i.toNat * 4)).off + 3, none⟩ = some (.string (rd_T41 xs i).f3) := by
  obtain ⟨ad, c, e, _, hK, hc0⟩ := Kd.C_get h z41 i h0 h1
  have hc : ∀ j u, c[j]? = some u → w.cell? (ad.add (i.toNat * 4 + j)) = some u := hc0
  obtain rfl := k41_open hK
  exact ⟨ad, e, hc 0 _ rfl, by rw [← add_field _ _ 1 (by omega)]; exact hc 1 _ rfl, by rw [← add_field _ _ 2 (by omega)]; exact hc 2 _ rfl, by rw [← add_field _ _ 3 (by omega)]; exact hc 3 _ rfl⟩

def rd_L6 (xs : List (List S38)) (i : Int) : (List S38) := xs.getD i.toNat ([] : List S38)
theorem at_L6 {w : World} {A : Option Addr} {n : Nat} {xs : List (List S38)} (h : Kd.C (Kd.slice 38 k38) w A n xs) (i : Int) (h0 : 0 ≤ i) (h1 : i < n) : ∃ ad A0 c0, A = some ad ∧ w.cell? (ad.add i.toNat) = some (.slice A0 (rd_L6 xs i).length c0) ∧ (rd_L6 xs i).length ≤ c0 ∧ k38.C w A0 (rd_L6 xs i).length (rd_L6 xs i) := by
  obtain ⟨ad, c, e, _, hK, hc0⟩ := Kd.C_get h ([] : List S38) i h0 h1
  have hc : ∀ j u, c[j]? = some u → w.cell? (ad.add (i.toNat * 1 + j)) = some u := hc0
  obtain ⟨A0, c0, rfl, l0, g0⟩ := hK
  exact ⟨ad, A0, c0, e, by have hq := hc 0 _ rfl; rwa [Nat.mul_one, Nat.add_zero] at hq, l0, g0⟩

/-! #### struct type 44 -/
structure S44 where
  f0 : S38
  f1 : ByteArray
  f2 : Bool
  f3 : S38
  f4 : Bool
  f5 : Int
  f6 : S41
  f7 : (List S38)
def z44 : S44 := ⟨z38, (⟨#[]⟩ : ByteArray), false, z38, false, (0 : Int), z41, ([] : List S38)⟩
def k44 : Kd S44 := Kd.iso (Kd.pair k38 (Kd.pair Kd.string (Kd.pair Kd.bool (Kd.pair k38 (Kd.pair Kd.bool (Kd.pair (Kd.int .i64) (Kd.pair k41 (Kd.slice 38 k38)))))))) (fun x : S44 => (x.f0, x.f1, x.f2, x.f3, x.f4, x.f5, x.f6, x.f7))
theorem k44_open {w : World} {x : S44} {cs : List Value} (h : k44.K w x cs) : ∃ A12 c12, cs = [.int .i64 x.f0.f0, .string x.f0.f1, .string x.f1, .bool x.f2, .int .i64 x.f3.f0, .string x.f3.f1, .bool x.f4, .int .i64 x.f5, .int .i64 x.f6.f0, .int .u64 x.f6.f1, .int .i64 x.f6.f2, .string x.f6.f3, .slice A12 x.f7.length c12] ∧ x.f7.length ≤ c12 ∧ k38.C w A12 x.f7.length x.f7 := by
  obtain ⟨_, _, rfl, s0, ⟨_, _, rfl, rfl, ⟨_, _, rfl, rfl, ⟨_, _, rfl, s4, ⟨_, _, rfl, rfl, ⟨_, _, rfl, rfl, ⟨_, _, rfl, s8, ⟨A12, c12, rfl, l12, g12⟩⟩⟩⟩⟩⟩⟩⟩ := h
  obtain rfl := k38_open s0
  obtain rfl := k38_open s4
  obtain rfl := k41_open s8
  exact ⟨A12, c12, rfl, l12, g12⟩
theorem k44_openM {w : World} {base : Nat} {ok : Nat → Prop} {x : S44} {cs : List Value} (h : k44.M w base ok x cs) : ∃ v12, cs = [.int .i64 x.f0.f0, .string x.f0.f1, .string x.f1, .bool x.f2, .int .i64 x.f3.f0, .string x.f3.f1, .bool x.f4, .int .i64 x.f5, .int .i64 x.f6.f0, .int .u64 x.f6.f1, .int .i64 x.f6.f2, .string x.f6.f3, v12] ∧ k38.R 38 w base ok v12 x.f7 := by
  obtain ⟨_, _, rfl, s0, ⟨_, _, rfl, rfl, ⟨_, _, rfl, rfl, ⟨_, _, rfl, s4, ⟨_, _, rfl, rfl, ⟨_, _, rfl, rfl, ⟨_, _, rfl, s8, ⟨v12, rfl, g12⟩⟩⟩⟩⟩⟩⟩⟩ := h
  obtain rfl := k38_openM s0
  obtain rfl := k38_openM s4
  obtain rfl := k41_openM s8
  exact ⟨v12, rfl, g12⟩
theorem k44_mk (w : World) (x : S44) {A12 : Option Addr} {c12 : Nat} (l12 : x.f7.length ≤ c12) (g12 : k38.C w A12 x.f7.length x.f7) : k44.K w x [.int .i64 x.f0.f0, .string x.f0.f1, .string x.f1, .bool x.f2, .int .i64 x.f3.f0, .string x.f3.f1, .bool x.f4, .int .i64 x.f5, .int .i64 x.f6.f0, .int .u64 x.f6.f1, .int .i64 x.f6.f2, .string x.f6.f3, .slice A12 x.f7.length c12] := ⟨[.int .i64 x.f0.f0, .string x.f0.f1], [.string x.f1, .bool x.f2, .int .i64 x.f3.f0, .string x.f3.f1, .bool x.f4, .int .i64 x.f5, .int .i64 x.f6.f0, .int .u64 x.f6.f1, .int .i64 x.f6.f2, .string x.f6.f3, .slice A12 x.f7.length c12], rfl, (k38_mk w x.f0 ), ⟨[.string x.f1], [.bool x.f2, .int .i64 x.f3.f0, .string x.f3.f1, .bool x.f4, .int .i64 x.f5, .int .i64 x.f6.f0, .int .u64 x.f6.f1, .int .i64 x.f6.f2, .string x.f6.f3, .slice A12 x.f7.length c12], rfl, rfl, ⟨[.bool x.f2], [.int .i64 x.f3.f0, .string x.f3.f1, .bool x.f4, .int .i64 x.f5, .int .i64 x.f6.f0, .int .u64 x.f6.f1, .int .i64 x.f6.f2, .string x.f6.f3, .slice A12 x.f7.length c12], rfl, rfl, ⟨[.int .i64 x.f3.f0, .string x.f3.f1], [.bool x.f4, .int .i64 x.f5, .int .i64 x.f6.f0, .int .u64 x.f6.f1, .int .i64 x.f6.f2, .string x.f6.f3, .slice A12 x.f7.length c12], rfl, (k38_mk w x.f3 ), ⟨[.bool x.f4], [.int .i64 x.f5, .int .i64 x.f6.f0, .int .u64 x.f6.f1, .int .i64 x.f6.f2, .string x.f6.f3, .slice A12 x.f7.length c12], rfl, rfl, ⟨[.int .i64 x.f5], [.int .i64 x.f6.f0, .int .u64 x.f6.f1, .int .i64 x.f6.f2, .string x.f6.f3, .slice A12 x.f7.length c12], rfl, rfl, ⟨[.int .i64 x.f6.f0, .int .u64 x.f6.f1, .int .i64 x.f6.f2, .string x.f6.f3], [.slice A12 x.f7.length c12], rfl, (k41_mk w x.f6 ), ⟨A12, c12, rfl, l12, g12⟩⟩⟩⟩⟩⟩⟩⟩
theorem k44_mkM (w : World) (base : Nat) (ok : Nat → Prop) (x : S44) {v12 : Value} (g12 : k38.R 38 w base ok v12 x.f7) : k44.M w base ok x [.int .i64 x.f0.f0, .string x.f0.f1, .string x.f1, .bool x.f2, .int .i64 x.f3.f0, .string x.f3.f1, .bool x.f4, .int .i64 x.f5, .int .i64 x.f6.f0, .int .u64 x.f6.f1, .int .i64 x.f6.f2, .string x.f6.f3, v12] := ⟨[.int .i64 x.f0.f0, .string x.f0.f1], [.string x.f1, .bool x.f2, .int .i64 x.f3.f0, .string x.f3.f1, .bool x.f4, .int .i64 x.f5, .int .i64 x.f6.f0, .int .u64 x.f6.f1, .int .i64 x.f6.f2, .string x.f6.f3, v12], rfl, (k38_mkM w base ok x.f0 ), ⟨[.string x.f1], [.bool x.f2, .int .i64 x.f3.f0, .string x.f3.f1, .bool x.f4, .int .i64 x.f5, .int .i64 x.f6.f0, .int .u64 x.f6.f1, .int .i64 x.f6.f2, .string x.f6.f3, v12], rfl, rfl, ⟨[.bool x.f2], [.int .i64 x.f3.f0, .string x.f3.f1, .bool x.f4, .int .i64 x.f5, .int .i64 x.f6.f0, .int .u64 x.f6.f1, .int .i64 x.f6.f2, .string x.f6.f3, v12], rfl, rfl, ⟨[.int .i64 x.f3.f0, .string x.f3.f1], [.bool x.f4, .int .i64 x.f5, .int .i64 x.f6.f0, .int .u64 x.f6.f1, .int .i64 x.f6.f2, .string x.f6.f3, v12], rfl, (k38_mkM w base ok x.f3 ), ⟨[.bool x.f4], [.int .i64 x.f5, .int .i64 x.f6.f0, .int .u64 x.f6.f1, .int .i64 x.f6.f2, .string x.f6.f3, v12], rfl, rfl, ⟨[.int .i64 x.f5], [.int .i64 x.f6.f0, .int .u64 x.f6.f1, .int .i64 x.f6.f2, .string x.f6.f3, v12], rfl, rfl, ⟨[.int .i64 x.f6.f0, .int .u64 x.f6.f1, .int .i64 x.f6.f2, .string x.f6.f3], [v12], rfl, (k41_mkM w base ok x.f6 ), ⟨v12, rfl, g12⟩⟩⟩⟩⟩⟩⟩⟩
def rd_T44 (xs : List S44) (i : Int) : S44 := xs.getD i.toNat z44
theorem at_T44 {w : World} {A : Option Addr} {n : Nat} {xs : List S44} (h : Kd.C k44 w A n xs) (i : Int) (h0 : 0 ≤ i) (h1 : i < n) : ∃ ad A12 c12, A = some ad ∧ w.cell? (ad.add (i.toNat * 13)) = some (.int .i64 (rd_T44 xs i).f0.f0) ∧ w.cell? ⟨(ad.add (i.toNat * 13)).block, (ad.add (i.toNat * 13)).off + 1, none⟩ = some (.string (rd_T44 xs i).f0.f1) ∧ w.cell? ⟨(ad.add (i.toNat * 13)).block, (ad.add (i.toNat * 13)).off + 2, none⟩ = some (.string (rd_T44 xs i).f1) ∧ w.cell? ⟨(ad.add (i.toNat * 13)).block, (ad.add (i.toNat * 13)).off + 3, none⟩ = some (.bool (rd_T44 xs i).f2) ∧ w.cell? ⟨(ad.add (i.toNat * 13)).block, (ad.add (i.toNat * 13)).off + 4, none⟩ = some (.int .i64 (rd_T44 xs i).f3.f0) ∧ w.cell? ⟨(ad.add (i.toNat * 13)).block, (ad.add (i.toNat * 13)).off + 5, none⟩ = some (.string (rd_T44 xs i).f3.f1) ∧ w.cell? ⟨(ad.add (i.toNat * 13)).block, (ad.add (i.toNat * 13)).off + 6, none⟩ = some (.bool (rd_T44 xs i).f4) ∧ w.cell? ⟨(ad.add (i.toNat * 13)).block, (ad.add (i.toNat * 13)).off + 7, none⟩ = some (.int .i64 (rd_T44 xs i).f5) ∧ w.cell? ⟨(ad.add (i.toNat * 13)).block, (ad.add (i.toNat * 13)).off + 8, none⟩ = some (.int .i64 (rd_T44 xs i).f6.f0) ∧ w.cell? ⟨(ad.add (i.toNat * 13)).block, (ad.add (i.toNat * 13)).off + 9, none⟩ = some (.int .u64 (rd_T44 xs i).f6.f1) ∧ w.cell? ⟨(ad.add (i.toNat * 13)).block, (ad.add (i.toNat * 13)).off + 10, none⟩ = some (.int .i64 (rd_T44 xs i).f6.f2) ∧ w.cell? ⟨(ad.add (i.toNat * 13)).block, (ad.add (i.toNat * 13)).off + 11, none⟩ = some (.string (rd_T44 xs i).f6.f3) ∧ w.cell? ⟨(ad.add (i.toNat * 13)).block, (ad.add (i.toNat * 13)).off + 12, none⟩ = some (.slice A12 (rd_T44 xs i).f7.length c12) ∧ (rd_T44 xs i).f7.length ≤ c12 ∧ k38.C w A12 (rd_T44 xs i).f7.length (rd_T44 xs i).f7 := by
  obtain ⟨ad, c, e, _, hK, hc0⟩ := Kd.C_get h z44 i h0 h1
  have hc : ∀ j u, c[j]? = some u → w.cell? (ad.add (i.toNat * 13 + j)) = some u := hc0
  obtain ⟨A12, c12, rfl, l12, g12⟩ := k44_open hK
  exact ⟨ad, A12, c12, e, hc 0 _ rfl, by rw [← add_field _ _ 1 (by omega)]; exact hc 1 _ rfl, by rw [← add_field _ _ 2 (by omega)]; exact hc 2 _ rfl, by rw [← add_field _ _ 3 (by omega)]; exact hc 3 _ rfl, by rw [← add_field _ _ 4 (by omega)]; exact hc 4 _ rfl, by rw [← add_field _ _ 5 (by omega)]; exact hc 5 _ rfl, by rw [← add_field _ _ 6 (by omega)]; exact hc 6 _ rfl, by rw [← add_field _ _ 7 (by omega)]; exact hc 7 _ rfl, by rw [← add_field _ _ 8 (by omega)]; exact hc 8 _ rfl, by rw [← add_field _ _ 9 (by omega)]; exact hc 9 _ rfl, by rw [← add_field _ _ 10 (by omega)]; exact hc 10 _ rfl, by rw [← add_field _ _ 11 (by omega)]; exact hc 11 _ rfl, by rw [← add_field _ _ 12 (by omega)]; exact hc 12 _ rfl, l12, g12⟩

/-! #### struct type 97 -/
structure S97 where
  f0 : Bool
  f1 : Int
def z97 : S97 := ⟨false, (0 : Int)⟩
def k97 : Kd S97 := Kd.iso (Kd.pair Kd.bool (Kd.int .i64)) (fun x : S97 => (x.f0, x.f1))
theorem k97_open {w : World} {x : S97} {cs : List Value} (h : k97.K w x cs) : cs = [.bool x.f0, .int .i64 x.f1] := by
  obtain ⟨_, _, rfl, rfl, rfl⟩ := h
  exact rfl
theorem k97_openM {w : World} {base : Nat} {ok : Nat → Prop} {x : S97} {cs : List Value} (h : k97.M w base ok x cs) : cs = [.bool x.f0, .int .i64 x.f1] := by
  obtain ⟨_, _, rfl, rfl, rfl⟩ := h
  exact rfl
theorem k97_mk (w : World) (x : S97)  : k97.K w x [.bool x.f0, .int .i64 x.f1] := ⟨[.bool x.f0], [.int .i64 x.f1], rfl, rfl, rfl⟩
theorem k97_mkM (w : World) (base : Nat) (ok : Nat → Prop) (x : S97)  : k97.M w base ok x [.bool x.f0, .int .i64 x.f1] := ⟨[.bool x.f0], [.int .i64 x.f1], rfl, rfl, rfl⟩
def rd_T97 (xs : List S97) (i : Int) : S97 := xs.getD i.toNat z97
theorem at_T97 {w : World} {A : Option Addr} {n : Nat} {xs : List S97} (h : Kd.C k97 w A n xs) (i : Int) (h0 : 0 ≤ i) (h1 : i < n) : ∃ ad , A = some ad ∧ w.cell? (ad.add (i.toNat * 2)) = some (.bool (rd_T97 xs i).f0) ∧ w.cell? ⟨(ad.add (i.toNat * 2)).block, (ad.add (i.toNat * 2)).off + 1, none⟩ = some (.int .i64 (rd_T97 xs i).f1) := by
  obtain ⟨ad, c, e, _, hK, hc0⟩ := Kd.C_get h z97 i h0 h1
  have hc : ∀ j u, c[j]? = some u → w.cell? (ad.add (i.toNat * 2 + j)) = some u := hc0
  obtain rfl := k97_open hK
  exact ⟨ad, e, hc 0 _ rfl, by rw [← add_field _ _ 1 (by omega)]; exact hc 1 _ rfl⟩

/-! #### struct type 100 -/
structure S100 where
  f0 : Bool
  f1 : ByteArray
def z100 : S100 := ⟨false, (⟨#[]⟩ : ByteArray)⟩
def k100 : Kd S100 := Kd.iso (Kd.pair Kd.bool Kd.string) (fun x : S100 => (x.f0, x.f1))
theorem k100_open {w : World} {x : S100} {cs : List Value} (h : k100.K w x cs) : cs = [.bool x.f0, .string x.f1] := by
  obtain ⟨_, _, rfl, rfl, rfl⟩ := h
  exact rfl
theorem k100_openM {w : World} {base : Nat} {ok : Nat → Prop} {x : S100} {cs : List Value} (h : k100.M w base ok x cs) : cs = [.bool x.f0, .string x.f1] := by
  obtain ⟨_, _, rfl, rfl, rfl⟩ := h
  exact rfl
theorem k100_mk (w : World) (x : S100)  : k100.K w x [.bool x.f0, .string x.f1] := ⟨[.bool x.f0], [.string x.f1], rfl, rfl, rfl⟩
theorem k100_mkM (w : World) (base : Nat) (ok : Nat → Prop) (x : S100)  : k100.M w base ok x [.bool x.f0, .string x.f1] := ⟨[.bool x.f0], [.string x.f1], rfl, rfl, rfl⟩
def rd_T100 (xs : List S100) (i : Int) : S100 := xs.getD i.toNat z100
theorem at_T100 {w : World} {A : Option Addr} {n : Nat} {xs : List S100} (h : Kd.C k100 w A n xs) (i : Int) (h0 : 0 ≤ i) (h1 : i < n) : ∃ ad , A = some ad ∧ w.cell? (ad.add (i.toNat * 2)) = some (.bool (rd_T100 xs i).f0) ∧ w.cell? ⟨(ad.add (i.toNat * 2)).block, (ad.add (i.toNat * 2)).off + 1, none⟩ = some (.string (rd_T100 xs i).f1) := by
  obtain ⟨ad, c, e, _, hK, hc0⟩ := Kd.C_get h z100 i h0 h1
  have hc : ∀ j u, c[j]? = some u → w.cell? (ad.add (i.toNat * 2 + j)) = some u := hc0
  obtain rfl := k100_open hK
  exact ⟨ad, e, hc 0 _ rfl, by rw [← add_field _ _ 1 (by omega)]; exact hc 1 _ rfl⟩

def rd_L11 (xs : List (List Int)) (i : Int) : (List Int) := xs.getD i.toNat ([] : List Int)
theorem at_L11 {w : World} {A : Option Addr} {n : Nat} {xs : List (List Int)} (h : Kd.C (Kd.slice 5 (Kd.int .u8)) w A n xs) (i : Int) (h0 : 0 ≤ i) (h1 : i < n) : ∃ ad A0 c0, A = some ad ∧ w.cell? (ad.add i.toNat) = some (.slice A0 (rd_L11 xs i).length c0) ∧ (rd_L11 xs i).length ≤ c0 ∧ (Kd.int .u8).C w A0 (rd_L11 xs i).length (rd_L11 xs i) := by
  obtain ⟨ad, c, e, _, hK, hc0⟩ := Kd.C_get h ([] : List Int) i h0 h1
  have hc : ∀ j u, c[j]? = some u → w.cell? (ad.add (i.toNat * 1 + j)) = some u := hc0
  obtain ⟨A0, c0, rfl, l0, g0⟩ := hK
  exact ⟨ad, A0, c0, e, by have hq := hc 0 _ rfl; rwa [Nat.mul_one, Nat.add_zero] at hq, l0, g0⟩

/-! #### struct type 36 -/
structure S36 where
  f0 : Int
  f1 : (List Int)
def z36 : S36 := ⟨(0 : Int), ([] : List Int)⟩
def k36 : Kd S36 := Kd.iso (Kd.pair (Kd.int .i64) (Kd.slice 5 (Kd.int .u8))) (fun x : S36 => (x.f0, x.f1))
theorem k36_open {w : World} {x : S36} {cs : List Value} (h : k36.K w x cs) : ∃ A1 c1, cs = [.int .i64 x.f0, .slice A1 x.f1.length c1] ∧ x.f1.length ≤ c1 ∧ (Kd.int .u8).C w A1 x.f1.length x.f1 := by
  obtain ⟨_, _, rfl, rfl, ⟨A1, c1, rfl, l1, g1⟩⟩ := h
  exact ⟨A1, c1, rfl, l1, g1⟩
theorem k36_openM {w : World} {base : Nat} {ok : Nat → Prop} {x : S36} {cs : List Value} (h : k36.M w base ok x cs) : ∃ v1, cs = [.int .i64 x.f0, v1] ∧ (Kd.int .u8).R 5 w base ok v1 x.f1 := by
  obtain ⟨_, _, rfl, rfl, ⟨v1, rfl, g1⟩⟩ := h
  exact ⟨v1, rfl, g1⟩
theorem k36_mk (w : World) (x : S36) {A1 : Option Addr} {c1 : Nat} (l1 : x.f1.length ≤ c1) (g1 : (Kd.int .u8).C w A1 x.f1.length x.f1) : k36.K w x [.int .i64 x.f0, .slice A1 x.f1.length c1] := ⟨[.int .i64 x.f0], [.slice A1 x.f1.length c1], rfl, rfl, ⟨A1, c1, rfl, l1, g1⟩⟩
theorem k36_mkM (w : World) (base : Nat) (ok : Nat → Prop) (x : S36) {v1 : Value} (g1 : (Kd.int .u8).R 5 w base ok v1 x.f1) : k36.M w base ok x [.int .i64 x.f0, v1] := ⟨[.int .i64 x.f0], [v1], rfl, rfl, ⟨v1, rfl, g1⟩⟩
def rd_T36 (xs : List S36) (i : Int) : S36 := xs.getD i.toNat z36
theorem at_T36 {w : World} {A : Option Addr} {n : Nat} {xs : List S36} (h : Kd.C k36 w A n xs) (i : Int) (h0 : 0 ≤ i) (h1 : i < n) : ∃ ad A1 c1, A = some ad ∧ w.cell? (ad.add (i.toNat * 2)) = some (.int .i64 (rd_T36 xs i).f0) ∧ w.cell? ⟨(ad.add (i.toNat * 2)).block, (ad.add (i.toNat * 2)).off + 1, none⟩ = some (.slice A1 (rd_T36 xs i).f1.length c1) ∧ (rd_T36 xs i).f1.length ≤ c1 ∧ (Kd.int .u8).C w A1 (rd_T36 xs i).f1.length (rd_T36 xs i).f1 := by
  obtain ⟨ad, c, e, _, hK, hc0⟩ := Kd.C_get h z36 i h0 h1
  have hc : ∀ j u, c[j]? = some u → w.cell? (ad.add (i.toNat * 2 + j)) = some u := hc0
  obtain ⟨A1, c1, rfl, l1, g1⟩ := k36_open hK
  exact ⟨ad, A1, c1, e, hc 0 _ rfl, by rw [← add_field _ _ 1 (by omega)]; exact hc 1 _ rfl, l1, g1⟩

/-! #### struct type 77 -/
structure S77 where
  f0 : Int
  f1 : ByteArray
def z77 : S77 := ⟨(0 : Int), (⟨#[]⟩ : ByteArray)⟩
def k77 : Kd S77 := Kd.iso (Kd.pair (Kd.int .i64) Kd.string) (fun x : S77 => (x.f0, x.f1))
theorem k77_open {w : World} {x : S77} {cs : List Value} (h : k77.K w x cs) : cs = [.int .i64 x.f0, .string x.f1] := by
  obtain ⟨_, _, rfl, rfl, rfl⟩ := h
  exact rfl
theorem k77_openM {w : World} {base : Nat} {ok : Nat → Prop} {x : S77} {cs : List Value} (h : k77.M w base ok x cs) : cs = [.int .i64 x.f0, .string x.f1] := by
  obtain ⟨_, _, rfl, rfl, rfl⟩ := h
  exact rfl
theorem k77_mk (w : World) (x : S77)  : k77.K w x [.int .i64 x.f0, .string x.f1] := ⟨[.int .i64 x.f0], [.string x.f1], rfl, rfl, rfl⟩
theorem k77_mkM (w : World) (base : Nat) (ok : Nat → Prop) (x : S77)  : k77.M w base ok x [.int .i64 x.f0, .string x.f1] := ⟨[.int .i64 x.f0], [.string x.f1], rfl, rfl, rfl⟩
def rd_T77 (xs : List S77) (i : Int) : S77 := xs.getD i.toNat z77
theorem at_T77 {w : World} {A : Option Addr} {n : Nat} {xs : List S77} (h : Kd.C k77 w A n xs) (i : Int) (h0 : 0 ≤ i) (h1 : i < n) : ∃ ad , A = some ad ∧ w.cell? (ad.add (i.toNat * 2)) = some (.int .i64 (rd_T77 xs i).f0) ∧ w.cell? ⟨(ad.add (i.toNat * 2)).block, (ad.add (i.toNat * 2)).off + 1, none⟩ = some (.string (rd_T77 xs i).f1) := by
  obtain ⟨ad, c, e, _, hK, hc0⟩ := Kd.C_get h z77 i h0 h1
  have hc : ∀ j u, c[j]? = some u → w.cell? (ad.add (i.toNat * 2 + j)) = some u := hc0
  obtain rfl := k77_open hK
  exact ⟨ad, e, hc 0 _ rfl, by rw [← add_field _ _ 1 (by omega)]; exact hc 1 _ rfl⟩

/-! #### struct type 164 -/
structure S164 where
  f0 : Bool
  f1 : ByteArray
def z164 : S164 := ⟨false, (⟨#[]⟩ : ByteArray)⟩
def k164 : Kd S164 := Kd.iso (Kd.pair Kd.bool Kd.string) (fun x : S164 => (x.f0, x.f1))
theorem k164_open {w : World} {x : S164} {cs : List Value} (h : k164.K w x cs) : cs = [.bool x.f0, .string x.f1] := by
  obtain ⟨_, _, rfl, rfl, rfl⟩ := h
  exact rfl
theorem k164_openM {w : World} {base : Nat} {ok : Nat → Prop} {x : S164} {cs : List Value} (h : k164.M w base ok x cs) : cs = [.bool x.f0, .string x.f1] := by
  obtain ⟨_, _, rfl, rfl, rfl⟩ := h
  exact rfl
theorem k164_mk (w : World) (x : S164)  : k164.K w x [.bool x.f0, .string x.f1] := ⟨[.bool x.f0], [.string x.f1], rfl, rfl, rfl⟩
theorem k164_mkM (w : World) (base : Nat) (ok : Nat → Prop) (x : S164)  : k164.M w base ok x [.bool x.f0, .string x.f1] := ⟨[.bool x.f0], [.string x.f1], rfl, rfl, rfl⟩
def rd_T164 (xs : List S164) (i : Int) : S164 := xs.getD i.toNat z164
theorem at_T164 {w : World} {A : Option Addr} {n : Nat} {xs : List S164} (h : Kd.C k164 w A n xs) (i : Int) (h0 : 0 ≤ i) (h1 : i < n) : ∃ ad , A = some ad ∧ w.cell? (ad.add (i.toNat * 2)) = some (.bool (rd_T164 xs i).f0) ∧ w.cell? ⟨(ad.add (i.toNat * 2)).block, (ad.add (i.toNat * 2)).off + 1, none⟩ = some (.string (rd_T164 xs i).f1) := by
  obtain ⟨ad, c, e, _, hK, hc0⟩ := Kd.C_get h z164 i h0 h1
  have hc : ∀ j u, c[j]? = some u → w.cell? (ad.add (i.toNat * 2 + j)) = some u := hc0
  obtain rfl := k164_open hK
  exact ⟨ad, e, hc 0 _ rfl, by rw [← add_field _ _ 1 (by omega)]; exact hc 1 _ rfl⟩

end Go.Proofs.Ytamihmofmjkfoaa.Q
