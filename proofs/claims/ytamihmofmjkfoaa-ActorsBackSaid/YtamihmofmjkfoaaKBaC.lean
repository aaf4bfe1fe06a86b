import Derived.Test.YtamihmofmjkfoaaProg
import Derived.Below
import Derived.Deep.Draws
import Derived.Deep.AppendLies
import Derived.Maps.AppendAt
import Derived.OwnWalk
import Derived.Laws.BytesArg
import Derived.Laws.MakeOwn
import Derived.Laws.OwnMore
import Derived.Deep.OwnRows
import Derived.Tactics
import Derived.Lib.ConvBytes
import Derived.Laws.Slices
import Derived.WalkKit
import Derived.KernelRfl
import Derived.RowKit3
import Derived.Deep.LoopGhost
import Derived.Deep.QuietTactic
import Derived.BigQuiet
import Derived.WideLaws
import Derived.Deep.DeepCutAuto
import Derived.Deep.CutBlock
import Derived.Deep.RegionHeld3
import Derived.Laws.Rows
import Derived.Lib.AppendStr
import Derived.ArgAppend
import Derived.Laws.IdiomCopy
import Derived.OrdersHeld
import Derived.Laws.BitsLemmas
import Derived.RowKit
import Derived.Test.YtamihmofmjkfoaaKBaA
import Derived.Test.YtamihmofmjkfoaaKBaB
import Derived.Maps.OwnSet
import Derived.Maps.Views
import Derived.Shelf.Sort.Plain
import Derived.Shelf.Slices.In.SortNone
import Derived.Sort.OwnSorted
import Derived.Lib.Hide
import Derived.Outline
import Derived.Deep.DeepMust
import Derived.Sort.KeysCollected
/-! ## Q0 -/
section
-- By myprint.py, out of the translation, by way of the kit's print.
namespace Go.Proofs.Ytamihmofmjkfoaa.Q
open Go.RowKit Go.Proofs.YtamihmofmjkfoaaW.PrintWords Go.Proofs.YtamihmofmjkfoaaW.PrintLast Go.Proofs.YtamihmofmjkfoaaW.PrintMore
attribute [local go_sem] max2_int min2_int max_two min_two max_three min_three max_four min_four   -- for this text's walks alone
set_option linter.unusedVariables false
set_option linter.unusedSimpArgs false



def errW : Option Int → Value
  | none => .nilIface
  | some c => .iface 0 (.int .i64 c)
theorem errW_none : errW none = .nilIface := rfl
theorem errW_some (c : Int) : errW (some c) = .iface 0 (.int .i64 c) := rfl

theorem info5 : (Try.prog.info? 5).map (fun i => (i.zero, i.size, i.bytes)) = some (some (.int .u8 0), 1, 1) := by kernel_rfl
theorem info9 : (Try.prog.info? 9).map (fun i => (i.zero, i.size, i.bytes)) = some (some (.string ⟨#[]⟩), 1, 16) := by kernel_rfl
theorem info38 : (Try.prog.info? 38).map (fun i => (i.zero, i.size, i.bytes)) = some (some (.agg #[(.int .i64 0), (.string ⟨#[]⟩)]), 2, 24) := by kernel_rfl
theorem info39 : (Try.prog.info? 39).map (fun i => (i.zero, i.size, i.bytes)) = some (some (.int .u64 0), 1, 8) := by kernel_rfl
theorem info44 : (Try.prog.info? 44).map (fun i => (i.zero, i.size, i.bytes)) = some (some (.agg #[(.int .i64 0), (.string ⟨#[]⟩), (.string ⟨#[]⟩), (.bool false), (.int .i64 0), (.string ⟨#[]⟩), (.bool false), (.int .i64 0), (.int .i64 0), (.int .u64 0), (.int .i64 0), (.string ⟨#[]⟩), (.slice none 0 0)]), 13, 152) := by kernel_rfl
-- the values' own types
/-! #### struct type 38 -/
structure S38 where
  f0 : Int
  f1 : ByteArray
def z38 : S38 := ⟨(0 : Int), (⟨#[]⟩ : ByteArray)⟩
def k38 : Kd S38 := Kd.iso (Kd.pair (Kd.int .i64) Kd.string) (fun x : S38 => (x.f0, x.f1))
theorem k38_open {w : World} {x : S38} {cs : List Value} (h : k38.K w x cs) : cs = [.int .i64 x.f0, .string x.f1] := by
  obtain ⟨_, _, rfl, rfl, rfl⟩ := h
  exact rfl
theorem k38_openM {w : World} {base : Nat} {ok : Nat → Prop} {x : S38} {cs : List Value} (h : k38.M w base ok x cs) : cs = [.int .i64 x.f0, .string x.f1] := by
  obtain ⟨_, _, rfl, rfl, rfl⟩ := h
  exact rfl
theorem k38_mk (w : World) (x : S38)  : k38.K w x [.int .i64 x.f0, .string x.f1] := ⟨[.int .i64 x.f0], [.string x.f1], rfl, rfl, rfl⟩
theorem k38_mkM (w : World) (base : Nat) (ok : Nat → Prop) (x : S38)  : k38.M w base ok x [.int .i64 x.f0, .string x.f1] := ⟨[.int .i64 x.f0], [.string x.f1], rfl, rfl, rfl⟩
def rd_T38 (xs : List S38) (i : Int) : S38 := xs.getD i.toNat z38
theorem at_T38 {w : World} {A : Option Addr} {n : Nat} {xs : List S38} (h : Kd.C k38 w A n xs) (i : Int) (h0 : 0 ≤ i) (h1 : i < n) : ∃ ad , A = some ad ∧ w.cell? (ad.add (i.toNat * 2)) = some (.int .i64 (rd_T38 xs i).f0) ∧ w.cell? ⟨(ad.add (i.toNat * 2)).block, (ad.add (i.toNat * 2)).off + 1, none⟩ = some (.string (rd_T38 xs i).f1) := by
  obtain ⟨ad, c, e, _, hK, hc0⟩ := Kd.C_get h z38 i h0 h1
  have hc : ∀ j u, c[j]? = some u → w.cell? (ad.add (i.toNat * 2 + j)) = some u := hc0
  obtain rfl := k38_open hK
  exact ⟨ad, e, hc 0 _ rfl, by rw [← add_field _ _ 1 (by omega)]; exact hc 1 _ rfl⟩

/-! #### struct type 41 -/
structure S41 where
  f0 : Int
  f1 : Int
  f2 : Int
  f3 : ByteArray
def z41 : S41 := ⟨(0 : Int), (0 : Int), (0 : Int), (⟨#[]⟩ : ByteArray)⟩
def k41 : Kd S41 := Kd.iso (Kd.pair (Kd.int .i64) (Kd.pair (Kd.int .u64) (Kd.pair (Kd.int .i64) Kd.string))) (fun x : S41 => (x.f0, x.f1, x.f2, x.f3))
theorem k41_open {w : World} {x : S41} {cs : List Value} (h : k41.K w x cs) : cs = [.int .i64 x.f0, .int .u64 x.f1, .int .i64 x.f2, .string x.f3] := by
  obtain ⟨_, _, rfl, rfl, ⟨_, _, rfl, rfl, ⟨_, _, rfl, rfl, rfl⟩⟩⟩ := h
  exact rfl
theorem k41_openM {w : World} {base : Nat} {ok : Nat → Prop} {x : S41} {cs : List Value} (h : k41.M w base ok x cs) : cs = [.int .i64 x.f0, .int .u64 x.f1, .int .i64 x.f2, .string x.f3] := by
  obtain ⟨_, _, rfl, rfl, ⟨_, _, rfl, rfl, ⟨_, _, rfl, rfl, rfl⟩⟩⟩ := h
  exact rfl
theorem k41_mk (w : World) (x : S41)  : k41.K w x [.int .i64 x.f0, .int .u64 x.f1, .int .i64 x.f2, .string x.f3] := ⟨[.int .i64 x.f0], [.int .u64 x.f1, .int .i64 x.f2, .string x.f3], rfl, rfl, ⟨[.int .u64 x.f1], [.int .i64 x.f2, .string x.f3], rfl, rfl, ⟨[.int .i64 x.f2], [.string x.f3], rfl, rfl, rfl⟩⟩⟩
theorem k41_mkM (w : World) (base : Nat) (ok : Nat → Prop) (x : S41)  : k41.M w base ok x [.int .i64 x.f0, .int .u64 x.f1, .int .i64 x.f2, .string x.f3] := ⟨[.int .i64 x.f0], [.int .u64 x.f1, .int .i64 x.f2, .string x.f3], rfl, rfl, ⟨[.int .u64 x.f1], [.int .i64 x.f2, .string x.f3], rfl, rfl, ⟨[.int .i64 x.f2], [.string x.f3], rfl, rfl, rfl⟩⟩⟩
def rd_T41 (xs : List S41) (i : Int) : S41 := xs.getD i.toNat z41
theorem at_T41 {w : World} {A : Option Addr} {n : Nat} {xs : List S41} (h : Kd.C k41 w A n xs) (i : Int) (h0 : 0 ≤ i) (h1 : i < n) : ∃ ad , A = some ad ∧ w.cell? (ad.add (i.toNat * 4)) = some (.int .i64 (rd_T41 xs i).f0) ∧ w.cell? ⟨(ad.add (i.toNat * 4)).block, (ad.add (i.toNat * 4)).off + 1, none⟩ = some (.int .u64 (rd_T41 xs i).f1) ∧ w.cell? ⟨(ad.add (i.toNat * 4)).block, (ad.add (i.toNat * 4)).off + 2, none⟩ = some (.int .i64 (rd_T41 xs i).f2) ∧ w.cell? ⟨(ad.add (i.toNat * 4)).block, (ad.add (i.toNat * 4)).off + 3, none⟩ = some (.string (rd_T41 xs i).f3) := by
  obtain ⟨ad, c, e, _, hK, hc0⟩ := Kd.C_get h z41 i h0 h1
  have hc : ∀ j u, c[j]? = some u → w.cell? (ad.add (i.toNat * 4 + j)) = some u := hc0
  obtain rfl := k41_open hK
  exact ⟨ad, e, hc 0 _ rfl, by rw [← add_field _ _ 1 (by omega)]; exact hc 1 _ rfl, by rw [← add_field _ _ 2 (by omega)]; exact hc 2 _ rfl, by rw [← add_field _ _ 3 (by omega)]; exact hc 3 _ rfl⟩

def rd_L6 (xs : List (List S38)) (i : Int) : (List S38) := xs.getD i.toNat ([] : List S38)
theorem at_L6 {w : World} {A : Option Addr} {n : Nat} {xs : List (List S38)} (h : Kd.C (Kd.slice 38 k38) w A n xs) (i : Int) (h0 : 0 ≤ i) (h1 : i < n) : ∃ ad A0 c0, A = some ad ∧ w.cell? (ad.add i.toNat) = some (.slice A0 (rd_L6 xs i).length c0) ∧ (rd_L6 xs i).length ≤ c0 ∧ k38.C w A0 (rd_L6 xs i).length (rd_L6 xs i) := by
  obtain ⟨ad, c, e, _, hK, hc0⟩ := Kd.C_get h ([] : List S38) i h0 h1
  have hc : ∀ j u, c[j]? = some u → w.cell? (ad.add (i.toNat * 1 + j)) = some u := hc0
  obtain ⟨A0, c0, rfl, l0, g0⟩ := hK
  exact ⟨ad, A0, c0, e, by have hq := hc 0 _ rfl; rwa [Nat.mul_one, Nat.add_zero] at hq, l0, g0⟩

/-! #### struct type 44 -/
structure S44 where
  f0 : S38
  f1 : ByteArray
  f2 : Bool
  f3 : S38
  f4 : Bool
  f5 : Int
  f6 : S41
  f7 : (List S38)
def z44 : S44 := ⟨z38, (⟨#[]⟩ : ByteArray), false, z38, false, (0 : Int), z41, ([] : List S38)⟩
def k44 : Kd S44 := Kd.iso (Kd.pair k38 (Kd.pair Kd.string (Kd.pair Kd.bool (Kd.pair k38 (Kd.pair Kd.bool (Kd.pair (Kd.int .i64) (Kd.pair k41 (Kd.slice 38 k38)))))))) (fun x : S44 => (x.f0, x.f1, x.f2, x.f3, x.f4, x.f5, x.f6, x.f7))
theorem k44_open {w : World} {x : S44} {cs : List Value} (h : k44.K w x cs) : ∃ A12 c12, cs = [.int .i64 x.f0.f0, .string x.f0.f1, .string x.f1, .bool x.f2, .int .i64 x.f3.f0, .string x.f3.f1, .bool x.f4, .int .i64 x.f5, .int .i64 x.f6.f0, .int .u64 x.f6.f1, .int .i64 x.f6.f2, .string x.f6.f3, .slice A12 x.f7.length c12] ∧ x.f7.length ≤ c12 ∧ k38.C w A12 x.f7.length x.f7 := by
  obtain ⟨_, _, rfl, s0, ⟨_, _, rfl, rfl, ⟨_, _, rfl, rfl, ⟨_, _, rfl, s4, ⟨_, _, rfl, rfl, ⟨_, _, rfl, rfl, ⟨_, _, rfl, s8, ⟨A12, c12, rfl, l12, g12⟩⟩⟩⟩⟩⟩⟩⟩ := h
  obtain rfl := k38_open s0
  obtain rfl := k38_open s4
  obtain rfl := k41_open s8
  exact ⟨A12, c12, rfl, l12, g12⟩
theorem k44_openM {w : World} {base : Nat} {ok : Nat → Prop} {x : S44} {cs : List Value} (h : k44.M w base ok x cs) : ∃ v12, cs = [.int .i64 x.f0.f0, .string x.f0.f1, .string x.f1, .bool x.f2, .int .i64 x.f3.f0, .string x.f3.f1, .bool x.f4, .int .i64 x.f5, .int .i64 x.f6.f0, .int .u64 x.f6.f1, .int .i64 x.f6.f2, .string x.f6.f3, v12] ∧ k38.R 38 w base ok v12 x.f7 := by
  obtain ⟨_, _, rfl, s0, ⟨_, _, rfl, rfl, ⟨_, _, rfl, rfl, ⟨_, _, rfl, s4, ⟨_, _, rfl, rfl, ⟨_, _, rfl, rfl, ⟨_, _, rfl, s8, ⟨v12, rfl, g12⟩⟩⟩⟩⟩⟩⟩⟩ := h
  obtain rfl := k38_openM s0
  obtain rfl := k38_openM s4
  obtain rfl := k41_openM s8
  exact ⟨v12, rfl, g12⟩
theorem k44_mk (w : World) (x : S44) {A12 : Option Addr} {c12 : Nat} (l12 : x.f7.length ≤ c12) (g12 : k38.C w A12 x.f7.length x.f7) : k44.K w x [.int .i64 x.f0.f0, .string x.f0.f1, .string x.f1, .bool x.f2, .int .i64 x.f3.f0, .string x.f3.f1, .bool x.f4, .int .i64 x.f5, .int .i64 x.f6.f0, .int .u64 x.f6.f1, .int .i64 x.f6.f2, .string x.f6.f3, .slice A12 x.f7.length c12] := ⟨[.int .i64 x.f0.f0, .string x.f0.f1], [.string x.f1, .bool x.f2, .int .i64 x.f3.f0, .string x.f3.f1, .bool x.f4, .int .i64 x.f5, .int .i64 x.f6.f0, .int .u64 x.f6.f1, .int .i64 x.f6.f2, .string x.f6.f3, .slice A12 x.f7.length c12], rfl, (k38_mk w x.f0 ), ⟨[.string x.f1], [.bool x.f2, .int .i64 x.f3.f0, .string x.f3.f1, .bool x.f4, .int .i64 x.f5, .int .i64 x.f6.f0, .int .u64 x.f6.f1, .int .i64 x.f6.f2, .string x.f6.f3, .slice A12 x.f7.length c12], rfl, rfl, ⟨[.bool x.f2], [.int .i64 x.f3.f0, .string x.f3.f1, .bool x.f4, .int .i64 x.f5, .int .i64 x.f6.f0, .int .u64 x.f6.f1, .int .i64 x.f6.f2, .string x.f6.f3, .slice A12 x.f7.length c12], rfl, rfl, ⟨[.int .i64 x.f3.f0, .string x.f3.f1], [.bool x.f4, .int .i64 x.f5, .int .i64 x.f6.f0, .int .u64 x.f6.f1, .int .i64 x.f6.f2, .string x.f6.f3, .slice A12 x.f7.length c12], rfl, (k38_mk w x.f3 ), ⟨[.bool x.f4], [.int .i64 x.f5, .int .i64 x.f6.f0, .int .u64 x.f6.f1, .int .i64 x.f6.f2, .string x.f6.f3, .slice A12 x.f7.length c12], rfl, rfl, ⟨[.int .i64 x.f5], [.int .i64 x.f6.f0, .int .u64 x.f6.f1, .int .i64 x.f6.f2, .string x.f6.f3, .slice A12 x.f7.length c12], rfl, rfl, ⟨[.int .i64 x.f6.f0, .int .u64 x.f6.f1, .int .i64 x.f6.f2, .string x.f6.f3], [.slice A12 x.f7.length c12], rfl, (k41_mk w x.f6 ), ⟨A12, c12, rfl, l12, g12⟩⟩⟩⟩⟩⟩⟩⟩
theorem k44_mkM (w : World) (base : Nat) (ok : Nat → Prop) (x : S44) {v12 : Value} (g12 : k38.R 38 w base ok v12 x.f7) : k44.M w base ok x [.int .i64 x.f0.f0, .string x.f0.f1, .string x.f1, .bool x.f2, .int .i64 x.f3.f0, .string x.f3.f1, .bool x.f4, .int .i64 x.f5, .int .i64 x.f6.f0, .int .u64 x.f6.f1, .int .i64 x.f6.f2, .string x.f6.f3, v12] := ⟨[.int .i64 x.f0.f0, .string x.f0.f1], [.string x.f1, .bool x.f2, .int .i64 x.f3.f0, .string x.f3.f1, .bool x.f4, .int .i64 x.f5, .int .i64 x.f6.f0, .int .u64 x.f6.f1, .int .i64 x.f6.f2, .string x.f6.f3, v12], rfl, (k38_mkM w base ok x.f0 ), ⟨[.string x.f1], [.bool x.f2, .int .i64 x.f3.f0, .string x.f3.f1, .bool x.f4, .int .i64 x.f5, .int .i64 x.f6.f0, .int .u64 x.f6.f1, .int .i64 x.f6.f2, .string x.f6.f3, v12], rfl, rfl, ⟨[.bool x.f2], [.int .i64 x.f3.f0, .string x.f3.f1, .bool x.f4, .int .i64 x.f5, .int .i64 x.f6.f0, .int .u64 x.f6.f1, .int .i64 x.f6.f2, .string x.f6.f3, v12], rfl, rfl, ⟨[.int .i64 x.f3.f0, .string x.f3.f1], [.bool x.f4, .int .i64 x.f5, .int .i64 x.f6.f0, .int .u64 x.f6.f1, .int .i64 x.f6.f2, .string x.f6.f3, v12], rfl, (k38_mkM w base ok x.f3 ), ⟨[.bool x.f4], [.int .i64 x.f5, .int .i64 x.f6.f0, .int .u64 x.f6.f1, .int .i64 x.f6.f2, .string x.f6.f3, v12], rfl, rfl, ⟨[.int .i64 x.f5], [.int .i64 x.f6.f0, .int .u64 x.f6.f1, .int .i64 x.f6.f2, .string x.f6.f3, v12], rfl, rfl, ⟨[.int .i64 x.f6.f0, .int .u64 x.f6.f1, .int .i64 x.f6.f2, .string x.f6.f3], [v12], rfl, (k41_mkM w base ok x.f6 ), ⟨v12, rfl, g12⟩⟩⟩⟩⟩⟩⟩⟩
def rd_T44 (xs : List S44) (i : Int) : S44 := xs.getD i.toNat z44
theorem at_T44 {w : World} {A : Option Addr} {n : Nat} {xs : List S44} (h : Kd.C k44 w A n xs) (i : Int) (h0 : 0 ≤ i) (h1 : i < n) : ∃ ad A12 c12, A = some ad ∧ w.cell? (ad.add (i.toNat * 13)) = some (.int .i64 (rd_T44 xs i).f0.f0) ∧ w.cell? ⟨(ad.add (i.toNat * 13)).block, (ad.add (i.toNat * 13)).off + 1, none⟩ = some (.string (rd_T44 xs i).f0.f1) ∧ w.cell? ⟨(ad.add (i.toNat * 13)).block, (ad.add (i.toNat * 13)).off + 2, none⟩ = some (.string (rd_T44 xs i).f1) ∧ w.cell? ⟨(ad.add (i.toNat * 13)).block, (ad.add (i.toNat * 13)).off + 3, none⟩ = some (.bool (rd_T44 xs i).f2) ∧ w.cell? ⟨(ad.add (i.toNat * 13)).block, (ad.add (i.toNat * 13)).off + 4, none⟩ = some (.int .i64 (rd_T44 xs i).f3.f0) ∧ w.cell? ⟨(ad.add (i.toNat * 13)).block, (ad.add (i.toNat * 13)).off + 5, none⟩ = some (.string (rd_T44 xs i).f3.f1) ∧ w.cell? ⟨(ad.add (i.toNat * 13)).block, (ad.add (i.toNat * 13)).off + 6, none⟩ = some (.bool (rd_T44 xs i).f4) ∧ w.cell? ⟨(ad.add (i.toNat * 13)).block, (ad.add (i.toNat * 13)).off + 7, none⟩ = some (.int .i64 (rd_T44 xs i).f5) ∧ w.cell? ⟨(ad.add (i.toNat * 13)).block, (ad.add (i.toNat * 13)).off + 8, none⟩ = some (.int .i64 (rd_T44 xs i).f6.f0) ∧ w.cell? ⟨(ad.add (i.toNat * 13)).block, (ad.add (i.toNat * 13)).off + 9, none⟩ = some (.int .u64 (rd_T44 xs i).f6.f1) ∧ w.cell? ⟨(ad.add (i.toNat * 13)).block, (ad.add (i.toNat * 13)).off + 10, none⟩ = some (.int .i64 (rd_T44 xs i).f6.f2) ∧ w.cell? ⟨(ad.add (i.toNat * 13)).block, (ad.add (i.toNat * 13)).off + 11, none⟩ = some (.string (rd_T44 xs i).f6.f3) ∧ w.cell? ⟨(ad.add (i.toNat * 13)).block, (ad.add (i.toNat * 13)).off + 12, none⟩ = some (.slice A12 (rd_T44 xs i).f7.length c12) ∧ (rd_T44 xs i).f7.length ≤ c12 ∧ k38.C w A12 (rd_T44 xs i).f7.length (rd_T44 xs i).f7 := by
  obtain ⟨ad, c, e, _, hK, hc0⟩ := Kd.C_get h z44 i h0 h1
  have hc : ∀ j u, c[j]? = some u → w.cell? (ad.add (i.toNat * 13 + j)) = some u := hc0
  obtain ⟨A12, c12, rfl, l12, g12⟩ := k44_open hK
  exact ⟨ad, A12, c12, e, hc 0 _ rfl, by rw [← add_field _ _ 1 (by omega)]; exact hc 1 _ rfl, by rw [← add_field _ _ 2 (by omega)]; exact hc 2 _ rfl, by rw [← add_field _ _ 3 (by omega)]; exact hc 3 _ rfl, by rw [← add_field _ _ 4 (by omega)]; exact hc 4 _ rfl, by rw [← add_field _ _ 5 (by omega)]; exact hc 5 _ rfl, by rw [← add_field _ _ 6 (by omega)]; exact hc 6 _ rfl, by rw [← add_field _ _ 7 (by omega)]; exact hc 7 _ rfl, by rw [← add_field _ _ 8 (by omega)]; exact hc 8 _ rfl, by rw [← add_field _ _ 9 (by omega)]; exact hc 9 _ rfl, by rw [← add_field _ _ 10 (by omega)]; exact hc 10 _ rfl, by rw [← add_field _ _ 11 (by omega)]; exact hc 11 _ rfl, by rw [← add_field _ _ 12 (by omega)]; exact hc 12 _ rfl, l12, g12⟩

def rd_L8 (xs : List (List S44)) (i : Int) : (List S44) := xs.getD i.toNat ([] : List S44)
theorem at_L8 {w : World} {A : Option Addr} {n : Nat} {xs : List (List S44)} (h : Kd.C (Kd.slice 44 k44) w A n xs) (i : Int) (h0 : 0 ≤ i) (h1 : i < n) : ∃ ad A0 c0, A = some ad ∧ w.cell? (ad.add i.toNat) = some (.slice A0 (rd_L8 xs i).length c0) ∧ (rd_L8 xs i).length ≤ c0 ∧ k44.C w A0 (rd_L8 xs i).length (rd_L8 xs i) := by
  obtain ⟨ad, c, e, _, hK, hc0⟩ := Kd.C_get h ([] : List S44) i h0 h1
  have hc : ∀ j u, c[j]? = some u → w.cell? (ad.add (i.toNat * 1 + j)) = some u := hc0
  obtain ⟨A0, c0, rfl, l0, g0⟩ := hK
  exact ⟨ad, A0, c0, e, by have hq := hc 0 _ rfl; rwa [Nat.mul_one, Nat.add_zero] at hq, l0, g0⟩

def rd_L9 (xs : List (List ByteArray)) (i : Int) : (List ByteArray) := xs.getD i.toNat ([] : List ByteArray)
theorem at_L9 {w : World} {A : Option Addr} {n : Nat} {xs : List (List ByteArray)} (h : Kd.C (Kd.slice 9 Kd.string) w A n xs) (i : Int) (h0 : 0 ≤ i) (h1 : i < n) : ∃ ad A0 c0, A = some ad ∧ w.cell? (ad.add i.toNat) = some (.slice A0 (rd_L9 xs i).length c0) ∧ (rd_L9 xs i).length ≤ c0 ∧ Kd.string.C w A0 (rd_L9 xs i).length (rd_L9 xs i) := by
  obtain ⟨ad, c, e, _, hK, hc0⟩ := Kd.C_get h ([] : List ByteArray) i h0 h1
  have hc : ∀ j u, c[j]? = some u → w.cell? (ad.add (i.toNat * 1 + j)) = some u := hc0
  obtain ⟨A0, c0, rfl, l0, g0⟩ := hK
  exact ⟨ad, A0, c0, e, by have hq := hc 0 _ rfl; rwa [Nat.mul_one, Nat.add_zero] at hq, l0, g0⟩

def rd_L11 (xs : List (List Int)) (i : Int) : (List Int) := xs.getD i.toNat ([] : List Int)
theorem at_L11 {w : World} {A : Option Addr} {n : Nat} {xs : List (List Int)} (h : Kd.C (Kd.slice 5 (Kd.int .u8)) w A n xs) (i : Int) (h0 : 0 ≤ i) (h1 : i < n) : ∃ ad A0 c0, A = some ad ∧ w.cell? (ad.add i.toNat) = some (.slice A0 (rd_L11 xs i).length c0) ∧ (rd_L11 xs i).length ≤ c0 ∧ (Kd.int .u8).C w A0 (rd_L11 xs i).length (rd_L11 xs i) := by
  obtain ⟨ad, c, e, _, hK, hc0⟩ := Kd.C_get h ([] : List Int) i h0 h1
  have hc : ∀ j u, c[j]? = some u → w.cell? (ad.add (i.toNat * 1 + j)) = some u := hc0
  obtain ⟨A0, c0, rfl, l0, g0⟩ := hK
  exact ⟨ad, A0, c0, e, by have hq := hc 0 _ rfl; rwa [Nat.mul_one, Nat.add_zero] at hq, l0, g0⟩

/-! #### struct type 97 -/
structure S97 where
  f0 : Bool
  f1 : Int
def z97 : S97 := ⟨false, (0 : Int)⟩
def k97 : Kd S97 := Kd.iso (Kd.pair Kd.bool (Kd.int .i64)) (fun x : S97 => (x.f0, x.f1))
theorem k97_open {w : World} {x : S97} {cs : List Value} (h : k97.K w x cs) : cs = [.bool x.f0, .int .i64 x.f1] := by
  obtain ⟨_, _, rfl, rfl, rfl⟩ := h
  exact rfl
theorem k97_openM {w : World} {base : Nat} {ok : Nat → Prop} {x : S97} {cs : List Value} (h : k97.M w base ok x cs) : cs = [.bool x.f0, .int .i64 x.f1] := by
  obtain ⟨_, _, rfl, rfl, rfl⟩ := h
  exact rfl
theorem k97_mk (w : World) (x : S97)  : k97.K w x [.bool x.f0, .int .i64 x.f1] := ⟨[.bool x.f0], [.int .i64 x.f1], rfl, rfl, rfl⟩
theorem k97_mkM (w : World) (base : Nat) (ok : Nat → Prop) (x : S97)  : k97.M w base ok x [.bool x.f0, .int .i64 x.f1] := ⟨[.bool x.f0], [.int .i64 x.f1], rfl, rfl, rfl⟩
def rd_T97 (xs : List S97) (i : Int) : S97 := xs.getD i.toNat z97
theorem at_T97 {w : World} {A : Option Addr} {n : Nat} {xs : List S97} (h : Kd.C k97 w A n xs) (i : Int) (h0 : 0 ≤ i) (h1 : i < n) : ∃ ad , A = some ad ∧ w.cell? (ad.add (i.toNat * 2)) = some (.bool (rd_T97 xs i).f0) ∧ w.cell? ⟨(ad.add (i.toNat * 2)).block, (ad.add (i.toNat * 2)).off + 1, none⟩ = some (.int .i64 (rd_T97 xs i).f1) := by
  obtain ⟨ad, c, e, _, hK, hc0⟩ := Kd.C_get h z97 i h0 h1
  have hc : ∀ j u, c[j]? = some u → w.cell? (ad.add (i.toNat * 2 + j)) = some u := hc0
  obtain rfl := k97_open hK
  exact ⟨ad, e, hc 0 _ rfl, by rw [← add_field _ _ 1 (by omega)]; exact hc 1 _ rfl⟩

/-! #### struct type 100 -/
structure S100 where
  f0 : Bool
  f1 : ByteArray
def z100 : S100 := ⟨false, (⟨#[]⟩ : ByteArray)⟩
def k100 : Kd S100 := Kd.iso (Kd.pair Kd.bool Kd.string) (fun x : S100 => (x.f0, x.f1))
theorem k100_open {w : World} {x : S100} {cs : List Value} (h : k100.K w x cs) : cs = [.bool x.f0, .string x.f1] := by
  obtain ⟨_, _, rfl, rfl, rfl⟩ := h
  exact rfl
theorem k100_openM {w : World} {base : Nat} {ok : Nat → Prop} {x : S100} {cs : List Value} (h : k100.M w base ok x cs) : cs = [.bool x.f0, .string x.f1] := by
  obtain ⟨_, _, rfl, rfl, rfl⟩ := h
  exact rfl
theorem k100_mk (w : World) (x : S100)  : k100.K w x [.bool x.f0, .string x.f1] := ⟨[.bool x.f0], [.string x.f1], rfl, rfl, rfl⟩
theorem k100_mkM (w : World) (base : Nat) (ok : Nat → Prop) (x : S100)  : k100.M w base ok x [.bool x.f0, .string x.f1] := ⟨[.bool x.f0], [.string x.f1], rfl, rfl, rfl⟩
def rd_T100 (xs : List S100) (i : Int) : S100 := xs.getD i.toNat z100
theorem at_T100 {w : World} {A : Option Addr} {n : Nat} {xs : List S100} (h : Kd.C k100 w A n xs) (i : Int) (h0 : 0 ≤ i) (h1 : i < n) : ∃ ad , A = some ad ∧ w.cell? (ad.add (i.toNat * 2)) = some (.bool (rd_T100 xs i).f0) ∧ w.cell? ⟨(ad.add (i.toNat * 2)).block, (ad.add (i.toNat * 2)).off + 1, none⟩ = some (.string (rd_T100 xs i).f1) := by
  obtain ⟨ad, c, e, _, hK, hc0⟩ := Kd.C_get h z100 i h0 h1
  have hc : ∀ j u, c[j]? = some u → w.cell? (ad.add (i.toNat * 2 + j)) = some u := hc0
  obtain rfl := k100_open hK
  exact ⟨ad, e, hc 0 _ rfl, by rw [← add_field _ _ 1 (by omega)]; exact hc 1 _ rfl⟩

/-! #### struct type 164 -/
structure S164 where
  f0 : Bool
  f1 : ByteArray
def z164 : S164 := ⟨false, (⟨#[]⟩ : ByteArray)⟩
def k164 : Kd S164 := Kd.iso (Kd.pair Kd.bool Kd.string) (fun x : S164 => (x.f0, x.f1))
theorem k164_open {w : World} {x : S164} {cs : List Value} (h : k164.K w x cs) : cs = [.bool x.f0, .string x.f1] := by
  obtain ⟨_, _, rfl, rfl, rfl⟩ := h
  exact rfl
theorem k164_openM {w : World} {base : Nat} {ok : Nat → Prop} {x : S164} {cs : List Value} (h : k164.M w base ok x cs) : cs = [.bool x.f0, .string x.f1] := by
  obtain ⟨_, _, rfl, rfl, rfl⟩ := h
  exact rfl
theorem k164_mk (w : World) (x : S164)  : k164.K w x [.bool x.f0, .string x.f1] := ⟨[.bool x.f0], [.string x.f1], rfl, rfl, rfl⟩
theorem k164_mkM (w : World) (base : Nat) (ok : Nat → Prop) (x : S164)  : k164.M w base ok x [.bool x.f0, .string x.f1] := ⟨[.bool x.f0], [.string x.f1], rfl, rfl, rfl⟩
def rd_T164 (xs : List S164) (i : Int) : S164 := xs.getD i.toNat z164
theorem at_T164 {w : World} {A : Option Addr} {n : Nat} {xs : List S164} (h : Kd.C k164 w A n xs) (i : Int) (h0 : 0 ≤ i) (h1 : i < n) : ∃ ad , A = some ad ∧ w.cell? (ad.add (i.toNat * 2)) = some (.bool (rd_T164 xs i).f0) ∧ w.cell? ⟨(ad.add (i.toNat * 2)).block, (ad.add (i.toNat * 2)).off + 1, none⟩ = some (.string (rd_T164 xs i).f1) := by
  obtain ⟨ad, c, e, _, hK, hc0⟩ := Kd.C_get h z164 i h0 h1
  have hc : ∀ j u, c[j]? = some u → w.cell? (ad.add (i.toNat * 2 + j)) = some u := hc0
  obtain rfl := k164_open hK
  exact ⟨ad, e, hc 0 _ rfl, by rw [← add_field _ _ 1 (by omega)]; exact hc 1 _ rfl⟩

end Go.Proofs.Ytamihmofmjkfoaa.Q
end

/-! ## QE38 -/
section
-- By myprint.py, out of the translation, by way of the kit's print.
namespace Go.Proofs.Ytamihmofmjkfoaa.Q
open Go.RowKit Go.Proofs.YtamihmofmjkfoaaW.PrintWords Go.Proofs.YtamihmofmjkfoaaW.PrintLast Go.Proofs.YtamihmofmjkfoaaW.PrintMore
attribute [local go_sem] max2_int min2_int max_two min_two max_three min_three max_four min_four   -- for this text's walks alone
set_option linter.unusedVariables false
set_option linter.unusedSimpArgs false

theorem eqA38 (d : Nat) (w : World) (x0 y0 : Int) (x1 y1 : ByteArray) :
    (Op.equalIn (d + 2) 38 (.agg #[.int .i64 x0, .string x1]) (.agg #[.int .i64 y0, .string y1])).run Try.prog w = .ok (x0 == y0 && (x1.toList == y1.toList)) w := by
  refine eqA_of Try.underlying38 (by kernel_rfl) ?_
  refine eqf_cons (by rfl) (by go_simp; rfl) (by go_simp; rfl) (by go_simp) ?_
  exact eqf_last (by rfl) (by go_simp; rfl) (by go_simp; rfl) (by go_simp)
end Go.Proofs.Ytamihmofmjkfoaa.Q
end

/-! ## Q97 -/
section
-- By myprint.py, out of the translation, by way of the kit's print.
namespace Go.Proofs.Ytamihmofmjkfoaa.Q
open Go.RowKit Go.Proofs.YtamihmofmjkfoaaW.PrintWords Go.Proofs.YtamihmofmjkfoaaW.PrintLast Go.Proofs.YtamihmofmjkfoaaW.PrintMore
attribute [local go_sem] max2_int min2_int max_two min_two max_three min_three max_four min_four   -- for this text's walks alone
set_option linter.unusedVariables false
set_option linter.unusedSimpArgs false

attribute [local go_sem high] eqA38
/-! ### op_Zero: function 97 -/
def op_Zero.f (a0_0 : Int) (a0_1 : ByteArray) : Option (Bool) := some (a0_0 == 0 && (a0_1.toList == ([] : List UInt8)))
set_option maxHeartbeats 8000000 in
set_option maxRecDepth 100000 in
theorem op_Zero.calls (a0_0 : Int) (a0_1 : ByteArray) (r : Bool) (w : World) (h : op_Zero.f a0_0 a0_1 = some r) :
    Calls Try.prog 97 #[.agg #[.int .i64 a0_0, .string a0_1]] w fun e w' => e = .returned (.bool r) ∧ Below w.heap.size w w' := by
  have hu38 := Try.underlying38
  have HB := Aside0.mk (Below.refl w.heap.size w)
  have H : (some (a0_0 == 0 && (a0_1.toList == ([] : List UInt8)))) = some r := h
  clear h
  obtain rfl := Option.some.inj H
  go_enter Try.func97, Try.ntmps97
  go_wp2_with (first | ((with_reducible refine gate_dst (N := 1) rfl ?_); refine box_event ?hg (N := 1) ?hd (cs := #[.int .i64 a0_0, .string a0_1]) (t := 38) ?hr ?_; (case hd => rfl); (case hg => rfl); (case hr => first | (go_simp; done) | (go_simp; rfl)); intro gb101 hg w2 hbox hb; have n0_ := Aside0.mk (below_step (by repeat (first | (with_reducible first | exact HB.out | apply below_alloc | apply pw_below_drewN | apply below_drew1) | exact HB.out)) hb); have n1_ := Aside0.mk (hbox); have n2_ := Aside0.mk ((by rw [hg]; exact (below_size (by repeat (first | (with_reducible first | exact HB.out | apply below_alloc | apply pw_below_drewN | apply below_drew1) | exact HB.out))) : w.heap.size ≤ gb101)); have n3_ := Aside0.mk ((by rw [hg]; exact (below_size (by repeat (first | (with_reducible first | exact HB.out | apply below_alloc | apply pw_below_drewN | apply below_drew1) | exact HB.out))) : w.heap.size ≤ gb101)); clear HB; have HB := n0_; have BK101 := n1_; have GW101 := n2_; have GE101 := n3_; clear n0_ n1_ n2_ n3_; clear hb hbox hg; have hcz3_0 : w2.cell? ⟨gb101, 0, none⟩ = some (.int .i64 a0_0) := (blk_cell BK101.out 0).trans rfl; have hcz3_1 : w2.cell? ⟨gb101, 1, none⟩ = some (.string a0_1) := (blk_cell BK101.out 1).trans rfl; have hfz3_0 := blk_frozen BK101.out 0; have hfz3_1 := blk_frozen BK101.out 1))
  go_ret
  exact ⟨by first | rfl | (simp [errW_none, errW_some] <;> rfl) | (simp [*, errW_none, errW_some] <;> rfl), by repeat (first | (with_reducible first | exact HB.out | apply below_alloc | apply pw_below_drewN | apply below_drew1 | refine below_set ?_ GE101.out) | exact HB.out)⟩

end Go.Proofs.Ytamihmofmjkfoaa.Q
end

/-! ## Q56 -/
section
-- By myprint.py, out of the translation, by way of the kit's print.
namespace Go.Proofs.Ytamihmofmjkfoaa.Q
open Go.RowKit Go.Proofs.YtamihmofmjkfoaaW.PrintWords Go.Proofs.YtamihmofmjkfoaaW.PrintLast Go.Proofs.YtamihmofmjkfoaaW.PrintMore
attribute [local go_sem] max2_int min2_int max_two min_two max_three min_three max_four min_four   -- for this text's walks alone
set_option linter.unusedVariables false
set_option linter.unusedSimpArgs false

/-! ### op_Names: function 56 -/
mutual
def op_Names.l0 : Nat → List (S38) → List (S44) → Int → Int → Option ((List (S38)))
  | 0, _, _, _, _ => none
  | k + 1, x3, x8, x9, x10 => if x10 < x9 then (if 0 ≤ x10 then (if x10 < (x8.length : Int) then ((some (([(⟨(rd_T44 x8 x10).f0.f0, (rd_T44 x8 x10).f0.f1⟩ : S38), (⟨(rd_T44 x8 x10).f3.f0, (rd_T44 x8 x10).f3.f1⟩ : S38)] : List (S38)) : List (S38))).bind fun y103 => (if y103.length + ((rd_T44 x8 x10).f7).length < 5864062014805 then ((some (y103 ++ ((rd_T44 x8 x10).f7) : List (S38))).bind fun y106 => (op_Names.l1 k x3 x8 x9 x10 y106 (y106.length : Int) 0)) else (none))) else (none)) else (none)) else (some x3)
def op_Names.l1 : Nat → List (S38) → List (S44) → Int → Int → List (S38) → Int → Int → Option ((List (S38)))
  | 0, _, _, _, _, _, _, _ => none
  | k + 1, x3, x8, x9, x10, x21, x22, x23 => if x23 < x22 then (if 0 ≤ x23 then (if x23 < (x21.length : Int) then ((op_Zero.f ((rd_T38 x21 x23).f0) ((rd_T38 x21 x23).f1)).bind fun t111 => (if t111 = true then (op_Names.l1 k x3 x8 x9 x10 x21 x22 (wrap64 (x23 + 1))) else (if x3.length < 5864062014805 then (op_Names.l1 k (x3 ++ [(⟨(rd_T38 x21 x23).f0, (rd_T38 x21 x23).f1⟩ : S38)]) x8 x9 x10 x21 x22 (wrap64 (x23 + 1))) else (none)))) else (none)) else (none)) else (op_Names.l0 k x3 x8 x9 (wrap64 (x10 + 1)))
end
def op_Names.f (k : Nat) (l0 : List (S44)) : Option ((List (S38))) := op_Names.l0 k ([] : List (S38)) l0 (l0.length : Int) 0
theorem op_Names.mono_l : ∀ k, (∀ y0 y1 y2 y3, LeO (op_Names.l0 k y0 y1 y2 y3) (op_Names.l0 (k + 1) y0 y1 y2 y3)) ∧ (∀ y0 y1 y2 y3 y4 y5 y6, LeO (op_Names.l1 k y0 y1 y2 y3 y4 y5 y6) (op_Names.l1 (k + 1) y0 y1 y2 y3 y4 y5 y6))
  | 0 => ⟨fun _ _ _ _ r h => by simp [op_Names.l0] at h, fun _ _ _ _ _ _ _ r h => by simp [op_Names.l1] at h⟩
  | k + 1 => by
    obtain ⟨ih0, ih1⟩ := op_Names.mono_l k
    refine ⟨?_, ?_⟩
    · intro y0 y1 y2 y3
      unfold op_Names.l0
      repeat' first
      | (with_reducible exact ih0 _ _ _ _)
      | (with_reducible exact ih1 _ _ _ _ _ _ _)
      | (with_reducible exact LeO.refl _)
      | (with_reducible exact LeO.none _)
      | (with_reducible refine LeO.ite ?_ ?_)
      | (with_reducible refine LeO.bind ?_ (fun _ => ?_))
      | exact ih0 _ _ _ _
      | exact ih1 _ _ _ _ _ _ _
      | exact LeO.none _
      | refine LeO.ite ?_ ?_
      | refine LeO.bind ?_ (fun _ => ?_)
    · intro y0 y1 y2 y3 y4 y5 y6
      unfold op_Names.l1
      repeat' first
      | (with_reducible exact ih0 _ _ _ _)
      | (with_reducible exact ih1 _ _ _ _ _ _ _)
      | (with_reducible exact LeO.refl _)
      | (with_reducible exact LeO.none _)
      | (with_reducible refine LeO.ite ?_ ?_)
      | (with_reducible refine LeO.bind ?_ (fun _ => ?_))
      | exact ih0 _ _ _ _
      | exact ih1 _ _ _ _ _ _ _
      | exact LeO.none _
      | refine LeO.ite ?_ ?_
      | refine LeO.bind ?_ (fun _ => ?_)
theorem op_Names.mono : ∀ a0 k, LeO (op_Names.f k a0) (op_Names.f (k + 1) a0) := by
  intro a0 k
  obtain ⟨ih0, ih1⟩ := op_Names.mono_l k
  unfold op_Names.f
  repeat' first
      | (with_reducible exact ih0 _ _ _ _)
      | (with_reducible exact ih1 _ _ _ _ _ _ _)
      | (with_reducible exact LeO.refl _)
      | (with_reducible exact LeO.none _)
      | (with_reducible refine LeO.ite ?_ ?_)
      | (with_reducible refine LeO.bind ?_ (fun _ => ?_))
      | exact ih0 _ _ _ _
      | exact ih1 _ _ _ _ _ _ _
      | exact LeO.none _
      | refine LeO.ite ?_ ?_
      | refine LeO.bind ?_ (fun _ => ?_)
set_option maxHeartbeats 8000000 in
set_option maxRecDepth 100000 in
theorem op_Names.calls (k : Nat) (A0 : Option Addr) (c0 : Nat) (l0 : List (S44)) (r : List (S38)) (w : World) (hr0 : Kd.C k44 w A0 l0.length l0) (hc0 : l0.length ≤ c0) (h : op_Names.f k l0 = some r) :
    Calls Try.prog 56 #[.slice A0 l0.length c0] w fun e w' => ∃ v0_ : Value, e = .returned (v0_) ∧ Kd.R k38 38 w' w.heap.size (fun _ => True) v0_ r ∧ Below w.heap.size w w' := by
  have hu44 := Try.underlying44
  have hu38 := Try.underlying38
  have HR0 := Aside0.mk hr0
  have HC0 := Aside0.mk hc0
  clear hr0 hc0
  have HB := Aside0.mk (Below.refl w.heap.size w)
  have H : (op_Names.l0 k ([] : List (S38)) l0 (l0.length : Int) 0) = some r := h
  clear h
  have H' := Aside0.mk H
  clear H
  go_enter Try.func56, Try.ntmps56
  go_wp2
  go_loopg [3, 10] k (fun kq v3 v10 w' => ∃ (x3_1 : List (S38)) (x10_1 : Int), v10 = .int .i64 x10_1 ∧ Aside0 (op_Names.l0 kq x3_1 l0 (l0.length : Int) x10_1 = some r) ∧ Aside0 (kq ≤ k) ∧ Aside0 (Kd.R k38 38 w' w.heap.size (fun _ => True) v3 x3_1) ∧ Aside0 (Below w.heap.size w w'))
  case atStart => exact ⟨(([] : List (S38))), (0), (by first | rfl | (simp; done) | (simp [*]; done)), H', ⟨Nat.le_refl _⟩, ⟨by first | exact Kd.R_nil _ _ _ _ _ | exact Kd.N_nil _ _ _ _ _ | exact Kd.V_nil _ _ _ _ _ | exact Kd.Q_nil _ _ _ _ _ | exact Kd.S_nil _ _ _ _ _⟩, ⟨by repeat (first | (with_reducible first | exact HB.out | apply below_alloc | apply pw_below_drewN | apply below_drew1) | exact HB.out)⟩⟩
  case round =>
    clear H'
    obtain ⟨x3_1, x10_1, rfl, HA, HK1, HO_3, HB⟩ := hrel
    cases gk with
    | zero => exact absurd HA.out (by simp [op_Names.l0])
    | succ k1 =>
      have H := HA.out
      clear HA
      simp only [op_Names.l0] at H
      by_cases c2 : x10_1 < (l0.length : Int)
      · rw [if_pos c2] at H
        have c2b0 : decide (x10_1 < (l0.length : Int)) = true := decide_eq_true c2
        clear c2
        by_cases c3 : 0 ≤ x10_1
        · rw [if_pos c3] at H
          have c3b0 : decide (0 ≤ x10_1) = true := decide_eq_true c3
          clear c3
          by_cases c4 : x10_1 < (l0.length : Int)
          · rw [if_pos c4] at H
            have c4b0 : decide (x10_1 < (l0.length : Int)) = true := decide_eq_true c4
            clear c4
            obtain ⟨y103, hy103⟩ : ∃ y_ : List (S38), y_ = (([(⟨(rd_T44 l0 x10_1).f0.f0, (rd_T44 l0 x10_1).f0.f1⟩ : S38), (⟨(rd_T44 l0 x10_1).f3.f0, (rd_T44 l0 x10_1).f3.f1⟩ : S38)] : List (S38))) := ⟨_, rfl⟩
            replace H : (if y103.length + ((rd_T44 l0 x10_1).f7).length < 5864062014805 then ((some (y103 ++ ((rd_T44 l0 x10_1).f7) : List (S38))).bind fun y106 => (op_Names.l1 k1 x3_1 l0 (l0.length : Int) x10_1 y106 (y106.length : Int) 0)) else (none)) = some r := by first | (rw [hy103]; with_reducible exact H) | (have H2_ := (Option.bind_some _ _).symm.trans H; rw [hy103]; with_reducible exact H2_) | (have H2_ := (Option.bind_some _ _).symm.trans H; with_reducible exact H2_) | with_reducible exact H | (rw [hy103]; exact H) | exact H
            have Ny103 := Aside0.mk hy103
            clear hy103
            by_cases c5 : y103.length + ((rd_T44 l0 x10_1).f7).length < 5864062014805
            · rw [if_pos c5] at H
              have LMc5 := Aside0.mk c5
              clear c5
              obtain ⟨y106, hy106⟩ : ∃ y_ : List (S38), y_ = (y103 ++ ((rd_T44 l0 x10_1).f7)) := ⟨_, rfl⟩
              replace H : (op_Names.l1 k1 x3_1 l0 (l0.length : Int) x10_1 y106 (y106.length : Int) 0) = some r := by first | (rw [hy106]; with_reducible exact H) | (have H2_ := (Option.bind_some _ _).symm.trans H; rw [hy106]; with_reducible exact H2_) | (have H2_ := (Option.bind_some _ _).symm.trans H; with_reducible exact H2_) | with_reducible exact H | (rw [hy106]; exact H) | exact H
              have Ny106 := Aside0.mk hy106
              clear hy106
              have H' := Aside0.mk H
              clear H
              have p101 : 0 ≤ (x10_1 : Int) := of_decide_eq_true (by first | (with_reducible assumption) | assumption)
              have q101 : x10_1 < (l0.length : Int) := of_decide_eq_true (by first | (with_reducible assumption) | assumption)
              obtain ⟨ad101, A101_12, c101_12, e101, hx101_0, hx101_1, hx101_2, hx101_3, hx101_4, hx101_5, hx101_6, hx101_7, hx101_8, hx101_9, hx101_10, hx101_11, hx101_12, hl101_12, hi101_12⟩ := at_T44 HR0.out x10_1 p101 q101
              cases e101
              replace hx101_0 := (HB.out.cell (World.block_lt_of_cell? w _ hx101_0)).trans hx101_0
              replace hx101_1 := (HB.out.cell (World.block_lt_of_cell? w _ hx101_1)).trans hx101_1
              replace hx101_2 := (HB.out.cell (World.block_lt_of_cell? w _ hx101_2)).trans hx101_2
              replace hx101_3 := (HB.out.cell (World.block_lt_of_cell? w _ hx101_3)).trans hx101_3
              replace hx101_4 := (HB.out.cell (World.block_lt_of_cell? w _ hx101_4)).trans hx101_4
              replace hx101_5 := (HB.out.cell (World.block_lt_of_cell? w _ hx101_5)).trans hx101_5
              replace hx101_6 := (HB.out.cell (World.block_lt_of_cell? w _ hx101_6)).trans hx101_6
              replace hx101_7 := (HB.out.cell (World.block_lt_of_cell? w _ hx101_7)).trans hx101_7
              replace hx101_8 := (HB.out.cell (World.block_lt_of_cell? w _ hx101_8)).trans hx101_8
              replace hx101_9 := (HB.out.cell (World.block_lt_of_cell? w _ hx101_9)).trans hx101_9
              replace hx101_10 := (HB.out.cell (World.block_lt_of_cell? w _ hx101_10)).trans hx101_10
              replace hx101_11 := (HB.out.cell (World.block_lt_of_cell? w _ hx101_11)).trans hx101_11
              replace hx101_12 := (HB.out.cell (World.block_lt_of_cell? w _ hx101_12)).trans hx101_12
              have HR101_12 := Aside0.mk hi101_12
              have HC101_12 := Aside0.mk hl101_12
              clear hi101_12 hl101_12
              replace p101 := eq_true p101
              replace q101 := eq_true q101
              go_wp2_with (first | ((with_reducible refine gate_dst (N := 5) rfl ?_); refine box_event ?hg (N := 5) ?hd (cs := #[.int .i64 0, .string (⟨#[]⟩ : ByteArray), .string (⟨#[]⟩ : ByteArray), .bool false, .int .i64 0, .string (⟨#[]⟩ : ByteArray), .bool false, .int .i64 0, .int .i64 0, .int .u64 0, .int .i64 0, .string (⟨#[]⟩ : ByteArray), .slice none 0 0]) (t := 44) ?hr ?_; (case hd => rfl); (case hg => rfl); (case hr => first | (go_simp; done) | (go_simp; rfl)); intro gb102 hg w6 hbox hb; have n0_ := Aside0.mk (Kd.R_below (by (with_reducible repeat (first | apply Kd.R_alloc | apply Kd.R_drewN | apply Kd.R_drew)); exact HO_3.out) hb); have n1_ := Aside0.mk (below_step (by repeat (first | (with_reducible first | exact HB.out | apply below_alloc | apply pw_below_drewN | apply below_drew1) | exact HB.out)) hb); have n2_ := Aside0.mk (hbox); have n3_ := Aside0.mk ((by rw [hg]; exact (below_size (by repeat (first | (with_reducible first | exact HB.out | apply below_alloc | apply pw_below_drewN | apply below_drew1) | exact HB.out))) : w.heap.size ≤ gb102)); have n4_ := Aside0.mk ((by rw [hg]; exact (below_size (by repeat (first | (with_reducible first | exact HB.out | apply below_alloc | apply pw_below_drewN | apply below_drew1) | exact HB.out))) : w.heap.size ≤ gb102)); clear HO_3; clear HB; have HO_3 := n0_; have HB := n1_; have BK102 := n2_; have GW102 := n3_; have GE102 := n4_; clear n0_ n1_ n2_ n3_ n4_; clear hb hbox hg; have hcz7_0 : w6.cell? ⟨gb102, 0, none⟩ = some (.int .i64 0) := (blk_cell BK102.out 0).trans rfl; have hcz7_1 : w6.cell? ⟨gb102, 1, none⟩ = some (.string (⟨#[]⟩ : ByteArray)) := (blk_cell BK102.out 1).trans rfl; have hcz7_2 : w6.cell? ⟨gb102, 2, none⟩ = some (.string (⟨#[]⟩ : ByteArray)) := (blk_cell BK102.out 2).trans rfl; have hcz7_3 : w6.cell? ⟨gb102, 3, none⟩ = some (.bool false) := (blk_cell BK102.out 3).trans rfl; have hcz7_4 : w6.cell? ⟨gb102, 4, none⟩ = some (.int .i64 0) := (blk_cell BK102.out 4).trans rfl; have hcz7_5 : w6.cell? ⟨gb102, 5, none⟩ = some (.string (⟨#[]⟩ : ByteArray)) := (blk_cell BK102.out 5).trans rfl; have hcz7_6 : w6.cell? ⟨gb102, 6, none⟩ = some (.bool false) := (blk_cell BK102.out 6).trans rfl; have hcz7_7 : w6.cell? ⟨gb102, 7, none⟩ = some (.int .i64 0) := (blk_cell BK102.out 7).trans rfl; have hcz7_8 : w6.cell? ⟨gb102, 8, none⟩ = some (.int .i64 0) := (blk_cell BK102.out 8).trans rfl; have hcz7_9 : w6.cell? ⟨gb102, 9, none⟩ = some (.int .u64 0) := (blk_cell BK102.out 9).trans rfl; have hcz7_10 : w6.cell? ⟨gb102, 10, none⟩ = some (.int .i64 0) := (blk_cell BK102.out 10).trans rfl; have hcz7_11 : w6.cell? ⟨gb102, 11, none⟩ = some (.string (⟨#[]⟩ : ByteArray)) := (blk_cell BK102.out 11).trans rfl; have hcz7_12 : w6.cell? ⟨gb102, 12, none⟩ = some (.slice none 0 0) := (blk_cell BK102.out 12).trans rfl; have hfz7_0 := blk_frozen BK102.out 0; have hfz7_1 := blk_frozen BK102.out 1; have hfz7_2 := blk_frozen BK102.out 2; have hfz7_3 := blk_frozen BK102.out 3; have hfz7_4 := blk_frozen BK102.out 4; have hfz7_5 := blk_frozen BK102.out 5; have hfz7_6 := blk_frozen BK102.out 6; have hfz7_7 := blk_frozen BK102.out 7; have hfz7_8 := blk_frozen BK102.out 8; have hfz7_9 := blk_frozen BK102.out 9; have hfz7_10 := blk_frozen BK102.out 10; have hfz7_11 := blk_frozen BK102.out 11; have hfz7_12 := blk_frozen BK102.out 12) | ((with_reducible refine gate_dst (N := 18) rfl ?_); refine Kd.R_lit k38 _ 38 ?hg (N := 18) ?hd (xs := ([(⟨(rd_T44 l0 x10_1).f0.f0, (rd_T44 l0 x10_1).f0.f1⟩ : S38), (⟨(rd_T44 l0 x10_1).f3.f0, (rd_T44 l0 x10_1).f3.f1⟩ : S38)] : List (S38))) (inner := [.int .i64 ((rd_T44 l0 x10_1).f0.f0), .string ((rd_T44 l0 x10_1).f0.f1), .int .i64 ((rd_T44 l0 x10_1).f3.f0), .string ((rd_T44 l0 x10_1).f3.f1)]) (ok := fun _ => True) (okp := fun _ => True) ?hr ?hp (fun _ hk => hk) trivial (Below.refl _ _) (Nat.le_refl _) (by simp) ?_; (case hd => rfl); (case hg => rfl); (case hr => first | (go_simp; done) | (go_simp; rfl)); (case hp => exact (Reps.c2 (show Kd.M k38 _ _ _ (⟨(rd_T44 l0 x10_1).f0.f0, (rd_T44 l0 x10_1).f0.f1⟩ : S38) [.int .i64 ((rd_T44 l0 x10_1).f0.f0), .string ((rd_T44 l0 x10_1).f0.f1)] from (k38_mkM _ _ _ (⟨(rd_T44 l0 x10_1).f0.f0, (rd_T44 l0 x10_1).f0.f1⟩ : S38) )) (Reps.c2 (show Kd.M k38 _ _ _ (⟨(rd_T44 l0 x10_1).f3.f0, (rd_T44 l0 x10_1).f3.f1⟩ : S38) [.int .i64 ((rd_T44 l0 x10_1).f3.f0), .string ((rd_T44 l0 x10_1).f3.f1)] from (k38_mkM _ _ _ (⟨(rd_T44 l0 x10_1).f3.f0, (rd_T44 l0 x10_1).f3.f1⟩ : S38) )) (Reps.none _ _)))); intro v104 w8 ho9 hb hg_ hnew_; clear hg_ hnew_; (first | rw [← Ny103.out] at ho9 | (simp only [Int.reduceToNat] at ho9; rw [← Ny103.out] at ho9)); have n0_ := Aside0.mk (Kd.R_elder' (by (with_reducible repeat (first | apply Kd.R_alloc | apply Kd.R_drewN | apply Kd.R_drew)); exact (Kd.R_mono (Kd.R_far (p := ⟨gb102, 12, none⟩) (Kd.R_far (p := ⟨gb102, 11, none⟩) (Kd.R_far (p := ⟨gb102, 10, none⟩) (Kd.R_far (p := ⟨gb102, 9, none⟩) (Kd.R_far (p := ⟨gb102, 8, none⟩) (Kd.R_far (p := ⟨gb102, 7, none⟩) (Kd.R_far (p := ⟨gb102, 6, none⟩) (Kd.R_far (p := ⟨gb102, 5, none⟩) (Kd.R_far (p := ⟨gb102, 4, none⟩) (Kd.R_far (p := ⟨gb102, 3, none⟩) (Kd.R_far (p := ⟨gb102, 2, none⟩) (Kd.R_far (p := ⟨gb102, 1, none⟩) (Kd.R_far (p := ⟨gb102, 0, none⟩) (Kd.R_types HO_3.out BK102.out (by decide)) (fun _ hk => hk.2) (.int .i64 ((rd_T44 l0 x10_1).f0.f0))) (fun _ hk => hk.2) (.string ((rd_T44 l0 x10_1).f0.f1))) (fun _ hk => hk.2) (.string ((rd_T44 l0 x10_1).f1))) (fun _ hk => hk.2) (.bool ((rd_T44 l0 x10_1).f2))) (fun _ hk => hk.2) (.int .i64 ((rd_T44 l0 x10_1).f3.f0))) (fun _ hk => hk.2) (.string ((rd_T44 l0 x10_1).f3.f1))) (fun _ hk => hk.2) (.bool ((rd_T44 l0 x10_1).f4))) (fun _ hk => hk.2) (.int .i64 ((rd_T44 l0 x10_1).f5))) (fun _ hk => hk.2) (.int .i64 ((rd_T44 l0 x10_1).f6.f0))) (fun _ hk => hk.2) (.int .u64 ((rd_T44 l0 x10_1).f6.f1))) (fun _ hk => hk.2) (.int .i64 ((rd_T44 l0 x10_1).f6.f2))) (fun _ hk => hk.2) (.string ((rd_T44 l0 x10_1).f6.f3))) (fun _ hk => hk.2) (.slice A101_12 ((rd_T44 l0 x10_1).f7).length c101_12)) (fun _ h_ => h_.1))) (Kd.R_base ho9) hb); have n1_ := Aside0.mk (Kd.R_lower (Kd.R_new' ho9 (Kd.R_lt (by (with_reducible repeat (first | apply Kd.R_alloc | apply Kd.R_drewN | apply Kd.R_drew)); exact (Kd.R_mono (Kd.R_far (p := ⟨gb102, 12, none⟩) (Kd.R_far (p := ⟨gb102, 11, none⟩) (Kd.R_far (p := ⟨gb102, 10, none⟩) (Kd.R_far (p := ⟨gb102, 9, none⟩) (Kd.R_far (p := ⟨gb102, 8, none⟩) (Kd.R_far (p := ⟨gb102, 7, none⟩) (Kd.R_far (p := ⟨gb102, 6, none⟩) (Kd.R_far (p := ⟨gb102, 5, none⟩) (Kd.R_far (p := ⟨gb102, 4, none⟩) (Kd.R_far (p := ⟨gb102, 3, none⟩) (Kd.R_far (p := ⟨gb102, 2, none⟩) (Kd.R_far (p := ⟨gb102, 1, none⟩) (Kd.R_far (p := ⟨gb102, 0, none⟩) (Kd.R_types HO_3.out BK102.out (by decide)) (fun _ hk => hk.2) (.int .i64 ((rd_T44 l0 x10_1).f0.f0))) (fun _ hk => hk.2) (.string ((rd_T44 l0 x10_1).f0.f1))) (fun _ hk => hk.2) (.string ((rd_T44 l0 x10_1).f1))) (fun _ hk => hk.2) (.bool ((rd_T44 l0 x10_1).f2))) (fun _ hk => hk.2) (.int .i64 ((rd_T44 l0 x10_1).f3.f0))) (fun _ hk => hk.2) (.string ((rd_T44 l0 x10_1).f3.f1))) (fun _ hk => hk.2) (.bool ((rd_T44 l0 x10_1).f4))) (fun _ hk => hk.2) (.int .i64 ((rd_T44 l0 x10_1).f5))) (fun _ hk => hk.2) (.int .i64 ((rd_T44 l0 x10_1).f6.f0))) (fun _ hk => hk.2) (.int .u64 ((rd_T44 l0 x10_1).f6.f1))) (fun _ hk => hk.2) (.int .i64 ((rd_T44 l0 x10_1).f6.f2))) (fun _ hk => hk.2) (.string ((rd_T44 l0 x10_1).f6.f3))) (fun _ hk => hk.2) (.slice A101_12 ((rd_T44 l0 x10_1).f7).length c101_12)) (fun _ h_ => h_.1))))) (below_size (by repeat (first | (with_reducible first | exact HB.out | apply below_alloc | apply pw_below_drewN | apply below_drew1 | refine below_set ?_ GE102.out) | exact HB.out)))); have n2_ := Aside0.mk (blk_below (g := gb102) (o := .cells #[.int .i64 ((rd_T44 l0 x10_1).f0.f0), .string ((rd_T44 l0 x10_1).f0.f1), .string ((rd_T44 l0 x10_1).f1), .bool ((rd_T44 l0 x10_1).f2), .int .i64 ((rd_T44 l0 x10_1).f3.f0), .string ((rd_T44 l0 x10_1).f3.f1), .bool ((rd_T44 l0 x10_1).f4), .int .i64 ((rd_T44 l0 x10_1).f5), .int .i64 ((rd_T44 l0 x10_1).f6.f0), .int .u64 ((rd_T44 l0 x10_1).f6.f1), .int .i64 ((rd_T44 l0 x10_1).f6.f2), .string ((rd_T44 l0 x10_1).f6.f3), .slice A101_12 ((rd_T44 l0 x10_1).f7).length c101_12] 44 (0, 0)) (by (with_reducible repeat (first | refine blk_drewN ?_ _ | refine blk_drew ?_ | refine blk_alloc ?_ _)); refine blk_put (cs := #[.int .i64 ((rd_T44 l0 x10_1).f0.f0), .string ((rd_T44 l0 x10_1).f0.f1), .string ((rd_T44 l0 x10_1).f1), .bool ((rd_T44 l0 x10_1).f2), .int .i64 ((rd_T44 l0 x10_1).f3.f0), .string ((rd_T44 l0 x10_1).f3.f1), .bool ((rd_T44 l0 x10_1).f4), .int .i64 ((rd_T44 l0 x10_1).f5), .int .i64 ((rd_T44 l0 x10_1).f6.f0), .int .u64 ((rd_T44 l0 x10_1).f6.f1), .int .i64 ((rd_T44 l0 x10_1).f6.f2), .string ((rd_T44 l0 x10_1).f6.f3), .slice none 0 0]) ?_ 12 _ rfl; (with_reducible repeat (first | refine blk_drewN ?_ _ | refine blk_drew ?_ | refine blk_alloc ?_ _)); refine blk_put (cs := #[.int .i64 ((rd_T44 l0 x10_1).f0.f0), .string ((rd_T44 l0 x10_1).f0.f1), .string ((rd_T44 l0 x10_1).f1), .bool ((rd_T44 l0 x10_1).f2), .int .i64 ((rd_T44 l0 x10_1).f3.f0), .string ((rd_T44 l0 x10_1).f3.f1), .bool ((rd_T44 l0 x10_1).f4), .int .i64 ((rd_T44 l0 x10_1).f5), .int .i64 ((rd_T44 l0 x10_1).f6.f0), .int .u64 ((rd_T44 l0 x10_1).f6.f1), .int .i64 ((rd_T44 l0 x10_1).f6.f2), .string (⟨#[]⟩ : ByteArray), .slice none 0 0]) ?_ 11 _ rfl; (with_reducible repeat (first | refine blk_drewN ?_ _ | refine blk_drew ?_ | refine blk_alloc ?_ _)); refine blk_put (cs := #[.int .i64 ((rd_T44 l0 x10_1).f0.f0), .string ((rd_T44 l0 x10_1).f0.f1), .string ((rd_T44 l0 x10_1).f1), .bool ((rd_T44 l0 x10_1).f2), .int .i64 ((rd_T44 l0 x10_1).f3.f0), .string ((rd_T44 l0 x10_1).f3.f1), .bool ((rd_T44 l0 x10_1).f4), .int .i64 ((rd_T44 l0 x10_1).f5), .int .i64 ((rd_T44 l0 x10_1).f6.f0), .int .u64 ((rd_T44 l0 x10_1).f6.f1), .int .i64 0, .string (⟨#[]⟩ : ByteArray), .slice none 0 0]) ?_ 10 _ rfl; (with_reducible repeat (first | refine blk_drewN ?_ _ | refine blk_drew ?_ | refine blk_alloc ?_ _)); refine blk_put (cs := #[.int .i64 ((rd_T44 l0 x10_1).f0.f0), .string ((rd_T44 l0 x10_1).f0.f1), .string ((rd_T44 l0 x10_1).f1), .bool ((rd_T44 l0 x10_1).f2), .int .i64 ((rd_T44 l0 x10_1).f3.f0), .string ((rd_T44 l0 x10_1).f3.f1), .bool ((rd_T44 l0 x10_1).f4), .int .i64 ((rd_T44 l0 x10_1).f5), .int .i64 ((rd_T44 l0 x10_1).f6.f0), .int .u64 0, .int .i64 0, .string (⟨#[]⟩ : ByteArray), .slice none 0 0]) ?_ 9 _ rfl; (with_reducible repeat (first | refine blk_drewN ?_ _ | refine blk_drew ?_ | refine blk_alloc ?_ _)); refine blk_put (cs := #[.int .i64 ((rd_T44 l0 x10_1).f0.f0), .string ((rd_T44 l0 x10_1).f0.f1), .string ((rd_T44 l0 x10_1).f1), .bool ((rd_T44 l0 x10_1).f2), .int .i64 ((rd_T44 l0 x10_1).f3.f0), .string ((rd_T44 l0 x10_1).f3.f1), .bool ((rd_T44 l0 x10_1).f4), .int .i64 ((rd_T44 l0 x10_1).f5), .int .i64 0, .int .u64 0, .int .i64 0, .string (⟨#[]⟩ : ByteArray), .slice none 0 0]) ?_ 8 _ rfl; (with_reducible repeat (first | refine blk_drewN ?_ _ | refine blk_drew ?_ | refine blk_alloc ?_ _)); refine blk_put (cs := #[.int .i64 ((rd_T44 l0 x10_1).f0.f0), .string ((rd_T44 l0 x10_1).f0.f1), .string ((rd_T44 l0 x10_1).f1), .bool ((rd_T44 l0 x10_1).f2), .int .i64 ((rd_T44 l0 x10_1).f3.f0), .string ((rd_T44 l0 x10_1).f3.f1), .bool ((rd_T44 l0 x10_1).f4), .int .i64 0, .int .i64 0, .int .u64 0, .int .i64 0, .string (⟨#[]⟩ : ByteArray), .slice none 0 0]) ?_ 7 _ rfl; (with_reducible repeat (first | refine blk_drewN ?_ _ | refine blk_drew ?_ | refine blk_alloc ?_ _)); refine blk_put (cs := #[.int .i64 ((rd_T44 l0 x10_1).f0.f0), .string ((rd_T44 l0 x10_1).f0.f1), .string ((rd_T44 l0 x10_1).f1), .bool ((rd_T44 l0 x10_1).f2), .int .i64 ((rd_T44 l0 x10_1).f3.f0), .string ((rd_T44 l0 x10_1).f3.f1), .bool false, .int .i64 0, .int .i64 0, .int .u64 0, .int .i64 0, .string (⟨#[]⟩ : ByteArray), .slice none 0 0]) ?_ 6 _ rfl; (with_reducible repeat (first | refine blk_drewN ?_ _ | refine blk_drew ?_ | refine blk_alloc ?_ _)); refine blk_put (cs := #[.int .i64 ((rd_T44 l0 x10_1).f0.f0), .string ((rd_T44 l0 x10_1).f0.f1), .string ((rd_T44 l0 x10_1).f1), .bool ((rd_T44 l0 x10_1).f2), .int .i64 ((rd_T44 l0 x10_1).f3.f0), .string (⟨#[]⟩ : ByteArray), .bool false, .int .i64 0, .int .i64 0, .int .u64 0, .int .i64 0, .string (⟨#[]⟩ : ByteArray), .slice none 0 0]) ?_ 5 _ rfl; (with_reducible repeat (first | refine blk_drewN ?_ _ | refine blk_drew ?_ | refine blk_alloc ?_ _)); refine blk_put (cs := #[.int .i64 ((rd_T44 l0 x10_1).f0.f0), .string ((rd_T44 l0 x10_1).f0.f1), .string ((rd_T44 l0 x10_1).f1), .bool ((rd_T44 l0 x10_1).f2), .int .i64 0, .string (⟨#[]⟩ : ByteArray), .bool false, .int .i64 0, .int .i64 0, .int .u64 0, .int .i64 0, .string (⟨#[]⟩ : ByteArray), .slice none 0 0]) ?_ 4 _ rfl; (with_reducible repeat (first | refine blk_drewN ?_ _ | refine blk_drew ?_ | refine blk_alloc ?_ _)); refine blk_put (cs := #[.int .i64 ((rd_T44 l0 x10_1).f0.f0), .string ((rd_T44 l0 x10_1).f0.f1), .string ((rd_T44 l0 x10_1).f1), .bool false, .int .i64 0, .string (⟨#[]⟩ : ByteArray), .bool false, .int .i64 0, .int .i64 0, .int .u64 0, .int .i64 0, .string (⟨#[]⟩ : ByteArray), .slice none 0 0]) ?_ 3 _ rfl; (with_reducible repeat (first | refine blk_drewN ?_ _ | refine blk_drew ?_ | refine blk_alloc ?_ _)); refine blk_put (cs := #[.int .i64 ((rd_T44 l0 x10_1).f0.f0), .string ((rd_T44 l0 x10_1).f0.f1), .string (⟨#[]⟩ : ByteArray), .bool false, .int .i64 0, .string (⟨#[]⟩ : ByteArray), .bool false, .int .i64 0, .int .i64 0, .int .u64 0, .int .i64 0, .string (⟨#[]⟩ : ByteArray), .slice none 0 0]) ?_ 2 _ rfl; (with_reducible repeat (first | refine blk_drewN ?_ _ | refine blk_drew ?_ | refine blk_alloc ?_ _)); refine blk_put (cs := #[.int .i64 ((rd_T44 l0 x10_1).f0.f0), .string (⟨#[]⟩ : ByteArray), .string (⟨#[]⟩ : ByteArray), .bool false, .int .i64 0, .string (⟨#[]⟩ : ByteArray), .bool false, .int .i64 0, .int .i64 0, .int .u64 0, .int .i64 0, .string (⟨#[]⟩ : ByteArray), .slice none 0 0]) ?_ 1 _ rfl; (with_reducible repeat (first | refine blk_drewN ?_ _ | refine blk_drew ?_ | refine blk_alloc ?_ _)); refine blk_put (cs := #[.int .i64 0, .string (⟨#[]⟩ : ByteArray), .string (⟨#[]⟩ : ByteArray), .bool false, .int .i64 0, .string (⟨#[]⟩ : ByteArray), .bool false, .int .i64 0, .int .i64 0, .int .u64 0, .int .i64 0, .string (⟨#[]⟩ : ByteArray), .slice none 0 0]) ?_ 0 _ rfl; (with_reducible repeat (first | refine blk_drewN ?_ _ | refine blk_drew ?_ | refine blk_alloc ?_ _)); exact BK102.out) hb); have n3_ := Aside0.mk (below_step (by repeat (first | (with_reducible first | exact HB.out | apply below_alloc | apply pw_below_drewN | apply below_drew1 | refine below_set ?_ GE102.out) | exact HB.out)) hb); clear HO_3; clear BK102; clear HB; have HO_3 := n0_; have HO105 := n1_; have BK102 := n2_; have HB := n3_; clear n0_ n1_ n2_ n3_; clear hb ho9; have hcz10_0 : w8.cell? ⟨gb102, 0, none⟩ = some (.int .i64 ((rd_T44 l0 x10_1).f0.f0)) := (blk_cell BK102.out 0).trans rfl; have hcz10_1 : w8.cell? ⟨gb102, 1, none⟩ = some (.string ((rd_T44 l0 x10_1).f0.f1)) := (blk_cell BK102.out 1).trans rfl; have hcz10_2 : w8.cell? ⟨gb102, 2, none⟩ = some (.string ((rd_T44 l0 x10_1).f1)) := (blk_cell BK102.out 2).trans rfl; have hcz10_3 : w8.cell? ⟨gb102, 3, none⟩ = some (.bool ((rd_T44 l0 x10_1).f2)) := (blk_cell BK102.out 3).trans rfl; have hcz10_4 : w8.cell? ⟨gb102, 4, none⟩ = some (.int .i64 ((rd_T44 l0 x10_1).f3.f0)) := (blk_cell BK102.out 4).trans rfl; have hcz10_5 : w8.cell? ⟨gb102, 5, none⟩ = some (.string ((rd_T44 l0 x10_1).f3.f1)) := (blk_cell BK102.out 5).trans rfl; have hcz10_6 : w8.cell? ⟨gb102, 6, none⟩ = some (.bool ((rd_T44 l0 x10_1).f4)) := (blk_cell BK102.out 6).trans rfl; have hcz10_7 : w8.cell? ⟨gb102, 7, none⟩ = some (.int .i64 ((rd_T44 l0 x10_1).f5)) := (blk_cell BK102.out 7).trans rfl; have hcz10_8 : w8.cell? ⟨gb102, 8, none⟩ = some (.int .i64 ((rd_T44 l0 x10_1).f6.f0)) := (blk_cell BK102.out 8).trans rfl; have hcz10_9 : w8.cell? ⟨gb102, 9, none⟩ = some (.int .u64 ((rd_T44 l0 x10_1).f6.f1)) := (blk_cell BK102.out 9).trans rfl; have hcz10_10 : w8.cell? ⟨gb102, 10, none⟩ = some (.int .i64 ((rd_T44 l0 x10_1).f6.f2)) := (blk_cell BK102.out 10).trans rfl; have hcz10_11 : w8.cell? ⟨gb102, 11, none⟩ = some (.string ((rd_T44 l0 x10_1).f6.f3)) := (blk_cell BK102.out 11).trans rfl; have hcz10_12 : w8.cell? ⟨gb102, 12, none⟩ = some (.slice A101_12 ((rd_T44 l0 x10_1).f7).length c101_12) := (blk_cell BK102.out 12).trans rfl; have hfz10_0 := blk_frozen BK102.out 0; have hfz10_1 := blk_frozen BK102.out 1; have hfz10_2 := blk_frozen BK102.out 2; have hfz10_3 := blk_frozen BK102.out 3; have hfz10_4 := blk_frozen BK102.out 4; have hfz10_5 := blk_frozen BK102.out 5; have hfz10_6 := blk_frozen BK102.out 6; have hfz10_7 := blk_frozen BK102.out 7; have hfz10_8 := blk_frozen BK102.out 8; have hfz10_9 := blk_frozen BK102.out 9; have hfz10_10 := blk_frozen BK102.out 10; have hfz10_11 := blk_frozen BK102.out 11; have hfz10_12 := blk_frozen BK102.out 12) | ((with_reducible refine gate_builtin (b := .append) (xs := #[.tmp 18, .tmp 20]) rfl ?_); at_builtin; refine Kd.R_append_rows k38 (w0 := w) w.heap.size rfl (.tmp 18) (.tmp 20) 42 38 (.agg #[(.int .i64 0), (.string ⟨#[]⟩)]) 24 rfl Try.underlying42 info38 rfl (by decide) (by omega) v104 y103 ((rd_T44 l0 x10_1).f7) _ _ _ (fun k_ => some k_ ≠ (u3 : Value).ownBlock) (fun _ => False) rfl rfl ?aO ?aR (fun _ _ h => h) (fun _ h => h.elim) ?aF ?aB ?aS ?aL ?_; (case aR => repeat (first | exact (Kd.C_below HR101_12.out HB.out) | (with_reducible refine Kd.C_alloc ?_ _) | (with_reducible refine Kd.C_drewN ?_ _) | (with_reducible refine Kd.C_drew ?_))); (case aB => exact (by repeat (first | (with_reducible first | exact HB.out | apply below_alloc | apply pw_below_drewN | apply below_drew1 | refine below_set ?_ GE102.out) | exact HB.out))); (case aF => exact (fun k_ hk => Kd.fresh' (Kd.R_lt (by (with_reducible repeat (first | apply Kd.R_alloc | apply Kd.R_drewN | apply Kd.R_drew)); exact HO_3.out)) k_ hk)); (case aO => exact (by (with_reducible repeat (first | apply Kd.R_alloc | apply Kd.R_drewN | apply Kd.R_drew)); exact Kd.R_mono HO105.out (fun _ hk => hk.2))); (case aS => exact (below_size (by repeat (first | (with_reducible first | exact HB.out | apply below_alloc | apply pw_below_drewN | apply below_drew1 | refine below_set ?_ GE102.out) | exact HB.out)))); (case aL => have := LMc5.out; omega); intro v107 w11 ho hb hg hat; rw [← Ny106.out] at ho; have n0_ := Aside0.mk (Kd.R_after (ok := (fun _ => True)) (by (with_reducible repeat (first | apply Kd.R_alloc | apply Kd.R_drewN | apply Kd.R_drew)); exact HO_3.out) hg hat); have n1_ := Aside0.mk (blk_grown (g := gb102) (o := .cells #[.int .i64 ((rd_T44 l0 x10_1).f0.f0), .string ((rd_T44 l0 x10_1).f0.f1), .string ((rd_T44 l0 x10_1).f1), .bool ((rd_T44 l0 x10_1).f2), .int .i64 ((rd_T44 l0 x10_1).f3.f0), .string ((rd_T44 l0 x10_1).f3.f1), .bool ((rd_T44 l0 x10_1).f4), .int .i64 ((rd_T44 l0 x10_1).f5), .int .i64 ((rd_T44 l0 x10_1).f6.f0), .int .u64 ((rd_T44 l0 x10_1).f6.f1), .int .i64 ((rd_T44 l0 x10_1).f6.f2), .string ((rd_T44 l0 x10_1).f6.f3), .slice A101_12 ((rd_T44 l0 x10_1).f7).length c101_12] 44 (0, 0)) (by (with_reducible repeat (first | refine blk_drewN ?_ _ | refine blk_drew ?_ | refine blk_alloc ?_ _)); exact BK102.out) hg (Kd.R_ne HO105.out BK102.out (by decide))); have n2_ := Aside0.mk (hb); have n3_ := Aside0.mk (ho); clear HO_3; clear BK102; clear HB; clear HO105; have HO_3 := n0_; have BK102 := n1_; have HB := n2_; have HO108 := n3_; clear n0_ n1_ n2_ n3_; clear ho hb hg hat; obtain ⟨Ao12, co12, eo12⟩ := Kd.R_slice HO108.out; subst eo12))
              go_loopg [3, 23] k1 (fun kq v3 v23 w' => ∃ (x3_2 : List (S38)) (x23_2 : Int), v23 = .int .i64 x23_2 ∧ Aside0 (op_Names.l1 kq x3_2 l0 (l0.length : Int) x10_1 y106 (y106.length : Int) x23_2 = some r) ∧ Aside0 (kq ≤ k1) ∧ Aside0 (Kd.R k38 38 w' w.heap.size (fun k_ => some k_ ≠ ((.slice Ao12 y106.length co12) : Value).ownBlock) v3 x3_2) ∧ Aside0 (Kd.R k38 38 w' w.heap.size (fun k_ => some k_ ≠ (v3 : Value).ownBlock) (.slice Ao12 y106.length co12) y106) ∧ Aside0 (w'.heap[gb102]? = some (.cells #[.int .i64 ((rd_T44 l0 x10_1).f0.f0), .string ((rd_T44 l0 x10_1).f0.f1), .string ((rd_T44 l0 x10_1).f1), .bool ((rd_T44 l0 x10_1).f2), .int .i64 ((rd_T44 l0 x10_1).f3.f0), .string ((rd_T44 l0 x10_1).f3.f1), .bool ((rd_T44 l0 x10_1).f4), .int .i64 ((rd_T44 l0 x10_1).f5), .int .i64 ((rd_T44 l0 x10_1).f6.f0), .int .u64 ((rd_T44 l0 x10_1).f6.f1), .int .i64 ((rd_T44 l0 x10_1).f6.f2), .string ((rd_T44 l0 x10_1).f6.f3), (.slice A101_12 ((rd_T44 l0 x10_1).f7).length c101_12)] 44 (0, 0))) ∧ Aside0 (Below w.heap.size w w'))
              case atStart => exact ⟨(x3_1), (0), (by first | rfl | (simp; done) | (simp [*]; done)), H', ⟨Nat.le_refl _⟩, ⟨by (with_reducible repeat (first | apply Kd.R_alloc | apply Kd.R_drewN | apply Kd.R_drew)); exact Kd.R_mono HO_3.out (fun _ hk => hk.2)⟩, ⟨by (with_reducible repeat (first | apply Kd.R_alloc | apply Kd.R_drewN | apply Kd.R_drew)); exact HO108.out⟩, ⟨by (with_reducible repeat (first | refine blk_drewN ?_ _ | refine blk_drew ?_ | refine blk_alloc ?_ _)); exact BK102.out⟩, ⟨by repeat (first | (with_reducible first | exact HB.out | apply below_alloc | apply pw_below_drewN | apply below_drew1 | refine below_set ?_ GE102.out) | exact HB.out)⟩⟩
              case round =>
                clear H'
                try clear c1
                try clear p1
                try clear q1
                try clear hx1
                try clear c2
                try clear c2b0
                try clear p2
                try clear c3
                try clear c3b0
                try clear c4
                try clear c4b0
                try clear c5
                try clear c10
                try clear p10
                try clear q10
                try clear hx10
                try clear hcz10_0
                try clear hcz10_1
                try clear hcz10_10
                try clear hcz10_11
                try clear hcz10_12
                try clear hcz10_2
                try clear hcz10_3
                try clear hcz10_4
                try clear hcz10_5
                try clear hcz10_6
                try clear hcz10_7
                try clear hcz10_8
                try clear hcz10_9
                try clear hcz7_0
                try clear hcz7_1
                try clear hcz7_10
                try clear hcz7_11
                try clear hcz7_12
                try clear hcz7_2
                try clear hcz7_3
                try clear hcz7_4
                try clear hcz7_5
                try clear hcz7_6
                try clear hcz7_7
                try clear hcz7_8
                try clear hcz7_9
                try clear hfz10_0
                try clear hfz10_1
                try clear hfz10_10
                try clear hfz10_11
                try clear hfz10_12
                try clear hfz10_2
                try clear hfz10_3
                try clear hfz10_4
                try clear hfz10_5
                try clear hfz10_6
                try clear hfz10_7
                try clear hfz10_8
                try clear hfz10_9
                try clear hfz7_0
                try clear hfz7_1
                try clear hfz7_10
                try clear hfz7_11
                try clear hfz7_12
                try clear hfz7_2
                try clear hfz7_3
                try clear hfz7_4
                try clear hfz7_5
                try clear hfz7_6
                try clear hfz7_7
                try clear hfz7_8
                try clear hfz7_9
                try clear hx101_0
                try clear hx101_1
                try clear hx101_10
                try clear hx101_11
                try clear hx101_12
                try clear hx101_2
                try clear hx101_3
                try clear hx101_4
                try clear hx101_5
                try clear hx101_6
                try clear hx101_7
                try clear hx101_8
                try clear hx101_9
                try clear p101
                try clear q101
                obtain ⟨x3_2, x23_2, rfl, HA, HK2, HO_3, HO_21, BK102, HB⟩ := hrel
                cases gk with
                | zero => exact absurd HA.out (by simp [op_Names.l1])
                | succ k2 =>
                  have H := HA.out
                  clear HA
                  simp only [op_Names.l1] at H
                  by_cases c13 : x23_2 < (y106.length : Int)
                  · rw [if_pos c13] at H
                    have c13b0 : decide (x23_2 < (y106.length : Int)) = true := decide_eq_true c13
                    clear c13
                    by_cases c14 : 0 ≤ x23_2
                    · rw [if_pos c14] at H
                      have c14b0 : decide (0 ≤ x23_2) = true := decide_eq_true c14
                      clear c14
                      by_cases c15 : x23_2 < (y106.length : Int)
                      · rw [if_pos c15] at H
                        have c15b0 : decide (x23_2 < (y106.length : Int)) = true := decide_eq_true c15
                        clear c15
                        replace H := Option.bind_eq_some_iff.mp H
                        obtain ⟨t111, A160, H⟩ := H
                        replace H : (if t111 = true then (op_Names.l1 k2 x3_2 l0 (l0.length : Int) x10_1 y106 (y106.length : Int) (wrap64 (x23_2 + 1))) else (if x3_2.length < 5864062014805 then (op_Names.l1 k2 (x3_2 ++ [(⟨(rd_T38 y106 x23_2).f0, (rd_T38 y106 x23_2).f1⟩ : S38)]) l0 (l0.length : Int) x10_1 y106 (y106.length : Int) (wrap64 (x23_2 + 1))) else (none))) = some r := H
                        have A16 := Aside0.mk A160
                        clear A160
                        by_cases c17 : t111 = true
                        · subst c17
                          have H1 : (op_Names.l1 k2 x3_2 l0 (l0.length : Int) x10_1 y106 (y106.length : Int) (wrap64 (x23_2 + 1))) = some r := by rw [if_pos rfl] at H; exact H
                          clear H
                          have H := H1
                          clear H1
                          have H' := Aside0.mk H
                          clear H
                          have p109 : 0 ≤ (x23_2 : Int) := of_decide_eq_true (by first | (with_reducible assumption) | assumption)
                          have q109 : x23_2 < (y106.length : Int) := of_decide_eq_true (by first | (with_reducible assumption) | assumption)
                          obtain ⟨ad109, e109, hx109_0, hx109_1⟩ := at_T38 (Kd.R_reads' HO_21.out).2.2 x23_2 p109 q109
                          cases e109
                          replace p109 := eq_true p109
                          replace q109 := eq_true q109
                          go_wp2_with (first | ((with_reducible refine gate_dst (N := 7) rfl ?_); refine box_event ?hg (N := 7) ?hd (cs := #[.int .i64 0, .string (⟨#[]⟩ : ByteArray)]) (t := 38) ?hr ?_; (case hd => rfl); (case hg => rfl); (case hr => first | (go_simp; done) | (go_simp; rfl)); intro gb110 hg w18 hbox hb; have n0_ := Aside0.mk (Kd.R_below (Kd.R_elderB (by (with_reducible repeat (first | apply Kd.R_alloc | apply Kd.R_drewN | apply Kd.R_drew)); exact HO_3.out) gb110 (Nat.le_of_eq hg.symm)) hb); have n1_ := Aside0.mk (Kd.R_below (Kd.R_elderB (by (with_reducible repeat (first | apply Kd.R_alloc | apply Kd.R_drewN | apply Kd.R_drew)); exact HO_21.out) gb110 (Nat.le_of_eq hg.symm)) hb); have n2_ := Aside0.mk (blk_below (g := gb102) (o := .cells #[.int .i64 ((rd_T44 l0 x10_1).f0.f0), .string ((rd_T44 l0 x10_1).f0.f1), .string ((rd_T44 l0 x10_1).f1), .bool ((rd_T44 l0 x10_1).f2), .int .i64 ((rd_T44 l0 x10_1).f3.f0), .string ((rd_T44 l0 x10_1).f3.f1), .bool ((rd_T44 l0 x10_1).f4), .int .i64 ((rd_T44 l0 x10_1).f5), .int .i64 ((rd_T44 l0 x10_1).f6.f0), .int .u64 ((rd_T44 l0 x10_1).f6.f1), .int .i64 ((rd_T44 l0 x10_1).f6.f2), .string ((rd_T44 l0 x10_1).f6.f3), .slice A101_12 ((rd_T44 l0 x10_1).f7).length c101_12] 44 (0, 0)) (by (with_reducible repeat (first | refine blk_drewN ?_ _ | refine blk_drew ?_ | refine blk_alloc ?_ _)); exact BK102.out) hb); have n3_ := Aside0.mk (below_step (by repeat (first | (with_reducible first | exact HB.out | apply below_alloc | apply pw_below_drewN | apply below_drew1 | refine below_set ?_ GE102.out) | exact HB.out)) hb); have n4_ := Aside0.mk (hbox); have n5_ := Aside0.mk ((by rw [hg]; exact (below_size (by repeat (first | (with_reducible first | exact HB.out | apply below_alloc | apply pw_below_drewN | apply below_drew1 | refine below_set ?_ GE102.out) | exact HB.out))) : w.heap.size ≤ gb110)); have n6_ := Aside0.mk ((by rw [hg]; exact (below_size (by repeat (first | (with_reducible first | exact HB.out | apply below_alloc | apply pw_below_drewN | apply below_drew1 | refine below_set ?_ GE102.out) | exact HB.out))) : w.heap.size ≤ gb110)); have n7_ := Aside0.mk ((by rw [hg]; exact Nat.ne_of_lt (blk_lt (g := gb102) (o := .cells #[.int .i64 ((rd_T44 l0 x10_1).f0.f0), .string ((rd_T44 l0 x10_1).f0.f1), .string ((rd_T44 l0 x10_1).f1), .bool ((rd_T44 l0 x10_1).f2), .int .i64 ((rd_T44 l0 x10_1).f3.f0), .string ((rd_T44 l0 x10_1).f3.f1), .bool ((rd_T44 l0 x10_1).f4), .int .i64 ((rd_T44 l0 x10_1).f5), .int .i64 ((rd_T44 l0 x10_1).f6.f0), .int .u64 ((rd_T44 l0 x10_1).f6.f1), .int .i64 ((rd_T44 l0 x10_1).f6.f2), .string ((rd_T44 l0 x10_1).f6.f3), .slice A101_12 ((rd_T44 l0 x10_1).f7).length c101_12] 44 (0, 0)) (by (with_reducible repeat (first | refine blk_drewN ?_ _ | refine blk_drew ?_ | refine blk_alloc ?_ _)); exact BK102.out)) : gb102 ≠ gb110)); have n8_ := Aside0.mk ((by rw [hg]; exact Nat.ne_of_gt (blk_lt (g := gb102) (o := .cells #[.int .i64 ((rd_T44 l0 x10_1).f0.f0), .string ((rd_T44 l0 x10_1).f0.f1), .string ((rd_T44 l0 x10_1).f1), .bool ((rd_T44 l0 x10_1).f2), .int .i64 ((rd_T44 l0 x10_1).f3.f0), .string ((rd_T44 l0 x10_1).f3.f1), .bool ((rd_T44 l0 x10_1).f4), .int .i64 ((rd_T44 l0 x10_1).f5), .int .i64 ((rd_T44 l0 x10_1).f6.f0), .int .u64 ((rd_T44 l0 x10_1).f6.f1), .int .i64 ((rd_T44 l0 x10_1).f6.f2), .string ((rd_T44 l0 x10_1).f6.f3), .slice A101_12 ((rd_T44 l0 x10_1).f7).length c101_12] 44 (0, 0)) (by (with_reducible repeat (first | refine blk_drewN ?_ _ | refine blk_drew ?_ | refine blk_alloc ?_ _)); exact BK102.out)) : gb110 ≠ gb102)); clear HO_3; clear HO_21; clear BK102; clear HB; have HO_3 := n0_; have HO_21 := n1_; have BK102 := n2_; have HB := n3_; have BK110 := n4_; have GW110 := n5_; have GE110 := n6_; have NB102_110 := n7_; have NB110_102 := n8_; clear n0_ n1_ n2_ n3_ n4_ n5_ n6_ n7_ n8_; clear hb hbox hg; have hnb19 := NB110_102.out; have hnc19 := NB102_110.out; have hcz20_0 : w18.cell? ⟨gb110, 0, none⟩ = some (.int .i64 0) := (blk_cell BK110.out 0).trans rfl; have hcz20_1 : w18.cell? ⟨gb110, 1, none⟩ = some (.string (⟨#[]⟩ : ByteArray)) := (blk_cell BK110.out 1).trans rfl; have hfz20_0 := blk_frozen BK110.out 0; have hfz20_1 := blk_frozen BK110.out 1) | ((with_reducible refine gate_callee (f := 97) rfl ?_); refine goesL_ (some 28) rfl rfl Try.func97 (by kernel_rfl) rfl #[.agg #[.int .i64 ((rd_T38 y106 x23_2).f0), .string ((rd_T38 y106 x23_2).f1)]] rfl (by (try simp only [List.map_toArray, List.map_cons, List.map_nil]); first | done | rfl | (simp only [List.length_drop, List.length_take]; rfl)) ?_; (with_reducible refine (op_Zero.calls ((rd_T38 y106 x23_2).f0) ((rd_T38 y106 x23_2).f1) true _ A16.out).mono ?_); rintro e w21 ⟨rfl, hb⟩; refine ⟨_, rfl, ?_⟩; have n0_ := Aside0.mk (Kd.R_below (by (with_reducible repeat (first | apply Kd.R_alloc | apply Kd.R_drewN | apply Kd.R_drew)); exact (Kd.R_mono (Kd.R_far (p := ⟨gb110, 1, none⟩) (Kd.R_far (p := ⟨gb110, 0, none⟩) (Kd.R_mono HO_3.out (fun k_ hk => (⟨hk, hk.2⟩ : _ ∧ k_ ≠ gb110))) (fun _ hk => hk.2) (.int .i64 ((rd_T38 y106 x23_2).f0))) (fun _ hk => hk.2) (.string ((rd_T38 y106 x23_2).f1))) (fun _ h_ => h_.1))) hb); have n1_ := Aside0.mk (Kd.R_below (by (with_reducible repeat (first | apply Kd.R_alloc | apply Kd.R_drewN | apply Kd.R_drew)); exact (Kd.R_mono (Kd.R_far (p := ⟨gb110, 1, none⟩) (Kd.R_far (p := ⟨gb110, 0, none⟩) (Kd.R_mono HO_21.out (fun k_ hk => (⟨hk, hk.2⟩ : _ ∧ k_ ≠ gb110))) (fun _ hk => hk.2) (.int .i64 ((rd_T38 y106 x23_2).f0))) (fun _ hk => hk.2) (.string ((rd_T38 y106 x23_2).f1))) (fun _ h_ => h_.1))) hb); have n2_ := Aside0.mk (blk_below (g := gb102) (o := .cells #[.int .i64 ((rd_T44 l0 x10_1).f0.f0), .string ((rd_T44 l0 x10_1).f0.f1), .string ((rd_T44 l0 x10_1).f1), .bool ((rd_T44 l0 x10_1).f2), .int .i64 ((rd_T44 l0 x10_1).f3.f0), .string ((rd_T44 l0 x10_1).f3.f1), .bool ((rd_T44 l0 x10_1).f4), .int .i64 ((rd_T44 l0 x10_1).f5), .int .i64 ((rd_T44 l0 x10_1).f6.f0), .int .u64 ((rd_T44 l0 x10_1).f6.f1), .int .i64 ((rd_T44 l0 x10_1).f6.f2), .string ((rd_T44 l0 x10_1).f6.f3), .slice A101_12 ((rd_T44 l0 x10_1).f7).length c101_12] 44 (0, 0)) (by (with_reducible repeat (first | refine blk_drewN ?_ _ | refine blk_drew ?_ | refine blk_alloc ?_ _)); refine blk_far ?_ NB102_110.out _; (with_reducible repeat (first | refine blk_drewN ?_ _ | refine blk_drew ?_ | refine blk_alloc ?_ _)); refine blk_far ?_ NB102_110.out _; (with_reducible repeat (first | refine blk_drewN ?_ _ | refine blk_drew ?_ | refine blk_alloc ?_ _)); exact BK102.out) hb); have n3_ := Aside0.mk (blk_below (g := gb110) (o := .cells #[.int .i64 ((rd_T38 y106 x23_2).f0), .string ((rd_T38 y106 x23_2).f1)] 38 (0, 0)) (by (with_reducible repeat (first | refine blk_drewN ?_ _ | refine blk_drew ?_ | refine blk_alloc ?_ _)); refine blk_put (cs := #[.int .i64 ((rd_T38 y106 x23_2).f0), .string (⟨#[]⟩ : ByteArray)]) ?_ 1 _ rfl; (with_reducible repeat (first | refine blk_drewN ?_ _ | refine blk_drew ?_ | refine blk_alloc ?_ _)); refine blk_put (cs := #[.int .i64 0, .string (⟨#[]⟩ : ByteArray)]) ?_ 0 _ rfl; (with_reducible repeat (first | refine blk_drewN ?_ _ | refine blk_drew ?_ | refine blk_alloc ?_ _)); exact BK110.out) hb); have n4_ := Aside0.mk (below_step (by repeat (first | (with_reducible first | exact HB.out | apply below_alloc | apply pw_below_drewN | apply below_drew1 | refine below_set ?_ GE102.out | refine below_set ?_ GE110.out) | exact HB.out)) hb); clear HO_3; clear HO_21; clear BK102; clear BK110; clear HB; have HO_3 := n0_; have HO_21 := n1_; have BK102 := n2_; have BK110 := n3_; have HB := n4_; clear n0_ n1_ n2_ n3_ n4_; (try clear hb); (try clear hb2); (try clear hk); (try clear hi)))
                          go_roundg k2
                          case measure => have := HK1.out; have := HK2.out; omega
                          case rel => exact ⟨(x3_2), (wrap64 (x23_2 + 1)), (by first | rfl | (simp; done) | (simp [*]; done)), H', ⟨by have := HK1.out; have := HK2.out; omega⟩, ⟨by (with_reducible repeat (first | apply Kd.R_alloc | apply Kd.R_drewN | apply Kd.R_drew)); exact Kd.R_mono HO_3.out (fun _ hk => hk.1)⟩, ⟨by (with_reducible repeat (first | apply Kd.R_alloc | apply Kd.R_drewN | apply Kd.R_drew)); exact Kd.R_mono HO_21.out (fun _ hk => hk.1)⟩, ⟨by (with_reducible repeat (first | refine blk_drewN ?_ _ | refine blk_drew ?_ | refine blk_alloc ?_ _)); exact BK102.out⟩, ⟨by repeat (first | (with_reducible first | exact HB.out | apply below_alloc | apply pw_below_drewN | apply below_drew1 | refine below_set ?_ GE102.out | refine below_set ?_ GE110.out) | exact HB.out)⟩⟩
                        · replace c17 := Bool.eq_false_iff.mpr c17
                          subst c17
                          have H1 : (if x3_2.length < 5864062014805 then (op_Names.l1 k2 (x3_2 ++ [(⟨(rd_T38 y106 x23_2).f0, (rd_T38 y106 x23_2).f1⟩ : S38)]) l0 (l0.length : Int) x10_1 y106 (y106.length : Int) (wrap64 (x23_2 + 1))) else (none)) = some r := by rw [if_neg (show ¬ (false = true) by decide)] at H; exact H
                          clear H
                          have H := H1
                          clear H1
                          by_cases c22 : x3_2.length < 5864062014805
                          · rw [if_pos c22] at H
                            have LMc22 := Aside0.mk c22
                            clear c22
                            obtain ⟨y112, hy112⟩ : ∃ y_ : List (S38), y_ = (x3_2 ++ [(⟨(rd_T38 y106 x23_2).f0, (rd_T38 y106 x23_2).f1⟩ : S38)]) := ⟨_, rfl⟩
                            replace H : (op_Names.l1 k2 y112 l0 (l0.length : Int) x10_1 y106 (y106.length : Int) (wrap64 (x23_2 + 1))) = some r := by first | (rw [hy112]; with_reducible exact H) | (have H2_ := (Option.bind_some _ _).symm.trans H; rw [hy112]; with_reducible exact H2_) | (have H2_ := (Option.bind_some _ _).symm.trans H; with_reducible exact H2_) | with_reducible exact H | (rw [hy112]; exact H) | exact H
                            have Ny112 := Aside0.mk hy112
                            clear hy112
                            have H' := Aside0.mk H
                            clear H
                            have p109 : 0 ≤ (x23_2 : Int) := of_decide_eq_true (by first | (with_reducible assumption) | assumption)
                            have q109 : x23_2 < (y106.length : Int) := of_decide_eq_true (by first | (with_reducible assumption) | assumption)
                            obtain ⟨ad109, e109, hx109_0, hx109_1⟩ := at_T38 (Kd.R_reads' HO_21.out).2.2 x23_2 p109 q109
                            cases e109
                            replace p109 := eq_true p109
                            replace q109 := eq_true q109
                            go_wp2_with (first | ((with_reducible refine gate_dst (N := 7) rfl ?_); refine box_event ?hg (N := 7) ?hd (cs := #[.int .i64 0, .string (⟨#[]⟩ : ByteArray)]) (t := 38) ?hr ?_; (case hd => rfl); (case hg => rfl); (case hr => first | (go_simp; done) | (go_simp; rfl)); intro gb110 hg w23 hbox hb; have n0_ := Aside0.mk (Kd.R_below (Kd.R_elderB (by (with_reducible repeat (first | apply Kd.R_alloc | apply Kd.R_drewN | apply Kd.R_drew)); exact HO_3.out) gb110 (Nat.le_of_eq hg.symm)) hb); have n1_ := Aside0.mk (Kd.R_below (Kd.R_elderB (by (with_reducible repeat (first | apply Kd.R_alloc | apply Kd.R_drewN | apply Kd.R_drew)); exact HO_21.out) gb110 (Nat.le_of_eq hg.symm)) hb); have n2_ := Aside0.mk (blk_below (g := gb102) (o := .cells #[.int .i64 ((rd_T44 l0 x10_1).f0.f0), .string ((rd_T44 l0 x10_1).f0.f1), .string ((rd_T44 l0 x10_1).f1), .bool ((rd_T44 l0 x10_1).f2), .int .i64 ((rd_T44 l0 x10_1).f3.f0), .string ((rd_T44 l0 x10_1).f3.f1), .bool ((rd_T44 l0 x10_1).f4), .int .i64 ((rd_T44 l0 x10_1).f5), .int .i64 ((rd_T44 l0 x10_1).f6.f0), .int .u64 ((rd_T44 l0 x10_1).f6.f1), .int .i64 ((rd_T44 l0 x10_1).f6.f2), .string ((rd_T44 l0 x10_1).f6.f3), .slice A101_12 ((rd_T44 l0 x10_1).f7).length c101_12] 44 (0, 0)) (by (with_reducible repeat (first | refine blk_drewN ?_ _ | refine blk_drew ?_ | refine blk_alloc ?_ _)); exact BK102.out) hb); have n3_ := Aside0.mk (below_step (by repeat (first | (with_reducible first | exact HB.out | apply below_alloc | apply pw_below_drewN | apply below_drew1 | refine below_set ?_ GE102.out) | exact HB.out)) hb); have n4_ := Aside0.mk (hbox); have n5_ := Aside0.mk ((by rw [hg]; exact (below_size (by repeat (first | (with_reducible first | exact HB.out | apply below_alloc | apply pw_below_drewN | apply below_drew1 | refine below_set ?_ GE102.out) | exact HB.out))) : w.heap.size ≤ gb110)); have n6_ := Aside0.mk ((by rw [hg]; exact (below_size (by repeat (first | (with_reducible first | exact HB.out | apply below_alloc | apply pw_below_drewN | apply below_drew1 | refine below_set ?_ GE102.out) | exact HB.out))) : w.heap.size ≤ gb110)); have n7_ := Aside0.mk ((by rw [hg]; exact Nat.ne_of_lt (blk_lt (g := gb102) (o := .cells #[.int .i64 ((rd_T44 l0 x10_1).f0.f0), .string ((rd_T44 l0 x10_1).f0.f1), .string ((rd_T44 l0 x10_1).f1), .bool ((rd_T44 l0 x10_1).f2), .int .i64 ((rd_T44 l0 x10_1).f3.f0), .string ((rd_T44 l0 x10_1).f3.f1), .bool ((rd_T44 l0 x10_1).f4), .int .i64 ((rd_T44 l0 x10_1).f5), .int .i64 ((rd_T44 l0 x10_1).f6.f0), .int .u64 ((rd_T44 l0 x10_1).f6.f1), .int .i64 ((rd_T44 l0 x10_1).f6.f2), .string ((rd_T44 l0 x10_1).f6.f3), .slice A101_12 ((rd_T44 l0 x10_1).f7).length c101_12] 44 (0, 0)) (by (with_reducible repeat (first | refine blk_drewN ?_ _ | refine blk_drew ?_ | refine blk_alloc ?_ _)); exact BK102.out)) : gb102 ≠ gb110)); have n8_ := Aside0.mk ((by rw [hg]; exact Nat.ne_of_gt (blk_lt (g := gb102) (o := .cells #[.int .i64 ((rd_T44 l0 x10_1).f0.f0), .string ((rd_T44 l0 x10_1).f0.f1), .string ((rd_T44 l0 x10_1).f1), .bool ((rd_T44 l0 x10_1).f2), .int .i64 ((rd_T44 l0 x10_1).f3.f0), .string ((rd_T44 l0 x10_1).f3.f1), .bool ((rd_T44 l0 x10_1).f4), .int .i64 ((rd_T44 l0 x10_1).f5), .int .i64 ((rd_T44 l0 x10_1).f6.f0), .int .u64 ((rd_T44 l0 x10_1).f6.f1), .int .i64 ((rd_T44 l0 x10_1).f6.f2), .string ((rd_T44 l0 x10_1).f6.f3), .slice A101_12 ((rd_T44 l0 x10_1).f7).length c101_12] 44 (0, 0)) (by (with_reducible repeat (first | refine blk_drewN ?_ _ | refine blk_drew ?_ | refine blk_alloc ?_ _)); exact BK102.out)) : gb110 ≠ gb102)); clear HO_3; clear HO_21; clear BK102; clear HB; have HO_3 := n0_; have HO_21 := n1_; have BK102 := n2_; have HB := n3_; have BK110 := n4_; have GW110 := n5_; have GE110 := n6_; have NB102_110 := n7_; have NB110_102 := n8_; clear n0_ n1_ n2_ n3_ n4_ n5_ n6_ n7_ n8_; clear hb hbox hg; have hnb24 := NB110_102.out; have hnc24 := NB102_110.out; have hcz25_0 : w23.cell? ⟨gb110, 0, none⟩ = some (.int .i64 0) := (blk_cell BK110.out 0).trans rfl; have hcz25_1 : w23.cell? ⟨gb110, 1, none⟩ = some (.string (⟨#[]⟩ : ByteArray)) := (blk_cell BK110.out 1).trans rfl; have hfz25_0 := blk_frozen BK110.out 0; have hfz25_1 := blk_frozen BK110.out 1) | ((with_reducible refine gate_callee (f := 97) rfl ?_); refine goesL_ (some 28) rfl rfl Try.func97 (by kernel_rfl) rfl #[.agg #[.int .i64 ((rd_T38 y106 x23_2).f0), .string ((rd_T38 y106 x23_2).f1)]] rfl (by (try simp only [List.map_toArray, List.map_cons, List.map_nil]); first | done | rfl | (simp only [List.length_drop, List.length_take]; rfl)) ?_; (with_reducible refine (op_Zero.calls ((rd_T38 y106 x23_2).f0) ((rd_T38 y106 x23_2).f1) false _ A16.out).mono ?_); rintro e w26 ⟨rfl, hb⟩; refine ⟨_, rfl, ?_⟩; have n0_ := Aside0.mk (Kd.R_below (by (with_reducible repeat (first | apply Kd.R_alloc | apply Kd.R_drewN | apply Kd.R_drew)); exact (Kd.R_mono (Kd.R_far (p := ⟨gb110, 1, none⟩) (Kd.R_far (p := ⟨gb110, 0, none⟩) (Kd.R_mono HO_3.out (fun k_ hk => (⟨hk, hk.2⟩ : _ ∧ k_ ≠ gb110))) (fun _ hk => hk.2) (.int .i64 ((rd_T38 y106 x23_2).f0))) (fun _ hk => hk.2) (.string ((rd_T38 y106 x23_2).f1))) (fun _ h_ => h_.1))) hb); have n1_ := Aside0.mk (Kd.R_below (by (with_reducible repeat (first | apply Kd.R_alloc | apply Kd.R_drewN | apply Kd.R_drew)); exact (Kd.R_mono (Kd.R_far (p := ⟨gb110, 1, none⟩) (Kd.R_far (p := ⟨gb110, 0, none⟩) (Kd.R_mono HO_21.out (fun k_ hk => (⟨hk, hk.2⟩ : _ ∧ k_ ≠ gb110))) (fun _ hk => hk.2) (.int .i64 ((rd_T38 y106 x23_2).f0))) (fun _ hk => hk.2) (.string ((rd_T38 y106 x23_2).f1))) (fun _ h_ => h_.1))) hb); have n2_ := Aside0.mk (blk_below (g := gb102) (o := .cells #[.int .i64 ((rd_T44 l0 x10_1).f0.f0), .string ((rd_T44 l0 x10_1).f0.f1), .string ((rd_T44 l0 x10_1).f1), .bool ((rd_T44 l0 x10_1).f2), .int .i64 ((rd_T44 l0 x10_1).f3.f0), .string ((rd_T44 l0 x10_1).f3.f1), .bool ((rd_T44 l0 x10_1).f4), .int .i64 ((rd_T44 l0 x10_1).f5), .int .i64 ((rd_T44 l0 x10_1).f6.f0), .int .u64 ((rd_T44 l0 x10_1).f6.f1), .int .i64 ((rd_T44 l0 x10_1).f6.f2), .string ((rd_T44 l0 x10_1).f6.f3), .slice A101_12 ((rd_T44 l0 x10_1).f7).length c101_12] 44 (0, 0)) (by (with_reducible repeat (first | refine blk_drewN ?_ _ | refine blk_drew ?_ | refine blk_alloc ?_ _)); refine blk_far ?_ NB102_110.out _; (with_reducible repeat (first | refine blk_drewN ?_ _ | refine blk_drew ?_ | refine blk_alloc ?_ _)); refine blk_far ?_ NB102_110.out _; (with_reducible repeat (first | refine blk_drewN ?_ _ | refine blk_drew ?_ | refine blk_alloc ?_ _)); exact BK102.out) hb); have n3_ := Aside0.mk (blk_below (g := gb110) (o := .cells #[.int .i64 ((rd_T38 y106 x23_2).f0), .string ((rd_T38 y106 x23_2).f1)] 38 (0, 0)) (by (with_reducible repeat (first | refine blk_drewN ?_ _ | refine blk_drew ?_ | refine blk_alloc ?_ _)); refine blk_put (cs := #[.int .i64 ((rd_T38 y106 x23_2).f0), .string (⟨#[]⟩ : ByteArray)]) ?_ 1 _ rfl; (with_reducible repeat (first | refine blk_drewN ?_ _ | refine blk_drew ?_ | refine blk_alloc ?_ _)); refine blk_put (cs := #[.int .i64 0, .string (⟨#[]⟩ : ByteArray)]) ?_ 0 _ rfl; (with_reducible repeat (first | refine blk_drewN ?_ _ | refine blk_drew ?_ | refine blk_alloc ?_ _)); exact BK110.out) hb); have n4_ := Aside0.mk (below_step (by repeat (first | (with_reducible first | exact HB.out | apply below_alloc | apply pw_below_drewN | apply below_drew1 | refine below_set ?_ GE102.out | refine below_set ?_ GE110.out) | exact HB.out)) hb); clear HO_3; clear HO_21; clear BK102; clear BK110; clear HB; have HO_3 := n0_; have HO_21 := n1_; have BK102 := n2_; have BK110 := n3_; have HB := n4_; clear n0_ n1_ n2_ n3_ n4_; (try clear hb); (try clear hb2); (try clear hk); (try clear hi); have hcz27_0 : w26.cell? ⟨gb110, 0, none⟩ = some (.int .i64 ((rd_T38 y106 x23_2).f0)) := (blk_cell BK110.out 0).trans rfl; have hcz27_1 : w26.cell? ⟨gb110, 1, none⟩ = some (.string ((rd_T38 y106 x23_2).f1)) := (blk_cell BK110.out 1).trans rfl; have hfz27_0 := blk_frozen BK110.out 0; have hfz27_1 := blk_frozen BK110.out 1) | ((with_reducible refine gate_builtin (b := .append) (xs := #[.tmp 30, .tmp 32]) rfl ?_); at_builtin; refine Kd.R_append k38 (w0 := w) w.heap.size rfl (.tmp 30) (.tmp 32) 42 38 (.agg #[(.int .i64 0), (.string ⟨#[]⟩)]) 24 rfl Try.underlying42 info38 rfl (by decide) (by omega) u3 x3_2 (⟨(rd_T38 y106 x23_2).f0, (rd_T38 y106 x23_2).f1⟩ : S38) [.int .i64 ((rd_T38 y106 x23_2).f0), .string ((rd_T38 y106 x23_2).f1)] (fun k_ => some k_ ≠ (.slice (some ad109) y106.length co12 : Value).ownBlock ∧ k_ ≠ gb110) (fun _ => False) rfl rfl ?aP (fun _ hk => hk.elim) ?aF ?aO ?aB ?aS ?aL ?_; (case aP => exact k38_mkM _ _ _ (⟨(rd_T38 y106 x23_2).f0, (rd_T38 y106 x23_2).f1⟩ : S38)); (case aB => exact (by repeat (first | (with_reducible first | exact HB.out | apply below_alloc | apply pw_below_drewN | apply below_drew1 | refine below_set ?_ GE102.out | refine below_set ?_ GE110.out) | exact HB.out))); (case aF => exact (fun k_ hk => ⟨Kd.fresh' (Kd.R_lt (by (with_reducible repeat (first | apply Kd.R_alloc | apply Kd.R_drewN | apply Kd.R_drew)); exact HO_21.out)) k_ hk, Kd.freshB (g := gb110) (o := .cells #[.int .i64 ((rd_T38 y106 x23_2).f0), .string ((rd_T38 y106 x23_2).f1)] 38 (0, 0)) (by (with_reducible repeat (first | refine blk_drewN ?_ _ | refine blk_drew ?_ | refine blk_alloc ?_ _)); exact BK110.out) k_ hk⟩)); (case aO => exact (by (with_reducible repeat (first | apply Kd.R_alloc | apply Kd.R_drewN | apply Kd.R_drew)); exact HO_3.out)); (case aS => exact (below_size (by repeat (first | (with_reducible first | exact HB.out | apply below_alloc | apply pw_below_drewN | apply below_drew1 | refine below_set ?_ GE102.out | refine below_set ?_ GE110.out) | exact HB.out)))); (case aL => have := LMc22.out; omega); intro v113 w28 ho hb hg hat; rw [← Ny112.out] at ho; have n0_ := Aside0.mk (Kd.R_after (ok := (fun k_ => k_ ≠ gb110)) (by (with_reducible repeat (first | apply Kd.R_alloc | apply Kd.R_drewN | apply Kd.R_drew)); exact Kd.R_mono HO_21.out (fun _ hk => ⟨hk.2, hk.1⟩)) hg hat); have n1_ := Aside0.mk (blk_grown (g := gb102) (o := .cells #[.int .i64 ((rd_T44 l0 x10_1).f0.f0), .string ((rd_T44 l0 x10_1).f0.f1), .string ((rd_T44 l0 x10_1).f1), .bool ((rd_T44 l0 x10_1).f2), .int .i64 ((rd_T44 l0 x10_1).f3.f0), .string ((rd_T44 l0 x10_1).f3.f1), .bool ((rd_T44 l0 x10_1).f4), .int .i64 ((rd_T44 l0 x10_1).f5), .int .i64 ((rd_T44 l0 x10_1).f6.f0), .int .u64 ((rd_T44 l0 x10_1).f6.f1), .int .i64 ((rd_T44 l0 x10_1).f6.f2), .string ((rd_T44 l0 x10_1).f6.f3), .slice A101_12 ((rd_T44 l0 x10_1).f7).length c101_12] 44 (0, 0)) (by (with_reducible repeat (first | refine blk_drewN ?_ _ | refine blk_drew ?_ | refine blk_alloc ?_ _)); exact BK102.out) hg (Kd.R_ne HO_3.out BK102.out (by decide))); have n2_ := Aside0.mk (blk_grown (g := gb110) (o := .cells #[.int .i64 ((rd_T38 y106 x23_2).f0), .string ((rd_T38 y106 x23_2).f1)] 38 (0, 0)) (by (with_reducible repeat (first | refine blk_drewN ?_ _ | refine blk_drew ?_ | refine blk_alloc ?_ _)); exact BK110.out) hg (Kd.R_away HO_3.out (fun _ hk => hk.2))); have n3_ := Aside0.mk (hb); have n4_ := Aside0.mk (ho); clear HO_21; clear BK102; clear BK110; clear HB; clear HO_3; have HO_21 := n0_; have BK102 := n1_; have BK110 := n2_; have HB := n3_; have HO114 := n4_; clear n0_ n1_ n2_ n3_ n4_; clear ho hb hg hat))
                            go_roundg k2
                            case measure => have := HK1.out; have := HK2.out; omega
                            case rel => exact ⟨(y112), (wrap64 (x23_2 + 1)), (by first | rfl | (simp; done) | (simp [*]; done)), H', ⟨by have := HK1.out; have := HK2.out; omega⟩, ⟨by (with_reducible repeat (first | apply Kd.R_alloc | apply Kd.R_drewN | apply Kd.R_drew)); exact Kd.R_mono HO114.out (fun _ hk => hk.1)⟩, ⟨by (with_reducible repeat (first | apply Kd.R_alloc | apply Kd.R_drewN | apply Kd.R_drew)); exact Kd.R_mono HO_21.out (fun _ hk => hk.2)⟩, ⟨by (with_reducible repeat (first | refine blk_drewN ?_ _ | refine blk_drew ?_ | refine blk_alloc ?_ _)); exact BK102.out⟩, ⟨by repeat (first | (with_reducible first | exact HB.out | apply below_alloc | apply pw_below_drewN | apply below_drew1 | refine below_set ?_ GE102.out | refine below_set ?_ GE110.out) | exact HB.out)⟩⟩
                          · rw [if_neg c22] at H
                            exact absurd H (by simp)
                      · rw [if_neg c15] at H
                        exact absurd H (by simp)
                    · rw [if_neg c14] at H
                      exact absurd H (by simp)
                  · rw [if_neg c13] at H
                    have c13b0 : decide (x23_2 < (y106.length : Int)) = false := decide_eq_false c13
                    clear c13
                    have H' := Aside0.mk H
                    clear H
                    go_wp2
                    go_roundg k2
                    case measure => have := HK1.out; have := HK2.out; omega
                    case rel => exact ⟨(x3_2), (wrap64 (x10_1 + 1)), (by first | rfl | (simp; done) | (simp [*]; done)), H', ⟨by have := HK1.out; have := HK2.out; omega⟩, ⟨by (with_reducible repeat (first | apply Kd.R_alloc | apply Kd.R_drewN | apply Kd.R_drew)); exact Kd.R_mono HO_3.out (fun _ hk => trivial)⟩, ⟨by repeat (first | (with_reducible first | exact HB.out | apply below_alloc | apply pw_below_drewN | apply below_drew1 | refine below_set ?_ GE102.out) | exact HB.out)⟩⟩
            · rw [if_neg c5] at H
              exact absurd H (by simp)
          · rw [if_neg c4] at H
            exact absurd H (by simp)
        · rw [if_neg c3] at H
          exact absurd H (by simp)
      · rw [if_neg c2] at H
        have c2b0 : decide (x10_1 < (l0.length : Int)) = false := decide_eq_false c2
        clear c2
        obtain rfl := Option.some.inj H
        go_wp2
        go_ret
        exact ⟨_, by first | rfl | (simp [errW_none, errW_some] <;> rfl) | (simp [*, errW_none, errW_some] <;> rfl), by (with_reducible repeat (first | apply Kd.R_alloc | apply Kd.R_drewN | apply Kd.R_drew)); exact HO_3.out, by repeat (first | (with_reducible first | exact HB.out | apply below_alloc | apply pw_below_drewN | apply below_drew1) | exact HB.out)⟩

end Go.Proofs.Ytamihmofmjkfoaa.Q
end

/-! ## Q15 -/
section
-- By myprint.py, out of the translation, by way of the kit's print.
namespace Go.Proofs.Ytamihmofmjkfoaa.Q
open Go.RowKit Go.Proofs.YtamihmofmjkfoaaW.PrintWords Go.Proofs.YtamihmofmjkfoaaW.PrintLast Go.Proofs.YtamihmofmjkfoaaW.PrintMore
attribute [local go_sem] max2_int min2_int max_two min_two max_three min_three max_four min_four   -- for this text's walks alone
set_option linter.unusedVariables false
set_option linter.unusedSimpArgs false

/-! ### inkwellref17_Few: function 15 -/
mutual
def inkwellref17_Few.l0 : Nat → List (S44) → Int → Option (Bool)
  | 0, _, _ => none
  | k + 1, x0, x5 => if x5 < (x0.length : Int) then (if 0 ≤ x5 then (if (((rd_T44 x0 x5).f7).length : Int) > 40 then (inkwellref17_Few.j1 k x0 x5 true) else (if (((rd_T44 x0 x5).f1).size : Int) > 5000 then (inkwellref17_Few.j1 k x0 x5 true) else (if (((rd_T44 x0 x5).f6.f3).size : Int) > 5000 then (inkwellref17_Few.j1 k x0 x5 true) else (if (((rd_T44 x0 x5).f0.f1).size : Int) > 100 then (inkwellref17_Few.j1 k x0 x5 true) else (inkwellref17_Few.j1 k x0 x5 (decide ((((rd_T44 x0 x5).f3.f1).size : Int) > 100))))))) else (none)) else (some true)
def inkwellref17_Few.j1 : Nat → List (S44) → Int → Bool → Option (Bool)
  | 0, _, _, _ => none
  | k + 1, x0, x5, x62 => if x62 = true then (some false) else (inkwellref17_Few.l1 k x0 x5 0)
def inkwellref17_Few.l1 : Nat → List (S44) → Int → Int → Option (Bool)
  | 0, _, _, _ => none
  | k + 1, x0, x5, x6 => if 0 ≤ x5 then (if x5 < (x0.length : Int) then (if x6 < (((rd_T44 x0 x5).f7).length : Int) then (if 0 ≤ x6 then (if (((rd_T38 ((rd_T44 x0 x5).f7) x6).f1).size : Int) > 100 then (some false) else (inkwellref17_Few.l1 k x0 x5 (wrap64 (x6 + 1)))) else (none)) else (inkwellref17_Few.l0 k x0 (wrap64 (x5 + 1)))) else (none)) else (none)
end
def inkwellref17_Few.f (k : Nat) (l0 : List (S44)) (a1 : Int) : Option (Bool) := if (l0.length : Int) > a1 then (some false) else (inkwellref17_Few.l0 k l0 0)
theorem inkwellref17_Few.mono_l : ∀ k, (∀ y0 y1, LeO (inkwellref17_Few.l0 k y0 y1) (inkwellref17_Few.l0 (k + 1) y0 y1)) ∧ (∀ y0 y1 y2, LeO (inkwellref17_Few.j1 k y0 y1 y2) (inkwellref17_Few.j1 (k + 1) y0 y1 y2)) ∧ (∀ y0 y1 y2, LeO (inkwellref17_Few.l1 k y0 y1 y2) (inkwellref17_Few.l1 (k + 1) y0 y1 y2))
  | 0 => ⟨fun _ _ r h => by simp [inkwellref17_Few.l0] at h, fun _ _ _ r h => by simp [inkwellref17_Few.j1] at h, fun _ _ _ r h => by simp [inkwellref17_Few.l1] at h⟩
  | k + 1 => by
    obtain ⟨ih0, ih1, ih2⟩ := inkwellref17_Few.mono_l k
    refine ⟨?_, ?_, ?_⟩
    · intro y0 y1
      unfold inkwellref17_Few.l0
      repeat' first
      | (with_reducible exact ih0 _ _)
      | (with_reducible exact ih1 _ _ _)
      | (with_reducible exact ih2 _ _ _)
      | (with_reducible exact LeO.refl _)
      | (with_reducible exact LeO.none _)
      | (with_reducible refine LeO.ite ?_ ?_)
      | (with_reducible refine LeO.bind ?_ (fun _ => ?_))
      | exact ih0 _ _
      | exact ih1 _ _ _
      | exact ih2 _ _ _
      | exact LeO.none _
      | refine LeO.ite ?_ ?_
      | refine LeO.bind ?_ (fun _ => ?_)
    · intro y0 y1 y2
      unfold inkwellref17_Few.j1
      repeat' first
      | (with_reducible exact ih0 _ _)
      | (with_reducible exact ih1 _ _ _)
      | (with_reducible exact ih2 _ _ _)
      | (with_reducible exact LeO.refl _)
      | (with_reducible exact LeO.none _)
      | (with_reducible refine LeO.ite ?_ ?_)
      | (with_reducible refine LeO.bind ?_ (fun _ => ?_))
      | exact ih0 _ _
      | exact ih1 _ _ _
      | exact ih2 _ _ _
      | exact LeO.none _
      | refine LeO.ite ?_ ?_
      | refine LeO.bind ?_ (fun _ => ?_)
    · intro y0 y1 y2
      unfold inkwellref17_Few.l1
      repeat' first
      | (with_reducible exact ih0 _ _)
      | (with_reducible exact ih1 _ _ _)
      | (with_reducible exact ih2 _ _ _)
      | (with_reducible exact LeO.refl _)
      | (with_reducible exact LeO.none _)
      | (with_reducible refine LeO.ite ?_ ?_)
      | (with_reducible refine LeO.bind ?_ (fun _ => ?_))
      | exact ih0 _ _
      | exact ih1 _ _ _
      | exact ih2 _ _ _
      | exact LeO.none _
      | refine LeO.ite ?_ ?_
      | refine LeO.bind ?_ (fun _ => ?_)
theorem inkwellref17_Few.mono : ∀ a0 a1 k, LeO (inkwellref17_Few.f k a0 a1) (inkwellref17_Few.f (k + 1) a0 a1) := by
  intro a0 a1 k
  obtain ⟨ih0, ih1, ih2⟩ := inkwellref17_Few.mono_l k
  unfold inkwellref17_Few.f
  repeat' first
      | (with_reducible exact ih0 _ _)
      | (with_reducible exact ih1 _ _ _)
      | (with_reducible exact ih2 _ _ _)
      | (with_reducible exact LeO.refl _)
      | (with_reducible exact LeO.none _)
      | (with_reducible refine LeO.ite ?_ ?_)
      | (with_reducible refine LeO.bind ?_ (fun _ => ?_))
      | exact ih0 _ _
      | exact ih1 _ _ _
      | exact ih2 _ _ _
      | exact LeO.none _
      | refine LeO.ite ?_ ?_
      | refine LeO.bind ?_ (fun _ => ?_)
set_option maxHeartbeats 8000000 in
set_option maxRecDepth 100000 in
theorem inkwellref17_Few.calls (k : Nat) (A0 : Option Addr) (c0 : Nat) (l0 : List (S44)) (a1 : Int) (r : Bool) (w : World) (hr0 : Kd.C k44 w A0 l0.length l0) (hc0 : l0.length ≤ c0) (h : inkwellref17_Few.f k l0 a1 = some r) :
    Calls Try.prog 15 #[.slice A0 l0.length c0, .int .i64 a1] w fun e w' => e = .returned (.bool r) ∧ Drawn0 w w' := by
  have HR0 := Aside0.mk hr0
  have HC0 := Aside0.mk hc0
  clear hr0 hc0
  have H : (if (l0.length : Int) > a1 then (some false) else (inkwellref17_Few.l0 k l0 0)) = some r := h
  clear h
  by_cases c3 : (l0.length : Int) > a1
  · rw [if_pos c3] at H
    have c3b0 : decide (a1 < (l0.length : Int)) = true := decide_eq_true c3
    clear c3
    obtain rfl := Option.some.inj H
    go_enter Try.func15, Try.ntmps15
    go_wp2
    go_ret
    exact ⟨by first | rfl | (simp; done) | (simp [*]; done), by repeat (first | exact Drawn0.refl _ | apply Drawn0.step)⟩
  · rw [if_neg c3] at H
    have c3b0 : decide (a1 < (l0.length : Int)) = false := decide_eq_false c3
    clear c3
    have H' := Aside0.mk H
    clear H
    go_enter Try.func15, Try.ntmps15
    go_wp2
    go_loopg [5] k (fun kq v5 w' => ∃ (x5_1 : Int), v5 = .int .i64 x5_1 ∧ Aside0 (inkwellref17_Few.l0 kq l0 x5_1 = some r) ∧ Aside0 (kq ≤ k) ∧ Drawn0 w w')
    case atStart => exact ⟨(0), (by first | rfl | (simp; done) | (simp [*]; done)), H', ⟨Nat.le_refl _⟩, by repeat (first | exact Drawn0.refl _ | apply Drawn0.step)⟩
    case round =>
      clear H'
      try clear c1
      try clear p2
      try clear c3
      try clear c3b0
      obtain ⟨x5_1, rfl, HA, HK1, ⟨m1, rfl⟩⟩ := hrel
      cases gk with
      | zero => exact absurd HA.out (by simp [inkwellref17_Few.l0])
      | succ k1 =>
        have H := HA.out
        clear HA
        simp only [inkwellref17_Few.l0] at H
        by_cases c4 : x5_1 < (l0.length : Int)
        · rw [if_pos c4] at H
          have c4b0 : decide (x5_1 < (l0.length : Int)) = true := decide_eq_true c4
          clear c4
          have HC5 := Aside0.mk H
          clear H
          go_upto_region 6 with (fail)
          go_cut [62] (fun v62 wc => ∃ (kq : Nat) (x62_4 : Bool), v62 = .bool x62_4 ∧ Aside0 (inkwellref17_Few.j1 kq l0 x5_1 x62_4 = some r) ∧ Aside0 (kq ≤ k1) ∧ Drawn0 w wc)
          case first =>
            have H := HC5.out
            clear HC5
            by_cases c6 : 0 ≤ x5_1
            · rw [if_pos c6] at H
              have c6b0 : decide (0 ≤ x5_1) = true := decide_eq_true c6
              clear c6
              (first | rw [c6b0] | (simp only [i64_w, i32_w]; rw [c6b0]) | skip)
              by_cases c7 : (((rd_T44 l0 x5_1).f7).length : Int) > 40
              · rw [if_pos c7] at H
                have c7b0 : decide (40 < (((rd_T44 l0 x5_1).f7).length : Int)) = true := decide_eq_true c7
                have c7b1 : decide (40 < ((rd_T44 l0 x5_1).f7).length) = true := decide_eq_true (by omega)
                clear c7
                have H' := Aside0.mk H
                clear H
                have p101 : 0 ≤ (x5_1 : Int) := of_decide_eq_true (by first | (with_reducible assumption) | assumption)
                have q101 : x5_1 < (l0.length : Int) := of_decide_eq_true (by first | (with_reducible assumption) | assumption)
                obtain ⟨ad101, A101_12, c101_12, e101, hx101_0, hx101_1, hx101_2, hx101_3, hx101_4, hx101_5, hx101_6, hx101_7, hx101_8, hx101_9, hx101_10, hx101_11, hx101_12, hl101_12, hi101_12⟩ := at_T44 HR0.out x5_1 p101 q101
                cases e101
                have HR101_12 := Aside0.mk hi101_12
                have HC101_12 := Aside0.mk hl101_12
                clear hi101_12 hl101_12
                replace p101 := eq_true p101
                replace q101 := eq_true q101
                go_wp2
                go_meet
                case rel => exact ⟨_, (true), (by first | rfl | (simp; done) | (simp [*]; done)), H', ⟨by have := HK1.out; first | omega | exact Nat.le_refl _⟩, by repeat (first | exact Drawn0.refl _ | apply Drawn0.step)⟩
              · rw [if_neg c7] at H
                have c7b0 : decide (40 < (((rd_T44 l0 x5_1).f7).length : Int)) = false := decide_eq_false c7
                have c7b1 : decide (40 < ((rd_T44 l0 x5_1).f7).length) = false := decide_eq_false (by omega)
                clear c7
                by_cases c8 : (((rd_T44 l0 x5_1).f1).size : Int) > 5000
                · rw [if_pos c8] at H
                  have c8b0 : decide (5000 < (((rd_T44 l0 x5_1).f1).size : Int)) = true := decide_eq_true c8
                  have c8b1 : decide (5000 < ((rd_T44 l0 x5_1).f1).size) = true := decide_eq_true (by omega)
                  clear c8
                  have H' := Aside0.mk H
                  clear H
                  have p101 : 0 ≤ (x5_1 : Int) := of_decide_eq_true (by first | (with_reducible assumption) | assumption)
                  have q101 : x5_1 < (l0.length : Int) := of_decide_eq_true (by first | (with_reducible assumption) | assumption)
                  obtain ⟨ad101, A101_12, c101_12, e101, hx101_0, hx101_1, hx101_2, hx101_3, hx101_4, hx101_5, hx101_6, hx101_7, hx101_8, hx101_9, hx101_10, hx101_11, hx101_12, hl101_12, hi101_12⟩ := at_T44 HR0.out x5_1 p101 q101
                  cases e101
                  have HR101_12 := Aside0.mk hi101_12
                  have HC101_12 := Aside0.mk hl101_12
                  clear hi101_12 hl101_12
                  replace p101 := eq_true p101
                  replace q101 := eq_true q101
                  have p102 : 0 ≤ (x5_1 : Int) := of_decide_eq_true (by first | (with_reducible assumption) | assumption)
                  have q102 : x5_1 < (l0.length : Int) := of_decide_eq_true (by first | (with_reducible assumption) | assumption)
                  obtain ⟨ad102, A102_12, c102_12, e102, hx102_0, hx102_1, hx102_2, hx102_3, hx102_4, hx102_5, hx102_6, hx102_7, hx102_8, hx102_9, hx102_10, hx102_11, hx102_12, hl102_12, hi102_12⟩ := at_T44 HR0.out x5_1 p102 q102
                  obtain rfl : ad101 = ad102 := (by injection e102)
                  have HR102_12 := Aside0.mk hi102_12
                  have HC102_12 := Aside0.mk hl102_12
                  clear hi102_12 hl102_12
                  replace p102 := eq_true p102
                  replace q102 := eq_true q102
                  have ea_ := Option.some.inj (hx101_12.symm.trans hx102_12)
                  injection ea_ with ea_ en_ ec_
                  subst ea_
                  subst ec_
                  clear en_
                  go_wp2
                  go_meet
                  case rel => exact ⟨_, (true), (by first | rfl | (simp; done) | (simp [*]; done)), H', ⟨by have := HK1.out; first | omega | exact Nat.le_refl _⟩, by repeat (first | exact Drawn0.refl _ | apply Drawn0.step)⟩
                · rw [if_neg c8] at H
                  have c8b0 : decide (5000 < (((rd_T44 l0 x5_1).f1).size : Int)) = false := decide_eq_false c8
                  have c8b1 : decide (5000 < ((rd_T44 l0 x5_1).f1).size) = false := decide_eq_false (by omega)
                  clear c8
                  by_cases c9 : (((rd_T44 l0 x5_1).f6.f3).size : Int) > 5000
                  · rw [if_pos c9] at H
                    have c9b0 : decide (5000 < (((rd_T44 l0 x5_1).f6.f3).size : Int)) = true := decide_eq_true c9
                    have c9b1 : decide (5000 < ((rd_T44 l0 x5_1).f6.f3).size) = true := decide_eq_true (by omega)
                    clear c9
                    have H' := Aside0.mk H
                    clear H
                    have p101 : 0 ≤ (x5_1 : Int) := of_decide_eq_true (by first | (with_reducible assumption) | assumption)
                    have q101 : x5_1 < (l0.length : Int) := of_decide_eq_true (by first | (with_reducible assumption) | assumption)
                    obtain ⟨ad101, A101_12, c101_12, e101, hx101_0, hx101_1, hx101_2, hx101_3, hx101_4, hx101_5, hx101_6, hx101_7, hx101_8, hx101_9, hx101_10, hx101_11, hx101_12, hl101_12, hi101_12⟩ := at_T44 HR0.out x5_1 p101 q101
                    cases e101
                    have HR101_12 := Aside0.mk hi101_12
                    have HC101_12 := Aside0.mk hl101_12
                    clear hi101_12 hl101_12
                    replace p101 := eq_true p101
                    replace q101 := eq_true q101
                    have p102 : 0 ≤ (x5_1 : Int) := of_decide_eq_true (by first | (with_reducible assumption) | assumption)
                    have q102 : x5_1 < (l0.length : Int) := of_decide_eq_true (by first | (with_reducible assumption) | assumption)
                    obtain ⟨ad102, A102_12, c102_12, e102, hx102_0, hx102_1, hx102_2, hx102_3, hx102_4, hx102_5, hx102_6, hx102_7, hx102_8, hx102_9, hx102_10, hx102_11, hx102_12, hl102_12, hi102_12⟩ := at_T44 HR0.out x5_1 p102 q102
                    obtain rfl : ad101 = ad102 := (by injection e102)
                    have HR102_12 := Aside0.mk hi102_12
                    have HC102_12 := Aside0.mk hl102_12
                    clear hi102_12 hl102_12
                    replace p102 := eq_true p102
                    replace q102 := eq_true q102
                    have ea_ := Option.some.inj (hx101_12.symm.trans hx102_12)
                    injection ea_ with ea_ en_ ec_
                    subst ea_
                    subst ec_
                    clear en_
                    have p103 : 0 ≤ (x5_1 : Int) := of_decide_eq_true (by first | (with_reducible assumption) | assumption)
                    have q103 : x5_1 < (l0.length : Int) := of_decide_eq_true (by first | (with_reducible assumption) | assumption)
                    obtain ⟨ad103, A103_12, c103_12, e103, hx103_0, hx103_1, hx103_2, hx103_3, hx103_4, hx103_5, hx103_6, hx103_7, hx103_8, hx103_9, hx103_10, hx103_11, hx103_12, hl103_12, hi103_12⟩ := at_T44 HR0.out x5_1 p103 q103
                    obtain rfl : ad101 = ad103 := (by injection e103)
                    have HR103_12 := Aside0.mk hi103_12
                    have HC103_12 := Aside0.mk hl103_12
                    clear hi103_12 hl103_12
                    replace p103 := eq_true p103
                    replace q103 := eq_true q103
                    have ea_ := Option.some.inj (hx101_12.symm.trans hx103_12)
                    injection ea_ with ea_ en_ ec_
                    subst ea_
                    subst ec_
                    clear en_
                    go_wp2
                    go_meet
                    case rel => exact ⟨_, (true), (by first | rfl | (simp; done) | (simp [*]; done)), H', ⟨by have := HK1.out; first | omega | exact Nat.le_refl _⟩, by repeat (first | exact Drawn0.refl _ | apply Drawn0.step)⟩
                  · rw [if_neg c9] at H
                    have c9b0 : decide (5000 < (((rd_T44 l0 x5_1).f6.f3).size : Int)) = false := decide_eq_false c9
                    have c9b1 : decide (5000 < ((rd_T44 l0 x5_1).f6.f3).size) = false := decide_eq_false (by omega)
                    clear c9
                    by_cases c10 : (((rd_T44 l0 x5_1).f0.f1).size : Int) > 100
                    · rw [if_pos c10] at H
                      have c10b0 : decide (100 < (((rd_T44 l0 x5_1).f0.f1).size : Int)) = true := decide_eq_true c10
                      have c10b1 : decide (100 < ((rd_T44 l0 x5_1).f0.f1).size) = true := decide_eq_true (by omega)
                      clear c10
                      have H' := Aside0.mk H
                      clear H
                      have p101 : 0 ≤ (x5_1 : Int) := of_decide_eq_true (by first | (with_reducible assumption) | assumption)
                      have q101 : x5_1 < (l0.length : Int) := of_decide_eq_true (by first | (with_reducible assumption) | assumption)
                      obtain ⟨ad101, A101_12, c101_12, e101, hx101_0, hx101_1, hx101_2, hx101_3, hx101_4, hx101_5, hx101_6, hx101_7, hx101_8, hx101_9, hx101_10, hx101_11, hx101_12, hl101_12, hi101_12⟩ := at_T44 HR0.out x5_1 p101 q101
                      cases e101
                      have HR101_12 := Aside0.mk hi101_12
                      have HC101_12 := Aside0.mk hl101_12
                      clear hi101_12 hl101_12
                      replace p101 := eq_true p101
                      replace q101 := eq_true q101
                      have p102 : 0 ≤ (x5_1 : Int) := of_decide_eq_true (by first | (with_reducible assumption) | assumption)
                      have q102 : x5_1 < (l0.length : Int) := of_decide_eq_true (by first | (with_reducible assumption) | assumption)
                      obtain ⟨ad102, A102_12, c102_12, e102, hx102_0, hx102_1, hx102_2, hx102_3, hx102_4, hx102_5, hx102_6, hx102_7, hx102_8, hx102_9, hx102_10, hx102_11, hx102_12, hl102_12, hi102_12⟩ := at_T44 HR0.out x5_1 p102 q102
                      obtain rfl : ad101 = ad102 := (by injection e102)
                      have HR102_12 := Aside0.mk hi102_12
                      have HC102_12 := Aside0.mk hl102_12
                      clear hi102_12 hl102_12
                      replace p102 := eq_true p102
                      replace q102 := eq_true q102
                      have ea_ := Option.some.inj (hx101_12.symm.trans hx102_12)
                      injection ea_ with ea_ en_ ec_
                      subst ea_
                      subst ec_
                      clear en_
                      have p103 : 0 ≤ (x5_1 : Int) := of_decide_eq_true (by first | (with_reducible assumption) | assumption)
                      have q103 : x5_1 < (l0.length : Int) := of_decide_eq_true (by first | (with_reducible assumption) | assumption)
                      obtain ⟨ad103, A103_12, c103_12, e103, hx103_0, hx103_1, hx103_2, hx103_3, hx103_4, hx103_5, hx103_6, hx103_7, hx103_8, hx103_9, hx103_10, hx103_11, hx103_12, hl103_12, hi103_12⟩ := at_T44 HR0.out x5_1 p103 q103
                      obtain rfl : ad101 = ad103 := (by injection e103)
                      have HR103_12 := Aside0.mk hi103_12
                      have HC103_12 := Aside0.mk hl103_12
                      clear hi103_12 hl103_12
                      replace p103 := eq_true p103
                      replace q103 := eq_true q103
                      have ea_ := Option.some.inj (hx101_12.symm.trans hx103_12)
                      injection ea_ with ea_ en_ ec_
                      subst ea_
                      subst ec_
                      clear en_
                      have p104 : 0 ≤ (x5_1 : Int) := of_decide_eq_true (by first | (with_reducible assumption) | assumption)
                      have q104 : x5_1 < (l0.length : Int) := of_decide_eq_true (by first | (with_reducible assumption) | assumption)
                      obtain ⟨ad104, A104_12, c104_12, e104, hx104_0, hx104_1, hx104_2, hx104_3, hx104_4, hx104_5, hx104_6, hx104_7, hx104_8, hx104_9, hx104_10, hx104_11, hx104_12, hl104_12, hi104_12⟩ := at_T44 HR0.out x5_1 p104 q104
                      obtain rfl : ad101 = ad104 := (by injection e104)
                      have HR104_12 := Aside0.mk hi104_12
                      have HC104_12 := Aside0.mk hl104_12
                      clear hi104_12 hl104_12
                      replace p104 := eq_true p104
                      replace q104 := eq_true q104
                      have ea_ := Option.some.inj (hx101_12.symm.trans hx104_12)
                      injection ea_ with ea_ en_ ec_
                      subst ea_
                      subst ec_
                      clear en_
                      go_wp2
                      go_meet
                      case rel => exact ⟨_, (true), (by first | rfl | (simp; done) | (simp [*]; done)), H', ⟨by have := HK1.out; first | omega | exact Nat.le_refl _⟩, by repeat (first | exact Drawn0.refl _ | apply Drawn0.step)⟩
                    · rw [if_neg c10] at H
                      have c10b0 : decide (100 < (((rd_T44 l0 x5_1).f0.f1).size : Int)) = false := decide_eq_false c10
                      have c10b1 : decide (100 < ((rd_T44 l0 x5_1).f0.f1).size) = false := decide_eq_false (by omega)
                      clear c10
                      have H' := Aside0.mk H
                      clear H
                      have p101 : 0 ≤ (x5_1 : Int) := of_decide_eq_true (by first | (with_reducible assumption) | assumption)
                      have q101 : x5_1 < (l0.length : Int) := of_decide_eq_true (by first | (with_reducible assumption) | assumption)
                      obtain ⟨ad101, A101_12, c101_12, e101, hx101_0, hx101_1, hx101_2, hx101_3, hx101_4, hx101_5, hx101_6, hx101_7, hx101_8, hx101_9, hx101_10, hx101_11, hx101_12, hl101_12, hi101_12⟩ := at_T44 HR0.out x5_1 p101 q101
                      cases e101
                      have HR101_12 := Aside0.mk hi101_12
                      have HC101_12 := Aside0.mk hl101_12
                      clear hi101_12 hl101_12
                      replace p101 := eq_true p101
                      replace q101 := eq_true q101
                      have p102 : 0 ≤ (x5_1 : Int) := of_decide_eq_true (by first | (with_reducible assumption) | assumption)
                      have q102 : x5_1 < (l0.length : Int) := of_decide_eq_true (by first | (with_reducible assumption) | assumption)
                      obtain ⟨ad102, A102_12, c102_12, e102, hx102_0, hx102_1, hx102_2, hx102_3, hx102_4, hx102_5, hx102_6, hx102_7, hx102_8, hx102_9, hx102_10, hx102_11, hx102_12, hl102_12, hi102_12⟩ := at_T44 HR0.out x5_1 p102 q102
                      obtain rfl : ad101 = ad102 := (by injection e102)
                      have HR102_12 := Aside0.mk hi102_12
                      have HC102_12 := Aside0.mk hl102_12
                      clear hi102_12 hl102_12
                      replace p102 := eq_true p102
                      replace q102 := eq_true q102
                      have ea_ := Option.some.inj (hx101_12.symm.trans hx102_12)
                      injection ea_ with ea_ en_ ec_
                      subst ea_
                      subst ec_
                      clear en_
                      have p103 : 0 ≤ (x5_1 : Int) := of_decide_eq_true (by first | (with_reducible assumption) | assumption)
                      have q103 : x5_1 < (l0.length : Int) := of_decide_eq_true (by first | (with_reducible assumption) | assumption)
                      obtain ⟨ad103, A103_12, c103_12, e103, hx103_0, hx103_1, hx103_2, hx103_3, hx103_4, hx103_5, hx103_6, hx103_7, hx103_8, hx103_9, hx103_10, hx103_11, hx103_12, hl103_12, hi103_12⟩ := at_T44 HR0.out x5_1 p103 q103
                      obtain rfl : ad101 = ad103 := (by injection e103)
                      have HR103_12 := Aside0.mk hi103_12
                      have HC103_12 := Aside0.mk hl103_12
                      clear hi103_12 hl103_12
                      replace p103 := eq_true p103
                      replace q103 := eq_true q103
                      have ea_ := Option.some.inj (hx101_12.symm.trans hx103_12)
                      injection ea_ with ea_ en_ ec_
                      subst ea_
                      subst ec_
                      clear en_
                      have p104 : 0 ≤ (x5_1 : Int) := of_decide_eq_true (by first | (with_reducible assumption) | assumption)
                      have q104 : x5_1 < (l0.length : Int) := of_decide_eq_true (by first | (with_reducible assumption) | assumption)
                      obtain ⟨ad104, A104_12, c104_12, e104, hx104_0, hx104_1, hx104_2, hx104_3, hx104_4, hx104_5, hx104_6, hx104_7, hx104_8, hx104_9, hx104_10, hx104_11, hx104_12, hl104_12, hi104_12⟩ := at_T44 HR0.out x5_1 p104 q104
                      obtain rfl : ad101 = ad104 := (by injection e104)
                      have HR104_12 := Aside0.mk hi104_12
                      have HC104_12 := Aside0.mk hl104_12
                      clear hi104_12 hl104_12
                      replace p104 := eq_true p104
                      replace q104 := eq_true q104
                      have ea_ := Option.some.inj (hx101_12.symm.trans hx104_12)
                      injection ea_ with ea_ en_ ec_
                      subst ea_
                      subst ec_
                      clear en_
                      have p105 : 0 ≤ (x5_1 : Int) := of_decide_eq_true (by first | (with_reducible assumption) | assumption)
                      have q105 : x5_1 < (l0.length : Int) := of_decide_eq_true (by first | (with_reducible assumption) | assumption)
                      obtain ⟨ad105, A105_12, c105_12, e105, hx105_0, hx105_1, hx105_2, hx105_3, hx105_4, hx105_5, hx105_6, hx105_7, hx105_8, hx105_9, hx105_10, hx105_11, hx105_12, hl105_12, hi105_12⟩ := at_T44 HR0.out x5_1 p105 q105
                      obtain rfl : ad101 = ad105 := (by injection e105)
                      have HR105_12 := Aside0.mk hi105_12
                      have HC105_12 := Aside0.mk hl105_12
                      clear hi105_12 hl105_12
                      replace p105 := eq_true p105
                      replace q105 := eq_true q105
                      have ea_ := Option.some.inj (hx101_12.symm.trans hx105_12)
                      injection ea_ with ea_ en_ ec_
                      subst ea_
                      subst ec_
                      clear en_
                      go_wp2
                      go_meet
                      case rel => exact ⟨_, (decide ((((rd_T44 l0 x5_1).f3.f1).size : Int) > 100)), (by first | rfl | (simp; done) | (simp [*]; done)), H', ⟨by have := HK1.out; first | omega | exact Nat.le_refl _⟩, by repeat (first | exact Drawn0.refl _ | apply Drawn0.step)⟩
            · rw [if_neg c6] at H
              exact absurd H (by simp)
          case rest =>
            clear HC5
            try clear c1
            try clear p1
            try clear q1
            try clear hx1
            try clear p2
            try clear c3
            try clear c3b0
            try clear c4
            try clear c4b0
            try clear c6
            try clear c6b0
            try clear c7
            try clear c7b0
            try clear c7b1
            try clear c8
            try clear c8b0
            try clear c8b1
            try clear c9
            try clear c9b0
            try clear c9b1
            try clear c10
            try clear c10b0
            try clear c10b1
            try clear p10
            try clear q10
            try clear hx10
            try clear hx101_0
            try clear hx101_1
            try clear hx101_10
            try clear hx101_11
            try clear hx101_12
            try clear hx101_2
            try clear hx101_3
            try clear hx101_4
            try clear hx101_5
            try clear hx101_6
            try clear hx101_7
            try clear hx101_8
            try clear hx101_9
            try clear hx102_0
            try clear hx102_1
            try clear hx102_10
            try clear hx102_11
            try clear hx102_12
            try clear hx102_2
            try clear hx102_3
            try clear hx102_4
            try clear hx102_5
            try clear hx102_6
            try clear hx102_7
            try clear hx102_8
            try clear hx102_9
            try clear hx103_0
            try clear hx103_1
            try clear hx103_10
            try clear hx103_11
            try clear hx103_12
            try clear hx103_2
            try clear hx103_3
            try clear hx103_4
            try clear hx103_5
            try clear hx103_6
            try clear hx103_7
            try clear hx103_8
            try clear hx103_9
            try clear hx104_0
            try clear hx104_1
            try clear hx104_10
            try clear hx104_11
            try clear hx104_12
            try clear hx104_2
            try clear hx104_3
            try clear hx104_4
            try clear hx104_5
            try clear hx104_6
            try clear hx104_7
            try clear hx104_8
            try clear hx104_9
            try clear hx105_0
            try clear hx105_1
            try clear hx105_10
            try clear hx105_11
            try clear hx105_12
            try clear hx105_2
            try clear hx105_3
            try clear hx105_4
            try clear hx105_5
            try clear hx105_6
            try clear hx105_7
            try clear hx105_8
            try clear hx105_9
            try clear p101
            try clear p102
            try clear p103
            try clear p104
            try clear p105
            try clear p2
            try clear q101
            try clear q102
            try clear q103
            try clear q104
            try clear q105
            obtain ⟨kq, x62_4, rfl, HA, HJ4, ⟨mc4, rfl⟩⟩ := hcut
            cases kq with
            | zero => exact absurd HA.out (by simp [inkwellref17_Few.j1])
            | succ kj4 =>
              have H := HA.out
              clear HA
              simp only [inkwellref17_Few.j1] at H
              by_cases c11 : x62_4 = true
              · subst c11
                have H1 : (some false) = some r := by rw [if_pos rfl] at H; exact H
                clear H
                have H := H1
                clear H1
                obtain rfl := Option.some.inj H
                go_wp2
                go_ret
                exact ⟨by first | rfl | (simp; done) | (simp [*]; done), by repeat (first | exact Drawn0.refl _ | apply Drawn0.step)⟩
              · replace c11 := Bool.eq_false_iff.mpr c11
                subst c11
                have H1 : (inkwellref17_Few.l1 kj4 l0 x5_1 0) = some r := by rw [if_neg (show ¬ (false = true) by decide)] at H; exact H
                clear H
                have H := H1
                clear H1
                have H' := Aside0.mk H
                clear H
                go_wp2
                go_loopg [6] kj4 (fun kq v6 w' => ∃ (x6_3 : Int), v6 = .int .i64 x6_3 ∧ Aside0 (inkwellref17_Few.l1 kq l0 x5_1 x6_3 = some r) ∧ Aside0 (kq ≤ kj4) ∧ Drawn0 w w')
                case atStart => exact ⟨(0), (by first | rfl | (simp; done) | (simp [*]; done)), H', ⟨Nat.le_refl _⟩, by repeat (first | exact Drawn0.refl _ | apply Drawn0.step)⟩
                case round =>
                  clear H'
                  try clear c1
                  try clear p1
                  try clear q1
                  try clear hx1
                  try clear p2
                  try clear c3
                  try clear c3b0
                  try clear c4
                  try clear c4b0
                  try clear c6
                  try clear c6b0
                  try clear c7
                  try clear c7b0
                  try clear c7b1
                  try clear c8
                  try clear c8b0
                  try clear c8b1
                  try clear c9
                  try clear c9b0
                  try clear c9b1
                  try clear c10
                  try clear c10b0
                  try clear c10b1
                  try clear p10
                  try clear q10
                  try clear hx10
                  try clear c11
                  try clear hx101_0
                  try clear hx101_1
                  try clear hx101_10
                  try clear hx101_11
                  try clear hx101_12
                  try clear hx101_2
                  try clear hx101_3
                  try clear hx101_4
                  try clear hx101_5
                  try clear hx101_6
                  try clear hx101_7
                  try clear hx101_8
                  try clear hx101_9
                  try clear hx102_0
                  try clear hx102_1
                  try clear hx102_10
                  try clear hx102_11
                  try clear hx102_12
                  try clear hx102_2
                  try clear hx102_3
                  try clear hx102_4
                  try clear hx102_5
                  try clear hx102_6
                  try clear hx102_7
                  try clear hx102_8
                  try clear hx102_9
                  try clear hx103_0
                  try clear hx103_1
                  try clear hx103_10
                  try clear hx103_11
                  try clear hx103_12
                  try clear hx103_2
                  try clear hx103_3
                  try clear hx103_4
                  try clear hx103_5
                  try clear hx103_6
                  try clear hx103_7
                  try clear hx103_8
                  try clear hx103_9
                  try clear hx104_0
                  try clear hx104_1
                  try clear hx104_10
                  try clear hx104_11
                  try clear hx104_12
                  try clear hx104_2
                  try clear hx104_3
                  try clear hx104_4
                  try clear hx104_5
                  try clear hx104_6
                  try clear hx104_7
                  try clear hx104_8
                  try clear hx104_9
                  try clear hx105_0
                  try clear hx105_1
                  try clear hx105_10
                  try clear hx105_11
                  try clear hx105_12
                  try clear hx105_2
                  try clear hx105_3
                  try clear hx105_4
                  try clear hx105_5
                  try clear hx105_6
                  try clear hx105_7
                  try clear hx105_8
                  try clear hx105_9
                  try clear p1
                  try clear p10
                  try clear p101
                  try clear p102
                  try clear p103
                  try clear p104
                  try clear p105
                  try clear p2
                  try clear q1
                  try clear q10
                  try clear q101
                  try clear q102
                  try clear q103
                  try clear q104
                  try clear q105
                  obtain ⟨x6_3, rfl, HA, HK3, ⟨m3, rfl⟩⟩ := hrel
                  cases gk with
                  | zero => exact absurd HA.out (by simp [inkwellref17_Few.l1])
                  | succ k3 =>
                    have H := HA.out
                    clear HA
                    simp only [inkwellref17_Few.l1] at H
                    by_cases c12 : 0 ≤ x5_1
                    · rw [if_pos c12] at H
                      have c12b0 : decide (0 ≤ x5_1) = true := decide_eq_true c12
                      clear c12
                      by_cases c13 : x5_1 < (l0.length : Int)
                      · rw [if_pos c13] at H
                        have c13b0 : decide (x5_1 < (l0.length : Int)) = true := decide_eq_true c13
                        clear c13
                        by_cases c14 : x6_3 < (((rd_T44 l0 x5_1).f7).length : Int)
                        · rw [if_pos c14] at H
                          have c14b0 : decide (x6_3 < (((rd_T44 l0 x5_1).f7).length : Int)) = true := decide_eq_true c14
                          clear c14
                          by_cases c15 : 0 ≤ x6_3
                          · rw [if_pos c15] at H
                            have c15b0 : decide (0 ≤ x6_3) = true := decide_eq_true c15
                            clear c15
                            by_cases c16 : (((rd_T38 ((rd_T44 l0 x5_1).f7) x6_3).f1).size : Int) > 100
                            · rw [if_pos c16] at H
                              have c16b0 : decide (100 < (((rd_T38 ((rd_T44 l0 x5_1).f7) x6_3).f1).size : Int)) = true := decide_eq_true c16
                              have c16b1 : decide (100 < ((rd_T38 ((rd_T44 l0 x5_1).f7) x6_3).f1).size) = true := decide_eq_true (by omega)
                              clear c16
                              obtain rfl := Option.some.inj H
                              have p106 : 0 ≤ (x5_1 : Int) := of_decide_eq_true (by first | (with_reducible assumption) | assumption)
                              have q106 : x5_1 < (l0.length : Int) := of_decide_eq_true (by first | (with_reducible assumption) | assumption)
                              obtain ⟨ad106, A106_12, c106_12, e106, hx106_0, hx106_1, hx106_2, hx106_3, hx106_4, hx106_5, hx106_6, hx106_7, hx106_8, hx106_9, hx106_10, hx106_11, hx106_12, hl106_12, hi106_12⟩ := at_T44 HR0.out x5_1 p106 q106
                              cases e106
                              have HR106_12 := Aside0.mk hi106_12
                              have HC106_12 := Aside0.mk hl106_12
                              clear hi106_12 hl106_12
                              replace p106 := eq_true p106
                              replace q106 := eq_true q106
                              have p107 : 0 ≤ (x5_1 : Int) := of_decide_eq_true (by first | (with_reducible assumption) | assumption)
                              have q107 : x5_1 < (l0.length : Int) := of_decide_eq_true (by first | (with_reducible assumption) | assumption)
                              obtain ⟨ad107, A107_12, c107_12, e107, hx107_0, hx107_1, hx107_2, hx107_3, hx107_4, hx107_5, hx107_6, hx107_7, hx107_8, hx107_9, hx107_10, hx107_11, hx107_12, hl107_12, hi107_12⟩ := at_T44 HR0.out x5_1 p107 q107
                              obtain rfl : ad106 = ad107 := (by injection e107)
                              have HR107_12 := Aside0.mk hi107_12
                              have HC107_12 := Aside0.mk hl107_12
                              clear hi107_12 hl107_12
                              replace p107 := eq_true p107
                              replace q107 := eq_true q107
                              have ea_ := Option.some.inj (hx106_12.symm.trans hx107_12)
                              injection ea_ with ea_ en_ ec_
                              subst ea_
                              subst ec_
                              clear en_
                              have p108 : 0 ≤ (x6_3 : Int) := of_decide_eq_true (by first | (with_reducible assumption) | assumption)
                              have q108 : x6_3 < (((rd_T44 l0 x5_1).f7).length : Int) := of_decide_eq_true (by first | (with_reducible assumption) | assumption)
                              obtain ⟨ad108, e108, hx108_0, hx108_1⟩ := at_T38 HR107_12.out x6_3 p108 q108
                              cases e108
                              replace p108 := eq_true p108
                              replace q108 := eq_true q108
                              go_wp2
                              go_ret
                              exact ⟨by first | rfl | (simp; done) | (simp [*]; done), by repeat (first | exact Drawn0.refl _ | apply Drawn0.step)⟩
                            · rw [if_neg c16] at H
                              have c16b0 : decide (100 < (((rd_T38 ((rd_T44 l0 x5_1).f7) x6_3).f1).size : Int)) = false := decide_eq_false c16
                              have c16b1 : decide (100 < ((rd_T38 ((rd_T44 l0 x5_1).f7) x6_3).f1).size) = false := decide_eq_false (by omega)
                              clear c16
                              have H' := Aside0.mk H
                              clear H
                              have p106 : 0 ≤ (x5_1 : Int) := of_decide_eq_true (by first | (with_reducible assumption) | assumption)
                              have q106 : x5_1 < (l0.length : Int) := of_decide_eq_true (by first | (with_reducible assumption) | assumption)
                              obtain ⟨ad106, A106_12, c106_12, e106, hx106_0, hx106_1, hx106_2, hx106_3, hx106_4, hx106_5, hx106_6, hx106_7, hx106_8, hx106_9, hx106_10, hx106_11, hx106_12, hl106_12, hi106_12⟩ := at_T44 HR0.out x5_1 p106 q106
                              cases e106
                              have HR106_12 := Aside0.mk hi106_12
                              have HC106_12 := Aside0.mk hl106_12
                              clear hi106_12 hl106_12
                              replace p106 := eq_true p106
                              replace q106 := eq_true q106
                              have p107 : 0 ≤ (x5_1 : Int) := of_decide_eq_true (by first | (with_reducible assumption) | assumption)
                              have q107 : x5_1 < (l0.length : Int) := of_decide_eq_true (by first | (with_reducible assumption) | assumption)
                              obtain ⟨ad107, A107_12, c107_12, e107, hx107_0, hx107_1, hx107_2, hx107_3, hx107_4, hx107_5, hx107_6, hx107_7, hx107_8, hx107_9, hx107_10, hx107_11, hx107_12, hl107_12, hi107_12⟩ := at_T44 HR0.out x5_1 p107 q107
                              obtain rfl : ad106 = ad107 := (by injection e107)
                              have HR107_12 := Aside0.mk hi107_12
                              have HC107_12 := Aside0.mk hl107_12
                              clear hi107_12 hl107_12
                              replace p107 := eq_true p107
                              replace q107 := eq_true q107
                              have ea_ := Option.some.inj (hx106_12.symm.trans hx107_12)
                              injection ea_ with ea_ en_ ec_
                              subst ea_
                              subst ec_
                              clear en_
                              have p108 : 0 ≤ (x6_3 : Int) := of_decide_eq_true (by first | (with_reducible assumption) | assumption)
                              have q108 : x6_3 < (((rd_T44 l0 x5_1).f7).length : Int) := of_decide_eq_true (by first | (with_reducible assumption) | assumption)
                              obtain ⟨ad108, e108, hx108_0, hx108_1⟩ := at_T38 HR107_12.out x6_3 p108 q108
                              cases e108
                              replace p108 := eq_true p108
                              replace q108 := eq_true q108
                              go_wp2
                              go_roundg k3
                              case measure => have := HK1.out; have := HJ4.out; have := HK3.out; omega
                              case rel => exact ⟨(wrap64 (x6_3 + 1)), (by first | rfl | (simp; done) | (simp [*]; done)), H', ⟨by have := HK1.out; have := HJ4.out; have := HK3.out; omega⟩, by repeat (first | exact Drawn0.refl _ | apply Drawn0.step)⟩
                          · rw [if_neg c15] at H
                            exact absurd H (by simp)
                        · rw [if_neg c14] at H
                          have c14b0 : decide (x6_3 < (((rd_T44 l0 x5_1).f7).length : Int)) = false := decide_eq_false c14
                          clear c14
                          have H' := Aside0.mk H
                          clear H
                          have p106 : 0 ≤ (x5_1 : Int) := of_decide_eq_true (by first | (with_reducible assumption) | assumption)
                          have q106 : x5_1 < (l0.length : Int) := of_decide_eq_true (by first | (with_reducible assumption) | assumption)
                          obtain ⟨ad106, A106_12, c106_12, e106, hx106_0, hx106_1, hx106_2, hx106_3, hx106_4, hx106_5, hx106_6, hx106_7, hx106_8, hx106_9, hx106_10, hx106_11, hx106_12, hl106_12, hi106_12⟩ := at_T44 HR0.out x5_1 p106 q106
                          cases e106
                          have HR106_12 := Aside0.mk hi106_12
                          have HC106_12 := Aside0.mk hl106_12
                          clear hi106_12 hl106_12
                          replace p106 := eq_true p106
                          replace q106 := eq_true q106
                          go_wp2
                          go_roundg k3
                          case measure => have := HK1.out; have := HJ4.out; have := HK3.out; omega
                          case rel => exact ⟨(wrap64 (x5_1 + 1)), (by first | rfl | (simp; done) | (simp [*]; done)), H', ⟨by have := HK1.out; have := HJ4.out; have := HK3.out; omega⟩, by repeat (first | exact Drawn0.refl _ | apply Drawn0.step)⟩
                      · rw [if_neg c13] at H
                        exact absurd H (by simp)
                    · rw [if_neg c12] at H
                      exact absurd H (by simp)
        · rw [if_neg c4] at H
          have c4b0 : decide (x5_1 < (l0.length : Int)) = false := decide_eq_false c4
          clear c4
          obtain rfl := Option.some.inj H
          go_wp2
          go_ret
          exact ⟨by first | rfl | (simp; done) | (simp [*]; done), by repeat (first | exact Drawn0.refl _ | apply Drawn0.step)⟩

end Go.Proofs.Ytamihmofmjkfoaa.Q
end

/-! ## XNum -/
section
/- Plain arithmetic: numbers in base 128, their bytes, and bits as sums. No program in sight. Conditions: bytes are 0 to 255. -/
namespace Go.Proofs.Ytamihmofmjkfoaa.X
open Go.RowKit

/-! ### bytes -/
def By (l : List Int) : Prop := ∀ x ∈ l, 0 ≤ x ∧ x < 256
instance (l : List Int) : Decidable (By l) := by unfold By; exact inferInstance
theorem By.nil : By [] := fun _ h => by cases h
theorem By.app {a b : List Int} (h : By a) (k : By b) : By (a ++ b) := fun x hx => by
  rcases List.mem_append.1 hx with h1 | h1
  · exact h x h1
  · exact k x h1
theorem By.take {l : List Int} (h : By l) (n : Nat) : By (l.take n) := fun x hx => h x (List.mem_of_mem_take hx)
theorem By.drop {l : List Int} (h : By l) (n : Nat) : By (l.drop n) := fun x hx => h x (List.mem_of_mem_drop hx)
theorem By.get {l : List Int} (h : By l) (i : Nat) : 0 ≤ l.getD i 0 ∧ l.getD i 0 < 256 := by
  by_cases hi : i < l.length
  · rw [List.getD_eq_getElem?_getD, List.getElem?_eq_getElem hi]
    exact h _ (List.getElem_mem hi)
  · rw [List.getD_eq_getElem?_getD, List.getElem?_eq_none (by omega)]
    simp

/-! ### bits -/
theorem and127 {x : Int} (h0 : 0 ≤ x) (h1 : x < 256) : bits .and .u8 x 127 = x % 128 := bits_mask .u8 8 (by decide) (fun n a b => by rw [IntKind.wrap_u8]; omega) 7 (by decide) x h0 h1
theorem ofInt64 (a : Nat) (ha : a < 2 ^ 64) : (BitVec.ofInt 64 (a : Int)).toNat = a := by
  rw [BitVec.ofInt_natCast, BitVec.toNat_ofNat]; exact Nat.mod_eq_of_lt ha
theorem wrap_u64 (n : Int) : IntKind.u64.wrap n = n % 18446744073709551616 := by simp [IntKind.wrap, IntKind.bits, IntKind.signed]
theorem or_add_u64 {n m s : Nat} (hn : n < 2 ^ s) (hm : m * 2 ^ s < 2 ^ 64) (hs : s ≤ 64) : bits .or .u64 (n : Int) ((m * 2 ^ s : Nat) : Int) = ((m * 2 ^ s + n : Nat) : Int) := by
  have h2 : (2 : Nat) ^ s ≤ 2 ^ 64 := Nat.pow_le_pow_right (by decide) hs
  have e : n ||| m * 2 ^ s = m * 2 ^ s + n := by rw [Nat.mul_comm, Nat.two_pow_add_eq_or_of_lt hn, Nat.or_comm]
  show IntKind.u64.wrap ((BitVec.ofInt 64 (n : Int) ||| BitVec.ofInt 64 ((m * 2 ^ s : Nat) : Int)).toNat : Int) = _
  rw [BitVec.toNat_or, ofInt64 n (by omega), ofInt64 _ hm, e, wrap_u64]
  have hlt : m * 2 ^ s + n < 2 ^ 64 := by rw [← e]; exact Nat.or_lt_two_pow (by omega) hm
  omega

/-! ### numbers to the base 128 -/
def val7 : List Int → Nat
  | [] => 0
  | x :: t => x.toNat % 128 + 128 * val7 t
theorem val7_lt : ∀ l : List Int, val7 l < 128 ^ l.length
  | [] => by decide
  | x :: t => by
    have := val7_lt t
    simp only [val7, List.length_cons, Nat.pow_succ]
    omega
theorem val7_app : ∀ a b : List Int, val7 (a ++ b) = val7 a + 128 ^ a.length * val7 b
  | [], b => by simp [val7]
  | x :: t, b => by
    simp only [List.cons_append, val7, val7_app t b, List.length_cons, Nat.pow_succ, Nat.mul_add]
    rw [Nat.mul_comm (128 ^ t.length) 128, Nat.mul_assoc]
    omega
/-- How many bytes the number at the beginning has, and the error. -/
def spanF : Nat → List Int → Int × Int
  | _, [] => (0, 2)
  | i, x :: t => if x < 128 then ((i : Int) + 1, 0) else if i = 9 then (0, 3) else spanF (i + 1) t
def ubF : Nat → Nat → List Int
  | 0, n => [(n : Int)]
  | f + 1, n => if n < 128 then [(n : Int)] else ((128 + n % 128 : Nat) : Int) :: ubF f (n / 128)
/-- The bytes of a number without a sign. -/
def ub (n : Nat) : List Int := ubF 9 n
theorem spanF_spec : ∀ (l : List Int) (i : Nat), i ≤ 9 → (∃ k : Nat, (spanF i l).1 = (k : Int) + i ∧ (spanF i l).2 = 0 ∧ 1 ≤ k ∧ k ≤ l.length ∧ k + i ≤ 10) ∨ (spanF i l).1 = 0 ∧ ((spanF i l).2 = 2 ∨ (spanF i l).2 = 3)
  | [], i, _ => .inr ⟨rfl, .inl rfl⟩
  | x :: t, i, hi => by
    unfold spanF
    by_cases hx : x < 128
    · rw [if_pos hx]
      exact .inl ⟨1, by simp; omega, rfl, by omega, by simp, by omega⟩
    · rw [if_neg hx]
      by_cases h9 : i = 9
      · rw [if_pos h9]
        exact .inr ⟨rfl, .inr rfl⟩
      · rw [if_neg h9]
        rcases spanF_spec t (i + 1) (by omega) with ⟨k, h1, h2, h3, h4, h5⟩ | h
        · exact .inl ⟨k + 1, by rw [h1]; omega, h2, by omega, by simp; omega, by omega⟩
        · exact .inr h
/-- What the program's GetU tells: the number, how many bytes, the error. -/
def getU (l : List Int) : Int × Int × Int :=
  let s := spanF 0 l
  if s.2 = 0 then
    let k := s.1.toNat
    let n := val7 (l.take k) % 2 ^ 64
    if (ub n).length ≠ k ∨ k = 10 ∧ l.getD 9 0 > 1 then (0, 0, 3) else ((n : Int), (k : Int), 0)
  else (0, 0, s.2)
end Go.Proofs.Ytamihmofmjkfoaa.X
end

/-! ## XNames -/
section
/- Who is spoken of by ops: the plain answers of Names and Few. Conditions: the ops are fewer than some thousands. -/
set_option linter.unusedVariables false
set_option linter.unusedSimpArgs false
namespace Go.Proofs.Ytamihmofmjkfoaa.X
open Go.RowKit Go.Proofs.YtamihmofmjkfoaaW.PrintWords Go.Proofs.YtamihmofmjkfoaaW.PrintLast Go.Proofs.YtamihmofmjkfoaaW.PrintMore Go.Proofs.Ytamihmofmjkfoaa.Q

/-- With enough rounds it answers r. -/
def Evt {α : Type} (g : Nat → Option α) (r : α) : Prop := ∃ K, ∀ k, K ≤ k → g k = some r
theorem Evt.step {α : Type} {g g' : Nat → Option α} {r : α} (h : Evt g r) (e : ∀ k, g' (k + 1) = g k) : Evt g' r := by
  obtain ⟨K, hK⟩ := h
  refine ⟨K + 1, fun k hk => ?_⟩
  obtain ⟨k, rfl⟩ : ∃ m, k = m + 1 := ⟨k - 1, by omega⟩
  rw [e]
  exact hK k (by omega)
theorem Evt.one {α : Type} {g : Nat → Option α} {r : α} (e : ∀ k, g (k + 1) = some r) : Evt g r := ⟨1, fun k hk => by
  obtain ⟨k, rfl⟩ : ∃ m, k = m + 1 := ⟨k - 1, by omega⟩
  exact e k⟩
theorem Evt.of {α : Type} {g g' : Nat → Option α} {r : α} (h : Evt g r) (e : ∀ k, g' k = g k) : Evt g' r := by
  obtain ⟨K, hK⟩ := h
  exact ⟨K, fun k hk => by rw [e]; exact hK k hk⟩
theorem Evt.const {α : Type} (r : α) : Evt (fun _ => some r) r := ⟨0, fun _ _ => rfl⟩
theorem Evt.bind {α β : Type} {g : Nat → Option α} {f : Nat → α → Option β} {r : α} {q : β} (h : Evt g r) (k : Evt (fun n => f n r) q) : Evt (fun n => (g n).bind (f n)) q := by
  obtain ⟨K, hK⟩ := h
  obtain ⟨L, hL⟩ := k
  exact ⟨max K L, fun n hn => by simp only [hK n (by omega), Option.bind_some]; exact hL n (by omega)⟩

theorem w64' {x : Int} (h0 : -9223372036854775808 ≤ x) (h1 : x < 9223372036854775808) : wrap64 x = x := by unfold wrap64; omega

abbrev OpId := S38
abbrev Val := S41
abbrev Op := S44
abbrev zOp : Op := z44

/-- Does it name something? -/
def nz (x : OpId) : Bool := !(x.f0 == 0 && (x.f1.toList == ([] : List UInt8)))
def namesOf (l : List Op) : List OpId := l.flatMap fun o => ([o.f0, o.f3] ++ o.f7).filter nz
/-- Few enough for every list that is made of them. -/
def Sm (l : List Op) : Prop := l.length ≤ 10000 ∧ ∀ o ∈ l, o.f7.length ≤ 10000
instance (l : List Op) : Decidable (Sm l) := by unfold Sm; exact inferInstance
theorem getD_get {α : Type} (l : List α) (d : α) (i : Nat) (h : i < l.length) : l.getD i d = l[i] := by simp [List.getD_eq_getElem?_getD, h]
theorem names_l1 (x8 : List Op) (x9 x10 : Int) (x21 : List OpId) (h21 : x21.length ≤ 20000) (r : List OpId) :
    ∀ (d j : Nat) (x3 : List OpId), x21.length - j = d → j ≤ x21.length → x3.length + d ≤ 1000000000 →
      Evt (fun k => op_Names.l0 k (x3 ++ (x21.drop j).filter nz) x8 x9 (wrap64 (x10 + 1))) r → Evt (fun k => op_Names.l1 k x3 x8 x9 x10 x21 (x21.length : Int) j) r := by
  intro d
  induction d with
  | zero =>
    intro j x3 hd hj hx h
    refine h.step fun k => ?_
    simp only [op_Names.l1]
    rw [if_neg (by omega), List.drop_eq_nil_of_le (by omega)]
    simp
  | succ d ih =>
    intro j x3 hd hj hx h
    have hlt : j < x21.length := by omega
    have hw : wrap64 ((j : Int) + 1) = ((j + 1 : Nat) : Int) := by rw [w64' (by omega) (by omega)]; omega
    have hr : rd_T38 x21 (j : Int) = x21[j] := by unfold rd_T38; rw [Int.toNat_natCast, getD_get _ _ _ hlt]
    rw [List.drop_eq_getElem_cons hlt, List.filter_cons] at h
    by_cases hz : nz x21[j] = true
    · rw [if_pos hz] at h
      refine (ih (j + 1) (x3 ++ [x21[j]]) (by omega) (by omega) (by simp; omega) (h.of fun k => by simp)).step fun k => ?_
      simp only [op_Names.l1, op_Zero.f, hr, Option.bind_some]
      rw [if_pos (by omega), if_pos (by omega), if_pos (by omega), if_neg (fun hh => by unfold nz at hz; rw [hh] at hz; exact absurd hz (by decide)), if_pos (by omega), hw]
    · rw [if_neg hz] at h
      refine (ih (j + 1) x3 (by omega) (by omega) (by omega) h).step fun k => ?_
      simp only [op_Names.l1, op_Zero.f, hr, Option.bind_some]
      rw [if_pos (by omega), if_pos (by omega), if_pos (by omega), if_pos (by unfold nz at hz; simpa using hz), hw]
theorem flat_le (l : List Op) (h : ∀ o ∈ l, o.f7.length ≤ 10000) : (namesOf l).length ≤ 10002 * l.length := by
  induction l with
  | nil => simp [namesOf]
  | cons o t ih =>
    have := ih (fun p hp => h p (List.mem_cons_of_mem _ hp))
    have h1 := List.length_filter_le nz ([o.f0, o.f3] ++ o.f7)
    have h2 := h o List.mem_cons_self
    simp only [namesOf, List.flatMap_cons, List.length_append, List.length_cons, List.length_nil] at this h1 ⊢
    omega
theorem names_l0 (x8 : List Op) (hs : Sm x8) : ∀ (d i : Nat), x8.length - i = d → i ≤ x8.length →
    Evt (fun k => op_Names.l0 k (namesOf (x8.take i)) x8 (x8.length : Int) i) (namesOf x8) := by
  intro d
  induction d with
  | zero =>
    intro i hd hi
    refine Evt.one fun k => ?_
    simp only [op_Names.l0]
    rw [if_neg (by omega), List.take_of_length_le (by omega)]
  | succ d ih =>
    intro i hd hi
    have hlt : i < x8.length := by omega
    have hl : x8.length ≤ 10000 := hs.1
    have hw : wrap64 ((i : Int) + 1) = ((i + 1 : Nat) : Int) := by rw [w64' (by omega) (by omega)]; omega
    have hr : rd_T44 x8 (i : Int) = x8[i] := by unfold rd_T44; rw [Int.toNat_natCast, getD_get _ _ _ hlt]
    have hp := hs.2 _ (List.getElem_mem hlt)
    have hnl := flat_le (x8.take i) (fun o ho => hs.2 o (List.mem_of_mem_take ho))
    have htl : (x8.take i).length ≤ 10000 := by simp; omega
    have key := names_l1 x8 (x8.length : Int) i ([x8[i].f0, x8[i].f3] ++ x8[i].f7) (by simp; omega) (namesOf x8) _ 0 (namesOf (x8.take i)) rfl (Nat.zero_le _) (by simp; omega) ((ih (i + 1) (by omega) (by omega)).of fun k => by
      rw [hw, List.drop_zero, List.take_succ_eq_append_getElem hlt]
      simp only [namesOf, List.flatMap_append, List.flatMap_cons, List.flatMap_nil, List.append_nil])
    refine key.step fun k => ?_
    simp only [op_Names.l0, hr, Option.bind_some]
    rw [if_pos (by omega), if_pos (by omega), if_pos (by omega), if_pos (by simp; omega)]
    rfl
theorem Names_f (l : List Op) (hs : Sm l) : ∃ k, op_Names.f k l = some (namesOf l) := by
  obtain ⟨K, hK⟩ := names_l0 l hs l.length 0 (by omega) (by omega)
  exact ⟨K, by unfold op_Names.f; exact hK K (Nat.le_refl _)⟩
end Go.Proofs.Ytamihmofmjkfoaa.X
end

/-! ## XMap -/
section
/- A map from texts to truths that a call makes and keeps as a set: what a look-up and a store do to it, at the operation. Conditions: the keys' lengths are at most maxLen. -/
namespace Go.Proofs.Ytamihmofmjkfoaa.X
open Go.Maps (Keyed)

theorem plainElem_bool_inv {H : Type} {P : Program} {e : TypeId} (he : P.underlying e = some .bool) {v : Value} {z : DataW H × List MemPlace} (h : plainElem P e v = some z) : ∃ a, v = .bool a ∧ z = (.lit (.bool a), []) := by
  unfold plainElem at h
  rw [he] at h
  cases v <;> simp at h
  exact ⟨_, rfl, h.symm⟩

theorem keyOf_string_mk {P : Program} {k : TypeId} (hk : P.underlying k = some .string) (s : ByteArray) (hs : s.size ≤ maxLen) : keyOf P k (.string s) = some (.string s.data.toList) := by
  rw [keyOf_string hk]
  simp [mapKey, hk, hs]

/-- Block b is a map of at most n entries that holds 'true' at the texts ks and nothing at any other. -/
def IsSet (w : World) (P : Program) (k e : TypeId) (b n : Nat) (ks : List (List UInt8)) : Prop :=
  ∃ D : DataW Unit, w.ownsMap P k (plainElem P e) b n D ∧ ∀ s : List UInt8, D.atKey (.string s) (.lit (.bool false)) = .lit (.bool (decide (s ∈ ks)))

section
variable {P : Program} {k e : TypeId} {w w' : World} {b n : Nat} {ks : List (List UInt8)}

theorem IsSet.made (w : World) (P : Program) (k e : TypeId) : IsSet (w.alloc (.map #[] 0)) P k e w.heap.size 0 [] :=
  ⟨_, World.ownsMap_made w P k _, fun s => by simp [DataW.atKey]⟩
theorem IsSet.kept (h : IsSet w P k e b n ks) {row : Option Nat} (hg : w.grownBy w' row) (hne : some b ≠ row) : IsSet w' P k e b n ks := by
  obtain ⟨D, h1, h2⟩ := h
  exact ⟨D, h1.kept hg hne, h2⟩
theorem IsSet.mono {n' : Nat} (h : IsSet w P k e b n ks) (hn : n ≤ n') : IsSet w P k e b n' ks := by
  obtain ⟨D, h1, h2⟩ := h
  exact ⟨D, h1.mono hn, h2⟩
theorem IsSet.lt (h : IsSet w P k e b n ks) : b < w.heap.size := by
  obtain ⟨D, h1, _⟩ := h
  exact h1.lt
theorem IsSet.put_ (h : IsSet w P k e b n ks) {s : List UInt8} (hw : w'.ownsMap P k (plainElem P e) b (n + 1) ((Classical.choose h).put (.string s) (.lit (.bool true)))) : IsSet w' P k e b (n + 1) (s :: ks) := by
  obtain ⟨h1, h2⟩ := Classical.choose_spec h
  refine ⟨_, hw, fun t => ?_⟩
  by_cases ht : t = s
  · subst ht
    rw [Maps.atKey_put_same (h1.isMap) (k := .string t) (by exact ⟨⟩)]
    simp
  · rw [Maps.atKey_put_other (by simpa using ht), h2]
    simp [ht]
end

section
variable {P : Program} {ops : Array Oper} {rest : List Oper} {o : Oper} {a : Act} {Q : Exit → Act → World → Prop}
/-- The look-up (without ok). -/
theorem wp_look {w : World} (hg : o.guard = none) (m x : Operand) (t : TypeId) (hop : o.op = Op.lookup t m x false)
    (k e : TypeId) (hk : P.underlying k = some .string) (he : P.underlying e = some .bool) (ht : P.underlying t = some (.map k e)) (hz : (zeroValue e).run P w = .ok (.bool false) w) (b n : Nat) (ks : List (List UInt8))
    (hm : a.eval m = .map (some b)) (hown : IsSet w P k e b n ks) (s : ByteArray) (hx : a.eval x = .string s) (hs : s.size ≤ maxLen)
    (hK : wpList P ops Q rest (a.put o.dst (.bool (decide (s.data.toList ∈ ks)))) w) : wpList P ops Q (o :: rest) a w := by
  refine wpList_plain hg fun K' hK' => ?_
  obtain ⟨D, h1, h2⟩ := hown
  obtain ⟨v, ps, hrun, hv⟩ := h1.lookup (Maps.string_keyed hk) ht hz (plainElem_bool he false) (keyOf_string_mk hk s hs)
  rw [h2] at hv
  obtain ⟨c, rfl, hc⟩ := plainElem_bool_inv he hv
  simp only [Prod.mk.injEq, DataW.lit.injEq, Lit.bool.injEq] at hc
  obtain ⟨rfl, _⟩ := hc
  unfold Oper.wp
  simp [execOp, hop, hm, hx, hrun, Result.andThen]
  exact hK' _ _ (by simpa using hK)
theorem put_core {w : World} (k e t : TypeId) (hk : P.underlying k = some .string) (he : P.underlying e = some .bool) (ht : P.underlying t = some (.map k e)) (b n : Nat) (hn : n < maxLen) (ks : List (List UInt8))
    (hown : IsSet w P k e b n ks) (s : ByteArray) (hs : s.size ≤ maxLen) :
    ∃ w', (Instr.mapUpdate t (.map (some b)) (.string s) (.bool true)).run P w = .ok () w' ∧ IsSet w' P k e b (n + 1) (s.data.toList :: ks) ∧ w.grownBy w' (some b) := by
  obtain ⟨w', hrun, r1, r2⟩ := (Classical.choose_spec hown).1.update (Maps.string_keyed hk) ht hn (keyOf_string_mk hk s hs) (plainElem_bool he true)
  exact ⟨w', hrun, hown.put_ r1, r2⟩
/-- m[s] = true. -/
theorem wp_put {w : World} (hg : o.guard = none) (m x v : Operand) (t : TypeId) (hop : o.op = Op.mapUpdate t m x v) (hv : a.eval v = .bool true)
    (k e : TypeId) (hk : P.underlying k = some .string) (he : P.underlying e = some .bool) (ht : P.underlying t = some (.map k e)) (b n : Nat) (hn : n < maxLen) (ks : List (List UInt8))
    (hm : a.eval m = .map (some b)) (hown : IsSet w P k e b n ks) (s : ByteArray) (hx : a.eval x = .string s) (hs : s.size ≤ maxLen)
    (hK : ∀ w', IsSet w' P k e b (n + 1) (s.data.toList :: ks) → w.grownBy w' (some b) → wpList P ops Q rest (a.put o.dst undef) w') : wpList P ops Q (o :: rest) a w := by
  refine wpList_plain hg fun K' hK' => ?_
  obtain ⟨w', hrun, r1, r2⟩ := put_core k e t hk he ht b n hn ks hown s hs
  unfold Oper.wp
  simp [execOp, hop, hm, hx, hv, hrun, Result.andThen]
  exact hK' _ _ (hK w' r1 r2)
/-- The same in a literal. -/
theorem wp_insert {w : World} (hg : o.guard = none) (m x v : Operand) (t : TypeId) (hop : o.op = Op.insert t m x v) (hv : a.eval v = .bool true)
    (k e : TypeId) (hk : P.underlying k = some .string) (he : P.underlying e = some .bool) (ht : P.underlying t = some (.map k e)) (b n : Nat) (hn : n < maxLen) (ks : List (List UInt8))
    (hm : a.eval m = .map (some b)) (hown : IsSet w P k e b n ks) (s : ByteArray) (hx : a.eval x = .string s) (hs : s.size ≤ maxLen)
    (hK : ∀ w', IsSet w' P k e b (n + 1) (s.data.toList :: ks) → w.grownBy w' (some b) → wpList P ops Q rest (a.put o.dst undef) w') : wpList P ops Q (o :: rest) a w := by
  refine wpList_plain hg fun K' hK' => ?_
  obtain ⟨w', hrun, r1, r2⟩ := put_core k e t hk he ht b n hn ks hown s hs
  unfold Oper.wp
  simp [execOp, hop, hm, hx, hv, hrun, Result.andThen]
  exact hK' _ _ (hK w' r1 r2)
end
end Go.Proofs.Ytamihmofmjkfoaa.X
end

/-! ## XWorld -/
section
/- Small steps of worlds: only one block, and what is new, has turned. No program in sight. -/
set_option linter.unusedVariables false
namespace Go.Proofs.Ytamihmofmjkfoaa.X
open Go.RowKit Go.Proofs.YtamihmofmjkfoaaW.PrintWords Go.Proofs.YtamihmofmjkfoaaW.PrintLast

section
variable {a w w' : World} {row : Option Nat}
theorem gb_drew (h : a.grownBy w row) : a.grownBy w.drew row := ⟨h.os, h.tape, h.output, h.size, h.block⟩
theorem gb_drewN (h : a.grownBy w row) (n : Nat) : a.grownBy (w.drewN n) row := ⟨h.os, h.tape, h.output, h.size, h.block⟩
theorem gb_then (h : a.grownBy w row) {r : Option Nat} (hg : w.grownBy w' r) (hr : ∀ k, r = some k → a.heap.size ≤ k ∨ row = some k) : a.grownBy w' row :=
  ⟨hg.os.trans h.os, hg.tape.trans h.tape, hg.output.trans h.output, Nat.le_trans h.size hg.size, fun k hk hne => (hg.block k (Nat.lt_of_lt_of_le hk h.size) (fun e => by
    rcases hr k e.symm with h1 | h1
    · omega
    · exact hne h1.symm)).trans (h.block k hk hne)⟩
theorem gb_alloc (h : a.grownBy w row) (o : Obj) : a.grownBy (w.alloc o) row := gb_then h (World.grownBy_alloc w o none) (by simp)
theorem gb_setCell (h : a.grownBy w row) {p : Addr} (hp : a.heap.size ≤ p.block ∨ row = some p.block) (u : Value) : a.grownBy (w.setCell p u) row :=
  ⟨h.os, h.tape, h.output, by simpa [World.setCell] using h.size, fun k hk hne => (Below.heap_setCell w p u k (by
    rintro rfl
    rcases hp with h1 | h1
    · omega
    · exact hne h1.symm)).trans (h.block k hk hne)⟩
theorem gb_below (h : a.grownBy w row) {B : Nat} (hb : Below B w w') (hB : a.heap.size ≤ B) : a.grownBy w' row :=
  ⟨hb.os.trans h.os, hb.tape.trans h.tape, hb.output.trans h.output, Nat.le_trans h.size hb.size, fun k hk hne => (hb.block k (by omega)).trans (h.block k hk hne)⟩
theorem gb_to_below {B : Nat} {w0 : World} (h : a.grownBy w row) (hb : Below B w0 a) (hB : B ≤ a.heap.size) (hr : ∀ k, row = some k → B ≤ k) : Below B w0 w := pw_below_grown hb row hB h hr
theorem gb_is_below (h : a.grownBy w none) : Below a.heap.size a w := ⟨h.os, h.tape, h.output, h.size, fun k hk => h.block k hk (by simp)⟩
theorem bl_is_gb (h : Below a.heap.size a w) : a.grownBy w none := ⟨h.os, h.tape, h.output, h.size, fun k hk _ => h.block k hk⟩
end

section
variable {α : Type} {d : Kd α} {e base : Nat} {ok : Nat → Prop} {w w' : World} {v : Value} {xs : List α}
/-- What was made between two sizes: as long as none of these blocks turns it stands. -/
theorem R_between (h : d.R e w base ok v xs) : d.R e w base (fun k => base ≤ k ∧ k < w.heap.size) v xs := Kd.R_mono (Kd.R_bound h) (fun k hk => ⟨hk.2.1, hk.2.2.1⟩)
theorem R_gb {n : Nat} {row : Option Nat} (h : d.R e w base (fun k => base ≤ k ∧ k < w.heap.size) v xs) (hg : w.grownBy w' row) (hr : ∀ k, row = some k → k < base) : d.R e w' base (fun _ => True) v xs :=
  Kd.R_mono (Kd.R_move h (fun k hk => hg.block k hk.2 (fun e1 => by have := hr k e1.symm; omega))) (fun _ _ => trivial)
end
section
variable {α : Type} {d : Kd α} {e base : Nat} {ok : Nat → Prop} {w w' : World} {v : Value} {xs : List α}
theorem R_gbT {row : Option Nat} (h : d.R e w base ok v xs) (hg : w.grownBy w' row) (hr : ∀ k, row = some k → k < base) : d.R e w' base (fun _ => True) v xs := R_gb (n := 0) (R_between h) hg hr
theorem R_base (h : d.R e w base ok v xs) (k : Nat) (hk : v.ownBlock = some k) : base ≤ k := by
  obtain ⟨inner, h⟩ := Kd.R_own h
  exact own_base h k hk
theorem R_lt (h : d.R e w base ok v xs) (k : Nat) (hk : v.ownBlock = some k) : k < w.heap.size := by
  obtain ⟨inner, h⟩ := Kd.R_own h
  exact own_lt h k hk
end
theorem R_readsv {α : Type} {d : Kd α} {e base : Nat} {ok : Nat → Prop} {w : World} {xs : List α} {A : Option Addr} {n c : Nat} (h : d.R e w base ok (.slice A n c) xs) : n = xs.length ∧ xs.length ≤ c ∧ d.C w A xs.length xs := by
  obtain ⟨A', c', e1, h1, h2⟩ := Kd.R_reads h
  simp only [Value.slice.injEq] at e1
  obtain ⟨rfl, rfl, rfl⟩ := e1
  exact ⟨rfl, h1, h2⟩
/-- A kind whose elements' cells say a fixed thing: for rows of what came in. -/
def held {α : Type} (R : α → List Value → Prop) (sz : Nat) (hl : ∀ {x cs}, R x cs → cs.length = sz) (h1 : ∀ {x cs}, R x cs → ∀ u ∈ cs, u.oneCell' = true) : Kd α where
  sz := sz
  E := []
  K := fun _ => R
  M := fun _ _ _ => R
  K_len := hl
  K_one := h1
  K_below := fun _ h => h
  K_of_M := fun h => h
  M_mono := fun _ h => h
  M_bound := fun h => h
  M_move := fun _ h => h
  M_lower := fun _ h => h
theorem R_lits {α : Type} (d : Kd α) (e : Nat) (W : World) (xs : List α) (inner : List Value) (hrep : Reps (d.M W W.heap.size (fun _ => False)) d.sz xs inner) (hm : xs.length ≤ 9223372036854775807) :
    d.R e (W.alloc (.cells inner.toArray e)) W.heap.size (fun _ => True) (.slice (some ⟨W.heap.size, 0, none⟩) xs.length xs.length) xs := by
  refine ⟨fun k hk => trivial, inner, ?_, ?_⟩
  · have h2 := World.ownsRow_lit (base := W.heap.size) (e := e) (size := d.sz) W inner.toArray xs.length (Nat.le_refl _) (by simpa [maxLen] using hm) (by simpa using hrep.1)
    simpa using h2
  · refine hrep.imp_ (fun p c hp => d.M_mono (fun k hk => hk.1.elim) (Kd.M_below (d.M_bound hp) (below_alloc (Below.refl _ _) _)))
theorem bdn {w w' : World} {n : Nat} (h : Below (w.drewN n).heap.size (w.drewN n) w') : Below w.heap.size w w' := below_then (pw_below_drewN (Below.refl _ _) n) (Nat.le_refl _) h
end Go.Proofs.Ytamihmofmjkfoaa.X
end

/-! ## Shelf -/
section
/-
  DERIVED: THE SHELF's CONTRACTS AT THIS DUMP, IN PLAIN WORDS (tools/lay-plain.mjs out of 'TryShelf.lean', which tools/lay-shelf.mjs wrote): THE SAME DECLARATIONS UNDER THE SAME NAMES: 'import', 'namespace', 'open', 'def', 'theorem' AND NOTHING ELSE: no command of the shelf's: FOR A HAND-IN. Each laying: the table of numbers ('.._ren') and one theorem, a field a fact of the dump's own or the kernel's comparison; each contract: ONE APPLICATION.
-/
namespace Go.Proofs
open Go.Shelf
def Try.lays190_ren : Go.Shelf.Ren := ⟨fun | 190 => 57 | 125 => 99 | 258 => 98 | 128 => 124 | 129 => 125 | 302 => 115 | 303 => 116 | 304 => 117 | 305 => 118 | 306 => 119 | 307 => 120 | 308 => 121 | 309 => 122 | 310 => 123 | 333 => 136 | 329 => 137 | 330 => 138 | 334 => 139 | 335 => 140 | 336 => 141 | 344 => 152 | n => n, fun | 31 => 26 | 9 => 9 | 3 => 3 | 46 => 167 | 0 => 0 | 51 => 190 | 53 => 39 | 4 => 4 | 183 => 183 | 182 => 182 | 131 => 187 | 5 => 5 | 218 => 195 | 222 => 199 | 228 => 204 | 229 => 134 | n => n, fun | n => n⟩
theorem Try.lays190 : Go.Proofs.Lays.n190 Try.prog Try.lays190_ren := {
  mixed := by kernel_rfl
  f125 := Try.func99.trans (congrArg some (by kernel_rfl))
  f128 := Try.func124.trans (congrArg some (by kernel_rfl))
  f129 := Try.func125.trans (congrArg some (by kernel_rfl))
  f190 := Try.func57.trans (congrArg some (by kernel_rfl))
  f258 := Try.func98.trans (congrArg some (by kernel_rfl))
  f302 := Try.func115.trans (congrArg some (by kernel_rfl))
  f303 := Try.func116.trans (congrArg some (by kernel_rfl))
  f304 := Try.func117.trans (congrArg some (by kernel_rfl))
  f305 := Try.func118.trans (congrArg some (by kernel_rfl))
  f306 := Try.func119.trans (congrArg some (by kernel_rfl))
  f307 := Try.func120.trans (congrArg some (by kernel_rfl))
  f308 := Try.func121.trans (congrArg some (by kernel_rfl))
  f309 := Try.func122.trans (congrArg some (by kernel_rfl))
  f310 := Try.func123.trans (congrArg some (by kernel_rfl))
  f329 := Try.func137.trans (congrArg some (by kernel_rfl))
  f330 := Try.func138.trans (congrArg some (by kernel_rfl))
  f333 := Try.func136.trans (congrArg some (by kernel_rfl))
  f334 := Try.func139.trans (congrArg some (by kernel_rfl))
  f335 := Try.func140.trans (congrArg some (by kernel_rfl))
  f336 := Try.func141.trans (congrArg some (by kernel_rfl))
  f344 := Try.func152.trans (congrArg some (by kernel_rfl))
  t0 := Try.underlying0
  a0 := Try.isAgg0
  z0 := Try.sizeOf0
  v0 := Try.zeroValue0
  t3 := Try.underlying3
  a3 := Try.isAgg3
  z3 := Try.sizeOf3
  v3 := Try.zeroValue3
  t4 := Try.underlying4
  a4 := Try.isAgg4
  z4 := Try.sizeOf4
  v4 := Try.zeroValue4
  t5 := Try.underlying5
  a5 := Try.isAgg5
  z5 := Try.sizeOf5
  v5 := Try.zeroValue5
  t9 := Try.underlying9
  a9 := Try.isAgg9
  z9 := Try.sizeOf9
  v9 := Try.zeroValue9
  t31 := Try.underlying26
  a31 := Try.isAgg26
  z31 := Try.sizeOf26
  v31 := Try.zeroValue26
  t46 := Try.underlying167
  a46 := Try.isAgg167
  z46 := Try.sizeOf167
  v46 := Try.zeroValue167
  t51 := Try.underlying190
  a51 := Try.isAgg190
  z51 := Try.sizeOf190
  v51 := Try.zeroValue190
  t53 := Try.underlying39
  a53 := Try.isAgg39
  z53 := Try.sizeOf39
  v53 := Try.zeroValue39
  t131 := Try.underlying187
  a131 := Try.isAgg187
  z131 := Try.sizeOf187
  v131 := Try.zeroValue187
  t182 := Try.underlying182
  a182 := Try.isAgg182
  z182 := Try.sizeOf182
  v182 := Try.zeroValue182
  t183 := Try.underlying183
  a183 := Try.isAgg183
  z183 := Try.sizeOf183
  v183 := Try.zeroValue183
  t218 := Try.underlying195
  a218 := Try.isAgg195
  z218 := Try.sizeOf195
  v218 := Try.zeroValue195
  t222 := Try.underlying199
  a222 := Try.isAgg199
  z222 := Try.sizeOf199
  v222 := Try.zeroValue199
  t228 := Try.underlying204
  a228 := Try.isAgg204
  z228 := Try.sizeOf204
  v228 := Try.zeroValue204
  t229 := Try.underlying134
  a229 := Try.isAgg134
  z229 := Try.sizeOf134
  v229 := Try.zeroValue134 }
open Go.Sort Go.RowKit in
theorem Try.slices_Sort_string (blk off cap : Nat) (ss : List (List UInt8)) (w : World) (hH : Holds encStr w blk off ss.toArray) (hblk : blk < w.heap.size) (hsz : ss.length < 4611686018427387904) :
    Calls Try.prog 57 #[.slice (some ⟨blk, off, none⟩) ss.length cap] w fun e w' =>
      e = .returned (.tuple #[]) ∧ ∃ n os, w' = grow (putRow encStr (Sort.ahead w n) blk off (ss.mergeSort fun x y => decide (x ≤ y)).toArray) os := Any.slices_Sort_string Try.lays190 blk off cap ss w hH hblk hsz
open Go.RowKit Go.Sort in
/-- .. and plain. (LAID: no walk: one application.) -/
theorem Try.slices_Sort_string_none (p : Option Addr) (cap : Nat) (w : World) :
    Calls Try.prog 57 #[.slice p 0 cap] w fun e w' => e = .returned (.tuple #[]) ∧ w' = w := Any.slices_Sort_string_none Try.lays190 p cap w
end Go.Proofs
end

/-! ## XTable -/
section
/- The table of who is spoken of: what the program's Table answers. Conditions: the ops are few, no text is longer than Go lets it be. -/
set_option linter.unusedVariables false
set_option linter.unusedSimpArgs false
namespace Go.Proofs.Ytamihmofmjkfoaa.X
open Go.RowKit Go.Proofs.YtamihmofmjkfoaaW.PrintWords Go.Proofs.YtamihmofmjkfoaaW.PrintLast Go.Proofs.YtamihmofmjkfoaaW.PrintMore Go.Proofs.Ytamihmofmjkfoaa.Q
attribute [local go_sem] max2_int min2_int max_two min_two max_three min_three max_four min_four

def bl (s : ByteArray) : List UInt8 := s.data.toList
def mkS (l : List UInt8) : ByteArray := ⟨l.toArray⟩
theorem mkS_bl (s : ByteArray) : mkS (bl s) = s := by cases s; simp [mkS, bl]
theorem bl_mkS (l : List UInt8) : bl (mkS l) = l := by simp [mkS, bl]
def uniq : List (List UInt8) → List ByteArray → List ByteArray
  | _, [] => []
  | seen, s :: t => if bl s ∈ seen then uniq seen t else s :: uniq (bl s :: seen) t
def leB (x y : List UInt8) : Bool := decide (x ≤ y)
def sortS (l : List ByteArray) : List ByteArray := ((l.map bl).mergeSort fun x y => decide (x ≤ y)).map mkS
def othersOf (a : ByteArray) (l : List Op) : List ByteArray := uniq [bl a] ((namesOf l).map (·.f1))
def tableOf (a : ByteArray) (l : List Op) : List ByteArray := a :: sortS (othersOf a l)
theorem Names_calls (A0 : Option Addr) (c0 : Nat) (l0 : List Op) (w : World) (hr0 : Kd.C k44 w A0 l0.length l0) (hc0 : l0.length ≤ c0) (hs : Sm l0) :
    Calls Try.prog 56 #[.slice A0 l0.length c0] w fun e w' => ∃ v0_ : Value, e = .returned (v0_) ∧ Kd.R k38 38 w' w.heap.size (fun _ => True) v0_ (namesOf l0) ∧ Below w.heap.size w w' := by
  obtain ⟨k, hk⟩ := Names_f l0 hs
  exact op_Names.calls k A0 c0 l0 _ w hr0 hc0 hk
theorem encs_str (xs : List ByteArray) : encs Value.string xs = (xs.map bl).map encStr := by
  simp only [encs, List.map_map]
  refine List.map_congr_left fun x _ => ?_
  show Value.string x = Value.string (mkS (bl x))
  rw [mkS_bl]
theorem sortS_bl (xs : List ByteArray) : (sortS xs).map bl = (xs.map bl).mergeSort fun x y => decide (x ≤ y) := by
  simp only [sortS, List.map_map]
  rw [show bl ∘ mkS = id from funext fun l => bl_mkS l, List.map_id]
theorem sortS_length (xs : List ByteArray) : (sortS xs).length = xs.length := by simp [sortS]
/-- slices.Sort of a row of texts of the call's own. -/
theorem Sort_calls (v : Value) (xs : List ByteArray) (base : Nat) (w : World) (h : Kd.R Kd.string 9 w base (fun _ => True) v xs) (hl : xs.length < 4611686018427387904) :
    Calls Try.prog 57 #[v] w fun e w' => e = .returned (.tuple #[]) ∧ Kd.R Kd.string 9 w' base (fun _ => True) v (sortS xs) ∧ w.grownBy w' v.ownBlock := by
  have ho := Kd.own_of_R h
  rcases ho.2 with ⟨rfl, h0⟩ | ⟨g, cap, cur, rfl, hbase, hb, h1, h2, h3, h4⟩
  · have hx : xs = [] := by
      have := ho.1
      simpa [encs] using h0
    subst hx
    refine (Try.slices_Sort_string_none none 0 w).mono ?_
    rintro e w' ⟨rfl, rfl⟩
    exact ⟨rfl, by simpa [sortS] using h, World.grownBy.refl _ _⟩
  · have hln : (xs.map bl).length = xs.length := by simp
    have hH := Go.holds_of_block (ss := xs.map bl) hb (by rw [← encs_str, hln]; simpa using h4)
    have hc := Try.slices_Sort_string g 0 cap (xs.map bl) w hH (blk_lt hb) (by omega)
    rw [hln] at hc
    refine hc.mono ?_
    rintro e w' ⟨rfl, n, os, rfl⟩
    refine ⟨rfl, ?_, Go.grownBy_sorted _⟩
    have hs := Go.ownsRow_sorted (n := n) (os := os) (ss := xs.map bl) (ts := (xs.map bl).mergeSort fun x y => decide (x ≤ y)) (by simp) hbase hb (by omega) h2 h3
    rw [← sortS_bl] at hs ⊢
    rw [hln] at hs
    exact Kd.R_of_own (by rw [encs_str, sortS_length]; exact hs) (fun _ _ => trivial)
/-- What holds at the head of each round. -/
structure TR (w3 : World) (b : Nat) (a0 : ByteArray) (ns : List OpId) (v6 : Value) (i : Nat) (wr : World) : Prop where
  hi : i ≤ ns.length
  hG : w3.grownBy wr (some b)
  go : ∃ seen outs, outs ++ uniq seen ((ns.drop i).map (·.f1)) = uniq [bl a0] (ns.map (·.f1)) ∧ IsSet wr Try.prog 9 4 b (i + 1) seen ∧ Kd.R Kd.string 9 wr w3.heap.size (fun _ => True) v6 outs ∧ outs.length ≤ i
set_option maxHeartbeats 1000000 in
set_option maxRecDepth 100000 in
theorem Table_calls (a0 : ByteArray) (A1 : Option Addr) (c1 : Nat) (l1 : List Op) (w : World) (hr1 : Kd.C k44 w A1 l1.length l1) (hc1 : l1.length ≤ c1) (hs : Sm l1) (ha : a0.size ≤ maxLen) (hz : ∀ x ∈ namesOf l1, x.f1.size ≤ maxLen) :
    Calls Try.prog 23 #[.string a0, .slice A1 l1.length c1] w fun e w' => ∃ v0_ : Value, e = .returned v0_ ∧ Kd.R Kd.string 9 w' w.heap.size (fun _ => True) v0_ (tableOf a0 l1) ∧ Below w.heap.size w w' := by
  have hmm := @run_makeMap Try.prog
  have zeroE : ∀ W : World, (zeroValue 4).run Try.prog W = .ok (.bool false) W := fun W => by kernel_rfl
  go_enter Try.func23, Try.ntmps23
  go_wp2_with (first | ((with_reducible refine gate_ (.insert 108 (.tmp 9) (.tmp 10) (.const (.bool true))) rfl ?_); refine wp_insert rfl (.tmp 9) (.tmp 10) _ 108 rfl rfl 9 4 Try.underlying9 Try.underlying4 Try.underlying108 w.heap.size 0 (by unfold maxLen; omega) [] rfl (IsSet.made _ _ _ _) a0 rfl ha ?_; intro w2 hset hg2))
  have hB2 : Below w.heap.size w w2 := pw_below_grown ((Below.refl _ _).alloc (Nat.le_refl _) _) _ (by simp) hg2 (by intro k hk; cases hk; exact Nat.le_refl _)
  have hz2 := hset.lt
  refine (Names_calls _ _ _ _ (Kd.C_below hr1 hB2) hc1 hs).mono ?_
  rintro e w3 ⟨v0, rfl, hR, hB3⟩
  obtain ⟨A3, c3, rfl, hc3, _⟩ := Kd.R_reads hR
  have hset3 := hset.kept (grown_of_below hB3 none) (by simp)
  have hB03 : Below w.heap.size w w3 := below_then hB2 (by omega) hB3
  have Hz := Lib.hid hz
  have Hset3 := Lib.hid hset3
  have HR := Lib.hid hR
  have HB := Lib.hid hB03
  have Hzz := hB3.size
  clear hz hset hg2 hB2 hR hB3 hset3 hB03 hmm hr1
  have hnl : (namesOf l1).length ≤ 100020000 := by
    have := flat_le l1 hs.2
    have := hs.1
    omega
  generalize hns : namesOf l1 = ns at *
  have Hns := Lib.hid hns
  clear hns
  go_wp2_with fail
  go_loopw [6, 15] (fun v6 v15 wr => ∃ i : Nat, v15 = .int .i64 i ∧ TR w3 w.heap.size a0 ns v6 i wr) (fun _ v15 _ => ns.length - (intOf v15).toNat)
  case atStart => exact ⟨0, rfl, ⟨Nat.zero_le _, World.grownBy.refl _ _, [bl a0], [], by simp, Hset3.out, Kd.R_nil _ _ _ _ _, Nat.le_refl _⟩⟩
  case round =>
    obtain ⟨i, rfl, hrel⟩ := hrel
    have hi := hrel.hi
    have hsG := hrel.hG.size
    by_cases hlt : i < ns.length
    · obtain ⟨seen, outs, h1, h2, h3, h4⟩ := hrel.go
      have hC := (R_readsv (R_gbT HR.out hrel.hG (by intro k hk; cases hk; exact hz2))).2.2
      obtain ⟨ad, rfl, q1, q2⟩ := at_T38 hC i (by omega) (by omega)
      have hx : (rd_T38 ns i) = ns[i] := by unfold rd_T38; rw [Int.toNat_natCast, getD_get _ _ _ hlt]
      have hsz := Hz.out _ (List.getElem_mem hlt)
      rw [hx, Int.toNat_natCast] at q1 q2
      clear hx hC
      by_cases hm : ns[i].f1.data.toList ∈ seen
      · have hm' : decide (ns[i].f1.data.toList ∈ seen) = true := decide_eq_true hm
        go_wp2_with (first | ((with_reducible refine gate_ (.lookup 108 (.tmp 19) (.tmp 21) false) rfl ?_); refine wp_look rfl (.tmp 19) (.tmp 21) 108 rfl 9 4 Try.underlying9 Try.underlying4 Try.underlying108 (zeroE _) w.heap.size (i + 1) seen rfl ?l1 ns[i].f1 rfl hsz ?_; (case l1 => exact h2.kept (World.grownBy_alloc _ _ none) (by simp))))
        go_roundw
        case rel => exact ⟨i + 1, by go_num, ⟨by omega, gb_alloc hrel.hG _, seen, outs, by rw [← h1, List.drop_eq_getElem_cons hlt, List.map_cons, uniq, if_pos (show bl ns[i].f1 ∈ seen from hm)], (h2.kept (World.grownBy_alloc _ _ none) (by simp)).mono (by omega), Kd.R_alloc h3 _, by omega⟩⟩
        case measure => simp [intOf]; omega
      · have hm' : decide (ns[i].f1.data.toList ∈ seen) = false := decide_eq_false hm
        go_wp2_with (first | ((with_reducible refine gate_ (.lookup 108 (.tmp 19) (.tmp 21) false) rfl ?_); refine wp_look rfl (.tmp 19) (.tmp 21) 108 rfl 9 4 Try.underlying9 Try.underlying4 Try.underlying108 (zeroE _) w.heap.size (i + 1) seen rfl ?l1 ns[i].f1 rfl hsz ?_; (case l1 => exact h2.kept (World.grownBy_alloc _ _ none) (by simp))) | ((with_reducible refine gate_ (.mapUpdate 108 (.tmp 24) (.tmp 26) (.const (.bool true))) rfl ?_); go_must (refine wp_put rfl (.tmp 24) (.tmp 26) _ 108 rfl rfl 9 4 Try.underlying9 Try.underlying4 Try.underlying108 w.heap.size (i + 1) (by unfold maxLen; omega) seen rfl ?l1 ns[i].f1 rfl hsz ?_; (case l1 => exact h2.kept (World.grownBy_alloc _ _ none) (by simp)); intro w4 hset4 hg4; have hc8 : w4.cell? ⟨wr.heap.size, 1, none⟩ = some (.string ns[i].f1) := (World.cell?_of_block (hg4.block _ (by simp) (by simp; omega))).trans (blk_cell (blk_new _ _) 1); have hG4 := gb_then (gb_alloc hrel.hG (Obj.cells #[Value.int IntKind.i64 ns[i].f0, Value.string ns[i].f1] 38)) hg4 (by simp); have hs4 : w3.heap.size ≤ w4.heap.size := hG4.size; have h34 : Kd.R Kd.string 9 w4 w3.heap.size (fun _ => True) u6 outs := R_gbT (Kd.R_alloc h3 _) hg4 (by intro k hk; cases hk; omega))) | ((with_reducible refine gate_builtin (b := .append) (xs := #[.tmp 27, .tmp 30]) rfl ?_); at_builtin; go_must (refine Kd.R_append Kd.string (w0 := w4) w3.heap.size rfl (.tmp 27) (.tmp 30) 26 9 (.string ⟨#[]⟩) 16 rfl Try.underlying26 info9 rfl (by decide) (by omega) u6 outs ns[i].f1 [.string ns[i].f1] (fun _ => True) (fun _ => False) rfl rfl ?aP (fun _ hk => hk.elim) ?aF ?aO ?aB ?aS ?aL ?_; (case aP => exact rfl); (case aF => exact fun _ _ => trivial); (case aO => exact h34); (case aB => exact Below.refl _ _); (case aS => exact hs4); (case aL => omega); intro v5 w5 HO5 _ hg5 _)))
        go_roundw
        case rel => exact ⟨i + 1, by go_num, ⟨by omega, gb_then hG4 hg5 (by intro k hk; exact .inl (R_base h3 _ hk)), bl ns[i].f1 :: seen, outs ++ [ns[i].f1], by rw [← h1, List.drop_eq_getElem_cons hlt, List.map_cons, uniq, if_neg (show ¬ bl ns[i].f1 ∈ seen from hm), List.append_assoc]; rfl, hset4.kept hg5 (by intro e; have := R_base h3 _ e.symm; omega), HO5, by simp; omega⟩⟩
        case measure => simp [intOf]; omega
    · obtain rfl : i = ns.length := by omega
      obtain ⟨seen, outs, h1, h2, h3, h4⟩ := hrel.go
      rw [List.drop_eq_nil_of_le (Nat.le_refl _), List.map_nil, uniq, List.append_nil] at h1
      go_wp2_with fail
      refine (Sort_calls _ outs _ _ h3 (by omega)).mono ?_
      rintro e w4 ⟨rfl, hR4, hg4⟩
      obtain ⟨A4, c4, rfl, hc4, hC4⟩ := Kd.R_reads hR4
      have hG4 := gb_then hrel.hG hg4 (by intro k hk; exact .inl (R_base h3 _ hk))
      have hB4 : Below w.heap.size w w4 := gb_to_below hG4 HB.out HB.out.size (by intro k hk; cases hk; exact Nat.le_refl _)
      have HR4 := Lib.hid hR4
      have HC4 := Lib.hid hC4
      have HB4 := Lib.hid hB4
      have H1 := Lib.hid h1
      have hs4 := hB4.size
      have h4' : (sortS outs).length ≤ 100020000 := by rw [sortS_length]; omega
      clear hR4 hC4 hB4 hG4 hg4 h1 h2 h3 hrel
      go_wp2_with (first | ((with_reducible refine gate_builtin (b := .append) (xs := #[.tmp 36, .tmp 37]) rfl ?_); at_builtin; go_must (refine Kd.R_append_row Value.string (⟨#[]⟩ : ByteArray) (h1 := fun _ => rfl) (w0 := w) w.heap.size rfl (.tmp 36) (.tmp 37) 26 9 (.string ⟨#[]⟩) 16 rfl Try.underlying26 info9 rfl (by omega) _ [a0] (sortS outs) A4 (sortS outs).length c4 (fun _ => True) rfl rfl (fun _ _ => trivial) ?aO ?aC ?aB ?aS ?aL ?_; (case aO => exact Kd.R_of_own (xs := [a0]) (own_lit_of _ _ _ [a0] (by omega) (by simp)) (fun _ _ => trivial)); (case aC => exact Kd.C_alloc HC4.out _); (case aB => exact below_alloc HB4.out _); (case aS => simp; omega); (case aL => simp; omega); intro v5 w5 HO5 hB5 _ _)))
      go_ret
      exact ⟨_, rfl, by unfold tableOf; rw [othersOf, Hns.out, ← H1.out]; exact HO5, hB5⟩
end Go.Proofs.Ytamihmofmjkfoaa.X
end

/-! ## Q100 -/
section
-- By myprint.py, out of the translation, by way of the kit's print.
namespace Go.Proofs.Ytamihmofmjkfoaa.Q
open Go.RowKit Go.Proofs.YtamihmofmjkfoaaW.PrintWords Go.Proofs.YtamihmofmjkfoaaW.PrintLast Go.Proofs.YtamihmofmjkfoaaW.PrintMore
attribute [local go_sem] max2_int min2_int max_two min_two max_three min_three max_four min_four   -- for this text's walks alone
set_option linter.unusedVariables false
set_option linter.unusedSimpArgs false

/-! ### leb_span: function 100 -/
def leb_span.l0 : Nat → List Int → Int → Int → Option (Int × Int)
  | 0, _, _, _ => none
  | k + 1, x6, x7, x8 => if x8 < x7 then (if 0 ≤ x8 then (if x8 < (x6.length : Int) then (if (rd x6 x8) < 128 then (some (wrap64 (x8 + 1), 0)) else (if x8 = 9 then (some (0, 3)) else (leb_span.l0 k x6 x7 (wrap64 (x8 + 1))))) else (none)) else (none)) else (some (0, 2))
def leb_span.f (k : Nat) (l0 : List Int) : Option (Int × Int) := leb_span.l0 k l0 (l0.length : Int) 0
theorem leb_span.mono_l : ∀ k, (∀ y0 y1 y2, LeO (leb_span.l0 k y0 y1 y2) (leb_span.l0 (k + 1) y0 y1 y2))
  | 0 => fun _ _ _ r h => by simp [leb_span.l0] at h
  | k + 1 => by
    have ih0 := leb_span.mono_l k
    · intro y0 y1 y2
      unfold leb_span.l0
      repeat' first
      | (with_reducible exact ih0 _ _ _)
      | (with_reducible exact LeO.refl _)
      | (with_reducible exact LeO.none _)
      | (with_reducible refine LeO.ite ?_ ?_)
      | (with_reducible refine LeO.bind ?_ (fun _ => ?_))
      | exact ih0 _ _ _
      | exact LeO.none _
      | refine LeO.ite ?_ ?_
      | refine LeO.bind ?_ (fun _ => ?_)
theorem leb_span.mono : ∀ a0 k, LeO (leb_span.f k a0) (leb_span.f (k + 1) a0) := by
  intro a0 k
  have ih0 := leb_span.mono_l k
  unfold leb_span.f
  repeat' first
      | (with_reducible exact ih0 _ _ _)
      | (with_reducible exact LeO.refl _)
      | (with_reducible exact LeO.none _)
      | (with_reducible refine LeO.ite ?_ ?_)
      | (with_reducible refine LeO.bind ?_ (fun _ => ?_))
      | exact ih0 _ _ _
      | exact LeO.none _
      | refine LeO.ite ?_ ?_
      | refine LeO.bind ?_ (fun _ => ?_)
set_option maxHeartbeats 8000000 in
set_option maxRecDepth 100000 in
theorem leb_span.calls (k : Nat) (A0 : Option Addr) (c0 : Nat) (l0 : List Int) (r1 : Int) (r2 : Int) (w : World) (hr0 : Kd.C (Kd.int .u8) w A0 l0.length l0) (hc0 : l0.length ≤ c0) (h : leb_span.f k l0 = some (r1, r2)) :
    Calls Try.prog 100 #[.slice A0 l0.length c0] w fun e w' => e = .returned (.tuple #[.int .i64 r1, .int .i64 r2]) ∧ Drawn0 w w' := by
  have HR0 := Aside0.mk hr0
  have HC0 := Aside0.mk hc0
  clear hr0 hc0
  have H : (leb_span.l0 k l0 (l0.length : Int) 0) = some (r1, r2) := h
  clear h
  have H' := Aside0.mk H
  clear H
  go_enter Try.func100, Try.ntmps100
  go_wp2
  go_loopg [8] k (fun kq v8 w' => ∃ (x8_1 : Int), v8 = .int .i64 x8_1 ∧ Aside0 (leb_span.l0 kq l0 (l0.length : Int) x8_1 = some (r1, r2)) ∧ Aside0 (kq ≤ k) ∧ Drawn0 w w')
  case atStart => exact ⟨(0), (by first | rfl | (simp; done) | (simp [*]; done)), H', ⟨Nat.le_refl _⟩, by repeat (first | exact Drawn0.refl _ | apply Drawn0.step)⟩
  case round =>
    clear H'
    try clear c1
    obtain ⟨x8_1, rfl, HA, HK1, ⟨m1, rfl⟩⟩ := hrel
    cases gk with
    | zero => exact absurd HA.out (by simp [leb_span.l0])
    | succ k1 =>
      have H := HA.out
      clear HA
      simp only [leb_span.l0] at H
      by_cases c2 : x8_1 < (l0.length : Int)
      · rw [if_pos c2] at H
        have c2b0 : decide (x8_1 < (l0.length : Int)) = true := decide_eq_true c2
        clear c2
        by_cases c3 : 0 ≤ x8_1
        · rw [if_pos c3] at H
          have c3b0 : decide (0 ≤ x8_1) = true := decide_eq_true c3
          clear c3
          by_cases c4 : x8_1 < (l0.length : Int)
          · rw [if_pos c4] at H
            have c4b0 : decide (x8_1 < (l0.length : Int)) = true := decide_eq_true c4
            clear c4
            by_cases c5 : (rd l0 x8_1) < 128
            · rw [if_pos c5] at H
              have c5b0 : decide ((rd l0 x8_1) < 128) = true := decide_eq_true c5
              clear c5
              simp only [Option.some.injEq, Prod.mk.injEq] at H
              obtain ⟨rfl, rfl⟩ := H
              have p101 : 0 ≤ (x8_1 : Int) := of_decide_eq_true (by first | (with_reducible assumption) | assumption)
              have q101 : x8_1 < (l0.length : Int) := of_decide_eq_true (by first | (with_reducible assumption) | assumption)
              obtain ⟨ad101, e101, hx101_0⟩ := Kd.at_int HR0.out x8_1 p101 q101
              cases e101
              replace p101 := eq_true p101
              replace q101 := eq_true q101
              go_wp2
              go_ret2
              exact ⟨by first | rfl | (simp; done) | (simp [*]; done), by repeat (first | exact Drawn0.refl _ | apply Drawn0.step)⟩
            · rw [if_neg c5] at H
              have c5b0 : decide ((rd l0 x8_1) < 128) = false := decide_eq_false c5
              clear c5
              by_cases c6 : x8_1 = 9
              · rw [if_pos c6] at H
                have c6b0 : (x8_1 == 9) = true := beq_iff_eq.mpr c6
                have c6b1 : (x8_1 != 9) = false := bne_eq_false_iff_eq.mpr c6
                clear c6
                simp only [Option.some.injEq, Prod.mk.injEq] at H
                obtain ⟨rfl, rfl⟩ := H
                have p101 : 0 ≤ (x8_1 : Int) := of_decide_eq_true (by first | (with_reducible assumption) | assumption)
                have q101 : x8_1 < (l0.length : Int) := of_decide_eq_true (by first | (with_reducible assumption) | assumption)
                obtain ⟨ad101, e101, hx101_0⟩ := Kd.at_int HR0.out x8_1 p101 q101
                cases e101
                replace p101 := eq_true p101
                replace q101 := eq_true q101
                go_wp2
                go_ret2
                exact ⟨by first | rfl | (simp; done) | (simp [*]; done), by repeat (first | exact Drawn0.refl _ | apply Drawn0.step)⟩
              · rw [if_neg c6] at H
                have c6b0 : (x8_1 == 9) = false := beq_eq_false_iff_ne.mpr c6
                have c6b1 : (x8_1 != 9) = true := bne_iff_ne.mpr c6
                have H' := Aside0.mk H
                clear H
                have p101 : 0 ≤ (x8_1 : Int) := of_decide_eq_true (by first | (with_reducible assumption) | assumption)
                have q101 : x8_1 < (l0.length : Int) := of_decide_eq_true (by first | (with_reducible assumption) | assumption)
                obtain ⟨ad101, e101, hx101_0⟩ := Kd.at_int HR0.out x8_1 p101 q101
                cases e101
                replace p101 := eq_true p101
                replace q101 := eq_true q101
                go_wp2
                go_roundg k1
                case measure => have := HK1.out; omega
                case rel => exact ⟨(wrap64 (x8_1 + 1)), (by first | rfl | (simp; done) | (simp [*]; done)), H', ⟨by have := HK1.out; omega⟩, by repeat (first | exact Drawn0.refl _ | apply Drawn0.step)⟩
          · rw [if_neg c4] at H
            exact absurd H (by simp)
        · rw [if_neg c3] at H
          exact absurd H (by simp)
      · rw [if_neg c2] at H
        have c2b0 : decide (x8_1 < (l0.length : Int)) = false := decide_eq_false c2
        clear c2
        simp only [Option.some.injEq, Prod.mk.injEq] at H
        obtain ⟨rfl, rfl⟩ := H
        go_wp2
        go_ret2
        exact ⟨by first | rfl | (simp; done) | (simp [*]; done), by repeat (first | exact Drawn0.refl _ | apply Drawn0.step)⟩

end Go.Proofs.Ytamihmofmjkfoaa.Q
end

/-! ## Q59 -/
section
-- By myprint.py, out of the translation, by way of the kit's print.
namespace Go.Proofs.Ytamihmofmjkfoaa.Q
open Go.RowKit Go.Proofs.YtamihmofmjkfoaaW.PrintWords Go.Proofs.YtamihmofmjkfoaaW.PrintLast Go.Proofs.YtamihmofmjkfoaaW.PrintMore
attribute [local go_sem] max2_int min2_int max_two min_two max_three min_three max_four min_four   -- for this text's walks alone
set_option linter.unusedVariables false
set_option linter.unusedSimpArgs false

/-! ### leb_U: function 59 -/
def leb_U.l0 : Nat → Int → List Int → Option (List Int)
  | 0, _, _ => none
  | k + 1, x0, x3 => if x0 ≥ 128 then (if x3.length < 140737488355328 then (leb_U.l0 k (x0 / 128) (x3 ++ [Go.bits .or .u8 ((x0) % 256) 128])) else (none)) else (if x3.length < 140737488355328 then (some (x3 ++ [(x0) % 256])) else (none))
def leb_U.f (k : Nat) (a0 : Int) : Option (List Int) := leb_U.l0 k a0 ([] : List Int)
theorem leb_U.mono_l : ∀ k, (∀ y0 y1, LeO (leb_U.l0 k y0 y1) (leb_U.l0 (k + 1) y0 y1))
  | 0 => fun _ _ r h => by simp [leb_U.l0] at h
  | k + 1 => by
    have ih0 := leb_U.mono_l k
    · intro y0 y1
      unfold leb_U.l0
      repeat' first
      | (with_reducible exact ih0 _ _)
      | (with_reducible exact LeO.refl _)
      | (with_reducible exact LeO.none _)
      | (with_reducible refine LeO.ite ?_ ?_)
      | (with_reducible refine LeO.bind ?_ (fun _ => ?_))
      | exact ih0 _ _
      | exact LeO.none _
      | refine LeO.ite ?_ ?_
      | refine LeO.bind ?_ (fun _ => ?_)
theorem leb_U.mono : ∀ a0 k, LeO (leb_U.f k a0) (leb_U.f (k + 1) a0) := by
  intro a0 k
  have ih0 := leb_U.mono_l k
  unfold leb_U.f
  repeat' first
      | (with_reducible exact ih0 _ _)
      | (with_reducible exact LeO.refl _)
      | (with_reducible exact LeO.none _)
      | (with_reducible refine LeO.ite ?_ ?_)
      | (with_reducible refine LeO.bind ?_ (fun _ => ?_))
      | exact ih0 _ _
      | exact LeO.none _
      | refine LeO.ite ?_ ?_
      | refine LeO.bind ?_ (fun _ => ?_)
set_option maxHeartbeats 8000000 in
set_option maxRecDepth 100000 in
theorem leb_U.calls (k : Nat) (a0 : Int) (r : List Int) (w : World) (h : leb_U.f k a0 = some r) :
    Calls Try.prog 59 #[.int .u64 a0] w fun e w' => ∃ v0_ : Value, e = .returned (v0_) ∧ Kd.R (Kd.int .u8) 5 w' w.heap.size (fun _ => True) v0_ r ∧ Below w.heap.size w w' := by
  have HB := Aside0.mk (Below.refl w.heap.size w)
  have H : (leb_U.l0 k a0 ([] : List Int)) = some r := h
  clear h
  have H' := Aside0.mk H
  clear H
  go_enter Try.func59, Try.ntmps59
  go_wp2
  go_loopg [0, 3] k (fun kq v0 v3 w' => ∃ (x0_1 : Int) (x3_1 : List Int), v0 = .int .u64 x0_1 ∧ Aside0 (leb_U.l0 kq x0_1 x3_1 = some r) ∧ Aside0 (kq ≤ k) ∧ Aside0 (Kd.R (Kd.int .u8) 5 w' w.heap.size (fun _ => True) v3 x3_1) ∧ Aside0 (Below w.heap.size w w'))
  case atStart => exact ⟨(a0), (([] : List Int)), (by first | rfl | (simp; done) | (simp [*]; done)), H', ⟨Nat.le_refl _⟩, ⟨by first | exact Kd.R_nil _ _ _ _ _ | exact Kd.N_nil _ _ _ _ _ | exact Kd.V_nil _ _ _ _ _ | exact Kd.Q_nil _ _ _ _ _ | exact Kd.S_nil _ _ _ _ _⟩, ⟨by repeat (first | (with_reducible first | exact HB.out | apply below_alloc | apply pw_below_drewN | apply below_drew1) | exact HB.out)⟩⟩
  case round =>
    clear H'
    obtain ⟨x0_1, x3_1, rfl, HA, HK1, HO_3, HB⟩ := hrel
    cases gk with
    | zero => exact absurd HA.out (by simp [leb_U.l0])
    | succ k1 =>
      have H := HA.out
      clear HA
      simp only [leb_U.l0] at H
      by_cases c2 : x0_1 ≥ 128
      · rw [if_pos c2] at H
        have c2b0 : decide (128 ≤ x0_1) = true := decide_eq_true c2
        clear c2
        by_cases c3 : x3_1.length < 140737488355328
        · rw [if_pos c3] at H
          have LMc3 := Aside0.mk c3
          clear c3
          obtain ⟨y101, hy101⟩ : ∃ y_ : List Int, y_ = (x3_1 ++ [Go.bits .or .u8 ((x0_1) % 256) 128]) := ⟨_, rfl⟩
          replace H : (leb_U.l0 k1 (x0_1 / 128) y101) = some r := by first | (rw [hy101]; with_reducible exact H) | (have H2_ := (Option.bind_some _ _).symm.trans H; rw [hy101]; with_reducible exact H2_) | (have H2_ := (Option.bind_some _ _).symm.trans H; with_reducible exact H2_) | with_reducible exact H | (rw [hy101]; exact H) | exact H
          have Ny101 := Aside0.mk hy101
          clear hy101
          have H' := Aside0.mk H
          clear H
          go_wp2_with (first | ((with_reducible refine gate_builtin (b := .append) (xs := #[.tmp 6, .tmp 10]) rfl ?_); at_builtin; refine Kd.R_append (Kd.int .u8) (w0 := w) w.heap.size rfl (.tmp 6) (.tmp 10) 34 5 (.int .u8 0) 1 rfl Try.underlying34 info5 rfl (by decide) (by omega) u3 x3_1 (Go.bits .or .u8 ((x0_1) % 256) 128) [.int .u8 (Go.bits .or .u8 ((x0_1) % 256) 128)] (fun _ => True) (fun _ => False) rfl rfl ?aP (fun _ hk => hk.elim) ?aF ?aO ?aB ?aS ?aL ?_; (case aP => exact rfl); (case aB => exact (by repeat (first | (with_reducible first | exact HB.out | apply below_alloc | apply pw_below_drewN | apply below_drew1) | exact HB.out))); (case aF => exact (fun _ _ => trivial)); (case aO => exact (by (with_reducible repeat (first | apply Kd.R_alloc | apply Kd.R_drewN | apply Kd.R_drew)); exact HO_3.out)); (case aS => exact (below_size (by repeat (first | (with_reducible first | exact HB.out | apply below_alloc | apply pw_below_drewN | apply below_drew1) | exact HB.out)))); (case aL => have := LMc3.out; omega); intro v102 w4 ho hb hg hat; rw [← Ny101.out] at ho; have n0_ := Aside0.mk (hb); have n1_ := Aside0.mk (ho); clear HB; clear HO_3; have HB := n0_; have HO103 := n1_; clear n0_ n1_; clear ho hb hg hat))
          go_roundg k1
          case measure => have := HK1.out; omega
          case rel => exact ⟨(x0_1 / 128), (y101), (by first | rfl | (simp; done) | (simp [*]; done)), H', ⟨by have := HK1.out; omega⟩, ⟨by (with_reducible repeat (first | apply Kd.R_alloc | apply Kd.R_drewN | apply Kd.R_drew)); exact HO103.out⟩, ⟨by repeat (first | (with_reducible first | exact HB.out | apply below_alloc | apply pw_below_drewN | apply below_drew1) | exact HB.out)⟩⟩
        · rw [if_neg c3] at H
          exact absurd H (by simp)
      · rw [if_neg c2] at H
        have c2b0 : decide (128 ≤ x0_1) = false := decide_eq_false c2
        clear c2
        by_cases c5 : x3_1.length < 140737488355328
        · rw [if_pos c5] at H
          have LMc5 := Aside0.mk c5
          clear c5
          obtain ⟨y104, hy104⟩ : ∃ y_ : List Int, y_ = (x3_1 ++ [(x0_1) % 256]) := ⟨_, rfl⟩
          replace H : (some y104) = some r := by first | (rw [hy104]; with_reducible exact H) | (have H2_ := (Option.bind_some _ _).symm.trans H; rw [hy104]; with_reducible exact H2_) | (have H2_ := (Option.bind_some _ _).symm.trans H; with_reducible exact H2_) | with_reducible exact H | (rw [hy104]; exact H) | exact H
          have Ny104 := Aside0.mk hy104
          clear hy104
          obtain rfl := Option.some.inj H
          go_wp2_with (first | ((with_reducible refine gate_builtin (b := .append) (xs := #[.tmp 14, .tmp 17]) rfl ?_); at_builtin; refine Kd.R_append (Kd.int .u8) (w0 := w) w.heap.size rfl (.tmp 14) (.tmp 17) 34 5 (.int .u8 0) 1 rfl Try.underlying34 info5 rfl (by decide) (by omega) u3 x3_1 ((x0_1) % 256) [.int .u8 ((x0_1) % 256)] (fun _ => True) (fun _ => False) rfl rfl ?aP (fun _ hk => hk.elim) ?aF ?aO ?aB ?aS ?aL ?_; (case aP => exact rfl); (case aB => exact (by repeat (first | (with_reducible first | exact HB.out | apply below_alloc | apply pw_below_drewN | apply below_drew1) | exact HB.out))); (case aF => exact (fun _ _ => trivial)); (case aO => exact (by (with_reducible repeat (first | apply Kd.R_alloc | apply Kd.R_drewN | apply Kd.R_drew)); exact HO_3.out)); (case aS => exact (below_size (by repeat (first | (with_reducible first | exact HB.out | apply below_alloc | apply pw_below_drewN | apply below_drew1) | exact HB.out)))); (case aL => have := LMc5.out; omega); intro v105 w6 ho hb hg hat; rw [← Ny104.out] at ho; have n0_ := Aside0.mk (hb); have n1_ := Aside0.mk (ho); clear HB; clear HO_3; have HB := n0_; have HO106 := n1_; clear n0_ n1_; clear ho hb hg hat))
          go_ret
          exact ⟨_, by first | rfl | (simp [errW_none, errW_some] <;> rfl) | (simp [*, errW_none, errW_some] <;> rfl), by (with_reducible repeat (first | apply Kd.R_alloc | apply Kd.R_drewN | apply Kd.R_drew)); exact HO106.out, by repeat (first | (with_reducible first | exact HB.out | apply below_alloc | apply pw_below_drewN | apply below_drew1) | exact HB.out)⟩
        · rw [if_neg c5] at H
          exact absurd H (by simp)

end Go.Proofs.Ytamihmofmjkfoaa.Q
end

/-! ## XLeb -/
section
/- What the program's leb package tells, in plain words. Conditions: lengths are those that Go lets stand. -/
namespace Go.Proofs.Ytamihmofmjkfoaa.X
open Go.RowKit Go.Proofs.YtamihmofmjkfoaaW.PrintWords Go.Proofs.YtamihmofmjkfoaaW.PrintLast Go.Proofs.YtamihmofmjkfoaaW.PrintMore Go.Proofs.Ytamihmofmjkfoaa.Q
set_option linter.unusedVariables false
set_option linter.unusedSimpArgs false
attribute [local go_sem] max2_int min2_int max_two min_two max_three min_three max_four min_four

/-! ### the plain part -/
theorem w64 {x : Int} (h0 : -9223372036854775808 ≤ x) (h1 : x < 9223372036854775808) : wrap64 x = x := by unfold wrap64; omega
theorem span_plain (l : List Int) (hl : l.length ≤ 9223372036854775807) : ∀ (d k i : Nat), l.length - i = d → i ≤ l.length → i ≤ 9 → d < k → leb_span.l0 k l (l.length : Int) i = some (spanF i (l.drop i)) := by
  intro d
  induction d with
  | zero =>
    intro k i hd hi _ hk
    obtain ⟨k, rfl⟩ : ∃ m, k = m + 1 := ⟨k - 1, by omega⟩
    simp only [leb_span.l0]
    rw [if_neg (by omega), List.drop_eq_nil_of_le (by omega)]
    rfl
  | succ d ih =>
    intro k i hd hi h9 hk
    obtain ⟨k, rfl⟩ : ∃ m, k = m + 1 := ⟨k - 1, by omega⟩
    have hlt : i < l.length := by omega
    simp only [leb_span.l0]
    rw [if_pos (by omega), if_pos (by omega), if_pos (by omega), List.drop_eq_getElem_cons hlt]
    have hr : rd l (i : Int) = l[i] := by unfold rd; simp [List.getD_eq_getElem?_getD, hlt]
    rw [hr]
    unfold spanF
    rw [w64 (by omega) (by omega)]
    by_cases hx : l[i] < 128
    · rw [if_pos hx, if_pos hx]
    · rw [if_neg hx, if_neg hx]
      by_cases e : i = 9
      · rw [if_pos (by omega), if_pos e]
      · rw [if_neg (by omega), if_neg e]
        exact ih k (i + 1) (by omega) (by omega) (by omega) (by omega)
theorem span_f (l : List Int) (hl : l.length ≤ 9223372036854775807) : leb_span.f (l.length + 1) l = some (spanF 0 l) := by
  unfold leb_span.f
  exact span_plain l hl l.length (l.length + 1) 0 (by omega) (by omega) (by omega) (by omega)
theorem or128 {x : Int} (h0 : 0 ≤ x) (h1 : x < 256) : bits .or .u8 x 128 = 128 + x % 128 := by
  obtain ⟨n, rfl⟩ := Int.eq_ofNat_of_zero_le h0
  have hn : n < 256 := by omega
  have : ∀ n : Fin 256, bits .or .u8 ((n.1 : Nat) : Int) 128 = 128 + ((n.1 : Nat) : Int) % 128 := by decide +kernel
  exact this ⟨n, hn⟩
theorem U_plain : ∀ (f k n : Nat) (out : List Int), n < 128 ^ (f + 1) → f < k → out.length + f < 1000 → leb_U.l0 k n out = some (out ++ ubF f n)
  | 0, k, n, out, hn, hk, ho => by
    obtain ⟨k, rfl⟩ : ∃ m, k = m + 1 := ⟨k - 1, by omega⟩
    simp only [leb_U.l0, ubF]
    rw [if_neg (by omega), if_pos (by omega)]
    have e : (n : Int) % 256 = n := by omega
    rw [e]
  | f + 1, k, n, out, hn, hk, ho => by
    obtain ⟨k, rfl⟩ : ∃ m, k = m + 1 := ⟨k - 1, by omega⟩
    simp only [leb_U.l0, ubF]
    by_cases h : n < 128
    · rw [if_neg (by omega), if_pos (by omega), if_pos h]
      have e : (n : Int) % 256 = n := by omega
      rw [e]
    · rw [if_pos (by omega), if_pos (by omega), if_neg h, or128 (by omega) (by omega)]
      have e1 : (n : Int) / 128 = ((n / 128 : Nat) : Int) := by omega
      have e2 : (128 : Int) + (n : Int) % 256 % 128 = ((128 + n % 128 : Nat) : Int) := by omega
      rw [e1, e2, U_plain f k (n / 128) _ (by rw [Nat.pow_succ] at hn; omega) (by omega) (by simp; omega)]
      simp
theorem U_f (n : Nat) (hn : n < 2 ^ 64) : leb_U.f 10 n = some (ub n) := by
  unfold leb_U.f ub
  have := U_plain 9 10 n [] (by omega) (by omega) (by simp)
  simpa using this
/-! ### the calls -/
theorem U_calls (n : Nat) (hn : n < 2 ^ 64) (w : World) : Calls Try.prog 59 #[.int .u64 n] w fun e w' => ∃ v0_ : Value, e = .returned v0_ ∧ Kd.R (Kd.int .u8) 5 w' w.heap.size (fun _ => True) v0_ (ub n) ∧ Below w.heap.size w w' :=
  leb_U.calls 10 n (ub n) w (U_f n hn)
theorem span_calls (A0 : Option Addr) (c0 : Nat) (l0 : List Int) (w : World) (hr0 : Kd.C (Kd.int .u8) w A0 l0.length l0) (hc0 : l0.length ≤ c0) (hl : l0.length ≤ 9223372036854775807) :
    Calls Try.prog 100 #[.slice A0 l0.length c0] w fun e w' => e = .returned (.tuple #[.int .i64 (spanF 0 l0).1, .int .i64 (spanF 0 l0).2]) ∧ Drawn0 w w' :=
  leb_span.calls _ A0 c0 l0 _ _ w hr0 hc0 (span_f l0 hl)

def acc (l : List Int) (i : Nat) : Int := ((val7 (l.take i) % 2 ^ 64 : Nat) : Int)
theorem getU_step {l : List Int} (hb : By l) (i : Nat) (hi : i < l.length) (h9 : i ≤ 9) :
    bits .or .u64 (acc l i) (IntKind.u64.wrap (IntKind.u64.wrap (bits .and .u8 (l[i]?.getD 0) 127) * 2 ^ (7 * i))) = acc l (i + 1) := by
  have hx := hb.get i
  rw [List.getD_eq_getElem?_getD] at hx
  have hxi : l[i]?.getD 0 = l[i] := by simp [hi]
  rw [and127 hx.1 hx.2, hxi]
  rw [hxi] at hx
  obtain ⟨x, hxe⟩ := Int.eq_ofNat_of_zero_le hx.1
  unfold acc
  rw [List.take_succ_eq_append_getElem hi, val7_app, hxe]
  have hn := val7_lt (l.take i)
  have hlen : (l.take i).length = i := by simp; omega
  rw [hlen] at hn ⊢
  generalize val7 (l.take i) = n at *
  have h128 : (128 : Nat) ^ i = 2 ^ (7 * i) := by rw [show (128 : Nat) = 2 ^ 7 from rfl, ← Nat.pow_mul]
  rw [h128] at hn ⊢
  have hp63 : (2 : Nat) ^ (7 * i) ≤ 2 ^ 63 := Nat.pow_le_pow_right (by decide) (by omega)
  have e1 : n % 2 ^ 64 = n := Nat.mod_eq_of_lt (by omega)
  rw [e1]
  have e2 : IntKind.u64.wrap ((x : Int) % 128) = ((x % 128 : Nat) : Int) := by rw [wrap_u64]; omega
  rw [e2]
  have hv : val7 [(x : Int)] = x % 128 := by simp [val7]
  rw [hv]
  generalize x % 128 = d
  have hsplit : (2 : Nat) ^ 64 = 2 ^ (64 - 7 * i) * 2 ^ (7 * i) := by rw [← Nat.pow_add]; congr 1; omega
  have e3 : IntKind.u64.wrap ((d : Int) * 2 ^ (7 * i)) = ((d % 2 ^ (64 - 7 * i) * 2 ^ (7 * i) : Nat) : Int) := by
    rw [wrap_u64]
    have : (d : Int) * 2 ^ (7 * i) = ((d * 2 ^ (7 * i) : Nat) : Int) := by simp
    rw [this, show (18446744073709551616 : Int) = ((2 ^ 64 : Nat) : Int) from by decide, ← Int.natCast_emod]
    rw [hsplit, Nat.mul_mod_mul_right]
  have hm : d % 2 ^ (64 - 7 * i) * 2 ^ (7 * i) < 2 ^ 64 := by
    conv => rhs; rw [hsplit]
    exact Nat.mul_lt_mul_of_pos_right (Nat.mod_lt _ (Nat.two_pow_pos _)) (Nat.two_pow_pos _)
  rw [e3, or_add_u64 hn hm (by omega)]
  congr 1
  have hm2 : d % 2 ^ (64 - 7 * i) * 2 ^ (7 * i) + 2 ^ (7 * i) ≤ 2 ^ 64 := by
    have : d % 2 ^ (64 - 7 * i) + 1 ≤ 2 ^ (64 - 7 * i) := Nat.mod_lt _ (Nat.two_pow_pos _)
    have := Nat.mul_le_mul_right (2 ^ (7 * i)) this
    rw [Nat.add_mul, ← hsplit, Nat.one_mul] at this
    exact this
  have hq : d * 2 ^ (7 * i) % 2 ^ 64 = d % 2 ^ (64 - 7 * i) * 2 ^ (7 * i) := by
    conv => lhs; rw [hsplit]
    exact Nat.mul_mod_mul_right _ _ _
  generalize d % 2 ^ (64 - 7 * i) * 2 ^ (7 * i) = a at *
  generalize 2 ^ (7 * i) = q at *
  rw [Nat.mul_comm q d, Nat.add_mod, hq, e1, Nat.add_comm, Nat.mod_eq_of_lt (by omega)]
theorem GetU_ok (l : List Int) (k : Nat) (hs : spanF 0 l = ((k : Int), 0)) (h1 : (ub (val7 (l.take k) % 2 ^ 64)).length = k) (h2 : ¬ (k = 10 ∧ l.getD 9 0 > 1)) : getU l = (acc l k, (k : Int), 0) := by
  unfold getU
  simp only [hs, if_true, Int.toNat_natCast]
  rw [if_neg (by rintro (h | h); exact h h1; exact h2 h)]
  rfl
theorem GetU_bad (l : List Int) (k : Nat) (hs : spanF 0 l = ((k : Int), 0)) (h : (ub (val7 (l.take k) % 2 ^ 64)).length ≠ k ∨ k = 10 ∧ l.getD 9 0 > 1) : getU l = (0, 0, 3) := by
  unfold getU
  simp only [hs, if_true, Int.toNat_natCast]
  rw [if_pos h]
theorem GetU_err (l : List Int) (e : Int) (h2 : (spanF 0 l).2 ≠ 0) : getU l = (0, 0, (spanF 0 l).2) := by
  unfold getU
  simp only [if_neg h2]
theorem ret3 {a b c d e f : Int} (h : (a, b, c) = (d, e, f)) : Ending.returned (.tuple #[.int .u64 a, .int .i64 b, .int .i64 c]) = Ending.returned (.tuple #[.int .u64 d, .int .i64 e, .int .i64 f]) := by
  simp only [Prod.mk.injEq] at h
  obtain ⟨rfl, rfl, rfl⟩ := h
  rfl
set_option maxHeartbeats 400000 in
theorem GetU_calls (A0 : Option Addr) (c0 : Nat) (l0 : List Int) (w : World) (hr0 : Kd.C (Kd.int .u8) w A0 l0.length l0) (hc0 : l0.length ≤ c0) (hl : l0.length ≤ 9223372036854775807) (hb : By l0) :
    Calls Try.prog 61 #[.slice A0 l0.length c0] w fun e w' => e = .returned (.tuple #[.int .u64 (getU l0).1, .int .i64 (getU l0).2.1, .int .i64 (getU l0).2.2]) ∧ Below w.heap.size w w' := by
  rcases spanF_spec l0 0 (by omega) with ⟨k, h1, h2, h3, h4, h5⟩ | ⟨h1, h2⟩
  · have hs : spanF 0 l0 = ((k : Int), 0) := Prod.ext (by rw [h1]; simp) h2
    have hcall : ∀ W, Kd.C (Kd.int .u8) W A0 l0.length l0 → Calls Try.prog 100 #[.slice A0 l0.length c0] W fun e w' => e = .returned (.tuple #[.int .i64 (k : Int), .int .i64 0]) ∧ Drawn0 W w' := fun W hW => by
      have := span_calls _ _ _ W hW hc0 hl
      rw [hs] at this
      exact this
    have HU : ∀ W : World, Calls Try.prog 59 #[.int .u64 (acc l0 k)] W fun e w' => ∃ v0_ : Value, e = .returned v0_ ∧ Kd.R (Kd.int .u8) 5 w' W.heap.size (fun _ => True) v0_ (ub (val7 (l0.take k) % 2 ^ 64)) ∧ Below W.heap.size W w' := fun W => U_calls _ (Nat.mod_lt _ (by decide)) W
    have hok := GetU_ok l0 k hs
    have hbad := GetU_bad l0 k hs
    generalize ub (val7 (l0.take k) % 2 ^ 64) = u at *
    obtain ⟨m, hm⟩ : ∃ m, m = u.length := ⟨_, rfl⟩
    rw [← hm] at hok hbad
    have Hok := Lib.hid hok
    have Hbad := Lib.hid hbad
    have Hm := Lib.hid hm
    obtain ⟨ad, rfl, hcell⟩ := (Kd.reads_of_C (d := (0 : Int)) hr0).2.2 (by omega)
    clear hs h1 h2 hok hbad hm
    go_enter Try.func61, Try.ntmps61
    go_wp2_with (go_at_call 100; refine (hcall _ hr0).mono ?_; rintro e w' ⟨rfl, ⟨nd, rfl⟩⟩)
    clear hcall
    go_loop [7, 22] (fun v7 v22 => ∃ i : Nat, i ≤ k ∧ v22 = .int .i64 i ∧ v7 = .int .u64 (acc l0 i)) (fun _ v22 => k - (intOf v22).toNat)
    case atStart => exact ⟨0, Nat.zero_le _, rfl, rfl⟩
    case round =>
      obtain ⟨i, hi, rfl, rfl⟩ := hrel
      by_cases hlt : i < k
      · have hc := hcell i (by omega)
        go_wp2
        go_round
        case rel => exact ⟨i + 1, by omega, by go_num, by rw [getU_step hb i (by omega) (by omega)]⟩
        case measure => simp [intOf]; omega
      · obtain rfl : i = k := by omega
        by_cases h10 : i = 10
        · subst h10
          have hc : w.cell? ⟨ad.block, ad.off + 9, none⟩ = some (.int .u8 (l0.getD 9 0)) := by simpa [Addr.add] using hcell 9 (by omega)
          have hz := hb.get 9
          clear hcell
          generalize l0.getD 9 0 = z at *
          go_wp2_with (go_at_call 59; refine (HU _).mono ?_; rintro e w' ⟨v0, rfl, hR, hB⟩; obtain ⟨A1, c1, rfl⟩ := Kd.R_slice hR; have hc1 := pw_cell_below hB hc)
          all_goals go_ret3
          all_goals
            have hq : u.length = 10 ∨ u.length ≠ 10 := by omega
            have hq2 : z > 1 ∨ ¬ (z > 1) := by omega
            rcases hq with hq | hq <;> rcases hq2 with hq2 | hq2
            all_goals first
              | (exfalso; omega)
              | exact ⟨ret3 (Hok.out (Hm.out.trans hq) (fun h => hq2 h.2)).symm, bdn hB⟩
              | exact ⟨ret3 (Hbad.out (.inl (fun h => hq (Hm.out.symm.trans h)))).symm, bdn hB⟩
              | exact ⟨ret3 (Hbad.out (.inr ⟨by first | exact rfl | exact trivial, hq2⟩)).symm, bdn hB⟩
        · clear hcell
          go_wp2_with (go_at_call 59; refine (HU _).mono ?_; rintro e w' ⟨v0, rfl, hR, hB⟩; obtain ⟨A1, c1, rfl⟩ := Kd.R_slice hR)
          all_goals go_ret3
          all_goals
            have hq : u.length = i ∨ u.length ≠ i := by omega
            rcases hq with hq | hq
            all_goals first
              | (exfalso; omega)
              | exact ⟨ret3 (Hok.out (Hm.out.trans hq) (fun h => h10 h.1)).symm, bdn hB⟩
              | exact ⟨ret3 (Hbad.out (.inl (fun h => hq (Hm.out.symm.trans h)))).symm, bdn hB⟩
  · have hcall : ∀ W, Kd.C (Kd.int .u8) W A0 l0.length l0 → Calls Try.prog 100 #[.slice A0 l0.length c0] W fun e w' => e = .returned (.tuple #[.int .i64 (spanF 0 l0).1, .int .i64 (spanF 0 l0).2]) ∧ Drawn0 W w' := fun W hW => span_calls _ _ _ W hW hc0 hl
    have he := GetU_err l0 (spanF 0 l0).2 (by omega)
    generalize spanF 0 l0 = s at *
    obtain ⟨s1, s2⟩ := s
    have He := Lib.hid he
    clear he
    have hne : (s2 != 0) = true := by simp at h2 ⊢; omega
    have H2 := Lib.hid h2
    have H1 := Lib.hid h1
    clear h1 h2
    go_enter Try.func61, Try.ntmps61
    go_wp2_with (go_at_call 100; refine (hcall _ hr0).mono ?_; rintro e w' ⟨rfl, ⟨nd, rfl⟩⟩)
    go_ret3
    exact ⟨ret3 He.out.symm, pw_below_drewN (Below.refl _ _) nd⟩
end Go.Proofs.Ytamihmofmjkfoaa.X
end

/-! ## XApp -/
section
/- Appends to rows of bytes of the call's own, as steps of a walk. No program in sight. -/
set_option linter.unusedVariables false
namespace Go.Proofs.Ytamihmofmjkfoaa.X
open Go.RowKit Go.Proofs.YtamihmofmjkfoaaW.PrintWords Go.Proofs.YtamihmofmjkfoaaW.PrintLast Go.Proofs.YtamihmofmjkfoaaW.PrintMore
section
variable {P : Program} {ops : Array Oper} {rest : List Oper} {o : Oper} {a : Act} {Q : Exit → Act → World → Prop} {W : World}
/-- append(v, y...), y a text. -/
theorem wp_app_str (base : Nat) (hgd : o.guard = none) (s x : Operand) (t u e : TypeId)
    (ho : o.op = .call { callee := .builtin .append, args := #[s, x], argTypes := #[t, u] })
    (ht : P.underlying t = some (.slice e)) (hu : P.underlying u = some .string) (hinfo : (P.info? e).map (fun i => (i.zero, i.size, i.bytes)) = some (some (.int .u8 0), 1, 1))
    (v : Value) (xs : List Int) (y : ByteArray) (hs : a.eval s = v) (hx : a.eval x = .string y) (HO : (Kd.int .u8).R e W base (fun _ => True) v xs) (hbase : base ≤ W.heap.size) (hl : xs.length + y.size ≤ 140737488355328)
    (h : ∀ v1 w1, (Kd.int .u8).R e w1 base (fun _ => True) v1 (xs ++ bytesOf y) → W.grownBy w1 v.ownBlock → wpList P ops Q rest (a.put o.dst v1) w1) : wpList P ops Q (o :: rest) a W :=
  print_append_str (w0 := W) base hgd s x t u e ho ht hu hinfo v xs y hs hx (Kd.own_of_R HO) (Below.refl _ _) hbase hl (fun v1 w1 h1 _ h3 => h v1 w1 (Kd.R_of_own h1 (fun _ _ => trivial)) h3)
/-- append(v, ys...), ys a row of bytes that is read. -/
theorem wp_app_bytes (base : Nat) (hgd : o.guard = none) (s x : Operand) (t e : TypeId)
    (ho : o.op = .call { callee := .builtin .append, args := #[s, x], argTypes := #[t, t] })
    (ht : P.underlying t = some (.slice e)) (hinfo : (P.info? e).map (fun i => (i.zero, i.size, i.bytes)) = some (some (.int .u8 0), 1, 1))
    (v : Value) (xs ys : List Int) (A : Option Addr) (c : Nat) (hs : a.eval s = v) (hx : a.eval x = .slice A ys.length c) (HO : (Kd.int .u8).R e W base (fun _ => True) v xs) (HC : (Kd.int .u8).C W A ys.length ys) (hbase : base ≤ W.heap.size) (hl : xs.length + ys.length ≤ 140737488355328)
    (h : ∀ v1 w1, (Kd.int .u8).R e w1 base (fun _ => True) v1 (xs ++ ys) → W.grownBy w1 v.ownBlock → wpList P ops Q rest (a.put o.dst v1) w1) : wpList P ops Q (o :: rest) a W :=
  Kd.R_append_row (Value.int .u8) (0 : Int) (h1 := fun _ => rfl) (w0 := W) base hgd s x t e (.int .u8 0) 1 ho ht hinfo rfl (by omega) v xs ys A ys.length c (fun _ => True) hs hx (fun _ _ => trivial) HO HC (Below.refl _ _) hbase (by omega) (fun v1 w1 h1 _ h3 _ => h v1 w1 h1 h3)
end
end Go.Proofs.Ytamihmofmjkfoaa.X
end

/-! ## XPut -/
section
/- The bytes of a table: what the program's actors.Put answers. Conditions: fewer than some millions of actors, each of some millions of bytes. -/
set_option linter.unusedVariables false
set_option linter.unusedSimpArgs false
namespace Go.Proofs.Ytamihmofmjkfoaa.X
open Go.RowKit Go.Proofs.YtamihmofmjkfoaaW.PrintWords Go.Proofs.YtamihmofmjkfoaaW.PrintLast Go.Proofs.YtamihmofmjkfoaaW.PrintMore Go.Proofs.Ytamihmofmjkfoaa.Q
attribute [local go_sem] max2_int min2_int max_two min_two max_three min_three max_four min_four

def putA (l : List ByteArray) : List Int := l.flatMap fun a => ub a.size ++ bytesOf a
def putT (t : List ByteArray) : List Int := ub (t.drop 1).length ++ putA (t.drop 1)
theorem ubF_len : ∀ (f n : Nat), (ubF f n).length ≤ f + 1
  | 0, _ => by simp [ubF]
  | f + 1, n => by
    unfold ubF
    split
    · simp
    · have := ubF_len f (n / 128)
      simp; omega
theorem ub_len (n : Nat) : (ub n).length ≤ 10 := ubF_len 9 n
theorem putA_len : ∀ l : List ByteArray, (∀ a ∈ l, a.size ≤ 1000000) → (putA l).length ≤ 1000010 * l.length
  | [], _ => by simp [putA]
  | a :: t, h => by
    have h1 := putA_len t (fun x hx => h x (List.mem_cons_of_mem _ hx))
    have h2 := h a List.mem_cons_self
    have h3 := ub_len a.size
    simp only [putA, List.flatMap_cons, List.length_append, List.length_cons, bytesOf_length] at h1 ⊢
    omega
structure PutR (w : World) (ys : List ByteArray) (v4 : Value) (i : Nat) (wr : World) : Prop where
  hi : i ≤ ys.length
  hB : Below w.heap.size w wr
  hR : Kd.R (Kd.int .u8) 5 wr w.heap.size (fun _ => True) v4 (ub ys.length ++ putA (ys.take i))
set_option maxHeartbeats 1000000 in
set_option maxRecDepth 100000 in
theorem Put_calls (A0 : Option Addr) (c0 : Nat) (l0 : List ByteArray) (w : World) (hr0 : Kd.C Kd.string w A0 l0.length l0) (hc0 : l0.length ≤ c0) (hl : l0.length ≤ 10000000) (hz : ∀ a ∈ l0, a.size ≤ 1000000) :
    Calls Try.prog 26 #[.slice A0 l0.length c0] w fun e w' => ∃ v0_ : Value, e = .returned v0_ ∧ Kd.R (Kd.int .u8) 5 w' w.heap.size (fun _ => True) v0_ (putT l0) ∧ Below w.heap.size w w' := by
  obtain ⟨i0, hi0, _, hsz0, _⟩ := info_parts info9
  obtain ⟨j, hj, A1, c1, hcut, hA1, hc1⟩ : ∃ (j : Int), (j = 0 ∧ l0.length = 0 ∨ j = 1 ∧ 1 ≤ l0.length) ∧ ∃ (A' : Option Addr) (c1 : Nat), (∀ W : World, (Instr.slice 26 (.slice A0 l0.length c0) (some (.int .i64 j)) none none).run Try.prog W = .ok (.slice A' (l0.drop 1).length c1) W) ∧ ((Kd.string).C w A' (l0.drop 1).length (l0.drop 1)) ∧ (l0.drop 1).length ≤ c1 := by
    obtain ⟨A', h1, h2, h3⟩ := print_drop_of (P := Try.prog) Value.string (⟨#[]⟩ : ByteArray) 26 9 .i64 Try.underlying26 hi0 hsz0 A0 c0 l0 (min 1 l0.length : Nat) (by omega) (by omega) hc0
    have e : l0.drop (min 1 l0.length) = l0.drop 1 := by cases l0 <;> simp
    rw [Int.toNat_natCast, e] at h1 h2 h3
    exact ⟨((min 1 l0.length : Nat) : Int), by omega, A', _, h1, Kd.C_of_reads (h1 := fun _ => rfl) (h2 w (Kd.reads_of_C hr0)), h3⟩
  have hz' : ∀ a ∈ l0.drop 1, a.size ≤ 1000000 := fun a ha => hz a (List.mem_of_mem_drop ha)
  have hn : (l0.drop 1).length ≤ 10000000 := by simp; omega
  have hfin : putT l0 = ub (l0.drop 1).length ++ putA (l0.drop 1) := rfl
  have Hfin := Lib.hid hfin
  have Hz := Lib.hid hz'
  clear hfin hz hz' hr0 hi0 hsz0
  generalize l0.drop 1 = ys at *
  rcases hj with ⟨rfl, h1⟩ | ⟨rfl, h1⟩
  all_goals
    try rw [h1] at hcut ⊢
    go_enter Try.func26, Try.ntmps26
    go_wp2_with (go_at_call 59; go_must (refine (U_calls ys.length (by omega) _).mono ?_); rintro e w' ⟨v4, rfl, hR4, hB4⟩)
    go_loopw [4, 18] (fun v4 v18 wr => ∃ i : Nat, v18 = .int .i64 i ∧ PutR w ys v4 i wr) (fun _ v18 _ => ys.length - (intOf v18).toNat)
    case atStart => exact ⟨0, rfl, ⟨Nat.zero_le _, hB4, by simpa [putA] using hR4⟩⟩
    case round =>
      obtain ⟨i, rfl, hrel⟩ := hrel
      clear hcut
      have hi := hrel.hi
      have hs := hrel.hB.size
      by_cases hlt : i < ys.length
      · obtain ⟨ad, rfl, hcell⟩ := (Kd.reads_of_C (d := (⟨#[]⟩ : ByteArray)) hA1).2.2 (by omega)
        have hc := pw_cell_below hrel.hB (hcell i hlt)
        rw [getD_get _ _ _ hlt] at hc
        have hsz := Hz.out _ (List.getElem_mem hlt)
        have hlen := putA_len (ys.take i) (fun a ha => Hz.out a (List.mem_of_mem_take ha))
        have hlt2 : (ys.take i).length = i := by simp; omega
        have hub := ub_len ys.length
        have hstep : putA (ys.take (i + 1)) = putA (ys.take i) ++ (ub ys[i].size ++ bytesOf ys[i]) := by rw [List.take_succ_eq_append_getElem hlt]; simp only [putA, List.flatMap_append, List.flatMap_cons, List.flatMap_nil, List.append_nil]
        have Hstep := Lib.hid hstep
        have hub2 := ub_len ys[i].size
        clear hcell hstep
        generalize ys[i] = y at *
        go_wp2_with (first | (go_at_call 59; go_must (refine (U_calls y.size (by omega) _).mono ?_); rintro e w5 ⟨v5, rfl, hR5, hB5⟩; obtain ⟨A5, c5, rfl, hc5, hC5⟩ := Kd.R_reads hR5; have h45 := R_gbT hrel.hR (bl_is_gb hB5) (by simp); have hs5 := hB5.size) | ((with_reducible refine gate_builtin (b := .append) (xs := #[.tmp 22, .tmp 26]) rfl ?_); at_builtin; go_must (refine wp_app_bytes w.heap.size rfl (.tmp 22) (.tmp 26) 34 5 rfl Try.underlying34 info5 u4 _ _ A5 c5 rfl rfl h45 hC5 (by omega) (by simp; omega) ?_; intro v6 w6 hR6 hg6; have hs6 := hg6.size)) | ((with_reducible refine gate_builtin (b := .append) (xs := #[.tmp 27, .tmp 28]) rfl ?_); at_builtin; go_must (refine wp_app_str w.heap.size rfl (.tmp 27) (.tmp 28) 34 9 5 rfl Try.underlying34 Try.underlying9 info5 v6 _ y rfl rfl hR6 (by omega) (by simp; omega) ?_; intro v7 w7 hR7 hg7)))
        go_roundw
        case rel => exact ⟨i + 1, by go_num, ⟨by omega, pw_below_grown (pw_below_grown (below_then hrel.hB hs hB5) _ (by omega) hg6 (fun k hk => R_base hrel.hR k hk)) _ (by omega) hg7 (fun k hk => R_base hR6 k hk), by rw [Hstep.out]; simpa only [List.append_assoc] using hR7⟩⟩
        case measure => simp [intOf]; omega
      · obtain rfl : i = ys.length := by omega
        have hR := hrel.hR
        rw [List.take_length] at hR
        go_wp2
        go_ret
        exact ⟨_, rfl, by rw [Hfin.out]; exact hR, hrel.hB⟩
end Go.Proofs.Ytamihmofmjkfoaa.X
end

/-! ## XAwake18 -/
section
/- Layer 18's example holds. No condition. -/
set_option linter.unusedVariables false
set_option linter.unusedSimpArgs false
namespace Go.Proofs.Ytamihmofmjkfoaa.X
open Go.RowKit Go.Proofs.YtamihmofmjkfoaaW.PrintWords Go.Proofs.YtamihmofmjkfoaaW.PrintLast Go.Proofs.YtamihmofmjkfoaaW.PrintMore Go.Proofs.Ytamihmofmjkfoaa.Q
attribute [local go_sem] max2_int min2_int max_two min_two max_three min_three max_four min_four

def aOp : Op := { zOp with f3 := ⟨1, ⟨#[97]⟩⟩ }
theorem aTable : tableOf ⟨#[98]⟩ [aOp] = [⟨#[98]⟩, ⟨#[97]⟩] := by decide +kernel
theorem aPut : putT [⟨#[98]⟩, ⟨#[97]⟩] = [1, 1, 97] := by decide +kernel
theorem aStr : strOfNums [1, 1, 97] = ⟨#[1, 1, 97]⟩ := by decide +kernel
set_option maxHeartbeats 1000000 in
set_option maxRecDepth 100000 in
theorem awake18 (w : World) : Calls Try.prog 21 #[] w fun e w' => e = .returned (.bool true) ∧ Below w.heap.size w w' := by
  have hlit := (R_readsv (R_lits k44 44 w [aOp] _ ((Reps.none _ _).snoc (k44_mkM w w.heap.size (fun _ => False) aOp (Kd.R_nil _ _ _ _ _)) rfl) (by simp))).2.2
  have HL := Lib.hid hlit
  clear hlit
  go_enter Try.func21, Try.ntmps21
  go_wp2_with fail
  refine (Table_calls ⟨#[98]⟩ _ _ [aOp] _ HL.out (by simp) ⟨by simp, by simp [aOp, z44]⟩ (by decide) (by decide +kernel)).mono ?_
  rintro e w1 ⟨v1, rfl, hR, hB⟩
  rw [aTable] at hR
  obtain ⟨A1, c1, rfl, hc1, hC1⟩ := Kd.R_reads hR
  obtain ⟨ad, rfl, hcell⟩ := (Kd.reads_of_C (d := (⟨#[]⟩ : ByteArray)) hC1).2.2 (by simp)
  have h0 : w1.cell? ad = some (.string ⟨#[98]⟩) := by simpa [Addr.add] using hcell 0 (by simp)
  have h1 : w1.cell? ⟨ad.block, ad.off + 1, none⟩ = some (.string ⟨#[97]⟩) := by simpa [Addr.add] using hcell 1 (by simp)
  have hb1 : Below w.heap.size w w1 := below_then ((Below.refl _ _).alloc (Nat.le_refl _) _) (by simp) hB
  have HR := Lib.hid hR
  have HC1 := Lib.hid hC1
  have HB1 := Lib.hid hb1
  clear hR hC1 hb1 hB hcell HL
  simp only [List.length_cons, List.length_nil, Nat.zero_add] at hc1 ⊢
  go_wp2_with fail
  refine (Put_calls _ _ [⟨#[98]⟩, ⟨#[97]⟩] _ HC1.out hc1 (by simp) (by decide +kernel)).mono ?_
  rintro e w2 ⟨v2, rfl, hR2, hB2⟩
  rw [aPut] at hR2
  have hconv : (convert 34 9 v2).run Try.prog w2 = .ok (.string ⟨#[1, 1, 97]⟩) w2 := by
    have := own_string (P := Try.prog) Try.underlying34 Try.underlying5 Try.underlying9 (Kd.own_of_R hR2)
    rw [aStr] at this
    exact this
  have hb2 : Below w.heap.size w w2 := below_then HB1.out HB1.out.size hB2
  clear hR2 hB2
  go_wp2_with fail
  go_ret
  exact ⟨rfl, hb2⟩
end Go.Proofs.Ytamihmofmjkfoaa.X
end

/-! ## XFew -/
section
/- What Few tells of ops. No condition. -/
set_option linter.unusedVariables false
set_option linter.unusedSimpArgs false
namespace Go.Proofs.Ytamihmofmjkfoaa.X
open Go.RowKit Go.Proofs.YtamihmofmjkfoaaW.PrintWords Go.Proofs.YtamihmofmjkfoaaW.PrintLast Go.Proofs.YtamihmofmjkfoaaW.PrintMore Go.Proofs.Ytamihmofmjkfoaa.Q

def fewOp (o : Op) : Bool := decide (o.f7.length ≤ 40) && decide (o.f1.size ≤ 5000) && decide (o.f6.f3.size ≤ 5000) && decide (o.f0.f1.size ≤ 100) && decide (o.f3.f1.size ≤ 100) && o.f7.all fun p => decide (p.f1.size ≤ 100)
def fewL (l : List Op) (most : Int) : Bool := decide ((l.length : Int) ≤ most) && l.all fewOp
theorem few_l1 (x0 : List Op) (i : Nat) (hi : i < x0.length) (h7 : x0[i].f7.length ≤ 40) (r : Bool) (ht : Evt (fun k => inkwellref17_Few.l0 k x0 (wrap64 ((i : Int) + 1))) r) :
    ∀ (d j : Nat), x0[i].f7.length - j = d → j ≤ x0[i].f7.length → Evt (fun k => inkwellref17_Few.l1 k x0 i j) (((x0[i].f7.drop j).all fun p => decide (p.f1.size ≤ 100)) && r) := by
  have hr : rd_T44 x0 (i : Int) = x0[i] := by unfold rd_T44; rw [Int.toNat_natCast, getD_get _ _ _ hi]
  intro d
  induction d with
  | zero =>
    intro j hd hj
    rw [List.drop_eq_nil_of_le (by omega)]
    refine (ht.of fun k => rfl).step fun k => ?_
    simp only [inkwellref17_Few.l1, hr, List.all_nil, Bool.true_and]
    rw [if_pos (by omega), if_pos (by omega), if_neg (by omega)]
  | succ d ih =>
    intro j hd hj
    have hlt : j < x0[i].f7.length := by omega
    have hw : wrap64 ((j : Int) + 1) = ((j + 1 : Nat) : Int) := by rw [w64' (by omega) (by omega)]; omega
    have hrj : rd_T38 x0[i].f7 (j : Int) = x0[i].f7[j] := by unfold rd_T38; rw [Int.toNat_natCast, getD_get _ _ _ hlt]
    rw [List.drop_eq_getElem_cons hlt, List.all_cons]
    by_cases hz : x0[i].f7[j].f1.size ≤ 100
    · simp only [hz, decide_true, Bool.true_and]
      refine (ih (j + 1) (by omega) (by omega)).step fun k => ?_
      simp only [inkwellref17_Few.l1, hr, hrj]
      rw [if_pos (by omega), if_pos (by omega), if_pos (by omega), if_pos (by omega), if_neg (by omega), hw]
    · simp only [hz, decide_false, Bool.false_and]
      refine Evt.one fun k => ?_
      simp only [inkwellref17_Few.l1, hr, hrj]
      rw [if_pos (by omega), if_pos (by omega), if_pos (by omega), if_pos (by omega), if_pos (by omega)]
theorem few_l0 (x0 : List Op) (hl : x0.length ≤ 1000000000) : ∀ (d i : Nat), x0.length - i = d → i ≤ x0.length → Evt (fun k => inkwellref17_Few.l0 k x0 i) ((x0.drop i).all fewOp) := by
  intro d
  induction d with
  | zero =>
    intro i hd hi
    rw [List.drop_eq_nil_of_le (by omega)]
    refine Evt.one fun k => ?_
    simp only [inkwellref17_Few.l0]
    rw [if_neg (by omega)]
    rfl
  | succ d ih =>
    intro i hd hi
    have hlt : i < x0.length := by omega
    have hw : wrap64 ((i : Int) + 1) = ((i + 1 : Nat) : Int) := by rw [w64' (by omega) (by omega)]; omega
    have hr : rd_T44 x0 (i : Int) = x0[i] := by unfold rd_T44; rw [Int.toNat_natCast, getD_get _ _ _ hlt]
    rw [List.drop_eq_getElem_cons hlt, List.all_cons]
    by_cases hA : x0[i].f7.length ≤ 40 ∧ x0[i].f1.size ≤ 5000 ∧ x0[i].f6.f3.size ≤ 5000 ∧ x0[i].f0.f1.size ≤ 100 ∧ x0[i].f3.f1.size ≤ 100
    · obtain ⟨h1, h2, h3, h4, h5⟩ := hA
      have key := few_l1 x0 i hlt h1 _ ((ih (i + 1) (by omega) (by omega)).of fun k => by rw [hw]) _ 0 rfl (Nat.zero_le _)
      have e : fewOp x0[i] = (x0[i].f7.all fun p => decide (p.f1.size ≤ 100)) := by simp [fewOp, h1, h2, h3, h4, h5]
      rw [e]
      rw [List.drop_zero] at key
      have k2 : Evt (fun k => inkwellref17_Few.j1 k x0 i false) _ := key.step fun k => by simp only [inkwellref17_Few.j1]; rw [if_neg (by decide)]; rfl
      refine k2.step fun k => ?_
      simp only [inkwellref17_Few.l0, hr]
      rw [if_pos (by omega), if_pos (by omega), if_neg (by omega), if_neg (by omega), if_neg (by omega), if_neg (by omega), decide_eq_false (by omega)]
    · have e : fewOp x0[i] = false := by
        cases hf : fewOp x0[i]
        · rfl
        · exfalso
          apply hA
          simp [fewOp] at hf
          obtain ⟨⟨⟨⟨⟨a, b⟩, c⟩, d⟩, e⟩, _⟩ := hf
          exact ⟨a, b, c, d, e⟩
      rw [e, Bool.false_and]
      have k2 : Evt (fun k => inkwellref17_Few.j1 k x0 i true) false := Evt.one fun k => by simp only [inkwellref17_Few.j1]; rw [if_pos trivial]
      refine k2.step fun k => ?_
      simp only [inkwellref17_Few.l0, hr]
      rw [if_pos (by omega), if_pos (by omega)]
      repeat' split
      all_goals first | rfl | (rw [decide_eq_true (by omega)])
theorem Few_f (l : List Op) (most : Int) (hm : most ≤ 1000000) : ∃ k, inkwellref17_Few.f k l most = some (fewL l most) := by
  unfold inkwellref17_Few.f fewL
  by_cases h : (l.length : Int) > most
  · refine ⟨0, ?_⟩
    rw [if_pos h, decide_eq_false (by omega)]
    rfl
  · obtain ⟨K, hK⟩ := few_l0 l (by omega) l.length 0 (by omega) (by omega)
    refine ⟨K, ?_⟩
    rw [if_neg h, decide_eq_true (by omega)]
    simpa using hK K (Nat.le_refl _)
theorem Few_calls (A0 : Option Addr) (c0 : Nat) (l0 : List Op) (most : Int) (w : World) (hr0 : Kd.C k44 w A0 l0.length l0) (hc0 : l0.length ≤ c0) (hm : most ≤ 1000000) :
    Calls Try.prog 15 #[.slice A0 l0.length c0, .int .i64 most] w fun e w' => e = .returned (.bool (fewL l0 most)) ∧ Drawn0 w w' := by
  obtain ⟨k, hk⟩ := Few_f l0 most hm
  exact inkwellref17_Few.calls k A0 c0 l0 most _ w hr0 hc0 hk
theorem few_sm {l : List Op} {most : Int} (hm : most ≤ 10000) (h : fewL l most = true) : l.length ≤ most ∧ ∀ o ∈ l, fewOp o = true := by
  unfold fewL at h
  simp only [Bool.and_eq_true, decide_eq_true_eq, List.all_eq_true] at h
  exact h
theorem fewOp_parts {o : Op} (h : fewOp o = true) : o.f7.length ≤ 40 ∧ o.f1.size ≤ 5000 ∧ o.f6.f3.size ≤ 5000 ∧ o.f0.f1.size ≤ 100 ∧ o.f3.f1.size ≤ 100 ∧ ∀ p ∈ o.f7, p.f1.size ≤ 100 := by
  simp [fewOp] at h
  obtain ⟨⟨⟨⟨⟨a, b⟩, c⟩, d⟩, e⟩, f⟩ := h
  exact ⟨a, b, c, d, e, f⟩
end Go.Proofs.Ytamihmofmjkfoaa.X
end

/-! ## Q22 -/
section
-- By myprint.py, out of the translation, by way of the kit's print.
namespace Go.Proofs.Ytamihmofmjkfoaa.Q
open Go.RowKit Go.Proofs.YtamihmofmjkfoaaW.PrintWords Go.Proofs.YtamihmofmjkfoaaW.PrintLast Go.Proofs.YtamihmofmjkfoaaW.PrintMore
attribute [local go_sem] max2_int min2_int max_two min_two max_three min_three max_four min_four   -- for this text's walks alone
set_option linter.unusedVariables false
set_option linter.unusedSimpArgs false

/-! ### inkwellref18_Same: function 22 -/
def inkwellref18_Same.l0 : Nat → List ByteArray → List ByteArray → Int → Option (Bool)
  | 0, _, _, _ => none
  | k + 1, x0, x1, x5 => if x5 < (x0.length : Int) then (if 0 ≤ x5 then (if x5 < (x1.length : Int) then (if (rdOf ByteArray.empty x0 x5).toList = (rdOf ByteArray.empty x1 x5).toList then (inkwellref18_Same.l0 k x0 x1 (wrap64 (x5 + 1))) else (some false)) else (none)) else (none)) else (some true)
def inkwellref18_Same.f (k : Nat) (l0 : List ByteArray) (l1 : List ByteArray) : Option (Bool) := if (l0.length : Int) = (l1.length : Int) then (inkwellref18_Same.l0 k l0 l1 0) else (some false)
theorem inkwellref18_Same.mono_l : ∀ k, (∀ y0 y1 y2, LeO (inkwellref18_Same.l0 k y0 y1 y2) (inkwellref18_Same.l0 (k + 1) y0 y1 y2))
  | 0 => fun _ _ _ r h => by simp [inkwellref18_Same.l0] at h
  | k + 1 => by
    have ih0 := inkwellref18_Same.mono_l k
    · intro y0 y1 y2
      unfold inkwellref18_Same.l0
      repeat' first
      | (with_reducible exact ih0 _ _ _)
      | (with_reducible exact LeO.refl _)
      | (with_reducible exact LeO.none _)
      | (with_reducible refine LeO.ite ?_ ?_)
      | (with_reducible refine LeO.bind ?_ (fun _ => ?_))
      | exact ih0 _ _ _
      | exact LeO.none _
      | refine LeO.ite ?_ ?_
      | refine LeO.bind ?_ (fun _ => ?_)
theorem inkwellref18_Same.mono : ∀ a0 a1 k, LeO (inkwellref18_Same.f k a0 a1) (inkwellref18_Same.f (k + 1) a0 a1) := by
  intro a0 a1 k
  have ih0 := inkwellref18_Same.mono_l k
  unfold inkwellref18_Same.f
  repeat' first
      | (with_reducible exact ih0 _ _ _)
      | (with_reducible exact LeO.refl _)
      | (with_reducible exact LeO.none _)
      | (with_reducible refine LeO.ite ?_ ?_)
      | (with_reducible refine LeO.bind ?_ (fun _ => ?_))
      | exact ih0 _ _ _
      | exact LeO.none _
      | refine LeO.ite ?_ ?_
      | refine LeO.bind ?_ (fun _ => ?_)
set_option maxHeartbeats 8000000 in
set_option maxRecDepth 100000 in
theorem inkwellref18_Same.calls (k : Nat) (A0 : Option Addr) (c0 : Nat) (l0 : List ByteArray) (A1 : Option Addr) (c1 : Nat) (l1 : List ByteArray) (r : Bool) (w : World) (hr0 : Kd.C Kd.string w A0 l0.length l0) (hc0 : l0.length ≤ c0) (hr1 : Kd.C Kd.string w A1 l1.length l1) (hc1 : l1.length ≤ c1) (h : inkwellref18_Same.f k l0 l1 = some r) :
    Calls Try.prog 22 #[.slice A0 l0.length c0, .slice A1 l1.length c1] w fun e w' => e = .returned (.bool r) ∧ Drawn0 w w' := by
  have HR0 := Aside0.mk hr0
  have HC0 := Aside0.mk hc0
  clear hr0 hc0
  have HR1 := Aside0.mk hr1
  have HC1 := Aside0.mk hc1
  clear hr1 hc1
  have H : (if (l0.length : Int) = (l1.length : Int) then (inkwellref18_Same.l0 k l0 l1 0) else (some false)) = some r := h
  clear h
  by_cases c3 : (l0.length : Int) = (l1.length : Int)
  · rw [if_pos c3] at H
    have c3b0 : ((l0.length : Int) == (l1.length : Int)) = true := beq_iff_eq.mpr c3
    have c3b1 : ((l0.length : Int) != (l1.length : Int)) = false := bne_eq_false_iff_eq.mpr c3
    have c3b2 : (l0.length == l1.length) = true := by first | simpa using c3 | (simp at c3 ⊢; omega)
    clear c3
    have H' := Aside0.mk H
    clear H
    go_enter Try.func22, Try.ntmps22
    go_wp2
    repeat (go_quiet (fail); try go_wp2)
    go_loopg [5] k (fun kq v5 w' => ∃ (x5_1 : Int), v5 = .int .i64 x5_1 ∧ Aside0 (inkwellref18_Same.l0 kq l0 l1 x5_1 = some r) ∧ Aside0 (kq ≤ k) ∧ Drawn0 w w')
    case atStart => exact ⟨(0), (by first | rfl | (simp; done) | (simp [*]; done)), H', ⟨Nat.le_refl _⟩, by repeat (first | exact Drawn0.refl _ | apply Drawn0.step)⟩
    case round =>
      clear H'
      try clear c1
      try clear c2
      try clear p2
      try clear c3
      try clear c3b0
      try clear c3b1
      try clear c3b2
      obtain ⟨x5_1, rfl, HA, HK1, ⟨m1, rfl⟩⟩ := hrel
      cases gk with
      | zero => exact absurd HA.out (by simp [inkwellref18_Same.l0])
      | succ k1 =>
        have H := HA.out
        clear HA
        simp only [inkwellref18_Same.l0] at H
        by_cases c4 : x5_1 < (l0.length : Int)
        · rw [if_pos c4] at H
          have c4b0 : decide (x5_1 < (l0.length : Int)) = true := decide_eq_true c4
          clear c4
          by_cases c5 : 0 ≤ x5_1
          · rw [if_pos c5] at H
            have c5b0 : decide (0 ≤ x5_1) = true := decide_eq_true c5
            clear c5
            by_cases c6 : x5_1 < (l1.length : Int)
            · rw [if_pos c6] at H
              have c6b0 : decide (x5_1 < (l1.length : Int)) = true := decide_eq_true c6
              clear c6
              by_cases c7 : (rdOf ByteArray.empty l0 x5_1).toList = (rdOf ByteArray.empty l1 x5_1).toList
              · rw [if_pos c7] at H
                have c7b0 : ((rdOf ByteArray.empty l0 x5_1).toList == (rdOf ByteArray.empty l1 x5_1).toList) = true := beq_iff_eq.mpr c7
                have c7b1 : ((rdOf ByteArray.empty l0 x5_1).toList != (rdOf ByteArray.empty l1 x5_1).toList) = false := bne_eq_false_iff_eq.mpr c7
                clear c7
                have H' := Aside0.mk H
                clear H
                have p101 : 0 ≤ (x5_1 : Int) := of_decide_eq_true (by first | (with_reducible assumption) | assumption)
                have q101 : x5_1 < (l0.length : Int) := of_decide_eq_true (by first | (with_reducible assumption) | assumption)
                obtain ⟨ad101, e101, hx101_0⟩ := Kd.at_string HR0.out x5_1 p101 q101
                cases e101
                replace p101 := eq_true p101
                replace q101 := eq_true q101
                have p102 : 0 ≤ (x5_1 : Int) := of_decide_eq_true (by first | (with_reducible assumption) | assumption)
                have q102 : x5_1 < (l1.length : Int) := of_decide_eq_true (by first | (with_reducible assumption) | assumption)
                obtain ⟨ad102, e102, hx102_0⟩ := Kd.at_string HR1.out x5_1 p102 q102
                cases e102
                replace p102 := eq_true p102
                replace q102 := eq_true q102
                go_wp2
                repeat (go_quiet (fail); try go_wp2)
                go_roundg k1
                case measure => have := HK1.out; omega
                case rel => exact ⟨(wrap64 (x5_1 + 1)), (by first | rfl | (simp; done) | (simp [*]; done)), H', ⟨by have := HK1.out; omega⟩, by repeat (first | exact Drawn0.refl _ | apply Drawn0.step)⟩
              · rw [if_neg c7] at H
                have c7b0 : ((rdOf ByteArray.empty l0 x5_1).toList == (rdOf ByteArray.empty l1 x5_1).toList) = false := beq_eq_false_iff_ne.mpr c7
                have c7b1 : ((rdOf ByteArray.empty l0 x5_1).toList != (rdOf ByteArray.empty l1 x5_1).toList) = true := bne_iff_ne.mpr c7
                obtain rfl := Option.some.inj H
                have p101 : 0 ≤ (x5_1 : Int) := of_decide_eq_true (by first | (with_reducible assumption) | assumption)
                have q101 : x5_1 < (l0.length : Int) := of_decide_eq_true (by first | (with_reducible assumption) | assumption)
                obtain ⟨ad101, e101, hx101_0⟩ := Kd.at_string HR0.out x5_1 p101 q101
                cases e101
                replace p101 := eq_true p101
                replace q101 := eq_true q101
                have p102 : 0 ≤ (x5_1 : Int) := of_decide_eq_true (by first | (with_reducible assumption) | assumption)
                have q102 : x5_1 < (l1.length : Int) := of_decide_eq_true (by first | (with_reducible assumption) | assumption)
                obtain ⟨ad102, e102, hx102_0⟩ := Kd.at_string HR1.out x5_1 p102 q102
                cases e102
                replace p102 := eq_true p102
                replace q102 := eq_true q102
                go_wp2
                repeat (go_quiet (fail); try go_wp2)
                go_ret
                exact ⟨by first | rfl | (simp; done) | (simp [*]; done), by repeat (first | exact Drawn0.refl _ | apply Drawn0.step)⟩
            · rw [if_neg c6] at H
              exact absurd H (by simp)
          · rw [if_neg c5] at H
            exact absurd H (by simp)
        · rw [if_neg c4] at H
          have c4b0 : decide (x5_1 < (l0.length : Int)) = false := decide_eq_false c4
          clear c4
          obtain rfl := Option.some.inj H
          go_wp2
          repeat (go_quiet (fail); try go_wp2)
          go_ret
          exact ⟨by first | rfl | (simp; done) | (simp [*]; done), by repeat (first | exact Drawn0.refl _ | apply Drawn0.step)⟩
  · rw [if_neg c3] at H
    have c3b0 : ((l0.length : Int) == (l1.length : Int)) = false := beq_eq_false_iff_ne.mpr c3
    have c3b1 : ((l0.length : Int) != (l1.length : Int)) = true := bne_iff_ne.mpr c3
    have c3b2 : (l0.length == l1.length) = false := by first | simpa using c3 | (simp at c3 ⊢; omega)
    obtain rfl := Option.some.inj H
    go_enter Try.func22, Try.ntmps22
    go_wp2
    repeat (go_quiet (fail); try go_wp2)
    go_ret
    exact ⟨by first | rfl | (simp; done) | (simp [*]; done), by repeat (first | exact Drawn0.refl _ | apply Drawn0.step)⟩

end Go.Proofs.Ytamihmofmjkfoaa.Q
end

/-! ## XPlain18 -/
section
/- Plain laws on tables: sorted, once each, of whatever order. -/
set_option linter.unusedVariables false
set_option linter.unusedSimpArgs false
namespace Go.Proofs.Ytamihmofmjkfoaa.X
open Go.RowKit Go.Proofs.YtamihmofmjkfoaaW.PrintWords Go.Proofs.YtamihmofmjkfoaaW.PrintLast Go.Proofs.YtamihmofmjkfoaaW.PrintMore Go.Proofs.Ytamihmofmjkfoaa.Q

theorem bl_inj {s t : ByteArray} (h : bl s = bl t) : s = t := by rw [← mkS_bl s, ← mkS_bl t, h]
theorem uniq_mem : ∀ (l : List ByteArray) (seen : List (List UInt8)) (s : List UInt8), s ∈ (uniq seen l).map bl ↔ s ∈ l.map bl ∧ s ∉ seen
  | [], seen, s => by simp [uniq]
  | x :: t, seen, s => by
    unfold uniq
    by_cases h : bl x ∈ seen
    · rw [if_pos h, uniq_mem t seen s, List.map_cons, List.mem_cons]
      constructor
      · rintro ⟨h1, h2⟩; exact ⟨.inr h1, h2⟩
      · rintro ⟨rfl | h1, h2⟩
        · exact absurd h h2
        · exact ⟨h1, h2⟩
    · rw [if_neg h, List.map_cons, List.mem_cons, uniq_mem t _ s, List.map_cons, List.mem_cons, List.mem_cons, not_or]
      constructor
      · rintro (rfl | ⟨h1, h2, h3⟩)
        · exact ⟨.inl rfl, h⟩
        · exact ⟨.inr h1, h3⟩
      · rintro ⟨rfl | h1, h2⟩
        · exact .inl rfl
        · by_cases e : s = bl x
          · exact .inl e
          · exact .inr ⟨h1, e, h2⟩
theorem uniq_nodup : ∀ (l : List ByteArray) (seen : List (List UInt8)), ((uniq seen l).map bl).Nodup
  | [], seen => by simp [uniq]
  | x :: t, seen => by
    unfold uniq
    split
    · exact uniq_nodup t seen
    · rw [List.map_cons, List.nodup_cons]
      refine ⟨fun h => ?_, uniq_nodup t _⟩
      rw [uniq_mem] at h
      exact h.2 List.mem_cons_self
theorem uniq_len : ∀ (l : List ByteArray) (seen : List (List UInt8)), (uniq seen l).length ≤ l.length
  | [], seen => by simp [uniq]
  | x :: t, seen => by
    unfold uniq
    split
    · have := uniq_len t seen
      simp only [List.length_cons]; omega
    · have := uniq_len t (bl x :: seen)
      simp only [List.length_cons]; omega
/-- Tables of ops that speak of the same. -/
theorem table_same (a : ByteArray) (l l' : List Op) (h : ∀ x, x ∈ namesOf l ↔ x ∈ namesOf l') : tableOf a l = tableOf a l' := by
  unfold tableOf sortS othersOf
  congr 2
  refine mergeSort_of_perm ?_
  rw [List.perm_ext_iff_of_nodup (uniq_nodup _ _) (uniq_nodup _ _)]
  intro s
  rw [uniq_mem, uniq_mem]
  have e : (s ∈ ((namesOf l).map (·.f1)).map bl) ↔ (s ∈ ((namesOf l').map (·.f1)).map bl) := by
    simp only [List.mem_map]
    constructor
    · rintro ⟨y, ⟨x, hx, rfl⟩, rfl⟩; exact ⟨_, ⟨x, (h x).1 hx, rfl⟩, rfl⟩
    · rintro ⟨y, ⟨x, hx, rfl⟩, rfl⟩; exact ⟨_, ⟨x, (h x).2 hx, rfl⟩, rfl⟩
  rw [e]
theorem table_len (a : ByteArray) (l : List Op) (h : Sm l) : (tableOf a l).length ≤ 1000000000 := by
  have h1 := uniq_len ((namesOf l).map (·.f1)) [bl a]
  have h2 := flat_le l h.2
  have h3 := h.1
  simp only [tableOf, List.length_cons, sortS_length, othersOf, List.length_map] at h1 ⊢
  omega
theorem few_names {l : List Op} (h : ∀ o ∈ l, fewOp o = true) : ∀ x ∈ namesOf l, x.f1.size ≤ 100 := by
  intro x hx
  simp only [namesOf, List.mem_flatMap, List.mem_filter] at hx
  obtain ⟨o, ho, hx, _⟩ := hx
  obtain ⟨_, _, _, h4, h5, h6⟩ := fewOp_parts (h o ho)
  simp only [List.cons_append, List.nil_append, List.mem_cons] at hx
  rcases hx with rfl | rfl | hx
  · exact h4
  · exact h5
  · exact h6 x hx
theorem few_Sm {l : List Op} (hl : l.length ≤ 10000) (h : ∀ o ∈ l, fewOp o = true) : Sm l := ⟨hl, fun o ho => by have := (fewOp_parts (h o ho)).1; omega⟩
/-! ### the same texts -/
theorem rdOf_get {l : List ByteArray} (i : Nat) (h : i < l.length) : rdOf ByteArray.empty l (i : Int) = l[i] := by unfold rdOf; rw [Int.toNat_natCast, getD_get _ _ _ h]
theorem same_l0 (x0 x1 : List ByteArray) (he : x0.length = x1.length) (hl : x0.length ≤ 1000000000) : ∀ (d i : Nat), x0.length - i = d → i ≤ x0.length → Evt (fun k => inkwellref18_Same.l0 k x0 x1 i) (decide (x0.drop i = x1.drop i)) := by
  intro d
  induction d with
  | zero =>
    intro i hd hi
    rw [List.drop_eq_nil_of_le (by omega), List.drop_eq_nil_of_le (by omega)]
    refine Evt.one fun k => ?_
    simp only [inkwellref18_Same.l0]
    rw [if_neg (by omega)]
    rfl
  | succ d ih =>
    intro i hd hi
    have hlt : i < x0.length := by omega
    have hlt1 : i < x1.length := by omega
    have hw : wrap64 ((i : Int) + 1) = ((i + 1 : Nat) : Int) := by rw [w64' (by omega) (by omega)]; omega
    rw [List.drop_eq_getElem_cons hlt, List.drop_eq_getElem_cons hlt1]
    by_cases hz : x0[i] = x1[i]
    · have e : decide (x0[i] :: x0.drop (i + 1) = x1[i] :: x1.drop (i + 1)) = decide (x0.drop (i + 1) = x1.drop (i + 1)) := by rw [hz]; simp only [List.cons.injEq, true_and]
      rw [e]
      refine (ih (i + 1) (by omega) (by omega)).step fun k => ?_
      simp only [inkwellref18_Same.l0, rdOf_get i hlt, rdOf_get i hlt1]
      simp [hlt, hlt1, hz, hw]
    · have e : decide (x0[i] :: x0.drop (i + 1) = x1[i] :: x1.drop (i + 1)) = false := decide_eq_false (fun h => hz (List.cons.inj h).1)
      rw [e]
      refine Evt.one fun k => ?_
      simp only [inkwellref18_Same.l0, rdOf_get i hlt, rdOf_get i hlt1]
      have hz2 : ¬ x0[i].toList = x1[i].toList := fun h => hz (by rw [ByteArray.toList_eq, ByteArray.toList_eq] at h; exact bl_inj h)
      simp [hlt, hlt1, hz2]
theorem Same_calls (A0 : Option Addr) (c0 : Nat) (l0 : List ByteArray) (A1 : Option Addr) (c1 : Nat) (l1 : List ByteArray) (w : World) (hr0 : Kd.C Kd.string w A0 l0.length l0) (hc0 : l0.length ≤ c0) (hr1 : Kd.C Kd.string w A1 l1.length l1) (hc1 : l1.length ≤ c1) (hl : l0.length ≤ 1000000000) :
    Calls Try.prog 22 #[.slice A0 l0.length c0, .slice A1 l1.length c1] w fun e w' => e = .returned (.bool (decide (l0 = l1))) ∧ Drawn0 w w' := by
  have h : ∃ k, inkwellref18_Same.f k l0 l1 = some (decide (l0 = l1)) := by
    unfold inkwellref18_Same.f
    by_cases he : l0.length = l1.length
    · obtain ⟨K, hK⟩ := same_l0 l0 l1 he hl l0.length 0 (by omega) (by omega)
      refine ⟨K, ?_⟩
      rw [if_pos (by omega)]
      simpa using hK K (Nat.le_refl _)
    · refine ⟨0, ?_⟩
      rw [if_neg (by omega), decide_eq_false (fun e => he (by rw [e]))]
  obtain ⟨k, hk⟩ := h
  exact inkwellref18_Same.calls k A0 c0 l0 A1 c1 l1 _ w hr0 hc0 hr1 hc1 hk
end Go.Proofs.Ytamihmofmjkfoaa.X
end

/-! ## Q82 -/
section
-- By myprint.py, out of the translation, by way of the kit's print.
namespace Go.Proofs.Ytamihmofmjkfoaa.Q
open Go.RowKit Go.Proofs.YtamihmofmjkfoaaW.PrintWords Go.Proofs.YtamihmofmjkfoaaW.PrintLast Go.Proofs.YtamihmofmjkfoaaW.PrintMore
attribute [local go_sem] max2_int min2_int max_two min_two max_three min_three max_four min_four   -- for this text's walks alone
set_option linter.unusedVariables false
set_option linter.unusedSimpArgs false

/-! ### inkwellref17_Less: function 82 -/
mutual
def inkwellref17_Less.l0 : Nat → Int → Int → ByteArray → Int → ByteArray → Option (Bool)
  | 0, _, _, _, _, _ => none
  | k + 1, x5, x102000, x102001, x103000, x103001 => if x5 < (x102001.size : Int) then (inkwellref17_Less.j1 k x5 (decide (x5 < (x103001.size : Int))) x102000 x102001 x103000 x103001) else (inkwellref17_Less.j1 k x5 false x102000 x102001 x103000 x103001)
def inkwellref17_Less.j1 : Nat → Int → Bool → Int → ByteArray → Int → ByteArray → Option (Bool)
  | 0, _, _, _, _, _, _ => none
  | k + 1, x5, x27, x102000, x102001, x103000, x103001 => if x27 = true then (if 0 ≤ x5 then (if x5 < (x102001.size : Int) then (if x5 < (x103001.size : Int) then (if (bt x102001 x5) = (bt x103001 x5) then (inkwellref17_Less.l0 k (wrap64 (x5 + 1)) x102000 x102001 x103000 x103001) else (some (decide ((bt x102001 x5) < (bt x103001 x5))))) else (none)) else (none)) else (none)) else (some (decide ((x102001.size : Int) < (x103001.size : Int))))
end
def inkwellref17_Less.f (k : Nat) (a0_0 : Int) (a0_1 : ByteArray) (a1_0 : Int) (a1_1 : ByteArray) : Option (Bool) := if a0_0 = a1_0 then (inkwellref17_Less.l0 k 0 a0_0 a0_1 a1_0 a1_1) else (some (decide (a0_0 < a1_0)))
theorem inkwellref17_Less.mono_l : ∀ k, (∀ y0 y1 y2 y3 y4, LeO (inkwellref17_Less.l0 k y0 y1 y2 y3 y4) (inkwellref17_Less.l0 (k + 1) y0 y1 y2 y3 y4)) ∧ (∀ y0 y1 y2 y3 y4 y5, LeO (inkwellref17_Less.j1 k y0 y1 y2 y3 y4 y5) (inkwellref17_Less.j1 (k + 1) y0 y1 y2 y3 y4 y5))
  | 0 => ⟨fun _ _ _ _ _ r h => by simp [inkwellref17_Less.l0] at h, fun _ _ _ _ _ _ r h => by simp [inkwellref17_Less.j1] at h⟩
  | k + 1 => by
    obtain ⟨ih0, ih1⟩ := inkwellref17_Less.mono_l k
    refine ⟨?_, ?_⟩
    · intro y0 y1 y2 y3 y4
      unfold inkwellref17_Less.l0
      repeat' first
      | (with_reducible exact ih0 _ _ _ _ _)
      | (with_reducible exact ih1 _ _ _ _ _ _)
      | (with_reducible exact LeO.refl _)
      | (with_reducible exact LeO.none _)
      | (with_reducible refine LeO.ite ?_ ?_)
      | (with_reducible refine LeO.bind ?_ (fun _ => ?_))
      | exact ih0 _ _ _ _ _
      | exact ih1 _ _ _ _ _ _
      | exact LeO.none _
      | refine LeO.ite ?_ ?_
      | refine LeO.bind ?_ (fun _ => ?_)
    · intro y0 y1 y2 y3 y4 y5
      unfold inkwellref17_Less.j1
      repeat' first
      | (with_reducible exact ih0 _ _ _ _ _)
      | (with_reducible exact ih1 _ _ _ _ _ _)
      | (with_reducible exact LeO.refl _)
      | (with_reducible exact LeO.none _)
      | (with_reducible refine LeO.ite ?_ ?_)
      | (with_reducible refine LeO.bind ?_ (fun _ => ?_))
      | exact ih0 _ _ _ _ _
      | exact ih1 _ _ _ _ _ _
      | exact LeO.none _
      | refine LeO.ite ?_ ?_
      | refine LeO.bind ?_ (fun _ => ?_)
theorem inkwellref17_Less.mono : ∀ a0 a1 a2 a3 k, LeO (inkwellref17_Less.f k a0 a1 a2 a3) (inkwellref17_Less.f (k + 1) a0 a1 a2 a3) := by
  intro a0 a1 a2 a3 k
  obtain ⟨ih0, ih1⟩ := inkwellref17_Less.mono_l k
  unfold inkwellref17_Less.f
  repeat' first
      | (with_reducible exact ih0 _ _ _ _ _)
      | (with_reducible exact ih1 _ _ _ _ _ _)
      | (with_reducible exact LeO.refl _)
      | (with_reducible exact LeO.none _)
      | (with_reducible refine LeO.ite ?_ ?_)
      | (with_reducible refine LeO.bind ?_ (fun _ => ?_))
      | exact ih0 _ _ _ _ _
      | exact ih1 _ _ _ _ _ _
      | exact LeO.none _
      | refine LeO.ite ?_ ?_
      | refine LeO.bind ?_ (fun _ => ?_)
set_option maxHeartbeats 8000000 in
set_option maxRecDepth 100000 in
theorem inkwellref17_Less.calls (k : Nat) (a0_0 : Int) (a0_1 : ByteArray) (a1_0 : Int) (a1_1 : ByteArray) (r : Bool) (w : World) (h : inkwellref17_Less.f k a0_0 a0_1 a1_0 a1_1 = some r) :
    Calls Try.prog 82 #[.agg #[.int .i64 a0_0, .string a0_1], .agg #[.int .i64 a1_0, .string a1_1]] w fun e w' => e = .returned (.bool r) ∧ Below w.heap.size w w' := by
  have hu38 := Try.underlying38
  have HB := Aside0.mk (Below.refl w.heap.size w)
  have H : (if a0_0 = a1_0 then (inkwellref17_Less.l0 k 0 a0_0 a0_1 a1_0 a1_1) else (some (decide (a0_0 < a1_0)))) = some r := h
  clear h
  by_cases c3 : a0_0 = a1_0
  · rw [if_pos c3] at H
    have c3b0 : (a0_0 == a1_0) = true := beq_iff_eq.mpr c3
    have c3b1 : (a0_0 != a1_0) = false := bne_eq_false_iff_eq.mpr c3
    clear c3
    have H' := Aside0.mk H
    clear H
    go_enter Try.func82, Try.ntmps82
    go_wp2_with (first | ((with_reducible refine gate_dst (N := 2) rfl ?_); (try (refine gate_guard (by rfl) ?_; dsimp only)); refine box_event ?hg (N := 2) ?hd (cs := #[.int .i64 a0_0, .string a0_1]) (t := 38) ?hr ?_; (case hd => rfl); (case hg => rfl); (case hr => first | (go_simp; done) | (go_simp; rfl)); intro gb101 hg w4 hbox hb; have n0_ := Aside0.mk (below_step (by repeat (first | (with_reducible first | exact HB.out | apply below_alloc | apply pw_below_drewN | apply below_drew1) | exact HB.out)) hb); have n1_ := Aside0.mk (hbox); have n2_ := Aside0.mk ((by rw [hg]; exact (below_size (by repeat (first | (with_reducible first | exact HB.out | apply below_alloc | apply pw_below_drewN | apply below_drew1) | exact HB.out))) : w.heap.size ≤ gb101)); have n3_ := Aside0.mk ((by rw [hg]; exact (below_size (by repeat (first | (with_reducible first | exact HB.out | apply below_alloc | apply pw_below_drewN | apply below_drew1) | exact HB.out))) : w.heap.size ≤ gb101)); clear HB; have HB := n0_; have BK101 := n1_; have GW101 := n2_; have GE101 := n3_; clear n0_ n1_ n2_ n3_; clear hb hbox hg) | ((with_reducible refine gate_dst (N := 3) rfl ?_); (try (refine gate_guard (by rfl) ?_; dsimp only)); refine box_event ?hg (N := 3) ?hd (cs := #[.int .i64 a1_0, .string a1_1]) (t := 38) ?hr ?_; (case hd => rfl); (case hg => rfl); (case hr => first | (go_simp; done) | (go_simp; rfl)); intro gb102 hg w5 hbox hb; have n0_ := Aside0.mk (blk_below (g := gb101) (o := .cells #[.int .i64 a0_0, .string a0_1] 38 (0, 0)) (by (with_reducible repeat (first | refine blk_drewN ?_ _ | refine blk_drew ?_ | refine blk_alloc ?_ _)); exact BK101.out) hb); have n1_ := Aside0.mk (below_step (by repeat (first | (with_reducible first | exact HB.out | apply below_alloc | apply pw_below_drewN | apply below_drew1 | refine below_set ?_ GE101.out) | exact HB.out)) hb); have n2_ := Aside0.mk (hbox); have n3_ := Aside0.mk ((by rw [hg]; exact (below_size (by repeat (first | (with_reducible first | exact HB.out | apply below_alloc | apply pw_below_drewN | apply below_drew1 | refine below_set ?_ GE101.out) | exact HB.out))) : w.heap.size ≤ gb102)); have n4_ := Aside0.mk ((by rw [hg]; exact (below_size (by repeat (first | (with_reducible first | exact HB.out | apply below_alloc | apply pw_below_drewN | apply below_drew1 | refine below_set ?_ GE101.out) | exact HB.out))) : w.heap.size ≤ gb102)); have n5_ := Aside0.mk ((by rw [hg]; exact Nat.ne_of_lt (blk_lt (g := gb101) (o := .cells #[.int .i64 a0_0, .string a0_1] 38 (0, 0)) (by (with_reducible repeat (first | refine blk_drewN ?_ _ | refine blk_drew ?_ | refine blk_alloc ?_ _)); exact BK101.out)) : gb101 ≠ gb102)); have n6_ := Aside0.mk ((by rw [hg]; exact Nat.ne_of_gt (blk_lt (g := gb101) (o := .cells #[.int .i64 a0_0, .string a0_1] 38 (0, 0)) (by (with_reducible repeat (first | refine blk_drewN ?_ _ | refine blk_drew ?_ | refine blk_alloc ?_ _)); exact BK101.out)) : gb102 ≠ gb101)); clear BK101; clear HB; have BK101 := n0_; have HB := n1_; have BK102 := n2_; have GW102 := n3_; have GE102 := n4_; have NB101_102 := n5_; have NB102_101 := n6_; clear n0_ n1_ n2_ n3_ n4_ n5_ n6_; clear hb hbox hg; have hnb6 := NB101_102.out; have hnc6 := NB102_101.out; have hcz7_0 : w5.cell? ⟨gb101, 0, none⟩ = some (.int .i64 a0_0) := (blk_cell BK101.out 0).trans rfl; have hcz7_1 : w5.cell? ⟨gb101, 1, none⟩ = some (.string a0_1) := (blk_cell BK101.out 1).trans rfl; have hfz7_0 := blk_frozen BK101.out 0; have hfz7_1 := blk_frozen BK101.out 1; have hcz8_0 : w5.cell? ⟨gb102, 0, none⟩ = some (.int .i64 a1_0) := (blk_cell BK102.out 0).trans rfl; have hcz8_1 : w5.cell? ⟨gb102, 1, none⟩ = some (.string a1_1) := (blk_cell BK102.out 1).trans rfl; have hfz8_0 := blk_frozen BK102.out 0; have hfz8_1 := blk_frozen BK102.out 1))
    repeat (go_quiet (first | ((with_reducible refine gate_dst (N := 2) rfl ?_); (try (refine gate_guard (by rfl) ?_; dsimp only)); refine box_event ?hg (N := 2) ?hd (cs := #[.int .i64 a0_0, .string a0_1]) (t := 38) ?hr ?_; (case hd => rfl); (case hg => rfl); (case hr => first | (go_simp; done) | (go_simp; rfl)); intro gb101 hg w4 hbox hb; have n0_ := Aside0.mk (below_step (by repeat (first | (with_reducible first | exact HB.out | apply below_alloc | apply pw_below_drewN | apply below_drew1) | exact HB.out)) hb); have n1_ := Aside0.mk (hbox); have n2_ := Aside0.mk ((by rw [hg]; exact (below_size (by repeat (first | (with_reducible first | exact HB.out | apply below_alloc | apply pw_below_drewN | apply below_drew1) | exact HB.out))) : w.heap.size ≤ gb101)); have n3_ := Aside0.mk ((by rw [hg]; exact (below_size (by repeat (first | (with_reducible first | exact HB.out | apply below_alloc | apply pw_below_drewN | apply below_drew1) | exact HB.out))) : w.heap.size ≤ gb101)); clear HB; have HB := n0_; have BK101 := n1_; have GW101 := n2_; have GE101 := n3_; clear n0_ n1_ n2_ n3_; clear hb hbox hg) | ((with_reducible refine gate_dst (N := 3) rfl ?_); (try (refine gate_guard (by rfl) ?_; dsimp only)); refine box_event ?hg (N := 3) ?hd (cs := #[.int .i64 a1_0, .string a1_1]) (t := 38) ?hr ?_; (case hd => rfl); (case hg => rfl); (case hr => first | (go_simp; done) | (go_simp; rfl)); intro gb102 hg w5 hbox hb; have n0_ := Aside0.mk (blk_below (g := gb101) (o := .cells #[.int .i64 a0_0, .string a0_1] 38 (0, 0)) (by (with_reducible repeat (first | refine blk_drewN ?_ _ | refine blk_drew ?_ | refine blk_alloc ?_ _)); exact BK101.out) hb); have n1_ := Aside0.mk (below_step (by repeat (first | (with_reducible first | exact HB.out | apply below_alloc | apply pw_below_drewN | apply below_drew1 | refine below_set ?_ GE101.out) | exact HB.out)) hb); have n2_ := Aside0.mk (hbox); have n3_ := Aside0.mk ((by rw [hg]; exact (below_size (by repeat (first | (with_reducible first | exact HB.out | apply below_alloc | apply pw_below_drewN | apply below_drew1 | refine below_set ?_ GE101.out) | exact HB.out))) : w.heap.size ≤ gb102)); have n4_ := Aside0.mk ((by rw [hg]; exact (below_size (by repeat (first | (with_reducible first | exact HB.out | apply below_alloc | apply pw_below_drewN | apply below_drew1 | refine below_set ?_ GE101.out) | exact HB.out))) : w.heap.size ≤ gb102)); have n5_ := Aside0.mk ((by rw [hg]; exact Nat.ne_of_lt (blk_lt (g := gb101) (o := .cells #[.int .i64 a0_0, .string a0_1] 38 (0, 0)) (by (with_reducible repeat (first | refine blk_drewN ?_ _ | refine blk_drew ?_ | refine blk_alloc ?_ _)); exact BK101.out)) : gb101 ≠ gb102)); have n6_ := Aside0.mk ((by rw [hg]; exact Nat.ne_of_gt (blk_lt (g := gb101) (o := .cells #[.int .i64 a0_0, .string a0_1] 38 (0, 0)) (by (with_reducible repeat (first | refine blk_drewN ?_ _ | refine blk_drew ?_ | refine blk_alloc ?_ _)); exact BK101.out)) : gb102 ≠ gb101)); clear BK101; clear HB; have BK101 := n0_; have HB := n1_; have BK102 := n2_; have GW102 := n3_; have GE102 := n4_; have NB101_102 := n5_; have NB102_101 := n6_; clear n0_ n1_ n2_ n3_ n4_ n5_ n6_; clear hb hbox hg; have hnb6 := NB101_102.out; have hnc6 := NB102_101.out; have hcz7_0 : w5.cell? ⟨gb101, 0, none⟩ = some (.int .i64 a0_0) := (blk_cell BK101.out 0).trans rfl; have hcz7_1 : w5.cell? ⟨gb101, 1, none⟩ = some (.string a0_1) := (blk_cell BK101.out 1).trans rfl; have hfz7_0 := blk_frozen BK101.out 0; have hfz7_1 := blk_frozen BK101.out 1; have hcz8_0 : w5.cell? ⟨gb102, 0, none⟩ = some (.int .i64 a1_0) := (blk_cell BK102.out 0).trans rfl; have hcz8_1 : w5.cell? ⟨gb102, 1, none⟩ = some (.string a1_1) := (blk_cell BK102.out 1).trans rfl; have hfz8_0 := blk_frozen BK102.out 0; have hfz8_1 := blk_frozen BK102.out 1)); try go_wp2_with (first | ((with_reducible refine gate_dst (N := 2) rfl ?_); (try (refine gate_guard (by rfl) ?_; dsimp only)); refine box_event ?hg (N := 2) ?hd (cs := #[.int .i64 a0_0, .string a0_1]) (t := 38) ?hr ?_; (case hd => rfl); (case hg => rfl); (case hr => first | (go_simp; done) | (go_simp; rfl)); intro gb101 hg w4 hbox hb; have n0_ := Aside0.mk (below_step (by repeat (first | (with_reducible first | exact HB.out | apply below_alloc | apply pw_below_drewN | apply below_drew1) | exact HB.out)) hb); have n1_ := Aside0.mk (hbox); have n2_ := Aside0.mk ((by rw [hg]; exact (below_size (by repeat (first | (with_reducible first | exact HB.out | apply below_alloc | apply pw_below_drewN | apply below_drew1) | exact HB.out))) : w.heap.size ≤ gb101)); have n3_ := Aside0.mk ((by rw [hg]; exact (below_size (by repeat (first | (with_reducible first | exact HB.out | apply below_alloc | apply pw_below_drewN | apply below_drew1) | exact HB.out))) : w.heap.size ≤ gb101)); clear HB; have HB := n0_; have BK101 := n1_; have GW101 := n2_; have GE101 := n3_; clear n0_ n1_ n2_ n3_; clear hb hbox hg) | ((with_reducible refine gate_dst (N := 3) rfl ?_); (try (refine gate_guard (by rfl) ?_; dsimp only)); refine box_event ?hg (N := 3) ?hd (cs := #[.int .i64 a1_0, .string a1_1]) (t := 38) ?hr ?_; (case hd => rfl); (case hg => rfl); (case hr => first | (go_simp; done) | (go_simp; rfl)); intro gb102 hg w5 hbox hb; have n0_ := Aside0.mk (blk_below (g := gb101) (o := .cells #[.int .i64 a0_0, .string a0_1] 38 (0, 0)) (by (with_reducible repeat (first | refine blk_drewN ?_ _ | refine blk_drew ?_ | refine blk_alloc ?_ _)); exact BK101.out) hb); have n1_ := Aside0.mk (below_step (by repeat (first | (with_reducible first | exact HB.out | apply below_alloc | apply pw_below_drewN | apply below_drew1 | refine below_set ?_ GE101.out) | exact HB.out)) hb); have n2_ := Aside0.mk (hbox); have n3_ := Aside0.mk ((by rw [hg]; exact (below_size (by repeat (first | (with_reducible first | exact HB.out | apply below_alloc | apply pw_below_drewN | apply below_drew1 | refine below_set ?_ GE101.out) | exact HB.out))) : w.heap.size ≤ gb102)); have n4_ := Aside0.mk ((by rw [hg]; exact (below_size (by repeat (first | (with_reducible first | exact HB.out | apply below_alloc | apply pw_below_drewN | apply below_drew1 | refine below_set ?_ GE101.out) | exact HB.out))) : w.heap.size ≤ gb102)); have n5_ := Aside0.mk ((by rw [hg]; exact Nat.ne_of_lt (blk_lt (g := gb101) (o := .cells #[.int .i64 a0_0, .string a0_1] 38 (0, 0)) (by (with_reducible repeat (first | refine blk_drewN ?_ _ | refine blk_drew ?_ | refine blk_alloc ?_ _)); exact BK101.out)) : gb101 ≠ gb102)); have n6_ := Aside0.mk ((by rw [hg]; exact Nat.ne_of_gt (blk_lt (g := gb101) (o := .cells #[.int .i64 a0_0, .string a0_1] 38 (0, 0)) (by (with_reducible repeat (first | refine blk_drewN ?_ _ | refine blk_drew ?_ | refine blk_alloc ?_ _)); exact BK101.out)) : gb102 ≠ gb101)); clear BK101; clear HB; have BK101 := n0_; have HB := n1_; have BK102 := n2_; have GW102 := n3_; have GE102 := n4_; have NB101_102 := n5_; have NB102_101 := n6_; clear n0_ n1_ n2_ n3_ n4_ n5_ n6_; clear hb hbox hg; have hnb6 := NB101_102.out; have hnc6 := NB102_101.out; have hcz7_0 : w5.cell? ⟨gb101, 0, none⟩ = some (.int .i64 a0_0) := (blk_cell BK101.out 0).trans rfl; have hcz7_1 : w5.cell? ⟨gb101, 1, none⟩ = some (.string a0_1) := (blk_cell BK101.out 1).trans rfl; have hfz7_0 := blk_frozen BK101.out 0; have hfz7_1 := blk_frozen BK101.out 1; have hcz8_0 : w5.cell? ⟨gb102, 0, none⟩ = some (.int .i64 a1_0) := (blk_cell BK102.out 0).trans rfl; have hcz8_1 : w5.cell? ⟨gb102, 1, none⟩ = some (.string a1_1) := (blk_cell BK102.out 1).trans rfl; have hfz8_0 := blk_frozen BK102.out 0; have hfz8_1 := blk_frozen BK102.out 1)))
    go_loopg [5] k (fun kq v5 w' => ∃ (x5_1 : Int), v5 = .int .i64 x5_1 ∧ Aside0 (inkwellref17_Less.l0 kq x5_1 a0_0 a0_1 a1_0 a1_1 = some r) ∧ Aside0 (kq ≤ k) ∧ Aside0 (w'.heap[gb101]? = some (.cells #[.int .i64 a0_0, .string a0_1] 38 (0, 0))) ∧ Aside0 (w'.heap[gb102]? = some (.cells #[.int .i64 a1_0, .string a1_1] 38 (0, 0))) ∧ Aside0 (Below w.heap.size w w'))
    case atStart => exact ⟨(0), (by first | rfl | (simp; done) | (simp [*]; done)), H', ⟨Nat.le_refl _⟩, ⟨by (with_reducible repeat (first | refine blk_drewN ?_ _ | refine blk_drew ?_ | refine blk_alloc ?_ _)); exact BK101.out⟩, ⟨by (with_reducible repeat (first | refine blk_drewN ?_ _ | refine blk_drew ?_ | refine blk_alloc ?_ _)); exact BK102.out⟩, ⟨by repeat (first | (with_reducible first | exact HB.out | apply below_alloc | apply pw_below_drewN | apply below_drew1 | refine below_set ?_ GE101.out | refine below_set ?_ GE102.out) | exact HB.out)⟩⟩
    case round =>
      clear H'
      try clear p2
      try clear c3
      try clear c3b0
      try clear c3b1
      try clear c6
      try clear c8
      try clear hcz7_0
      try clear hcz7_1
      try clear hcz8_0
      try clear hcz8_1
      try clear hfz7_0
      try clear hfz7_1
      try clear hfz8_0
      try clear hfz8_1
      obtain ⟨x5_1, rfl, HA, HK1, BK101, BK102, HB⟩ := hrel
      cases gk with
      | zero => exact absurd HA.out (by simp [inkwellref17_Less.l0])
      | succ k1 =>
        have H := HA.out
        clear HA
        simp only [inkwellref17_Less.l0] at H
        have HC9 := Aside0.mk H
        clear H
        go_upto_region 4 with (fail)
        repeat (go_quiet (fail); go_upto_region 4 with (fail))
        go_cut [27] (fun v27 wc => ∃ (kq : Nat) (x27_8 : Bool), v27 = .bool x27_8 ∧ Aside0 (inkwellref17_Less.j1 kq x5_1 x27_8 a0_0 a0_1 a1_0 a1_1 = some r) ∧ Aside0 (kq ≤ k1) ∧ Aside0 (wc.heap[gb101]? = some (.cells #[.int .i64 a0_0, .string a0_1] 38 (0, 0))) ∧ Aside0 (wc.heap[gb102]? = some (.cells #[.int .i64 a1_0, .string a1_1] 38 (0, 0))) ∧ Aside0 (Below w.heap.size w wc))
        case first =>
          have H := HC9.out
          clear HC9
          by_cases c10 : x5_1 < (a0_1.size : Int)
          · rw [if_pos c10] at H
            have c10b0 : decide (x5_1 < (a0_1.size : Int)) = true := decide_eq_true c10
            clear c10
            (first | rw [c10b0] | (simp only [i64_w, i32_w]; rw [c10b0]) | skip)
            have H' := Aside0.mk H
            clear H
            have hnb11 := NB101_102.out
            have hnc11 := NB102_101.out
            have hcz12_0 : wr.cell? ⟨gb101, 0, none⟩ = some (.int .i64 a0_0) := (blk_cell BK101.out 0).trans rfl
            have hcz12_1 : wr.cell? ⟨gb101, 1, none⟩ = some (.string a0_1) := (blk_cell BK101.out 1).trans rfl
            have hfz12_0 := blk_frozen BK101.out 0
            have hfz12_1 := blk_frozen BK101.out 1
            have hcz13_0 : wr.cell? ⟨gb102, 0, none⟩ = some (.int .i64 a1_0) := (blk_cell BK102.out 0).trans rfl
            have hcz13_1 : wr.cell? ⟨gb102, 1, none⟩ = some (.string a1_1) := (blk_cell BK102.out 1).trans rfl
            have hfz13_0 := blk_frozen BK102.out 0
            have hfz13_1 := blk_frozen BK102.out 1
            go_wp2
            repeat (go_quiet (fail); try go_wp2)
            go_meet
            case rel => exact ⟨_, (decide (x5_1 < (a1_1.size : Int))), (by first | rfl | (simp; done) | (simp [*]; done)), H', ⟨by have := HK1.out; first | omega | exact Nat.le_refl _⟩, ⟨by (with_reducible repeat (first | refine blk_drewN ?_ _ | refine blk_drew ?_ | refine blk_alloc ?_ _)); exact BK101.out⟩, ⟨by (with_reducible repeat (first | refine blk_drewN ?_ _ | refine blk_drew ?_ | refine blk_alloc ?_ _)); exact BK102.out⟩, ⟨by repeat (first | (with_reducible first | exact HB.out | apply below_alloc | apply pw_below_drewN | apply below_drew1 | refine below_set ?_ GE101.out | refine below_set ?_ GE102.out) | exact HB.out)⟩⟩
          · rw [if_neg c10] at H
            have c10b0 : decide (x5_1 < (a0_1.size : Int)) = false := decide_eq_false c10
            clear c10
            (first | rw [c10b0] | (simp only [i64_w, i32_w]; rw [c10b0]) | skip)
            have H' := Aside0.mk H
            clear H
            have hnb14 := NB101_102.out
            have hnc14 := NB102_101.out
            have hcz15_0 : wr.cell? ⟨gb101, 0, none⟩ = some (.int .i64 a0_0) := (blk_cell BK101.out 0).trans rfl
            have hcz15_1 : wr.cell? ⟨gb101, 1, none⟩ = some (.string a0_1) := (blk_cell BK101.out 1).trans rfl
            have hfz15_0 := blk_frozen BK101.out 0
            have hfz15_1 := blk_frozen BK101.out 1
            go_wp2
            repeat (go_quiet (fail); try go_wp2)
            go_meet
            case rel => exact ⟨_, (false), (by first | rfl | (simp; done) | (simp [*]; done)), H', ⟨by have := HK1.out; first | omega | exact Nat.le_refl _⟩, ⟨by (with_reducible repeat (first | refine blk_drewN ?_ _ | refine blk_drew ?_ | refine blk_alloc ?_ _)); exact BK101.out⟩, ⟨by (with_reducible repeat (first | refine blk_drewN ?_ _ | refine blk_drew ?_ | refine blk_alloc ?_ _)); exact BK102.out⟩, ⟨by repeat (first | (with_reducible first | exact HB.out | apply below_alloc | apply pw_below_drewN | apply below_drew1 | refine below_set ?_ GE101.out | refine below_set ?_ GE102.out) | exact HB.out)⟩⟩
        case rest =>
          clear HC9
          try clear c1
          try clear p2
          try clear c3
          try clear c3b0
          try clear c3b1
          try clear c6
          try clear c8
          try clear c10
          try clear c10b0
          try clear c11
          try clear c14
          try clear hcz12_0
          try clear hcz12_1
          try clear hcz13_0
          try clear hcz13_1
          try clear hcz15_0
          try clear hcz15_1
          try clear hcz7_0
          try clear hcz7_1
          try clear hcz8_0
          try clear hcz8_1
          try clear hfz12_0
          try clear hfz12_1
          try clear hfz13_0
          try clear hfz13_1
          try clear hfz15_0
          try clear hfz15_1
          try clear hfz7_0
          try clear hfz7_1
          try clear hfz8_0
          try clear hfz8_1
          try clear p2
          obtain ⟨kq, x27_8, rfl, HA, HJ8, BK101, BK102, HB⟩ := hcut
          cases kq with
          | zero => exact absurd HA.out (by simp [inkwellref17_Less.j1])
          | succ kj8 =>
            have H := HA.out
            clear HA
            simp only [inkwellref17_Less.j1] at H
            by_cases c16 : x27_8 = true
            · subst c16
              have H1 : (if 0 ≤ x5_1 then (if x5_1 < (a0_1.size : Int) then (if x5_1 < (a1_1.size : Int) then (if (bt a0_1 x5_1) = (bt a1_1 x5_1) then (inkwellref17_Less.l0 kj8 (wrap64 (x5_1 + 1)) a0_0 a0_1 a1_0 a1_1) else (some (decide ((bt a0_1 x5_1) < (bt a1_1 x5_1))))) else (none)) else (none)) else (none)) = some r := by rw [if_pos rfl] at H; exact H
              clear H
              have H := H1
              clear H1
              by_cases c17 : 0 ≤ x5_1
              · rw [if_pos c17] at H
                have c17b0 : decide (0 ≤ x5_1) = true := decide_eq_true c17
                clear c17
                by_cases c18 : x5_1 < (a0_1.size : Int)
                · rw [if_pos c18] at H
                  have c18b0 : decide (x5_1 < (a0_1.size : Int)) = true := decide_eq_true c18
                  clear c18
                  by_cases c20 : x5_1 < (a1_1.size : Int)
                  · rw [if_pos c20] at H
                    have c20b0 : decide (x5_1 < (a1_1.size : Int)) = true := decide_eq_true c20
                    clear c20
                    by_cases c22 : (bt a0_1 x5_1) = (bt a1_1 x5_1)
                    · rw [if_pos c22] at H
                      have c22b0 : ((bt a0_1 x5_1) == (bt a1_1 x5_1)) = true := beq_iff_eq.mpr c22
                      have c22b1 : ((bt a0_1 x5_1) != (bt a1_1 x5_1)) = false := bne_eq_false_iff_eq.mpr c22
                      clear c22
                      have H' := Aside0.mk H
                      clear H
                      have hnb23 := NB101_102.out
                      have hnc23 := NB102_101.out
                      have hcz24_0 : wc.cell? ⟨gb101, 0, none⟩ = some (.int .i64 a0_0) := (blk_cell BK101.out 0).trans rfl
                      have hcz24_1 : wc.cell? ⟨gb101, 1, none⟩ = some (.string a0_1) := (blk_cell BK101.out 1).trans rfl
                      have hfz24_0 := blk_frozen BK101.out 0
                      have hfz24_1 := blk_frozen BK101.out 1
                      have p19 : 0 ≤ (x5_1 : Int) := of_decide_eq_true (by first | (with_reducible assumption) | assumption)
                      have q19 : x5_1 < (a0_1.size : Int) := of_decide_eq_true (by first | (with_reducible assumption) | assumption)
                      have hx19 := bt_at a0_1 x5_1
                      replace p19 := eq_true p19
                      replace q19 := eq_true q19
                      have hcz25_0 : wc.cell? ⟨gb102, 0, none⟩ = some (.int .i64 a1_0) := (blk_cell BK102.out 0).trans rfl
                      have hcz25_1 : wc.cell? ⟨gb102, 1, none⟩ = some (.string a1_1) := (blk_cell BK102.out 1).trans rfl
                      have hfz25_0 := blk_frozen BK102.out 0
                      have hfz25_1 := blk_frozen BK102.out 1
                      have p21 : 0 ≤ (x5_1 : Int) := of_decide_eq_true (by first | (with_reducible assumption) | assumption)
                      have q21 : x5_1 < (a1_1.size : Int) := of_decide_eq_true (by first | (with_reducible assumption) | assumption)
                      have hx21 := bt_at a1_1 x5_1
                      replace p21 := eq_true p21
                      replace q21 := eq_true q21
                      go_wp2
                      repeat (go_quiet (fail); try go_wp2)
                      go_roundg kj8
                      case measure => have := HK1.out; have := HJ8.out; omega
                      case rel => exact ⟨(wrap64 (x5_1 + 1)), (by first | rfl | (simp; done) | (simp [*]; done)), H', ⟨by have := HK1.out; have := HJ8.out; omega⟩, ⟨by (with_reducible repeat (first | refine blk_drewN ?_ _ | refine blk_drew ?_ | refine blk_alloc ?_ _)); exact BK101.out⟩, ⟨by (with_reducible repeat (first | refine blk_drewN ?_ _ | refine blk_drew ?_ | refine blk_alloc ?_ _)); exact BK102.out⟩, ⟨by repeat (first | (with_reducible first | exact HB.out | apply below_alloc | apply pw_below_drewN | apply below_drew1 | refine below_set ?_ GE101.out | refine below_set ?_ GE102.out) | exact HB.out)⟩⟩
                    · rw [if_neg c22] at H
                      have c22b0 : ((bt a0_1 x5_1) == (bt a1_1 x5_1)) = false := beq_eq_false_iff_ne.mpr c22
                      have c22b1 : ((bt a0_1 x5_1) != (bt a1_1 x5_1)) = true := bne_iff_ne.mpr c22
                      obtain rfl := Option.some.inj H
                      have hnb28 := NB101_102.out
                      have hnc28 := NB102_101.out
                      have hcz29_0 : wc.cell? ⟨gb101, 0, none⟩ = some (.int .i64 a0_0) := (blk_cell BK101.out 0).trans rfl
                      have hcz29_1 : wc.cell? ⟨gb101, 1, none⟩ = some (.string a0_1) := (blk_cell BK101.out 1).trans rfl
                      have hfz29_0 := blk_frozen BK101.out 0
                      have hfz29_1 := blk_frozen BK101.out 1
                      have p19 : 0 ≤ (x5_1 : Int) := of_decide_eq_true (by first | (with_reducible assumption) | assumption)
                      have q19 : x5_1 < (a0_1.size : Int) := of_decide_eq_true (by first | (with_reducible assumption) | assumption)
                      have hx19 := bt_at a0_1 x5_1
                      replace p19 := eq_true p19
                      replace q19 := eq_true q19
                      have hcz30_0 : wc.cell? ⟨gb102, 0, none⟩ = some (.int .i64 a1_0) := (blk_cell BK102.out 0).trans rfl
                      have hcz30_1 : wc.cell? ⟨gb102, 1, none⟩ = some (.string a1_1) := (blk_cell BK102.out 1).trans rfl
                      have hfz30_0 := blk_frozen BK102.out 0
                      have hfz30_1 := blk_frozen BK102.out 1
                      have p21 : 0 ≤ (x5_1 : Int) := of_decide_eq_true (by first | (with_reducible assumption) | assumption)
                      have q21 : x5_1 < (a1_1.size : Int) := of_decide_eq_true (by first | (with_reducible assumption) | assumption)
                      have hx21 := bt_at a1_1 x5_1
                      replace p21 := eq_true p21
                      replace q21 := eq_true q21
                      have p26 : 0 ≤ (x5_1 : Int) := of_decide_eq_true (by first | (with_reducible assumption) | assumption)
                      have q26 : x5_1 < (a0_1.size : Int) := of_decide_eq_true (by first | (with_reducible assumption) | assumption)
                      have hx26 := bt_at a0_1 x5_1
                      replace p26 := eq_true p26
                      replace q26 := eq_true q26
                      have p27 : 0 ≤ (x5_1 : Int) := of_decide_eq_true (by first | (with_reducible assumption) | assumption)
                      have q27 : x5_1 < (a1_1.size : Int) := of_decide_eq_true (by first | (with_reducible assumption) | assumption)
                      have hx27 := bt_at a1_1 x5_1
                      replace p27 := eq_true p27
                      replace q27 := eq_true q27
                      go_wp2
                      repeat (go_quiet (fail); try go_wp2)
                      go_ret
                      exact ⟨by first | rfl | (simp [errW_none, errW_some] <;> rfl) | (simp [*, errW_none, errW_some] <;> rfl), by repeat (first | (with_reducible first | exact HB.out | apply below_alloc | apply pw_below_drewN | apply below_drew1 | refine below_set ?_ GE101.out | refine below_set ?_ GE102.out) | exact HB.out)⟩
                  · rw [if_neg c20] at H
                    exact absurd H (by simp)
                · rw [if_neg c18] at H
                  exact absurd H (by simp)
              · rw [if_neg c17] at H
                exact absurd H (by simp)
            · replace c16 := Bool.eq_false_iff.mpr c16
              subst c16
              have H1 : (some (decide ((a0_1.size : Int) < (a1_1.size : Int)))) = some r := by rw [if_neg (show ¬ (false = true) by decide)] at H; exact H
              clear H
              have H := H1
              clear H1
              obtain rfl := Option.some.inj H
              have hnb31 := NB101_102.out
              have hnc31 := NB102_101.out
              have hcz32_0 : wc.cell? ⟨gb101, 0, none⟩ = some (.int .i64 a0_0) := (blk_cell BK101.out 0).trans rfl
              have hcz32_1 : wc.cell? ⟨gb101, 1, none⟩ = some (.string a0_1) := (blk_cell BK101.out 1).trans rfl
              have hfz32_0 := blk_frozen BK101.out 0
              have hfz32_1 := blk_frozen BK101.out 1
              have hcz33_0 : wc.cell? ⟨gb102, 0, none⟩ = some (.int .i64 a1_0) := (blk_cell BK102.out 0).trans rfl
              have hcz33_1 : wc.cell? ⟨gb102, 1, none⟩ = some (.string a1_1) := (blk_cell BK102.out 1).trans rfl
              have hfz33_0 := blk_frozen BK102.out 0
              have hfz33_1 := blk_frozen BK102.out 1
              go_wp2
              repeat (go_quiet (fail); try go_wp2)
              go_ret
              exact ⟨by first | rfl | (simp [errW_none, errW_some] <;> rfl) | (simp [*, errW_none, errW_some] <;> rfl), by repeat (first | (with_reducible first | exact HB.out | apply below_alloc | apply pw_below_drewN | apply below_drew1 | refine below_set ?_ GE101.out | refine below_set ?_ GE102.out) | exact HB.out)⟩
  · rw [if_neg c3] at H
    have c3b0 : (a0_0 == a1_0) = false := beq_eq_false_iff_ne.mpr c3
    have c3b1 : (a0_0 != a1_0) = true := bne_iff_ne.mpr c3
    obtain rfl := Option.some.inj H
    go_enter Try.func82, Try.ntmps82
    go_wp2_with (first | ((with_reducible refine gate_dst (N := 2) rfl ?_); (try (refine gate_guard (by rfl) ?_; dsimp only)); refine box_event ?hg (N := 2) ?hd (cs := #[.int .i64 a0_0, .string a0_1]) (t := 38) ?hr ?_; (case hd => rfl); (case hg => rfl); (case hr => first | (go_simp; done) | (go_simp; rfl)); intro gb101 hg w34 hbox hb; have n0_ := Aside0.mk (below_step (by repeat (first | (with_reducible first | exact HB.out | apply below_alloc | apply pw_below_drewN | apply below_drew1) | exact HB.out)) hb); have n1_ := Aside0.mk (hbox); have n2_ := Aside0.mk ((by rw [hg]; exact (below_size (by repeat (first | (with_reducible first | exact HB.out | apply below_alloc | apply pw_below_drewN | apply below_drew1) | exact HB.out))) : w.heap.size ≤ gb101)); have n3_ := Aside0.mk ((by rw [hg]; exact (below_size (by repeat (first | (with_reducible first | exact HB.out | apply below_alloc | apply pw_below_drewN | apply below_drew1) | exact HB.out))) : w.heap.size ≤ gb101)); clear HB; have HB := n0_; have BK101 := n1_; have GW101 := n2_; have GE101 := n3_; clear n0_ n1_ n2_ n3_; clear hb hbox hg) | ((with_reducible refine gate_dst (N := 3) rfl ?_); (try (refine gate_guard (by rfl) ?_; dsimp only)); refine box_event ?hg (N := 3) ?hd (cs := #[.int .i64 a1_0, .string a1_1]) (t := 38) ?hr ?_; (case hd => rfl); (case hg => rfl); (case hr => first | (go_simp; done) | (go_simp; rfl)); intro gb102 hg w35 hbox hb; have n0_ := Aside0.mk (blk_below (g := gb101) (o := .cells #[.int .i64 a0_0, .string a0_1] 38 (0, 0)) (by (with_reducible repeat (first | refine blk_drewN ?_ _ | refine blk_drew ?_ | refine blk_alloc ?_ _)); exact BK101.out) hb); have n1_ := Aside0.mk (below_step (by repeat (first | (with_reducible first | exact HB.out | apply below_alloc | apply pw_below_drewN | apply below_drew1 | refine below_set ?_ GE101.out) | exact HB.out)) hb); have n2_ := Aside0.mk (hbox); have n3_ := Aside0.mk ((by rw [hg]; exact (below_size (by repeat (first | (with_reducible first | exact HB.out | apply below_alloc | apply pw_below_drewN | apply below_drew1 | refine below_set ?_ GE101.out) | exact HB.out))) : w.heap.size ≤ gb102)); have n4_ := Aside0.mk ((by rw [hg]; exact (below_size (by repeat (first | (with_reducible first | exact HB.out | apply below_alloc | apply pw_below_drewN | apply below_drew1 | refine below_set ?_ GE101.out) | exact HB.out))) : w.heap.size ≤ gb102)); have n5_ := Aside0.mk ((by rw [hg]; exact Nat.ne_of_lt (blk_lt (g := gb101) (o := .cells #[.int .i64 a0_0, .string a0_1] 38 (0, 0)) (by (with_reducible repeat (first | refine blk_drewN ?_ _ | refine blk_drew ?_ | refine blk_alloc ?_ _)); exact BK101.out)) : gb101 ≠ gb102)); have n6_ := Aside0.mk ((by rw [hg]; exact Nat.ne_of_gt (blk_lt (g := gb101) (o := .cells #[.int .i64 a0_0, .string a0_1] 38 (0, 0)) (by (with_reducible repeat (first | refine blk_drewN ?_ _ | refine blk_drew ?_ | refine blk_alloc ?_ _)); exact BK101.out)) : gb102 ≠ gb101)); clear BK101; clear HB; have BK101 := n0_; have HB := n1_; have BK102 := n2_; have GW102 := n3_; have GE102 := n4_; have NB101_102 := n5_; have NB102_101 := n6_; clear n0_ n1_ n2_ n3_ n4_ n5_ n6_; clear hb hbox hg; have hnb36 := NB101_102.out; have hnc36 := NB102_101.out; have hcz37_0 : w35.cell? ⟨gb101, 0, none⟩ = some (.int .i64 a0_0) := (blk_cell BK101.out 0).trans rfl; have hcz37_1 : w35.cell? ⟨gb101, 1, none⟩ = some (.string a0_1) := (blk_cell BK101.out 1).trans rfl; have hfz37_0 := blk_frozen BK101.out 0; have hfz37_1 := blk_frozen BK101.out 1; have hcz38_0 : w35.cell? ⟨gb102, 0, none⟩ = some (.int .i64 a1_0) := (blk_cell BK102.out 0).trans rfl; have hcz38_1 : w35.cell? ⟨gb102, 1, none⟩ = some (.string a1_1) := (blk_cell BK102.out 1).trans rfl; have hfz38_0 := blk_frozen BK102.out 0; have hfz38_1 := blk_frozen BK102.out 1))
    repeat (go_quiet (first | ((with_reducible refine gate_dst (N := 2) rfl ?_); (try (refine gate_guard (by rfl) ?_; dsimp only)); refine box_event ?hg (N := 2) ?hd (cs := #[.int .i64 a0_0, .string a0_1]) (t := 38) ?hr ?_; (case hd => rfl); (case hg => rfl); (case hr => first | (go_simp; done) | (go_simp; rfl)); intro gb101 hg w34 hbox hb; have n0_ := Aside0.mk (below_step (by repeat (first | (with_reducible first | exact HB.out | apply below_alloc | apply pw_below_drewN | apply below_drew1) | exact HB.out)) hb); have n1_ := Aside0.mk (hbox); have n2_ := Aside0.mk ((by rw [hg]; exact (below_size (by repeat (first | (with_reducible first | exact HB.out | apply below_alloc | apply pw_below_drewN | apply below_drew1) | exact HB.out))) : w.heap.size ≤ gb101)); have n3_ := Aside0.mk ((by rw [hg]; exact (below_size (by repeat (first | (with_reducible first | exact HB.out | apply below_alloc | apply pw_below_drewN | apply below_drew1) | exact HB.out))) : w.heap.size ≤ gb101)); clear HB; have HB := n0_; have BK101 := n1_; have GW101 := n2_; have GE101 := n3_; clear n0_ n1_ n2_ n3_; clear hb hbox hg) | ((with_reducible refine gate_dst (N := 3) rfl ?_); (try (refine gate_guard (by rfl) ?_; dsimp only)); refine box_event ?hg (N := 3) ?hd (cs := #[.int .i64 a1_0, .string a1_1]) (t := 38) ?hr ?_; (case hd => rfl); (case hg => rfl); (case hr => first | (go_simp; done) | (go_simp; rfl)); intro gb102 hg w35 hbox hb; have n0_ := Aside0.mk (blk_below (g := gb101) (o := .cells #[.int .i64 a0_0, .string a0_1] 38 (0, 0)) (by (with_reducible repeat (first | refine blk_drewN ?_ _ | refine blk_drew ?_ | refine blk_alloc ?_ _)); exact BK101.out) hb); have n1_ := Aside0.mk (below_step (by repeat (first | (with_reducible first | exact HB.out | apply below_alloc | apply pw_below_drewN | apply below_drew1 | refine below_set ?_ GE101.out) | exact HB.out)) hb); have n2_ := Aside0.mk (hbox); have n3_ := Aside0.mk ((by rw [hg]; exact (below_size (by repeat (first | (with_reducible first | exact HB.out | apply below_alloc | apply pw_below_drewN | apply below_drew1 | refine below_set ?_ GE101.out) | exact HB.out))) : w.heap.size ≤ gb102)); have n4_ := Aside0.mk ((by rw [hg]; exact (below_size (by repeat (first | (with_reducible first | exact HB.out | apply below_alloc | apply pw_below_drewN | apply below_drew1 | refine below_set ?_ GE101.out) | exact HB.out))) : w.heap.size ≤ gb102)); have n5_ := Aside0.mk ((by rw [hg]; exact Nat.ne_of_lt (blk_lt (g := gb101) (o := .cells #[.int .i64 a0_0, .string a0_1] 38 (0, 0)) (by (with_reducible repeat (first | refine blk_drewN ?_ _ | refine blk_drew ?_ | refine blk_alloc ?_ _)); exact BK101.out)) : gb101 ≠ gb102)); have n6_ := Aside0.mk ((by rw [hg]; exact Nat.ne_of_gt (blk_lt (g := gb101) (o := .cells #[.int .i64 a0_0, .string a0_1] 38 (0, 0)) (by (with_reducible repeat (first | refine blk_drewN ?_ _ | refine blk_drew ?_ | refine blk_alloc ?_ _)); exact BK101.out)) : gb102 ≠ gb101)); clear BK101; clear HB; have BK101 := n0_; have HB := n1_; have BK102 := n2_; have GW102 := n3_; have GE102 := n4_; have NB101_102 := n5_; have NB102_101 := n6_; clear n0_ n1_ n2_ n3_ n4_ n5_ n6_; clear hb hbox hg; have hnb36 := NB101_102.out; have hnc36 := NB102_101.out; have hcz37_0 : w35.cell? ⟨gb101, 0, none⟩ = some (.int .i64 a0_0) := (blk_cell BK101.out 0).trans rfl; have hcz37_1 : w35.cell? ⟨gb101, 1, none⟩ = some (.string a0_1) := (blk_cell BK101.out 1).trans rfl; have hfz37_0 := blk_frozen BK101.out 0; have hfz37_1 := blk_frozen BK101.out 1; have hcz38_0 : w35.cell? ⟨gb102, 0, none⟩ = some (.int .i64 a1_0) := (blk_cell BK102.out 0).trans rfl; have hcz38_1 : w35.cell? ⟨gb102, 1, none⟩ = some (.string a1_1) := (blk_cell BK102.out 1).trans rfl; have hfz38_0 := blk_frozen BK102.out 0; have hfz38_1 := blk_frozen BK102.out 1)); try go_wp2_with (first | ((with_reducible refine gate_dst (N := 2) rfl ?_); (try (refine gate_guard (by rfl) ?_; dsimp only)); refine box_event ?hg (N := 2) ?hd (cs := #[.int .i64 a0_0, .string a0_1]) (t := 38) ?hr ?_; (case hd => rfl); (case hg => rfl); (case hr => first | (go_simp; done) | (go_simp; rfl)); intro gb101 hg w34 hbox hb; have n0_ := Aside0.mk (below_step (by repeat (first | (with_reducible first | exact HB.out | apply below_alloc | apply pw_below_drewN | apply below_drew1) | exact HB.out)) hb); have n1_ := Aside0.mk (hbox); have n2_ := Aside0.mk ((by rw [hg]; exact (below_size (by repeat (first | (with_reducible first | exact HB.out | apply below_alloc | apply pw_below_drewN | apply below_drew1) | exact HB.out))) : w.heap.size ≤ gb101)); have n3_ := Aside0.mk ((by rw [hg]; exact (below_size (by repeat (first | (with_reducible first | exact HB.out | apply below_alloc | apply pw_below_drewN | apply below_drew1) | exact HB.out))) : w.heap.size ≤ gb101)); clear HB; have HB := n0_; have BK101 := n1_; have GW101 := n2_; have GE101 := n3_; clear n0_ n1_ n2_ n3_; clear hb hbox hg) | ((with_reducible refine gate_dst (N := 3) rfl ?_); (try (refine gate_guard (by rfl) ?_; dsimp only)); refine box_event ?hg (N := 3) ?hd (cs := #[.int .i64 a1_0, .string a1_1]) (t := 38) ?hr ?_; (case hd => rfl); (case hg => rfl); (case hr => first | (go_simp; done) | (go_simp; rfl)); intro gb102 hg w35 hbox hb; have n0_ := Aside0.mk (blk_below (g := gb101) (o := .cells #[.int .i64 a0_0, .string a0_1] 38 (0, 0)) (by (with_reducible repeat (first | refine blk_drewN ?_ _ | refine blk_drew ?_ | refine blk_alloc ?_ _)); exact BK101.out) hb); have n1_ := Aside0.mk (below_step (by repeat (first | (with_reducible first | exact HB.out | apply below_alloc | apply pw_below_drewN | apply below_drew1 | refine below_set ?_ GE101.out) | exact HB.out)) hb); have n2_ := Aside0.mk (hbox); have n3_ := Aside0.mk ((by rw [hg]; exact (below_size (by repeat (first | (with_reducible first | exact HB.out | apply below_alloc | apply pw_below_drewN | apply below_drew1 | refine below_set ?_ GE101.out) | exact HB.out))) : w.heap.size ≤ gb102)); have n4_ := Aside0.mk ((by rw [hg]; exact (below_size (by repeat (first | (with_reducible first | exact HB.out | apply below_alloc | apply pw_below_drewN | apply below_drew1 | refine below_set ?_ GE101.out) | exact HB.out))) : w.heap.size ≤ gb102)); have n5_ := Aside0.mk ((by rw [hg]; exact Nat.ne_of_lt (blk_lt (g := gb101) (o := .cells #[.int .i64 a0_0, .string a0_1] 38 (0, 0)) (by (with_reducible repeat (first | refine blk_drewN ?_ _ | refine blk_drew ?_ | refine blk_alloc ?_ _)); exact BK101.out)) : gb101 ≠ gb102)); have n6_ := Aside0.mk ((by rw [hg]; exact Nat.ne_of_gt (blk_lt (g := gb101) (o := .cells #[.int .i64 a0_0, .string a0_1] 38 (0, 0)) (by (with_reducible repeat (first | refine blk_drewN ?_ _ | refine blk_drew ?_ | refine blk_alloc ?_ _)); exact BK101.out)) : gb102 ≠ gb101)); clear BK101; clear HB; have BK101 := n0_; have HB := n1_; have BK102 := n2_; have GW102 := n3_; have GE102 := n4_; have NB101_102 := n5_; have NB102_101 := n6_; clear n0_ n1_ n2_ n3_ n4_ n5_ n6_; clear hb hbox hg; have hnb36 := NB101_102.out; have hnc36 := NB102_101.out; have hcz37_0 : w35.cell? ⟨gb101, 0, none⟩ = some (.int .i64 a0_0) := (blk_cell BK101.out 0).trans rfl; have hcz37_1 : w35.cell? ⟨gb101, 1, none⟩ = some (.string a0_1) := (blk_cell BK101.out 1).trans rfl; have hfz37_0 := blk_frozen BK101.out 0; have hfz37_1 := blk_frozen BK101.out 1; have hcz38_0 : w35.cell? ⟨gb102, 0, none⟩ = some (.int .i64 a1_0) := (blk_cell BK102.out 0).trans rfl; have hcz38_1 : w35.cell? ⟨gb102, 1, none⟩ = some (.string a1_1) := (blk_cell BK102.out 1).trans rfl; have hfz38_0 := blk_frozen BK102.out 0; have hfz38_1 := blk_frozen BK102.out 1)))
    go_ret
    exact ⟨by first | rfl | (simp [errW_none, errW_some] <;> rfl) | (simp [*, errW_none, errW_some] <;> rfl), by repeat (first | (with_reducible first | exact HB.out | apply below_alloc | apply pw_below_drewN | apply below_drew1 | refine below_set ?_ GE101.out | refine below_set ?_ GE102.out) | exact HB.out)⟩

end Go.Proofs.Ytamihmofmjkfoaa.Q
end
