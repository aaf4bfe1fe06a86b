/- Appends to rows of bytes of the call's own, as steps of a walk. No program in sight. -/
import Derived.Test.YtamihmofmjkfoaaXWorld
set_option linter.unusedVariables false
namespace Go.Proofs.Ytamihmofmjkfoaa.X
open Go.RowKit Go.Proofs.YtamihmofmjkfoaaW.PrintWords Go.Proofs.YtamihmofmjkfoaaW.PrintLast Go.Proofs.YtamihmofmjkfoaaW.PrintMore
section
variable {P : Program} {ops : Array Oper} {rest : List Oper} {o : Oper} {a : Act} {Q : Exit → Act → World → Prop} {W : World}
/-- append(v, y...), y a text. -/
theorem wp_app_str (base : Nat) (hgd : o.guard = none) (s x : Operand) (t u e : TypeId)
    (ho : o.op = .call { callee := .builtin .append, args := #[s, x], argTypes := #[t, u] })
    (ht : P.underlying t = some (.slice e)) (hu : P.underlying u = some .string) (hinfo : (P.info? e).map (fun i => (i.zero, i.size, i.bytes)) = some (some (.int .u8 0), 1, 1))
    (v : Value) (xs : List Int) (y : ByteArray) (hs : a.eval s = v) (hx : a.eval x = .string y) (HO : (Kd.int .u8).R e W base (fun _ => True) v xs) (hbase : base ≤ W.heap.size) (hl : xs.length + y.size ≤ 140737488355328)
    (h : ∀ v1 w1, (Kd.int .u8).R e w1 base (fun _ => True) v1 (xs ++ bytesOf y) → W.grownBy w1 v.ownBlock → wpList P ops Q rest (a.put o.dst v1) w1) : wpList P ops Q (o :: rest) a W :=
  print_append_str (w0 := W) base hgd s x t u e ho ht hu hinfo v xs y hs hx (Kd.own_of_R HO) (Below.refl _ _) hbase hl (fun v1 w1 h1 _ h3 => h v1 w1 (Kd.R_of_own h1 (fun _ _ => trivial)) h3)
/-- append(v, ys...), ys a row of bytes that is read. -/
theorem wp_app_bytes (base : Nat) (hgd : o.guard = none) (s x : Operand) (t e : TypeId)
    (ho : o.op = .call { callee := .builtin .append, args := #[s, x], argTypes := #[t, t] })
    (ht : P.underlying t = some (.slice e)) (hinfo : (P.info? e).map (fun i => (i.zero, i.size, i.bytes)) = some (some (.int .u8 0), 1, 1))
    (v : Value) (xs ys : List Int) (A : Option Addr) (c : Nat) (hs : a.eval s = v) (hx : a.eval x = .slice A ys.length c) (HO : (Kd.int .u8).R e W base (fun _ => True) v xs) (HC : (Kd.int .u8).C W A ys.length ys) (hbase : base ≤ W.heap.size) (hl : xs.length + ys.length ≤ 140737488355328)
    (h : ∀ v1 w1, (Kd.int .u8).R e w1 base (fun _ => True) v1 (xs ++ ys) → W.grownBy w1 v.ownBlock → wpList P ops Q rest (a.put o.dst v1) w1) : wpList P ops Q (o :: rest) a W :=
  Kd.R_append_row (Value.int .u8) (0 : Int) (h1 := fun _ => rfl) (w0 := W) base hgd s x t e (.int .u8 0) 1 ho ht hinfo rfl (by omega) v xs ys A ys.length c (fun _ => True) hs hx (fun _ _ => trivial) HO HC (Below.refl _ _) hbase (by omega) (fun v1 w1 h1 _ h3 _ => h v1 w1 h1 h3)
end
end Go.Proofs.Ytamihmofmjkfoaa.X
