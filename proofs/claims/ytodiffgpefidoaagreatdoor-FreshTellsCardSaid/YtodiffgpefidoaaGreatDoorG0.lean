/- Slimmed by wip/slim.py. -/
import Derived.Test.YtodiffgpefidoaaGreatDoorProg
import Derived.Below
import Derived.Deep.Draws
import Derived.Deep.AppendLies
import Derived.Maps.AppendAt
import Derived.OwnWalk
import Derived.Laws.BytesArg
import Derived.Laws.MakeOwn
import Derived.Laws.OwnMore
import Derived.Deep.OwnRows
import Derived.Tactics
import Derived.Lib.ConvBytes
import Derived.Laws.Slices
import Derived.WalkKit
import Derived.KernelRfl
import Derived.RowKit3
import Derived.Deep.LoopGhost
import Derived.Deep.QuietTactic
import Derived.BigQuiet
import Derived.WideLaws
import Derived.Deep.DeepCutAuto
import Derived.Deep.CutBlock
import Derived.Deep.RegionHeld3
import Derived.Laws.Rows
import Derived.Lib.AppendStr
import Derived.ArgAppend
import Derived.Laws.IdiomCopy
import Derived.OrdersHeld
import Derived.Laws.BitsLemmas
import Derived.RowKit
import Derived.Test.YtodiffgpefidoaaGreatDoorWAll
namespace Go.Proofs.YtodiffgpefidoaaGreatDoor.P
open Go.RowKit Go.Proofs.YtodiffgpefidoaaGreatDoorW.PrintWords Go.Proofs.YtodiffgpefidoaaGreatDoorW.PrintLast Go.Proofs.YtodiffgpefidoaaGreatDoorW.PrintMore
attribute [local go_sem] max2_int min2_int max_two min_two max_three min_three max_four min_four
set_option linter.unusedVariables false
set_option linter.unusedSimpArgs false
def errW : Option Int → Value
 | none => .nilIface
 | some c => .iface 0 (.int .i64 c)
theorem errW_none : errW none = .nilIface := rfl
theorem errW_some (c : Int) : errW (some c) = .iface 0 (.int .i64 c) := rfl
theorem info5 : (Tryz.prog.info? 5).map (fun i => (i.zero, i.size, i.bytes)) = some (some (.int .u8 0), 1, 1) := by kernel_rfl
theorem info9 : (Tryz.prog.info? 9).map (fun i => (i.zero, i.size, i.bytes)) = some (some (.string ⟨#[]⟩), 1, 16) := by kernel_rfl
theorem info21 : (Tryz.prog.info? 21).map (fun i => (i.zero, i.size, i.bytes)) = some (some (.int .i32 0), 1, 4) := by kernel_rfl
structure S101 where
 f0 : Int
 f1 : Int
def z101 : S101 := ⟨(0 : Int), (0 : Int)⟩
def k101 : Kd S101 := Kd.iso (Kd.pair (Kd.int .i32) (Kd.int .i32)) (fun x : S101 => (x.f0, x.f1))
theorem k101_open {w : World} {x : S101} {cs : List Value} (h : k101.K w x cs) : cs = [.int .i32 x.f0, .int .i32 x.f1] := by
 obtain ⟨_, _, rfl, rfl, rfl⟩ := h
 exact rfl
theorem k101_mkM (w : World) (base : Nat) (ok : Nat → Prop) (x : S101)  : k101.M w base ok x [.int .i32 x.f0, .int .i32 x.f1] := ⟨[.int .i32 x.f0], [.int .i32 x.f1], rfl, rfl, rfl⟩
def rd_T101 (xs : List S101) (i : Int) : S101 := xs.getD i.toNat z101
theorem at_T101 {w : World} {A : Option Addr} {n : Nat} {xs : List S101} (h : Kd.C k101 w A n xs) (i : Int) (h0 : 0 ≤ i) (h1 : i < n) : ∃ ad , A = some ad ∧ w.cell? (ad.add (i.toNat * 2)) = some (.int .i32 (rd_T101 xs i).f0) ∧ w.cell? ⟨(ad.add (i.toNat * 2)).block, (ad.add (i.toNat * 2)).off + 1, none⟩ = some (.int .i32 (rd_T101 xs i).f1) := by
 obtain ⟨ad, c, e, _, hK, hc0⟩ := Kd.C_get h z101 i h0 h1
 have hc : ∀ j u, c[j]? = some u → w.cell? (ad.add (i.toNat * 2 + j)) = some u := hc0
 obtain rfl := k101_open hK
 exact ⟨ad, e, hc 0 _ rfl, by rw [← add_field _ _ 1 (by omega)]; exact hc 1 _ rfl⟩
theorem size_lit1 (a : UInt8) : (⟨#[a]⟩ : ByteArray).size = 1 := rfl
theorem isEmpty_ne (l : List UInt8) : l.isEmpty = !(l != []) := by cases l <;> rfl
/-- What the walks' steps have in common, said once. -/
def bn (n m : Nat) : Array Bool := ((List.range n).map fun i => m.testBit i).toArray
theorem bl_ {w W : World} (h : Below w.heap.size w W := by repeat (first | (with_reducible first | exact Aside0.out (by assumption) | apply below_alloc | apply pw_below_drewN | apply below_drew1 | refine below_set ?_ (Aside0.out (by assumption))) | exact Aside0.out (by assumption))) : Below w.heap.size w W := h
theorem kl_ {W : World} {g : Nat} {o : Obj} (h : W.heap[g]? = some o := by (with_reducible repeat (first | refine blk_drewN ?_ _ | refine blk_drew ?_ | refine blk_alloc ?_ _)); exact Aside0.out (by assumption)) : W.heap[g]? = some o := h
theorem es_ {α : Sort _} {a b : α} (h : a = b := by first | rfl | (simp; done) | (simp [*]; done) | (simp; exact isEmpty_ne _)) : a = b := h
theorem eq_ {α : Sort _} {a b : α} (h : a = b := by first | rfl | (simp [errW_none, errW_some] <;> rfl) | (simp [*, errW_none, errW_some] <;> rfl)) : a = b := h
section
variable {P : Program} {ops : Array Oper} {Q : Exit → Act → World → Prop} {md : Region.Mode} {S : World → Prop} {ds : List Nat}
theorem gL {oi : Oper} {rest : List Oper} {a : Act} {w : World} (N : Option Tmp) {f : FuncId} {fn : Func} {ars : Array Operand} {ts : Array TypeId} (hf : P.funcs[f]? = some fn) (args : Array Value) (hop : oi.op = .call { callee := .value (.func f), args := ars, argTypes := ts })
  (h : Calls P f args w fun e w' => ∃ v, e = .returned v ∧ wpList P ops Q rest (a.put N v) w') (hd : oi.dst = N := by rfl) (hg : oi.guard = none := by rfl) (hname : (fn.name == "runtime.NumGoroutine") = false := by kernel_rfl) (hb : fn.body.isSome = true := by rfl) (hargs : ars.map a.eval = args := by (try simp only [List.map_toArray, List.map_cons, List.map_nil]); first | done | rfl | (simp only [List.length_drop, List.length_take]; rfl)) : wpList P ops Q (oi :: rest) a w :=
 goesL_ N hd hg hf hname hb args hop hargs h
theorem gS {oi : Oper} {N : Option Tmp} {a : Act} {w : World} {K : Act → World → Prop} {f : FuncId} {fn : Func} {ars : Array Operand} {ts : Array TypeId} (hf : P.funcs[f]? = some fn) (args : Array Value) (hop : oi.op = .call { callee := .value (.func f), args := ars, argTypes := ts })
  (h : Calls P f args w fun e w' => ∃ v, e = .returned v ∧ K (a.put N v) w') (hw : Region.wanted oi (yielded ops a.tmps) = true := by rfl) (hN : oi.dst = N := by rfl) (hname : (fn.name == "runtime.NumGoroutine") = false := by kernel_rfl) (hb : fn.body.isSome = true := by rfl) (hargs : ars.map a.eval = args := by (try simp only [List.map_toArray, List.map_cons, List.map_nil]); first | done | rfl | (simp only [List.length_drop, List.length_take]; rfl)) : if Region.wanted oi (yielded ops a.tmps) = true then Oper.wp P oi a w K Q else K (a.put N undef) w :=
 goes_ hf hname hb args hw hN hop hargs h
variable {T : Bool × List (List Nat × List Nat)} {B : List Nat} {i : Nat} {N : Option Tmp} {oi : Oper} {v : Value} {fuel : Nat} {l : Array Bool} {a a' : Act} {w : World}
theorem pS (l' : Array Bool) (hi : ops[i]? = some oi) (hT : rtab md ops = T) (h : wpAnyLast P md ops Q S ds fuel l' a' w) (hN : oi.dst = N := by rfl) (hc : anyT T l.toList l'.toList i = true := by kernel_rfl) (hQ : ∀ c a w, Q (.panic c) (a.put oi.dst v) w → Q (.panic c) a w := by exact fun _ _ _ h => h)
  (hw : Region.wanted oi (yielded ops a.tmps) = true := by rfl) (hy : ∀ w', (execOp a.eval oi).run P w' = .ok (.value v) w' := by intro w'; go_simp; with_reducible rfl) (ha : a.put N v = a' := by simp only [Act.put, List.setIfInBounds_toArray, List.set_cons_zero, List.set_cons_succ, i64_w, i32_w]; rfl) : wpAnyLast P md ops Q S ds (fuel + 1) l a w :=
 pure_ l' hi hN (any_of hT hc) hQ (Or.inl ⟨hw, hy⟩) ha h
theorem pU (l' : Array Bool) (hi : ops[i]? = some oi) (hT : rtab md ops = T) (h : wpAnyLast P md ops Q S ds fuel l' a' w) (hN : oi.dst = N := by rfl) (hc : anyT T l.toList l'.toList i = true := by kernel_rfl) (hQ : ∀ c a w, Q (.panic c) (a.put oi.dst undef) w → Q (.panic c) a w := by exact fun _ _ _ h => h)
  (hw : Region.wanted oi (yielded ops a.tmps) = false := by rfl) (ha : a.put N undef = a' := by simp only [Act.put, List.setIfInBounds_toArray, List.set_cons_zero, List.set_cons_succ, i64_w, i32_w]; rfl) : wpAnyLast P md ops Q S ds (fuel + 1) l a w :=
 pure_ l' hi hN (any_of hT hc) hQ (Or.inr ⟨hw, rfl⟩) ha h
theorem tS (l' : Array Bool) (hi : ops[i]? = some oi) (hT : rtab md ops = T) (hB : waitsOk T.2 B = true) (hS : S w) (hy : ∀ w', S w' → (execOp a.eval oi).run P w' = .ok (.value v) w') (h : wpAnyLast P md ops Q S ds fuel l' a' w) (hN : oi.dst = N := by rfl) (hc : takeW T B ds l.toList l'.toList i = true := by kernel_rfl) (hQ : ∀ c a w, Q (.panic c) (a.put oi.dst v) w → Q (.panic c) a w := by exact fun _ _ _ h => h)
  (hw : Region.wanted oi (yielded ops a.tmps) = true := by rfl) (ha : a.put N v = a' := by simp only [Act.put, List.setIfInBounds_toArray, List.set_cons_zero, List.set_cons_succ, i64_w, i32_w]; rfl) : wpAnyLast P md ops Q S ds (fuel + 1) l a w :=
 take_ l' hi hN (take_ofW hT hB hc) hQ (Or.inl ⟨hw, hy⟩) hS ha h
theorem oS (l' : Array Bool) (hi : ops[i]? = some oi) (hT : rtab md ops = T) (h : ∀ K : Act → World → Prop, Shut (∀ a' w', S w' → (S w' → wpAnyLast P md ops Q S ds fuel l' a' w') → K a' w') → if Region.wanted oi (yielded ops a.tmps) = true then Oper.wp P oi a w K Q else K (a.put N undef) w)
  (hN : oi.dst = N := by rfl) (hc : (readyT T.2 l.toList == [i] && l.toList.set i true == l'.toList) = true := by kernel_rfl) (hd : i ∉ ds := by decide) : wpAnyLast P md ops Q S ds (fuel + 1) l a w :=
 one_ l' hi hN (one_of hT hc) hd h
theorem nS (N : Option Tmp) {b : Act} {v : Value} (h : wpAnyLast P md ops Q S ds fuel l a' w) (he : a = Act.put b N v := by rfl) (ha : Act.put b N v = a' := by simp only [Act.put, List.setIfInBounds_toArray, List.set_cons_zero, List.set_cons_succ, i64_w, i32_w]; rfl) : wpAnyLast P md ops Q S ds fuel l a w := norm_ (he.trans ha) h
end
end Go.Proofs.YtodiffgpefidoaaGreatDoor.P

