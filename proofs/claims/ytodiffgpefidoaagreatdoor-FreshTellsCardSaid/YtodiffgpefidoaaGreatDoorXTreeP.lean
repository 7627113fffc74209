/- Slimmed by wip/slim.py. -/
import Derived.Maps.AppendAt
import Derived.Test.YtodiffgpefidoaaGreatDoorXTreeW
namespace Go.Proofs.YtodiffgpefidoaaGreatDoor.P
open Go.RowKit Go.Proofs.YtodiffgpefidoaaGreatDoorW.PrintWords Go.Proofs.YtodiffgpefidoaaGreatDoorW.PrintLast Go.Proofs.YtodiffgpefidoaaGreatDoorW.PrintMore
set_option linter.unusedVariables false
set_option linter.unusedSimpArgs false
attribute [local go_sem] Oper.semAt_some
theorem first_in (n : Nat) (m : Nat) (h1 : 2 ≤ m) (h2 : m ≤ 8) (w : World) : CallsIn Fence.wide n Tryz.prog 88 #[.int .i64 (m : Int)] w fun e w' => e = .returned (.int .i64 ((firstN m : Nat) : Int)) ∧ Drawn0 w w' :=
  callsIn_wide.2 (tree_first.calls (m : Int) _ w (tree_first.of m h1 h2))
theorem way_calls (many at_ : Int) (w : World) : Calls Tryz.prog 76 #[.int .i64 many, .int .i64 at_] w fun e w' =>
    e = .returned (.func (.func 98) #[] #[.pointer (some ⟨w.heap.size, 0, none⟩), .pointer (some ⟨w.heap.size + 1, 0, none⟩)]) ∧ w' = (w.alloc (.cells #[.int .i64 many] 3)).alloc (.cells #[.int .i64 at_] 3) := by
  go_enter Tryz.func76, Tryz.ntmps76
  go_wp2
  go_ret
  exact ⟨by simp, rfl⟩
theorem way_stops (n : Nat) (hn : 1 ≤ n) (many at_ : Nat) (hm : many ≤ 8) (hat : at_ < many) (Kp : World → World → Prop) (hKp : ∀ W W', Kp W W' → KY W W') (Bn : Nat) (w : World)
    (hc0 : Boxed w Bn 3 (.int .i64 (many : Int))) (hc1 : Boxed w (Bn + 1) 3 (.int .i64 (at_ : Int))) :
    SeqStopsK Fence.wide n Tryz.prog 98 #[.pointer (some ⟨Bn, 0, none⟩), .pointer (some ⟨Bn + 1, 0, none⟩)] (fun x : FkN many => #[encF x.1]) Kp (fun ys => ys.map (·.1) = forks at_ 0 many) (fun _ => True) 8 w :=
  fun l J Jx W hW hJ hJx hY h0 =>
    way1_in Fence.wide n trivial trivial (fun m h1 h2 w => first_in _ m h1 h2 w) rfl hn l Bn many at_ hm hat Kp hKp J Jx W hJ hY (boxed_below hc0 hW) (boxed_below hc1 hW) h0
theorem ownsRow_below {W W' : World} {base : Nat} {e : TypeId} {size : Nat} {v : Value} {k : Nat} {xs : List Value} (h : W.ownsRow base e size v k xs) (hb : Below W.heap.size W W') : W'.ownsRow base e size v k xs := by
  refine h.kept (grown_of_below hb) ?_
  rcases h.2 with ⟨rfl, _⟩ | ⟨g, cap, cur, rfl, _, hgb, _⟩
  · exact .inl rfl
  · exact .inr (fun e' => by simp [Value.ownBlock] at e')
theorem R_of_own {w : World} {base : Nat} {ok : Nat → Prop} {v : Value} {xs : List ByteArray} (h : w.ownsRow base 9 1 v xs.length (xs.map Value.string)) (hok : ∀ k, v.ownBlock = some k → ok k) : Kd.R Kd.string 9 w base ok v xs := by
  refine ⟨hok, xs.map Value.string, h, ?_, ?_⟩
  · simp [Kd.string, Kd.scalar]
  · intro j p hp
    have hj : j < xs.length := (List.getElem?_eq_some_iff.mp hp).1
    show (((xs.map Value.string).drop (j * 1)).take 1) = [Value.string p]
    rw [Nat.mul_one, List.drop_eq_getElem_cons (by rw [List.length_map]; exact hj), List.getElem_map, (List.getElem?_eq_some_iff.mp hp).2]
    rfl
end Go.Proofs.YtodiffgpefidoaaGreatDoor.P

