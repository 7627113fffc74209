/- Slimmed by wip/slim.py. -/
import Derived.Test.YtodiffgpefidoaaGreatDoorG0
import Derived.Test.YtodiffgpefidoaaGreatDoorSpec
import Derived.Test.YtodiffgpefidoaaGreatDoorShelf
import Derived.Lib.Hide
namespace Go.Proofs.YtodiffgpefidoaaGreatDoor.P
open Go.RowKit Go.Proofs.YtodiffgpefidoaaGreatDoorW.PrintWords Go.Proofs.YtodiffgpefidoaaGreatDoorW.PrintLast Go.Proofs.YtodiffgpefidoaaGreatDoorW.PrintMore
set_option linter.unusedVariables false
set_option linter.unusedSimpArgs false
def flat (l : List ByteArray) : List UInt8 := (l.map S).flatten
def wire_join.f (l0 : List ByteArray) : Option ByteArray := if (flat l0).length ≤ 140737488355328 ∧ l0.length ≤ 140737488355328 then some (B (flat l0)) else none
theorem intersperse_nil_flatten : ∀ l : List (List UInt8), (List.intersperse [] l).flatten = l.flatten
  | [] => rfl
  | [x] => rfl
  | x :: y :: r => by
    rw [List.intersperse_cons_cons, List.flatten_cons, List.flatten_cons, List.flatten_cons, intersperse_nil_flatten (y :: r)]
    rfl
theorem join_flat (xs : List ByteArray) : Lib.join (xs.map (·.data.toList)) (⟨#[]⟩ : ByteArray).data.toList = flat xs := by
  unfold Lib.join flat S
  rw [List.intercalate]
  exact intersperse_nil_flatten _
theorem reads_strings {w : World} {A : Option Addr} {n : Nat} {xs : List ByteArray} (h : Kd.C Kd.string w A n xs) (hn : 0 < n) :
    ∃ bk o, A = some ⟨bk, o, none⟩ ∧ bk < w.heap.size ∧ ∀ (j : Nat) x, xs[j]? = some x → w.cell? ⟨bk, o + j, none⟩ = some (.string x) := by
  obtain ⟨hl, hm, hc⟩ := h
  obtain ⟨ad, rfl, hcc⟩ := hc hn
  have cell : ∀ (j : Nat) x, xs[j]? = some x → w.cell? (ad.add j) = some (.string x) := by
    intro j x hx
    obtain ⟨c, hs, hr, hcell⟩ := hcc j x hx
    have hr' : c = [.string x] := hr
    subst hr'
    have h0 := hcell 0 (.string x) rfl
    simpa [Kd.string, Kd.scalar] using h0
  obtain ⟨x0, hx0⟩ : ∃ x, xs[0]? = some x := ⟨_, List.getElem?_eq_getElem (by omega)⟩
  have c0 := cell 0 x0 hx0
  obtain ⟨bk, o, sp⟩ := ad
  have e0 : (⟨bk, o, sp⟩ : Addr).add 0 = ⟨bk, o, sp⟩ := rfl
  rw [e0] at c0
  have hsp : sp = none := by
    unfold World.cell? at c0
    cases sp with
    | none => rfl
    | some q =>
      exfalso
      revert c0
      cases hh : w.heap[bk]? with
      | none => simp [hh]
      | some ob => cases ob <;> simp [hh]
  subst hsp
  refine ⟨bk, o, rfl, World.block_lt_of_cell? w _ c0, fun j x hx => ?_⟩
  have h := cell j x hx
  have ha : (⟨bk, o, none⟩ : Addr).add j = ⟨bk, o + j, none⟩ := by unfold Addr.add; split <;> simp_all
  rwa [ha] at h
theorem wire_join.calls (A0 : Option Addr) (c0 : Nat) (l0 : List ByteArray) (r : ByteArray) (w : World) (hr0 : Kd.C Kd.string w A0 l0.length l0) (hc0 : l0.length ≤ c0) (h : wire_join.f l0 = some r) :
    Calls Tryz.prog 69 #[.slice A0 l0.length c0] w fun e w' => e = .returned (.string r) ∧ Below w.heap.size w w' := by
  unfold wire_join.f at h
  split at h
  · rename_i hc
    obtain rfl := Option.some.inj h
    obtain ⟨hc1, hc2⟩ := hc
    rcases Nat.eq_zero_or_pos l0.length with h0 | h0
    · obtain rfl := List.eq_nil_of_length_eq_zero h0
      go_enter Tryz.func69, Tryz.ntmps69
      go_wp2_with (go_at_call 96; refine (Tryz.strings_Join_none _ _ _ _).mono ?_; rintro e w' ⟨rfl, rfl⟩)
      go_ret
      exact ⟨rfl, Below.refl _ _⟩
    · obtain ⟨bk, o, rfl, hb, hcell⟩ := reads_strings hr0 h0
      have hj := join_flat l0
      have K := Tryz.strings_Join bk o c0 l0 ⟨#[]⟩ w hcell hb hc2 hc0 (by rw [hj]; exact hc1)
      rw [hj] at K
      have KH := Lib.hid K
      clear hj K hcell hr0 hc1 hc2 h0
      go_enter Tryz.func69, Tryz.ntmps69
      go_wp2_with (go_at_call 96; refine (KH.out).mono ?_; rintro e w' ⟨rfl, hB⟩)
      go_ret
      exact ⟨rfl, hB⟩
  · exact absurd h (by simp)
end Go.Proofs.YtodiffgpefidoaaGreatDoor.P

