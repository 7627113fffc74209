/- Slimmed by wip/slim.py. -/
import Derived.Test.YtodiffgpefidoaaGreatDoorGTree
import Derived.Test.YtodiffgpefidoaaGreatDoorERef3
import Derived.Lib.Hide
namespace Go.Proofs.YtodiffgpefidoaaGreatDoor.P
open Go.RowKit Go.Proofs.YtodiffgpefidoaaGreatDoorW.PrintWords Go.Proofs.YtodiffgpefidoaaGreatDoorW.PrintLast Go.Proofs.YtodiffgpefidoaaGreatDoorW.PrintMore
set_option linter.unusedVariables false
set_option linter.unusedSimpArgs false
def leafL (l : List UInt8) : Bool := right l && decide (l.getD 0 0 = 112) && decide (kindL ((partsL l).getD 0 []) = 116) && decide (kindL ((partsL l).getD 1 []) = 97)
theorem partsL_pair {l : List UInt8} (h : l.getD 0 0 = 112) : ∃ a b, partsL l = [a, b] := by
  rw [partsL, h, if_neg (by decide), if_pos (by decide)]
  exact ⟨_, _, rfl⟩
theorem b112 (c : UInt8) : ((c.toNat : Nat) : Int) = 112 ↔ c = 112 := eq_byte (n := 112) (by decide)
theorem tree_leaf.of (t : ByteArray) : tree_leaf.f t = some (leafL (S t)) := by
  unfold tree_leaf.f
  rw [show term_Parts.f t = some ((partsE (S t)).1.map B, (partsE (S t)).2) from rfl, Option.bind_some]
  cases hr : right (S t)
  · rw [show partsE (S t) = ([], 1) from by rw [partsE, hr]; rfl, leafL, hr]
    rfl
  · rw [show partsE (S t) = (partsL (S t), 0) from by rw [partsE, hr]; rfl, if_pos rfl, show term_Kind.f t = some ((kindL (S t)).toNat : Int) from rfl, Option.bind_some, leafL, hr, Bool.true_and]
    have hk : kindL (S t) = (S t).getD 0 0 := by rw [kindL, hr]; rfl
    by_cases h1 : (S t).getD 0 0 = 112
    · obtain ⟨a, b, hp⟩ := partsL_pair h1
      rw [hk, h1, if_pos (by decide), hp, if_pos (by simp)]
      rw [show term_Kind.f (rdOf ByteArray.empty (([a, b] : List (List UInt8)).map B) 0) = some ((kindL a).toNat : Int) from rfl, Option.bind_some]
      by_cases h2 : kindL a = 116
      · rw [h2, if_pos (by decide), if_pos (by simp), show term_Kind.f (rdOf ByteArray.empty (([a, b] : List (List UInt8)).map B) 1) = some ((kindL b).toNat : Int) from rfl, Option.bind_some]
        congr 1
        simp only [List.getD_cons_zero, List.getD_cons_succ, h2]
        by_cases h3 : kindL b = 97
        · rw [h3]; rfl
        · rw [decide_eq_false h3]
          simp only [decide_true, Bool.and_false]
          exact byte_ne (n := 97) (by decide) h3
      · rw [if_neg (fun e => h2 ((b116 _).mp e))]
        simp [h2]
    · rw [hk, if_neg (fun e => h1 ((b112 _).mp e)), decide_eq_false h1]
      rfl
theorem Root1_calls (t : ByteArray) (w : World) : Calls Tryz.prog 53 #[.string t] w fun e w' => e = .returned (.bool (!leafL (S t))) ∧ Below w.heap.size w w' := by
  have K := Lib.hid (tree_leaf.calls t (leafL (S t)) w (tree_leaf.of t))
  go_enter Tryz.func53, Tryz.ntmps53
  go_wp2_with (go_at_call 54; refine (K.out).mono ?_; rintro e w1 ⟨rfl, hb1⟩)
  go_ret
  exact ⟨rfl, hb1⟩
theorem index_calls (l : List ByteArray) (A : Option Addr) (c : Nat) (w : World) (hr : Kd.C Kd.string w A l.length l) (hc : l.length ≤ c) (hl : l.length ≤ 1000000000) :
    Calls Tryz.prog 86 #[.slice A l.length c, .func (.func 53) #[] #[]] w fun e w' => (∃ i : Int, e = .returned (.int .i64 i) ∧ decide (i ≥ 0) = l.any (fun t => !leafL (S t))) ∧ Below w.heap.size w w' := by
  have HC := Lib.hid hr
  have RH := Lib.hid Root1_calls
  clear hr
  go_enter Tryz.func86, Tryz.ntmps86
  go_wp2
  go_loopw [8] (fun i wr => ∃ j : Nat, j ≤ l.length ∧ i = .int .i64 j ∧ Hid ((l.take j).any (fun t => !leafL (S t)) = false) ∧ Hid (Below w.heap.size w wr)) (fun i _ => l.length - (intOf i).toNat)
  case atStart => exact ⟨0, by omega, rfl, Lib.hid (by simp), Lib.hid (Below.refl _ _)⟩
  case round =>
    obtain ⟨j, hj, rfl, HA, HBW⟩ := hrel
    by_cases hlt : j < l.length
    · have hji : (j : Int) < (l.length : Int) := by omega
      have hj0 : (0 : Int) ≤ (j : Int) := by omega
      obtain ⟨ad, rfl, hcell⟩ := Kd.at_string (Kd.C_below HC.out HBW.out) (j : Int) hj0 hji
      obtain ⟨p, hp⟩ : ∃ p, p = rdOf ByteArray.empty l (j : Int) := ⟨_, rfl⟩
      rw [← hp, Int.toNat_natCast] at hcell
      have hpe : p = l[j] := by rw [hp]; simp [rdOf, List.getD_eq_getElem?_getD, hlt]
      have htk : l.take (j + 1) = l.take j ++ [p] := by rw [hpe, List.take_succ_eq_append_getElem hlt]
      have HP := Lib.hid hpe
      have HK := Lib.hid htk
      clear hp hpe htk
      cases hz : leafL (S p)
      · have HZ := Lib.hid hz
        go_wp2_with (go_at_call 53; refine (RH.out _ _).mono ?_; rintro e w1 ⟨rfl, hb1⟩; simp only [HZ.out, Bool.not_false])
        go_ret
        refine ⟨⟨_, rfl, ?_⟩, below_then HBW.out HBW.out.size hb1⟩
        rw [decide_eq_true (by omega)]
        refine Eq.symm (List.any_eq_true.mpr ⟨p, ?_, ?_⟩)
        · rw [HP.out]; exact List.getElem_mem _
        · rw [HZ.out]; rfl
      · have HZ := Lib.hid hz
        go_wp2_with (go_at_call 53; refine (RH.out _ _).mono ?_; rintro e w1 ⟨rfl, hb1⟩; simp only [HZ.out, Bool.not_true])
        go_roundw
        case measure => simp [intOf]; omega
        case rel => exact ⟨j + 1, by omega, by go_num, Lib.hid (by rw [HK.out, List.any_append, HA.out]; simp [HZ.out]), Lib.hid (below_then HBW.out HBW.out.size hb1)⟩
    · obtain rfl : j = l.length := by omega
      rw [List.take_length] at HA
      go_wp2
      go_ret
      exact ⟨⟨_, rfl, by rw [HA.out]; rfl⟩, HBW.out⟩
theorem contains_calls (l : List ByteArray) (A : Option Addr) (c : Nat) (w : World) (hr : Kd.C Kd.string w A l.length l) (hc : l.length ≤ c) (hl : l.length ≤ 1000000000) :
    Calls Tryz.prog 52 #[.slice A l.length c, .func (.func 53) #[] #[]] w fun e w' => e = .returned (.bool (l.any (fun t => !leafL (S t)))) ∧ Below w.heap.size w w' := by
  have K := Lib.hid (index_calls l A c w hr hc hl)
  go_enter Tryz.func52, Tryz.ntmps52
  go_wp2_with (go_at_call 86; refine (K.out).mono ?_; rintro e w1 ⟨⟨i, rfl, hi⟩, hb1⟩)
  go_ret
  exact ⟨by rw [← hi]; rfl, hb1⟩
def tree_Root.f (k : Nat) (l0 : List ByteArray) : Option (ByteArray × Int) :=
  if l0.length = 0 ∨ 8 < l0.length then some (⟨#[]⟩, 1) else if l0.any (fun t => !leafL (S t)) then some (⟨#[]⟩, 1) else tree_grow.f k l0
theorem tree_Root.calls (k : Nat) (A0 : Option Addr) (c0 : Nat) (l0 : List ByteArray) (r1 : ByteArray) (r2 : Int) (w : World) (hr0 : Kd.C Kd.string w A0 l0.length l0) (hc0 : l0.length ≤ c0) (h : tree_Root.f k l0 = some (r1, r2)) :
    Calls Tryz.prog 24 #[.slice A0 l0.length c0] w fun e w' => e = .returned (.tuple #[.string r1, .int .i64 r2]) ∧ Below w.heap.size w w' := by
  unfold tree_Root.f at h
  by_cases h0 : l0.length = 0
  · rw [if_pos (Or.inl h0)] at h
    have h1 := Option.some.inj h
    obtain rfl : (⟨#[]⟩ : ByteArray) = r1 := congrArg Prod.fst h1
    obtain rfl : (1 : Int) = r2 := congrArg Prod.snd h1
    have e0 : ((l0.length : Int) == 0) = true := beq_iff_eq.mpr (by omega)
    clear h h1
    go_enter Tryz.func24, Tryz.ntmps24
    go_wp2
    go_ret2
    exact ⟨rfl, Below.refl _ _⟩
  by_cases h8 : 8 < l0.length
  · rw [if_pos (Or.inr h8)] at h
    have h1 := Option.some.inj h
    obtain rfl : (⟨#[]⟩ : ByteArray) = r1 := congrArg Prod.fst h1
    obtain rfl : (1 : Int) = r2 := congrArg Prod.snd h1
    have e0 : ((l0.length : Int) == 0) = false := beq_eq_false_iff_ne.mpr (by omega)
    have e8 : (8 < (l0.length : Int)) = True := eq_true (by omega)
    clear h h1
    go_enter Tryz.func24, Tryz.ntmps24
    go_wp2
    go_ret2
    exact ⟨rfl, Below.refl _ _⟩
  rw [if_neg (by omega)] at h
  have KC := Lib.hid (contains_calls l0 A0 c0 w hr0 hc0 (by omega))
  have HC := Lib.hid hr0
  have e0 : ((l0.length : Int) == 0) = false := beq_eq_false_iff_ne.mpr (by omega)
  have e8 : (8 < (l0.length : Int)) = False := eq_false (by omega)
  cases ha : l0.any (fun t => !leafL (S t))
  · rw [ha, if_neg (by decide)] at h
    have HH := Lib.hid h
    rw [ha] at KC
    clear h hr0 ha
    go_enter Tryz.func24, Tryz.ntmps24
    go_wp2_with (go_at_call 52; refine (KC.out).mono ?_; rintro e w1 ⟨rfl, hb1⟩; have HB1 := Lib.hid hb1; clear hb1)
    refine (tree_grow.calls k A0 c0 l0 r1 r2 _ (Kd.C_below HC.out HB1.out) hc0 HH.out).mono ?_
    rintro e w2 ⟨rfl, hb2⟩
    go_wp2
    go_ret2
    exact ⟨rfl, below_then HB1.out HB1.out.size hb2⟩
  · rw [ha, if_pos rfl] at h
    rw [ha] at KC
    have h1 := Option.some.inj h
    obtain rfl : (⟨#[]⟩ : ByteArray) = r1 := congrArg Prod.fst h1
    obtain rfl : (1 : Int) = r2 := congrArg Prod.snd h1
    clear h h1 hr0 ha
    go_enter Tryz.func24, Tryz.ntmps24
    go_wp2_with (go_at_call 52; refine (KC.out).mono ?_; rintro e w1 ⟨rfl, hb1⟩)
    go_ret2
    exact ⟨rfl, hb1⟩
end Go.Proofs.YtodiffgpefidoaaGreatDoor.P

