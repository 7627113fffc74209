/- Slimmed by wip/slim.py. -/
import Derived.Test.YtodiffgpefidoaaGreatDoorGRef1
import Derived.Test.YtodiffgpefidoaaGreatDoorXName
import Derived.Test.YtodiffgpefidoaaGreatDoorEWire
import Derived.Lib.TrimUEq
import Derived.Lib.MapLaws
import Derived.Lib.ValidLaws
namespace Go.Proofs.YtodiffgpefidoaaGreatDoor.P
open Go Go.RowKit Go.Proofs.YtodiffgpefidoaaGreatDoorW.PrintWords Go.Proofs.YtodiffgpefidoaaGreatDoorW.PrintLast Go.Proofs.YtodiffgpefidoaaGreatDoorW.PrintMore
set_option linter.unusedVariables false
set_option linter.unusedSimpArgs false
theorem w32 (n : Int) (h0 : -2147483648 ≤ n) (h1 : n ≤ 2147483647) : wrap32 n = n := by unfold wrap32; omega
theorem first_step (k : Nat) (l : List UInt8) (n : Int) (x : Nat) (least : Int) (i : Nat) (hi : (i : Int) < n) (hl : i < l.length) (hi4 : i < 4) (hx : x ≤ 1000000) :
    letterlockref1_first.l0 (k + 1) (B l) n (x : Int) least (i : Int) = if (l.getD i 0).toNat / 64 = 2 then letterlockref1_first.l0 k (B l) n ((64 * x + (l.getD i 0).toNat % 64 : Nat) : Int) least ((i + 1 : Nat) : Int) else some (0, 0) := by
  have hb : (l.getD i 0).toNat < 256 := UInt8.toNat_lt _
  rw [letterlockref1_first.l0, if_pos hi, if_pos (by omega), if_pos (by rw [size_B]; omega), bt_B, Int.toNat_natCast]
  generalize (l.getD i 0).toNat = b at hb
  by_cases h1 : b < 128
  · rw [if_pos (by omega), if_neg (by omega)]
  · rw [if_neg (by omega)]
    by_cases h2 : 191 < b
    · rw [if_pos (by omega), if_neg (by omega)]
    · rw [if_neg (by omega), if_pos (by omega), w32 (64 * (x : Int)) (by omega) (by omega), w32 _ (by omega) (by omega), w64 _ (by omega) (by omega)]
      congr 1 <;> omega
theorem first_end (k : Nat) (l : List UInt8) (n x least : Nat) (hx : x ≤ 2000000000) :
    letterlockref1_first.l0 (k + 1) (B l) (n : Int) (x : Int) (least : Int) (n : Int) = some (if x < least ∨ ¬ (x < 55296 ∨ (57344 ≤ x ∧ x ≤ 1114111)) then (0, 0) else ((x : Int), (n : Int))) := by
  rw [letterlockref1_first.l0, if_neg (by omega)]
  by_cases h1 : x < least
  · rw [if_pos (by omega), if_pos (Or.inl h1)]
  · rw [if_neg (by omega)]
    unfold letterlockref1_valid.f
    rw [if_pos (by omega)]
    by_cases h2 : x ≤ 1114111
    · rw [if_pos (by omega)]
      by_cases h3 : x < 55296
      · rw [if_pos (by omega), Option.bind_some, if_pos rfl, if_neg (by omega)]
      · rw [if_neg (by omega), Option.bind_some]
        by_cases h4 : 57343 < x
        · rw [decide_eq_true (by omega), if_pos rfl, if_neg (by omega)]
        · rw [decide_eq_false (by omega), if_neg (by decide), if_pos (by omega)]
    · rw [if_neg (by omega), Option.bind_some, if_neg (by decide), if_pos (by omega)]
theorem first_j2 (k : Nat) (l : List UInt8) (n : Nat) (x least : Int) (hn : 0 < n) :
    letterlockref1_first.j2 (k + 2) (B l) (n : Int) x least = if l.length < n then some (0, 0) else letterlockref1_first.l0 k (B l) (n : Int) x least 1 := by
  rw [letterlockref1_first.j2, if_neg (by omega), size_B, letterlockref1_first.j3]
  by_cases h : l.length < n
  · rw [decide_eq_true (by omega), if_pos rfl, if_pos h]
  · rw [decide_eq_false (by omega), if_neg (by decide), if_neg h]
def firstT (l : List UInt8) : Int × Int := if (Lib.decodeL l).1 = 65533 ∧ (Lib.decodeL l).2 = 1 then (0, 0) else (((Lib.decodeL l).1 : Int), ((Lib.decodeL l).2 : Int))
theorem first_none (k : Nat) (l : List UInt8) (h0 : (l.getD 0 0).toNat ≥ 128) (h : (l.getD 0 0).toNat < 192 ∨ 248 ≤ (l.getD 0 0).toNat) (hne : l ≠ []) : letterlockref1_first.f (k + 12) (B l) = some (0, 0) := by
  have hb : (l.getD 0 0).toNat < 256 := UInt8.toNat_lt _
  have hl : 0 < l.length := List.length_pos_iff.mpr hne
  unfold letterlockref1_first.f
  rw [toList_B, if_neg hne, if_pos (by rw [size_B]; omega), bt_B, show (0 : Int).toNat = 0 from rfl, if_neg (by omega)]
  have e3 : letterlockref1_first.j2 (k + 10) (B l) 0 0 0 = some (0, 0) := by
    rw [letterlockref1_first.j2, if_pos rfl, letterlockref1_first.j3, if_pos rfl]
  by_cases h1 : (l.getD 0 0).toNat < 192
  · rw [if_neg (by omega), letterlockref1_first.j0, if_neg (by decide), if_pos (by rw [size_B]; omega), bt_B, show (0 : Int).toNat = 0 from rfl, if_neg (by omega), letterlockref1_first.j1, if_neg (by decide), if_pos (by rw [size_B]; omega), bt_B, show (0 : Int).toNat = 0 from rfl, if_neg (by omega)]
    exact e3
  · rw [if_pos (by omega), decide_eq_false (by omega), letterlockref1_first.j0, if_neg (by decide), if_pos (by rw [size_B]; omega), bt_B, show (0 : Int).toNat = 0 from rfl, if_pos (by omega), decide_eq_false (by omega), letterlockref1_first.j1, if_neg (by decide), if_pos (by rw [size_B]; omega), bt_B, show (0 : Int).toNat = 0 from rfl, if_pos (by omega), if_neg (by omega)]
    exact e3
theorem first_many (k : Nat) (l : List UInt8) (hne : l ≠ []) (n : Nat) (x : Nat) (least : Nat) (h : ((l.getD 0 0).toNat / 32 = 6 ∧ n = 2 ∧ x = (l.getD 0 0).toNat % 32 ∧ least = 128) ∨ ((l.getD 0 0).toNat / 16 = 14 ∧ n = 3 ∧ x = (l.getD 0 0).toNat % 16 ∧ least = 2048) ∨ ((l.getD 0 0).toNat / 8 = 30 ∧ n = 4 ∧ x = (l.getD 0 0).toNat % 8 ∧ least = 65536)) :
    ∃ j, letterlockref1_first.f (k + 12) (B l) = if l.length < n then some (0, 0) else letterlockref1_first.l0 (j + 6) (B l) (n : Int) (x : Int) (least : Int) 1 := by
  have hb : (l.getD 0 0).toNat < 256 := UInt8.toNat_lt _
  have hl : 0 < l.length := List.length_pos_iff.mpr hne
  unfold letterlockref1_first.f
  rw [toList_B, if_neg hne, if_pos (by rw [size_B]; omega), bt_B, show (0 : Int).toNat = 0 from rfl, if_neg (by omega), if_pos (by omega)]
  rcases h with ⟨h, rfl, rfl, rfl⟩ | ⟨h, rfl, rfl, rfl⟩ | ⟨h, rfl, rfl, rfl⟩
  · refine ⟨k + 3, ?_⟩
    rw [decide_eq_true (by omega), letterlockref1_first.j0, if_pos rfl, if_pos (by rw [size_B]; omega), bt_B, show (0 : Int).toNat = 0 from rfl, show ((((l.getD 0 0).toNat : Nat) : Int) - 192) % 256 = (((l.getD 0 0).toNat % 32 : Nat) : Int) from by omega]
    exact first_j2 (k + 9) l 2 _ _ (by decide)
  · refine ⟨k + 2, ?_⟩
    rw [decide_eq_false (by omega), letterlockref1_first.j0, if_neg (by decide), if_pos (by rw [size_B]; omega), bt_B, show (0 : Int).toNat = 0 from rfl, if_pos (by omega), decide_eq_true (by omega), letterlockref1_first.j1, if_pos rfl, if_pos (by rw [size_B]; omega), bt_B, show (0 : Int).toNat = 0 from rfl, show ((((l.getD 0 0).toNat : Nat) : Int) - 224) % 256 = (((l.getD 0 0).toNat % 16 : Nat) : Int) from by omega]
    exact first_j2 (k + 8) l 3 _ _ (by decide)
  · refine ⟨k + 2, ?_⟩
    rw [decide_eq_false (by omega), letterlockref1_first.j0, if_neg (by decide), if_pos (by rw [size_B]; omega), bt_B, show (0 : Int).toNat = 0 from rfl, if_pos (by omega), decide_eq_false (by omega), letterlockref1_first.j1, if_neg (by decide), if_pos (by rw [size_B]; omega), bt_B, show (0 : Int).toNat = 0 from rfl, if_pos (by omega), if_pos (by omega), show ((((l.getD 0 0).toNat : Nat) : Int) - 240) % 256 = (((l.getD 0 0).toNat % 8 : Nat) : Int) from by omega]
    exact first_j2 (k + 8) l 4 _ _ (by decide)
theorem fT_bad {l : List UInt8} (h : Lib.decodeL l = (65533, 1)) : firstT l = (0, 0) := by unfold firstT; rw [h]; rfl
theorem fT_ok {l : List UInt8} {c n : Nat} (h : Lib.decodeL l = (c, n)) (hn : 2 ≤ n ∨ c < 128) : firstT l = ((c : Int), (n : Int)) := by unfold firstT; rw [h, if_neg (by simp only; omega)]
theorem letterlockref1_first.of (k : Nat) (l : List UInt8) (hne : l ≠ []) : letterlockref1_first.f (k + 12) (B l) = some (firstT l) := by
  have hb : (l.getD 0 0).toNat < 256 := UInt8.toNat_lt _
  have hb1 : (l.getD 1 0).toNat < 256 := UInt8.toNat_lt _
  have hb2 : (l.getD 2 0).toNat < 256 := UInt8.toNat_lt _
  have hb3 : (l.getD 3 0).toNat < 256 := UInt8.toNat_lt _
  have hl : 0 < l.length := List.length_pos_iff.mpr hne
  have hN := Lib.decodeL_N l
  unfold Lib.decodeN at hN
  by_cases h1 : (l.getD 0 0).toNat < 128
  · rw [if_pos h1] at hN
    rw [fT_ok hN (Or.inr h1)]
    unfold letterlockref1_first.f
    rw [toList_B, if_neg hne, if_pos (by rw [size_B]; omega), bt_B, show (0 : Int).toNat = 0 from rfl, if_pos (by omega), w32 _ (by omega) (by omega)]
    rfl
  · rw [if_neg h1] at hN
    by_cases h2 : (l.getD 0 0).toNat < 192 ∨ 248 ≤ (l.getD 0 0).toNat
    · rw [if_neg (by omega), if_neg (by omega), if_neg (by omega)] at hN
      rw [first_none k l (by omega) h2 hne, fT_bad hN]
    · by_cases h3 : (l.getD 0 0).toNat < 224
      · obtain ⟨j, e⟩ := first_many k l hne 2 _ _ (Or.inl ⟨by omega, rfl, rfl, rfl⟩)
        rw [e]
        by_cases g1 : l.length < 2
        · rw [if_neg (by omega), if_neg (by omega), if_neg (by omega)] at hN
          rw [if_pos g1, fT_bad hN]
        · have s1 := first_step (j + 5) l ((2 : Nat) : Int) ((l.getD 0 0).toNat % 32) 128 1 (by decide) (by omega) (by decide) (by omega)
          rw [if_neg g1]
          refine s1.trans ?_
          by_cases g2 : (l.getD 1 0).toNat / 64 = 2
          · rw [if_pos ⟨by omega, by omega, g2⟩] at hN
            rw [if_pos g2]
            refine (first_end (j + 4) l 2 (64 * ((l.getD 0 0).toNat % 32) + (l.getD 1 0).toNat % 64) 128 (by omega)).trans (congrArg some ?_)
            by_cases g3 : (l.getD 0 0).toNat % 32 * 64 + (l.getD 1 0).toNat % 64 ≥ 128
            · rw [if_pos g3] at hN
              rw [if_neg (by omega), fT_ok hN (Or.inl (by decide)), show 64 * ((l.getD 0 0).toNat % 32) + (l.getD 1 0).toNat % 64 = (l.getD 0 0).toNat % 32 * 64 + (l.getD 1 0).toNat % 64 from by omega]
            · rw [if_neg g3] at hN
              rw [if_pos (by omega), fT_bad hN]
          · rw [if_neg (by omega), if_neg (by omega), if_neg (by omega)] at hN
            rw [if_neg g2, fT_bad hN]
      · rw [if_neg (by omega)] at hN
        by_cases h4 : (l.getD 0 0).toNat < 240
        · obtain ⟨j, e⟩ := first_many k l hne 3 _ _ (Or.inr (Or.inl ⟨by omega, rfl, rfl, rfl⟩))
          rw [e]
          by_cases g1 : l.length < 3
          · rw [if_neg (by omega), if_neg (by omega)] at hN
            rw [if_pos g1, fT_bad hN]
          · have s1 := first_step (j + 5) l ((3 : Nat) : Int) ((l.getD 0 0).toNat % 16) 2048 1 (by decide) (by omega) (by decide) (by omega)
            rw [if_neg g1]
            refine s1.trans ?_
            by_cases g2 : (l.getD 1 0).toNat / 64 = 2
            · rw [if_pos g2]
              refine (first_step (j + 4) l ((3 : Nat) : Int) _ 2048 2 (by decide) (by omega) (by decide) (by omega)).trans ?_
              by_cases g3 : (l.getD 2 0).toNat / 64 = 2
              · rw [if_pos ⟨by omega, ⟨by omega, g2⟩, by omega, g3⟩] at hN
                rw [if_pos g3]
                refine (first_end (j + 3) l 3 (64 * (64 * ((l.getD 0 0).toNat % 16) + (l.getD 1 0).toNat % 64) + (l.getD 2 0).toNat % 64) 2048 (by omega)).trans (congrArg some ?_)
                rw [show 64 * (64 * ((l.getD 0 0).toNat % 16) + (l.getD 1 0).toNat % 64) + (l.getD 2 0).toNat % 64 = (l.getD 0 0).toNat % 16 * 4096 + (l.getD 1 0).toNat % 64 * 64 + (l.getD 2 0).toNat % 64 from by omega]
                generalize (l.getD 0 0).toNat % 16 * 4096 + (l.getD 1 0).toNat % 64 * 64 + (l.getD 2 0).toNat % 64 = c at hN
                by_cases g4 : c ≥ 2048 ∧ (c < 55296 ∨ (57344 ≤ c ∧ c ≤ 1114111))
                · rw [if_pos g4] at hN
                  rw [if_neg (by omega), fT_ok hN (Or.inl (by decide))]
                · rw [if_neg g4] at hN
                  rw [if_pos (by omega), fT_bad hN]
              · rw [if_neg (by omega), if_neg (by omega)] at hN
                rw [if_neg g3, fT_bad hN]
            · rw [if_neg (by omega), if_neg (by omega)] at hN
              rw [if_neg g2, fT_bad hN]
        · obtain ⟨j, e⟩ := first_many k l hne 4 _ _ (Or.inr (Or.inr ⟨by omega, rfl, rfl, rfl⟩))
          rw [e]
          rw [if_neg (by omega)] at hN
          by_cases g1 : l.length < 4
          · rw [if_neg (by omega)] at hN
            rw [if_pos g1, fT_bad hN]
          · have s1 := first_step (j + 5) l ((4 : Nat) : Int) ((l.getD 0 0).toNat % 8) 65536 1 (by decide) (by omega) (by decide) (by omega)
            rw [if_neg g1]
            refine s1.trans ?_
            by_cases g2 : (l.getD 1 0).toNat / 64 = 2
            · rw [if_pos g2]
              refine (first_step (j + 4) l ((4 : Nat) : Int) _ 65536 2 (by decide) (by omega) (by decide) (by omega)).trans ?_
              by_cases g3 : (l.getD 2 0).toNat / 64 = 2
              · rw [if_pos g3]
                refine (first_step (j + 3) l ((4 : Nat) : Int) _ 65536 3 (by decide) (by omega) (by decide) (by omega)).trans ?_
                by_cases g5 : (l.getD 3 0).toNat / 64 = 2
                · rw [if_pos ⟨by omega, ⟨by omega, g2⟩, ⟨by omega, g3⟩, by omega, g5⟩] at hN
                  rw [if_pos g5]
                  refine (first_end (j + 2) l 4 (64 * (64 * (64 * ((l.getD 0 0).toNat % 8) + (l.getD 1 0).toNat % 64) + (l.getD 2 0).toNat % 64) + (l.getD 3 0).toNat % 64) 65536 (by omega)).trans (congrArg some ?_)
                  rw [show 64 * (64 * (64 * ((l.getD 0 0).toNat % 8) + (l.getD 1 0).toNat % 64) + (l.getD 2 0).toNat % 64) + (l.getD 3 0).toNat % 64 = (l.getD 0 0).toNat % 8 * 262144 + (l.getD 1 0).toNat % 64 * 4096 + (l.getD 2 0).toNat % 64 * 64 + (l.getD 3 0).toNat % 64 from by omega]
                  generalize (l.getD 0 0).toNat % 8 * 262144 + (l.getD 1 0).toNat % 64 * 4096 + (l.getD 2 0).toNat % 64 * 64 + (l.getD 3 0).toNat % 64 = c at hN
                  by_cases g4 : c ≥ 65536 ∧ (c < 55296 ∨ (57344 ≤ c ∧ c ≤ 1114111))
                  · rw [if_pos g4] at hN
                    rw [if_neg (by omega), fT_ok hN (Or.inl (by decide))]
                  · rw [if_neg g4] at hN
                    rw [if_pos (by omega), fT_bad hN]
                · rw [if_neg (by omega)] at hN
                  rw [if_neg g5, fT_bad hN]
              · rw [if_neg (by omega)] at hN
                rw [if_neg g3, fT_bad hN]
            · rw [if_neg (by omega)] at hN
              rw [if_neg g2, fT_bad hN]
def runesL : Nat → List UInt8 → Option (List Nat)
  | 0, _ => some []
  | q + 1, l => if l = [] then some [] else if (Lib.decodeL l).1 = 65533 ∧ (Lib.decodeL l).2 = 1 then none else (runesL q (l.drop (Lib.decodeL l).2)).map ((Lib.decodeL l).1 :: ·)
theorem runesL_valid : ∀ (q : Nat) (l : List UInt8), Lib.validGoD q l = (runesL q l).isSome
  | 0, _ => rfl
  | q + 1, l => by
    rw [Lib.validGoD, runesL]
    by_cases h : l = []
    · rw [if_pos h, if_pos h]; rfl
    · rw [if_neg h, if_neg h]
      by_cases h2 : (Lib.decodeL l).1 = 65533 ∧ (Lib.decodeL l).2 = 1
      · rw [if_pos h2, if_pos h2]; rfl
      · rw [if_neg h2, if_neg h2, runesL_valid q, Option.isSome_map]
def ints (l : List Nat) : List Int := l.map (fun n : Nat => (n : Int))
theorem runes_loop : ∀ (q : Nat) (l : List UInt8) (acc : List Nat), l.length ≤ q → acc.length + l.length ≤ 1000000000 → ∀ k, letterlockref1_Runes.l0 (k + q + 14) (B l) (ints acc) = some (match runesL q l with | none => ([], 2) | some rs => (ints (acc ++ rs), 0)) := by
  intro q
  induction q with
  | zero =>
    intro l acc hl hb k
    obtain rfl := List.eq_nil_of_length_eq_zero (Nat.le_zero.mp hl)
    rw [letterlockref1_Runes.l0, toList_B, if_pos rfl, runesL]
    simp only [List.append_nil]
  | succ q ih =>
    intro l acc hl hb k
    rw [show k + (q + 1) + 14 = (k + q + 14) + 1 from by omega, letterlockref1_Runes.l0, toList_B, runesL]
    by_cases h : l = []
    · rw [if_pos h, if_pos h]
      simp only [List.append_nil]
    · rw [if_neg h, if_neg h, show k + q + 14 = (k + q + 2) + 12 from by omega, letterlockref1_first.of _ l h, Option.bind_some]
      by_cases h2 : (Lib.decodeL l).1 = 65533 ∧ (Lib.decodeL l).2 = 1
      · rw [show firstT l = (0, 0) from if_pos h2, if_pos rfl, if_pos h2]
      · have hw := Lib.decodeL_width l
        have hle := Lib.decodeL_le l h
        rw [show firstT l = (((Lib.decodeL l).1 : Int), ((Lib.decodeL l).2 : Int)) from if_neg h2, if_neg (by simp only; omega), if_pos (by rw [ints, List.length_map]; omega), if_pos (by simp only; omega), if_pos (by rw [size_B]; simp only; omega), if_neg h2]
        simp only
        rw [Int.toNat_natCast, extract_B, size_B, List.take_length, show ints acc ++ [((Lib.decodeL l).1 : Int)] = ints (acc ++ [(Lib.decodeL l).1]) from by simp [ints]]
        have e := ih (l.drop (Lib.decodeL l).2) (acc ++ [(Lib.decodeL l).1]) (by rw [List.length_drop]; omega) (by rw [List.length_drop, List.length_append, List.length_singleton]; omega) k
        rw [show k + q + 2 + 12 = k + q + 14 from by omega, e]
        cases runesL q (l.drop (Lib.decodeL l).2) with
        | none => rfl
        | some rs => simp only [Option.map_some, List.append_assoc, List.singleton_append]
theorem letterlockref1_in.of (a b c : Int) : letterlockref1_in.f a b c = some (inS a ⟨b, c⟩) := by
  unfold letterlockref1_in.f inS
  by_cases h : a ≥ b
  · rw [if_pos h, decide_eq_true (show b ≤ a from h), Bool.true_and]
  · rw [if_neg h, decide_eq_false (show ¬ b ≤ a from h), Bool.false_and]
theorem letterlockref1_letter.of (r : Int) : letterlockref1_letter.f r = some (letterB r) := by
  unfold letterlockref1_letter.f
  simp only [letterlockref1_in.of, Option.bind_some]
  have h45 : (if r = 45 then true else false) = inS r ⟨45, 45⟩ := by
    unfold inS
    by_cases h : r = 45
    · subst h; rfl
    · rw [if_neg h]
      by_cases h1 : 45 ≤ r
      · rw [decide_eq_false (show ¬ r ≤ 45 by omega), Bool.and_false]
      · rw [decide_eq_false h1, Bool.false_and]
  unfold letterB letterSpans
  simp only [List.any_cons, List.any_nil, Bool.or_false]
  rw [← h45]
  cases inS r ⟨97, 122⟩
  · cases inS r ⟨48, 57⟩
    · by_cases h : r = 45
      · simp [h]
      · simp only [h, if_false]
        cases inS r ⟨223, 246⟩ <;> cases inS r ⟨248, 255⟩ <;> cases inS r ⟨945, 969⟩ <;> simp
    · simp
  · simp
theorem ref1_right_loop (rs : List Nat) (h : rs.length ≤ 1000) : ∀ (m i : Nat), i + m = rs.length → ∀ k, letterlockref1_Right.l0 (k + m + 1) (ints rs) (i : Int) = some ((rs.drop i).all fun r => letterB (r : Int)) := by
  intro m
  induction m with
  | zero =>
    intro i hi k
    rw [letterlockref1_Right.l0, if_neg (by rw [ints, List.length_map]; omega), List.drop_eq_nil_of_le (by omega)]
    rfl
  | succ m ih =>
    intro i hi k
    have hlt : i < rs.length := by omega
    have hr : rd (ints rs) (i : Int) = ((rs[i] : Nat) : Int) := by
      unfold rd ints
      rw [Int.toNat_natCast, List.getD_eq_getElem?_getD, List.getElem?_map, List.getElem?_eq_getElem hlt]
      rfl
    rw [show k + (m + 1) + 1 = (k + m + 1) + 1 from by omega, letterlockref1_Right.l0, if_pos (by rw [ints, List.length_map]; omega), if_pos (by omega), hr, letterlockref1_letter.of, Option.bind_some, List.drop_eq_getElem_cons hlt, List.all_cons]
    cases letterB ((rs[i] : Nat) : Int)
    · rfl
    · rw [if_pos rfl, w64 _ (by omega) (by omega), show (i : Int) + 1 = ((i + 1 : Nat) : Int) from by omega, ih (i + 1) (by omega) k, Bool.true_and]
theorem lettersFrom_runes (s : ByteArray) : ∀ (q pos n : Nat) (rs : List Nat), runesL q (s.data.toList.drop pos) = some rs → s.size ≤ pos + q → lettersFrom s q pos n = ((rs.all fun r => letterB (r : Int)) && (decide (1 ≤ n + rs.length) && decide (n + rs.length ≤ 32))) := by
  intro q
  induction q with
  | zero =>
    intro pos n rs h _
    obtain rfl : [] = rs := Option.some.inj h
    simp [lettersFrom]
  | succ q ih =>
    intro pos n rs h hs
    rw [runesL] at h
    by_cases hp : pos < s.size
    · have hne : s.data.toList.drop pos ≠ [] := by
        intro e
        have := congrArg List.length e
        rw [List.length_drop, List.length_nil] at this
        have h2 : s.data.toList.length = s.size := by rw [Array.length_toList]; rfl
        omega
      rw [if_neg hne] at h
      by_cases h2 : (Lib.decodeL (s.data.toList.drop pos)).1 = 65533 ∧ (Lib.decodeL (s.data.toList.drop pos)).2 = 1
      · rw [if_pos h2] at h; cases h
      · rw [if_neg h2, List.drop_drop, Lib.decodeL_drop] at h
        obtain ⟨rs', h3, rfl⟩ := Option.map_eq_some_iff.mp h
        have hw := Lib.decode_width_pos s pos hp
        rw [lettersFrom, if_pos hp, List.all_cons]
        cases letterB ((Utf8.decode s pos).1 : Int)
        · rw [if_neg (by decide), Bool.false_and, Bool.false_and]
        · rw [if_pos rfl, ih _ (n + 1) rs' h3 (by omega), Bool.true_and, List.length_cons, show n + (rs'.length + 1) = n + 1 + rs'.length from by omega]
    · rw [if_pos (List.drop_eq_nil_of_le (by rw [Array.length_toList]; exact Nat.not_lt.mp hp))] at h
      obtain rfl : [] = rs := Option.some.inj h
      rw [lettersFrom_end s _ pos n hp]
      simp
theorem letterlockref1_Right.ev (l : List UInt8) (hl : l.length ≤ 1000000000) : Ev (fun k => letterlockref1_Right.f k (B l)) (nameT (B l)) := by
  refine ⟨l.length + 60, fun k hk => ?_⟩
  obtain ⟨j, hj⟩ : ∃ j, k = j + l.length + 14 := ⟨k - l.length - 14, by omega⟩
  have e : letterlockref1_Runes.f k (B l) = some (match runesL l.length l with | none => ([], 2) | some rs => (ints ([] ++ rs), 0)) := by
    rw [hj]
    exact runes_loop l.length l [] (Nat.le_refl _) (by simpa using hl) j
  have hv : nameT (B l) = ((runesL l.length l).isSome && lettersFrom (B l) l.length 0 0) := by
    unfold nameT
    rw [size_B, show (B l).data.toList = l from S_B l, Lib.validD, runesL_valid]
  obtain ⟨i, hi⟩ : ∃ i, k = i + 1 := ⟨k - 1, by omega⟩
  show letterlockref1_Right.f k (B l) = _
  unfold letterlockref1_Right.f
  cases hr : runesL l.length l with
  | none =>
    rw [hr] at e hv
    rw [show letterlockref1_Runes.f k (B l) = some ([], 2) from e, Option.bind_some, hv, hi, if_neg (by decide), letterlockref1_Right.j0, if_pos rfl]
    rfl
  | some rs =>
    rw [hr] at e hv
    rw [show letterlockref1_Runes.f k (B l) = some (ints rs, 0) from e, Option.bind_some, hv, hi]
    have hf := lettersFrom_runes (B l) l.length 0 0 rs (by rw [List.drop_zero, show (B l).data.toList = l from S_B l]; exact hr) (by rw [size_B]; omega)
    have hlen : (ints rs).length = rs.length := by rw [ints, List.length_map]
    rw [if_pos rfl, Option.isSome_some, Bool.true_and, hf]
    simp only [hlen]
    by_cases h1 : rs.length < 1
    · rw [if_pos (by omega), letterlockref1_Right.j0, if_pos rfl, decide_eq_false (show ¬ 1 ≤ 0 + rs.length by omega), Bool.false_and, Bool.and_false]
    · rw [if_neg (by omega), letterlockref1_Right.j0]
      by_cases h2 : 32 < rs.length
      · rw [decide_eq_true (show ((rs.length : Nat) : Int) > 32 by omega), if_pos rfl, decide_eq_false (show ¬ 0 + rs.length ≤ 32 by omega), Bool.and_false, Bool.and_false]
      · rw [decide_eq_false (show ¬ ((rs.length : Nat) : Int) > 32 by omega), if_neg (by decide), decide_eq_true (show 1 ≤ 0 + rs.length by omega), decide_eq_true (show 0 + rs.length ≤ 32 by omega), Bool.and_true, Bool.and_true]
        obtain ⟨m, hm⟩ : ∃ m, i = m + rs.length + 1 := ⟨i - rs.length - 1, by omega⟩
        have e2 := ref1_right_loop rs (by omega) rs.length 0 (by omega) m
        rw [List.drop_zero] at e2
        rw [hm]
        exact e2
end Go.Proofs.YtodiffgpefidoaaGreatDoor.P

