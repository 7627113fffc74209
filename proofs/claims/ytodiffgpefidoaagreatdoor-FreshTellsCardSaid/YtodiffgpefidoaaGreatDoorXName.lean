/- Slimmed by wip/slim.py. -/
import Derived.Test.YtodiffgpefidoaaGreatDoorGName
import Derived.Test.YtodiffgpefidoaaGreatDoorShelf
import Derived.Lib.RuneCount
import Derived.Lib.OthersKept
import Derived.Lib.Hide
import Derived.Laws.RangeString
import Derived.Laws.RangeAny
import Derived.LoopTactic
namespace Go.Proofs.YtodiffgpefidoaaGreatDoor.P
open Go.RowKit Go.Proofs.YtodiffgpefidoaaGreatDoorW.PrintWords Go.Proofs.YtodiffgpefidoaaGreatDoorW.PrintLast Go.Proofs.YtodiffgpefidoaaGreatDoorW.PrintMore
set_option linter.unusedVariables false
set_option linter.unusedSimpArgs false
def Laid8 (w : World) : Prop := Lib.Utf8Tabs (Tryz.laysValid_ren.g 3) (Tryz.laysValid_ren.g 4) w
theorem Laid8.below {w w' : World} (h : Laid8 w) (hb : Below w.heap.size w w') : Laid8 w' := Utf8Tabs_below h hb
def inS (r : Int) (s : S101) : Bool := decide (s.f0 ≤ r) && decide (r ≤ s.f1)
def letterSpans : List (S101) := [⟨97, 122⟩, ⟨48, 57⟩, ⟨45, 45⟩, ⟨223, 246⟩, ⟨248, 255⟩, ⟨945, 969⟩, ⟨1072, 1103⟩]
def letterB (r : Int) : Bool := letterSpans.any (inS r)
theorem within_go (r : Int) (l : List (S101)) (hl : l.length ≤ 1000) : ∀ (m i k : Nat), l.length = i + m → m < k → name_within.l0 k r l (l.length : Int) (i : Int) = some ((l.drop i).any (inS r))
  | m, i, 0, _, h => absurd h (Nat.not_lt_zero _)
  | 0, i, k + 1, h, _ => by
    rw [name_within.l0, if_neg (by omega), List.drop_eq_nil_of_le (by omega)]
    rfl
  | m + 1, i, k + 1, h, hk => by
    have hi : i < l.length := by omega
    have hw : wrap64 ((i : Int) + 1) = ((i + 1 : Nat) : Int) := by unfold wrap64; omega
    have hr : rd_T101 l (i : Int) = l[i] := by
      unfold rd_T101
      rw [Int.toNat_natCast, List.getD_eq_getElem?_getD, List.getElem?_eq_getElem hi]
      rfl
    rw [name_within.l0, if_pos (by omega), if_pos (by omega), if_pos (by omega), hr, hw, within_go r l hl m (i + 1) k (by omega) (by omega), List.drop_eq_getElem_cons hi, List.any_cons]
    unfold inS
    by_cases h1 : r ≥ l[i].f0
    · rw [if_pos h1, decide_eq_true h1]
      by_cases h2 : r ≤ l[i].f1
      · rw [if_pos h2, decide_eq_true h2]; rfl
      · rw [if_neg h2, decide_eq_false h2]; rfl
    · rw [if_neg h1, decide_eq_false h1]; rfl
theorem name_letter.of (r : Int) : name_letter.f 8 r = some (letterB r) := by
  unfold name_letter.f name_within.f
  rw [show (([⟨97, 122⟩, ⟨48, 57⟩, ⟨45, 45⟩, ⟨223, 246⟩, ⟨248, 255⟩, ⟨945, 969⟩, ⟨1072, 1103⟩] : List (S101))) = letterSpans from rfl]
  have h := within_go r letterSpans (by decide) 7 0 8 rfl (by decide)
  rw [show name_within.l0 8 r letterSpans (letterSpans.length : Int) 0 = name_within.l0 8 r letterSpans (letterSpans.length : Int) ((0 : Nat) : Int) from rfl, h]
  rfl
def lettersFrom (s : ByteArray) : Nat → Nat → Nat → Bool
  | 0, _, n => decide (1 ≤ n) && decide (n ≤ 32)
  | q + 1, pos, n => if pos < s.size then (if letterB (Utf8.decode s pos).1 then lettersFrom s q (pos + (Utf8.decode s pos).2) (n + 1) else false) else decide (1 ≤ n) && decide (n ≤ 32)
theorem lettersFrom_end (s : ByteArray) (q pos n : Nat) (h : ¬ pos < s.size) : lettersFrom s q pos n = (decide (1 ≤ n) && decide (n ≤ 32)) := by
  cases q with
  | zero => rfl
  | succ q => rw [lettersFrom, if_neg h]
def nameT (s : ByteArray) : Bool := Lib.validD s.data.toList && lettersFrom s s.size 0 0
def name_Right.f (k : Nat) (a0 : ByteArray) : Option Bool := if a0.size < 9223372036854775807 then some (nameT a0) else none
set_option maxHeartbeats 4000000 in
set_option maxRecDepth 1000000 in
theorem Right_calls (s : ByteArray) (w : World) (hV : Laid8 w) (hs : s.size < 9223372036854775807) : Calls Tryz.prog 22 #[.string s] w fun e w' => e = .returned (.bool (nameT s)) ∧ Below w.heap.size w w' := by
  have KV := Lib.hid (Tryz.utf8_ValidString s w (by omega) hV)
  have KL := Lib.hid (fun (r : Int) (w1 : World) => name_letter.calls 8 r (letterB r) w1 (name_letter.of r))
  obtain ⟨ANS, hANS⟩ : ∃ ANS, nameT s = ANS := ⟨_, rfl⟩
  rw [hANS]
  unfold nameT at hANS
  clear hV
  cases hv : Lib.validD s.data.toList
  · rw [hv, Bool.false_and] at hANS
    subst hANS
    rw [hv] at KV
    go_enter Tryz.func22, Tryz.ntmps22
    go_wp2_with (go_at_call 49; refine (KV.out).mono ?_; rintro e w1 ⟨rfl, hb1⟩)
    go_ret
    exact ⟨rfl, hb1⟩
  · rw [hv, Bool.true_and] at hANS
    rw [hv] at KV
    go_enter Tryz.func22, Tryz.ntmps22
    go_wp2_with (go_at_call 49; refine (KV.out).mono ?_; rintro e w1 ⟨rfl, hb1⟩)
    go_loopw [3] (fun v wr => ∃ (pos q n : Nat), v = .int .i64 n ∧ wr.heap[w1.heap.size]? = some (.stringIter s pos) ∧ Below w1.heap.size w1 wr ∧ lettersFrom s q pos n = ANS ∧ s.size ≤ pos + q ∧ n ≤ pos) (fun _ wr => s.size - wr.iterPos w1.heap.size)
    case atStart => exact ⟨0, s.size, 0, rfl, World.iter_heap w1 s 0, (Below.refl _ w1).alloc (Nat.le_refl _) _, hANS, by omega, by omega⟩
    case round =>
      obtain ⟨pos, q, n, rfl, hit, hbw, hacc, hfu, hn⟩ := hrel
      have hsz : w1.heap.size < wr.heap.size := (Array.getElem?_eq_some_iff.1 hit).1
      by_cases hp : pos < s.size
      · have hnx : ∀ ty, (Instr.next (.pointer (some ⟨w1.heap.size, 0, none⟩)) true ty).run Tryz.prog wr = _ := fun ty => Lib.run_next_any_at wr w1.heap.size s pos ty hit hp
        have hwd := Lib.decode_width_pos s pos hp
        have hit2 := Lib.iterAt_heap wr w1.heap.size s pos (pos + (Utf8.decode s pos).2) hit
        have hbw2 := Lib.below_iterAt hbw (k := w1.heap.size) (by omega) s (pos + (Utf8.decode s pos).2)
        have hsz2 : (wr.iterAt w1.heap.size s (pos + (Utf8.decode s pos).2)).heap.size = wr.heap.size := by rw [Lib.iterAt_size]
        obtain ⟨f, rfl⟩ : ∃ f, q = f + 1 := ⟨q - 1, by omega⟩
        rw [lettersFrom, if_pos hp] at hacc
        cases hL : letterB (Utf8.decode s pos).1
        · rw [hL] at hacc
          have hA : false = ANS := hacc
          subst hA
          go_wp2_with (go_at_call 50; refine (KL.out _ _).mono ?_; rw [hL]; rintro e w2 ⟨rfl, hb2⟩)
          go_ret
          exact ⟨rfl, hb1.trans ((hbw2.trans (hb2.mono (by omega))).mono hb1.size)⟩
        · rw [hL, if_pos rfl] at hacc
          go_wp2_with (go_at_call 50; refine (KL.out _ _).mono ?_; rw [hL]; rintro e w2 ⟨rfl, hb2⟩)
          have hit3 := (hb2.block w1.heap.size (by omega)).trans hit2
          go_roundw
          case rel =>
            exact ⟨pos + (Utf8.decode s pos).2, f, n + 1, by go_num, hit3, hbw2.trans (hb2.mono (by omega)), hacc, by omega, by omega⟩
          case measure =>
            simp only [World.iterPos, hit3, hit]
            omega
      · have hnx : ∀ ty, (Instr.next (.pointer (some ⟨w1.heap.size, 0, none⟩)) true ty).run Tryz.prog wr = _ := fun ty => Lib.run_next_end_at wr w1.heap.size s pos ty hit hp
        rw [lettersFrom_end s q pos n hp] at hacc
        subst hacc
        by_cases h1 : 1 ≤ n
        · have h1z : (1 : Int) ≤ (n : Int) := by omega
          go_wp2
          go_ret
          refine ⟨?_, hb1.trans (hbw.mono hb1.size)⟩
          rw [decide_eq_true h1, Bool.true_and]
          exact congrArg (fun b => Ending.returned (Value.bool b)) (decide_eq_decide.mpr (by omega))
        · have h1z : ¬ (1 : Int) ≤ (n : Int) := by omega
          rw [decide_eq_false h1, Bool.false_and]
          go_wp2
          go_ret
          exact ⟨rfl, hb1.trans (hbw.mono hb1.size)⟩
theorem name_Right.calls (k : Nat) (a0 : ByteArray) (r : Bool) (w : World) (h : name_Right.f k a0 = some r) (hV : Laid8 w) : Calls Tryz.prog 22 #[.string a0] w fun e w' => e = .returned (.bool r) ∧ Below w.heap.size w w' := by
  unfold name_Right.f at h
  split at h
  · obtain rfl := Option.some.inj h
    exact Right_calls a0 w hV (by assumption)
  · exact absurd h (by simp)
end Go.Proofs.YtodiffgpefidoaaGreatDoor.P

