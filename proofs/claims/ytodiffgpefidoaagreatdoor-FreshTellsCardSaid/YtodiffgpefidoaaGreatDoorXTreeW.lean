/- Slimmed by wip/slim.py. -/
import Derived.RangeFuncNested
import Derived.RangeFuncBound
import Derived.RangeFuncCalls
import Derived.RangeFuncLeaves
import Derived.RangeFuncBox
import Derived.Shelf.Abstract
import Derived.Shelf.RegionOpen
import Derived.WalkKit
import Derived.OwnWalkIn
import Derived.TacticsInMore
import Derived.LoopNIn
import Derived.LoopIn
import Derived.Test.YtodiffgpefidoaaGreatDoorXTreeR
namespace Go.Proofs.YtodiffgpefidoaaGreatDoor.P
open Go.RowKit Go.Proofs.YtodiffgpefidoaaGreatDoorW.PrintWords Go.Proofs.YtodiffgpefidoaaGreatDoorW.PrintLast Go.Proofs.YtodiffgpefidoaaGreatDoorW.PrintMore
set_option linter.unusedVariables false
set_option linter.unusedSimpArgs false
def firstN (n : Nat) : Nat := if n ≤ 2 then 1 else if n ≤ 4 then 2 else 4
theorem firstN_pos (n : Nat) : 0 < firstN n := by unfold firstN; split; omega; split <;> omega
theorem firstN_lt {n : Nat} (h : 1 < n) : firstN n < n := by unfold firstN; split; omega; split <;> omega
theorem tree_first.of (n : Nat) (h1 : 2 ≤ n) (h2 : n ≤ 8) : tree_first.f (n : Int) = some ((firstN n : Nat) : Int) := by
  rcases (by omega : n = 2 ∨ n = 3 ∨ n = 4 ∨ n = 5 ∨ n = 6 ∨ n = 7 ∨ n = 8) with rfl | rfl | rfl | rfl | rfl | rfl | rfl <;> decide +kernel
structure Fk where
  f0 : Int
  f1 : Int
  f2 : Bool
def forks (at_ : Nat) (low high : Nat) : List Fk :=
  if h : 1 < high - low then
    (if low + firstN (high - low) ≤ at_ then ⟨(low : Int), ((low + firstN (high - low) : Nat) : Int), true⟩ :: forks at_ (low + firstN (high - low)) high
     else ⟨((low + firstN (high - low) : Nat) : Int), (high : Int), false⟩ :: forks at_ low (low + firstN (high - low)))
  else []
termination_by high - low
decreasing_by
  · have := firstN_pos (high - low); omega
  · have := firstN_lt h; omega
def okF (n : Nat) (x : Fk) : Prop := 0 ≤ x.f0 ∧ x.f0 < x.f1 ∧ x.f1 ≤ (n : Int)
abbrev FkN (n : Nat) := { x : Fk // okF n x }
def encF (x : Fk) : Value := .agg #[.int .i64 x.f0, .int .i64 x.f1, .bool x.f2]
theorem cell_alc {W : World} {a : Addr} {v : Value} (o : Obj) (h : W.cell? a = some v) : (W.alloc o).cell? a = some v := cell_kept h (World.grownBy_alloc W o none) (fun r e => by cases e)
theorem grown_drew (W : World) : W.grownBy W.drew none := ⟨rfl, rfl, rfl, Nat.le_refl _, fun _ _ _ => rfl⟩
theorem grown_of_below {W W' : World} (h : Below W.heap.size W W') : W.grownBy W' none := ⟨h.os, h.tape, h.output, h.size, fun k hk _ => h.block k hk⟩
def KL (W W' : World) : Prop := ∀ a b c : Value, W.heap[W.heap.size - 1]? = some (.cells #[a, b, c] 86 (0, 0)) → W'.heap[W.heap.size - 1]? = some (.cells #[a, b, c] 86 (0, 0))
theorem kl_cells {w W3 : World} {a b c : Value} (h : KL (w.alloc (.cells #[a, b, c] 86)) W3) : W3.cell? ⟨w.heap.size, 0, none⟩ = some a ∧ W3.cell? ⟨w.heap.size, 1, none⟩ = some b ∧ W3.cell? ⟨w.heap.size, 2, none⟩ = some c := by
  have h1 := h a b c
  rw [World.size_alloc, show w.heap.size + 1 - 1 = w.heap.size from rfl] at h1
  have h2 := h1 (World.alloc_heap_new w _)
  refine ⟨?_, ?_, ?_⟩ <;> simp [World.cell?, h2]
def KY (W W' : World) : Prop := W.heap.size ≤ W'.heap.size ∧ (∀ (k : Nat) (v : Value), Boxed W k 3 v → Boxed W' k 3 v) ∧ KL W W'
theorem boxed_below {W W' : World} {k : Nat} {v : Value} (h : Boxed W k 3 v) (hb : Below W.heap.size W W') : Boxed W' k 3 v := (hb.block k h.lt).trans h
set_option maxRecDepth 100000 in
set_option maxHeartbeats 2000000 in
theorem way1_in (F : Fence) (n : Nat) (h6 : F.fn 98) (h7 : F.fn 88) (HF : ∀ m : Nat, 2 ≤ m → m ≤ 8 → ∀ w, CallsIn F (n - 1) Tryz.prog 88 #[.int .i64 (m : Int)] w fun e w' => e = .returned (.int .i64 ((firstN m : Nat) : Int)) ∧ Drawn0 w w')
    (hro : F.round = none) (hn : 1 ≤ n) (l Bn : Nat) (many at_ : Nat) (hm : many ≤ 8) (hat : at_ < many) (Kp : World → World → Prop) (hKp : ∀ W W', Kp W W' → KY W W') (J Jx : List (FkN many) → World → Prop)
    (W0 : World) (hJ : AbidesFrom W0.heap.size J)
    (hY : ∀ pre x W, J pre W → pre.length < 8 → YieldAt F (n - 1) Tryz.prog l #[encF x.1] W fun e W' =>
      (e = .returned (.bool true) ∧ J (pre ++ [x]) W' ∧ Kp W W') ∨ (e = .returned (.bool false) ∧ Jx (pre ++ [x]) W'))
    (hc0 : Boxed W0 Bn 3 (.int .i64 (many : Int))) (hc1 : Boxed W0 (Bn + 1) 3 (.int .i64 (at_ : Int))) (h0 : J [] W0) :
    CallsIn F n Tryz.prog 98 #[.func (.yield l) #[] #[], .pointer (some ⟨Bn, 0, none⟩), .pointer (some ⟨Bn + 1, 0, none⟩)] W0 fun e W' => (∃ v, e = .returned v) ∧
      ((∃ ys : List (FkN many), ys.map (·.1) = forks at_ 0 many ∧ J ys W') ∨ (∃ pre : List (FkN many), True ∧ Jx pre W')) := by
  refine callsIn_of_wp Tryz.func98 rfl h6 ?_ hro
  simp only [Tryz.ntmps98, List.size_toArray, List.length_cons, List.length_nil, Nat.reduceAdd, Nat.reduceSub, Array.replicate_succ, Array.replicate_zero, List.push_toArray, List.append_toArray, List.nil_append, List.cons_append]
  have hc0c := hc0.cell
  gi_wp2
  gi_region
  all_goals gi_wp2
  all_goals
    gi_loopw [4, 5] (fun lo hi wr => ∃ (low high : Nat) (pre : List (FkN many)), lo = .int .i64 (low : Int) ∧ hi = .int .i64 (high : Int) ∧ low ≤ at_ ∧ at_ < high ∧ high ≤ many ∧ pre.length + (high - low) ≤ 8 ∧ Hid (pre.map (·.1) ++ forks at_ low high = forks at_ 0 many) ∧ J pre wr ∧ Hid (Boxed wr Bn 3 (.int .i64 (many : Int))) ∧ Hid (Boxed wr (Bn + 1) 3 (.int .i64 (at_ : Int))) ∧ W0.heap.size ≤ wr.heap.size)
      (fun lo hi _ => (intOf hi - intOf lo).toNat)
    case atStart => exact ⟨0, many, [], rfl, rfl, by omega, hat, by omega, by simp; omega, Lib.hid (by simp), hJ _ _ _ _ h0 (grown_drew _) (by simp), Lib.hid hc0, Lib.hid hc1, Nat.le_refl _⟩
    case round =>
      obtain ⟨low, high, pre, rfl, rfl, h1, h2, h3, h4, HP, hJs, HB0, HB1, hsz⟩ := hrel
      have e1 : wrap64 ((high : Int) - (low : Int)) = (high : Int) - (low : Int) := w64 _ (by omega) (by omega)
      by_cases hgt : 1 < high - low
      · have g1 : ((high : Int) - (low : Int) > 1) = True := eq_true (by omega)
        obtain ⟨f, hf⟩ : ∃ f, f = firstN (high - low) := ⟨_, rfl⟩
        have hf0 := firstN_pos (high - low)
        have hf1 := firstN_lt hgt
        rw [← hf] at hf0 hf1
        obtain ⟨kk, hkk⟩ : ∃ kk, kk = low + f := ⟨_, rfl⟩
        have e2 : wrap64 ((low : Int) + (f : Int)) = (kk : Int) := by rw [w64 _ (by omega) (by omega)]; omega
        have hfk : forks at_ low high = if kk ≤ at_ then ⟨(low : Int), (kk : Int), true⟩ :: forks at_ kk high else ⟨(kk : Int), (high : Int), false⟩ :: forks at_ low kk := by
          rw [forks, dif_pos hgt, ← hf, ← hkk]
        have HH : ∀ w, CallsIn F (n - 1) Tryz.prog 88 #[.int .i64 ((high : Int) - (low : Int))] w fun e w' => e = .returned (.int .i64 (f : Int)) ∧ Drawn0 w w' := by
          intro w
          have h := HF (high - low) (by omega) (by omega) w
          rw [← hf, show ((high - low : Nat) : Int) = (high : Int) - (low : Int) from by omega] at h
          exact h
        have HKK : Hid (low < kk ∧ kk < high) := Lib.hid (by omega)
        have E2 := Lib.hid e2
        have HFK := Lib.hid hfk
        replace HH := Lib.hid HH
        clear HF hf hf0 hf1 e2 hgt hkk hfk
        gi_wp2_with (fail)
        refine (HH.out _).mono ?_
        rintro e w1 ⟨rfl, hd⟩
        have hs1 : wr.heap.size ≤ w1.heap.size := hd.below.size
        have hb0w := boxed_below HB0.out hd.below
        have hb1w := boxed_below HB1.out hd.below
        have hc1a := (hb1w.alloc (.cells #[.int .i64 (kk : Int), .int .i64 (high : Int), .bool false] 86)).cell
        have HB0w := Lib.hid hb0w
        have HB1w := Lib.hid hb1w
        clear hb0w hb1w
        have e2 := E2.out
        by_cases hk : kk ≤ at_
        · have g2 : ((kk : Int) ≤ (at_ : Int)) = True := eq_true (by omega)
          have hJw : J pre (w1.alloc (.cells #[.int .i64 (low : Int), .int .i64 (kk : Int), .bool true] 86)) := hJ _ _ _ none hJs (grown_of_below (hd.below.alloc (by omega) _)) (by simp)
          obtain ⟨fn, tmps, assign, body, hy, hR⟩ := hY pre ⟨⟨(low : Int), (kk : Int), true⟩, by have := HKK.out; exact ⟨by simp, by simp; omega, by simp; omega⟩⟩ _ hJw (by have := HKK.out; omega)
          have hy : (Instr.yield l #[.agg #[.int .i64 (low : Int), .int .i64 (kk : Int), .bool true]]).run Tryz.prog (w1.alloc (.cells #[.int .i64 (low : Int), .int .i64 (kk : Int), .bool true] 86)) = _ := hy
          have HR := Lib.hid hR
          have HK := Lib.hid hk
          have HKp := Lib.hid hKp
          clear hk hR hJw hd hY hJs hKp
          gi_wp2_with (fail)
          refine HR.out.mono ?_
          rintro e W3 (⟨rfl, hJ3, hk3⟩ | ⟨rfl, hJx3⟩)
          · obtain ⟨hs3, hb3, hl3⟩ := HKp.out _ _ hk3
            have hz3 := Lib.hid (hb3 _ _ (HB0w.out.alloc _))
            have hz4 := Lib.hid (hb3 _ _ (HB1w.out.alloc _))
            have hz5 : W0.heap.size ≤ W3.heap.size := by rw [World.size_alloc] at hs3; omega
            have hc3 := (kl_cells hl3).2.2
            have HJ3 := Lib.hid hJ3
            clear hk3 hl3 hb3 hJ3 hs3
            gi_wp2
            go_roundw
            case rel => exact ⟨kk, high, _, by first | rfl | rw [E2.out], rfl, HK.out, h2, h3, by have := HKK.out; simp; omega, Lib.hid (by rw [← HP.out, HFK.out, if_pos HK.out, List.map_append]; simp), HJ3.out, hz3, hz4, hz5⟩
            case measure => have := HKK.out; simp [intOf]; omega
          · gi_wp2
            refine bodyPost_ret (results_none rfl _ _ _) rfl ?_
            exact ⟨⟨_, rfl⟩, .inr ⟨_, trivial, hJx3⟩⟩
        · have g2 : ((kk : Int) ≤ (at_ : Int)) = False := eq_false (by omega)
          have hJw : J pre (w1.alloc (.cells #[.int .i64 (kk : Int), .int .i64 (high : Int), .bool false] 86)) := hJ _ _ _ none hJs (grown_of_below (hd.below.alloc (by omega) _)) (by simp)
          obtain ⟨fn, tmps, assign, body, hy, hR⟩ := hY pre ⟨⟨(kk : Int), (high : Int), false⟩, by have := HKK.out; exact ⟨by simp, by simp; omega, by simp; omega⟩⟩ _ hJw (by have := HKK.out; omega)
          have hy : (Instr.yield l #[.agg #[.int .i64 (kk : Int), .int .i64 (high : Int), .bool false]]).run Tryz.prog (w1.alloc (.cells #[.int .i64 (kk : Int), .int .i64 (high : Int), .bool false] 86)) = _ := hy
          have HR := Lib.hid hR
          have HK := Lib.hid hk
          have HKp := Lib.hid hKp
          clear hk hR hJw hd hY hJs hKp
          gi_wp2_with (fail)
          refine HR.out.mono ?_
          rintro e W3 (⟨rfl, hJ3, hk3⟩ | ⟨rfl, hJx3⟩)
          · obtain ⟨hs3, hb3, hl3⟩ := HKp.out _ _ hk3
            have hz3 := Lib.hid (hb3 _ _ (HB0w.out.alloc _))
            have hz4 := Lib.hid (hb3 _ _ (HB1w.out.alloc _))
            have hz5 : W0.heap.size ≤ W3.heap.size := by rw [World.size_alloc] at hs3; omega
            have hc3 := (kl_cells hl3).2.2
            have HJ3 := Lib.hid hJ3
            clear hk3 hl3 hb3 hJ3 hs3
            gi_wp2
            go_roundw
            case rel => exact ⟨low, kk, _, rfl, by first | rfl | rw [E2.out], h1, by have := HK.out; omega, by have := HKK.out; omega, by have := HKK.out; simp; omega, Lib.hid (by rw [← HP.out, HFK.out, if_neg HK.out, List.map_append]; simp), HJ3.out, hz3, hz4, hz5⟩
            case measure => have := HKK.out; simp [intOf]; omega
          · gi_wp2
            refine bodyPost_ret (results_none rfl _ _ _) rfl ?_
            exact ⟨⟨_, rfl⟩, .inr ⟨_, trivial, hJx3⟩⟩
      · have g1 : ((high : Int) - (low : Int) > 1) = False := eq_false (by omega)
        have hfk : forks at_ low high = [] := by rw [forks, dif_neg hgt]
        have HFK := Lib.hid hfk
        clear hfk hgt
        gi_wp2
        go_end0
        exact ⟨⟨_, rfl⟩, .inl ⟨pre, by rw [← HP.out, HFK.out, List.append_nil], hJs⟩⟩
end Go.Proofs.YtodiffgpefidoaaGreatDoor.P
namespace Go.Proofs.YtodiffgpefidoaaGreatDoor.P
open Go.RowKit Go.Proofs.YtodiffgpefidoaaGreatDoorW.PrintWords Go.Proofs.YtodiffgpefidoaaGreatDoorW.PrintLast Go.Proofs.YtodiffgpefidoaaGreatDoorW.PrintMore
set_option linter.unusedVariables false
set_option linter.unusedSimpArgs false
def overL (a b : List UInt8) : List UInt8 × Int := if (ofL [112] [a, b]).2 = 0 then ofL [104] [(ofL [112] [a, b]).1] else ([], (ofL [112] [a, b]).2)
def treeL (ls : List (List UInt8)) : List UInt8 × Int :=
  if h : 1 < ls.length then
    (if (treeL (ls.take (firstN ls.length))).2 = 0 then
      (if (treeL (ls.drop (firstN ls.length))).2 = 0 then overL (treeL (ls.take (firstN ls.length))).1 (treeL (ls.drop (firstN ls.length))).1 else ([], (treeL (ls.drop (firstN ls.length))).2))
     else ([], (treeL (ls.take (firstN ls.length))).2))
  else ofL [104] [ls.getD 0 []]
termination_by ls.length
decreasing_by
  all_goals have h1 := firstN_pos ls.length
  all_goals have h2 := firstN_lt h
  all_goals simp only [List.length_take, List.length_drop]
  all_goals omega
theorem tree_over.of (a b : List UInt8) : tree_over.f (B a) (B b) = some (pr (overL a b)) := by
  unfold tree_over.f overL
  rw [term_OfPair.of, Option.bind_some]
  by_cases h : (ofL [112] [a, b]).2 = 0
  · rw [if_pos h, if_pos (show (pr (ofL [112] [a, b])).2 = 0 from h), show (pr (ofL [112] [a, b])).1 = B (ofL [112] [a, b]).1 from rfl, term_OfHash.of]
    rfl
  · rw [if_neg h, if_neg (show ¬ (pr (ofL [112] [a, b])).2 = 0 from h)]
    rfl
theorem tree_grow.of : ∀ (k : Nat) (ls : List (List UInt8)), 1 ≤ ls.length → ls.length ≤ 8 → ls.length ≤ k → tree_grow.f k (ls.map B) = some (pr (treeL ls)) := by
  intro k
  induction k with
  | zero => intro ls h1 h2 h3; omega
  | succ k ih =>
    intro ls h1 h2 h3
    rw [tree_grow.f, treeL, List.length_map]
    by_cases h : 1 < ls.length
    · have f1 := firstN_pos ls.length
      have f2 := firstN_lt h
      rw [if_neg (by omega), dif_pos h, tree_first.of ls.length (by omega) h2, Option.bind_some, if_pos (by omega), if_pos (by omega), Int.toNat_natCast, ← List.map_take, ← List.map_drop]
      rw [ih (ls.take (firstN ls.length)) (by rw [List.length_take]; omega) (by rw [List.length_take]; omega) (by rw [List.length_take]; omega), Option.bind_some]
      rw [ih (ls.drop (firstN ls.length)) (by rw [List.length_drop]; omega) (by rw [List.length_drop]; omega) (by rw [List.length_drop]; omega)]
      generalize treeL (ls.take (firstN ls.length)) = a
      generalize treeL (ls.drop (firstN ls.length)) = b
      by_cases ha : a.2 = 0
      · rw [if_pos ha, if_pos (show (pr a).2 = 0 from ha), Option.bind_some]
        by_cases hb : b.2 = 0
        · rw [if_pos hb, if_pos (show (pr b).2 = 0 from hb), show (pr a).1 = B a.1 from rfl, show (pr b).1 = B b.1 from rfl, tree_over.of]
          rfl
        · rw [if_neg hb, if_neg (show ¬ (pr b).2 = 0 from hb)]
          rfl
      · rw [if_neg ha, if_neg (show ¬ (pr a).2 = 0 from ha)]
        rfl
    · obtain ⟨x, rfl⟩ : ∃ x, ls = [x] := List.length_eq_one_iff.mp (by omega)
      rw [if_pos (by simp), dif_neg h, if_pos (by simp)]
      rw [show rdOf ByteArray.empty ([x].map B) 0 = B x from rfl, term_OfHash.of]
      rfl
theorem forks_len8 (at_ low high : Nat) (h : high - low ≤ 8) : (forks at_ low high).length ≤ 3 := by
  have l1 : ∀ a b, b - a ≤ 1 → (forks at_ a b).length = 0 := by
    intro a b hab
    rw [forks, dif_neg (by omega)]; rfl
  have l2 : ∀ a b, b - a ≤ 2 → (forks at_ a b).length ≤ 1 := by
    intro a b hab
    rw [forks]
    split
    · rename_i h1
      have e : firstN (b - a) = 1 := by unfold firstN; rw [if_pos hab]
      rw [e]
      split
      · rw [List.length_cons, l1 _ _ (by omega)]; omega
      · rw [List.length_cons, l1 _ _ (by omega)]; omega
    · simp
  have l4 : ∀ a b, b - a ≤ 4 → (forks at_ a b).length ≤ 2 := by
    intro a b hab
    rw [forks]
    split
    · rename_i h1
      have e1 : firstN (b - a) ≤ 2 := by unfold firstN; split; omega; (first | omega | (split <;> omega))
      have e2 : b - a - firstN (b - a) ≤ 2 := by unfold firstN; split; omega; (first | omega | (split <;> omega))
      split
      · rw [List.length_cons]; have := l2 (a + firstN (b - a)) b (by omega); omega
      · rw [List.length_cons]; have := l2 a (a + firstN (b - a)) (by omega); omega
    · simp
  rw [forks]
  split
  · rename_i h1
    have e1 : firstN (high - low) ≤ 4 := by unfold firstN; split; omega; split <;> omega
    have e2 : high - low - firstN (high - low) ≤ 4 := by unfold firstN; split; omega; split <;> omega
    split
    · rw [List.length_cons]; have := l4 (low + firstN (high - low)) high (by omega); omega
    · rw [List.length_cons]; have := l4 low (low + firstN (high - low)) (by omega); omega
  · simp
end Go.Proofs.YtodiffgpefidoaaGreatDoor.P

