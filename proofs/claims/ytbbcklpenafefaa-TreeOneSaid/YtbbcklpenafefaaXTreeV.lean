/- slices.Reverse of a way's forks (three at most), by hand. -/
import Derived.Test.YtbbcklpenafefaaXTreeC
namespace Go.Proofs.Ytbbcklpenafefaa.P
open Go.RowKit Go.Proofs.YtbbcklpenafefaaW.PrintWords Go.Proofs.YtbbcklpenafefaaW.PrintLast Go.Proofs.YtbbcklpenafefaaW.PrintMore
set_option linter.unusedVariables false
set_option linter.unusedSimpArgs false
/-- A block holds forks, and whatever else behind them. -/
def HoldsF (W : World) (g : Nat) (fs : List Fk) (rest : List Value) : Prop := W.heap[g]? = some (.cells (cellsF fs ++ rest).toArray 59 (0, 0))
theorem holds_cell {W : World} {g : Nat} {fs : List Fk} {rest : List Value} (h : HoldsF W g fs rest) (i : Nat) : W.cell? ⟨g, i, none⟩ = (cellsF fs ++ rest)[i]? ∧ W.frozen? ⟨g, i, none⟩ = false := by
  unfold HoldsF at h
  constructor
  · unfold World.cell?
    simp only [h]
    simp
  · simp [World.frozen?, h]
theorem holds_set {W : World} {g : Nat} {cs : Array Value} {t : TypeId} (h : W.heap[g]? = some (.cells cs t (0, 0))) (i : Nat) (v : Value) : (W.setCell ⟨g, i, none⟩ v).heap[g]? = some (.cells (cs.setIfInBounds i v) t (0, 0)) := by
  obtain ⟨hlt, hk⟩ := Array.getElem?_eq_some_iff.1 h
  show (W.heap.modify g _)[g]? = _
  rw [Array.getElem?_eq_getElem (by rw [Array.size_modify]; exact hlt), Array.getElem_modify_self, hk]
  rfl
theorem grown_set {W W' : World} {g i : Nat} {v : Value} (h : W.grownBy W' (some g)) : W.grownBy (W'.setCell ⟨g, i, none⟩ v) (some g) :=
  ⟨h.os, h.tape, h.output, by have := h.size; simp [World.setCell]; exact this, fun k hk hne => (Below.heap_setCell W' ⟨g, i, none⟩ v k (fun e => hne (by rw [e]))).trans (h.block k hk hne)⟩
theorem grown_drew2 {W W' : World} {r : Option Nat} (h : W.grownBy W' r) : W.grownBy W'.drew r := ⟨h.os, h.tape, h.output, h.size, h.block⟩
theorem grown_self (W : World) (r : Option Nat) : W.grownBy W r := ⟨rfl, rfl, rfl, Nat.le_refl _, fun _ _ _ => rfl⟩
/-- A block's cells. -/
def CellsAt (W : World) (g : Nat) (cs : Array Value) : Prop := W.heap[g]? = some (.cells cs 59 (0, 0))
theorem cellsAt_set {W : World} {g : Nat} {cs : Array Value} (h : CellsAt W g cs) (i : Nat) (v : Value) : CellsAt (W.setCell ⟨g, i, none⟩ v) g (cs.setIfInBounds i v) := holds_set h i v
theorem cellsAt_drew {W : World} {g : Nat} {cs : Array Value} (h : CellsAt W g cs) : CellsAt W.drew g cs := h
theorem holds_of {W : World} {g : Nat} {cs : Array Value} {fs : List Fk} {rest : List Value} (h : CellsAt W g cs) (e : cs = (cellsF fs ++ rest).toArray) : HoldsF W g fs rest := by subst e; exact h
set_option maxRecDepth 100000 in
set_option maxHeartbeats 4000000 in
theorem rev_two (g cap : Nat) (x y : Fk) (rest : List Value) (W : World) (h : HoldsF W g [x, y] rest) :
    Calls Try.prog 45 #[.slice (some ⟨g, 0, none⟩) 2 cap] W fun e W' => e = .returned (.tuple #[]) ∧ HoldsF W' g [y, x] rest ∧ W.grownBy W' (some g) := by
  obtain ⟨x0, x1, x2⟩ := x
  obtain ⟨y0, y1, y2⟩ := y
  have c0 := (holds_cell h 0).1
  have c1 := (holds_cell h 1).1
  have c2 := (holds_cell h 2).1
  have c3 := (holds_cell h 3).1
  have c4 := (holds_cell h 4).1
  have c5 := (holds_cell h 5).1
  have f0 := (holds_cell h 0).2
  have f1 := (holds_cell h 1).2
  have f2 := (holds_cell h 2).2
  have f3 := (holds_cell h 3).2
  have f4 := (holds_cell h 4).2
  have f5 := (holds_cell h 5).2
  simp only [cellsF, List.map_cons, List.map_nil, List.flatten_cons, List.flatten_nil, List.append_nil, List.cons_append, List.nil_append, List.getElem?_cons_zero, List.getElem?_cons_succ] at c0 c1 c2 c3 c4 c5
  have HH := Lib.hid h
  clear h
  go_enter Try.func45, Try.ntmps45
  go_wp2
  go_loopw [2, 3] (fun i j wr => (i = .int .i64 0 ∧ j = .int .i64 1 ∧ wr = W) ∨ (i = .int .i64 1 ∧ j = .int .i64 0 ∧ Hid (HoldsF wr g [⟨y0, y1, y2⟩, ⟨x0, x1, x2⟩] rest ∧ W.grownBy wr (some g)))) (fun i j _ => (intOf j - intOf i + 1).toNat)
  case atStart => exact .inl ⟨rfl, rfl, rfl⟩
  case round =>
    rcases hrel with ⟨rfl, rfl, rfl⟩ | ⟨rfl, rfl, HW⟩
    · go_wp2
      go_region
      go_wp2
      refine ⟨.inr ⟨rfl, rfl, Lib.hid ⟨?_, ?_⟩⟩, by simp [intOf]⟩
      · refine holds_of (cellsAt_drew (cellsAt_set (cellsAt_set (cellsAt_set (cellsAt_set (cellsAt_set (cellsAt_set (show CellsAt wr g _ from HH.out) _ _) _ _) _ _) _ _) _ _) _ _)) ?_
        simp only [cellsF, List.map_cons, List.map_nil, List.flatten_cons, List.flatten_nil, List.append_nil, List.cons_append, List.nil_append, List.setIfInBounds_toArray, List.set_cons_zero, List.set_cons_succ]
      · exact grown_drew2 (grown_set (grown_set (grown_set (grown_set (grown_set (grown_set (grown_self _ _)))))))
    · go_wp2
      go_end0
      exact ⟨rfl, HW.out⟩
set_option maxRecDepth 100000 in
set_option maxHeartbeats 4000000 in
theorem rev_three (g cap : Nat) (x z y : Fk) (rest : List Value) (W : World) (h : HoldsF W g [x, z, y] rest) :
    Calls Try.prog 45 #[.slice (some ⟨g, 0, none⟩) 3 cap] W fun e W' => e = .returned (.tuple #[]) ∧ HoldsF W' g [y, z, x] rest ∧ W.grownBy W' (some g) := by
  obtain ⟨x0, x1, x2⟩ := x
  obtain ⟨y0, y1, y2⟩ := y
  obtain ⟨z0, z1, z2⟩ := z
  have c0 := (holds_cell h 0).1
  have c1 := (holds_cell h 1).1
  have c2 := (holds_cell h 2).1
  have c6 := (holds_cell h 6).1
  have c7 := (holds_cell h 7).1
  have c8 := (holds_cell h 8).1
  have f0 := (holds_cell h 0).2
  have f1 := (holds_cell h 1).2
  have f2 := (holds_cell h 2).2
  have f6 := (holds_cell h 6).2
  have f7 := (holds_cell h 7).2
  have f8 := (holds_cell h 8).2
  simp only [cellsF, List.map_cons, List.map_nil, List.flatten_cons, List.flatten_nil, List.append_nil, List.cons_append, List.nil_append, List.getElem?_cons_zero, List.getElem?_cons_succ] at c0 c1 c2 c6 c7 c8
  have HH := Lib.hid h
  clear h
  go_enter Try.func45, Try.ntmps45
  go_wp2
  go_loopw [2, 3] (fun i j wr => (i = .int .i64 0 ∧ j = .int .i64 2 ∧ wr = W) ∨ (i = .int .i64 1 ∧ j = .int .i64 1 ∧ Hid (HoldsF wr g [⟨y0, y1, y2⟩, ⟨z0, z1, z2⟩, ⟨x0, x1, x2⟩] rest ∧ W.grownBy wr (some g)))) (fun i j _ => (intOf j - intOf i + 1).toNat)
  case atStart => exact .inl ⟨rfl, rfl, rfl⟩
  case round =>
    rcases hrel with ⟨rfl, rfl, rfl⟩ | ⟨rfl, rfl, HW⟩
    · go_wp2
      go_region
      go_wp2
      refine ⟨.inr ⟨rfl, rfl, Lib.hid ⟨?_, ?_⟩⟩, by simp [intOf]⟩
      · refine holds_of (cellsAt_drew (cellsAt_set (cellsAt_set (cellsAt_set (cellsAt_set (cellsAt_set (cellsAt_set (show CellsAt wr g _ from HH.out) _ _) _ _) _ _) _ _) _ _) _ _)) ?_
        simp only [cellsF, List.map_cons, List.map_nil, List.flatten_cons, List.flatten_nil, List.append_nil, List.cons_append, List.nil_append, List.setIfInBounds_toArray, List.set_cons_zero, List.set_cons_succ]
      · exact grown_drew2 (grown_set (grown_set (grown_set (grown_set (grown_set (grown_set (grown_self _ _)))))))
    · go_wp2
      go_end0
      exact ⟨rfl, HW.out⟩
theorem cellsF_len (fs : List Fk) : (cellsF fs).length = fs.length * 3 := by
  induction fs with
  | nil => rfl
  | cons x r ih => rw [show cellsF (x :: r) = [Value.int .i64 x.f0, Value.int .i64 x.f1, Value.bool x.f2] ++ cellsF r from rfl, List.length_append, ih, List.length_cons, List.length_cons, List.length_cons, List.length_cons, List.length_nil]; omega
theorem cellsF_at : ∀ (fs : List Fk) (j : Nat) (x : Fk), fs[j]? = some x → (cellsF fs)[j * 3]? = some (.int .i64 x.f0) ∧ (cellsF fs)[j * 3 + 1]? = some (.int .i64 x.f1) ∧ (cellsF fs)[j * 3 + 2]? = some (.bool x.f2)
  | [], j, x, h => by simp at h
  | y :: r, 0, x, h => by
    have : y = x := by simpa using h
    subst this
    exact ⟨rfl, rfl, rfl⟩
  | y :: r, j + 1, x, h => by
    have h' : r[j]? = some x := by simpa using h
    obtain ⟨a, b, c⟩ := cellsF_at r j x h'
    rw [show cellsF (y :: r) = [Value.int .i64 y.f0, Value.int .i64 y.f1, Value.bool y.f2] ++ cellsF r from rfl]
    have key : ∀ k, ([Value.int .i64 y.f0, Value.int .i64 y.f1, Value.bool y.f2] ++ cellsF r)[k + 3]? = (cellsF r)[k]? := fun k => by simp
    rw [show (j + 1) * 3 = j * 3 + 3 from by omega, key, show j * 3 + 3 + 1 = (j * 3 + 1) + 3 from by omega, key, show j * 3 + 3 + 2 = (j * 3 + 2) + 3 from by omega, key]
    exact ⟨a, b, c⟩
theorem rev_one (g cap : Nat) (W : World) : Calls Try.prog 45 #[.slice (some ⟨g, 0, none⟩) 1 cap] W fun e W' => e = .returned (.tuple #[]) ∧ W' = W := by
  go_enter Try.func45, Try.ntmps45
  go_wp2
  go_loopw [2, 3] (fun i j wr => i = .int .i64 0 ∧ j = .int .i64 0 ∧ wr = W) (fun i j _ => 0)
  case atStart => exact ⟨rfl, rfl, rfl⟩
  case round =>
    obtain ⟨rfl, rfl, rfl⟩ := hrel
    go_wp2
    go_end0
    exact ⟨rfl, rfl⟩
theorem rev_nil (W : World) : Calls Try.prog 45 #[.slice none 0 0] W fun e W' => e = .returned (.tuple #[]) ∧ W' = W := by
  go_enter Try.func45, Try.ntmps45
  go_wp2
  go_loopw [2, 3] (fun i j wr => i = .int .i64 0 ∧ j = .int .i64 (-1) ∧ wr = W) (fun i j _ => 0)
  case atStart => exact ⟨rfl, by go_num, rfl⟩
  case round =>
    obtain ⟨rfl, rfl, rfl⟩ := hrel
    go_wp2
    go_end0
    exact ⟨rfl, rfl⟩
theorem owns_of {W : World} {base g cap : Nat} {fs : List Fk} {rest : List Value} (h : HoldsF W g fs rest) (hb : base ≤ g) (hc : fs.length ≤ cap) (hm : cap ≤ maxLen) (hr : (cellsF fs ++ rest).length = cap * 3) :
    W.ownsRow base 59 3 (.slice (some ⟨g, 0, none⟩) fs.length cap) fs.length (cellsF fs) :=
  ⟨cellsF_len fs, .inr ⟨g, cap, _, rfl, hb, h, hc, hm, by simpa using hr, by rw [List.toList_toArray, ← cellsF_len, List.take_left]⟩⟩
/-- slices.Reverse of forks that the call owns, three at most. -/
theorem rev_calls (fs : List Fk) (hn : fs.length ≤ 3) (v : Value) (base : Nat) (W : World) (h : W.ownsRow base 59 3 v fs.length (cellsF fs)) (hnil : v = .slice none 0 0 ↔ fs.length = 0) :
    Calls Try.prog 45 #[v] W fun e W' => e = .returned (.tuple #[]) ∧ W'.ownsRow base 59 3 v fs.length (cellsF fs.reverse) ∧ W.grownBy W' v.ownBlock := by
  rcases h.2 with ⟨rfl, h0⟩ | ⟨g, cap, cur, rfl, hbg, hgb, hnc, hcm, hcs, htake⟩
  · obtain rfl := List.eq_nil_of_length_eq_zero h0
    refine (rev_nil W).mono ?_
    rintro e W' ⟨rfl, rfl⟩
    exact ⟨rfl, h, grown_self _ _⟩
  · have hcur : cur = (cellsF fs ++ cur.toList.drop (fs.length * 3)).toArray := by
      rw [← htake, List.take_append_drop]
    have hlen : (cellsF fs ++ cur.toList.drop (fs.length * 3)).length = cap * 3 := by rw [← hcs, ← htake, List.take_append_drop, Array.length_toList]
    have hH : HoldsF W g fs (cur.toList.drop (fs.length * 3)) := by
      unfold HoldsF
      rw [← hcur]
      exact hgb
    generalize cur.toList.drop (fs.length * 3) = rest at hH hlen
    have hr : ∀ gs : List Fk, gs.length = fs.length → (cellsF gs ++ rest).length = cap * 3 := by
      intro gs hg
      rw [← hlen, List.length_append, List.length_append, cellsF_len, cellsF_len, hg]
    match fs, hn, h, hnil, hH, hnc, hr with
    | [], _, h, hnil, _, _, _ => exact absurd (hnil.mpr rfl) (by simp)
    | [x], _, h, _, _, _, _ =>
      refine (rev_one g cap W).mono ?_
      rintro e W' ⟨rfl, rfl⟩
      exact ⟨rfl, h, grown_self _ _⟩
    | [x, y], _, h, _, hH, hnc, hr =>
      refine (rev_two g cap x y rest W hH).mono ?_
      rintro e W' ⟨rfl, h1, h2⟩
      exact ⟨rfl, owns_of h1 hbg hnc hcm (hr _ rfl), h2⟩
    | [x, y, z], _, h, _, hH, hnc, hr =>
      refine (rev_three g cap x y z rest W hH).mono ?_
      rintro e W' ⟨rfl, h1, h2⟩
      exact ⟨rfl, owns_of h1 hbg hnc hcm (hr _ rfl), h2⟩
    | _ :: _ :: _ :: _ :: _, hn, _, _, _, _, _ => simp at hn
end Go.Proofs.Ytbbcklpenafefaa.P
