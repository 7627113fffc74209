/- Slimmed by wip/slim.py. -/
import Derived.Test.YtodiffgpefidoaaGreatDoorXTreeC
namespace Go.Proofs.YtodiffgpefidoaaGreatDoor.P
open Go.RowKit Go.Proofs.YtodiffgpefidoaaGreatDoorW.PrintWords Go.Proofs.YtodiffgpefidoaaGreatDoorW.PrintLast Go.Proofs.YtodiffgpefidoaaGreatDoorW.PrintMore
set_option linter.unusedVariables false
set_option linter.unusedSimpArgs false
def HoldsF (W : World) (g : Nat) (fs : List Fk) (rest : List Value) : Prop := W.heap[g]? = some (.cells (cellsF fs ++ rest).toArray 86 (0, 0))
theorem holds_cell {W : World} {g : Nat} {fs : List Fk} {rest : List Value} (h : HoldsF W g fs rest) (i : Nat) : W.cell? ⟨g, i, none⟩ = (cellsF fs ++ rest)[i]? ∧ W.frozen? ⟨g, i, none⟩ = false := by
  unfold HoldsF at h
  constructor
  · unfold World.cell?
    simp only [h]
    simp
  · simp [World.frozen?, h]
theorem holds_set {W : World} {g : Nat} {cs : Array Value} {t : TypeId} (h : W.heap[g]? = some (.cells cs t (0, 0))) (i : Nat) (v : Value) : (W.setCell ⟨g, i, none⟩ v).heap[g]? = some (.cells (cs.setIfInBounds i v) t (0, 0)) := by
  obtain ⟨hlt, hk⟩ := Array.getElem?_eq_some_iff.1 h
  show (W.heap.modify g _)[g]? = _
  rw [Array.getElem?_eq_getElem (by rw [Array.size_modify]; exact hlt), Array.getElem_modify_self, hk]
  rfl
theorem grown_set {W W' : World} {g i : Nat} {v : Value} (h : W.grownBy W' (some g)) : W.grownBy (W'.setCell ⟨g, i, none⟩ v) (some g) :=
  ⟨h.os, h.tape, h.output, by have := h.size; simp [World.setCell]; exact this, fun k hk hne => (Below.heap_setCell W' ⟨g, i, none⟩ v k (fun e => hne (by rw [e]))).trans (h.block k hk hne)⟩
theorem grown_drew2 {W W' : World} {r : Option Nat} (h : W.grownBy W' r) : W.grownBy W'.drew r := ⟨h.os, h.tape, h.output, h.size, h.block⟩
theorem grown_self (W : World) (r : Option Nat) : W.grownBy W r := ⟨rfl, rfl, rfl, Nat.le_refl _, fun _ _ _ => rfl⟩
def CellsAt (W : World) (g : Nat) (cs : Array Value) : Prop := W.heap[g]? = some (.cells cs 86 (0, 0))
theorem cellsAt_set {W : World} {g : Nat} {cs : Array Value} (h : CellsAt W g cs) (i : Nat) (v : Value) : CellsAt (W.setCell ⟨g, i, none⟩ v) g (cs.setIfInBounds i v) := holds_set h i v
theorem cellsAt_drew {W : World} {g : Nat} {cs : Array Value} (h : CellsAt W g cs) : CellsAt W.drew g cs := h
theorem holds_of {W : World} {g : Nat} {cs : Array Value} {fs : List Fk} {rest : List Value} (h : CellsAt W g cs) (e : cs = (cellsF fs ++ rest).toArray) : HoldsF W g fs rest := by subst e; exact h
set_option maxRecDepth 100000 in
set_option maxHeartbeats 4000000 in
theorem rev_two (g cap : Nat) (x y : Fk) (rest : List Value) (W : World) (h : HoldsF W g [x, y] rest) :
    Calls Tryz.prog 77 #[.slice (some ⟨g, 0, none⟩) 2 cap] W fun e W' => e = .returned (.tuple #[]) ∧ HoldsF W' g [y, x] rest ∧ W.grownBy W' (some g) := by
  obtain ⟨x0, x1, x2⟩ := x
  obtain ⟨y0, y1, y2⟩ := y
  have c0 := (holds_cell h 0).1
  have c1 := (holds_cell h 1).1
  have c2 := (holds_cell h 2).1
  have c3 := (holds_cell h 3).1
  have c4 := (holds_cell h 4).1
  have c5 := (holds_cell h 5).1
  have f0 := (holds_cell h 0).2
  have f1 := (holds_cell h 1).2
  have f2 := (holds_cell h 2).2
  have f3 := (holds_cell h 3).2
  have f4 := (holds_cell h 4).2
  have f5 := (holds_cell h 5).2
  simp only [cellsF, List.map_cons, List.map_nil, List.flatten_cons, List.flatten_nil, List.append_nil, List.cons_append, List.nil_append, List.getElem?_cons_zero, List.getElem?_cons_succ] at c0 c1 c2 c3 c4 c5
  have HH := Lib.hid h
  clear h
  go_enter Tryz.func77, Tryz.ntmps77
  go_wp2
  go_loopw [2, 3] (fun i j wr => (i = .int .i64 0 ∧ j = .int .i64 1 ∧ wr = W) ∨ (i = .int .i64 1 ∧ j = .int .i64 0 ∧ Hid (HoldsF wr g [⟨y0, y1, y2⟩, ⟨x0, x1, x2⟩] rest ∧ W.grownBy wr (some g)))) (fun i j _ => (intOf j - intOf i + 1).toNat)
  case atStart => exact .inl ⟨rfl, rfl, rfl⟩
  case round =>
    rcases hrel with ⟨rfl, rfl, rfl⟩ | ⟨rfl, rfl, HW⟩
    · go_wp2
      go_region
      go_wp2
      refine ⟨.inr ⟨rfl, rfl, Lib.hid ⟨?_, ?_⟩⟩, by simp [intOf]⟩
      · refine holds_of (cellsAt_drew (cellsAt_set (cellsAt_set (cellsAt_set (cellsAt_set (cellsAt_set (cellsAt_set (show CellsAt wr g _ from HH.out) _ _) _ _) _ _) _ _) _ _) _ _)) ?_
        simp only [cellsF, List.map_cons, List.map_nil, List.flatten_cons, List.flatten_nil, List.append_nil, List.cons_append, List.nil_append, List.setIfInBounds_toArray, List.set_cons_zero, List.set_cons_succ]
      · exact grown_drew2 (grown_set (grown_set (grown_set (grown_set (grown_set (grown_set (grown_self _ _)))))))
    · go_wp2
      go_end0
      exact ⟨rfl, HW.out⟩
set_option maxRecDepth 100000 in
set_option maxHeartbeats 4000000 in
theorem rev_three (g cap : Nat) (x z y : Fk) (rest : List Value) (W : World) (h : HoldsF W g [x, z, y] rest) :
    Calls Tryz.prog 77 #[.slice (some ⟨g, 0, none⟩) 3 cap] W fun e W' => e = .returned (.tuple #[]) ∧ HoldsF W' g [y, z, x] rest ∧ W.grownBy W' (some g) := by
  obtain ⟨x0, x1, x2⟩ := x
  obtain ⟨y0, y1, y2⟩ := y
  obtain ⟨z0, z1, z2⟩ := z
  have c0 := (holds_cell h 0).1
  have c1 := (holds_cell h 1).1
  have c2 := (holds_cell h 2).1
  have c6 := (holds_cell h 6).1
  have c7 := (holds_cell h 7).1
  have c8 := (holds_cell h 8).1
  have f0 := (holds_cell h 0).2
  have f1 := (holds_cell h 1).2
  have f2 := (holds_cell h 2).2
  have f6 := (holds_cell h 6).2
  have f7 := (holds_cell h 7).2
  have f8 := (holds_cell h 8).2
  simp only [cellsF, List.map_cons, List.map_nil, List.flatten_cons, List.flatten_nil, List.append_nil, List.cons_append, List.nil_append, List.getElem?_cons_zero, List.getElem?_cons_succ] at c0 c1 c2 c6 c7 c8
  have HH := Lib.hid h
  clear h
  go_enter Tryz.func77, Tryz.ntmps77
  go_wp2
  go_loopw [2, 3] (fun i j wr => (i = .int .i64 0 ∧ j = .int .i64 2 ∧ wr = W) ∨ (i = .int .i64 1 ∧ j = .int .i64 1 ∧ Hid (HoldsF wr g [⟨y0, y1, y2⟩, ⟨z0, z1, z2⟩, ⟨x0, x1, x2⟩] rest ∧ W.grownBy wr (some g)))) (fun i j _ => (intOf j - intOf i + 1).toNat)
  case atStart => exact .inl ⟨rfl, rfl, rfl⟩
  case round =>
    rcases hrel with ⟨rfl, rfl, rfl⟩ | ⟨rfl, rfl, HW⟩
    · go_wp2
      go_region
      go_wp2
      refine ⟨.inr ⟨rfl, rfl, Lib.hid ⟨?_, ?_⟩⟩, by simp [intOf]⟩
      · refine holds_of (cellsAt_drew (cellsAt_set (cellsAt_set (cellsAt_set (cellsAt_set (cellsAt_set (cellsAt_set (show CellsAt wr g _ from HH.out) _ _) _ _) _ _) _ _) _ _) _ _)) ?_
        simp only [cellsF, List.map_cons, List.map_nil, List.flatten_cons, List.flatten_nil, List.append_nil, List.cons_append, List.nil_append, List.setIfInBounds_toArray, List.set_cons_zero, List.set_cons_succ]
      · exact grown_drew2 (grown_set (grown_set (grown_set (grown_set (grown_set (grown_set (grown_self _ _)))))))
    · go_wp2
      go_end0
      exact ⟨rfl, HW.out⟩
theorem cellsF_len (fs : List Fk) : (cellsF fs).length = fs.length * 3 := by
  induction fs with
  | nil => rfl
  | cons x r ih => rw [show cellsF (x :: r) = [Value.int .i64 x.f0, Value.int .i64 x.f1, Value.bool x.f2] ++ cellsF r from rfl, List.length_append, ih, List.length_cons, List.length_cons, List.length_cons, List.length_cons, List.length_nil]; omega
theorem cellsF_at : ∀ (fs : List Fk) (j : Nat) (x : Fk), fs[j]? = some x → (cellsF fs)[j * 3]? = some (.int .i64 x.f0) ∧ (cellsF fs)[j * 3 + 1]? = some (.int .i64 x.f1) ∧ (cellsF fs)[j * 3 + 2]? = some (.bool x.f2)
  | [], j, x, h => by simp at h
  | y :: r, 0, x, h => by
    have : y = x := by simpa using h
    subst this
    exact ⟨rfl, rfl, rfl⟩
  | y :: r, j + 1, x, h => by
    have h' : r[j]? = some x := by simpa using h
    obtain ⟨a, b, c⟩ := cellsF_at r j x h'
    rw [show cellsF (y :: r) = [Value.int .i64 y.f0, Value.int .i64 y.f1, Value.bool y.f2] ++ cellsF r from rfl]
    have key : ∀ k, ([Value.int .i64 y.f0, Value.int .i64 y.f1, Value.bool y.f2] ++ cellsF r)[k + 3]? = (cellsF r)[k]? := fun k => by simp
    rw [show (j + 1) * 3 = j * 3 + 3 from by omega, key, show j * 3 + 3 + 1 = (j * 3 + 1) + 3 from by omega, key, show j * 3 + 3 + 2 = (j * 3 + 2) + 3 from by omega, key]
    exact ⟨a, b, c⟩
theorem rev_one (g cap : Nat) (W : World) : Calls Tryz.prog 77 #[.slice (some ⟨g, 0, none⟩) 1 cap] W fun e W' => e = .returned (.tuple #[]) ∧ W' = W := by
  go_enter Tryz.func77, Tryz.ntmps77
  go_wp2
  go_loopw [2, 3] (fun i j wr => i = .int .i64 0 ∧ j = .int .i64 0 ∧ wr = W) (fun i j _ => 0)
  case atStart => exact ⟨rfl, rfl, rfl⟩
  case round =>
    obtain ⟨rfl, rfl, rfl⟩ := hrel
    go_wp2
    go_end0
    exact ⟨rfl, rfl⟩
theorem rev_nil (W : World) : Calls Tryz.prog 77 #[.slice none 0 0] W fun e W' => e = .returned (.tuple #[]) ∧ W' = W := by
  go_enter Tryz.func77, Tryz.ntmps77
  go_wp2
  go_loopw [2, 3] (fun i j wr => i = .int .i64 0 ∧ j = .int .i64 (-1) ∧ wr = W) (fun i j _ => 0)
  case atStart => exact ⟨rfl, by go_num, rfl⟩
  case round =>
    obtain ⟨rfl, rfl, rfl⟩ := hrel
    go_wp2
    go_end0
    exact ⟨rfl, rfl⟩
theorem owns_of {W : World} {base g cap : Nat} {fs : List Fk} {rest : List Value} (h : HoldsF W g fs rest) (hb : base ≤ g) (hc : fs.length ≤ cap) (hm : cap ≤ maxLen) (hr : (cellsF fs ++ rest).length = cap * 3) :
    W.ownsRow base 86 3 (.slice (some ⟨g, 0, none⟩) fs.length cap) fs.length (cellsF fs) :=
  ⟨cellsF_len fs, .inr ⟨g, cap, _, rfl, hb, h, hc, hm, by simpa using hr, by rw [List.toList_toArray, ← cellsF_len, List.take_left]⟩⟩
theorem rev_calls (fs : List Fk) (hn : fs.length ≤ 3) (v : Value) (base : Nat) (W : World) (h : W.ownsRow base 86 3 v fs.length (cellsF fs)) (hnil : v = .slice none 0 0 ↔ fs.length = 0) :
    Calls Tryz.prog 77 #[v] W fun e W' => e = .returned (.tuple #[]) ∧ W'.ownsRow base 86 3 v fs.length (cellsF fs.reverse) ∧ W.grownBy W' v.ownBlock := by
  rcases h.2 with ⟨rfl, h0⟩ | ⟨g, cap, cur, rfl, hbg, hgb, hnc, hcm, hcs, htake⟩
  · obtain rfl := List.eq_nil_of_length_eq_zero h0
    refine (rev_nil W).mono ?_
    rintro e W' ⟨rfl, rfl⟩
    exact ⟨rfl, h, grown_self _ _⟩
  · have hcur : cur = (cellsF fs ++ cur.toList.drop (fs.length * 3)).toArray := by
      rw [← htake, List.take_append_drop]
    have hlen : (cellsF fs ++ cur.toList.drop (fs.length * 3)).length = cap * 3 := by rw [← hcs, ← htake, List.take_append_drop, Array.length_toList]
    have hH : HoldsF W g fs (cur.toList.drop (fs.length * 3)) := by
      unfold HoldsF
      rw [← hcur]
      exact hgb
    generalize cur.toList.drop (fs.length * 3) = rest at hH hlen
    have hr : ∀ gs : List Fk, gs.length = fs.length → (cellsF gs ++ rest).length = cap * 3 := by
      intro gs hg
      rw [← hlen, List.length_append, List.length_append, cellsF_len, cellsF_len, hg]
    match fs, hn, h, hnil, hH, hnc, hr with
    | [], _, h, hnil, _, _, _ => exact absurd (hnil.mpr rfl) (by simp)
    | [x], _, h, _, _, _, _ =>
      refine (rev_one g cap W).mono ?_
      rintro e W' ⟨rfl, rfl⟩
      exact ⟨rfl, h, grown_self _ _⟩
    | [x, y], _, h, _, hH, hnc, hr =>
      refine (rev_two g cap x y rest W hH).mono ?_
      rintro e W' ⟨rfl, h1, h2⟩
      exact ⟨rfl, owns_of h1 hbg hnc hcm (hr _ rfl), h2⟩
    | [x, y, z], _, h, _, hH, hnc, hr =>
      refine (rev_three g cap x y z rest W hH).mono ?_
      rintro e W' ⟨rfl, h1, h2⟩
      exact ⟨rfl, owns_of h1 hbg hnc hcm (hr _ rfl), h2⟩
    | _ :: _ :: _ :: _ :: _, hn, _, _, _, _, _ => simp at hn
end Go.Proofs.YtodiffgpefidoaaGreatDoor.P
namespace Go.Proofs.YtodiffgpefidoaaGreatDoor.P
open Go.RowKit Go.Proofs.YtodiffgpefidoaaGreatDoorW.PrintWords Go.Proofs.YtodiffgpefidoaaGreatDoorW.PrintLast Go.Proofs.YtodiffgpefidoaaGreatDoorW.PrintMore
set_option linter.unusedVariables false
set_option linter.unusedSimpArgs false
def upL : List Fk → List (List UInt8) → List UInt8 × Int → List UInt8 × Int
  | f :: fs, p :: ps, u => if u.2 = 0 then upL fs ps (if f.f2 then overL p u.1 else overL u.1 p) else u
  | _, _, u => u
def verifyT (root : List UInt8) (many at_ : Int) (t : List UInt8) (ps : List (List UInt8)) : Bool :=
  if many < 1 ∨ 8 < many ∨ at_ < 0 ∨ many ≤ at_ ∨ leafL t = false then false
  else if (forks at_.toNat 0 many.toNat).length ≠ ps.length then false
  else decide ((upL (forks at_.toNat 0 many.toNat).reverse ps (ofL [104] [t])).2 = 0 ∧ (upL (forks at_.toNat 0 many.toNat).reverse ps (ofL [104] [t])).1 = root)
def tree_Verify.f (k : Nat) (a0 : ByteArray) (a1 : Int) (a2 : Int) (a3 : ByteArray) (l4 : List ByteArray) : Option Bool := some (verifyT (S a0) a1 a2 (S a3) (l4.map S))
theorem upL_err {fs : List Fk} {ps : List (List UInt8)} {u : List UInt8 × Int} (h : ¬ u.2 = 0) : upL fs ps u = u := by
  cases fs with
  | nil => rfl
  | cons f fs => cases ps with
    | nil => rfl
    | cons p ps => rw [upL, if_neg h]
theorem upL_step {fs : List Fk} {ps : List (List UInt8)} {u : List UInt8 × Int} {j : Nat} {f : Fk} {p : List UInt8} (hf : fs[j]? = some f) (hp : ps[j]? = some p) (h : u.2 = 0) :
    upL (fs.drop j) (ps.drop j) u = upL (fs.drop (j + 1)) (ps.drop (j + 1)) (if f.f2 then overL p u.1 else overL u.1 p) := by
  obtain ⟨h1, h2⟩ := List.getElem?_eq_some_iff.mp hf
  obtain ⟨h3, h4⟩ := List.getElem?_eq_some_iff.mp hp
  rw [List.drop_eq_getElem_cons h1, List.drop_eq_getElem_cons h3, h2, h4, upL, if_pos h]
theorem over_calls (a b : ByteArray) (w : World) : Calls Tryz.prog 79 #[.string a, .string b] w fun e w' => e = .returned (.tuple #[.string (B (overL (S a) (S b)).1), .int .i64 (overL (S a) (S b)).2]) ∧ Below w.heap.size w w' := by
  have h := tree_over.of (S a) (S b)
  rw [B_S, B_S] at h
  exact tree_over.calls a b _ _ w h
theorem hash_calls (t : ByteArray) (w : World) : Calls Tryz.prog 78 #[.string t] w fun e w' => e = .returned (.tuple #[.string (B (ofL [104] [S t]).1), .int .i64 (ofL [104] [S t]).2]) ∧ Below w.heap.size w w' := by
  have h := term_OfHash.of (S t)
  rw [B_S] at h
  exact term_OfHash.calls t _ _ w h
theorem fork_at {W : World} {base g cap : Nat} {fs : List Fk} {n : Nat} (h : W.ownsRow base 86 3 (.slice (some ⟨g, 0, none⟩) n cap) n (cellsF fs)) {j : Nat} {x : Fk} (hx : fs[j]? = some x) :
    W.cell? ⟨g, j * 3, none⟩ = some (.int .i64 x.f0) ∧ W.cell? ⟨g, j * 3 + 1, none⟩ = some (.int .i64 x.f1) ∧ W.cell? ⟨g, j * 3 + 2, none⟩ = some (.bool x.f2) := by
  obtain ⟨a, b, c⟩ := cellsF_at fs j x hx
  have hc := h.cells (g := g) rfl
  have ha : ∀ i, (⟨g, 0, none⟩ : Addr).add i = ⟨g, i, none⟩ := fun i => by unfold Addr.add; split <;> simp_all
  have h0 := hc _ _ a
  have h1 := hc _ _ b
  have h2 := hc _ _ c
  rw [ha] at h0 h1 h2
  exact ⟨h0, h1, h2⟩
set_option maxRecDepth 100000 in
set_option maxHeartbeats 4000000 in
theorem Verify_ok (root t : ByteArray) (many at_ : Nat) (A4 : Option Addr) (c4 : Nat) (l4 : List ByteArray) (w : World) (hr4 : Kd.C Kd.string w A4 l4.length l4) (hc4 : l4.length ≤ c4) (h1 : 1 ≤ many) (h8 : many ≤ 8) (hat : at_ < many) (hleaf : leafL (S t) = true) :
    Calls Tryz.prog 44 #[.string root, .int .i64 (many : Int), .int .i64 (at_ : Int), .string t, .slice A4 l4.length c4] w fun e w' => e = .returned (.bool (verifyT (S root) (many : Int) (at_ : Int) (S t) (l4.map S))) ∧ Below w.heap.size w w' := by
  have HV : Hid (verifyT (S root) (many : Int) (at_ : Int) (S t) (l4.map S) = (if (forks at_ 0 many).length ≠ l4.length then false else decide ((upL (forks at_ 0 many).reverse (l4.map S) (ofL [104] [S t])).2 = 0 ∧ (upL (forks at_ 0 many).reverse (l4.map S) (ofL [104] [S t])).1 = S root))) := Lib.hid (by
    rw [verifyT, if_neg (by rw [hleaf]; simp; omega), Int.toNat_natCast, Int.toNat_natCast, List.length_map])
  have hlf := tree_leaf.of t
  rw [hleaf] at hlf
  have K0 := Lib.hid (tree_leaf.calls t true w hlf)
  have HC := Lib.hid hr4
  have f1 : ((many : Int) < 1) = False := eq_false (by omega)
  have f2 : ((8 : Int) < (many : Int)) = False := eq_false (by omega)
  have f3 : ((at_ : Int) < 0) = False := eq_false (by omega)
  have f4 : ((many : Int) ≤ (at_ : Int)) = False := eq_false (by omega)
  obtain ⟨fs, hfs⟩ : ∃ fs, fs = forks at_ 0 many := ⟨_, rfl⟩
  have hf3 : fs.length ≤ 3 := by rw [hfs]; exact forks_len8 at_ 0 many (by omega)
  have HCo := Lib.hid (collect_calls many at_ h8 hat)
  rw [← hfs] at HV HCo
  have HF3 := Lib.hid hf3
  clear hr4 hlf hf3 hfs hleaf
  go_enter Tryz.func44, Tryz.ntmps44
  go_wp2_with (fail)
  refine K0.out.mono ?_
  rintro e w1 ⟨rfl, hb1⟩
  have HB1 := Lib.hid hb1
  clear hb1
  go_wp2_with (fail)
  refine (way_calls (many : Int) (at_ : Int) w1).mono ?_
  rintro e w2 ⟨rfl, hw2⟩
  have hB2 : Boxed w2 w1.heap.size 3 (.int .i64 (many : Int)) := by rw [hw2]; exact (Boxed.new _ _ _).alloc _
  have hB3 : Boxed w2 (w1.heap.size + 1) 3 (.int .i64 (at_ : Int)) := by
    rw [hw2]
    have h := Boxed.new (w1.alloc (.cells #[.int .i64 (many : Int)] 3)) 3 (.int .i64 (at_ : Int))
    rw [World.size_alloc] at h
    exact h
  have hb2 : Below w1.heap.size w1 w2 := by rw [hw2]; exact ((Below.refl _ _).alloc (Nat.le_refl _) _).alloc (by simp) _
  have HB2 := Lib.hid (HB1.out.trans (hb2.mono HB1.out.size))
  have HX2 := Lib.hid hB2
  have HX3 := Lib.hid hB3
  clear hw2 hB2 hB3 hb2
  go_wp2_with (fail)
  refine (HCo.out w1.heap.size w2 HX2.out HX3.out).mono ?_
  rintro e w3 ⟨v, rfl, hown, hnil, hb3⟩
  obtain ⟨A, cap, rfl⟩ : ∃ A cap, v = .slice A fs.length cap := by
    rcases hown.2 with ⟨rfl, h0⟩ | ⟨g, cap, cur, rfl, _⟩
    · exact ⟨none, 0, by rw [h0]⟩
    · exact ⟨_, cap, rfl⟩
  have HOwn := Lib.hid hown
  have HNil := Lib.hid hnil
  have HB3 := Lib.hid (HB2.out.trans (hb3.mono HB2.out.size))
  have HSz := Lib.hid HB2.out.size
  clear hown hnil hb3
  by_cases hlen : fs.length = l4.length
  · have g1 : ((fs.length : Int) != (l4.length : Int)) = false := bne_eq_false_iff_eq.mpr (by omega)
    have HLen := Lib.hid hlen
    clear hlen
    go_wp2_with (fail)
    refine (rev_calls fs HF3.out _ w2.heap.size w3 HOwn.out HNil.out).mono ?_
    rintro e w4 ⟨rfl, hown4, hg4⟩
    have HB4 : Hid (Below w.heap.size w w4) := Lib.hid (HB3.out.grown hg4 HB3.out.size (fun k hk => by have := (HOwn.out.lt k hk).1; have := HSz.out; omega))
    obtain ⟨rs, hrs⟩ : ∃ rs, rs = fs.reverse := ⟨_, rfl⟩
    have hrl : rs.length = fs.length := by rw [hrs, List.length_reverse]
    rw [← hrs] at hown4
    have HOwn4 := Lib.hid hown4
    have HRs := Lib.hid hrs
    have HRl := Lib.hid hrl
    obtain ⟨n, hn⟩ : ∃ n, n = fs.length := ⟨_, rfl⟩
    rw [← hn] at HOwn4 HLen HRl g1 HF3
    clear hown4 hg4 hrs hrl HOwn HNil
    rw [← hn]
    clear hn
    go_wp2_with (fail)
    refine (hash_calls t w4).mono ?_
    rintro e w5 ⟨rfl, hb5⟩
    have HB5 := Lib.hid (below_then HB4.out HB4.out.size hb5)
    have HO5 : Hid (w5.ownsRow w2.heap.size 86 3 (.slice A n cap) n (cellsF rs)) := Lib.hid (ownsRow_below HOwn4.out hb5)
    obtain ⟨U0, hU0⟩ : ∃ U0, U0 = B (ofL [104] [S t]).1 := ⟨_, rfl⟩
    obtain ⟨E0, hE0⟩ : ∃ E0, E0 = (ofL [104] [S t]).2 := ⟨_, rfl⟩
    have HFin : Hid (upL rs (l4.map S) (S U0, E0) = upL rs (l4.map S) (ofL [104] [S t])) := Lib.hid (by rw [hU0, hE0, S_B])
    rw [← hU0, ← hE0]
    have HHn : Hid (n = l4.length) := HLen
    have hl4 := HLen.out
    clear hb5 hU0 hE0 HOwn4 HB4
    go_wp2
    go_loopw [12, 13, 54] (fun up er i wr => ∃ (j : Nat) (U : ByteArray) (E : Int), j ≤ n ∧ up = .string U ∧ er = .int .i64 E ∧ i = .int .i64 (j : Int) ∧ Hid (upL (rs.drop j) ((l4.map S).drop j) (S U, E) = upL rs (l4.map S) (ofL [104] [S t])) ∧ Hid (Below w5.heap.size w5 wr)) (fun _ _ i _ => n - (intOf i).toNat)
    case atStart => exact ⟨0, U0, E0, by omega, rfl, rfl, rfl, Lib.hid (by rw [List.drop_zero, List.drop_zero]; exact HFin.out), Lib.hid (Below.refl _ _)⟩
    case round =>
      obtain ⟨j, U, E, hj, rfl, rfl, rfl, HU, HBW⟩ := hrel
      have hn3 : n ≤ 3 := HF3.out
      by_cases hjn : j < n
      · obtain ⟨g, rfl⟩ : ∃ g, A = some ⟨g, 0, none⟩ := by
          rcases HO5.out.2 with ⟨_, h0⟩ | ⟨g, cap', cur, e, _⟩
          · omega
          · injection e with e1
            exact ⟨g, e1⟩
        have hrn : j < rs.length := by rw [HRl.out]; exact hjn
        obtain ⟨x, hx⟩ : ∃ x, rs[j]? = some x := ⟨_, List.getElem?_eq_getElem hrn⟩
        have hgl : g < w5.heap.size := (HO5.out.lt g rfl).2
        obtain ⟨c0, c1, c2⟩ := fork_at HO5.out hx
        have d0 := (HBW.out.cell (p := ⟨g, j * 3, none⟩) hgl).trans c0
        have d1 := (HBW.out.cell (p := ⟨g, j * 3 + 1, none⟩) hgl).trans c1
        have d2 := (HBW.out.cell (p := ⟨g, j * 3 + 2, none⟩) hgl).trans c2
        have hji : (j : Int) < (l4.length : Int) := by omega
        have hjn' : (j : Int) < (n : Int) := by omega
        have hj0 : (0 : Int) ≤ (j : Int) := by omega
        obtain ⟨ad, rfl, hcell⟩ := Kd.at_string (Kd.C_below HC.out (below_then HB5.out HB5.out.size HBW.out)) (j : Int) hj0 hji
        obtain ⟨p, hp⟩ : ∃ p, p = rdOf ByteArray.empty l4 (j : Int) := ⟨_, rfl⟩
        rw [← hp, Int.toNat_natCast] at hcell
        have hpl : (l4.map S)[j]? = some (S p) := by
          rw [hp, List.getElem?_map, List.getElem?_eq_getElem (by omega)]
          simp [rdOf, List.getD_eq_getElem?_getD, show j < l4.length from by omega]
        obtain ⟨x0, x1, x2⟩ := x
        have HX := Lib.hid hx
        have HP := Lib.hid hpl
        have HHg := Lib.hid hgl
        simp only at d0 d1 d2
        clear hx hpl hp c0 c1 c2 hrn hgl
        by_cases hE : E = 0
        · subst hE
          have HS := upL_step HX.out HP.out (u := (S U, 0)) rfl
          have HST := Lib.hid (HS.symm.trans HU.out)
          clear HS
          cases x2
          · have hcell2 := cell_alc (.cells #[.int .i64 x0, .int .i64 x1, .bool false] 86) hcell
            go_wp2_with (fail)
            refine (over_calls U p _).mono ?_
            rintro e w6 ⟨rfl, hb6⟩
            have HB6 := Lib.hid hb6
            clear hb6
            go_wp2
            go_roundw
            case measure => simp [intOf]; omega
            case rel => exact ⟨j + 1, _, _, by omega, rfl, rfl, by go_num, Lib.hid (by rw [S_B]; exact HST.out), Lib.hid (below_then (below_alloc HBW.out _) (by simp; exact Nat.le_succ_of_le HBW.out.size) HB6.out)⟩
          · have hcell2 := cell_alc (.cells #[.int .i64 x0, .int .i64 x1, .bool true] 86) hcell
            go_wp2_with (fail)
            refine (over_calls p U _).mono ?_
            rintro e w6 ⟨rfl, hb6⟩
            have HB6 := Lib.hid hb6
            clear hb6
            go_wp2
            go_roundw
            case measure => simp [intOf]; omega
            case rel => exact ⟨j + 1, _, _, by omega, rfl, rfl, by go_num, Lib.hid (by rw [S_B]; exact HST.out), Lib.hid (below_then (below_alloc HBW.out _) (by simp; exact Nat.le_succ_of_le HBW.out.size) HB6.out)⟩
        · have g5 : (E != 0) = true := bne_iff_ne.mpr hE
          have HUE : Hid (upL rs (l4.map S) (ofL [104] [S t]) = (S U, E)) := Lib.hid (by rw [← HU.out]; exact upL_err hE)
          have HE := Lib.hid hE
          clear hE
          go_wp2
          go_ret
          refine ⟨?_, below_alloc (below_then HB5.out HB5.out.size HBW.out) _⟩
          rw [HV.out, ← HRs.out, HUE.out]
          simp [HE.out]
      · have hjn2 : j = n := by omega
        have HUE : Hid (upL rs (l4.map S) (ofL [104] [S t]) = (S U, E)) := Lib.hid (by
          rw [← HU.out, List.drop_eq_nil_of_le (Nat.le_of_eq (by rw [HRl.out, hjn2]))]
          rfl)
        have HVV : Hid (verifyT (S root) (many : Int) (at_ : Int) (S t) (l4.map S) = decide (E = 0 ∧ S U = S root)) := Lib.hid (by
          have hfl : fs.length = l4.length := by rw [← List.length_reverse, ← HRs.out, HRl.out]; exact HHn.out
          rw [HV.out, ← HRs.out, HUE.out, if_neg (by rw [hfl]; exact fun h => h rfl)])
        subst hjn2
        by_cases hE : E = 0
        · subst hE
          by_cases hUr : U.toList = root.toList
          · have g6 : (U.toList == root.toList) = true := beq_iff_eq.mpr hUr
            have HR6 := Lib.hid hUr
            clear hUr
            go_wp2
            go_ret
            refine ⟨?_, below_then HB5.out HB5.out.size HBW.out⟩
            have h6 := HR6.out
            rw [toList_S, toList_S] at h6
            rw [HVV.out, h6]
            simp
          · have g6 : (U.toList == root.toList) = false := beq_eq_false_iff_ne.mpr hUr
            have HR6 := Lib.hid hUr
            clear hUr
            go_wp2
            go_ret
            refine ⟨?_, below_then HB5.out HB5.out.size HBW.out⟩
            have h6 := HR6.out
            rw [toList_S, toList_S] at h6
            rw [HVV.out]
            simp [h6]
        · have g5 : (E == 0) = false := beq_eq_false_iff_ne.mpr hE
          have HE := Lib.hid hE
          clear hE
          go_wp2
          go_ret
          refine ⟨?_, below_then HB5.out HB5.out.size HBW.out⟩
          rw [HVV.out]
          simp [HE.out]
  · have g1 : ((fs.length : Int) != (l4.length : Int)) = true := bne_iff_ne.mpr (by omega)
    have HLen := Lib.hid hlen
    clear hlen
    go_wp2
    go_ret
    exact ⟨by rw [HV.out, if_pos HLen.out]; rfl, HB3.out⟩
theorem Verify_bad (root t : ByteArray) (a1 a2 : Int) (A4 : Option Addr) (c4 : Nat) (l4 : List ByteArray) (w : World) (hb : a1 < 1 ∨ 8 < a1 ∨ a2 < 0 ∨ a1 ≤ a2 ∨ leafL (S t) = false) :
    Calls Tryz.prog 44 #[.string root, .int .i64 a1, .int .i64 a2, .string t, .slice A4 l4.length c4] w fun e w' => e = .returned (.bool false) ∧ Below w.heap.size w w' := by
  by_cases q1 : a1 < 1
  · have f1 : (a1 < 1) = True := eq_true q1
    clear hb q1
    go_enter Tryz.func44, Tryz.ntmps44
    go_wp2
    go_ret
    exact ⟨rfl, Below.refl _ _⟩
  have f1 : (a1 < 1) = False := eq_false q1
  by_cases q2 : 8 < a1
  · have f2 : (8 < a1) = True := eq_true q2
    clear hb q1 q2
    go_enter Tryz.func44, Tryz.ntmps44
    go_wp2
    go_ret
    exact ⟨rfl, Below.refl _ _⟩
  have f2 : (8 < a1) = False := eq_false q2
  by_cases q3 : a2 < 0
  · have f3 : (a2 < 0) = True := eq_true q3
    clear hb q1 q2 q3
    go_enter Tryz.func44, Tryz.ntmps44
    go_wp2
    go_ret
    exact ⟨rfl, Below.refl _ _⟩
  have f3 : (a2 < 0) = False := eq_false q3
  by_cases q4 : a1 ≤ a2
  · have f4 : (a1 ≤ a2) = True := eq_true q4
    clear hb q1 q2 q3 q4
    go_enter Tryz.func44, Tryz.ntmps44
    go_wp2
    go_ret
    exact ⟨rfl, Below.refl _ _⟩
  have f4 : (a1 ≤ a2) = False := eq_false q4
  have hlf := tree_leaf.of t
  rw [show leafL (S t) = false from by
    rcases hb with h | h | h | h | h
    · exact absurd h q1
    · exact absurd h q2
    · exact absurd h q3
    · exact absurd h q4
    · exact h] at hlf
  have K0 := Lib.hid (tree_leaf.calls t false w hlf)
  clear hb q1 q2 q3 q4 hlf
  go_enter Tryz.func44, Tryz.ntmps44
  go_wp2_with (fail)
  refine K0.out.mono ?_
  rintro e w1 ⟨rfl, hb1⟩
  go_wp2
  go_ret
  exact ⟨rfl, hb1⟩
theorem tree_Verify.calls (k : Nat) (a0 : ByteArray) (a1 : Int) (a2 : Int) (a3 : ByteArray) (A4 : Option Addr) (c4 : Nat) (l4 : List ByteArray) (r : Bool) (w : World) (hr4 : Kd.C Kd.string w A4 l4.length l4) (hc4 : l4.length ≤ c4) (h : tree_Verify.f k a0 a1 a2 a3 l4 = some r) :
    Calls Tryz.prog 44 #[.string a0, .int .i64 a1, .int .i64 a2, .string a3, .slice A4 l4.length c4] w fun e w' => e = .returned (.bool r) ∧ Below w.heap.size w w' := by
  obtain rfl : verifyT (S a0) a1 a2 (S a3) (l4.map S) = r := Option.some.inj h
  by_cases hb : a1 < 1 ∨ 8 < a1 ∨ a2 < 0 ∨ a1 ≤ a2 ∨ leafL (S a3) = false
  · rw [verifyT, if_pos hb]
    exact Verify_bad a0 a3 a1 a2 A4 c4 l4 w hb
  · obtain ⟨m, rfl⟩ : ∃ m : Nat, a1 = (m : Int) := ⟨a1.toNat, by omega⟩
    obtain ⟨q, rfl⟩ : ∃ m : Nat, a2 = (m : Int) := ⟨a2.toNat, by omega⟩
    have hl : leafL (S a3) = true := by
      cases hc : leafL (S a3)
      · exact absurd (Or.inr (Or.inr (Or.inr (Or.inr hc)))) hb
      · rfl
    exact Verify_ok a0 a3 m q A4 c4 l4 w hr4 hc4 (by omega) (by omega) (by omega) hl
end Go.Proofs.YtodiffgpefidoaaGreatDoor.P

