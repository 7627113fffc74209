/- Slimmed by wip/slim.py. -/
import Derived.Test.YtodiffgpefidoaaDoorG0
import Derived.Laws.IdiomStrings
import Derived.Laws.BitsAllLaws
namespace Go.Proofs.YtodiffgpefidoaaDoor.P
open Go Go.RowKit Go.Proofs.YtodiffgpefidoaaDoorW.PrintWords Go.Proofs.YtodiffgpefidoaaDoorW.PrintLast Go.Proofs.YtodiffgpefidoaaDoorW.PrintMore
set_option linter.unusedVariables false
set_option linter.unusedSimpArgs false
def spoilB (b : ByteArray) (n m : Int) : ByteArray := ⟨((b.data.toList.set n.toNat (UInt8.ofNat ((b.data.toList.getD n.toNat 0).toNat ^^^ 2 ^ m.toNat))).toArray)⟩
def spoilO (b : ByteArray) (n m : Int) : Option ByteArray := if 0 ≤ n ∧ n < (b.size : Int) ∧ 0 ≤ m ∧ m < 8 then some (spoilB b n m) else none
theorem spoilO.some {b y : ByteArray} {n m : Int} (h : spoilO b n m = Option.some y) : 0 ≤ n ∧ n < (b.size : Int) ∧ 0 ≤ m ∧ m < 8 ∧ y = spoilB b n m := by
  unfold spoilO at h
  split at h
  · rename_i h1; exact ⟨h1.1, h1.2.1, h1.2.2.1, h1.2.2.2, (Option.some.inj h).symm⟩
  · exact absurd h (by simp)
theorem spoils.conv {ops : Array Oper} {Q : Exit → Act → World → Prop} {o : Oper} {rest : List Oper} {a : Act} {W : World} {x : Operand} {s : ByteArray} (hgd : o.guard = none) (ho : o.op = .convert 9 47 x) (hx : a.eval x = .string s)
    (h : ∀ (g cap : Nat) (cs : Array Value) (w1 : World), g = W.heap.size → w1.heap[g]? = some (.cells cs 5 (cs.size, cs.size + 1)) → s.size ≤ cs.size → (∀ j (hj : j < s.data.size), cs[j]? = some (.int .u8 (s.data[j].toNat : Int))) → Below W.heap.size W w1 →
      wpList Tryd.prog ops Q rest (a.put o.dst (.slice (some ⟨g, 0, none⟩) s.size cap)) w1) : wpList Tryd.prog ops Q (o :: rest) a W := by
  have hr := run_bytes_of_string (P := Tryd.prog) W 9 47 5 s Tryd.underlying9 Tryd.underlying47 Tryd.underlying5
  refine Kd.event_run hgd (v := .slice (some ⟨W.heap.size, 0, none⟩) s.size (grownCap W s.size 0 5)) (w1 := W.drew.alloc (.cells (bytesRow s (grownCap W s.size 0 5)) 5 ((bytesRow s (grownCap W s.size 0 5)).size, (bytesRow s (grownCap W s.size 0 5)).size + 1))) ?_ (h _ _ (bytesRow s (grownCap W s.size 0 5)) _ rfl ?_ ?_ ?_ ?_)
  · simp [execOp, ho, hx, hr]
  · show (W.heap.push _)[W.heap.size]? = _
    simp
  · unfold bytesRow
    rw [Array.size_append, Array.size_map]
    exact Nat.le_add_right _ _
  · exact fun j hj => bytesRow_at s _ j hj
  · exact below_alloc (below_drew1 (Below.refl _ _)) _
theorem spoils.back {W : World} {g cap n m : Nat} {cs : Array Value} {fr : Nat × Nat} {s : ByteArray} (hn : n < s.size) (hm : m < 8) (hc : ∀ j (hj : j < s.data.size), cs[j]? = some (.int .u8 (s.data[j].toNat : Int)))
    (hb : W.heap[g]? = some (.cells (cs.setIfInBounds n (.int .u8 (((s.data.toList.getD n 0).toNat ^^^ 2 ^ m : Nat) : Int))) 5 fr)) :
    (convert 47 9 (.slice (some ⟨g, 0, none⟩) s.size cap)).run Tryd.prog W = .ok (.string (spoilB s (n : Int) (m : Int))) W := by
  have hl : (s.data.toList.set n (UInt8.ofNat ((s.data.toList.getD n 0).toNat ^^^ 2 ^ m))).length = s.size := by rw [List.length_set]; rfl
  have hx : (s.data.toList.getD n 0).toNat ^^^ 2 ^ m < 2 ^ 8 := Nat.xor_lt_two_pow (UInt8.toNat_lt _) (Nat.pow_lt_pow_right (by decide) hm)
  have h := run_convert_bytes_back (P := Tryd.prog) W 47 9 5 ⟨g, 0, none⟩ cap (s.data.toList.set n (UInt8.ofNat ((s.data.toList.getD n 0).toNat ^^^ 2 ^ m))) Tryd.underlying47 Tryd.underlying5 Tryd.underlying9 (fun j hj => by
    rw [List.length_set] at hj
    have hj2 : j < s.data.size := by simpa using hj
    have e : W.cell? ((⟨g, 0, none⟩ : Addr).add j) = (cs.setIfInBounds n (.int .u8 (((s.data.toList.getD n 0).toNat ^^^ 2 ^ m : Nat) : Int)))[j]? := by
      have ha : (⟨g, 0, none⟩ : Addr).add j = ⟨g, j, none⟩ := by
        unfold Addr.add
        split
        · rename_i h0; simp only [h0]
        · simp only [Nat.zero_add]
      rw [ha]
      unfold World.cell?
      simp [hb]
    rw [e, Array.getElem?_setIfInBounds]
    by_cases hjn : n = j
    · subst hjn
      have hcs : n < cs.size := by
        have := hc n hj2
        exact (Array.getElem?_eq_some_iff.mp this).1
      rw [if_pos rfl, if_pos hcs, List.getElem_set_self, UInt8.toNat_ofNat', Nat.mod_eq_of_lt hx]
    · rw [if_neg hjn, hc j hj2, List.getElem_set_ne hjn]
      rfl)
  rw [hl] at h
  exact h
theorem spoils.R_types {α : Type} {d : Kd α} {e : Nat} {w : World} {base : Nat} {ok : Nat → Prop} {v : Value} {xs : List α} (h : d.R e w base ok v xs) {g t : Nat} {cells : Array Value} {fr : Nat × Nat} (hb : w.heap[g]? = some (.cells cells t fr)) (ht : ∀ q, q ∈ e :: d.E → q ≠ t) : d.R e w base (fun k => ok k ∧ k ≠ g) v xs :=
  Kd.R_mono (Kd.R_bound h) (fun k hk => ⟨hk.1, by
    obtain ⟨_, _, _, q, hq, cells', hc⟩ := hk
    rintro rfl
    rw [hc] at hb
    injection hb with hb
    injection hb with _ hb
    exact ht q hq hb⟩)
theorem cell_keep {w w' : World} {p : Addr} {v : Value} (hb : Below w.heap.size w w') (h : w.cell? p = some v) : w'.cell? p = some v := (hb.cell (World.block_lt_of_cell? w _ h)).trans h
theorem spoils.cell {W : World} {g n : Nat} {cs : Array Value} {fr : Nat × Nat} {s : ByteArray} (hn : n < s.size) (hc : ∀ j (hj : j < s.data.size), cs[j]? = some (.int .u8 (s.data[j].toNat : Int))) (hb : W.heap[g]? = some (.cells cs 5 fr)) :
    W.cell? ⟨g, n, none⟩ = some (.int .u8 ((s.data.toList.getD n 0).toNat : Int)) := by
  rw [cell_of_row W g n cs _ fr hb, hc n hn, List.getD_eq_getElem?_getD, List.getElem?_eq_getElem (by simpa using hn)]
  rfl
theorem spoils.frozen {W : World} {g n m : Nat} {cs : Array Value} (hn : n < m) (hb : W.heap[g]? = some (.cells cs 5 (m, m + 1))) : W.frozen? ⟨g, n, none⟩ = false := by
  simp only [World.frozen?, hb]
  simp only [Bool.and_eq_false_iff, decide_eq_false_iff_not]
  exact Or.inl (by omega)
theorem spoils.set {W : World} {g : Nat} {t : TypeId} {fr : Nat × Nat} {cs : Array Value} (h : W.heap[g]? = some (.cells cs t fr)) (i : Nat) (u : Value) : (W.setCell ⟨g, i, none⟩ u).heap[g]? = some (.cells (cs.setIfInBounds i u) t fr) := by
  simp [World.setCell, Array.getElem?_modify, h]
set_option maxRecDepth 100000 in
theorem spoils.store (ev : Operand → Value) (o : Oper) (p v : Operand) (ho : o.op = .store 5 p v) (w : World) (g n : Nat) (x y : Int) (hp : ev p = .pointer (some ⟨g, n, none⟩)) (hv : ev v = .int .u8 x) (hc : w.cell? ⟨g, n, none⟩ = some (.int .u8 y)) (hf : w.frozen? ⟨g, n, none⟩ = false) :
    (execOp ev o).run Tryd.prog w = .ok .skip (w.setCell ⟨g, n, none⟩ (.int .u8 x)) := by
  obtain ⟨dst, op, ty, pos, aft, gd⟩ := o
  simp only at ho
  subst ho
  have hu := Tryd.underlying5
  go_simp
set_option maxRecDepth 100000 in
theorem spoils.load (ev : Operand → Value) (o : Oper) (p : Operand) (ho : o.op = .load 5 p) (w : World) (g n : Nat) (y : Int) (hp : ev p = .pointer (some ⟨g, n, none⟩)) (hc : w.cell? ⟨g, n, none⟩ = some (.int .u8 y)) :
    (execOp ev o).run Tryd.prog w = .ok (.value (.int .u8 y)) w := by
  obtain ⟨dst, op, ty, pos, aft, gd⟩ := o
  simp only at ho
  subst ho
  have hu := Tryd.underlying5
  go_simp
theorem spoils.beqE (l : List UInt8) : (l == []) = l.isEmpty := by cases l <;> rfl
theorem spoils.uint (ev : Operand → Value) (o : Oper) (x : Operand) (ho : o.op = .convert 3 48 x) (m : Int) (hx : ev x = .int .i64 m) (h0 : 0 ≤ m) (h8 : m < 8) (w : World) : (execOp ev o).run Tryd.prog w = .ok (.value (.int .u64 m)) w := by
  obtain ⟨dst, op, ty, pos, aft, gd⟩ := o
  simp only at ho
  subst ho
  have hu := Tryd.underlying48
  have hi := Tryd.underlying3
  have hw : IntKind.u64.wrap m = m := by rw [IntKind.wrap_u64]; omega
  go_simp
theorem spoils.mask (ev : Operand → Value) (o : Oper) (x : Operand) (ho : o.op = .binOp .shl 5 (.const (.int .u8 1)) x 48) (m : Int) (hv : ev (.const (.int .u8 1)) = .int .u8 1) (hx : ev x = .int .u64 m) (h0 : 0 ≤ m) (h8 : m < 8) (w : World) : (execOp ev o).run Tryd.prog w = .ok (.value (.int .u8 ((2 ^ m.toNat : Nat) : Int))) w := by
  obtain ⟨dst, op, ty, pos, aft, gd⟩ := o
  simp only at ho
  subst ho
  obtain ⟨k, rfl⟩ : ∃ k : Nat, m = (k : Int) := ⟨m.toNat, by omega⟩
  have h : k = 0 ∨ k = 1 ∨ k = 2 ∨ k = 3 ∨ k = 4 ∨ k = 5 ∨ k = 6 ∨ k = 7 := by omega
  rcases h with rfl | rfl | rfl | rfl | rfl | rfl | rfl | rfl <;> go_simp <;> rfl
theorem spoils.xor (ev : Operand → Value) (o : Oper) (x y : Operand) (ho : o.op = .binOp .xor 5 x y 5) (a b : Nat) (ha : a < 256) (hb : b < 256) (hx : ev x = .int .u8 (a : Int)) (hy : ev y = .int .u8 (b : Int)) (w : World) : (execOp ev o).run Tryd.prog w = .ok (.value (.int .u8 ((a ^^^ b : Nat) : Int))) w := by
  obtain ⟨dst, op, ty, pos, aft, gd⟩ := o
  simp only at ho
  subst ho
  have h := u8_xor_nat a b ha hb
  go_simp
theorem spoils.conv_back {ops : Array Oper} {Q : Exit → Act → World → Prop} {o : Oper} {rest : List Oper} {a : Act} {W : World} {x : Operand} {s : ByteArray} {g cap : Nat} {n m : Int} {cs : Array Value} {fr : Nat × Nat} (hgd : o.guard = none) (ho : o.op = .convert 47 9 x) (hx : a.eval x = .slice (some ⟨g, 0, none⟩) s.size cap)
    (hn0 : 0 ≤ n) (hn : n < (s.size : Int)) (hm0 : 0 ≤ m) (hm : m < 8) (hc : ∀ j (hj : j < s.data.size), cs[j]? = some (.int .u8 (s.data[j].toNat : Int)))
    (hb : W.heap[g]? = some (.cells (cs.setIfInBounds n.toNat (.int .u8 (((s.data.toList.getD n.toNat 0).toNat ^^^ 2 ^ m.toNat : Nat) : Int))) 5 fr))
    (h : wpList Tryd.prog ops Q rest (a.put o.dst (.string (spoilB s n m))) W) : wpList Tryd.prog ops Q (o :: rest) a W := by
  have hr := spoils.back (W := W) (g := g) (cap := cap) (n := n.toNat) (m := m.toNat) (cs := cs) (fr := fr) (s := s) (by omega) (by omega) hc hb
  rw [Int.toNat_of_nonneg hn0, Int.toNat_of_nonneg hm0] at hr
  refine Kd.event_run hgd (v := .string (spoilB s n m)) (w1 := W) ?_ h
  simp [execOp, ho, hx, hr]
end Go.Proofs.YtodiffgpefidoaaDoor.P

