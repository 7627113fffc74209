/- Slimmed by wip/slim.py. -/
import Derived.Test.YtodiffgpefidoaaGreatDoorG0
namespace Go.Proofs.YtodiffgpefidoaaGreatDoor.P
open Go Go.RowKit Go.Proofs.YtodiffgpefidoaaGreatDoorW.PrintWords Go.Proofs.YtodiffgpefidoaaGreatDoorW.PrintLast Go.Proofs.YtodiffgpefidoaaGreatDoorW.PrintMore
set_option linter.unusedVariables false
set_option linter.unusedSimpArgs false
abbrev stampC (a : ByteArray) (b c : Int) (d e : ByteArray) : Array Value := #[.string a, .int .u64 b, .int .i64 c, .string d, .string e]
structure Boxes (w0 W : World) (L : List (Nat × TypeId × Array Value)) : Prop where
  mk ::
  bel : Below w0.heap.size w0 W
  apart : (L.map Prod.fst).Nodup
  lie : ∀ p ∈ L, w0.heap.size ≤ p.1 ∧ W.heap[p.1]? = some (.cells p.2.2 p.2.1 (0, 0))
theorem Boxes.nil (w : World) : Boxes w w [] := ⟨Below.refl _ _, List.nodup_nil, fun p h => by cases h⟩
theorem Boxes.below {w0 W W1 : World} {L : List (Nat × TypeId × Array Value)} (h : Boxes w0 W L) (hb : Below W.heap.size W W1) : Boxes w0 W1 L :=
  ⟨below_step h.bel hb, h.apart, fun p hp => ⟨(h.lie p hp).1, blk_below (h.lie p hp).2 hb⟩⟩
theorem Boxes.drew {w0 W : World} {L : List (Nat × TypeId × Array Value)} (h : Boxes w0 W L) : Boxes w0 W.drew L := h.below (below_drew (Below.refl _ _))
theorem Boxes.box {w0 W W1 : World} {L : List (Nat × TypeId × Array Value)} {g : Nat} {t : TypeId} {cs : Array Value} (h : Boxes w0 W L) (hg : g = W.heap.size) (hx : W1.heap[g]? = some (.cells cs t (0, 0))) (hb : Below W.heap.size W W1) : Boxes w0 W1 ((g, t, cs) :: L) := by
  have h1 := h.below hb
  refine ⟨h1.bel, ?_, fun p hp => ?_⟩
  · rw [List.map_cons, List.nodup_cons]
    refine ⟨fun hm => ?_, h.apart⟩
    obtain ⟨q, hq, he⟩ := List.mem_map.mp hm
    have := blk_lt (h.lie q hq).2
    simp only at he
    omega
  · rcases List.mem_cons.mp hp with rfl | hp
    · exact ⟨by rw [hg]; exact h.bel.size, hx⟩
    · exact h1.lie p hp
theorem Boxes.get {w0 W : World} {L : List (Nat × TypeId × Array Value)} {g : Nat} {t : TypeId} {cs : Array Value} (h : Boxes w0 W L) (hm : (g, t, cs) ∈ L) : W.heap[g]? = some (.cells cs t (0, 0)) := (h.lie _ hm).2
theorem Boxes.cell {w0 W : World} {L : List (Nat × TypeId × Array Value)} {g : Nat} {t : TypeId} {cs : Array Value} (h : Boxes w0 W L) (hm : (g, t, cs) ∈ L) (i : Nat) : W.cell? ⟨g, i, none⟩ = cs[i]? := blk_cell (h.get hm) i
theorem Boxes.set {w0 W : World} {L : List (Nat × TypeId × Array Value)} {g : Nat} {t : TypeId} {cs : Array Value} (h : Boxes w0 W ((g, t, cs) :: L)) (i : Nat) (u : Value) : Boxes w0 (W.setCell ⟨g, i, none⟩ u) ((g, t, cs.setIfInBounds i u) :: L) := by
  obtain ⟨h1, h2, h3⟩ := h
  have hg := h3 _ List.mem_cons_self
  refine ⟨below_set h1 hg.1, h2, fun p hp => ?_⟩
  rcases List.mem_cons.mp hp with rfl | hp
  · exact ⟨hg.1, blk_set hg.2 i u⟩
  · have hp2 := h3 p (List.mem_cons_of_mem _ hp)
    refine ⟨hp2.1, blk_far hp2.2 (fun he => ?_) u⟩
    rw [List.map_cons, List.nodup_cons] at h2
    exact h2.1 (List.mem_map.mpr ⟨p, hp, he⟩)
def put5 (W : World) (g : Nat) (a : ByteArray) (b c : Int) (d e : ByteArray) : World := ((((W.setCell ⟨g, 0, none⟩ (.string a)).setCell ⟨g, 1, none⟩ (.int .u64 b)).setCell ⟨g, 2, none⟩ (.int .i64 c)).setCell ⟨g, 3, none⟩ (.string d)).setCell ⟨g, 4, none⟩ (.string e)
abbrev stamp0 : Array Value := stampC (⟨#[]⟩ : ByteArray) 0 0 (⟨#[]⟩ : ByteArray) (⟨#[]⟩ : ByteArray)
theorem Boxes.put5 {w0 W : World} {L : List (Nat × TypeId × Array Value)} {g : Nat} {t : TypeId} (h : Boxes w0 W ((g, t, stamp0) :: L)) (a : ByteArray) (b c : Int) (d e : ByteArray) : Boxes w0 (put5 W g a b c d e) ((g, t, stampC a b c d e) :: L) :=
  ((((h.set 0 (.string a)).set 1 (.int .u64 b)).set 2 (.int .i64 c)).set 3 (.string d)).set 4 (.string e)
set_option maxHeartbeats 8000000 in
set_option maxRecDepth 100000 in
theorem load5s {w : World} {g : Nat} (ev : Operand → Value) (o : Oper) (x : Operand) (a : ByteArray) (b c : Int) (d e : ByteArray) (ho : o.op = .load 24 x) (hx : ev x = .pointer (some ⟨g, 0, none⟩)) (h : w.heap[g]? = some (.cells (stampC a b c d e) 24 (0, 0))) :
    (execOp ev o).run Tryz.prog w = .ok (.value (.agg (stampC a b c d e))) w := by
  obtain ⟨dst, op, ty, pos, aft, gd⟩ := o
  simp only at ho
  subst ho
  have hu := Tryz.underlying24
  have h0 : w.cell? ⟨g, 0, none⟩ = some (.string a) := (blk_cell h 0).trans rfl
  have h1 : w.cell? ⟨g, 1, none⟩ = some (.int .u64 b) := (blk_cell h 1).trans rfl
  have h2 : w.cell? ⟨g, 2, none⟩ = some (.int .i64 c) := (blk_cell h 2).trans rfl
  have h3 : w.cell? ⟨g, 3, none⟩ = some (.string d) := (blk_cell h 3).trans rfl
  have h4 : w.cell? ⟨g, 4, none⟩ = some (.string e) := (blk_cell h 4).trans rfl
  clear h
  go_simp
set_option maxHeartbeats 8000000 in
set_option maxRecDepth 100000 in
theorem load5r {w : World} {g : Nat} (ev : Operand → Value) (o : Oper) (x : Operand) (a : ByteArray) (b c : Int) (d e : ByteArray) (ho : o.op = .load 28 x) (hx : ev x = .pointer (some ⟨g, 0, none⟩)) (h : w.heap[g]? = some (.cells (stampC a b c d e) 28 (0, 0))) :
    (execOp ev o).run Tryz.prog w = .ok (.value (.agg (stampC a b c d e))) w := by
  obtain ⟨dst, op, ty, pos, aft, gd⟩ := o
  simp only at ho
  subst ho
  have hu := Tryz.underlying28
  have h0 : w.cell? ⟨g, 0, none⟩ = some (.string a) := (blk_cell h 0).trans rfl
  have h1 : w.cell? ⟨g, 1, none⟩ = some (.int .u64 b) := (blk_cell h 1).trans rfl
  have h2 : w.cell? ⟨g, 2, none⟩ = some (.int .i64 c) := (blk_cell h 2).trans rfl
  have h3 : w.cell? ⟨g, 3, none⟩ = some (.string d) := (blk_cell h 3).trans rfl
  have h4 : w.cell? ⟨g, 4, none⟩ = some (.string e) := (blk_cell h 4).trans rfl
  clear h
  go_simp
set_option maxHeartbeats 8000000 in
set_option maxRecDepth 100000 in
theorem store5s {w : World} {g : Nat} (ev : Operand → Value) (o : Oper) (p v : Operand) (a : ByteArray) (b c : Int) (d e : ByteArray) (ho : o.op = .store 24 p v) (hp : ev p = .pointer (some ⟨g, 0, none⟩)) (hv : ev v = .agg (stampC a b c d e)) (h : w.heap[g]? = some (.cells stamp0 24 (0, 0))) :
    (execOp ev o).run Tryz.prog w = .ok .skip (put5 w g a b c d e) := by
  obtain ⟨dst, op, ty, pos, aft, gd⟩ := o
  simp only at ho
  subst ho
  have hu := Tryz.underlying24
  have h0 : w.cell? ⟨g, 0, none⟩ = some (.string (⟨#[]⟩ : ByteArray)) := (blk_cell h 0).trans rfl
  have f0 := blk_frozen h 0
  have h1 : w.cell? ⟨g, 1, none⟩ = some (.int .u64 0) := (blk_cell h 1).trans rfl
  have f1 := blk_frozen h 1
  have h2 : w.cell? ⟨g, 2, none⟩ = some (.int .i64 0) := (blk_cell h 2).trans rfl
  have f2 := blk_frozen h 2
  have h3 : w.cell? ⟨g, 3, none⟩ = some (.string (⟨#[]⟩ : ByteArray)) := (blk_cell h 3).trans rfl
  have f3 := blk_frozen h 3
  have h4 : w.cell? ⟨g, 4, none⟩ = some (.string (⟨#[]⟩ : ByteArray)) := (blk_cell h 4).trans rfl
  have f4 := blk_frozen h 4
  clear h
  unfold put5
  go_simp
set_option maxHeartbeats 8000000 in
set_option maxRecDepth 100000 in
theorem store5r {w : World} {g : Nat} (ev : Operand → Value) (o : Oper) (p v : Operand) (a : ByteArray) (b c : Int) (d e : ByteArray) (ho : o.op = .store 28 p v) (hp : ev p = .pointer (some ⟨g, 0, none⟩)) (hv : ev v = .agg (stampC a b c d e)) (h : w.heap[g]? = some (.cells stamp0 28 (0, 0))) :
    (execOp ev o).run Tryz.prog w = .ok .skip (put5 w g a b c d e) := by
  obtain ⟨dst, op, ty, pos, aft, gd⟩ := o
  simp only at ho
  subst ho
  have hu := Tryz.underlying28
  have h0 : w.cell? ⟨g, 0, none⟩ = some (.string (⟨#[]⟩ : ByteArray)) := (blk_cell h 0).trans rfl
  have f0 := blk_frozen h 0
  have h1 : w.cell? ⟨g, 1, none⟩ = some (.int .u64 0) := (blk_cell h 1).trans rfl
  have f1 := blk_frozen h 1
  have h2 : w.cell? ⟨g, 2, none⟩ = some (.int .i64 0) := (blk_cell h 2).trans rfl
  have f2 := blk_frozen h 2
  have h3 : w.cell? ⟨g, 3, none⟩ = some (.string (⟨#[]⟩ : ByteArray)) := (blk_cell h 3).trans rfl
  have f3 := blk_frozen h 3
  have h4 : w.cell? ⟨g, 4, none⟩ = some (.string (⟨#[]⟩ : ByteArray)) := (blk_cell h 4).trans rfl
  have f4 := blk_frozen h 4
  clear h
  unfold put5
  go_simp
theorem load_event {ops : Array Oper} {Q : Exit → Act → World → Prop} {o : Oper} {rest : List Oper} {a : Act} {W : World} {v : Value} (hgd : o.guard = none) (hrun : (execOp a.eval o).run Tryz.prog W = .ok (.value v) W) (h : wpList Tryz.prog ops Q rest (a.put o.dst v) W) : wpList Tryz.prog ops Q (o :: rest) a W := Kd.event_run hgd hrun h
theorem store_event {ops : Array Oper} {Q : Exit → Act → World → Prop} {o : Oper} {rest : List Oper} {a : Act} {W W1 : World} (hgd : o.guard = none) (hd : o.dst = none) (hrun : (execOp a.eval o).run Tryz.prog W = .ok .skip W1) (h : wpList Tryz.prog ops Q rest a W1) : wpList Tryz.prog ops Q (o :: rest) a W := by
  refine wpList_plain hgd fun K hK => ?_
  unfold Oper.wp
  rw [hrun]
  refine hK _ _ ?_
  rw [hd]
  exact h
end Go.Proofs.YtodiffgpefidoaaGreatDoor.P

