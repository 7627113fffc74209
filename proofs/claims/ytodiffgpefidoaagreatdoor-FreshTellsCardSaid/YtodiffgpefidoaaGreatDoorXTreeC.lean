/- Slimmed by wip/slim.py. -/
import Derived.Test.YtodiffgpefidoaaGreatDoorXTreeP
namespace Go.Proofs.YtodiffgpefidoaaGreatDoor.P
open Go.RowKit Go.Proofs.YtodiffgpefidoaaGreatDoorW.PrintWords Go.Proofs.YtodiffgpefidoaaGreatDoorW.PrintLast Go.Proofs.YtodiffgpefidoaaGreatDoorW.PrintMore
set_option linter.unusedVariables false
set_option linter.unusedSimpArgs false
attribute [local go_sem] Oper.semAt_some
section
variable {P : Program} (w : World)
theorem run_append_kept (base : Nat) (t ty e : TypeId) (i : TypeInfo) (z : Value) (size bytes : Nat) (ht : P.underlying t = some (.slice e)) (hi : P.info? e = some i) (hz : i.zero = some z)
    (hsize : i.size = size) (hby : i.bytes = bytes) (hzs : z.cells.size = size) (hsz : 0 < size)
    (v : Value) (n : Nat) (xs : List Value) (hown : w.ownsRow base e size v n xs) (hnil : v = .slice none 0 0 ↔ n = 0)
    (a : Addr) (c : Nat) (news : List Value) (hl : news.length = 1 * size) (hnews : ∀ j u, news[j]? = some u → w.cell? (a.add j) = some u) (h1 : ∀ u ∈ news, u.oneCell' = true)
    (h63 : n + 1 ≤ maxLen) (hbytes : (n + 1) * bytes ≤ 140737488355328) (hbase : base ≤ w.heap.size) :
    ∃ v' w', (Builtin.append_ #[t, t] ty #[v, .slice (some a) 1 c]).run P w = .ok v' w' ∧ w'.ownsRow base e size v' (n + 1) (xs ++ news) ∧ w.grownBy w' v.ownBlock ∧
      ¬ v' = .slice none 0 0 ∧ (∀ (k : Nat) (cs : Array Value), cs.size = size → w.heap[k]? = some (.cells cs e (0, 0)) → w'.heap[k]? = some (.cells cs e (0, 0))) := by
  obtain ⟨v', w', hrun, ho, hg, hn⟩ := run_append_own (P := P) w base t ty e i z size bytes ht hi hz hsize hby hzs hsz v n xs hown a 1 c news hl hnews h1 h63 hbytes hbase
  refine ⟨v', w', hrun, ho, hg, fun h => by have := (hn.mp h).2; omega, fun k cs hcs hk => ?_⟩
  have hlt := (Array.getElem?_eq_some_iff.1 hk).1
  have hold := hown
  rcases hown.2 with ⟨rfl, rfl⟩ | ⟨g, cap, cur, rfl, hbg, hgb, hnc, hcm, hcs2, htake⟩
  · exact (hg.block k hlt (by simp [Value.ownBlock])).trans hk
  · have hn0 : n ≠ 0 := fun e => by have := hnil.mpr e; simp at this
    by_cases hroom : n + 1 ≤ cap
    · have hne : k ≠ g := by
        rintro rfl
        rw [hgb] at hk
        simp at hk
        have h2 : cap * size = size := by rw [← hcs2, hk, hcs]
        have h3 : 2 * size ≤ cap * size := Nat.mul_le_mul_right _ (by omega)
        omega
      exact (hg.block k hlt (by simp [Value.ownBlock]; exact hne)).trans hk
    · subst hsize
      subst hby
      have holds : ∀ j u, xs[j]? = some u → w.cell? ((⟨g, 0, none⟩ : Addr).add j) = some u := hold.cells (g := g) rfl
      have hsmall : n + 1 ≤ 9223372036854775807 := by simp only [maxLen] at h63; omega
      have hr := run_append_grow (P := P) w t ty e i z ht hi hz ⟨g, 0, none⟩ n cap xs hold.1 holds a 1 c news hl hnews (by omega) (by omega) (growslice_fits (by omega) hbytes)
      rw [hrun] at hr
      injection hr with hv hw
      rw [hw]
      exact (Below.heap_alloc w.drew _ k hlt).trans hk
end
theorem wpListIn_append_kept {F : Fence} {n : Nat} {P : Program} (w : World) {ops : Array Oper} {rest : List Oper} {o : Oper} {a : Act} {Q : Exit → Act → World → Prop}
    (hg : o.guard = none) (s x : Operand) (t : TypeId) (hop : o.op = Op.call { callee := Callee.builtin Builtin.append, args := #[s, x], argTypes := #[t, t] })
    (base : Nat) (e : TypeId) (i : TypeInfo) (z : Value) (size bytes : Nat) (h1 : P.underlying t = some (.slice e)) (h2 : P.info? e = some i) (h3 : i.zero = some z) (h4 : i.size = size) (h5 : i.bytes = bytes) (h6 : z.cells.size = size) (h7 : 0 < size)
    (v : Value) (k : Nat) (xs : List Value) (hs : a.eval s = v) (hown : w.ownsRow base e size v k xs) (hnil : v = .slice none 0 0 ↔ k = 0) (ad : Addr) (c : Nat) (news : List Value) (hx : a.eval x = .slice (some ad) 1 c) (hn : news.length = 1 * size)
    (hc : ∀ j u, news[j]? = some u → w.cell? (ad.add j) = some u) (h1c : ∀ u ∈ news, u.oneCell' = true) (b1 : k + 1 ≤ maxLen) (b2 : (k + 1) * bytes ≤ 140737488355328) (b3 : base ≤ w.heap.size)
    (hK : ∀ v' w', w'.ownsRow base e size v' (k + 1) (xs ++ news) → w.grownBy w' v.ownBlock → ¬ v' = .slice none 0 0 → (∀ (k : Nat) (cs : Array Value), cs.size = size → w.heap[k]? = some (.cells cs e (0, 0)) → w'.heap[k]? = some (.cells cs e (0, 0))) → wpListIn F n P ops Q rest (a.put o.dst v') w') :
    wpListIn F n P ops Q (o :: rest) a w := by
  refine wpListIn_plain hg fun K hK' => ?_
  obtain ⟨v', w', hrun, r1, r2, r3, r4⟩ := run_append_kept (P := P) w base t o.type e i z size bytes h1 h2 h3 h4 h5 h6 h7 v k xs hown hnil ad c news hn hc h1c b1 b2 b3
  unfold Oper.wpIn
  refine ⟨?_, ?_⟩
  · simp [Oper.about, hop, resolve, Target.leads, Sem.run_pure]
  · rw [Oper.semAt_plain F _ _ (by rw [hop]; intro c hc'; cases hc')]
    simp [execOp, hop, resolve, invoke, builtin, hs, hx, hrun, Result.andThen]
    exact hK' _ _ (hK v' w' r1 r2 r3 r4)
def KpF (W W' : World) : Prop := W.heap.size ≤ W'.heap.size ∧ (∀ (k : Nat) (v : Value), Boxed W k 3 v → Boxed W' k 3 v) ∧ (∀ (k : Nat) (a b c : Value), W.heap[k]? = some (.cells #[a, b, c] 86 (0, 0)) → W'.heap[k]? = some (.cells #[a, b, c] 86 (0, 0)))
theorem KpF.t {A B C : World} (h : KpF A B) (k : KpF B C) : KpF A C := ⟨Nat.le_trans h.1 k.1, fun i v hi => k.2.1 i v (h.2.1 i v hi), fun i a b c hi => k.2.2 i a b c (h.2.2 i a b c hi)⟩
theorem KpF.b {w : World} (W : World) (l : Nat) (o o' : Obj) (hl : w.heap.size ≤ l) (h : W.heap[l]? = some o) (ho : o.isCells = false) (hw : o.isWalk = false) : KpF W (W.putObj l o') := by
  have key : ∀ (i : Nat) (cs : Array Value) (t : TypeId), W.heap[i]? = some (.cells cs t (0, 0)) → (W.putObj l o').heap[i]? = some (.cells cs t (0, 0)) := by
    intro i cs t hi
    have hne : i ≠ l := by
      rintro rfl
      rw [h] at hi; cases hi; cases ho
    rw [← hi]; exact World.putObj_heap_other hne
  exact ⟨by simp, fun k v hk => key k _ _ hk, fun k a b c hk => key k _ _ hk⟩
theorem KpF.y (W W' : World) (h : KpF W W') : KY W W' := ⟨h.1, h.2.1, fun a b c hk => h.2.2 _ a b c hk⟩
theorem KpF.below {W W' : World} (h : Below W.heap.size W W') : KpF W W' := ⟨h.size, fun k v hk => boxed_below hk h, fun k a b c hk => (h.block k (Array.getElem?_eq_some_iff.1 hk).1).trans hk⟩
theorem KpF.appended {W w1 : World} {base B : Nat} {v v' : Value} {k : Nat} {xs : List Value} {tmp : Obj} (hv : Boxed W B 83 v) (hrow : W.ownsRow base 86 3 v k xs) (hgrow : (W.alloc tmp).grownBy w1 v.ownBlock)
    (hkeep : ∀ (k : Nat) (cs : Array Value), cs.size = 3 → (W.alloc tmp).heap[k]? = some (.cells cs 86 (0, 0)) → w1.heap[k]? = some (.cells cs 86 (0, 0))) : KpF W (w1.setCell ⟨B, 0, none⟩ v') := by
  have hs : (w1.setCell ⟨B, 0, none⟩ v').heap.size = w1.heap.size := by simp [World.setCell]
  have al : ∀ (i : Nat) (cs : Array Value) (t : TypeId), W.heap[i]? = some (.cells cs t (0, 0)) → (W.alloc tmp).heap[i]? = some (.cells cs t (0, 0)) := fun i cs t hi => (Below.heap_alloc W tmp i (Array.getElem?_eq_some_iff.1 hi).1).trans hi
  have hneB : ∀ (i : Nat) (cs : Array Value) (t : TypeId), t ≠ 83 → W.heap[i]? = some (.cells cs t (0, 0)) → i ≠ B := by
    rintro i cs t h2 hi rfl
    rw [show W.heap[i]? = _ from hv] at hi
    simp at hi
    exact h2 hi.2.symm
  refine ⟨by rw [hs]; have := hgrow.size; simp at this; omega, fun i u hi => ?_, fun i a b c hi => ?_⟩
  · have hne := hneB i _ _ (by decide) hi
    show (w1.setCell ⟨B, 0, none⟩ v').heap[i]? = _
    rw [Below.heap_setCell w1 ⟨B, 0, none⟩ v' i hne]
    refine (hgrow.block i (by have := hi.lt; simp; omega) ?_).trans (al _ _ _ hi)
    intro e
    rcases hrow.2 with ⟨rfl, _⟩ | ⟨g, cap, cur, rfl, _, hgb, _⟩
    · simp [Value.ownBlock] at e
    · obtain rfl : i = g := by simpa [Value.ownBlock] using e
      rw [show W.heap[i]? = _ from hi] at hgb
      simp at hgb
  · rw [Below.heap_setCell w1 ⟨B, 0, none⟩ v' i (hneB i _ _ (by decide) hi)]
    exact hkeep i _ rfl (al _ _ _ hi)
def cellsF (fs : List Fk) : List Value := (fs.map (fun x => [Value.int .i64 x.f0, Value.int .i64 x.f1, Value.bool x.f2])).flatten
theorem cellsF_snoc (fs : List Fk) (x : Fk) : cellsF (fs ++ [x]) = cellsF fs ++ [Value.int .i64 x.f0, Value.int .i64 x.f1, Value.bool x.f2] := by simp [cellsF]
theorem cell_three_new (w : World) (a b c : Value) (t : TypeId) : ∀ j u, [a, b, c][j]? = some u → (w.alloc (.cells #[a, b, c] t)).cell? ((⟨w.heap.size, 0, none⟩ : Addr).add j) = some u := by
  intro j u hj
  have h := World.alloc_heap_new w (.cells #[a, b, c] t)
  have ha : (⟨w.heap.size, 0, none⟩ : Addr).add j = ⟨w.heap.size, j, none⟩ := by unfold Addr.add; split <;> simp_all
  rw [ha]
  unfold World.cell?
  simp only [h]
  rw [← hj]
  simp
theorem Tryz.infoF : (Tryz.prog.info? 86).map (fun i => (i.zero, i.size, i.bytes)) = some (some (.agg #[.int .i64 0, .int .i64 0, .bool false]), 3, 24) := by kernel_rfl
set_option maxRecDepth 100000 in
set_option maxHeartbeats 4000000 in
theorem appendSeq_calls (many at_ : Nat) (hm : many ≤ 8) (hat : at_ < many) (Bn : Nat) (w : World) (hc0 : Boxed w Bn 3 (.int .i64 (many : Int))) (hc1 : Boxed w (Bn + 1) 3 (.int .i64 (at_ : Int))) :
    Calls Tryz.prog 97 #[.slice none 0 0, .func (.func 98) #[] #[.pointer (some ⟨Bn, 0, none⟩), .pointer (some ⟨Bn + 1, 0, none⟩)]] w fun e w' => ∃ v : Value, e = .returned v ∧ w'.ownsRow w.heap.size 86 3 v (forks at_ 0 many).length (cellsF (forks at_ 0 many)) ∧ (v = .slice none 0 0 ↔ (forks at_ 0 many).length = 0) ∧ Below w.heap.size w w' := by
  obtain ⟨i0, hi, hz0, hz1, hz2⟩ := info_parts Tryz.infoF
  refine (callsIn_wide (n := 6)).1 ?_
  refine callsIn_of_wp_marks Tryz.func97 rfl trivial ?_ rfl
  simp only [Tryz.ntmps97, List.size_toArray, List.length_cons, List.length_nil, Nat.reduceAdd, Nat.reduceSub, Array.replicate_succ, Array.replicate_zero, List.push_toArray, List.append_toArray, List.nil_append, List.cons_append]
  have bo := Boxed.new w 83 (.slice none 0 0)
  have boc := bo.cell
  gi_wp2
  have hB0 : Below w.heap.size w (w.alloc (.cells #[.slice none 0 0] 83)) := (Below.refl _ w).alloc (Nat.le_refl _) _
  have hBn := hc1.lt
  have inv0 : ∀ (W : World) (pre : List (FkN many)), True := fun _ _ => trivial
  refine wpIn_rangeFunc_ownH rfl (by omega) (gf := 98) (lb := #[.pointer (some ⟨Bn, 0, none⟩), .pointer (some ⟨Bn + 1, 0, none⟩)]) rfl trivial (enters_of Tryz.func98 (by kernel_rfl) rfl)
    (way_stops (6 - 1) (by omega) many at_ hm hat KpF KpF.y Bn _ (hc0.alloc _) (hc1.alloc _)) KpF.t KpF.b (Below.refl _ _) (fun _ => rfl)
    (fun pre W => (∃ v, Boxed W w.heap.size 83 v ∧ W.ownsRow w.heap.size 86 3 v pre.length (cellsF (pre.map (·.1))) ∧ (v = .slice none 0 0 ↔ pre.length = 0)) ∧ Below w.heap.size w W)
    (fun _ _ _ => False)
    (OwnFrom.and (Own.from (holdsRow_own w.heap.size w.heap.size 83 86 3 (fun pre : List (FkN many) => pre.length) (fun pre => cellsF (pre.map (·.1))) (fun pre v => (v = .slice none 0 0 ↔ pre.length = 0))) _) (ownFrom_below (Nat.le_refl _) (by simp)))
    (fun _ _ _ _ _ hs _ _ => hs)
    ⟨⟨_, bo, World.ownsRow_nil _ _ _ _, by simp⟩, hB0⟩
    (fun x a' W => ∃ Bx, W.heap[Bx]? = some (.cells #[.int .i64 x.1.f0, .int .i64 x.1.f1, .bool x.1.f2] 86 (0, 0)) ∧ a' = { tmps := #[.slice none 0 0, .func (.func 98) #[] #[.pointer (some ⟨Bn, 0, none⟩), .pointer (some ⟨Bn + 1, 0, none⟩)], .pointer (some ⟨w.heap.size, 0, none⟩), undef, .slice none 0 0, .pointer (some ⟨Bx, 0, none⟩), .func (.func 98) #[] #[.pointer (some ⟨Bn, 0, none⟩), .pointer (some ⟨Bn + 1, 0, none⟩)], encF x.1, undef, undef, undef, undef, undef], defers := [] })
    (fun x a' _ X Y row hs hg hr => by
      obtain ⟨Bx, hx, rfl⟩ := hs
      refine ⟨Bx, (hg.block Bx (Array.getElem?_eq_some_iff.1 hx).1 (fun e => ?_)).trans hx, rfl⟩
      obtain ⟨_, o, ho, hc⟩ := hr Bx e.symm
      rw [hx] at ho; cases ho; cases hc)
    ?assign ?body ?done ?stop
  case assign =>
    rintro l pre x W K ⟨⟨v, hv, hrow, hnil⟩, hB⟩ hK
    obtain ⟨⟨p, q, b⟩, hok⟩ := x
    unfold encF
    gi_wp2
    exact hK _ _ ((KeepsOthers.alloc _ _).from _) (KpF.below (below_alloc (Below.refl _ _) _)) ⟨⟨v, hv.alloc _, hrow.alloc _, hnil⟩, hB.alloc hB.size _⟩ ⟨W.heap.size, World.alloc_heap_new W _, rfl⟩
  case body =>
    rintro l pre x a' W hl hr ⟨⟨v, hv, hrow, hnil⟩, hB⟩ ⟨Bx, hBx, rfl⟩ hlt
    clear hr
    obtain ⟨⟨p, q, bb⟩, hok⟩ := x
    simp only at hBx
    have hf0 : W.cell? ⟨Bx, 0, none⟩ = some (.int .i64 p) := by simp [World.cell?, hBx]
    have hf1 : W.cell? ⟨Bx, 1, none⟩ = some (.int .i64 q) := by simp [World.cell?, hBx]
    have hf2 : W.cell? ⟨Bx, 2, none⟩ = some (.bool bb) := by simp [World.cell?, hBx]
    have hc := hv.cell
    have hsz := hB.size
    have HB := Lib.hid hB
    have HNil := Lib.hid hnil
    clear hB hBx boc hnil
    unfold encF
    gi_wp2_with (gi_at_builtin; refine wpListIn_append_kept _ rfl _ _ 83 rfl w.heap.size 86 i0 (.agg #[.int .i64 0, .int .i64 0, .bool false]) 3 24 Tryz.underlying83 hi hz0 hz1 hz2 rfl (by decide) _ _ _ rfl (hrow.alloc _) HNil.out ⟨W.heap.size, 0, none⟩ 1 [.int .i64 p, .int .i64 q, .bool bb] rfl rfl (cell_three_new _ _ _ _ _) (by simp [Value.oneCell']) (Nat.le_trans (show pre.length + 1 ≤ 9 by omega) (by decide)) (by omega) (by rw [World.size_alloc]; omega) ?_; intro v' w3 hown' hgrow hnn hkeep; obtain ⟨g', cap', rfl⟩ := ownsRow_succ hown'; obtain ⟨hv1, hv3, hr3, hk3, hb3⟩ := hv.appended (by decide) hrow hsz (Nat.le_refl _) hown' hgrow; have hc1 := hv1.cell; have hf1 := hv1.frozen; have hkp3 := KpF.appended (v' := .slice (some ⟨g', 0, none⟩) (pre.length + 1) cap') hv hrow hgrow hkeep)
    refine ⟨hk3.from _, hkp3, ⟨_, hv3, ?_, by simp⟩, HB.out.trans hb3⟩
    simpa [cellsF_snoc] using hr3
  case done =>
    rintro D ys W hD hys ⟨⟨v, hv, hrow, hnil⟩, hB⟩ hK
    have hc := hv.cell
    have hn : ys.length = (forks at_ 0 many).length := by rw [← hys, List.length_map]
    rw [hys, hn] at hrow
    rw [hn] at hnil
    gi_wp2
    refine ⟨by simp, .inl ⟨_, _, rfl, run_takeDeferred hK, ?_⟩⟩
    exact ⟨_, results_tmp rfl _ _ _, v, rfl, ownsRow_putObj hrow _ hK rfl, hnil, hB.trans (belowK_b (w := w) (Nat.le_refl _) W D _ _ (by simp at hD; omega) hK rfl rfl)⟩
  case stop =>
    rintro D c pre W _ _ h _
    exact h.elim
theorem collect_calls (many at_ : Nat) (hm : many ≤ 8) (hat : at_ < many) (Bn : Nat) (w : World) (hc0 : Boxed w Bn 3 (.int .i64 (many : Int))) (hc1 : Boxed w (Bn + 1) 3 (.int .i64 (at_ : Int))) :
    Calls Tryz.prog 75 #[.func (.func 98) #[] #[.pointer (some ⟨Bn, 0, none⟩), .pointer (some ⟨Bn + 1, 0, none⟩)]] w fun e w' => ∃ v : Value, e = .returned v ∧ w'.ownsRow w.heap.size 86 3 v (forks at_ 0 many).length (cellsF (forks at_ 0 many)) ∧ (v = .slice none 0 0 ↔ (forks at_ 0 many).length = 0) ∧ Below w.heap.size w w' := by
  have K := Lib.hid (appendSeq_calls many at_ hm hat Bn w hc0 hc1)
  clear hc0 hc1
  go_enter Tryz.func75, Tryz.ntmps75
  go_wp2_with (go_at_call 97; refine (K.out).mono ?_; rintro e w1 ⟨v, rfl, h1, h2, h3⟩; have H1 := Lib.hid h1; have H2 := Lib.hid h2; have H3 := Lib.hid h3; clear h1 h2 h3)
  go_ret
  exact ⟨_, rfl, H1.out, H2.out, H3.out⟩
end Go.Proofs.YtodiffgpefidoaaGreatDoor.P

