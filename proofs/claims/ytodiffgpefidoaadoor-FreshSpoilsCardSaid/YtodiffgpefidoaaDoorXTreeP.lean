/- Slimmed by wip/slim.py. -/
import Derived.Maps.AppendAt
import Derived.Test.YtodiffgpefidoaaDoorXTreeW
namespace Go.Proofs.YtodiffgpefidoaaDoor.P
open Go.RowKit Go.Proofs.YtodiffgpefidoaaDoorW.PrintWords Go.Proofs.YtodiffgpefidoaaDoorW.PrintLast Go.Proofs.YtodiffgpefidoaaDoorW.PrintMore
set_option linter.unusedVariables false
set_option linter.unusedSimpArgs false
attribute [local go_sem] Oper.semAt_some
theorem first_in (n : Nat) (m : Nat) (h1 : 2 ≤ m) (h2 : m ≤ 8) (w : World) : CallsIn Fence.wide n Tryd.prog 60 #[.int .i64 (m : Int)] w fun e w' => e = .returned (.int .i64 ((firstN m : Nat) : Int)) ∧ Drawn0 w w' :=
  callsIn_wide.2 (tree_first.calls (m : Int) _ w (tree_first.of m h1 h2))
theorem way_calls (many at_ : Int) (w : World) : Calls Tryd.prog 33 #[.int .i64 many, .int .i64 at_] w fun e w' =>
    e = .returned (.func (.func 59) #[] #[.pointer (some ⟨w.heap.size, 0, none⟩), .pointer (some ⟨w.heap.size + 1, 0, none⟩)]) ∧ w' = (w.alloc (.cells #[.int .i64 many] 3)).alloc (.cells #[.int .i64 at_] 3) := by
  go_enter Tryd.func33, Tryd.ntmps33
  go_wp2
  go_ret
  exact ⟨by simp, rfl⟩
def KpT (W W' : World) : Prop := W.heap.size ≤ W'.heap.size ∧ ∀ (k : Nat) (cs : Array Value) (t : TypeId), t ≠ 9 → t ≠ 24 → W.heap[k]? = some (.cells cs t (0, 0)) → W'.heap[k]? = some (.cells cs t (0, 0))
theorem KpT.t {A B C : World} (h : KpT A B) (k : KpT B C) : KpT A C := ⟨Nat.le_trans h.1 k.1, fun i cs t h1 h2 hi => k.2 i cs t h1 h2 (h.2 i cs t h1 h2 hi)⟩
theorem KpT.b {w : World} (W : World) (l : Nat) (o o' : Obj) (hl : w.heap.size ≤ l) (h : W.heap[l]? = some o) (ho : o.isCells = false) (hw : o.isWalk = false) : KpT W (W.putObj l o') :=
  ⟨by simp, fun i cs t _ _ hi => by
    have hne : i ≠ l := by
      rintro rfl
      rw [h] at hi; cases hi; cases ho
    rw [← hi]; exact World.putObj_heap_other hne⟩
theorem KpT.y (W W' : World) (h : KpT W W') : KY W W' := ⟨h.1, fun k v hk => h.2 k _ _ (by decide) (by decide) hk, fun a b c hk => h.2 _ _ _ (by decide) (by decide) hk⟩
theorem KpT.below {W W' : World} (h : Below W.heap.size W W') : KpT W W' := ⟨h.size, fun k cs t _ _ hk => (h.block k (Array.getElem?_eq_some_iff.1 hk).1).trans hk⟩
theorem way_stops (n : Nat) (hn : 1 ≤ n) (many at_ : Nat) (hm : many ≤ 8) (hat : at_ < many) (Kp : World → World → Prop) (hKp : ∀ W W', Kp W W' → KY W W') (Bn : Nat) (w : World)
    (hc0 : Boxed w Bn 3 (.int .i64 (many : Int))) (hc1 : Boxed w (Bn + 1) 3 (.int .i64 (at_ : Int))) :
    SeqStopsK Fence.wide n Tryd.prog 59 #[.pointer (some ⟨Bn, 0, none⟩), .pointer (some ⟨Bn + 1, 0, none⟩)] (fun x : FkN many => #[encF x.1]) Kp (fun ys => ys.map (·.1) = forks at_ 0 many) (fun _ => True) 8 w :=
  fun l J Jx W hW hJ hJx hY h0 =>
    way1_in Fence.wide n trivial trivial (fun m h1 h2 w => first_in _ m h1 h2 w) rfl hn l Bn many at_ hm hat Kp hKp J Jx W hJ hY (boxed_below hc0 hW) (boxed_below hc1 hW) h0
theorem KpT.appended {W w1 : World} {base B : Nat} {v v' : Value} {k : Nat} {xs : List Value} {tmp : Obj} (hv : Boxed W B 24 v) (hrow : W.ownsRow base 9 1 v k xs) (hgrow : (W.alloc tmp).grownBy w1 v.ownBlock) (hB : B < W.heap.size) : KpT W (w1.setCell ⟨B, 0, none⟩ v') := by
  have hs : (w1.setCell ⟨B, 0, none⟩ v').heap.size = w1.heap.size := by simp [World.setCell]
  refine ⟨by rw [hs]; have := hgrow.size; simp at this; omega, fun i cs t h1 h2 hi => ?_⟩
  have hlt := (Array.getElem?_eq_some_iff.1 hi).1
  have hne : i ≠ B := by
    rintro rfl
    rw [show W.heap[i]? = _ from hv] at hi
    simp at hi
    exact h2 hi.2.symm
  rw [Below.heap_setCell w1 ⟨B, 0, none⟩ v' i hne]
  have ha : (W.alloc tmp).heap[i]? = some (.cells cs t (0, 0)) := (Below.heap_alloc W tmp i hlt).trans hi
  refine (hgrow.block i (by simp; omega) ?_).trans ha
  intro e
  rcases hrow.2 with ⟨rfl, _⟩ | ⟨g, cap, cur, rfl, _, hgb, _⟩
  · simp [Value.ownBlock] at e
  · obtain rfl : i = g := by simpa [Value.ownBlock] using e
    rw [hgb] at hi
    simp at hi
    exact h1 hi.2.symm
theorem ownsRow_below {W W' : World} {base : Nat} {e : TypeId} {size : Nat} {v : Value} {k : Nat} {xs : List Value} (h : W.ownsRow base e size v k xs) (hb : Below W.heap.size W W') : W'.ownsRow base e size v k xs := by
  refine h.kept (grown_of_below hb) ?_
  rcases h.2 with ⟨rfl, _⟩ | ⟨g, cap, cur, rfl, _, hgb, _⟩
  · exact .inl rfl
  · exact .inr (fun e' => by simp [Value.ownBlock] at e')
def proofL (ls : List (List UInt8)) (at_ : Nat) : List (List UInt8) := ((forks at_ 0 ls.length).map (fun x => (treeL ((ls.take x.f1.toNat).drop x.f0.toNat)).1)).reverse
def tree_Proof.f (k : Nat) (l0 : List ByteArray) (a1 : Int) : Option (List ByteArray × Int) := (tree_Root.f k l0).bind fun r => if r.2 = 0 then (if 0 ≤ a1 ∧ a1 < (l0.length : Int) then some ((proofL (l0.map S) a1.toNat).map B, 0) else some ([], 1)) else some ([], r.2)
theorem tree_Proof.mono : ∀ l0 a1 k, LeO (tree_Proof.f k l0 a1) (tree_Proof.f (k + 1) l0 a1) := by
  intro l0 a1 k
  unfold tree_Proof.f
  exact LeO.bind (tree_Root.mono l0 k) (fun _ => LeO.refl _)
theorem R_of_own {w : World} {base : Nat} {ok : Nat → Prop} {v : Value} {xs : List ByteArray} (h : w.ownsRow base 9 1 v xs.length (xs.map Value.string)) (hok : ∀ k, v.ownBlock = some k → ok k) : Kd.R Kd.string 9 w base ok v xs := by
  refine ⟨hok, xs.map Value.string, h, ?_, ?_⟩
  · simp [Kd.string, Kd.scalar]
  · intro j p hp
    have hj : j < xs.length := (List.getElem?_eq_some_iff.mp hp).1
    show (((xs.map Value.string).drop (j * 1)).take 1) = [Value.string p]
    rw [Nat.mul_one, List.drop_eq_getElem_cons (by rw [List.length_map]; exact hj), List.getElem_map, (List.getElem?_eq_some_iff.mp hp).2]
    rfl
theorem rev_of (l : List ByteArray) (h : l.length ≤ 3) : slices_Reverse_string_string.f 10 l = some l.reverse := by
  match l, h with
  | [], _ => simp [slices_Reverse_string_string.f, slices_Reverse_string_string.l0, wrap64, rdOf]
  | [a], _ => simp [slices_Reverse_string_string.f, slices_Reverse_string_string.l0, wrap64, rdOf]
  | [a, b], _ => simp [slices_Reverse_string_string.f, slices_Reverse_string_string.l0, wrap64, rdOf]
  | [a, b, c], _ => simp [slices_Reverse_string_string.f, slices_Reverse_string_string.l0, wrap64, rdOf]
  | a :: b :: c :: d :: r, h => simp at h
theorem Tryd.infoS : (Tryd.prog.info? 9).map (fun i => (i.zero, i.size, i.bytes)) = some (some (.string ⟨#[]⟩), 1, 16) := by kernel_rfl
theorem Root_ok {k : Nat} {l : List ByteArray} {rt : ByteArray} (h : tree_Root.f k l = some (rt, 0)) : 0 < l.length ∧ l.length ≤ 8 := by
  unfold tree_Root.f at h
  by_cases hc : l.length = 0 ∨ 8 < l.length
  · rw [if_pos hc] at h
    have := congrArg Prod.snd (Option.some.inj h)
    simp at this
  · omega
set_option maxRecDepth 100000 in
set_option maxHeartbeats 4000000 in
theorem Proof_ok (k : Nat) (A0 : Option Addr) (c0 : Nat) (l0 : List ByteArray) (at_ : Nat) (rt : ByteArray) (w : World) (hr0 : Kd.C Kd.string w A0 l0.length l0) (hc0 : l0.length ≤ c0) (h : tree_Root.f k l0 = some (rt, 0)) (hat : at_ < l0.length) :
    Calls Tryd.prog 15 #[.slice A0 l0.length c0, .int .i64 (at_ : Int)] w fun e w' => ∃ v0_ : Value, e = .returned (.tuple #[v0_, .int .i64 0]) ∧ Kd.R Kd.string 9 w' w.heap.size (fun _ => True) v0_ ((proofL (l0.map S) at_).map B) ∧ Below w.heap.size w w' := by
  obtain ⟨hl1, hl2⟩ := Root_ok h
  have HR := Lib.hid h
  have HC := Lib.hid hr0
  obtain ⟨i0, hi, hz0, hz1, hz2⟩ := info_parts Tryd.infoS
  clear h hr0
  refine (callsIn_wide (n := 6)).1 ?_
  refine callsIn_of_wp_marks Tryd.func15 rfl trivial ?_ rfl
  simp only [Tryd.ntmps15, List.size_toArray, List.length_cons, List.length_nil, Nat.reduceAdd, Nat.reduceSub, Array.replicate_succ, Array.replicate_zero, List.push_toArray, List.append_toArray, List.nil_append, List.cons_append]
  have hbB : Below w.heap.size w (w.alloc (.cells #[.slice A0 l0.length c0] 24)) := (Below.refl _ w).alloc (Nat.le_refl _) _
  have hRoot := Lib.hid (tree_Root.calls k A0 c0 l0 rt 0 _ (Kd.C_below HC.out hbB) hc0 HR.out)
  have HBB := Lib.hid hbB
  have b0 := Boxed.new w 24 (.slice A0 l0.length c0)
  have bc := b0.cell
  gi_wp2_with (fail)
  refine ⟨trivial, (callsIn_wide.2 hRoot.out).mono ?_⟩
  rintro e w1 ⟨rfl, hb1⟩
  have b1 : Boxed w1 w.heap.size 24 (.slice A0 l0.length c0) := (hb1.block w.heap.size (by simp)).trans b0
  have hB1 : Below w.heap.size w w1 := HBB.out.trans (hb1.mono (by simp))
  have HB1 := Lib.hid hB1
  have hs1 : w.heap.size < w1.heap.size := b1.lt
  have bc1 := b1.cell
  have f1 : ((at_ : Int) < 0) = False := eq_false (by omega)
  have f2 : ((l0.length : Int) ≤ (at_ : Int)) = False := eq_false (by omega)
  have b2 : Boxed (w1.alloc (.cells #[.slice none 0 0] 24)) w.heap.size 24 (.slice A0 l0.length c0) := b1.alloc _
  have bc2 := b2.cell
  have bo := Boxed.new w1 24 (.slice none 0 0)
  have boc := bo.cell
  clear hb1 hB1 bc
  gi_wp2_with (fail)
  refine ⟨trivial, (callsIn_wide.2 (way_calls (l0.length : Int) (at_ : Int) _)).mono ?_⟩
  rintro e w2 ⟨rfl, rfl⟩
  gi_wp2_with (fail)
  have bm := Boxed.new (w1.alloc (.cells #[.slice none 0 0] 24)) 3 (.int .i64 (l0.length : Int))
  have ba := Boxed.new ((w1.alloc (.cells #[.slice none 0 0] 24)).alloc (.cells #[.int .i64 (l0.length : Int)] 3)) 3 (.int .i64 (at_ : Int))
  rw [World.size_alloc, World.size_alloc] at ba
  rw [World.size_alloc] at bm
  have hB0 : Below w1.heap.size w1 (((w1.alloc (.cells #[.slice none 0 0] 24)).alloc (.cells #[.int .i64 (l0.length : Int)] 3)).alloc (.cells #[.int .i64 (at_ : Int)] 3)) := (((Below.refl _ w1).alloc (Nat.le_refl _) _).alloc (by simp) _).alloc (by simp; omega) _
  refine wpIn_rangeFunc_ownH rfl (by omega) (gf := 59) (lb := #[.pointer (some ⟨w1.heap.size + 1, 0, none⟩), .pointer (some ⟨w1.heap.size + 1 + 1, 0, none⟩)]) rfl trivial (enters_of Tryd.func59 (by kernel_rfl) rfl)
    (way_stops (6 - 1) (by omega) l0.length at_ hl2 hat KpT KpT.y (w1.heap.size + 1) _ (bm.alloc _) ba) KpT.t KpT.b (Below.refl _ _) (fun _ => rfl)
    (fun pre W => (∃ v, Boxed W w1.heap.size 24 v ∧ W.ownsRow w1.heap.size 9 1 v pre.length (pre.map (fun x => Value.string (B (treeL (((l0.map S).take x.1.f1.toNat).drop x.1.f0.toNat)).1))) ∧ True) ∧ Below w1.heap.size w1 W)
    (fun _ _ _ => False)
    (OwnFrom.and (Own.from (holdsRow_own w1.heap.size w1.heap.size 24 9 1 (fun pre : List (FkN l0.length) => pre.length) (fun pre => pre.map (fun x => Value.string (B (treeL (((l0.map S).take x.1.f1.toNat).drop x.1.f0.toNat)).1))) (fun _ _ => True)) _) (ownFrom_below (Nat.le_refl _) (by simp; omega)))
    (fun _ _ _ _ _ hs _ _ => hs)
    ⟨⟨_, (bo.alloc _).alloc _, World.ownsRow_nil _ _ _ _, trivial⟩, hB0⟩
    (fun x a' W => ∃ Bx, W.heap[Bx]? = some (.cells #[.int .i64 x.1.f0, .int .i64 x.1.f1, .bool x.1.f2] 63 (0, 0)) ∧ a' = { tmps := #[.slice A0 l0.length c0, .int .i64 (at_ : Int), .pointer (some ⟨w.heap.size, 0, none⟩), undef, .slice none 0 0, .int .i64 0, .string rt, .int .i64 0, .pointer (some ⟨w1.heap.size, 0, none⟩), .pointer (some ⟨Bx, 0, none⟩), undef, undef, .tuple #[.string rt, .int .i64 0], .slice A0 l0.length c0, .tuple #[.string rt, .int .i64 0], .string rt, .int .i64 0, .int .i64 0, .bool false, undef, .int .i64 (at_ : Int), .bool false, .bool false, .int .i64 (at_ : Int), .slice A0 l0.length c0, .int .i64 (l0.length : Int), .bool false, .bool false, .slice A0 l0.length c0, .int .i64 (l0.length : Int), .int .i64 (at_ : Int), .func (.func 59) #[] #[.pointer (some ⟨w1.heap.size + 1, 0, none⟩), .pointer (some ⟨w1.heap.size + 1 + 1, 0, none⟩)], encF x.1, undef, undef, undef, undef, undef, undef, undef, undef, undef, undef, undef, undef, undef, undef, undef, undef, undef], defers := [] })
    (fun x a' _ X Y row hs hg hr => by
      obtain ⟨Bx, hx, rfl⟩ := hs
      refine ⟨Bx, (hg.block Bx (Array.getElem?_eq_some_iff.1 hx).1 (fun e => ?_)).trans hx, rfl⟩
      obtain ⟨_, o, ho, hc⟩ := hr Bx e.symm
      rw [hx] at ho; cases ho; cases hc)
    ?assign ?body ?done ?stop
  case assign =>
    rintro l pre x W K ⟨⟨v, hv, hrow, -⟩, hB⟩ hK
    obtain ⟨⟨p, q, b⟩, hok⟩ := x
    unfold encF
    gi_wp2
    exact hK _ _ ((KeepsOthers.alloc _ _).from _) (KpT.below (below_alloc (Below.refl _ _) _)) ⟨⟨v, hv.alloc _, hrow.alloc _, trivial⟩, hB.alloc hB.size _⟩ ⟨W.heap.size, World.alloc_heap_new W _, rfl⟩
  case body =>
    rintro l pre x a' W hl hr ⟨⟨v, hv, hrow, -⟩, hB⟩ ⟨Bx, hBx, rfl⟩ hlt
    clear hr
    obtain ⟨⟨p, q, bb⟩, hok⟩ := x
    obtain ⟨o1, o2, o3⟩ := hok
    simp only at o1 o2 o3
    obtain ⟨lo, rfl⟩ : ∃ lo : Nat, p = (lo : Int) := ⟨p.toNat, by omega⟩
    obtain ⟨hi', rfl⟩ : ∃ hi' : Nat, q = (hi' : Int) := ⟨q.toNat, by omega⟩
    simp only [Int.toNat_natCast]
    have hL : (((l0.take hi').drop lo).map S) = ((l0.map S).take hi').drop lo := by rw [List.map_drop, List.map_take]
    obtain ⟨Lf, hLf⟩ : ∃ Lf, Lf = ((l0.map S).take hi').drop lo := ⟨_, rfl⟩
    rw [← hLf] at hL
    have hLB : Lf.map B = (l0.take hi').drop lo := by rw [← hL, List.map_map, show (B ∘ S) = id from by funext z; exact B_S z, List.map_id]
    have hll : ((l0.take hi').drop lo).length = hi' - lo := by rw [List.length_drop, List.length_take]; omega
    have hfl : Lf.length = hi' - lo := by rw [← hL, List.length_map, hll]
    have hbl : Boxed W w.heap.size 24 (.slice A0 l0.length c0) := (hB.block w.heap.size hs1).trans b1
    have hblc := hbl.cell
    have hf0 : W.cell? ⟨Bx, 0, none⟩ = some (.int .i64 (lo : Int)) := by simp [World.cell?, hBx]
    have hf1 : W.cell? ⟨Bx, 1, none⟩ = some (.int .i64 (hi' : Int)) := by simp [World.cell?, hBx]
    have hcut := cut_mid 24 9 .i64 .i64 Tryd.underlying24 hi 1 hz1 A0 l0.length c0 (lo : Int) (hi' : Int) (by omega) (by omega) (by omega) hc0
    rw [Int.toNat_natCast, Int.toNat_natCast] at hcut
    have hBw : Below w.heap.size w W := HB1.out.trans (hB.mono (by omega))
    have hC := Kd.C_mid (lo := lo) (hi := hi') (c := c0) (Kd.C_below HC.out hBw) (by omega) (by omega) hc0
    simp only [show Kd.string.sz = 1 from rfl, Nat.mul_one] at hC hcut
    obtain ⟨A', hA'⟩ : ∃ A', A' = (if c0 = lo then A0 else A0.map (·.add lo)) := ⟨_, rfl⟩
    rw [← hA'] at hC hcut
    have K := tree_grow.calls 8 A' (c0 - lo) ((l0.take hi').drop lo) (B (treeL Lf).1) (treeL Lf).2 W hC (by rw [hll]; omega) (by rw [← hLB]; exact tree_grow.of 8 Lf (by omega) (by omega) (by omega))
    rw [hll] at K
    have HK := Lib.hid K
    have HLf := Lib.hid hLf
    have HBW := Lib.hid hB
    have HBXW := Lib.hid hBx
    obtain ⟨T, hT⟩ : ∃ T, T = B (treeL Lf).1 := ⟨_, rfl⟩
    obtain ⟨Ee, hEe⟩ : ∃ Ee, Ee = (treeL Lf).2 := ⟨_, rfl⟩
    rw [← hT, ← hEe] at HK
    have HT := Lib.hid hT
    clear K hC hA' hLf hL hLB hll hfl hB hBw hT hEe
    unfold encF
    gi_wp2_with (fail)
    refine ⟨trivial, (CallsIn.inRound l (callsIn_wide.2 HK.out)).mono ?_⟩
    rintro e W2 ⟨rfl, hb2⟩
    have hv2 : Boxed W2 w1.heap.size 24 v := (hb2.block _ hv.lt).trans hv
    have hrow2 : W2.ownsRow w1.heap.size 9 1 v pre.length (pre.map (fun x => Value.string (B (treeL (((l0.map S).take x.1.f1.toNat).drop x.1.f0.toNat)).1))) := ownsRow_below hrow hb2
    have hs2 : w1.heap.size ≤ W2.heap.size := Nat.le_trans HBW.out.size hb2.size
    have hc := hv2.cell
    have HB2 := Lib.hid hb2
    clear hb2 hv hrow hcut hf0 hf1 hblc hbl bc1 bc2 boc hBx
    gi_wp2_with (gi_at_builtin; refine wpListIn_append_own _ rfl _ _ 24 rfl w1.heap.size 9 i0 (.string ⟨#[]⟩) 1 16 Tryd.underlying24 hi hz0 hz1 hz2 rfl (by decide) _ _ _ rfl (hrow2.alloc _) ⟨W2.heap.size, 0, none⟩ 1 1 [.string T] rfl rfl (cell_one_new _ _ _) (by simp [Value.oneCell']) (Nat.le_trans (show pre.length + 1 ≤ 8 by omega) (by decide)) (by omega) (by rw [World.size_alloc]; omega) ?_; intro v' w3 hown' hgrow _; obtain ⟨g', cap', rfl⟩ := ownsRow_succ hown'; obtain ⟨hv1, hv3, hr3, hk3, hb3⟩ := hv2.appended (by decide) hrow2 hs2 (Nat.le_refl _) hown' hgrow; have hc1 := hv1.cell; have hf1 := hv1.frozen; have hkp3 := KpT.appended (v' := .slice (some ⟨g', 0, none⟩) (pre.length + 1) cap') hv2 hrow2 hgrow hv2.lt)
    refine ⟨KeepsFrom.trans ?_ (hk3.from _), (KpT.below HB2.out).t hkp3, ⟨_, hv3, ?_, trivial⟩, (HBW.out.trans (HB2.out.mono HBW.out.size)).trans hb3⟩
    · exact ⟨HB2.out.size, fun k o _ hk _ => (HB2.out.block k (Array.getElem?_eq_some_iff.1 hk).1).trans hk⟩
    · rw [List.map_append, List.length_append]
      simp only [List.map_cons, List.map_nil, List.length_cons, List.length_nil, Int.toNat_natCast]
      rw [← HLf.out, ← HT.out]
      exact hr3
  case done =>
    rintro D ys W hD hys ⟨⟨v, hv, hrow, -⟩, hB⟩ hK
    have hlen : ys.length ≤ 3 := by rw [← List.length_map (f := fun x : FkN l0.length => x.1), hys]; exact forks_len8 at_ 0 l0.length (by omega)
    obtain ⟨xs, hxs⟩ : ∃ xs : List ByteArray, xs = ys.map (fun x => B (treeL (((l0.map S).take x.1.f1.toNat).drop x.1.f0.toNat)).1) := ⟨_, rfl⟩
    have hxl : xs.length = ys.length := by rw [hxs, List.length_map]
    have hpf : xs.reverse = (proofL (l0.map S) at_).map B := by
      rw [hxs, proofL, List.length_map, ← hys, List.map_reverse, List.map_map, List.map_map]
      rfl
    have hrow' : W.ownsRow w1.heap.size 9 1 v xs.length (xs.map Value.string) := by
      rw [hxl, hxs, List.map_map]
      exact hrow
    have hR := R_of_own (ok := fun k => v.ownBlock = some k) hrow' (fun k h => h)
    have hDk : ∀ k o, W.heap[k]? = some o → o.isCells = false → ¬ v.ownBlock = some k := by
      intro k o hk ho e
      rcases hrow.2 with ⟨rfl, _⟩ | ⟨g, cap, cur, rfl, _, hgb, _⟩
      · simp [Value.ownBlock] at e
      · obtain rfl : g = k := by simpa [Value.ownBlock] using e
        rw [hgb] at hk; cases hk; cases ho
    have hob : ¬ v.ownBlock = some w1.heap.size := fun e => hv.not_row (by decide) hrow e.symm
    have HV := Lib.hid (slices_Reverse_string_string.calls 10 (fun k => v.ownBlock = some k) v xs xs.reverse w1 W hB hR (rev_of xs (by omega)))
    have hc := hv.cell
    have HK := Lib.hid hK
    have HVx := Lib.hid hv
    have hDlt : D < W.heap.size := (Array.getElem?_eq_some_iff.1 hK).1
    have hnD := hDk D _ hK rfl
    clear hK hR hrow hrow' hDk hxs hB bc1 bc2 boc
    gi_wp2_with (fail)
    refine ⟨trivial, (callsIn_wide.2 HV.out).mono ?_⟩
    rintro e W3 ⟨rfl, hR3, hB3, hK3⟩
    have hv3 : Boxed W3 w1.heap.size 24 v := (hK3.2 _ HVx.out.lt hob).trans HVx.out
    have hK' : W3.heap[D]? = some (.deferred (some [])) := (hK3.2 D hDlt hnD).trans HK.out
    have hc3 := hv3.cell
    have HR3 := Lib.hid hR3
    have HB3 := Lib.hid hB3
    have HK3 := Lib.hid hK'
    clear hR3 hB3 hK3 hc
    gi_wp2
    refine ⟨by simp, .inl ⟨_, _, rfl, run_takeDeferred HK3.out, ?_⟩⟩
    have hw1 : w.heap.size ≤ w1.heap.size := by omega
    have hD2 : w1.heap.size ≤ D := by simp at hD; omega
    refine ⟨_, results_tmp2 rfl _ _ _, v, rfl, ?_, (HB1.out.trans (HB3.out.mono hw1)).trans (belowK_b (w := w) (Nat.le_refl _) W3 D _ _ (by omega) HK3.out rfl rfl)⟩
    rw [← hpf]
    refine Kd.R_mono (ok := fun k => v.ownBlock = some k ∨ W.heap.size ≤ k) (Kd.R_lower ?_ hw1) (fun _ _ => trivial)
    refine Kd.R_kept (S := fun k => k = D) HR3.out ⟨by simp, fun i hi hne => World.putObj_heap_other (fun e => hne e)⟩ ?_
    rintro k (h | h) rfl
    · exact hnD h
    · omega
  case stop =>
    rintro D c pre W _ _ h _
    exact h.elim
set_option maxRecDepth 100000 in
set_option maxHeartbeats 2000000 in
theorem Proof_bad (k : Nat) (A0 : Option Addr) (c0 : Nat) (l0 : List ByteArray) (a1 : Int) (rt : ByteArray) (re r2 : Int) (w : World) (hr0 : Kd.C Kd.string w A0 l0.length l0) (hc0 : l0.length ≤ c0) (h : tree_Root.f k l0 = some (rt, re))
    (hre : ¬ re = 0 ∧ r2 = re ∨ re = 0 ∧ a1 < 0 ∧ r2 = 1 ∨ re = 0 ∧ 0 ≤ a1 ∧ (l0.length : Int) ≤ a1 ∧ r2 = 1) :
    Calls Tryd.prog 15 #[.slice A0 l0.length c0, .int .i64 a1] w fun e w' => e = .returned (.tuple #[.slice none 0 0, .int .i64 r2]) ∧ Below w.heap.size w w' := by
  have HR := Lib.hid h
  have HC := Lib.hid hr0
  clear h hr0
  refine (callsIn_wide (n := 6)).1 ?_
  refine callsIn_of_wp_marks Tryd.func15 rfl trivial ?_ rfl
  simp only [Tryd.ntmps15, List.size_toArray, List.length_cons, List.length_nil, Nat.reduceAdd, Nat.reduceSub, Array.replicate_succ, Array.replicate_zero, List.push_toArray, List.append_toArray, List.nil_append, List.cons_append]
  have hbB : Below w.heap.size w (w.alloc (.cells #[.slice A0 l0.length c0] 24)) := (Below.refl _ w).alloc (Nat.le_refl _) _
  have hRoot := Lib.hid (tree_Root.calls k A0 c0 l0 rt re _ (Kd.C_below HC.out hbB) hc0 HR.out)
  have HBB := Lib.hid hbB
  have b0 := Boxed.new w 24 (.slice A0 l0.length c0)
  have bc := b0.cell
  gi_wp2_with (fail)
  refine ⟨trivial, (callsIn_wide.2 hRoot.out).mono ?_⟩
  rintro e w1 ⟨rfl, hb1⟩
  have b1 : Boxed w1 w.heap.size 24 (.slice A0 l0.length c0) := (hb1.block w.heap.size (by simp)).trans b0
  have hB1 : Below w.heap.size w w1 := HBB.out.trans (hb1.mono (by simp))
  have HB1 := Lib.hid hB1
  have bc1 := b1.cell
  clear hb1 hB1 bc
  rcases hre with ⟨hne, rfl⟩ | ⟨rfl, h0, rfl⟩ | ⟨rfl, h0, h1, rfl⟩
  · have g1 : (r2 != 0) = true := bne_iff_ne.mpr hne
    gi_wp2
    exact ⟨_, results_tmp2 rfl _ _ _, rfl, HB1.out⟩
  · have g1 : (a1 < 0) = True := eq_true h0
    gi_wp2
    exact ⟨_, results_tmp2 rfl _ _ _, rfl, HB1.out⟩
  · have g1 : (a1 < 0) = False := eq_false (by omega)
    have g2 : ((l0.length : Int) ≤ a1) = True := eq_true h1
    gi_wp2
    exact ⟨_, results_tmp2 rfl _ _ _, rfl, HB1.out⟩
theorem tree_Proof.calls (k : Nat) (A0 : Option Addr) (c0 : Nat) (l0 : List ByteArray) (a1 : Int) (r1 : List ByteArray) (r2 : Int) (w : World) (hr0 : Kd.C Kd.string w A0 l0.length l0) (hc0 : l0.length ≤ c0) (h : tree_Proof.f k l0 a1 = some (r1, r2)) :
    Calls Tryd.prog 15 #[.slice A0 l0.length c0, .int .i64 a1] w fun e w' => ∃ v0_ : Value, e = .returned (.tuple #[v0_, .int .i64 r2]) ∧ Kd.R Kd.string 9 w' w.heap.size (fun _ => True) v0_ r1 ∧ Below w.heap.size w w' := by
  unfold tree_Proof.f at h
  obtain ⟨⟨rt, re⟩, hroot, h⟩ := Option.bind_eq_some_iff.mp h
  have bad : ∀ (hre : ¬ re = 0 ∧ r2 = re ∨ re = 0 ∧ a1 < 0 ∧ r2 = 1 ∨ re = 0 ∧ 0 ≤ a1 ∧ (l0.length : Int) ≤ a1 ∧ r2 = 1) (hr1 : r1 = []), Calls Tryd.prog 15 #[.slice A0 l0.length c0, .int .i64 a1] w fun e w' => ∃ v0_ : Value, e = .returned (.tuple #[v0_, .int .i64 r2]) ∧ Kd.R Kd.string 9 w' w.heap.size (fun _ => True) v0_ r1 ∧ Below w.heap.size w w' := by
    intro hre hr1
    subst hr1
    refine (Proof_bad k A0 c0 l0 a1 rt re r2 w hr0 hc0 hroot hre).mono ?_
    rintro e w' ⟨rfl, hb⟩
    exact ⟨_, rfl, Kd.R_nil _ _ _ _ _, hb⟩
  by_cases hre : re = 0
  · subst hre
    simp only [if_true] at h
    by_cases hin : 0 ≤ a1 ∧ a1 < (l0.length : Int)
    · rw [if_pos hin] at h
      have h1 := Option.some.inj h
      obtain rfl : (proofL (l0.map S) a1.toNat).map B = r1 := congrArg Prod.fst h1
      obtain rfl : (0 : Int) = r2 := congrArg Prod.snd h1
      obtain ⟨at_, rfl⟩ : ∃ n : Nat, a1 = (n : Int) := ⟨a1.toNat, by omega⟩
      rw [Int.toNat_natCast]
      exact Proof_ok k A0 c0 l0 at_ rt w hr0 hc0 hroot (by omega)
    · rw [if_neg hin] at h
      have h1 := Option.some.inj h
      have e1 : [] = r1 := congrArg Prod.fst h1
      have e2 : (1 : Int) = r2 := congrArg Prod.snd h1
      by_cases h0 : a1 < 0
      · exact bad (.inr (.inl ⟨rfl, h0, e2.symm⟩)) e1.symm
      · exact bad (.inr (.inr ⟨rfl, by omega, by omega, e2.symm⟩)) e1.symm
  · rw [if_neg hre] at h
    have h1 := Option.some.inj h
    exact bad (.inl ⟨hre, (congrArg Prod.snd h1).symm⟩) (congrArg Prod.fst h1).symm
end Go.Proofs.YtodiffgpefidoaaDoor.P

