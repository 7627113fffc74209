/- Slimmed by wip/slim.py. -/
import Derived.Test.YtodiffgpefidoaaGreatDoorETells
import Derived.Test.YtodiffgpefidoaaGreatDoorXTellsM
import Derived.Test.YtodiffgpefidoaaGreatDoorGLFreshTells
namespace Go.Proofs.YtodiffgpefidoaaGreatDoor.Pure
set_option linter.unusedVariables false
set_option linter.unusedSimpArgs false
open Go Go.RowKit Go.Proofs.YtodiffgpefidoaaGreatDoor.P Go.Proofs.YtodiffgpefidoaaGreatDoorW.PrintWords Go.Proofs.YtodiffgpefidoaaGreatDoorW.PrintLast Go.Proofs.YtodiffgpefidoaaGreatDoorW.PrintMore
def tot : List (List UInt8) → Nat
  | [] => 0
  | x :: r => x.length + tot r
theorem tot_append : ∀ a b : List (List UInt8), tot (a ++ b) = tot a + tot b
  | [], b => by simp [tot]
  | x :: r, b => by rw [List.cons_append, tot, tot, tot_append r b]; omega
theorem tot_mem : ∀ (l : List (List UInt8)) (x : List UInt8), x ∈ l → x.length ≤ tot l
  | [], x, h => by simp at h
  | y :: r, x, h => by
    rw [tot]
    rcases List.mem_cons.mp h with rfl | h
    · omega
    · have := tot_mem r x h; omega
theorem light_many (ls : List (List UInt8)) (h : 20 < ls.length) (hl : ls.length * 16 ≤ 140737488351232) : ∀ (m i : Nat) (s : Int), i + m = ls.length → Ev (fun k => letterlocklaw11_light.l0 k (ls.map B) s (i : Int)) false := by
  intro m
  induction m with
  | zero =>
    intro i s hi
    refine ⟨1, fun k hk => ?_⟩
    obtain ⟨k, rfl⟩ : ∃ m, k = m + 1 := ⟨k - 1, by omega⟩
    show letterlocklaw11_light.l0 (k + 1) _ _ _ = _
    rw [letterlocklaw11_light.l0, if_neg (by rw [List.length_map]; omega), if_neg (by rw [List.length_map]; omega)]
  | succ m ih =>
    intro i s hi
    obtain ⟨K, e⟩ := ih (i + 1) (wrap64 (s + ((rdOf ByteArray.empty (ls.map B) (i : Int)).size : Int))) (by omega)
    refine ⟨K + 1, fun k hk => ?_⟩
    obtain ⟨k, rfl⟩ : ∃ m, k = m + 1 := ⟨k - 1, by omega⟩
    have hw : wrap64 ((i : Int) + 1) = ((i + 1 : Nat) : Int) := by rw [w64 _ (by omega) (by omega)]; omega
    show letterlocklaw11_light.l0 (k + 1) _ _ _ = _
    rw [letterlocklaw11_light.l0, if_pos (by rw [List.length_map]; omega), if_pos (by omega), hw]
    exact e k (by omega)
theorem light_few (ls : List (List UInt8)) (h : ls.length ≤ 20) (hx : ∀ x ∈ ls, x.length ≤ 140737488351232) : ∀ (m i s : Nat), i + m = ls.length → s = tot (ls.take i) → s ≤ i * 140737488351232 → Ev (fun k => letterlocklaw11_light.l0 k (ls.map B) (s : Int) (i : Int)) (decide ((tot ls : Int) ≤ 6000)) := by
  intro m
  induction m with
  | zero =>
    intro i s hi hs hb
    rw [show i = ls.length from by omega, List.take_length] at hs
    refine ⟨1, fun k hk => ?_⟩
    obtain ⟨k, rfl⟩ : ∃ m, k = m + 1 := ⟨k - 1, by omega⟩
    show letterlocklaw11_light.l0 (k + 1) _ _ _ = _
    rw [letterlocklaw11_light.l0, if_neg (by rw [List.length_map]; omega), if_pos (by rw [List.length_map]; omega), hs]
  | succ m ih =>
    intro i s hi hs hb
    have hil : i < ls.length := by omega
    have hxi := hx _ (List.getElem_mem hil)
    have hts : tot (ls.take (i + 1)) = tot (ls.take i) + ls[i].length := by rw [List.take_succ_eq_append_getElem hil, tot_append]; simp [tot]
    obtain ⟨K, e⟩ := ih (i + 1) (s + ls[i].length) (by omega) (by rw [hts, hs]) (by omega)
    refine ⟨K + 1, fun k hk => ?_⟩
    obtain ⟨k, rfl⟩ : ∃ m, k = m + 1 := ⟨k - 1, by omega⟩
    have hw : wrap64 ((i : Int) + 1) = ((i + 1 : Nat) : Int) := by rw [w64 _ (by omega) (by omega)]; omega
    have hw2 : wrap64 ((s : Int) + ((B ls[i]).size : Int)) = ((s + ls[i].length : Nat) : Int) := by rw [size_B, w64 _ (by omega) (by omega)]; omega
    show letterlocklaw11_light.l0 (k + 1) _ _ _ = _
    rw [letterlocklaw11_light.l0, if_pos (by rw [List.length_map]; omega), if_pos (by omega), rdOf_map ls i hil, hw2, hw]
    exact e k (by omega)
theorem letterlocklaw11_light.ev (ls : List (List UInt8)) (hl : ls.length * 16 ≤ 140737488351232) (hx : ∀ x ∈ ls, x.length ≤ 140737488351232) : ∃ b, Ev (fun k => letterlocklaw11_light.f k (ls.map B)) b ∧ (b = true → ls.length ≤ 20 ∧ ∀ x ∈ ls, x.length ≤ 6000) := by
  by_cases h : ls.length ≤ 20
  · refine ⟨_, light_few ls h hx ls.length 0 0 (by omega) rfl (by omega), fun hb => ⟨h, fun x hm => ?_⟩⟩
    have h1 := of_decide_eq_true hb
    have h2 := tot_mem ls x hm
    omega
  · exact ⟨false, light_many ls (by omega) hl ls.length 0 0 (by omega), fun h => absurd h (by decide)⟩
theorem rows_of (l : List ByteArray) : ∃ ls : List (List UInt8), l = ls.map B ∧ ∀ x ∈ ls, B x ∈ l := by
  refine ⟨l.map S, ?_, ?_⟩
  · rw [List.map_map, show (B ∘ S) = id from by funext z; exact B_S z, List.map_id]
  · intro x hx
    obtain ⟨y, hy, rfl⟩ := List.mem_map.mp hx
    rw [B_S]
    exact hy
theorem tells_sum {r g o b : ByteArray} (h3 : r.size ≤ 140737488351232) (h4 : g.size ≤ 140737488351232) (h0 : o.size ≤ 140737488351232) (hb : b.size ≤ 140737488351232) : wrap64 (wrap64 (wrap64 ((r.size : Int) + (g.size : Int)) + (o.size : Int)) + (b.size : Int)) = ((r.size + g.size + o.size + b.size : Nat) : Int) := by
  rw [w64 ((r.size : Int) + (g.size : Int)) (by omega) (by omega), w64 ((r.size : Int) + (g.size : Int) + (o.size : Int)) (by omega) (by omega), w64 _ (by omega) (by omega)]
  omega
theorem tells_sum2 {s w_ : ByteArray} (hs : s.size ≤ 140737488351232) (hw : w_.size ≤ 140737488351232) : wrap64 ((s.size : Int) + (w_.size : Int)) = ((s.size + w_.size : Nat) : Int) := by
  rw [w64 _ (by omega) (by omega)]
  omega
set_option maxHeartbeats 4000000 in
theorem FreshTells (o r g b s w_ : ByteArray) (t n a5 a6 a7 : Int) (A4 : Option Addr) (c4 : Nat) (l4 : List ByteArray) (A8 : Option Addr) (c8 : Nat) (l8 : List ByteArray) (W : World)
    (hV : Laid8 W) (hr4 : Kd.C Kd.string W A4 l4.length l4) (hc4 : l4.length ≤ c4) (hr8 : Kd.C Kd.string W A8 l8.length l8) (hc8 : l8.length ≤ c8)
    (h0 : o.size ≤ 140737488351232) (h3 : r.size ≤ 140737488351232) (h4 : g.size ≤ 140737488351232) (hb : b.size ≤ 140737488351232) (hs : s.size ≤ 140737488351232) (hw : w_.size ≤ 140737488351232)
    (wt : (Lit.int .u64 t).wf = true) (wn : (Lit.int .i64 n).wf = true) (w5 : (Lit.int .u64 a5).wf = true) (w6 : (Lit.int .u64 a6).wf = true) (w7 : (Lit.int .i64 a7).wf = true)
    (y4 : l4.length * 16 ≤ 140737488351232) (x4 : ∀ x ∈ l4, x.size ≤ 140737488351232) (y8 : l8.length * 16 ≤ 140737488351232) (x8 : ∀ x ∈ l8, x.size ≤ 140737488351232) :
    Calls Tryz.prog 3 #[.agg #[.string o, .int .u64 t, .int .i64 n, .string r, .string g], .string b, .string s, .string w_, .slice A4 l4.length c4, .int .u64 a5, .int .u64 a6, .int .i64 a7, .slice A8 l8.length c8] W fun e w' => e = .returned (.bool true) ∧ Below W.heap.size W w' := by
  obtain ⟨K, e⟩ := letterlocklaw11_shown.ev
  obtain ⟨ls, hls, hlx⟩ := rows_of l4
  obtain ⟨ps, hps, hpx⟩ := rows_of l8
  have yl : ls.length = l4.length := by rw [hls, List.length_map]
  have yp : ps.length = l8.length := by rw [hps, List.length_map]
  obtain ⟨b1, ⟨K1, e1⟩, hb1⟩ := letterlocklaw11_light.ev ls (by omega) (fun x hm => by have := x4 _ (hlx x hm); rw [size_B] at this; exact this)
  obtain ⟨b2, ⟨K2, e2⟩, hb2⟩ := letterlocklaw11_light.ev ps (by omega) (fun x hm => by have := x8 _ (hpx x hm); rw [size_B] at this; exact this)
  rw [← hls] at e1
  rw [← hps] at e2
  by_cases hgo : b1 = true ∧ b2 = true ∧ r.size + g.size + o.size + b.size ≤ 9000 ∧ s.size + w_.size ≤ 9000
  · obtain ⟨rfl, rfl, hsz, hsy⟩ := hgo
    obtain ⟨m1, m2⟩ := hb1 rfl
    obtain ⟨n1, n2⟩ := hb2 rfl
    obtain ⟨oL, rfl, -⟩ := ofB o
    obtain ⟨rL, rfl, -⟩ := ofB r
    obtain ⟨gL, rfl, -⟩ := ofB g
    obtain ⟨bL, rfl, -⟩ := ofB b
    obtain ⟨sL, rfl, -⟩ := ofB s
    obtain ⟨wL, rfl, -⟩ := ofB w_
    obtain ⟨tn, rfl, ht⟩ := wf64 wt
    obtain ⟨now, rfl, hnow⟩ := wf64 w5
    obtain ⟨bound, rfl, hbound⟩ := wf64 w6
    simp only [size_B] at hsz hsy
    have hlx2 : ∀ x ∈ ls, x.length ≤ 100000000 := fun x hm => by have := m2 x hm; omega
    have hpx2 : ∀ x ∈ ps, x.length ≤ 100000000 := fun x hm => by have := n2 x hm; omega
    obtain ⟨lf, hlf⟩ : ∃ lf, lf = if 0 < ls.length then ls.getD 0 [] else sL := ⟨_, rfl⟩
    have hlfl : lf.length ≤ 1000000 := by
      rw [hlf]
      split
      · have := m2 (ls.getD 0 []) (getD_mem ls 0 [] (by omega)); omega
      · omega
    obtain ⟨k3, d3⟩ := fresh_Build.evT sL wL (by omega) now hnow ls (by omega)
    obtain ⟨k4, d4⟩ := letterlockref11_Build.evT sL wL (by omega) (by omega) now hnow ls (by omega) hlx2
    obtain ⟨k5, d5⟩ := fresh_Put.evT oL tn n rL gL (by omega) ht (by omega) (by omega)
    obtain ⟨k6, d6⟩ := letterlockref11_Put.evT oL tn n rL gL (by omega) ht (by omega) (by omega)
    obtain ⟨k7, d7⟩ := fresh_Take.evT bL (by omega)
    obtain ⟨k8, d8⟩ := letterlockref11_Take.evT bL (by omega)
    obtain ⟨k9, d9⟩ := letterlockref11_Right.ev oL (by omega) (tn : Int) n rL gL (by omega) (by omega)
    obtain ⟨k10, d10⟩ := fresh_Check.evT oL (by omega) tn n ht rL gL sL wL now bound hnow hbound
    obtain ⟨k11, d11⟩ := letterlockref11_Check.evT oL (by omega) tn n ht rL gL sL wL (by omega) (by omega) (by omega) now bound hnow hbound
    obtain ⟨k12, d12⟩ := fresh_Covers.evT oL (by omega) (tn : Int) n rL gL a7 lf ps
    obtain ⟨k13, d13⟩ := letterlockref11_Covers.evT oL (by omega) (tn : Int) n rL gL (by omega) (by omega) a7 lf hlfl ps (by omega) hpx2
    rw [← hls] at d3 d4
    rw [← hps] at d12 d13
    obtain ⟨⟨x1, x2, x3, x4', x5, x6⟩, hx⟩ : ∃ q, q = buildE sL wL now ls := ⟨_, rfl⟩
    obtain ⟨⟨p1, p2⟩, hp⟩ : ∃ q, q = putE oL tn n rL gL := ⟨_, rfl⟩
    obtain ⟨⟨u1, u2, u3, u4, u5, u6⟩, hu⟩ : ∃ q, q = takeT bL := ⟨_, rfl⟩
    rw [← hx] at d3 d4
    rw [← hp] at d5 d6
    rw [← hu] at d7 d8
    obtain ⟨k, hk⟩ : ∃ k, k = K + K1 + K2 + k3 + k4 + k5 + k6 + k7 + k8 + k9 + k10 + k11 + k12 + k13 := ⟨_, rfl⟩
    have q0 : letterlocklaw11_shown.f k = some true := e k (by omega)
    have q1 : letterlocklaw11_light.f k l4 = some true := e1 k (by omega)
    have q2 : letterlocklaw11_light.f k l8 = some true := e2 k (by omega)
    have c1 : ¬ wrap64 (wrap64 (wrap64 (((B rL).size : Int) + ((B gL).size : Int)) + ((B oL).size : Int)) + ((B bL).size : Int)) > 9000 := by rw [tells_sum h3 h4 h0 hb, size_B, size_B, size_B, size_B]; omega
    have c2 : ¬ wrap64 (((B sL).size : Int) + ((B wL).size : Int)) > 9000 := by rw [tells_sum2 hs hw, size_B, size_B]; omega
    have e12 : fresh_Covers.f k (B oL) (tn : Int) n (B rL) (B gL) a7 (B lf) l8 = some (coverE oL n rL gL a7 lf ps) := d12 k (by omega)
    have e13 : letterlockref11_Covers.f k (B oL) (tn : Int) n (B rL) (B gL) a7 (B lf) l8 = some (coverE oL n rL gL a7 lf ps) := d13 k (by omega)
    by_cases hl : 0 < ls.length
    · rw [if_pos hl] at hlf
      have hr : rdOf ByteArray.empty l4 0 = B lf := by rw [hlf, hls]; exact rdOf_B ls 0
      rw [← hr] at e12 e13
      exact tells_some k (B oL) tn n (B rL) (B gL) (B bL) (B sL) (B wL) A4 c4 l4 now bound a7 A8 c8 l8 x1 x2 x3 x4' x5 x6 p1 p2 u1 u2 u3 u4 u5 u6 _ _ _ W hr4 hc4 hr8 hc8 hV (by omega) c1 c2 q0 q1 q2 (d3 k (by omega)) (d4 k (by omega)) (d5 k (by omega)) (d6 k (by omega)) (d7 k (by omega)) (d8 k (by omega)) (fresh_Right.of k oL (by omega) tn n rL gL) (d9 k (by omega)) (d10 k (by omega)) (d11 k (by omega)) e12 e13
    · rw [if_neg hl] at hlf
      subst hlf
      exact tells_none k (B oL) tn n (B rL) (B gL) (B bL) (B lf) (B wL) A4 c4 l4 now bound a7 A8 c8 l8 x1 x2 x3 x4' x5 x6 p1 p2 u1 u2 u3 u4 u5 u6 _ _ _ W hr4 hc4 hr8 hc8 hV (by omega) c1 c2 q0 q1 q2 (d3 k (by omega)) (d4 k (by omega)) (d5 k (by omega)) (d6 k (by omega)) (d7 k (by omega)) (d8 k (by omega)) (fresh_Right.of k oL (by omega) tn n rL gL) (d9 k (by omega)) (d10 k (by omega)) (d11 k (by omega)) e12 e13
  · refine letterlocklaw11_FreshTells.calls (K + K1 + K2) o t n r g b s w_ A4 c4 l4 a5 a6 a7 A8 c8 l8 true W hr4 hc4 hr8 hc8 ?_ hV
    have q0 : letterlocklaw11_shown.f (K + K1 + K2) = some true := e _ (by omega)
    have q1 : letterlocklaw11_light.f (K + K1 + K2) l4 = some b1 := e1 _ (by omega)
    have q2 : letterlocklaw11_light.f (K + K1 + K2) l8 = some b2 := e2 _ (by omega)
    rw [letterlocklaw11_FreshTells.f, q0, Option.bind_some, q1, Option.bind_some, q2, Option.bind_some, if_pos rfl]
    cases b1
    · rw [if_neg (by decide)]
    · rw [if_pos rfl]
      cases b2
      · rw [if_neg (by decide)]
      · rw [if_pos rfl, tells_sum h3 h4 h0 hb, tells_sum2 hs hw]
        by_cases c1 : r.size + g.size + o.size + b.size ≤ 9000
        · rw [if_neg (by omega), if_pos (by
            have : ¬ s.size + w_.size ≤ 9000 := fun h => hgo ⟨rfl, rfl, c1, h⟩
            omega)]
        · rw [if_pos (by omega)]
end Go.Proofs.YtodiffgpefidoaaGreatDoor.Pure

