/- What was put is taken, with what stands behind it, and a bound that is one too little errs; for every number, few and short texts, and at most 2000 bytes behind (others are not spoken of). -/
import Derived.Test.YtmdglodneldekaaELaw2
import Derived.Test.YtmdglodneldekaaSpecR
import Derived.Test.YtmdglodneldekaaGLWireBack
namespace Go.Proofs.Ytmdglodneldekaa.Pure
set_option linter.unusedVariables false
set_option linter.unusedSimpArgs false
open Go.RowKit Go.Proofs.Ytmdglodneldekaa.P Go.Proofs.YtmdglodneldekaaW.PrintWords Go.Proofs.YtmdglodneldekaaW.PrintLast Go.Proofs.YtmdglodneldekaaW.PrintMore
theorem takeRowL_big (most : Int) : ∀ (l : List (List UInt8)) (r : List UInt8), (∀ x ∈ l, x.length < 18446744073709551616) → (∃ x ∈ l, most < (x.length : Int) ∧ 0 < x.length) →
    takeRowL most l.length ((l.map textL).flatten ++ r) = ([], 10)
  | [], r, _, h => by obtain ⟨x, hx, _⟩ := h; simp at hx
  | x :: l, r, h1, h => by
    have hx := h1 x List.mem_cons_self
    have T := takeTextL_textL x ((l.map textL).flatten ++ r) most hx
    rw [List.map_cons, List.flatten_cons, List.append_assoc, List.length_cons, takeRowL, T]
    by_cases hc : most < (x.length : Int) ∧ 0 < x.length
    · rw [if_pos hc, if_neg (by decide)]
    · rw [if_neg hc, if_pos rfl]
      have h2 : ∃ y ∈ l, most < (y.length : Int) ∧ 0 < y.length := by
        obtain ⟨y, hy, hyc⟩ := h
        rcases List.mem_cons.mp hy with rfl | hy
        · exact absurd hyc hc
        · exact ⟨y, hy, hyc⟩
      rw [takeRowL_big most l r (fun y hy => h1 y (List.mem_cons_of_mem _ hy)) h2, if_neg (by decide)]
theorem row_len (l : List (List UInt8)) (h : heavy l ≤ 1000000) : (rowL l).length ≤ 9 + heavy l := by
  have h1 := heavy_flat l (by omega)
  have h2 := heavy_len l
  have h3 := encN_len l.length (by omega)
  unfold rowL
  rw [List.length_append]
  omega
/-- m is how long the longest of texts is. -/
def Longest (l : List (List UInt8)) (m : Nat) : Prop := (∀ x ∈ l, x.length ≤ m) ∧ (m = 0 ∨ ∃ x ∈ l, x.length = m)
theorem longest_step (l : List (List UInt8)) (i m : Nat) (hi : i < l.length) (h : Longest (l.take i) m) : ∃ q : Nat, mx (m : Int) ((l.getD i []).length : Int) = (q : Int) ∧ Longest (l.take (i + 1)) q ∧ q ≤ max m (l.getD i []).length := by
  have ht : l.take (i + 1) = l.take i ++ [l.getD i []] := by
    rw [List.take_succ_eq_append_getElem hi]
    simp [List.getD_eq_getElem?_getD, hi]
  rw [ht]
  obtain ⟨h1, h2⟩ := h
  unfold mx
  by_cases hc : (m : Int) < ((l.getD i []).length : Int)
  · rw [if_pos hc]
    refine ⟨(l.getD i []).length, rfl, ⟨fun x hx => ?_, .inr ⟨_, List.mem_append_right _ List.mem_cons_self, rfl⟩⟩, Nat.le_max_right _ _⟩
    rcases List.mem_append.mp hx with hx | hx
    · have := h1 x hx; omega
    · rw [List.mem_singleton.mp hx]; exact Nat.le_refl _
  · rw [if_neg hc]
    refine ⟨m, rfl, ⟨fun x hx => ?_, ?_⟩, Nat.le_max_left _ _⟩
    · rcases List.mem_append.mp hx with hx | hx
      · exact h1 x hx
      · rw [List.mem_singleton.mp hx]; omega
    · rcases h2 with h2 | ⟨x, hx, e⟩
      · exact .inl h2
      · exact .inr ⟨x, List.mem_append_left _ hx, e⟩
theorem back_end (l : List (List UInt8)) (rest : List UInt8) (hs : Small l) (m : Nat) (hm : Longest l m) (hmb : m ≤ 2000) :
    Ev (fun k => letterlocklaw2_WireBack.l0 k (l.map B) (B rest) (m : Int) (l.length : Int)) true := by
  have hh := small_heavy hs
  have hlen := heavy_len l
  have hrl := row_len l (by omega)
  have h100 := hs.1
  have hall : ∀ x ∈ l, (x.length : Int) ≤ (m : Int) ∧ x.length < 18446744073709551616 := fun x hx => by have := hm.1 x hx; exact ⟨by omega, by omega⟩
  have hbig : ∀ x ∈ l, x.length < 18446744073709551616 := fun x hx => (hall x hx).2
  obtain ⟨K0, e0⟩ := wire_PutAll.ev l (by omega)
  obtain ⟨K1, e1⟩ := wire_TakeAll.ev (rowL l) l.length m (by omega) (by omega) (by omega) (by omega) (by omega)
  obtain ⟨K2, e2⟩ := wire_TakeAll.ev (rowL l) ((l.length : Int) - 1) m (by omega) (by omega) (by omega) (by omega) (by omega)
  obtain ⟨K3, e3⟩ := wire_TakeAll.ev (rowL l) l.length ((m : Int) - 1) (by omega) (by omega) (by omega) (by omega) (by omega)
  obtain ⟨K4, e4⟩ := wire_TakeAll.ev (rowL l ++ [120]) l.length m (by rw [List.length_append, List.length_singleton]; omega) (by omega) (by omega) (by omega) (by omega)
  obtain ⟨K5, e5⟩ := letterlocklaw2_same.ev l (by omega)
  have t1 := takeAllL_put l [] (m : Int) (by omega) hall
  rw [List.append_nil, if_pos rfl] at t1
  have t4 := takeAllL_put l [120] (m : Int) (by omega) hall
  rw [if_neg (by simp)] at t4
  have t2 : 0 < l.length → (takeAllL (rowL l) ((l.length : Int) - 1) m).2 = 10 := by
    intro hp
    unfold takeAllL rowL
    rw [takeL_encN _ _ (by omega)]
    simp only
    rw [if_pos ⟨by omega, hp⟩]
  have t3 : 0 < m → (takeAllL (rowL l) l.length ((m : Int) - 1)).2 = 10 := by
    intro hp
    unfold takeAllL rowL
    rw [takeL_encN _ _ (by omega)]
    simp only
    have hx : ∃ x ∈ l, (m : Int) - 1 < (x.length : Int) ∧ 0 < x.length := by
      rcases hm.2 with h | ⟨x, hx, e⟩
      · omega
      · exact ⟨x, hx, by omega, by omega⟩
    have T := takeRowL_big ((m : Int) - 1) l [] hbig hx
    rw [List.append_nil] at T
    rw [if_neg (by omega), T]
  refine ⟨K0 + K1 + K2 + K3 + K4 + K5 + 1, fun k hk => ?_⟩
  obtain ⟨k, rfl⟩ : ∃ m, k = m + 1 := ⟨k - 1, by omega⟩
  have g0 : wire_PutAll.f k (l.map B) = _ := e0 k (by omega)
  have g1 : wire_TakeAll.f k (B (rowL l)) (l.length : Int) (m : Int) = _ := e1 k (by omega)
  have g2 : wire_TakeAll.f k (B (rowL l)) ((l.length : Int) - 1) (m : Int) = _ := e2 k (by omega)
  have g3 : wire_TakeAll.f k (B (rowL l)) (l.length : Int) ((m : Int) - 1) = _ := e3 k (by omega)
  have g4 : wire_TakeAll.f k (B (rowL l ++ [120])) (l.length : Int) (m : Int) = _ := e4 k (by omega)
  have g5 : letterlocklaw2_same.f k (l.map B) (l.map B) = _ := e5 k (by omega)
  rw [t1] at g1
  rw [t4] at g4
  show letterlocklaw2_WireBack.l0 (k + 1) (l.map B) (B rest) (m : Int) (l.length : Int) = _
  rw [letterlocklaw2_WireBack.l0, if_neg (by rw [List.length_map]; omega), List.length_map, g0, Option.bind_some, g1, Option.bind_some, Option.bind_some, w64 _ (by omega) (by omega), g2, Option.bind_some, Option.bind_some, w64 _ (by omega) (by omega), g3, Option.bind_some, Option.bind_some, size_B, if_pos (by omega),
    show (⟨#[120]⟩ : ByteArray) = B [120] from rfl, append_B, g4, Option.bind_some]
  unfold ta
  simp only
  rw [if_pos trivial, g5, Option.bind_some, if_pos rfl]
  have fin : (some ((2 : Int) == 2)) = some true := rfl
  by_cases h0 : 0 < l.length
  · rw [if_neg (by omega), if_pos (t2 h0)]
    by_cases hm0 : 0 < m
    · rw [if_neg (by omega), if_pos (t3 hm0)]; exact fin
    · rw [if_pos (by omega)]; exact fin
  · rw [if_pos (by omega)]
    by_cases hm0 : 0 < m
    · rw [if_neg (by omega), if_pos (t3 hm0)]; exact fin
    · rw [if_pos (by omega)]; exact fin
theorem back_loop (l : List (List UInt8)) (rest : List UInt8) (hs : Small l) (hr : rest.length ≤ 2000) : ∀ (d i m : Nat), l.length = i + d → Longest (l.take i) m → m ≤ 2000 →
    Ev (fun k => letterlocklaw2_WireBack.l0 k (l.map B) (B rest) (m : Int) (i : Int)) true := by
  intro d
  induction d with
  | zero =>
    intro i m hi hm hmb
    obtain rfl : i = l.length := by omega
    rw [List.take_length] at hm
    exact back_end l rest hs m hm hmb
  | succ d ih =>
    intro i m hi hm hmb
    have h100 := hs.1
    have hx : (l.getD i []).length ≤ 2000 := by
      apply hs.2.1
      have hd := drop_getD l i [] (by omega)
      have : l.getD i [] ∈ l.drop i := by rw [hd]; exact List.mem_cons_self
      exact List.mem_of_mem_drop this
    obtain ⟨q, hq, hql, hqb⟩ := longest_step l i m (by omega) hm
    have hq2 : q ≤ 2000 := by omega
    obtain ⟨K1, e1⟩ := wire_PutText.ev (l.getD i []) (by omega)
    have htl := textL_len (l.getD i []) (by omega)
    obtain ⟨K2, e2⟩ := wire_TakeText.ev (textL (l.getD i []) ++ rest) ((l.getD i []).length : Int) (by omega) (by omega)
    obtain ⟨K3, e3⟩ := wire_TakeText.ev (textL (l.getD i []) ++ rest) (((l.getD i []).length : Int) - 1) (by omega) (by omega)
    obtain ⟨K4, e4⟩ := ih (i + 1) q (by omega) hql hq2
    rw [takeTextL_textL _ _ _ (by omega), if_neg (by omega)] at e2
    refine ⟨K1 + K2 + K3 + K4 + 2, fun k hk => ?_⟩
    obtain ⟨k, rfl⟩ : ∃ m, k = m + 2 := ⟨k - 2, by omega⟩
    have g1 : wire_PutText.f (k + 1) (B (l.getD i [])) = _ := e1 (k + 1) (by omega)
    have g2 : wire_TakeText.f (k + 1) (B (textL (l.getD i []) ++ rest)) ((l.getD i []).length : Int) = _ := e2 (k + 1) (by omega)
    have g3 : wire_TakeText.f (k + 1) (B (textL (l.getD i []) ++ rest)) (((l.getD i []).length : Int) - 1) = _ := e3 (k + 1) (by omega)
    have g4 : letterlocklaw2_WireBack.l0 k (l.map B) (B rest) (q : Int) ((i + 1 : Nat) : Int) = _ := e4 k (by omega)
    have next : letterlocklaw2_WireBack.j3 (k + 1) (l.map B) (B rest) (q : Int) (i : Int) false = some true := by
      rw [letterlocklaw2_WireBack.j3, if_neg (by decide), w64 _ (by omega) (by omega), show (i : Int) + 1 = ((i + 1 : Nat) : Int) from by omega, g4]
    show letterlocklaw2_WireBack.l0 (k + 1 + 1) (l.map B) (B rest) (m : Int) (i : Int) = _
    rw [letterlocklaw2_WireBack.l0, if_pos (by rw [List.length_map]; omega), if_pos (by omega), rdOf_B, g1, Option.bind_some, size_B, size_B, if_pos (by omega), append_B, size_B, g2, Option.bind_some, Option.bind_some, if_pos (by rw [size_B]; omega), append_B, w64 _ (by omega) (by omega), g3, Option.bind_some, hq]
    unfold tt
    simp only
    rw [if_pos trivial, if_pos trivial, if_pos trivial]
    by_cases h0 : 0 < (l.getD i []).length
    · have t3 := takeTextL_textL (l.getD i []) rest (((l.getD i []).length : Int) - 1) (by omega)
      rw [if_pos ⟨by omega, h0⟩] at t3
      rw [if_pos (by omega), t3]
      exact next
    · rw [if_neg (by omega)]
      exact next
theorem WireBack : letterlocklaw2_WireBack.Pure := by
  intro a0 l1 a2 w0 _ _ hsz
  obtain ⟨n, rfl, hn⟩ := wf64 w0
  obtain ⟨l, rfl⟩ := ofBs l1
  obtain ⟨rest, rfl, hrs⟩ := ofB a2
  obtain ⟨K0, e0⟩ := letterlocklaw2_shown.ev
  obtain ⟨b, ⟨K1, e1⟩, hb⟩ := letterlocklaw2_small.ev l
  cases b with
  | false =>
    refine ⟨K0 + K1 + 1, ?_⟩
    have g0 : letterlocklaw2_shown.f (K0 + K1 + 1) = _ := e0 (K0 + K1 + 1) (by omega)
    have g1 : letterlocklaw2_small.f (K0 + K1 + 1) (l.map B) = _ := e1 (K0 + K1 + 1) (by omega)
    unfold letterlocklaw2_WireBack.f
    rw [g0, Option.bind_some, g1, Option.bind_some, if_pos rfl, if_neg (by decide), letterlocklaw2_WireBack.j0, if_pos rfl]
  | true =>
    by_cases hr : rest.length ≤ 2000
    · have hS := hb rfl
      have he := encN_len n hn
      obtain ⟨K2, e2⟩ := back_loop l rest hS hr l.length 0 0 (by omega) ⟨by simp, .inl rfl⟩ (by omega)
      obtain ⟨K3, e3⟩ := wire_Put.ev n hn
      refine ⟨K0 + K1 + K2 + K3 + 2, ?_⟩
      generalize hk : K0 + K1 + K2 + K3 = k
      have g0 : letterlocklaw2_shown.f (k + 2) = _ := e0 (k + 2) (by omega)
      have g1 : letterlocklaw2_small.f (k + 2) (l.map B) = _ := e1 (k + 2) (by omega)
      have g2 : letterlocklaw2_WireBack.l0 k (l.map B) (B rest) 0 0 = _ := e2 k (by omega)
      have g3 : wire_Put.f (k + 1) (n : Int) = _ := e3 (k + 1) (by omega)
      unfold letterlocklaw2_WireBack.f
      rw [g0, Option.bind_some, g1, Option.bind_some, if_pos rfl, if_pos rfl, letterlocklaw2_WireBack.j0, if_neg (by rw [decide_eq_true_iff, size_B]; omega), g3, Option.bind_some, size_B, size_B, if_pos (by omega), append_B, wire_Take.of, takeL_encN n rest hn]
      simp only
      rw [Option.bind_some, if_pos rfl, if_pos rfl, letterlocklaw2_WireBack.j1, if_neg (by simp)]
      exact g2
    · refine ⟨K0 + K1 + 1, ?_⟩
      have g0 : letterlocklaw2_shown.f (K0 + K1 + 1) = _ := e0 (K0 + K1 + 1) (by omega)
      have g1 : letterlocklaw2_small.f (K0 + K1 + 1) (l.map B) = _ := e1 (K0 + K1 + 1) (by omega)
      unfold letterlocklaw2_WireBack.f
      rw [g0, Option.bind_some, g1, Option.bind_some, if_pos rfl, if_pos rfl, letterlocklaw2_WireBack.j0, if_pos (by rw [decide_eq_true_iff, size_B]; omega)]
end Go.Proofs.Ytmdglodneldekaa.Pure
