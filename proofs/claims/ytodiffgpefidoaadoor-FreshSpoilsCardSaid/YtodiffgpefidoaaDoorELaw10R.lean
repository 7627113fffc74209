/- Slimmed by wip/slim.py. -/
import Derived.Test.YtodiffgpefidoaaDoorELaw10
import Derived.Test.YtodiffgpefidoaaDoorGLaw11R
namespace Go.Proofs.YtodiffgpefidoaaDoor.P
open Go.RowKit Go.Proofs.YtodiffgpefidoaaDoorW.PrintWords Go.Proofs.YtodiffgpefidoaaDoorW.PrintLast Go.Proofs.YtodiffgpefidoaaDoorW.PrintMore
set_option linter.unusedVariables false
set_option linter.unusedSimpArgs false
theorem letterlocklaw11_pick.of (c : Int) (h0 : -9223372036854775808 ≤ c) (h1 : c ≤ 9223372036854775807) (n : Nat) (hn : 0 < n) (hn2 : n ≤ 1000000) : ∃ p : Nat, p < n ∧ letterlocklaw11_pick.f c (n : Int) = some (p : Int) := by
  have key : ∀ x : Int, 0 ≤ x → ∃ p : Nat, p < n ∧ Int.tmod x (n : Int) = (p : Int) := by
    intro x hx
    refine ⟨(Int.tmod x (n : Int)).toNat, ?_⟩
    rw [Int.tmod_eq_emod_of_nonneg hx]
    have h2 := Int.emod_nonneg x (show (n : Int) ≠ 0 by omega)
    have h3 := Int.emod_lt_of_pos x (show (0 : Int) < (n : Int) by omega)
    exact ⟨by omega, by omega⟩
  unfold letterlocklaw11_pick.f
  by_cases hc : c < 0
  · obtain ⟨p, hp, e⟩ := key (-(c + 1)) (by omega)
    refine ⟨p, hp, ?_⟩
    rw [if_pos hc, if_neg (by omega), w64 (c + 1) (by omega) (by omega), w64 _ (by omega) (by omega), e]
  · obtain ⟨p, hp, e⟩ := key c (by omega)
    refine ⟨p, hp, ?_⟩
    rw [if_neg hc, if_neg (by omega), e]
theorem rd_bounds {l : List Int} (hl : ∀ x ∈ l, (Lit.int .i64 x).wf = true) (i : Nat) (hi : i < l.length) : -9223372036854775808 ≤ rd l (i : Int) ∧ rd l (i : Int) ≤ 9223372036854775807 := by
  have e : rd l (i : Int) = l[i] := by unfold rd; rw [Int.toNat_natCast, List.getD_eq_getElem?_getD, List.getElem?_eq_getElem hi]; rfl
  rw [e]
  exact wfi64 (hl _ (List.getElem_mem hi))
theorem getD_mem {α : Type} (l : List α) (i : Nat) (d : α) (h : i < l.length) : l.getD i d ∈ l := by
  rw [List.getD_eq_getElem?_getD, List.getElem?_eq_getElem h]
  exact List.getElem_mem h
theorem encN_small (n : Nat) (h0 : 0 < n) (h : n < 256) : encN n = [1, UInt8.ofNat n] := by
  have : digs n = [UInt8.ofNat n] := by
    rw [digs_pos n h0, show n / 256 = 0 from by omega, digs_zero, show n % 256 = n from by omega]
    rfl
  unfold encN
  rw [this]
  rfl
def names : List (List UInt8) := [[97, 110, 110, 97], [98, 101, 110], [99, 121], [100, 111, 114, 97], [101, 109, 105, 108], [195, 164, 109, 105, 108], [102, 97, 45, 49], [103]]
theorem names_len : ∀ s ∈ names, 0 < s.length ∧ s.length ≤ 6 ∧ s ≠ [111, 116, 104, 101, 114] := by decide
def IsLeaf (x : List UInt8) : Prop := ∃ s ∈ names, ∃ v : Nat, v < 4 ∧ x = mkLeaf s v
theorem IsLeaf.good {x : List UInt8} (h : IsLeaf x) : Good x := by
  obtain ⟨s, hs, v, hv, rfl⟩ := h
  exact mkLeaf_good s v (names_len s hs).2.1 (by omega)
theorem letterlocklaw11_who.of (c : Int) (h0 : -9223372036854775808 ≤ c) (h1 : c ≤ 9223372036854775807) : ∃ s ∈ names, letterlocklaw11_who.f c = some (B s) := by
  obtain ⟨p, hp, e⟩ := letterlocklaw11_pick.of c h0 h1 8 (by decide) (by decide)
  have e : letterlocklaw11_pick.f c 8 = some (p : Int) := e
  unfold letterlocklaw11_who.f
  rw [e, Option.bind_some, Option.bind_some, if_pos (by omega), if_pos (by simp; omega)]
  rcases (by omega : p = 0 ∨ p = 1 ∨ p = 2 ∨ p = 3 ∨ p = 4 ∨ p = 5 ∨ p = 6 ∨ p = 7) with rfl | rfl | rfl | rfl | rfl | rfl | rfl | rfl
  · exact ⟨_, by decide, rfl⟩
  · exact ⟨[98, 101, 110], by decide, rfl⟩
  · exact ⟨[99, 121], by decide, rfl⟩
  · exact ⟨[100, 111, 114, 97], by decide, rfl⟩
  · exact ⟨[101, 109, 105, 108], by decide, rfl⟩
  · exact ⟨[195, 164, 109, 105, 108], by decide, rfl⟩
  · exact ⟨[102, 97, 45, 49], by decide, rfl⟩
  · exact ⟨[103], by decide, rfl⟩
theorem row_loop (l : List Int) (hl : ∀ x ∈ l, (Lit.int .i64 x).wf = true) : ∀ (m i : Nat) (st : List (List UInt8)), i + m = 8 → st.length = i → i ≤ l.length → (∀ x ∈ st, IsLeaf x) →
    ∃ ls : List (List UInt8), (∀ x ∈ ls, IsLeaf x) ∧ ls.length = min l.length 8 ∧ Ev (fun k => letterlocklaw11_row.l0 k l (st.map B) (i : Int)) (ls.map B) := by
  intro m
  induction m with
  | zero =>
    intro i st him hsl hil hst
    refine ⟨st, hst, by omega, 2, fun k hk => ?_⟩
    obtain ⟨k, rfl⟩ : ∃ m, k = m + 2 := ⟨k - 2, by omega⟩
    show letterlocklaw11_row.l0 (k + 2) _ _ _ = _
    have hd : decide ((i : Int) < 8) = false := decide_eq_false (by omega)
    rw [letterlocklaw11_row.l0, hd, ite_self, letterlocklaw11_row.j1, if_neg (by decide)]
  | succ m ih =>
    intro i st him hsl hil hst
    by_cases hi : i < l.length
    · obtain ⟨b0, b1⟩ := rd_bounds hl i hi
      obtain ⟨s, hs, es⟩ := letterlocklaw11_who.of _ b0 b1
      obtain ⟨v, hv, ev⟩ := letterlocklaw11_pick.of (wrap64 (Int.tdiv (rd l (i : Int)) 8)) (by unfold wrap64; omega) (by unfold wrap64; omega) 4 (by decide) (by decide)
      have ev : letterlocklaw11_pick.f (wrap64 (Int.tdiv (rd l (i : Int)) 8)) 4 = some (v : Int) := ev
      obtain ⟨n1, n2, -⟩ := names_len s hs
      obtain ⟨K0, e0⟩ := letterlockref10_Leaf.ev s (by omega) v (by omega)
      rw [leafOfL_small s v n2 (by omega)] at e0
      obtain ⟨ls, h1, h2, K, e⟩ := ih (i + 1) (st ++ [mkLeaf s v]) (by omega) (by rw [List.length_append, hsl]; rfl) (by omega) (by
        intro x hx
        rcases List.mem_append.mp hx with h | h
        · exact hst x h
        · rw [List.mem_singleton.mp h]; exact ⟨s, hs, v, hv, rfl⟩)
      refine ⟨ls, h1, h2, K0 + K + 2, fun k hk => ?_⟩
      obtain ⟨k, rfl⟩ : ∃ m, k = m + 2 := ⟨k - 2, by omega⟩
      have g0 : letterlockref10_Leaf.f k (B s) (v : Int) = _ := e0 k (by omega)
      have g : letterlocklaw11_row.l0 k l ((st ++ [mkLeaf s v]).map B) ((i + 1 : Nat) : Int) = _ := e k (by omega)
      show letterlocklaw11_row.l0 (k + 2) _ _ _ = _
      have hd : decide ((i : Int) < 8) = true := decide_eq_true (by omega)
      have hq0 : 0 ≤ (i : Int) := by omega
      have hq1 : (i : Int) < (l.length : Int) := by omega
      have hls : (st.map B).length < 8796093022208 := Nat.lt_of_le_of_lt (Nat.le_of_eq (List.length_map B)) (Nat.lt_of_le_of_lt (show st.length ≤ 8 by omega) (by omega))
      have hw : wrap64 ((i : Int) + 1) = ((i + 1 : Nat) : Int) := by rw [w64 _ (by omega) (by omega)]; omega
      have hu : IntKind.u64.wrap ((v : Nat) : Int) = ((v : Nat) : Int) := wu64 _ (by clear hw; omega) (by clear hw; omega)
      rw [letterlocklaw11_row.l0, hd, if_pos hq1]
      simp only [letterlocklaw11_row.j1, if_true, hq0, hq1, es, ev, Option.bind_some, hu, g0, hls, hw]
      rw [List.map_append] at g
      exact g
    · refine ⟨st, hst, by omega, 2, fun k hk => ?_⟩
      obtain ⟨k, rfl⟩ : ∃ m, k = m + 2 := ⟨k - 2, by omega⟩
      show letterlocklaw11_row.l0 (k + 2) _ _ _ = _
      rw [letterlocklaw11_row.l0, if_neg (by omega), letterlocklaw11_row.j1, if_neg (by decide)]
theorem letterlocklaw11_row.ev (l : List Int) (hl : ∀ x ∈ l, (Lit.int .i64 x).wf = true) : ∃ ls : List (List UInt8), (∀ x ∈ ls, IsLeaf x) ∧ ls.length = min l.length 8 ∧ Ev (fun k => letterlocklaw11_row.f k l) (ls.map B) :=
  row_loop l hl 8 0 [] rfl rfl (by omega) (by simp)
theorem leaves_good {ls : List (List UInt8)} (h : ∀ x ∈ ls, IsLeaf x) : GoodAll ls := fun x hx => (h x hx).good
end Go.Proofs.YtodiffgpefidoaaDoor.P

