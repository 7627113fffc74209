/- Rows of leaves as the statements of chapter 10 make them; unlike rows have unlike trees. -/
import Derived.Test.YtbbcklpenafefaaELaw10
import Derived.Test.YtbbcklpenafefaaGLaw10R
namespace Go.Proofs.Ytbbcklpenafefaa.P
open Go.RowKit Go.Proofs.YtbbcklpenafefaaW.PrintWords Go.Proofs.YtbbcklpenafefaaW.PrintLast Go.Proofs.YtbbcklpenafefaaW.PrintMore
set_option linter.unusedVariables false
set_option linter.unusedSimpArgs false
theorem letterlocklaw10_pick.of (c : Int) (h0 : -9223372036854775808 ≤ c) (h1 : c ≤ 9223372036854775807) (n : Nat) (hn : 0 < n) (hn2 : n ≤ 1000000) : ∃ p : Nat, p < n ∧ letterlocklaw10_pick.f c (n : Int) = some (p : Int) := by
  have key : ∀ x : Int, 0 ≤ x → ∃ p : Nat, p < n ∧ Int.tmod x (n : Int) = (p : Int) := by
    intro x hx
    refine ⟨(Int.tmod x (n : Int)).toNat, ?_⟩
    rw [Int.tmod_eq_emod_of_nonneg hx]
    have h2 := Int.emod_nonneg x (show (n : Int) ≠ 0 by omega)
    have h3 := Int.emod_lt_of_pos x (show (0 : Int) < (n : Int) by omega)
    exact ⟨by omega, by omega⟩
  unfold letterlocklaw10_pick.f
  by_cases hc : c < 0
  · obtain ⟨p, hp, e⟩ := key (-(c + 1)) (by omega)
    refine ⟨p, hp, ?_⟩
    rw [if_pos hc, if_neg (by omega), w64 (c + 1) (by omega) (by omega), w64 _ (by omega) (by omega), e]
  · obtain ⟨p, hp, e⟩ := key c (by omega)
    refine ⟨p, hp, ?_⟩
    rw [if_neg hc, if_neg (by omega), e]
theorem rd_bounds {l : List Int} (hl : ∀ x ∈ l, (Lit.int .i64 x).wf = true) (i : Nat) (hi : i < l.length) : -9223372036854775808 ≤ rd l (i : Int) ∧ rd l (i : Int) ≤ 9223372036854775807 := by
  have e : rd l (i : Int) = l[i] := by unfold rd; rw [Int.toNat_natCast, List.getD_eq_getElem?_getD, List.getElem?_eq_getElem hi]; rfl
  rw [e]
  exact wfi64 (hl _ (List.getElem_mem hi))
theorem getD_mem {α : Type} (l : List α) (i : Nat) (d : α) (h : i < l.length) : l.getD i d ∈ l := by
  rw [List.getD_eq_getElem?_getD, List.getElem?_eq_getElem h]
  exact List.getElem_mem h
theorem set_map (st : List (List UInt8)) (n : Nat) (t : List UInt8) : (st.map B).set n (B t) = (st.set n t).map B := by
  rw [List.map_set]
/-- Rows that are unlike have unlike trees. -/
theorem treeL_inj : ∀ (n : Nat) (ls ms : List (List UInt8)), ls.length = n → GoodAll ls → GoodAll ms → 1 ≤ ls.length → ls.length ≤ 8 → 1 ≤ ms.length → ms.length ≤ 8 → (treeL ls).1 = (treeL ms).1 → ls = ms := by
  intro n
  induction n using Nat.strongRecOn with
  | _ n ih =>
    intro ls ms hn gl gm l1 l8 m1 m8 e
    by_cases hl : 1 < ls.length
    · have f1 := firstN_pos ls.length
      have f2 := firstN_lt hl
      rw [treeL_more gl hl l8] at e
      by_cases hm : 1 < ms.length
      · have f3 := firstN_pos ms.length
        have f4 := firstN_lt hm
        rw [treeL_more gm hm m8] at e
        have e2 := (List.cons.inj (List.cons.inj e).2).2
        have r1 : right (treeL (ls.take (firstN ls.length))).1 = true := treeL_right (gl.take _) (by rw [List.length_take]; omega) (by rw [List.length_take]; omega)
        have r2 : right (treeL (ms.take (firstN ms.length))).1 = true := treeL_right (gm.take _) (by rw [List.length_take]; omega) (by rw [List.length_take]; omega)
        obtain ⟨p, q⟩ := pair_inj r1 r2 e2
        have i1 := ih (firstN ls.length) (by omega) _ _ (by rw [List.length_take]; omega) (gl.take _) (gm.take _) (by rw [List.length_take]; omega) (by rw [List.length_take]; omega) (by rw [List.length_take]; omega) (by rw [List.length_take]; omega) p
        have i2 := ih (ls.length - firstN ls.length) (by omega) _ _ (by rw [List.length_drop]) (gl.drop _) (gm.drop _) (by rw [List.length_drop]; omega) (by rw [List.length_drop]; omega) (by rw [List.length_drop]; omega) (by rw [List.length_drop]; omega) q
        rw [← List.take_append_drop (firstN ls.length) ls, i1, i2, List.take_append_drop]
      · exfalso
        obtain ⟨y, rfl⟩ : ∃ y, ms = [y] := List.length_eq_one_iff.mp (by omega)
        obtain ⟨-, -, -, ⟨r, hr⟩⟩ := gm y (by simp)
        rw [treeL_one (gm y (by simp)), hr] at e
        obtain ⟨-, -, -, ⟨s, hs⟩⟩ := treeL_good (firstN ls.length) (ls.take (firstN ls.length)) (gl.take _) (by rw [List.length_take]; omega) (by omega) (by omega)
        rw [hs] at e
        have e3 := (List.cons.inj (List.cons.inj (List.cons.inj e).2).2).1
        exact absurd e3 (by decide)
    · obtain ⟨x, rfl⟩ : ∃ x, ls = [x] := List.length_eq_one_iff.mp (by omega)
      rw [treeL_one (gl x (by simp))] at e
      by_cases hm : 1 < ms.length
      · exfalso
        have f3 := firstN_pos ms.length
        have f4 := firstN_lt hm
        obtain ⟨-, -, -, ⟨r, hr⟩⟩ := gl x (by simp)
        rw [treeL_more gm hm m8, hr] at e
        obtain ⟨-, -, -, ⟨s, hs⟩⟩ := treeL_good (firstN ms.length) (ms.take (firstN ms.length)) (gm.take _) (by rw [List.length_take]; omega) (by omega) (by omega)
        rw [hs] at e
        have e3 := (List.cons.inj (List.cons.inj (List.cons.inj e).2).2).1
        exact absurd e3 (by decide)
      · obtain ⟨y, rfl⟩ : ∃ y, ms = [y] := List.length_eq_one_iff.mp (by omega)
        rw [treeL_one (gm y (by simp))] at e
        rw [(List.cons.inj e).2]
theorem encN_small (n : Nat) (h0 : 0 < n) (h : n < 256) : encN n = [1, UInt8.ofNat n] := by
  have : digs n = [UInt8.ofNat n] := by
    rw [digs_pos n h0, show n / 256 = 0 from by omega, digs_zero, show n % 256 = n from by omega]
    rfl
  unfold encN
  rw [this]
  rfl
theorem textT_small (s : List UInt8) (h0 : 0 < s.length) (h : s.length < 256) : textT s = 116 :: 1 :: UInt8.ofNat s.length :: s := by
  unfold textT textL
  rw [encN_small _ h0 h]
  rfl
def names : List (List UInt8) := [[97, 110, 110, 97], [98, 101, 110], [99, 121], [100, 111, 114, 97], [101, 109, 105, 108], [195, 164, 109, 105, 108], [102, 97, 45, 49], [103]]
theorem names_len : ∀ s ∈ names, 0 < s.length ∧ s.length ≤ 6 ∧ s ≠ [111, 116, 104, 101, 114] := by decide
def IsLeaf (x : List UInt8) : Prop := ∃ s ∈ names, ∃ v : Nat, v < 4 ∧ x = mkLeaf s v
theorem IsLeaf.good {x : List UInt8} (h : IsLeaf x) : Good x := by
  obtain ⟨s, hs, v, hv, rfl⟩ := h
  exact mkLeaf_good s v (names_len s hs).2.1 (by omega)
def other (v : Nat) : List UInt8 := mkLeaf [111, 116, 104, 101, 114] v
theorem other_good (v : Nat) (hv : v < 18446744073709551616) : Good (other v) := mkLeaf_good _ v (by decide) hv
theorem IsLeaf.ne {x : List UInt8} (h : IsLeaf x) (v : Nat) (hv : v < 18446744073709551616) : x ≠ other v := by
  obtain ⟨s, hs, w, hw, rfl⟩ := h
  obtain ⟨n1, n2, n3⟩ := names_len s hs
  intro e
  unfold mkLeaf other mkLeaf at e
  have e1 := (List.cons.inj e).2
  have r1 := (fits_text s (by omega)).right (by omega) (by have := textT_len s (by omega); omega)
  have r2 := (fits_text [111, 116, 104, 101, 114] (by decide)).right (by omega) (by have := textT_len [111, 116, 104, 101, 114] (by decide); have : ([111, 116, 104, 101, 114] : List UInt8).length = 5 := rfl; omega)
  have e2 := (pair_inj r1 r2 e1).1
  rw [textT_small s n1 (by omega), textT_small _ (by decide) (by decide)] at e2
  exact n3 (List.cons.inj (List.cons.inj (List.cons.inj e2).2).2).2
theorem letterlocklaw10_who.of (c : Int) (h0 : -9223372036854775808 ≤ c) (h1 : c ≤ 9223372036854775807) : ∃ s ∈ names, letterlocklaw10_who.f c = some (B s) := by
  obtain ⟨p, hp, e⟩ := letterlocklaw10_pick.of c h0 h1 8 (by decide) (by decide)
  have e : letterlocklaw10_pick.f c 8 = some (p : Int) := e
  unfold letterlocklaw10_who.f
  rw [e, Option.bind_some, Option.bind_some, if_pos (by omega), if_pos (by simp; omega)]
  rcases (by omega : p = 0 ∨ p = 1 ∨ p = 2 ∨ p = 3 ∨ p = 4 ∨ p = 5 ∨ p = 6 ∨ p = 7) with rfl | rfl | rfl | rfl | rfl | rfl | rfl | rfl
  · exact ⟨_, by decide, rfl⟩
  · exact ⟨[98, 101, 110], by decide, rfl⟩
  · exact ⟨[99, 121], by decide, rfl⟩
  · exact ⟨[100, 111, 114, 97], by decide, rfl⟩
  · exact ⟨[101, 109, 105, 108], by decide, rfl⟩
  · exact ⟨[195, 164, 109, 105, 108], by decide, rfl⟩
  · exact ⟨[102, 97, 45, 49], by decide, rfl⟩
  · exact ⟨[103], by decide, rfl⟩
theorem row_loop (l : List Int) (hl : ∀ x ∈ l, (Lit.int .i64 x).wf = true) : ∀ (m i : Nat) (st : List (List UInt8)), i + m = 8 → st.length = i → i ≤ l.length → (∀ x ∈ st, IsLeaf x) →
    ∃ ls : List (List UInt8), (∀ x ∈ ls, IsLeaf x) ∧ ls.length = min l.length 8 ∧ Ev (fun k => letterlocklaw10_row.l0 k l (st.map B) (i : Int)) (ls.map B) := by
  intro m
  induction m with
  | zero =>
    intro i st him hsl hil hst
    refine ⟨st, hst, by omega, 2, fun k hk => ?_⟩
    obtain ⟨k, rfl⟩ : ∃ m, k = m + 2 := ⟨k - 2, by omega⟩
    show letterlocklaw10_row.l0 (k + 2) _ _ _ = _
    have hd : decide ((i : Int) < 8) = false := decide_eq_false (by omega)
    rw [letterlocklaw10_row.l0, hd, ite_self, letterlocklaw10_row.j1, if_neg (by decide)]
  | succ m ih =>
    intro i st him hsl hil hst
    by_cases hi : i < l.length
    · obtain ⟨b0, b1⟩ := rd_bounds hl i hi
      obtain ⟨s, hs, es⟩ := letterlocklaw10_who.of _ b0 b1
      obtain ⟨v, hv, ev⟩ := letterlocklaw10_pick.of (wrap64 (Int.tdiv (rd l (i : Int)) 8)) (by unfold wrap64; omega) (by unfold wrap64; omega) 4 (by decide) (by decide)
      have ev : letterlocklaw10_pick.f (wrap64 (Int.tdiv (rd l (i : Int)) 8)) 4 = some (v : Int) := ev
      obtain ⟨n1, n2, -⟩ := names_len s hs
      obtain ⟨K0, e0⟩ := letterlockref10_Leaf.ev s (by omega) v (by omega)
      rw [leafOfL_small s v n2 (by omega)] at e0
      obtain ⟨ls, h1, h2, K, e⟩ := ih (i + 1) (st ++ [mkLeaf s v]) (by omega) (by rw [List.length_append, hsl]; rfl) (by omega) (by
        intro x hx
        rcases List.mem_append.mp hx with h | h
        · exact hst x h
        · rw [List.mem_singleton.mp h]; exact ⟨s, hs, v, hv, rfl⟩)
      refine ⟨ls, h1, h2, K0 + K + 2, fun k hk => ?_⟩
      obtain ⟨k, rfl⟩ : ∃ m, k = m + 2 := ⟨k - 2, by omega⟩
      have g0 : letterlockref10_Leaf.f k (B s) (v : Int) = _ := e0 k (by omega)
      have g : letterlocklaw10_row.l0 k l ((st ++ [mkLeaf s v]).map B) ((i + 1 : Nat) : Int) = _ := e k (by omega)
      show letterlocklaw10_row.l0 (k + 2) _ _ _ = _
      have hd : decide ((i : Int) < 8) = true := decide_eq_true (by omega)
      have hq0 : 0 ≤ (i : Int) := by omega
      have hq1 : (i : Int) < (l.length : Int) := by omega
      have hls : (st.map B).length < 8796093022208 := Nat.lt_of_le_of_lt (Nat.le_of_eq (List.length_map B)) (Nat.lt_of_le_of_lt (show st.length ≤ 8 by omega) (by omega))
      have hw : wrap64 ((i : Int) + 1) = ((i + 1 : Nat) : Int) := by rw [w64 _ (by omega) (by omega)]; omega
      have hu : IntKind.u64.wrap ((v : Nat) : Int) = ((v : Nat) : Int) := wu64 _ (by clear hw; omega) (by clear hw; omega)
      rw [letterlocklaw10_row.l0, hd, if_pos hq1]
      simp only [letterlocklaw10_row.j1, if_true, hq0, hq1, es, ev, Option.bind_some, hu, g0, hls, hw]
      rw [List.map_append] at g
      exact g
    · refine ⟨st, hst, by omega, 2, fun k hk => ?_⟩
      obtain ⟨k, rfl⟩ : ∃ m, k = m + 2 := ⟨k - 2, by omega⟩
      show letterlocklaw10_row.l0 (k + 2) _ _ _ = _
      rw [letterlocklaw10_row.l0, if_neg (by omega), letterlocklaw10_row.j1, if_neg (by decide)]
theorem letterlocklaw10_row.ev (l : List Int) (hl : ∀ x ∈ l, (Lit.int .i64 x).wf = true) : ∃ ls : List (List UInt8), (∀ x ∈ ls, IsLeaf x) ∧ ls.length = min l.length 8 ∧ Ev (fun k => letterlocklaw10_row.f k l) (ls.map B) :=
  row_loop l hl 8 0 [] rfl rfl (by omega) (by simp)
theorem leaves_good {ls : List (List UInt8)} (h : ∀ x ∈ ls, IsLeaf x) : GoodAll ls := fun x hx => (h x hx).good
theorem over_parts {ls : List (List UInt8)} (hg : GoodAll ls) (h1 : 1 < ls.length) (h8 : ls.length ≤ 8) :
    ofL [112] [(treeL (ls.take (firstN ls.length))).1, (treeL (ls.drop (firstN ls.length))).1] = (112 :: ((treeL (ls.take (firstN ls.length))).1 ++ (treeL (ls.drop (firstN ls.length))).1), 0) ∧
    ofL [104] [112 :: ((treeL (ls.take (firstN ls.length))).1 ++ (treeL (ls.drop (firstN ls.length))).1)] = ((treeL ls).1, 0) := by
  have f1 := firstN_pos ls.length
  have f2 := firstN_lt h1
  obtain ⟨a2, a3, a4, -⟩ := treeL_good (firstN ls.length) (ls.take (firstN ls.length)) (hg.take _) (by rw [List.length_take]; omega) (by omega) (by omega)
  obtain ⟨b2, b3, b4, -⟩ := treeL_good (ls.length - firstN ls.length) (ls.drop (firstN ls.length)) (hg.drop _) (by rw [List.length_drop]) (by omega) (by omega)
  have ha := a3.le (e := 18) (by omega)
  have hb := b3.le (e := 18) (by omega)
  have hp := ha.pair hb
  rw [treeL_more hg h1 h8]
  constructor
  · rw [ofL2 (ha.right (by omega) (by omega)) (hb.right (by omega) (by omega)), hp.right (by omega) (by rw [List.length_cons, List.length_append]; omega)]
    rfl
  · exact ofL_one hp (by omega) (by rw [List.length_cons, List.length_append]; omega)
end Go.Proofs.Ytbbcklpenafefaa.P
