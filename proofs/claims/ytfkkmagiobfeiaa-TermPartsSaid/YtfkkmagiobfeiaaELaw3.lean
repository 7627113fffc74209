/- The helpers of chapter 3's statements: shown, pick, joined, grown, same, made, asked. -/
import Derived.Test.YtfkkmagiobfeiaaERef3
import Derived.Test.YtfkkmagiobfeiaaGLaw3
namespace Go.Proofs.Ytfkkmagiobfeiaa.P
open Go.RowKit Go.Proofs.YtfkkmagiobfeiaaW.PrintWords Go.Proofs.YtfkkmagiobfeiaaW.PrintLast Go.Proofs.YtfkkmagiobfeiaaW.PrintMore
set_option linter.unusedVariables false
set_option linter.unusedSimpArgs false
theorem wf64 {n : Int} (h : (Lit.int .u64 n).wf = true) : ∃ m : Nat, n = (m : Int) ∧ m < 18446744073709551616 := by
  simp only [Lit.wf, Bool.and_eq_true, decide_eq_true_iff] at h
  obtain ⟨h1, h2⟩ := h
  have h3 : (0 : Int) ≤ n := h1
  have h4 : n ≤ 18446744073709551615 := h2
  exact ⟨n.toNat, by omega, by omega⟩
theorem wfi64 {n : Int} (h : (Lit.int .i64 n).wf = true) : -9223372036854775808 ≤ n ∧ n ≤ 9223372036854775807 := by
  simp only [Lit.wf, Bool.and_eq_true, decide_eq_true_iff] at h
  exact ⟨h.1, h.2⟩
theorem ofB (s : ByteArray) : ∃ l, s = B l ∧ l.length = s.size := ⟨S s, rfl, (size_S s).symm⟩
theorem enc5 : encN 5 = [1, 5] := by
  have : digs 5 = [5] := by
    rw [digs_pos 5 (by decide), show 5 / 256 = 0 from rfl, digs_zero]
    rfl
  unfold encN
  rw [this]
  rfl
theorem right_atom (n : Nat) (h : n < 18446744073709551616) : right (97 :: encN n) = true := by
  have hl := encN_len n h
  refine (right_iff _).mpr ⟨by simp, by rw [List.length_cons]; omega, ?_⟩
  have ht := takeL_encN n [] h
  rw [List.append_nil] at ht
  rw [tlen, if_pos rfl, ht]
  simp only [List.length_nil, List.length_cons]
  omega
theorem right_atom5 : right [97, 1, 5] = true := by rw [← enc5]; exact right_atom 5 (by decide)
theorem letterlocklaw3_shown.ev : Ev (fun k => letterlocklaw3_shown.f k) true := by
  unfold letterlocklaw3_shown.f
  refine Ev.bind (term_OfAtom.ev 5 (by decide)) ?_
  rw [enc5]
  simp only [toList_B, if_true]
  refine Ev.const ?_
  rw [show term_Kind.f (⟨#[97, 1, 5]⟩ : ByteArray) = some ((kindL [97, 1, 5]).toNat : Int) from rfl, kindL, right_atom5]
  rfl
theorem letterlocklaw3_pick.of (c : Int) (h0 : -9223372036854775808 ≤ c) (h1 : c ≤ 9223372036854775807) (n : Nat) (hn : 0 < n) (hn2 : n ≤ 1000000) : ∃ p : Nat, p < n ∧ letterlocklaw3_pick.f c (n : Int) = some (p : Int) := by
  have key : ∀ x : Int, 0 ≤ x → ∃ p : Nat, p < n ∧ Int.tmod x (n : Int) = (p : Int) := by
    intro x hx
    refine ⟨(Int.tmod x (n : Int)).toNat, ?_⟩
    rw [Int.tmod_eq_emod_of_nonneg hx]
    have h2 := Int.emod_nonneg x (show (n : Int) ≠ 0 by omega)
    have h3 := Int.emod_lt_of_pos x (show (0 : Int) < (n : Int) by omega)
    exact ⟨by omega, by omega⟩
  unfold letterlocklaw3_pick.f
  by_cases hc : c < 0
  · obtain ⟨p, hp, e⟩ := key (-(c + 1)) (by omega)
    refine ⟨p, hp, ?_⟩
    rw [if_pos hc, if_neg (by omega), w64 (c + 1) (by omega) (by omega), w64 _ (by omega) (by omega), e]
  · obtain ⟨p, hp, e⟩ := key c (by omega)
    refine ⟨p, hp, ?_⟩
    rw [if_neg hc, if_neg (by omega), e]
theorem letterlockref3_OfPair.ev (a b : List UInt8) (ha : a.length ≤ 100000000) (hb : b.length ≤ 100000000) : Ev (fun k => letterlockref3_OfPair.f k (B a) (B b)) (pr (ofL [112] [a, b])) := by
  unfold letterlockref3_OfPair.f
  refine Ev.bind (letterlockref3_two.ev 112 a b ha hb) ?_
  exact Ev.eq (Ev.now _) rfl
theorem letterlockref3_Seal.ev (a b : List UInt8) (ha : a.length ≤ 100000000) (hb : b.length ≤ 100000000) : Ev (fun k => letterlockref3_Seal.f k (B a) (B b)) (pr (ofL [115] [a, b])) := by
  unfold letterlockref3_Seal.f
  refine Ev.bind (letterlockref3_two.ev 115 a b ha hb) ?_
  exact Ev.eq (Ev.now _) rfl
theorem letterlockref3_Sign.ev (a b : List UInt8) (ha : a.length ≤ 100000000) (hb : b.length ≤ 100000000) : Ev (fun k => letterlockref3_Sign.f k (B a) (B b)) (pr (ofL [103] [a, b])) := by
  unfold letterlockref3_Sign.f
  refine Ev.bind (letterlockref3_two.ev 103 a b ha hb) ?_
  exact Ev.eq (Ev.now _) rfl
theorem letterlockref3_OfHash.ev (a : List UInt8) (ha : a.length ≤ 100000000) : Ev (fun k => letterlockref3_OfHash.f k (B a)) (pr (ofL [104] [a])) := by
  unfold letterlockref3_OfHash.f
  refine Ev.bind (letterlockref3_one.ev 104 a ha) ?_
  exact Ev.eq (Ev.now _) rfl
theorem letterlockref3_OfPublic.ev (a : List UInt8) (ha : a.length ≤ 100000000) : Ev (fun k => letterlockref3_OfPublic.f k (B a)) (pr (ofL [117] [a])) := by
  unfold letterlockref3_OfPublic.f
  refine Ev.bind (letterlockref3_one.ev 117 a ha) ?_
  exact Ev.eq (Ev.now _) rfl
/-- What is made is right; nothing is too long. -/
theorem ofL_right {k : List UInt8} {ls : List (List UInt8)} (h : (ofL k ls).2 = 0) : right (ofL k ls).1 = true := by
  unfold ofL at h ⊢
  split at h
  · rename_i h1
    rw [if_pos h1]
    split at h
    · rename_i h2
      rw [if_pos h2]
      exact h2
    · exact absurd h (by decide)
  · exact absurd h (by decide)
theorem ofL_len (k : List UInt8) (ls : List (List UInt8)) : (ofL k ls).1.length ≤ 4000 := by
  unfold ofL
  split
  · split
    · rename_i h; exact (right_pos h).2
    · simp
  · simp
theorem boxL_right {p a : List UInt8} (h : (boxL p a).2 = 0) : right (boxL p a).1 = true := by
  unfold boxL at h ⊢
  split at h
  · rename_i h1
    rw [if_pos h1]
    exact ofL_right h
  · exact absurd h (by decide)
theorem letterlocklaw3_joined.ev (c : Int) (h0 : -9223372036854775808 ≤ c) (h1 : c ≤ 9223372036854775807) (a b : List UInt8) (ha : right a = true) (hb : right b = true) :
    ∃ t, right t = true ∧ Ev (fun k => letterlocklaw3_joined.f k c (B a) (B b)) (B t) := by
  obtain ⟨p, hp, e⟩ := letterlocklaw3_pick.of c h0 h1 4 (by decide) (by decide)
  have hla := (right_pos ha).2
  have hlb := (right_pos hb).2
  have e : letterlocklaw3_pick.f c 4 = some (p : Int) := e
  have pick : ∀ (q : List UInt8 × Int) , (q.2 = 0 → right q.1 = true) → ∃ t, right t = true ∧ (if q.2 = 0 then some (B q.1) else some (B a)) = some (B t) := by
    intro q hq
    by_cases h : q.2 = 0
    · exact ⟨q.1, hq h, by rw [if_pos h]⟩
    · exact ⟨a, ha, by rw [if_neg h]⟩
  unfold letterlocklaw3_joined.f
  simp only [e, Option.bind_some]
  rcases (by omega : p = 0 ∨ p = 1 ∨ p = 2 ∨ p = 3) with rfl | rfl | rfl | rfl
  · obtain ⟨t, ht, et⟩ := pick (ofL [112] [a, b]) ofL_right
    refine ⟨t, ht, ?_⟩
    simp only [show ((0 : Nat) : Int) = 0 from rfl, if_true]
    refine Ev.bind (letterlockref3_OfPair.ev a b (by omega) (by omega)) ?_
    exact Ev.const et
  · obtain ⟨t, ht, et⟩ := pick (ofL [115] [a, b]) ofL_right
    refine ⟨t, ht, ?_⟩
    simp only [show ¬ (((1 : Nat) : Int) = 0) from by decide, show ((1 : Nat) : Int) = 1 from rfl, if_true, if_false]
    refine Ev.bind (letterlockref3_Seal.ev a b (by omega) (by omega)) ?_
    exact Ev.const et
  · obtain ⟨t, ht, et⟩ := pick (boxL (ofL [117] [a]).1 b) boxL_right
    refine ⟨t, ht, ?_⟩
    simp only [show ¬ (((2 : Nat) : Int) = 0) from by decide, show ¬ (((2 : Nat) : Int) = 1) from by decide, show ((2 : Nat) : Int) = 2 from rfl, if_true, if_false]
    refine Ev.bind (letterlockref3_OfPublic.ev a (by omega)) ?_
    have hl := ofL_len [117] [a]
    refine Ev.bind (letterlockref3_Box.ev (ofL [117] [a]).1 b (by omega) (by omega)) ?_
    exact Ev.const et
  · obtain ⟨t, ht, et⟩ := pick (ofL [103] [a, b]) ofL_right
    refine ⟨t, ht, ?_⟩
    simp only [show ¬ (((3 : Nat) : Int) = 0) from by decide, show ¬ (((3 : Nat) : Int) = 1) from by decide, show ¬ (((3 : Nat) : Int) = 2) from by decide, if_true, if_false]
    refine Ev.bind (letterlockref3_Sign.ev a b (by omega) (by omega)) ?_
    exact Ev.const et
/-! ### grown -/
theorem rd_bounds {l : List Int} (hl : ∀ x ∈ l, (Lit.int .i64 x).wf = true) (i : Nat) (hi : i < l.length) : -9223372036854775808 ≤ rd l (i : Int) ∧ rd l (i : Int) ≤ 9223372036854775807 := by
  have e : rd l (i : Int) = l[i] := by unfold rd; rw [Int.toNat_natCast, List.getD_eq_getElem?_getD, List.getElem?_eq_getElem hi]; rfl
  rw [e]
  exact wfi64 (hl _ (List.getElem_mem hi))
theorem getD_mem {α : Type} (l : List α) (i : Nat) (d : α) (h : i < l.length) : l.getD i d ∈ l := by
  rw [List.getD_eq_getElem?_getD, List.getElem?_eq_getElem h]
  exact List.getElem_mem h
theorem set_map (st : List (List UInt8)) (n : Nat) (t : List UInt8) : (st.map B).set n (B t) = (st.set n t).map B := by
  rw [List.map_set]
def RightAll (st : List (List UInt8)) : Prop := ∀ x ∈ st, right x = true
theorem grown_loop (l : List Int) (hl : ∀ x ∈ l, (Lit.int .i64 x).wf = true) : ∀ (m i : Nat) (st : List (List UInt8)), i + m = 40 → st ≠ [] → RightAll st → st.length ≤ i + 1 →
    ∃ t, right t = true ∧ Ev (fun k => letterlocklaw3_grown.l0 k l (st.map B) (i : Int)) (B t) := by
  intro m
  induction m with
  | zero =>
    intro i st him hne hst hlen
    have hp : 0 < st.length := List.length_pos_iff.mpr hne
    have hw : wrap64 (((st.map B).length : Int) - 1) = ((st.length - 1 : Nat) : Int) := by rw [List.length_map, w64 _ (by omega) (by omega)]; omega
    refine ⟨st.getD (st.length - 1) [], hst _ (getD_mem _ _ _ (by omega)), 2, fun k hk => ?_⟩
    obtain ⟨k, rfl⟩ : ∃ m, k = m + 2 := ⟨k - 2, by omega⟩
    show letterlocklaw3_grown.l0 (k + 2) _ _ _ = _
    have hd : decide ((i : Int) < 40) = false := decide_eq_false (by omega)
    rw [letterlocklaw3_grown.l0, hd, ite_self, letterlocklaw3_grown.j1, if_neg (by decide), hw, if_pos (by omega), if_pos (by rw [List.length_map]; omega), rdOf_B]
  | succ m ih =>
    intro i st him hne hst hlen
    have hp : 0 < st.length := List.length_pos_iff.mpr hne
    have hw : wrap64 (((st.map B).length : Int) - 1) = ((st.length - 1 : Nat) : Int) := by rw [List.length_map, w64 _ (by omega) (by omega)]; omega
    have hi1 : wrap64 ((i : Int) + 1) = ((i + 1 : Nat) : Int) := by rw [w64 _ (by omega) (by omega)]; omega
    by_cases hil : i < l.length
    · obtain ⟨b0, b1⟩ := rd_bounds hl i hil
      obtain ⟨p, hp10, ep⟩ := letterlocklaw3_pick.of (rd l (i : Int)) b0 b1 10 (by decide) (by decide)
      have hdiv : wrap64 (Int.tdiv (rd l (i : Int)) 10) = Int.tdiv (rd l (i : Int)) 10 := by
        refine w64 _ ?_ ?_
        · by_cases h : 0 ≤ rd l (i : Int)
          · have := Int.tdiv_nonneg h (show (0 : Int) ≤ 10 by decide); omega
          · have h2 : Int.tdiv (rd l (i : Int)) 10 = -((-(rd l (i : Int))).tdiv 10) := by rw [Int.neg_tdiv, Int.neg_neg]
            rw [h2, Int.tdiv_eq_ediv_of_nonneg (by omega)]; omega
        · by_cases h : 0 ≤ rd l (i : Int)
          · rw [Int.tdiv_eq_ediv_of_nonneg h]; omega
          · have h2 : Int.tdiv (rd l (i : Int)) 10 = -((-(rd l (i : Int))).tdiv 10) := by rw [Int.neg_tdiv, Int.neg_neg]
            rw [h2, Int.tdiv_eq_ediv_of_nonneg (by omega)]; omega
      obtain ⟨v, hv5, ev⟩ := letterlocklaw3_pick.of (wrap64 (Int.tdiv (rd l (i : Int)) 10)) (by unfold wrap64; omega) (by unfold wrap64; omega) 5 (by decide) (by decide)
      have ep : letterlocklaw3_pick.f (rd l (i : Int)) 10 = some (p : Int) := ep
      have ev : letterlocklaw3_pick.f (wrap64 (Int.tdiv (rd l (i : Int)) 10)) 5 = some (v : Int) := ev
      have hd : decide ((i : Int) < 40) = true := decide_eq_true (by omega)
      -- the head of a round
      have head : ∀ (R : ByteArray), Ev (fun k => letterlocklaw3_grown.j1 (k + 1) l (st.map B) (i : Int) true) R → Ev (fun k => letterlocklaw3_grown.l0 k l (st.map B) (i : Int)) R := by
        rintro R ⟨K, e⟩
        refine ⟨K + 2, fun k hk => ?_⟩
        obtain ⟨k, rfl⟩ : ∃ m, k = m + 2 := ⟨k - 2, by omega⟩
        have g : letterlocklaw3_grown.j1 (k + 1) l (st.map B) (i : Int) true = _ := e k (by omega)
        show letterlocklaw3_grown.l0 (k + 2) _ _ _ = _
        rw [letterlocklaw3_grown.l0, hd, if_pos (by omega), g]
      have next : ∀ st2 : List (List UInt8), st2 ≠ [] → RightAll st2 → st2.length ≤ st.length + 1 → ∃ t, right t = true ∧ Ev (fun k => letterlocklaw3_grown.l0 k l (st2.map B) ((i + 1 : Nat) : Int)) (B t) :=
        fun st2 h1 h2 h3 => ih (i + 1) st2 (by omega) h1 h2 (by omega)
      have snoc : ∀ t, right t = true → RightAll (st ++ [t]) := by
        intro t ht x hx
        rcases List.mem_append.mp hx with h | h
        · exact hst x h
        · rw [List.mem_singleton.mp h]; exact ht
      have hq0 : 0 ≤ (i : Int) := by omega
      have hq1 : (i : Int) < (l.length : Int) := by omega
      have hls : (st.map B).length < 8796093022208 := by rw [List.length_map]; omega
      have hg0 : (0 : Int) ≤ ((st.length - 1 : Nat) : Int) := by omega
      have hg1 : ((st.length - 1 : Nat) : Int) < ((st.map B).length : Int) := by rw [List.length_map]; omega
      have last := hst _ (getD_mem st (st.length - 1) [] (by omega))
      have lastl := (right_pos last).2
      by_cases c3 : p < 3
      · obtain ⟨t, ht, et⟩ := next (st ++ [97 :: encN v]) (by simp) (snoc _ (right_atom v (by omega))) (by simp)
        refine ⟨t, ht, head _ ?_⟩
        have hu : IntKind.u64.wrap ((v : Nat) : Int) = ((v : Nat) : Int) := wu64 _ (by omega) (by omega)
        have hc : ((p : Nat) : Int) < 3 := by omega
        simp only [letterlocklaw3_grown.j1, if_true, hq0, hq1, ep, ev, Option.bind_some, hc, hu]
        refine Ev.bind (letterlockref3_OfAtom.ev v (by omega)) ?_
        simp only [hls, if_true, hi1]
        rw [List.map_append] at et
        exact et
      have n3 : ¬ (((p : Nat) : Int) < 3) := by omega
      by_cases c4 : p = 3
      · have hc : ((p : Nat) : Int) = 3 := by omega
        have hx : (⟨#[97, 98, 99, 100, 101]⟩ : ByteArray).extract 0 (((v : Nat) : Int)).toNat = B ([97, 98, 99, 100, 101].take v) := by
          rw [Int.toNat_natCast, show (⟨#[97, 98, 99, 100, 101]⟩ : ByteArray) = B [97, 98, 99, 100, 101] from rfl, extract_B, List.drop_zero]
        have hvl : ([97, 98, 99, 100, 101].take v : List UInt8).length ≤ 5 := by rw [List.length_take]; simp; omega
        have htl := textL_len ([97, 98, 99, 100, 101].take v) (by omega)
        have hT : ofTextL ([97, 98, 99, 100, 101].take v) = (textT ([97, 98, 99, 100, 101].take v), 0) := by
          rw [ofTextL, if_pos (by unfold textT; rw [List.length_cons]; omega)]
        have hR : right (textT ([97, 98, 99, 100, 101].take v)) = true := by
          rw [right_text _ (by omega), decide_eq_true_iff]; unfold textT; rw [List.length_cons]; omega
        obtain ⟨t, ht, et⟩ := next (st ++ [textT ([97, 98, 99, 100, 101].take v)]) (by simp) (snoc _ hR) (by simp)
        refine ⟨t, ht, head _ ?_⟩
        have k0 : (0 : Int) ≤ ((v : Nat) : Int) := by omega
        have k1 : ((v : Nat) : Int) ≤ 5 := by omega
        simp only [letterlocklaw3_grown.j1, if_true, if_false, hq0, hq1, ep, ev, Option.bind_some, n3, hc, k0, k1, hx]
        refine Ev.bind (letterlockref3_OfText.ev _ (by omega)) ?_
        rw [hT]
        simp only [hls, if_true, hi1, pr]
        rw [List.map_append] at et
        exact et
      have n4 : ¬ (((p : Nat) : Int) = 3) := by omega
      have setR : ∀ t, right t = true → RightAll (st.set (st.length - 1) t) := by
        intro t ht x hx
        rcases List.mem_or_eq_of_mem_set hx with h | h
        · exact hst x h
        · rw [h]; exact ht
      obtain ⟨ts, hts, ets⟩ := next st hne hst (by omega)
      by_cases c5 : p = 4
      · have hc : ((p : Nat) : Int) = 4 := by omega
        by_cases hz : (ofL [104] [st.getD (st.length - 1) []]).2 = 0
        · obtain ⟨t, ht, et⟩ := next (st.set (st.length - 1) (ofL [104] [st.getD (st.length - 1) []]).1) (by intro e; rw [← List.length_eq_zero_iff, List.length_set] at e; omega) (setR _ (ofL_right hz)) (by rw [List.length_set]; omega)
          refine ⟨t, ht, head _ ?_⟩
          simp only [letterlocklaw3_grown.j1, if_true, if_false, hq0, hq1, ep, ev, Option.bind_some, n3, n4, hc, hw, hg0, hg1, rdOf_B]
          refine Ev.bind (letterlockref3_OfHash.ev _ (by omega)) ?_
          simp only [pr, hz, if_true, hi1, Int.toNat_natCast, set_map]
          exact et
        · refine ⟨ts, hts, head _ ?_⟩
          simp only [letterlocklaw3_grown.j1, if_true, if_false, hq0, hq1, ep, ev, Option.bind_some, n3, n4, hc, hw, hg0, hg1, rdOf_B]
          refine Ev.bind (letterlockref3_OfHash.ev _ (by omega)) ?_
          simp only [pr, hz, if_false, hi1]
          exact ets
      have n5 : ¬ (((p : Nat) : Int) = 4) := by omega
      by_cases c6 : p = 5
      · have hc : ((p : Nat) : Int) = 5 := by omega
        by_cases hz : (ofL [117] [st.getD (st.length - 1) []]).2 = 0
        · obtain ⟨t, ht, et⟩ := next (st.set (st.length - 1) (ofL [117] [st.getD (st.length - 1) []]).1) (by intro e; rw [← List.length_eq_zero_iff, List.length_set] at e; omega) (setR _ (ofL_right hz)) (by rw [List.length_set]; omega)
          refine ⟨t, ht, head _ ?_⟩
          simp only [letterlocklaw3_grown.j1, if_true, if_false, hq0, hq1, ep, ev, Option.bind_some, n3, n4, n5, hc, hw, hg0, hg1, rdOf_B]
          refine Ev.bind (letterlockref3_OfPublic.ev _ (by omega)) ?_
          simp only [pr, hz, if_true, hi1, Int.toNat_natCast, set_map]
          exact et
        · refine ⟨ts, hts, head _ ?_⟩
          simp only [letterlocklaw3_grown.j1, if_true, if_false, hq0, hq1, ep, ev, Option.bind_some, n3, n4, n5, hc, hw, hg0, hg1, rdOf_B]
          refine Ev.bind (letterlockref3_OfPublic.ev _ (by omega)) ?_
          simp only [pr, hz, if_false, hi1]
          exact ets
      have n6 : ¬ (((p : Nat) : Int) = 5) := by omega
      by_cases c7 : 1 < st.length
      · have hc : ((st.map B).length : Int) > 1 := by rw [List.length_map]; omega
        have hw2 : wrap64 (((st.map B).length : Int) - 2) = ((st.length - 2 : Nat) : Int) := by rw [List.length_map, w64 _ (by omega) (by omega)]; omega
        have hg2 : (0 : Int) ≤ ((st.length - 2 : Nat) : Int) := by omega
        have hg3 : ((st.length - 2 : Nat) : Int) < ((st.map B).length : Int) := by rw [List.length_map]; omega
        have hg4 : ((st.length - 2 : Nat) : Int) ≤ ((st.map B).length : Int) := by omega
        obtain ⟨x, hx, ex⟩ := letterlocklaw3_joined.ev (p : Int) (by omega) (by omega) (st.getD (st.length - 2) []) (st.getD (st.length - 1) []) (hst _ (getD_mem _ _ _ (by omega))) last
        obtain ⟨t, ht, et⟩ := next (st.take (st.length - 2) ++ [x]) (by simp) (by
          intro y hy
          rcases List.mem_append.mp hy with h | h
          · exact hst y (List.mem_of_mem_take h)
          · rw [List.mem_singleton.mp h]; exact hx) (by rw [List.length_append, List.length_take, List.length_singleton]; omega)
        refine ⟨t, ht, head _ ?_⟩
        have hl1 : (([] : List ByteArray).length + ((st.map B).take (((st.length - 2 : Nat) : Int)).toNat).length) < 8796093022208 := by rw [List.length_nil, List.length_take, List.length_map]; omega
        have hl2 : (([] : List ByteArray) ++ ((st.map B).take (((st.length - 2 : Nat) : Int)).toNat)).length < 8796093022208 := by rw [List.length_append]; exact hl1
        simp only [letterlocklaw3_grown.j1, if_true, if_false, hq0, hq1, ep, ev, Option.bind_some, n3, n4, n5, n6, hc, hw, hw2, hg0, hg1, hg2, hg3, rdOf_B]
        refine Ev.bind ex ?_
        simp only [hg4, hl1, hl2, if_true, hi1]
        rw [List.map_append, List.map_take] at et
        rw [Int.toNat_natCast]
        exact et
      · have hc : ¬ (((st.map B).length : Int) > 1) := by rw [List.length_map]; omega
        refine ⟨ts, hts, head _ ?_⟩
        simp only [letterlocklaw3_grown.j1, if_true, if_false, hq0, hq1, ep, ev, Option.bind_some, n3, n4, n5, n6, hc, hi1]
        exact ets
    · refine ⟨st.getD (st.length - 1) [], hst _ (getD_mem _ _ _ (by omega)), 2, fun k hk => ?_⟩
      obtain ⟨k, rfl⟩ : ∃ m, k = m + 2 := ⟨k - 2, by omega⟩
      show letterlocklaw3_grown.l0 (k + 2) _ _ _ = _
      rw [letterlocklaw3_grown.l0, if_neg (by omega), letterlocklaw3_grown.j1, if_neg (by decide), hw, if_pos (by omega), if_pos (by rw [List.length_map]; omega), rdOf_B]
theorem letterlocklaw3_grown.ev (l : List Int) (hl : ∀ x ∈ l, (Lit.int .i64 x).wf = true) : ∃ t, right t = true ∧ Ev (fun k => letterlocklaw3_grown.f k l) (B t) := by
  obtain ⟨t, ht, et⟩ := grown_loop l hl 40 0 [97 :: encN 0] rfl (by simp) (by intro x hx; rw [List.mem_singleton.mp hx]; exact right_atom 0 (by decide)) (by simp)
  refine ⟨t, ht, ?_⟩
  unfold letterlocklaw3_grown.f
  refine Ev.bind (letterlockref3_OfAtom.ev 0 (by decide)) ?_
  exact et
/-! ### made -/
/-! ### asked -/
theorem term_Read.of (s : List UInt8) (hs : s.length ≤ 100000000) : term_Read.f (B s) = some (B (readL s).1, B (readL s).2.1, (readL s).2.2) := by
  rw [term_Read.f, if_pos (by rw [size_B]; omega), S_B]
theorem partsE_len (s : List UInt8) : (partsE s).1.length ≤ 2 := by
  unfold partsE
  split
  · unfold partsL
    split
    · simp
    · split
      · simp
      · simp
  · simp
end Go.Proofs.Ytfkkmagiobfeiaa.P
