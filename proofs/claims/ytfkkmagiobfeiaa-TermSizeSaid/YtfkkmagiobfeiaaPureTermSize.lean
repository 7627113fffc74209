/- TermSize: a term's bytes are its kind and its parts', up to 4000 and 40 deep; beyond that it is too great. -/
import Derived.Test.YtfkkmagiobfeiaaELaw3
import Derived.Test.YtfkkmagiobfeiaaGLTermSize
namespace Go.Proofs.Ytfkkmagiobfeiaa.Pure
set_option linter.unusedVariables false
set_option linter.unusedSimpArgs false
open Go.RowKit Go.Proofs.Ytfkkmagiobfeiaa.P Go.Proofs.YtfkkmagiobfeiaaW.PrintWords Go.Proofs.YtfkkmagiobfeiaaW.PrintLast Go.Proofs.YtfkkmagiobfeiaaW.PrintMore
namespace Size
theorem ofL2 {k : UInt8} {a b : List UInt8} (ha : right a = true) (hb : right b = true) : ofL [k] [a, b] = if right (k :: (a ++ b)) then (k :: (a ++ b), 0) else ([], 10) := by
  unfold ofL
  simp [ha, hb]
theorem ofL1 {k : UInt8} {a : List UInt8} (ha : right a = true) : ofL [k] [a] = if right (k :: a) then (k :: a, 0) else ([], 10) := by
  unfold ofL
  simp [ha]
theorem digs_few (n : Nat) (h : n < 65536) : (digs n).length = if n > 255 then 2 else if n > 0 then 1 else 0 := by
  by_cases h1 : n > 255
  · rw [if_pos h1, digs_pos n (by omega), List.length_append, digs_pos (n / 256) (by omega), List.length_append, show n / 256 / 256 = 0 from by omega, digs_zero]
    rfl
  · rw [if_neg h1]
    by_cases h2 : n > 0
    · rw [if_pos h2, digs_pos n h2, List.length_append, show n / 256 = 0 from by omega, digs_zero]
      rfl
    · rw [if_neg h2, show n = 0 from by omega, digs_zero]
      rfl
def xs (n : Nat) : List UInt8 := List.replicate n 120
theorem text_len (n : Nat) (h : n < 65536) : (textT (xs n)).length = n + (if n > 255 then 2 else if n > 0 then 1 else 0) + 2 := by
  unfold textT textL encN
  rw [List.length_cons, List.length_append, List.length_cons, show (xs n).length = n from List.length_replicate, digs_few n h]
  omega
/-- An atom that is hashed so often. -/
def hs : Nat → List UInt8
  | 0 => 97 :: encN 7
  | j + 1 => 104 :: hs j
theorem hs_len : ∀ j, (hs j).length = j + (hs 0).length
  | 0 => by omega
  | j + 1 => by rw [show hs (j + 1) = 104 :: hs j from rfl, List.length_cons, hs_len j]; omega
theorem hs0 : 0 < (hs 0).length ∧ (hs 0).length ≤ 11 := by
  have := encN_len 7 (by decide)
  rw [hs, List.length_cons]
  omega
theorem tlen_hs : ∀ (j d : Nat), tlen d (hs j) = if j + 1 ≤ d then (hs j).length else 0 := by
  intro j
  induction j with
  | zero =>
    intro d
    cases d with
    | zero => rfl
    | succ d =>
      have ht := takeL_encN 7 [] (by decide)
      rw [List.append_nil] at ht
      rw [if_pos (by omega), hs, tlen, if_pos rfl, ht]
      simp only [List.length_nil, List.length_cons]
      omega
  | succ j ih =>
    intro d
    cases d with
    | zero => rfl
    | succ d =>
      have hl := hs_len j
      have h0 := hs0
      rw [hs, tlen_one (Or.inl rfl), ih d, List.length_cons]
      by_cases h : j + 1 ≤ d
      · rw [if_pos h, if_neg (by omega), if_pos (by omega)]; omega
      · rw [if_neg h, if_pos rfl, if_neg (by omega)]
theorem right_hs (j : Nat) (hj : j ≤ 100) : right (hs j) = decide (j ≤ 39) := by
  have hl := hs_len j
  have h0 := hs0
  rw [Bool.eq_iff_iff, right_iff, decide_eq_true_iff, tlen_hs]
  constructor
  · rintro ⟨-, -, h⟩
    by_cases h2 : j + 1 ≤ 40
    · omega
    · rw [if_neg h2] at h; omega
  · intro h
    refine ⟨by intro e; rw [e] at hl; simp at hl; omega, by omega, ?_⟩
    rw [if_pos (by omega)]
theorem size_end (k : Nat) (a b : List UInt8) (ha : right a = true) (hb : right b = true) (hr : letterlockref3_Right.f k (B (103 :: (a ++ b))) = some (right (103 :: (a ++ b)))) :
    ((term_Sign.f (B a) (B b)).bind fun bt421 => (if 1 + (B a).size ≤ 9223372036854775807 then (if ((⟨#[103]⟩ : ByteArray) ++ (B a)).size + (B b).size ≤ 9223372036854775807 then ((letterlockref3_Right.f k (((⟨#[103]⟩ : ByteArray) ++ (B a)) ++ (B b))).bind fun t423 => (if t423 = true then (if bt421.2 = 0 then (if bt421.1.toList = (((⟨#[103]⟩ : ByteArray) ++ (B a)) ++ (B b)).toList then (some true) else (some false)) else (some false)) else (if bt421.2 = 10 then (some (bt421.1.toList == ([] : List UInt8))) else (some false)))) else (none)) else (none))) = some true := by
  have la := (right_pos ha).2
  have lb := (right_pos hb).2
  have e1 : (⟨#[103]⟩ : ByteArray) ++ B a = B (103 :: a) := append_B [103] a
  have e2 : B (103 :: a) ++ B b = B (103 :: (a ++ b)) := append_B (103 :: a) b
  rw [term_Sign.of, Option.bind_some, e1, e2, hr, Option.bind_some, ofL2 ha hb, if_pos (by rw [size_B]; omega), if_pos (by rw [size_B, size_B, List.length_cons]; omega)]
  unfold pr
  cases h : right (103 :: (a ++ b))
  · simp [toList_B]
  · simp [toList_B]
theorem size_l1 (a b : List UInt8) (ha : right a = true) (hb : right b = true) (deep : Int) (d0 : -9223372036854775808 ≤ deep) (d1 : deep ≤ 9223372036854775807) (q : Nat) (hq : q < 45) (eq : letterlocklaw3_pick.f deep 45 = some (q : Int)) :
    ∀ (m i : Nat), i + m = q + 1 → 1 ≤ i → Ev (fun k => letterlocklaw3_TermSize.l1 k deep (B a) (B b) (B (hs (min (i - 1) 39))) (i : Int)) true := by
  intro m
  have la := (right_pos ha).2
  have lb := (right_pos hb).2
  induction m with
  | zero =>
    intro i hi h1
    obtain ⟨K, e⟩ := letterlockref3_Right.ev (103 :: (a ++ b)) (by rw [List.length_cons, List.length_append]; omega)
    refine ⟨K + 1, fun k hk => ?_⟩
    obtain ⟨k, rfl⟩ : ∃ m, k = m + 1 := ⟨k - 1, by omega⟩
    have g : letterlockref3_Right.f k (B (103 :: (a ++ b))) = _ := e k (by omega)
    show letterlocklaw3_TermSize.l1 (k + 1) _ _ _ _ _ = _
    rw [letterlocklaw3_TermSize.l1, eq, Option.bind_some, if_neg (by omega)]
    exact size_end k a b ha hb g
  | succ m ih =>
    intro i hi h1
    obtain ⟨K, e⟩ := ih (i + 1) (by omega) (by omega)
    refine ⟨K + 2, fun k hk => ?_⟩
    obtain ⟨k, rfl⟩ : ∃ m, k = m + 2 := ⟨k - 2, by omega⟩
    have g : letterlocklaw3_TermSize.l1 k deep (B a) (B b) (B (hs (min (i + 1 - 1) 39))) ((i + 1 : Nat) : Int) = _ := e k (by omega)
    have hw : wrap64 ((i : Int) + 1) = ((i + 1 : Nat) : Int) := by rw [w64 _ (by omega) (by omega)]; omega
    have hr : right (hs (min (i - 1) 39)) = true := by rw [right_hs _ (by omega), decide_eq_true_iff]; omega
    have hl := hs_len (min (i - 1) 39)
    have h0 := hs0
    have e1 : (⟨#[104]⟩ : ByteArray) ++ B (hs (min (i - 1) 39)) = B (104 :: hs (min (i - 1) 39)) := append_B [104] _
    show letterlocklaw3_TermSize.l1 (k + 2) _ _ _ _ _ = _
    rw [letterlocklaw3_TermSize.l1, eq, Option.bind_some, if_pos (by omega), term_OfHash.of, Option.bind_some, ofL1 hr, show (104 : UInt8) :: hs (min (i - 1) 39) = hs (min (i - 1) 39 + 1) from rfl, right_hs _ (by omega)]
    unfold pr
    by_cases h : i < 40
    · have d39 : min (i - 1) 39 + 1 ≤ 39 := by omega
      rw [if_pos (decide_eq_true d39), if_neg (by rw [decide_eq_true (show (i : Int) < 40 by omega)]; simp), if_pos (by rfl), if_pos (by rw [size_B]; omega), e1, if_pos (by rfl), letterlocklaw3_TermSize.j5, if_neg (by decide), if_pos rfl, hw]
      rw [show min (i + 1 - 1) 39 = min (i - 1) 39 + 1 from by omega] at g
      exact g
    · have d39 : ¬ (min (i - 1) 39 + 1 ≤ 39) := by omega
      rw [if_neg (show ¬ (decide (min (i - 1) 39 + 1 ≤ 39) = true) from by rw [decide_eq_true_iff]; exact d39), if_neg (by rw [decide_eq_false (show ¬ ((i : Int) < 40) by omega)]; simp), if_neg (by simp), if_pos (by rfl), toList_B, bne_self_eq_false, letterlocklaw3_TermSize.j5, if_neg (by simp), if_neg (by simp), hw]
      rw [show min (i + 1 - 1) 39 = min (i - 1) 39 from by omega] at g
      exact g
theorem size_j2 (l m : List Int) (hl : ∀ x ∈ l, (Lit.int .i64 x).wf = true) (hm : ∀ x ∈ m, (Lit.int .i64 x).wf = true) (deep : Int) (d0 : -9223372036854775808 ≤ deep) (d1 : deep ≤ 9223372036854775807) (t : List UInt8) (ht : right t = true) :
    Ev (fun k => letterlocklaw3_TermSize.j2 k l m deep (B t) false) true := by
  obtain ⟨a, ha, K1, e1⟩ := letterlocklaw3_grown.ev l hl
  obtain ⟨b, hb, K2, e2⟩ := letterlocklaw3_grown.ev m hm
  obtain ⟨q, hq, eq⟩ := letterlocklaw3_pick.of deep d0 d1 45 (by decide) (by decide)
  obtain ⟨K3, e3⟩ := size_l1 a b ha hb deep d0 d1 q hq eq q 1 (by omega) (by omega)
  obtain ⟨K4, e4⟩ := term_OfAtom.ev 7 (by decide)
  have la := (right_pos ha).2
  have lt := (right_pos ht).2
  obtain ⟨K5, e5⟩ := letterlockref3_Right.ev (112 :: (a ++ t)) (by rw [List.length_cons, List.length_append]; omega)
  refine ⟨K1 + K2 + K3 + K4 + K5 + 2, fun k hk => ?_⟩
  obtain ⟨k, rfl⟩ : ∃ m, k = m + 2 := ⟨k - 2, by omega⟩
  have g1 : letterlocklaw3_grown.f (k + 1) l = _ := e1 _ (by omega)
  have g2 : letterlocklaw3_grown.f (k + 1) m = _ := e2 _ (by omega)
  have g3 : letterlocklaw3_TermSize.l1 k deep (B a) (B b) (B (97 :: encN 7)) 1 = _ := e3 k (by omega)
  have g4 : term_OfAtom.f k 7 = _ := e4 k (by omega)
  have g5 : letterlockref3_Right.f (k + 1) (B (112 :: (a ++ t))) = _ := e5 _ (by omega)
  have c1 : (⟨#[112]⟩ : ByteArray) ++ B a = B (112 :: a) := append_B [112] a
  have c2 : B (112 :: a) ++ B t = B (112 :: (a ++ t)) := append_B (112 :: a) t
  have fin : letterlocklaw3_TermSize.j3 (k + 1) deep (B a) (B b) false = some true := by
    rw [letterlocklaw3_TermSize.j3, if_neg (by decide), g4, Option.bind_some, g3]
  show letterlocklaw3_TermSize.j2 (k + 2) _ _ _ _ _ = _
  rw [letterlocklaw3_TermSize.j2, if_neg (by decide), g1, Option.bind_some, g2, Option.bind_some, term_OfPair.of, Option.bind_some, c1, c2, g5, Option.bind_some, ofL2 ha ht, if_pos (by rw [size_B]; omega), if_pos (by rw [size_B, size_B, List.length_cons]; omega)]
  unfold pr
  cases h : right (112 :: (a ++ t))
  · simp only [Bool.false_eq_true, if_false, toList_B, bne_self_eq_false]
    exact fin
  · simp only [if_true, beq_self_eq_true, bne_self_eq_false, Bool.false_eq_true, if_false]
    exact fin
theorem size_j1 (l m : List Int) (hl : ∀ x ∈ l, (Lit.int .i64 x).wf = true) (hm : ∀ x ∈ m, (Lit.int .i64 x).wf = true) (deep : Int) (d0 : -9223372036854775808 ≤ deep) (d1 : deep ≤ 9223372036854775807) (n : Nat) (hn : n < 4100) (z : Nat) (hz : z = if n > 255 then 2 else if n > 0 then 1 else 0) :
    Ev (fun k => letterlocklaw3_TermSize.j1 k l m deep (B (xs n)) (n : Int) (z : Int)) true := by
  have hxl : (xs n).length = n := List.length_replicate
  have htl := text_len n (by omega)
  rw [← hz] at htl
  have hz2 : z ≤ 2 := by rw [hz]; split; omega; split; omega; omega
  obtain ⟨K1, e1⟩ := term_OfText.ev (xs n) (by omega)
  have hw : wrap64 (wrap64 ((n : Int) + (z : Int)) + 2) = ((n + z + 2 : Nat) : Int) := by rw [w64 ((n : Int) + (z : Int)) (by omega) (by omega), w64 _ (by omega) (by omega)]; omega
  by_cases h : n + z + 2 ≤ 4000
  · have hr : right (textT (xs n)) = true := by rw [right_text _ (by omega), decide_eq_true_iff]; omega
    obtain ⟨K2, e2⟩ := size_j2 l m hl hm deep d0 d1 (textT (xs n)) hr
    refine ⟨K1 + K2 + 1, fun k hk => ?_⟩
    obtain ⟨k, rfl⟩ : ∃ m, k = m + 1 := ⟨k - 1, by omega⟩
    have g1 : term_OfText.f k (B (xs n)) = _ := e1 k (by omega)
    have g2 : letterlocklaw3_TermSize.j2 k l m deep (B (textT (xs n))) false = _ := e2 k (by omega)
    show letterlocklaw3_TermSize.j1 (k + 1) _ _ _ _ _ _ = _
    have hT : ofTextL (xs n) = (textT (xs n), 0) := by rw [ofTextL, if_pos (by omega)]
    rw [letterlocklaw3_TermSize.j1, g1, Option.bind_some, hw, if_neg (by omega), hT]
    simp only [pr, if_true, size_B, htl, bne_self_eq_false]
    exact g2
  · refine ⟨K1 + 1, fun k hk => ?_⟩
    obtain ⟨k, rfl⟩ : ∃ m, k = m + 1 := ⟨k - 1, by omega⟩
    have g1 : term_OfText.f k (B (xs n)) = _ := e1 k (by omega)
    show letterlocklaw3_TermSize.j1 (k + 1) _ _ _ _ _ _ = _
    have hT : ofTextL (xs n) = ([], 10) := by rw [ofTextL, if_neg (by omega)]
    rw [letterlocklaw3_TermSize.j1, g1, Option.bind_some, hw, if_pos (by omega), hT]
    simp [pr, toList_B]
theorem size_l0 (l m : List Int) (hl : ∀ x ∈ l, (Lit.int .i64 x).wf = true) (hm : ∀ x ∈ m, (Lit.int .i64 x).wf = true) (deep : Int) (d0 : -9223372036854775808 ≤ deep) (d1 : deep ≤ 9223372036854775807) (n : Nat) (hn : n < 4100) :
    ∀ (p j : Nat), j + p = n → Ev (fun k => letterlocklaw3_TermSize.l0 k l m deep (B (xs j)) (n : Int) (j : Int)) true := by
  intro p
  induction p with
  | zero =>
    intro j hj
    obtain rfl : j = n := by omega
    by_cases h1 : j > 255
    · obtain ⟨K, e⟩ := size_j1 l m hl hm deep d0 d1 j hn 2 (by rw [if_pos h1])
      refine ⟨K + 1, fun k hk => ?_⟩
      obtain ⟨k, rfl⟩ : ∃ m, k = m + 1 := ⟨k - 1, by omega⟩
      have g : letterlocklaw3_TermSize.j1 k l m deep (B (xs j)) (j : Int) 2 = _ := e k (by omega)
      show letterlocklaw3_TermSize.l0 (k + 1) _ _ _ _ _ _ = _
      rw [letterlocklaw3_TermSize.l0, if_neg (by omega), if_pos (by omega), g]
    · by_cases h2 : j > 0
      · obtain ⟨K, e⟩ := size_j1 l m hl hm deep d0 d1 j hn 1 (by rw [if_neg h1, if_pos h2])
        refine ⟨K + 1, fun k hk => ?_⟩
        obtain ⟨k, rfl⟩ : ∃ m, k = m + 1 := ⟨k - 1, by omega⟩
        have g : letterlocklaw3_TermSize.j1 k l m deep (B (xs j)) (j : Int) 1 = _ := e k (by omega)
        show letterlocklaw3_TermSize.l0 (k + 1) _ _ _ _ _ _ = _
        rw [letterlocklaw3_TermSize.l0, if_neg (by omega), if_neg (by omega), if_pos (by omega), g]
      · obtain ⟨K, e⟩ := size_j1 l m hl hm deep d0 d1 j hn 0 (by rw [if_neg h1, if_neg h2])
        refine ⟨K + 1, fun k hk => ?_⟩
        obtain ⟨k, rfl⟩ : ∃ m, k = m + 1 := ⟨k - 1, by omega⟩
        have g : letterlocklaw3_TermSize.j1 k l m deep (B (xs j)) (j : Int) 0 = _ := e k (by omega)
        show letterlocklaw3_TermSize.l0 (k + 1) _ _ _ _ _ _ = _
        rw [letterlocklaw3_TermSize.l0, if_neg (by omega), if_neg (by omega), if_neg (by omega), g]
  | succ p ih =>
    intro j hj
    obtain ⟨K, e⟩ := ih (j + 1) (by omega)
    refine ⟨K + 1, fun k hk => ?_⟩
    obtain ⟨k, rfl⟩ : ∃ m, k = m + 1 := ⟨k - 1, by omega⟩
    have g : letterlocklaw3_TermSize.l0 k l m deep (B (xs (j + 1))) (n : Int) ((j + 1 : Nat) : Int) = _ := e k (by omega)
    have hx : B (xs j) ++ (⟨#[120]⟩ : ByteArray) = B (xs (j + 1)) := by
      rw [show (⟨#[120]⟩ : ByteArray) = B [120] from rfl, append_B]
      unfold xs
      rw [List.replicate_succ']
    show letterlocklaw3_TermSize.l0 (k + 1) _ _ _ _ _ _ = _
    rw [letterlocklaw3_TermSize.l0, if_pos (by omega), if_pos (by rw [size_B]; unfold xs; rw [List.length_replicate]; omega), hx, w64 _ (by omega) (by omega), show (j : Int) + 1 = ((j + 1 : Nat) : Int) from by omega, g]
end Size
open Size
theorem TermSize : letterlocklaw3_TermSize.Pure := by
  intro l0 l1 a2 a3 hl0 hl0' w0 hl1 hl1' w1 w2 w3
  obtain ⟨c0, c1⟩ := wfi64 w2
  obtain ⟨d0, d1⟩ := wfi64 w3
  obtain ⟨K, e⟩ := letterlocklaw3_shown.ev
  obtain ⟨n, hn, en⟩ := letterlocklaw3_pick.of a2 c0 c1 4100 (by decide) (by decide)
  have en : letterlocklaw3_pick.f a2 4100 = some (n : Int) := en
  obtain ⟨K1, e1⟩ := size_l0 l0 l1 w0 w1 a3 d0 d1 n hn n 0 (by omega)
  refine ⟨K + K1, ?_⟩
  have g : letterlocklaw3_shown.f (K + K1) = _ := e _ (by omega)
  have g1 : letterlocklaw3_TermSize.l0 (K + K1) l0 l1 a3 (⟨#[]⟩ : ByteArray) (n : Int) 0 = _ := e1 _ (by omega)
  unfold letterlocklaw3_TermSize.f
  rw [g, Option.bind_some, if_pos rfl, en, Option.bind_some, g1]
end Go.Proofs.Ytfkkmagiobfeiaa.Pure
