/- TermParts: a term is its kind, and its parts' bytes; read off it leaves what stands behind it, and no beginning of it is a term. -/
import Derived.Test.YtfkkmagiobfeiaaELaw3
import Derived.Test.YtfkkmagiobfeiaaGLTermParts
namespace Go.Proofs.Ytfkkmagiobfeiaa.Pure
set_option linter.unusedVariables false
set_option linter.unusedSimpArgs false
open Go.RowKit Go.Proofs.Ytfkkmagiobfeiaa.P Go.Proofs.YtfkkmagiobfeiaaW.PrintWords Go.Proofs.YtfkkmagiobfeiaaW.PrintLast Go.Proofs.YtfkkmagiobfeiaaW.PrintMore
namespace Parts
theorem right_tlen {a : List UInt8} (h : right a = true) : tlen 40 a = a.length ∧ tlen 40 a ≠ 0 := by
  obtain ⟨h1, -, h3⟩ := (right_iff _).mp h
  exact ⟨h3, by rw [h3]; exact Nat.ne_of_gt (List.length_pos_iff.mpr h1)⟩
/-- A term taken off is the term that it begins with. -/
theorem tlen_take : ∀ (d : Nat) (l : List UInt8), tlen d l ≠ 0 → tlen d (l.take (tlen d l)) = tlen d l := by
  intro d
  induction d with
  | zero => intro l h; exact absurd rfl h
  | succ d ih =>
    intro l h
    cases l with
    | nil => exact absurd rfl h
    | cons c r =>
      by_cases h97 : c = 97
      · have e : ∀ x : List UInt8, tlen (d + 1) (c :: x) = (match takeL x with | none => 0 | some p => 1 + x.length - p.2.length) := by intro x; rw [tlen, if_pos h97]; cases takeL x <;> rfl
        rw [e] at h
        cases ht : takeL r with
        | none => rw [ht] at h; exact absurd rfl h
        | some p =>
          obtain ⟨n, q⟩ := p
          obtain ⟨hr, hn⟩ := takeL_some r n q ht
          have hm : tlen (d + 1) (c :: r) = (encN n).length + 1 := by
            rw [e, ht]
            show 1 + r.length - q.length = _
            rw [hr, List.length_append]; omega
          have h2 := takeL_encN n [] hn
          rw [List.append_nil] at h2
          rw [hm, List.take_succ_cons, hr, List.take_left, e, h2]
          show 1 + (encN n).length - 0 = _
          omega
      · by_cases h116 : c = 116
        · have e : ∀ x : List UInt8, tlen (d + 1) (c :: x) = (if (takeTextL x 4000).2.2 = 0 then 1 + x.length - (takeTextL x 4000).2.1.length else 0) := by intro x; rw [tlen, if_neg h97, if_pos h116]
          rw [e] at h
          by_cases hz : (takeTextL r 4000).2.2 = 0
          · obtain ⟨hr, hn, hb⟩ := takeTextL_some r 4000 hz
            have hm : tlen (d + 1) (c :: r) = (textL (takeTextL r 4000).1).length + 1 := by
              rw [e, if_pos hz]
              have hl : r.length = (textL (takeTextL r 4000).1).length + (takeTextL r 4000).2.1.length := (congrArg List.length hr).trans List.length_append
              omega
            have hx : r.take (textL (takeTextL r 4000).1).length = textL (takeTextL r 4000).1 := by
              have h3 : r.take (textL (takeTextL r 4000).1).length = (textL (takeTextL r 4000).1 ++ (takeTextL r 4000).2.1).take (textL (takeTextL r 4000).1).length := congrArg _ hr
              rw [h3, List.take_left]
            have h2 := takeTextL_textL (takeTextL r 4000).1 [] 4000 hn
            rw [List.append_nil, if_neg (by rw [if_pos (by decide)] at hb; omega)] at h2
            rw [hm, List.take_succ_cons, hx, e, h2, if_pos rfl]
            show 1 + (textL (takeTextL r 4000).1).length - 0 = _
            omega
          · rw [if_neg hz] at h; exact absurd rfl h
        · by_cases g2 : c = 104 ∨ c = 117
          · rw [tlen_one g2] at h ⊢
            have hne : tlen d r ≠ 0 := by intro e; rw [if_pos e] at h; exact h rfl
            rw [if_neg hne, Nat.add_comm 1 (tlen d r), List.take_succ_cons, tlen_one g2, ih r hne, if_neg hne, Nat.add_comm]
          · by_cases g3 : c = 112 ∨ c = 115 ∨ c = 98 ∨ c = 103
            · rw [tlen_two g3] at h ⊢
              have hb : ¬ (c = 98 ∧ r.getD 0 0 ≠ 117) := by intro e; rw [if_pos e] at h; exact h rfl
              rw [if_neg hb] at h ⊢
              have hne : tlen d r ≠ 0 := by intro e; rw [if_pos e] at h; exact h rfl
              rw [if_neg hne] at h ⊢
              have hne2 : tlen d (r.drop (tlen d r)) ≠ 0 := by intro e; rw [if_pos e] at h; exact h rfl
              rw [if_neg hne2] at h ⊢
              have hle := tlen_le d r
              have hsp : r.take (tlen d r + tlen d (r.drop (tlen d r))) = r.take (tlen d r) ++ (r.drop (tlen d r)).take (tlen d (r.drop (tlen d r))) := List.take_add
              have i1 := ih r hne
              have i2 := ih _ hne2
              have a1 : tlen d (r.take (tlen d r + tlen d (r.drop (tlen d r)))) = tlen d r := by
                rw [hsp, tlen_append d _ _ (by rw [i1]; exact hne), i1]
              have a2 : (r.take (tlen d r + tlen d (r.drop (tlen d r)))).drop (tlen d r) = (r.drop (tlen d r)).take (tlen d (r.drop (tlen d r))) := by
                rw [hsp, List.drop_append_of_le_length (by rw [List.length_take]; omega), List.drop_take, Nat.sub_self, List.take_zero, List.nil_append]
              have a3 : (r.take (tlen d r + tlen d (r.drop (tlen d r)))).getD 0 0 = r.getD 0 0 := by
                cases r with
                | nil => exact absurd (tlen_nil d) hne
                | cons x y =>
                  obtain ⟨n, hn⟩ : ∃ n, tlen d (x :: y) + tlen d ((x :: y).drop (tlen d (x :: y))) = n + 1 := ⟨tlen d (x :: y) + tlen d ((x :: y).drop (tlen d (x :: y))) - 1, by omega⟩
                  rw [hn, List.take_succ_cons]; rfl
              rw [show 1 + tlen d r + tlen d (r.drop (tlen d r)) = (tlen d r + tlen d (r.drop (tlen d r))) + 1 from by omega, List.take_succ_cons, tlen_two g3, a3, if_neg hb, a1, if_neg hne, a2, i2, if_neg hne2]
              omega
            · exfalso
              rw [tlen, if_neg h97, if_neg h116, if_neg g2, if_neg g3] at h
              exact h rfl
theorem right_more {p : List UInt8} (h : tlen 39 p = p.length) (h0 : tlen 39 p ≠ 0) (hl : p.length ≤ 4000) : right p = true := by
  refine (right_iff _).mpr ⟨by intro e; rw [e] at h0; exact h0 (tlen_nil 39), hl, ?_⟩
  rw [tlen_more 39 p h0, h]
/-- The parts of a right term are right, and together with its kind they are the term; what has no parts is an atom or a text. -/
theorem parts_right {c : UInt8} {r : List UInt8} (h : right (c :: r) = true) : (∀ p ∈ partsL (c :: r), right p = true) ∧ ((partsL (c :: r)).length > 0 → (partsL (c :: r)).flatten = r) ∧ (partsL (c :: r)).length ≤ 2 := by
  obtain ⟨-, hl, htl⟩ := (right_iff _).mp h
  rw [List.length_cons] at hl htl
  by_cases g2 : c = 104 ∨ c = 117
  · rw [tlen_one g2] at htl
    have hne : tlen 39 r ≠ 0 := by intro e; rw [if_pos e] at htl; omega
    rw [if_neg hne] at htl
    have hp : partsL (c :: r) = [r] := by unfold partsL; rw [if_pos (by simpa using g2)]; rfl
    rw [hp]
    refine ⟨?_, by simp, by simp⟩
    intro p hp
    rw [List.mem_singleton.mp hp]
    exact right_more (by omega) hne (by omega)
  · by_cases g3 : c = 112 ∨ c = 115 ∨ c = 98 ∨ c = 103
    · rw [tlen_two g3] at htl
      have hp : partsL (c :: r) = [r.take (tlen 40 r), r.drop (tlen 40 r)] := by unfold partsL; rw [if_neg (by simpa using g2), if_pos (by simpa using g3)]; rfl
      rw [hp]
      split at htl
      · omega
      · have hne : tlen 39 r ≠ 0 := by intro e; rw [if_pos e] at htl; omega
        rw [if_neg hne] at htl
        have hne2 : tlen 39 (r.drop (tlen 39 r)) ≠ 0 := by intro e; rw [if_pos e] at htl; omega
        rw [if_neg hne2] at htl
        have e40 : tlen 40 r = tlen 39 r := tlen_more 39 r hne
        have hle := tlen_le 39 r
        refine ⟨?_, by intro _; simp, by simp⟩
        intro p hp
        rw [e40] at hp
        rcases List.mem_cons.mp hp with h | h
        · rw [h]
          have ht := tlen_take 39 r hne
          exact right_more (by rw [ht, List.length_take]; omega) (by rw [ht]; exact hne) (by rw [List.length_take]; omega)
        · rw [List.mem_singleton.mp h]
          exact right_more (by rw [List.length_drop]; omega) hne2 (by rw [List.length_drop]; omega)
    · have hp : partsL (c :: r) = [] := by unfold partsL; rw [if_neg (by simpa using g2), if_neg (by simpa using g3)]
      rw [hp]
      exact ⟨by simp, by simp, by simp⟩
/-- No beginning of a right term is a term. -/
theorem no_start {t : List UInt8} (h : right t = true) (q : Nat) (hq : q < t.length) : tlen 40 (t.take q) = 0 := by
  obtain ⟨h1, h2⟩ := right_tlen h
  by_cases hz : tlen 40 (t.take q) = 0
  · exact hz
  · have := tlen_append 40 (t.take q) (t.drop q) hz
    rw [List.take_append_drop] at this
    have hle := tlen_le 40 (t.take q)
    rw [List.length_take] at hle
    omega
theorem number_of {t : List UInt8} (h : right t = true) (hc : t.getD 0 0 = 97) : ∃ n, n < 18446744073709551616 ∧ numberL t = (n, 0) ∧ t = 97 :: encN n := by
  obtain ⟨c, r, rfl, hl, htl⟩ := right_cons h
  have hc : c = 97 := hc
  subst hc
  rw [tlen, if_pos rfl] at htl
  cases ht : takeL r with
  | none => rw [ht] at htl; exact absurd htl (by simp)
  | some p =>
    obtain ⟨n, q⟩ := p
    obtain ⟨hr, hn⟩ := takeL_some r n q ht
    rw [ht] at htl
    have hq : q = [] := by
      have h2 : 1 + r.length - q.length = r.length + 1 := htl
      have h3 := takeL_len r n q ht
      exact List.eq_nil_of_length_eq_zero (by omega)
    refine ⟨n, hn, ?_, ?_⟩
    · rw [numberL, h, if_pos rfl, if_pos (show (97 :: r).getD 0 0 = 97 from rfl), List.tail_cons, ht]; rfl
    · rw [hr, hq, List.append_nil]
theorem number_not {t : List UInt8} (h : right t = true) (hc : t.getD 0 0 ≠ 97) : numberL t = (0, 2) := by
  rw [numberL, h, if_pos rfl, if_neg hc]
theorem words_of {t : List UInt8} (h : right t = true) (hc : t.getD 0 0 = 116) : ∃ x, wordsL t = (x, 0) ∧ t = textT x ∧ x.length ≤ 4000 := by
  obtain ⟨c, r, rfl, hl, htl⟩ := right_cons h
  have hc : c = 116 := hc
  subst hc
  rw [tlen, if_neg (by decide), if_pos rfl] at htl
  by_cases hz : (takeTextL r 4000).2.2 = 0
  · rw [if_pos hz] at htl
    obtain ⟨hr, hn, hb⟩ := takeTextL_some r 4000 hz
    have h3 := takeTextL_len r 4000 hz
    have hq : (takeTextL r 4000).2.1 = [] := List.eq_nil_of_length_eq_zero (by omega)
    refine ⟨(takeTextL r 4000).1, ?_, ?_, ?_⟩
    · rw [wordsL, h, if_pos rfl, if_pos (show (116 :: r).getD 0 0 = 116 from rfl), List.tail_cons]
    · rw [hq, List.append_nil] at hr
      unfold textT
      exact congrArg _ hr
    · rw [if_pos (by decide)] at hb; omega
  · rw [if_neg hz] at htl; exact absurd htl (by simp)
theorem words_not {t : List UInt8} (h : right t = true) (hc : t.getD 0 0 ≠ 116) : wordsL t = ([], 2) := by
  rw [wordsL, h, if_pos rfl, if_neg hc]
theorem not_right {t : List UInt8} (h : tlen 40 t ≠ t.length ∨ tlen 40 t = 0) : right t = false := by
  cases hr : right t
  · rfl
  · obtain ⟨h1, h2⟩ := right_tlen hr
    rcases h with h | h
    · exact absurd h1 h
    · exact absurd h h2
theorem kind_no {t : List UInt8} (h : right t = false) : term_Kind.f (B t) = some 0 := by
  show some ((kindL t).toNat : Int) = _
  rw [kindL, h]; rfl
theorem parts_j4 (t rest : List UInt8) (ht : right t = true) (hrest : rest.length ≤ 2000) (at_ : Int) (a0 : -9223372036854775808 ≤ at_) (a1 : at_ ≤ 9223372036854775807) :
    Ev (fun k => letterlocklaw3_TermParts.j4 k (B rest) at_ (B t) (B (wordsL t).1) (wordsL t).2 false) true := by
  have hp := right_pos ht
  obtain ⟨q, hq, eq⟩ := letterlocklaw3_pick.of at_ a0 a1 t.length (by omega) (by omega)
  have hs := no_start ht q hq
  have hcut : (B t).extract 0 q = B (t.take q) := by rw [extract_B, List.drop_zero]
  have hread : term_Read.f (B (t.take q)) = some (B [], B [], 2) := by
    rw [term_Read.of _ (by rw [List.length_take]; omega), readL, if_pos (Or.inl hs)]
  have hkind : term_Kind.f (B (t.take q)) = some 0 := kind_no (not_right (Or.inr hs))
  have hwl : (wordsL t).1.length ≤ 4000 := by
    by_cases hc : t.getD 0 0 = 116
    · obtain ⟨x, e, -, hx⟩ := words_of ht hc
      rw [e]; exact hx
    · rw [words_not ht hc]; simp
  obtain ⟨K, e⟩ := term_OfText.ev (wordsL t).1 (by omega)
  refine ⟨K + 1, fun k hk => ?_⟩
  obtain ⟨k, rfl⟩ : ∃ m, k = m + 1 := ⟨k - 1, by omega⟩
  have g : term_OfText.f k (B (wordsL t).1) = _ := e k (by omega)
  have fin : (if rest = ([] : List UInt8) then (some true) else (if (B t).size + (B rest).size ≤ 9223372036854775807 then ((term_Kind.f (B (t ++ rest))).bind fun t488 => (some (t488 == 0))) else (none))) = some true := by
    by_cases hr : rest = []
    · rw [if_pos hr]
    · have h1 := right_tlen ht
      have h2 := tlen_append 40 t rest h1.2
      have hl : 0 < rest.length := List.length_pos_iff.mpr hr
      rw [if_neg hr, if_pos (by rw [size_B, size_B]; omega), kind_no (not_right (Or.inl (by rw [h2, h1.1, List.length_append]; omega))), Option.bind_some]
      rfl
  show letterlocklaw3_TermParts.j4 (k + 1) _ _ _ _ _ _ = _
  rw [letterlocklaw3_TermParts.j4, if_neg (by decide), g, Option.bind_some, size_B, eq, Option.bind_some, if_pos (by omega), if_pos (by omega), Int.toNat_natCast, hcut, hread, Option.bind_some, hkind, append_B, toList_B]
  simp only [Option.bind_some, if_true]
  rw [size_B] at fin
  by_cases hc : t.getD 0 0 = 116
  · obtain ⟨x, e, et, hx⟩ := words_of ht hc
    have hT : (textT x).length ≤ 4000 := by rw [← et]; exact hp.2
    rw [e, if_pos rfl, ofTextL, if_pos hT]
    unfold pr
    rw [if_pos rfl, toList_B, toList_B, if_pos et.symm]
    first | exact fin | simpa only [toList_B] using fin
  · rw [words_not ht hc, if_neg (by decide)]
    first | exact fin | simpa only [toList_B] using fin
theorem parts_j3 (t rest : List UInt8) (ht : right t = true) (hrest : rest.length ≤ 2000) (at_ : Int) (a0 : -9223372036854775808 ≤ at_) (a1 : at_ ≤ 9223372036854775807) :
    Ev (fun k => letterlocklaw3_TermParts.j3 k (B rest) at_ (B t) false) true := by
  have hp := right_pos ht
  obtain ⟨K, e⟩ := parts_j4 t rest ht hrest at_ a0 a1
  have hb : bt (B t) 0 = (((t.getD 0 0).toNat : Nat) : Int) := by rw [bt_B]; rfl
  have t2 : (((wordsL t).2 == 0) != ((((t.getD 0 0).toNat : Nat) : Int) == 116)) = false := by
    by_cases hc : t.getD 0 0 = 116
    · obtain ⟨x, ex, -, -⟩ := words_of ht hc
      rw [ex, hc]; rfl
    · rw [words_not ht hc, beq_eq_false_iff_ne.mpr (fun h => hc ((b116 _).mp h))]; rfl
  by_cases hc : t.getD 0 0 = 97
  · obtain ⟨n, hn, en, et⟩ := number_of ht hc
    obtain ⟨K1, e1⟩ := term_OfAtom.ev n hn
    refine ⟨K + K1 + 1, fun k hk => ?_⟩
    obtain ⟨k, rfl⟩ : ∃ m, k = m + 1 := ⟨k - 1, by omega⟩
    have g : letterlocklaw3_TermParts.j4 k (B rest) at_ (B t) (B (wordsL t).1) (wordsL t).2 false = _ := e k (by omega)
    have g1 : term_OfAtom.f k (n : Int) = _ := e1 k (by omega)
    show letterlocklaw3_TermParts.j3 (k + 1) _ _ _ _ = _
    rw [letterlocklaw3_TermParts.j3, if_neg (by decide), show term_Number.f (B t) = some (((numberL t).1 : Int), (numberL t).2) from rfl, Option.bind_some, show term_Words.f (B t) = some (B (wordsL t).1, (wordsL t).2) from rfl, Option.bind_some, if_pos (by rw [size_B]; omega), hb, en]
    rw [if_neg (by rw [hc]; exact (by decide : ¬ ((((0 : Int) == 0) != (((UInt8.toNat 97 : Nat) : Int) == 97)) = true))), t2, if_neg (by decide), if_pos rfl, g1, Option.bind_some, toList_B, toList_B, if_pos et.symm, g]
  · refine ⟨K + 1, fun k hk => ?_⟩
    obtain ⟨k, rfl⟩ : ∃ m, k = m + 1 := ⟨k - 1, by omega⟩
    have g : letterlocklaw3_TermParts.j4 k (B rest) at_ (B t) (B (wordsL t).1) (wordsL t).2 false = _ := e k (by omega)
    show letterlocklaw3_TermParts.j3 (k + 1) _ _ _ _ = _
    rw [letterlocklaw3_TermParts.j3, if_neg (by decide), show term_Number.f (B t) = some (((numberL t).1 : Int), (numberL t).2) from rfl, Option.bind_some, show term_Words.f (B t) = some (B (wordsL t).1, (wordsL t).2) from rfl, Option.bind_some, if_pos (by rw [size_B]; omega), hb, number_not ht hc]
    rw [if_neg (by rw [beq_eq_false_iff_ne.mpr (fun h => hc ((b97 _).mp h))]; decide), t2, if_neg (by decide), if_neg (by decide)]
    exact g
theorem parts_l0 (t rest : List UInt8) (ht : right t = true) (hrest : rest.length ≤ 2000) (at_ : Int) (a0 : -9223372036854775808 ≤ at_) (a1 : at_ ≤ 9223372036854775807)
    (ps : List (List UInt8)) (hps : ∀ p ∈ ps, right p = true) (hl2 : ps.length ≤ 2) (hend : ps.length > 0 → t.take 1 ++ ps.flatten = t) :
    ∀ (m i : Nat), i + m = ps.length → Ev (fun k => letterlocklaw3_TermParts.l0 k (B rest) at_ (B t) (ps.map B) (B (t.take 1 ++ (ps.take i).flatten)) (i : Int)) true := by
  intro m
  induction m with
  | zero =>
    intro i hi
    obtain rfl : i = ps.length := by omega
    obtain ⟨K, e⟩ := parts_j3 t rest ht hrest at_ a0 a1
    refine ⟨K + 1, fun k hk => ?_⟩
    obtain ⟨k, rfl⟩ : ∃ m, k = m + 1 := ⟨k - 1, by omega⟩
    have g : letterlocklaw3_TermParts.j3 k (B rest) at_ (B t) false = _ := e k (by omega)
    show letterlocklaw3_TermParts.l0 (k + 1) _ _ _ _ _ _ = _
    rw [letterlocklaw3_TermParts.l0, if_neg (by rw [List.length_map]; omega), List.take_length]
    by_cases h0 : ps.length > 0
    · rw [if_pos (by rw [List.length_map]; omega), hend h0, bne_self_eq_false, g]
    · rw [if_neg (by rw [List.length_map]; omega), g]
  | succ m ih =>
    intro i hi
    obtain ⟨K, e⟩ := ih (i + 1) (by omega)
    refine ⟨K + 1, fun k hk => ?_⟩
    obtain ⟨k, rfl⟩ : ∃ m, k = m + 1 := ⟨k - 1, by omega⟩
    have g : letterlocklaw3_TermParts.l0 k (B rest) at_ (B t) (ps.map B) (B (t.take 1 ++ (ps.take (i + 1)).flatten)) ((i + 1 : Nat) : Int) = _ := e k (by omega)
    have hmem := getD_mem ps i [] (by omega)
    have hr := hps _ hmem
    have hrl := (right_pos hr).2
    have htk : ps.take (i + 1) = ps.take i ++ [ps.getD i []] := by
      rw [List.take_succ_eq_append_getElem (by omega)]
      congr 2
      rw [List.getD_eq_getElem?_getD, List.getElem?_eq_getElem (by omega)]; rfl
    have hfl : ((ps.take i).flatten).length ≤ 4000 * i := by
      have : ∀ (l : List (List UInt8)), (∀ p ∈ l, p.length ≤ 4000) → l.flatten.length ≤ 4000 * l.length := by
        intro l
        induction l with
        | nil => intro _; simp
        | cons x y ih2 =>
          intro h
          have h1 := h x (by simp)
          have h2 := ih2 (fun p hp => h p (by simp [hp]))
          rw [List.flatten_cons, List.length_append, List.length_cons]; omega
      have h2 := this (ps.take i) (fun p hp => (right_pos (hps p (List.mem_of_mem_take hp))).2)
      rw [List.length_take] at h2
      omega
    have hkind : ¬ (((kindL (ps.getD i [])).toNat : Int) = 0) := by
      intro h
      have hk : kindL (ps.getD i []) = 0 := UInt8.toNat_inj.mp (by have h : ((kindL (ps.getD i [])).toNat : Int) = ((0 : Nat) : Int) := h; exact_mod_cast h)
      obtain ⟨c, r, ec, hl, htl⟩ := right_cons hr
      rw [kindL, hr, if_pos rfl, ec] at hk
      have hc : c = 0 := hk
      subst hc
      rw [tlen, if_neg (by decide), if_neg (by decide), if_neg (by decide), if_neg (by decide)] at htl
      omega
    show letterlocklaw3_TermParts.l0 (k + 1) _ _ _ _ _ _ = _
    rw [letterlocklaw3_TermParts.l0, if_pos (by rw [List.length_map]; omega), if_pos (by omega), rdOf_B, if_pos (by rw [size_B, size_B, List.length_append, List.length_take]; omega), show term_Kind.f (B (ps.getD i [])) = some ((kindL (ps.getD i [])).toNat : Int) from rfl, Option.bind_some, if_neg hkind, append_B, w64 _ (by omega) (by omega), show (i : Int) + 1 = ((i + 1 : Nat) : Int) from by omega]
    rw [htk, List.flatten_append, ← List.append_assoc] at g
    simpa using g
theorem parts_j0 (rest : List UInt8) (hrest : rest.length ≤ 2000) (l : List Int) (hl : ∀ x ∈ l, (Lit.int .i64 x).wf = true) (at_ : Int) (a0 : -9223372036854775808 ≤ at_) (a1 : at_ ≤ 9223372036854775807) (b : Bool) :
    Ev (fun k => letterlocklaw3_TermParts.j0 k l (B rest) at_ b false) true := by
  obtain ⟨t, ht, K0, e0⟩ := letterlocklaw3_grown.ev l hl
  have hp := right_pos ht
  obtain ⟨c, r, rfl, hlr, htl⟩ := right_cons ht
  obtain ⟨p1, p2, p3⟩ := parts_right ht
  obtain ⟨K1, e1⟩ := parts_l0 (c :: r) rest ht hrest at_ a0 a1 (partsL (c :: r)) p1 p3 (fun h => by rw [p2 h]; rfl) (partsL (c :: r)).length 0 (by omega)
  have h1 := right_tlen ht
  have h2 := tlen_append 40 (c :: r) rest h1.2
  have hread : term_Read.f (B ((c :: r) ++ rest)) = some (B (c :: r), B rest, 0) := by
    rw [term_Read.of _ (by rw [List.length_append]; omega), readL, h2, if_neg (by rintro (h | h); exact h1.2 h; omega), h1.1, List.take_left, List.drop_left]
  refine ⟨K0 + K1 + 2, fun k hk => ?_⟩
  obtain ⟨k, rfl⟩ : ∃ m, k = m + 2 := ⟨k - 2, by omega⟩
  have g0 : letterlocklaw3_grown.f (k + 1) l = _ := e0 _ (by omega)
  have g1 : letterlocklaw3_TermParts.l0 k (B rest) at_ (B (c :: r)) ((partsL (c :: r)).map B) (B ((c :: r).take 1 ++ ((partsL (c :: r)).take 0).flatten)) 0 = _ := e1 k (by omega)
  have hcut : (B (c :: r)).extract 0 1 = B ((c :: r).take 1 ++ ((partsL (c :: r)).take 0).flatten) := by rw [extract_B, List.drop_zero, List.take_zero]; simp
  have hb : bt (B (c :: r)) 0 = ((c.toNat : Nat) : Int) := by rw [bt_B]; rfl
  have hk2 : term_Kind.f (B (c :: r)) = some ((c.toNat : Nat) : Int) := by
    show some ((kindL (c :: r)).toNat : Int) = _
    rw [kindL, ht]; rfl
  show letterlocklaw3_TermParts.j0 (k + 2) _ _ _ _ _ = _
  rw [letterlocklaw3_TermParts.j0, if_neg (by decide), g0, Option.bind_some, if_pos (by rw [size_B, size_B]; omega), append_B, hread, Option.bind_some, show term_Parts.f (B (c :: r)) = some ((partsE (c :: r)).1.map B, (partsE (c :: r)).2) from rfl, Option.bind_some, partsE, ht, if_pos rfl, if_pos rfl, if_pos rfl, if_pos rfl, if_pos rfl, hk2, Option.bind_some, if_pos (by rw [size_B]; omega), hb, bne_self_eq_false]
  rw [letterlocklaw3_TermParts.j1, if_neg (by decide), if_pos (by rw [size_B]; omega), hcut, g1]
end Parts
open Parts
theorem TermParts : letterlocklaw3_TermParts.Pure := by
  intro l0 a1 a2 hl0 hl0' w0 hs1 w2
  obtain ⟨rest, rfl, hs⟩ := ofB a1
  obtain ⟨c0, c1⟩ := wfi64 w2
  obtain ⟨K, e⟩ := letterlocklaw3_shown.ev
  by_cases hb : rest.length ≤ 2000
  · obtain ⟨K1, e1⟩ := parts_j0 rest hb l0 w0 a2 c0 c1 true
    refine ⟨K + K1, ?_⟩
    have g : letterlocklaw3_shown.f (K + K1) = _ := e _ (by omega)
    have g1 : letterlocklaw3_TermParts.j0 (K + K1) l0 (B rest) a2 true false = _ := e1 _ (by omega)
    unfold letterlocklaw3_TermParts.f
    rw [g, Option.bind_some, if_pos rfl, show decide (((B rest).size : Int) > 2000) = false from decide_eq_false (by rw [size_B]; omega), g1]
  · refine ⟨K + 1, ?_⟩
    have g : letterlocklaw3_shown.f (K + 1) = _ := e _ (by omega)
    unfold letterlocklaw3_TermParts.f
    rw [g, Option.bind_some, if_pos rfl, show decide (((B rest).size : Int) > 2000) = true from decide_eq_true (by rw [size_B]; omega), letterlocklaw3_TermParts.j0, if_pos rfl]
end Go.Proofs.Ytfkkmagiobfeiaa.Pure
