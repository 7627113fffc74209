/- Slimmed by wip/slim.py. -/
import Derived.Test.YtodiffgpefidoaaGreatDoorERef1
import Derived.Test.YtodiffgpefidoaaGreatDoorERef10
import Derived.Test.YtodiffgpefidoaaGreatDoorELaw11
import Derived.Test.YtodiffgpefidoaaGreatDoorEWireB
import Derived.Test.YtodiffgpefidoaaGreatDoorGRef11
import Derived.Test.YtodiffgpefidoaaGreatDoorGRef111
import Derived.Test.YtodiffgpefidoaaGreatDoorGRef112
import Derived.Test.YtodiffgpefidoaaGreatDoorGFresh1
import Derived.Test.YtodiffgpefidoaaGreatDoorGLaw11
namespace Go.Proofs.YtodiffgpefidoaaGreatDoor.P
open Go.RowKit Go.Proofs.YtodiffgpefidoaaGreatDoorW.PrintWords Go.Proofs.YtodiffgpefidoaaGreatDoorW.PrintLast Go.Proofs.YtodiffgpefidoaaGreatDoorW.PrintMore
set_option linter.unusedVariables false
set_option linter.unusedSimpArgs false
theorem name_Right.of (k : Nat) (o : List UInt8) (ho : o.length ≤ 1000000000) : name_Right.f k (B o) = some (nameT (B o)) := by
  rw [name_Right.f, if_pos (by rw [size_B]; omega)]
theorem nameT_nil : nameT (B []) = false := by decide +kernel
theorem term_Kind.of (l : List UInt8) : term_Kind.f (B l) = some ((kindL l).toNat : Int) := rfl
theorem kind_no (l : List UInt8) : ((((kindL l).toNat : Nat) : Int) = 0) ↔ right l = false := by
  refine (eq_byte (n := 0) (by decide)).trans ⟨fun h => ?_, fun h => by rw [kindL, h]; rfl⟩
  cases hr : right l
  · rfl
  · rw [kindL, if_pos hr] at h
    obtain ⟨c, r, rfl, hl, htl⟩ := right_cons hr
    have hc : c = 0 := h
    subst hc
    rw [tlen, if_neg (by decide), if_neg (by decide), if_neg (by decide), if_neg (by decide)] at htl
    omega
theorem kind_test (l : List UInt8) (n : Nat) (hn : n < 256) : ((((kindL l).toNat : Nat) : Int) == (n : Int)) = decide (kindL l = UInt8.ofNat n) := by
  by_cases h : kindL l = UInt8.ofNat n
  · rw [decide_eq_true h]; exact beq_iff_eq.mpr ((eq_byte hn).mpr h)
  · rw [decide_eq_false h]; exact beq_eq_false_iff_ne.mpr (fun e => h ((eq_byte hn).mp e))
def rightN (o : List UInt8) (n : Int) (r g : List UInt8) : Bool := nameT (B o) && (decide (0 ≤ n ∧ n ≤ 8) && (right r && decide (kindL g = 103)))
theorem fresh_Right.of (k : Nat) (o : List UInt8) (ho : o.length ≤ 1000000000) (t n : Int) (r g : List UInt8) : fresh_Right.f k (B o) t n (B r) (B g) = some (rightN o n r g) := by
  unfold fresh_Right.f rightN
  simp only [toList_B]
  by_cases hz : (!(o == ([] : List UInt8)) || (!(t == 0) || (!(n == 0) || (!(r == ([] : List UInt8)) || (!(g == ([] : List UInt8))))))) = true
  · rw [if_pos hz, name_Right.of k o ho, Option.bind_some]
    cases nameT (B o)
    · rfl
    · rw [if_pos rfl, Bool.true_and]
      by_cases h0 : n ≥ 0
      · rw [if_pos h0]
        by_cases h8 : n ≤ 8
        · rw [if_pos h8, term_Kind.of, Option.bind_some, decide_eq_true ⟨h0, h8⟩, Bool.true_and]
          by_cases hk : right r = false
          · rw [if_pos ((kind_no r).mpr hk), hk]; rfl
          · rw [if_neg (fun e => hk ((kind_no r).mp e)), term_Kind.of, Option.bind_some, show right r = true from by simpa using hk, Bool.true_and]
            exact congrArg some (kind_test g 103 (by decide))
        · rw [if_neg h8, decide_eq_false (fun h => h8 h.2)]; rfl
      · rw [if_neg h0, decide_eq_false (fun h => h0 h.1)]; rfl
  · rw [if_neg hz]
    have ho : o = [] := by
      cases o with
      | nil => rfl
      | cons a l => exact absurd rfl hz
    rw [ho, nameT_nil]
    rfl
theorem letterlockref11_Right.ev (o : List UInt8) (ho : o.length ≤ 1000000000) (t n : Int) (r g : List UInt8) (lr : r.length ≤ 1000000000) (lg : g.length ≤ 1000000000) : Ev (fun k => letterlockref11_Right.f k (B o) t n (B r) (B g)) (rightN o n r g) := by
  unfold letterlockref11_Right.f rightN
  refine Ev.bind (letterlockref1_Right.ev o ho) ?_
  cases nameT (B o)
  · exact Ev.eq (Ev.now _) rfl
  · simp only [if_true, Bool.true_and]
    by_cases h0 : n ≥ 0
    · by_cases h8 : n ≤ 8
      · simp only [if_pos h0, if_pos h8]
        rw [decide_eq_true ⟨h0, h8⟩, Bool.true_and]
        refine Ev.bind (letterlockref3_Right.ev r lr) ?_
        cases right r
        · exact Ev.eq (Ev.now _) rfl
        · simp only [if_true, Bool.true_and]
          refine Ev.bind (letterlockref3_Kind.ev g lg) ?_
          exact Ev.eq (Ev.now _) (kind_test g 103 (by decide))
      · simp only [if_pos h0, if_neg h8]
        rw [decide_eq_false (fun h => h8 h.2)]
        exact Ev.eq (Ev.now _) rfl
    · simp only [if_neg h0]
      rw [decide_eq_false (fun h => h0 h.1)]
      exact Ev.eq (Ev.now _) rfl
theorem chain2_len (a : List UInt8) (p : List UInt8 × Int) : (chain2 a p).1.length ≤ 4000 := by
  unfold chain2
  split
  · exact ofL_len _ _
  · simp
theorem ofTextL_len (o : List UInt8) : (ofTextL o).1.length ≤ 4000 := by
  unfold ofTextL
  split
  · assumption
  · simp
theorem letterlockref11_signed.ev (o : List UInt8) (ho : o.length ≤ 100000000) (t n : Nat) (ht : t < 18446744073709551616) (hn : n < 1000) (r g : List UInt8) (lr : r.length ≤ 100000000) :
    Ev (fun k => letterlockref11_signed.f k (B o) (t : Int) (n : Int) (B r) (B g)) (pr (signedE o t n r)) := by
  have l1 := encN_len t ht
  have l2 := encN_len n (by omega)
  unfold letterlockref11_signed.f
  rw [show IntKind.u64.wrap (n : Int) = (n : Int) from wu64 _ (by omega) (by omega)]
  refine Ev.bind (letterlockref3_OfAtom.ev n (by omega)) ?_
  refine Ev.bind (letterlockref3_OfPair.ev (97 :: encN n) r (by rw [List.length_cons]; omega) lr) ?_
  have c1 : ofL [112] [97 :: encN n, r] = chain2 (atomL n) (r, 0) := by rw [chain2, if_pos rfl]; rfl
  rw [c1]
  unfold signedE
  have b1 := chain2_len (atomL n) (r, 0)
  generalize chain2 (atomL n) (r, 0) = p1 at b1
  by_cases h1 : p1.2 = 0
  · simp only [pr, h1, if_true]
    refine Ev.bind (letterlockref3_OfAtom.ev t ht) ?_
    refine Ev.bind (letterlockref3_OfPair.ev (97 :: encN t) p1.1 (by rw [List.length_cons]; omega) (by omega)) ?_
    have c2 : ofL [112] [97 :: encN t, p1.1] = chain2 (atomL t) p1 := by rw [chain2, if_pos h1]; rfl
    rw [c2]
    have b2 := chain2_len (atomL t) p1
    generalize chain2 (atomL t) p1 = p2 at b2
    by_cases h2 : p2.2 = 0
    · simp only [pr, h2, if_true]
      refine Ev.bind (letterlockref3_OfText.ev o ho) ?_
      have b3 := ofTextL_len o
      refine Ev.bind (letterlockref3_OfPair.ev (ofTextL o).1 p2.1 (by omega) (by omega)) ?_
      have c3 : ofL [112] [(ofTextL o).1, p2.1] = chain2 (ofTextL o).1 p2 := by rw [chain2, if_pos h2]
      rw [c3]
      exact Ev.eq (Ev.now _) rfl
    · simp only [pr, h2, if_false]
      rw [show chain2 (ofTextL o).1 p2 = ([], p2.2) from by rw [chain2, if_neg h2]]
      exact Ev.eq (Ev.now _) rfl
  · simp only [pr, h1, if_false]
    rw [show chain2 (atomL t) p1 = ([], p1.2) from by rw [chain2, if_neg h1], show chain2 (ofTextL o).1 ([], p1.2) = ([], p1.2) from by rw [chain2, if_neg h1]]
    exact Ev.eq (Ev.now _) rfl
def badT (e : Int) : ByteArray × Int × Int × ByteArray × ByteArray × Int := (⟨#[]⟩, 0, 0, ⟨#[]⟩, ⟨#[]⟩, e)
def rootE (ls : List (List UInt8)) : List UInt8 × Int := if ls.length = 0 then ofTextL [] else rootP ls
def signE (s o : List UInt8) (t n : Nat) (r : List UInt8) : List UInt8 × Int := if (signedE o t n r).2 = 0 then ofL [103] [s, (signedE o t n r).1] else ([], (signedE o t n r).2)
def buildE (s o : List UInt8) (t : Nat) (ls : List (List UInt8)) : ByteArray × Int × Int × ByteArray × ByteArray × Int :=
  if right s = true ∧ nameT (B o) = true then
    (if (rootE ls).2 = 0 then (if (signE s o t ls.length (rootE ls).1).2 = 0 then (B o, (t : Int), (ls.length : Int), B (rootE ls).1, B (signE s o t ls.length (rootE ls).1).1, 0) else badT (signE s o t ls.length (rootE ls).1).2) else badT (rootE ls).2)
  else badT 1
theorem text_nil : ofTextL [] = ([116, 0], 0) := by decide +kernel
theorem rootP_len (ls : List (List UInt8)) : (rootP ls).1.length ≤ 4000 := by
  unfold rootP
  split
  · simp
  · split
    · simp
    · exact treeL_len ls
theorem rootE_len (ls : List (List UInt8)) : (rootE ls).1.length ≤ 4000 := by
  unfold rootE
  split
  · exact ofTextL_len _
  · exact rootP_len ls
theorem fresh_Build.evT (s o : List UInt8) (ho : o.length ≤ 100000) (t : Nat) (ht : t < 18446744073709551616) (ls : List (List UInt8)) (hl : ls.length ≤ 100) :
    Ev (fun k => fresh_Build.f k (B s) (B o) (t : Int) (ls.map B)) (buildE s o t ls) := by
  obtain ⟨K1, e1⟩ := term_OfText.ev [] (by simp)
  obtain ⟨K2, e2⟩ := fresh_signed.ev o (by omega) t ls.length ht (by omega) (rootE ls).1 []
  refine ⟨K1 + K2 + 20, fun k hk => ?_⟩
  obtain ⟨k, rfl⟩ : ∃ m, k = m + 20 := ⟨k - 20, by omega⟩
  show fresh_Build.f (k + 20) _ _ _ _ = _
  have f1 : term_OfText.f (k + 19) (⟨#[]⟩ : ByteArray) = _ := e1 (k + 19) (by omega)
  have f2 : fresh_signed.f (k + 18) (B o) (t : Int) (ls.length : Int) (B (rootE ls).1) (⟨#[]⟩ : ByteArray) = _ := e2 (k + 18) (by omega)
  have j0t : fresh_Build.j0 (k + 20) (B s) (B o) (t : Int) (ls.map B) true = some (badT 1) := by rw [fresh_Build.j0, if_pos rfl]; rfl
  have j2b : ∀ (e : Int) (x : ByteArray), ¬ e = 0 → fresh_Build.j2 (k + 18) (B s) e x (B o) (t : Int) (ls.length : Int) (B (rootE ls).1) (⟨#[]⟩ : ByteArray) = some (badT e) := fun e x h => by rw [fresh_Build.j2, if_neg h]; rfl
  have j1 : fresh_Build.j1 (k + 19) (B s) (rootE ls).2 (B o) (t : Int) (ls.length : Int) (B (rootE ls).1) (⟨#[]⟩ : ByteArray) = some (if (rootE ls).2 = 0 then (if (signE s o t ls.length (rootE ls).1).2 = 0 then (B o, (t : Int), (ls.length : Int), B (rootE ls).1, B (signE s o t ls.length (rootE ls).1).1, 0) else badT (signE s o t ls.length (rootE ls).1).2) else badT (rootE ls).2) := by
    rw [fresh_Build.j1]
    by_cases h0 : (rootE ls).2 = 0
    · rw [if_pos h0, if_pos h0, f2, Option.bind_some, signE]
      by_cases h1 : (signedE o t ls.length (rootE ls).1).2 = 0
      · rw [show (pr (signedE o t ls.length (rootE ls).1)).2 = 0 from h1, fresh_Build.j2, if_pos rfl, show (pr (signedE o t ls.length (rootE ls).1)).1 = B (signedE o t ls.length (rootE ls).1).1 from rfl, term_Sign.of, Option.bind_some, if_pos h1]
        by_cases h2 : (ofL [103] [s, (signedE o t ls.length (rootE ls).1).1]).2 = 0
        · rw [if_pos h2, show (pr (ofL [103] [s, (signedE o t ls.length (rootE ls).1).1])).2 = 0 from h2, if_pos rfl]; rfl
        · rw [if_neg h2, if_neg (show ¬ (pr (ofL [103] [s, (signedE o t ls.length (rootE ls).1).1])).2 = 0 from h2)]; rfl
      · rw [if_neg h1, if_neg h1]
        exact j2b _ _ h1
    · rw [if_neg h0, if_neg h0]
      exact j2b _ _ h0
  unfold buildE
  rw [fresh_Build.f, term_Kind.of, Option.bind_some]
  by_cases hs : right s = false
  · rw [if_pos ((kind_no s).mpr hs), if_neg (fun h => by rw [hs] at h; exact absurd h.1 (by decide))]
    exact j0t
  · rw [if_neg (fun e => hs ((kind_no s).mp e)), name_Right.of _ o (by omega), Option.bind_some]
    have hs : right s = true := by simpa using hs
    cases hN : nameT (B o)
    · rw [if_neg (fun h => absurd h.2 (by decide))]
      exact j0t
    · rw [if_pos ⟨hs, rfl⟩, show (!true) = false from rfl, fresh_Build.j0, if_neg (by decide), f1, Option.bind_some, List.length_map]
      by_cases h0 : ls.length = 0
      · rw [if_neg (by omega)]
        have e : rootE ls = ofTextL [] := by rw [rootE, if_pos h0]
        have e2 : (rootE ls).2 = 0 := by rw [e, text_nil]
        rw [e2, e] at j1
        rw [e2, e]
        exact j1
      · rw [if_pos (by omega), tree_Root.of _ (by omega), Option.bind_some]
        have e : rootE ls = rootP ls := by rw [rootE, if_neg h0]
        rw [e] at j1 ⊢
        exact j1
theorem letterlockref3_Sign.ev (a b : List UInt8) (ha : a.length ≤ 100000000) (hb : b.length ≤ 100000000) : Ev (fun k => letterlockref3_Sign.f k (B a) (B b)) (pr (ofL [103] [a, b])) := by
  unfold letterlockref3_Sign.f
  refine Ev.bind (letterlockref3_two.ev 103 a b ha hb) ?_
  exact Ev.eq (Ev.now _) rfl
theorem signedE_len (o : List UInt8) (t n : Nat) (r : List UInt8) : (signedE o t n r).1.length ≤ 4000 := chain2_len _ _
theorem letterlockref11_Build.evT (s o : List UInt8) (hs1 : s.length ≤ 100000) (ho : o.length ≤ 100000) (t : Nat) (ht : t < 18446744073709551616) (ls : List (List UInt8)) (hl : ls.length ≤ 100) (hx : ∀ x ∈ ls, x.length ≤ 100000000) :
    Ev (fun k => letterlockref11_Build.f k (B s) (B o) (t : Int) (ls.map B)) (buildE s o t ls) := by
  have b1 := rootE_len ls
  have b2 := signedE_len o t ls.length (rootE ls).1
  obtain ⟨K1, e1⟩ := letterlockref3_OfText.ev [] (by simp)
  obtain ⟨K2, e2⟩ := letterlockref11_signed.ev o (by omega) t ls.length ht (by omega) (rootE ls).1 [] (by omega)
  obtain ⟨K3, e3⟩ := letterlockref3_Right.ev s (by omega)
  obtain ⟨K4, e4⟩ := letterlockref1_Right.ev o (by omega)
  obtain ⟨K5, e5⟩ := letterlockref10_Root.ev ls hl hx
  obtain ⟨K6, e6⟩ := letterlockref3_Sign.ev s (signedE o t ls.length (rootE ls).1).1 (by omega) (by omega)
  refine ⟨K1 + K2 + K3 + K4 + K5 + K6 + 20, fun k hk => ?_⟩
  obtain ⟨k, rfl⟩ : ∃ m, k = m + 20 := ⟨k - 20, by omega⟩
  show letterlockref11_Build.f (k + 20) _ _ _ _ = _
  have f1 : letterlockref3_OfText.f (k + 19) (⟨#[]⟩ : ByteArray) = _ := e1 (k + 19) (by omega)
  have f2 : letterlockref11_signed.f (k + 18) (B o) (t : Int) (ls.length : Int) (B (rootE ls).1) (⟨#[]⟩ : ByteArray) = _ := e2 (k + 18) (by omega)
  have f3 : letterlockref3_Right.f (k + 20) (B s) = _ := e3 (k + 20) (by omega)
  have f4 : letterlockref1_Right.f (k + 20) (B o) = _ := e4 (k + 20) (by omega)
  have f5 : letterlockref10_Root.f (k + 19) (ls.map B) = _ := e5 (k + 19) (by omega)
  have f6 : letterlockref3_Sign.f (k + 18) (B s) (B (signedE o t ls.length (rootE ls).1).1) = _ := e6 (k + 18) (by omega)
  have j0t : letterlockref11_Build.j0 (k + 20) (B s) (B o) (t : Int) (ls.map B) true = some (badT 1) := by rw [letterlockref11_Build.j0, if_pos rfl]; rfl
  have j1 : letterlockref11_Build.j1 (k + 19) (B s) (B o) (t : Int) (ls.map B) (B (rootE ls).1) (rootE ls).2 = some (if (rootE ls).2 = 0 then (if (signE s o t ls.length (rootE ls).1).2 = 0 then (B o, (t : Int), (ls.length : Int), B (rootE ls).1, B (signE s o t ls.length (rootE ls).1).1, 0) else badT (signE s o t ls.length (rootE ls).1).2) else badT (rootE ls).2) := by
    rw [letterlockref11_Build.j1, List.length_map]
    by_cases h0 : (rootE ls).2 = 0
    · rw [if_pos h0, if_pos h0, f2, Option.bind_some, signE]
      by_cases h1 : (signedE o t ls.length (rootE ls).1).2 = 0
      · rw [show (pr (signedE o t ls.length (rootE ls).1)).2 = 0 from h1, if_pos rfl, show (pr (signedE o t ls.length (rootE ls).1)).1 = B (signedE o t ls.length (rootE ls).1).1 from rfl, f6, Option.bind_some, if_pos h1]
        by_cases h2 : (ofL [103] [s, (signedE o t ls.length (rootE ls).1).1]).2 = 0
        · rw [if_pos h2, show (pr (ofL [103] [s, (signedE o t ls.length (rootE ls).1).1])).2 = 0 from h2, if_pos rfl]; rfl
        · rw [if_neg h2, if_neg (show ¬ (pr (ofL [103] [s, (signedE o t ls.length (rootE ls).1).1])).2 = 0 from h2)]; rfl
      · rw [if_neg h1, if_neg h1, if_neg (show ¬ (pr (signedE o t ls.length (rootE ls).1)).2 = 0 from h1)]; rfl
    · rw [if_neg h0, if_neg h0]; rfl
  unfold buildE
  rw [letterlockref11_Build.f, f3, Option.bind_some]
  cases hs : right s
  · rw [if_neg (by decide), if_neg (fun h => absurd h.1 (by decide))]
    exact j0t
  · rw [if_pos rfl, f4, Option.bind_some]
    cases hN : nameT (B o)
    · rw [if_neg (fun h => absurd h.2 (by decide))]
      exact j0t
    · rw [if_pos ⟨rfl, rfl⟩, show (!true) = false from rfl, letterlockref11_Build.j0, if_neg (by decide), f1, Option.bind_some, List.length_map]
      by_cases h0 : ls.length = 0
      · rw [if_neg (by omega)]
        have e : rootE ls = ofTextL [] := by rw [rootE, if_pos h0]
        rw [e] at j1 ⊢
        exact j1
      · rw [if_pos (by omega), f5, Option.bind_some]
        have e : rootE ls = rootP ls := by rw [rootE, if_neg h0]
        rw [e] at j1 ⊢
        exact j1
end Go.Proofs.YtodiffgpefidoaaGreatDoor.P
namespace Go.Proofs.YtodiffgpefidoaaGreatDoor.P
open Go.RowKit Go.Proofs.YtodiffgpefidoaaGreatDoorW.PrintWords Go.Proofs.YtodiffgpefidoaaGreatDoorW.PrintLast Go.Proofs.YtodiffgpefidoaaGreatDoorW.PrintMore
set_option linter.unusedVariables false
set_option linter.unusedSimpArgs false
def putE (o : List UInt8) (t : Nat) (n : Int) (r g : List UInt8) : ByteArray × Int := if rightN o n r g = true then (B (rowL [o, encN t, encN n.toNat, r, g]), 0) else (⟨#[]⟩, 1)
theorem rightN_num {o r g : List UInt8} {n : Int} (h : rightN o n r g = true) : n = ((n.toNat : Nat) : Int) ∧ n.toNat ≤ 8 := by
  unfold rightN at h
  simp only [Bool.and_eq_true, decide_eq_true_eq] at h
  omega
theorem heavy5 {o r g : List UInt8} {t n : Nat} (ho : o.length ≤ 1000000) (lr : r.length ≤ 1000000) (lg : g.length ≤ 1000000) (ht : t < 18446744073709551616) (hn : n ≤ 8) : heavy [o, encN t, encN n, r, g] ≤ 1000000000 := by
  have l1 := encN_len t ht
  have l2 := encN_len n (by omega)
  simp [heavy]
  omega
theorem fresh_Put.evT (o : List UInt8) (t : Nat) (n : Int) (r g : List UInt8) (ho : o.length ≤ 1000000) (ht : t < 18446744073709551616) (lr : r.length ≤ 1000000) (lg : g.length ≤ 1000000) :
    Ev (fun k => fresh_Put.f k (B o) (t : Int) n (B r) (B g)) (putE o t n r g) := by
  unfold putE
  cases hR : rightN o n r g
  · refine ⟨0, fun k hk => ?_⟩
    show fresh_Put.f k _ _ _ _ _ = _
    rw [fresh_Put.f, fresh_Right.of _ o (by omega), Option.bind_some, hR, if_neg (by decide), if_neg (by decide)]
  · obtain ⟨en, e8⟩ := rightN_num hR
    obtain ⟨m, hm⟩ : ∃ m, m = n.toNat := ⟨_, rfl⟩
    rw [← hm] at en e8 ⊢
    obtain ⟨K1, e1⟩ := wire_Put.ev t ht
    obtain ⟨K2, e2⟩ := wire_Put.ev m (by omega)
    obtain ⟨K3, e3⟩ := wire_PutAll.ev [o, encN t, encN m, r, g] (heavy5 ho lr lg ht e8)
    refine ⟨K1 + K2 + K3, fun k hk => ?_⟩
    have g1 : wire_Put.f k (t : Int) = _ := e1 k (by omega)
    have g2 : wire_Put.f k (m : Int) = _ := e2 k (by omega)
    have g3 : wire_PutAll.f k [B o, B (encN t), B (encN m), B r, B g] = _ := e3 k (by omega)
    show fresh_Put.f k _ _ _ _ _ = _
    rw [fresh_Put.f, fresh_Right.of _ o (by omega), Option.bind_some, hR, if_pos rfl, g1, Option.bind_some, en, wu64 _ (by omega) (by omega), g2, Option.bind_some, g3, Option.bind_some, if_pos rfl]
theorem letterlockref11_Put.evT (o : List UInt8) (t : Nat) (n : Int) (r g : List UInt8) (ho : o.length ≤ 1000000) (ht : t < 18446744073709551616) (lr : r.length ≤ 1000000) (lg : g.length ≤ 1000000) :
    Ev (fun k => letterlockref11_Put.f k (B o) (t : Int) n (B r) (B g)) (putE o t n r g) := by
  obtain ⟨K0, e0⟩ := letterlockref11_Right.ev o (by omega) t n r g (by omega) (by omega)
  unfold putE
  cases hR : rightN o n r g
  · refine ⟨K0, fun k hk => ?_⟩
    have g0 : letterlockref11_Right.f k (B o) (t : Int) n (B r) (B g) = _ := e0 k (by omega)
    show letterlockref11_Put.f k _ _ _ _ _ = _
    rw [letterlockref11_Put.f, g0, Option.bind_some, hR, if_neg (by decide), if_neg (by decide)]
  · obtain ⟨en, e8⟩ := rightN_num hR
    obtain ⟨m, hm⟩ : ∃ m, m = n.toNat := ⟨_, rfl⟩
    rw [← hm] at en e8 ⊢
    obtain ⟨K1, e1⟩ := letterlockref2_Put.ev t ht
    obtain ⟨K2, e2⟩ := letterlockref2_Put.ev m (by omega)
    obtain ⟨K3, e3⟩ := letterlockref2_PutAll.ev [o, encN t, encN m, r, g] (heavy5 ho lr lg ht e8)
    refine ⟨K0 + K1 + K2 + K3, fun k hk => ?_⟩
    have g0 : letterlockref11_Right.f k (B o) (t : Int) n (B r) (B g) = _ := e0 k (by omega)
    have g1 : letterlockref2_Put.f k (t : Int) = _ := e1 k (by omega)
    have g2 : letterlockref2_Put.f k (m : Int) = _ := e2 k (by omega)
    have g3 : letterlockref2_PutAll.f k [B o, B (encN t), B (encN m), B r, B g] = _ := e3 k (by omega)
    show letterlockref11_Put.f k _ _ _ _ _ = _
    rw [letterlockref11_Put.f, g0, Option.bind_some, hR, if_pos rfl, g1, Option.bind_some, en, wu64 _ (by omega) (by omega), g2, Option.bind_some, g3, Option.bind_some, if_pos rfl]
def numE (t : List UInt8) : Nat × Bool := match takeL t with | none => (0, false) | some (n, r) => (n, r == [])
theorem fresh_number.of (t : List UInt8) : fresh_number.f (B t) = some (((numE t).1 : Int), (numE t).2) := by
  rw [fresh_number.f, wire_Take.of, numE]
  cases takeL t with
  | none => rfl
  | some p =>
    obtain ⟨n, r⟩ := p
    simp only [Option.bind_some, if_true, toList_B]
theorem numE_lt (t : List UInt8) : (numE t).1 < 18446744073709551616 := by
  unfold numE
  cases h : takeL t with
  | none => simp
  | some p => exact (takeL_some t p.1 p.2 h).2
def stampE (l : List (List UInt8)) : ByteArray × Int × Int × ByteArray × ByteArray × Int :=
  if (numE (l.getD 1 [])).2 = true ∧ (numE (l.getD 2 [])).2 = true ∧ rightN (l.getD 0 []) ((numE (l.getD 2 [])).1 : Int) (l.getD 3 []) (l.getD 4 []) = true then (B (l.getD 0 []), ((numE (l.getD 1 [])).1 : Int), ((numE (l.getD 2 [])).1 : Int), B (l.getD 3 []), B (l.getD 4 []), 0) else badT 2
def takeT (b : List UInt8) : ByteArray × Int × Int × ByteArray × ByteArray × Int := if (takeAllL b 5 4000).2 = 0 ∧ (takeAllL b 5 4000).1.length = 5 then stampE (takeAllL b 5 4000).1 else badT 2
theorem mn9 (n : Nat) (h : n < 18446744073709551616) : wrap64 (mn (n : Int) 9) = ((min n 9 : Nat) : Int) := by
  have e : mn (n : Int) 9 = ((min n 9 : Nat) : Int) := by unfold mn; split <;> omega
  rw [e, w64 _ (by omega) (by omega)]
theorem rightN_many (o r g : List UInt8) (n : Nat) (h : 8 < n) : rightN o (n : Int) r g = false := by
  unfold rightN
  rw [decide_eq_false (by omega), Bool.false_and, Bool.and_false]
theorem rowLen : ∀ (l : List (List UInt8)), ∀ x ∈ l, x.length ≤ (l.map textL).flatten.length
  | y :: l, x, hx => by
    rw [List.map_cons, List.flatten_cons, List.length_append]
    rcases List.mem_cons.mp hx with rfl | h
    · unfold textL; rw [List.length_append]; omega
    · have := rowLen l x h; omega
theorem take_mem {b : List UInt8} (h0 : (takeAllL b 5 4000).2 = 0) : ∀ x ∈ (takeAllL b 5 4000).1, x.length ≤ b.length := by
  intro x hx
  have h1 := takeAllL_some b 5 4000 h0
  have h2 := rowLen _ x hx
  rw [← h1]
  unfold rowL
  rw [List.length_append]
  omega
theorem getD_mem {α : Type} (l : List α) (i : Nat) (d : α) (h : i < l.length) : l.getD i d ∈ l := by
  rw [List.getD_eq_getElem?_getD, List.getElem?_eq_getElem h]
  exact List.getElem_mem h
theorem fresh_Take.evT (b : List UInt8) (hb : b.length ≤ 1000000) : Ev (fun k => fresh_Take.f k (B b)) (takeT b) := by
  obtain ⟨K, e⟩ := wire_TakeAll.ev b 5 4000 hb (by decide) (by decide) (by decide) (by decide)
  refine ⟨K + 5, fun k hk => ?_⟩
  obtain ⟨k, rfl⟩ : ∃ m, k = m + 2 := ⟨k - 2, by omega⟩
  show fresh_Take.f (k + 2) _ = _
  have g : wire_TakeAll.f (k + 2) (B b) 5 4000 = _ := e (k + 2) (by omega)
  rw [fresh_Take.f, g, Option.bind_some, ta, takeT]
  simp only [List.length_map]
  have bad : ∀ l, fresh_Take.j0 (k + 2) l true = some (badT 2) := fun l => by rw [fresh_Take.j0, if_pos rfl]; rfl
  by_cases h0 : (takeAllL b 5 4000).2 = 0
  · rw [if_pos h0]
    by_cases h5 : (takeAllL b 5 4000).1.length = 5
    · rw [if_pos ⟨h0, h5⟩, h5, show ((((5 : Nat) : Int)) != 5) = false from rfl]
      have hm := take_mem h0
      obtain ⟨l, hl⟩ : ∃ l, l = (takeAllL b 5 4000).1 := ⟨_, rfl⟩
      rw [← hl] at h5 hm ⊢
      have hlen : (l.map B).length = 5 := by rw [List.length_map]; exact h5
      have hz : (l.getD 0 []).length ≤ 1000000000 := by
        have := hm (l.getD 0 []) (getD_mem l 0 [] (by omega))
        omega
      have R := fresh_Right.of (k + 1) (l.getD 0 []) hz ((numE (l.getD 1 [])).1 : Int) ((min (numE (l.getD 2 [])).1 9 : Nat) : Int) (l.getD 3 []) (l.getD 4 [])
      have r0 : rdOf ByteArray.empty (l.map B) 0 = B (l.getD 0 []) := rdOf_B l 0
      have r1 : rdOf ByteArray.empty (l.map B) 1 = B (l.getD 1 []) := rdOf_B l 1
      have r2 : rdOf ByteArray.empty (l.map B) 2 = B (l.getD 2 []) := rdOf_B l 2
      have r3 : rdOf ByteArray.empty (l.map B) 3 = B (l.getD 3 []) := rdOf_B l 3
      have r4 : rdOf ByteArray.empty (l.map B) 4 = B (l.getD 4 []) := rdOf_B l 4
      rw [fresh_Take.j0, if_neg (by decide), if_pos (by omega), r1, fresh_number.of, Option.bind_some, if_pos (by omega), r2, fresh_number.of, Option.bind_some, if_pos (by omega), if_pos (by omega), if_pos (by omega), r0, r3, r4, mn9 _ (numE_lt _), stampE]
      cases hA : (numE (l.getD 1 [])).2
      · rw [if_neg (by decide), if_neg (fun h => absurd h.1 (by decide)), fresh_Take.j1, if_pos rfl]; rfl
      · rw [if_pos rfl]
        cases hB : (numE (l.getD 2 [])).2
        · rw [if_neg (by decide), if_neg (fun h => absurd h.2.1 (by decide)), fresh_Take.j1, if_pos rfl]; rfl
        · rw [if_pos rfl, R, Option.bind_some, fresh_Take.j1]
          by_cases h8 : 8 < (numE (l.getD 2 [])).1
          · rw [rightN_many _ _ _ _ (show 8 < min (numE (l.getD 2 [])).1 9 by omega), rightN_many _ _ _ _ h8, if_pos (show (!false) = true from rfl), if_neg (fun h => absurd h.2.2 (by decide))]; rfl
          · rw [show min (numE (l.getD 2 [])).1 9 = (numE (l.getD 2 [])).1 from by omega]
            cases hC : rightN (l.getD 0 []) ((numE (l.getD 2 [])).1 : Int) (l.getD 3 []) (l.getD 4 [])
            · rw [if_pos (show (!false) = true from rfl), if_neg (fun h => absurd h.2.2 (by decide))]; rfl
            · rw [if_neg (by decide), if_pos ⟨rfl, rfl, rfl⟩]
    · rw [if_neg (fun h => h5 h.2), show ((((takeAllL b 5 4000).1.length : Nat) : Int) != 5) = true from bne_iff_ne.mpr (by omega)]
      exact bad _
  · rw [if_neg h0, if_neg (fun h => h0 h.1)]
    exact bad _
theorem ref2_num (t : List UInt8) (ht : t.length ≤ 1000000000) : ∃ p : Int × ByteArray × Int, Ev (fun k => letterlockref2_Take.f k (B t)) p ∧ p.1 = ((numE t).1 : Int) ∧ ((p.2.2 = 0 ∧ p.2.1.toList = ([] : List UInt8)) ↔ (numE t).2 = true) := by
  refine ⟨_, letterlockref2_Take.ev t ht, ?_⟩
  unfold numE
  cases takeL t with
  | none => exact ⟨rfl, by simp⟩
  | some p =>
    obtain ⟨n, r⟩ := p
    refine ⟨rfl, ?_⟩
    simp only [toList_B, true_and, beq_iff_eq]
theorem letterlockref11_Take.evT (b : List UInt8) (hb : b.length ≤ 1000000) : Ev (fun k => letterlockref11_Take.f k (B b)) (takeT b) := by
  obtain ⟨K, e⟩ := letterlockref2_TakeAll.ev b 5 4000 hb (by decide) (by decide) (by decide) (by decide)
  have bad : ∀ k l, letterlockref11_Take.j0 (k + 1) l true = some (badT 2) := fun k l => by rw [letterlockref11_Take.j0, if_pos rfl]; rfl
  by_cases h0 : (takeAllL b 5 4000).2 = 0
  · by_cases h5 : (takeAllL b 5 4000).1.length = 5
    · have hm := take_mem h0
      rw [takeT, if_pos ⟨h0, h5⟩]
      obtain ⟨l, hl⟩ : ∃ l, l = (takeAllL b 5 4000).1 := ⟨_, rfl⟩
      rw [← hl] at h5 hm ⊢
      have hlen : (l.map B).length = 5 := by rw [List.length_map]; exact h5
      have hz : ∀ i, i < 5 → (l.getD i []).length ≤ 1000000000 := fun i hi => by
        have := hm (l.getD i []) (getD_mem l i [] (by omega))
        omega
      obtain ⟨p1, ⟨K1, e1⟩, v1, w1⟩ := ref2_num (l.getD 1 []) (hz 1 (by decide))
      obtain ⟨p2, ⟨K2, e2⟩, v2, w2⟩ := ref2_num (l.getD 2 []) (hz 2 (by decide))
      obtain ⟨K3, e3⟩ := letterlockref11_Right.ev (l.getD 0 []) (hz 0 (by decide)) ((numE (l.getD 1 [])).1 : Int) ((numE (l.getD 2 [])).1 : Int) (l.getD 3 []) (l.getD 4 []) (hz 3 (by decide)) (hz 4 (by decide))
      have lt2 := numE_lt (l.getD 2 [])
      refine ⟨K + K1 + K2 + K3 + 5, fun k hk => ?_⟩
      obtain ⟨k, rfl⟩ : ∃ m, k = m + 2 := ⟨k - 2, by omega⟩
      have g : letterlockref2_TakeAll.f (k + 2) (B b) 5 4000 = _ := e (k + 2) (by omega)
      have g1 : letterlockref2_Take.f (k + 1) (B (l.getD 1 [])) = _ := e1 (k + 1) (by omega)
      have g2 : letterlockref2_Take.f (k + 1) (B (l.getD 2 [])) = _ := e2 (k + 1) (by omega)
      have R : letterlockref11_Right.f (k + 1) (B (l.getD 0 [])) ((numE (l.getD 1 [])).1 : Int) ((numE (l.getD 2 [])).1 : Int) (B (l.getD 3 [])) (B (l.getD 4 [])) = _ := e3 (k + 1) (by omega)
      show letterlockref11_Take.f (k + 2) _ = _
      have r0 : rdOf ByteArray.empty (l.map B) 0 = B (l.getD 0 []) := rdOf_B l 0
      have r1 : rdOf ByteArray.empty (l.map B) 1 = B (l.getD 1 []) := rdOf_B l 1
      have r2 : rdOf ByteArray.empty (l.map B) 2 = B (l.getD 2 []) := rdOf_B l 2
      have r3 : rdOf ByteArray.empty (l.map B) 3 = B (l.getD 3 []) := rdOf_B l 3
      have r4 : rdOf ByteArray.empty (l.map B) 4 = B (l.getD 4 []) := rdOf_B l 4
      rw [letterlockref11_Take.f, g, Option.bind_some, show (ta (takeAllL b 5 4000)).2 = 0 from h0, if_pos rfl, show (ta (takeAllL b 5 4000)).1 = l.map B from by rw [hl]; rfl, hlen, show ((((5 : Nat) : Int)) != 5) = false from rfl]
      rw [letterlockref11_Take.j0, if_neg (by decide), if_pos (by omega), r1, g1, Option.bind_some, if_pos (by omega), r2, g2, Option.bind_some, if_pos (by omega), if_pos (by omega), if_pos (by omega), r0, r3, r4, v1, v2, stampE]
      have jt : ∀ (a : ByteArray) (c d : Int) (x y : ByteArray), letterlockref11_Take.j1 (k + 1) true a c d x y = some (badT 2) := fun a c d x y => by rw [letterlockref11_Take.j1, if_pos rfl]; rfl
      by_cases a1 : p1.2.2 = 0
      · rw [if_pos a1]
        by_cases a2 : p1.2.1.toList = ([] : List UInt8)
        · rw [if_pos a2]
          have hA := w1.mp ⟨a1, a2⟩
          by_cases a3 : p2.2.2 = 0
          · rw [if_pos a3]
            by_cases a4 : p2.2.1.toList = ([] : List UInt8)
            · have hB := w2.mp ⟨a3, a4⟩
              rw [if_pos a4]
              by_cases h8 : 8 < (numE (l.getD 2 [])).1
              · rw [if_pos (by omega), rightN_many _ _ _ _ h8, if_neg (fun h => absurd h.2.2 (by decide))]
                exact jt _ _ _ _ _
              · rw [if_neg (by omega), w64 _ (by omega) (by omega), R, Option.bind_some, letterlockref11_Take.j1]
                cases hC : rightN (l.getD 0 []) ((numE (l.getD 2 [])).1 : Int) (l.getD 3 []) (l.getD 4 [])
                · rw [if_pos (show (!false) = true from rfl), if_neg (fun h => absurd h.2.2 (by decide))]; rfl
                · rw [if_neg (by decide), if_pos ⟨hA, hB, rfl⟩]
            · rw [if_neg a4, if_neg (fun h => a4 (w2.mpr h.2.1).2)]
              exact jt _ _ _ _ _
          · rw [if_neg a3, if_neg (fun h => a3 (w2.mpr h.2.1).1)]
            exact jt _ _ _ _ _
        · rw [if_neg a2, if_neg (fun h => a2 (w1.mpr h.1).2)]
          exact jt _ _ _ _ _
      · rw [if_neg a1, if_neg (fun h => a1 (w1.mpr h.1).1)]
        exact jt _ _ _ _ _
    · refine ⟨K + 1, fun k hk => ?_⟩
      obtain ⟨k, rfl⟩ : ∃ m, k = m + 1 := ⟨k - 1, by omega⟩
      have g : letterlockref2_TakeAll.f (k + 1) (B b) 5 4000 = _ := e (k + 1) (by omega)
      show letterlockref11_Take.f (k + 1) _ = _
      rw [letterlockref11_Take.f, g, Option.bind_some, ta]
      simp only [List.length_map]
      rw [if_pos h0, takeT, if_neg (fun h => h5 h.2), show ((((takeAllL b 5 4000).1.length : Nat) : Int) != 5) = true from bne_iff_ne.mpr (by omega)]
      exact bad _ _
  · refine ⟨K + 1, fun k hk => ?_⟩
    obtain ⟨k, rfl⟩ : ∃ m, k = m + 1 := ⟨k - 1, by omega⟩
    have g : letterlockref2_TakeAll.f (k + 1) (B b) 5 4000 = _ := e (k + 1) (by omega)
    show letterlockref11_Take.f (k + 1) _ = _
    rw [letterlockref11_Take.f, g, Option.bind_some, ta]
    simp only [List.length_map]
    rw [if_neg h0, takeT, if_neg (fun h => h0 h.1)]
    exact bad _ _
end Go.Proofs.YtodiffgpefidoaaGreatDoor.P
namespace Go.Proofs.YtodiffgpefidoaaGreatDoor.P
open Go.RowKit Go.Proofs.YtodiffgpefidoaaGreatDoorW.PrintWords Go.Proofs.YtodiffgpefidoaaGreatDoorW.PrintLast Go.Proofs.YtodiffgpefidoaaGreatDoorW.PrintMore
set_option linter.unusedVariables false
set_option linter.unusedSimpArgs false
def checkE (o : List UInt8) (t : Nat) (n : Int) (r g p w : List UInt8) (now bound : Nat) : Int :=
  if rightN o n r g = true ∧ kindL p = 117 then (if (signedE o t n.toNat r).2 = 0 ∧ verifyL p (signedE o t n.toNat r).1 g = 0 then (if o = w then (if now < t ∨ bound < now - t then 8 else 0) else 3) else 7) else 1
theorem kind_not (p : List UInt8) (n : Nat) (hn : n < 256) : ((((kindL p).toNat : Nat) : Int) != (n : Int)) = !decide (kindL p = UInt8.ofNat n) := by
  rw [← kind_test p n hn]; rfl
theorem late_eq (t now bound : Nat) (ht : t < 18446744073709551616) (h1 : now < 18446744073709551616) (c d : Option Int) : (if (t : Int) > (now : Int) then c else if IntKind.u64.wrap ((now : Int) - (t : Int)) > (bound : Int) then c else d) = if now < t ∨ bound < now - t then c else d := by
  by_cases hn1 : now < t
  · rw [if_pos (by omega), if_pos (Or.inl hn1)]
  · have hx : IntKind.u64.wrap ((now : Int) - (t : Int)) = ((now - t : Nat) : Int) := by rw [wu64 _ (by omega) (by omega)]; omega
    rw [if_neg (by omega), hx]
    clear hx
    by_cases hb : bound < now - t
    · rw [if_pos (by omega), if_pos (Or.inr hb)]
    · rw [if_neg (by omega), if_neg (fun h => h.elim hn1 hb)]
theorem fresh_Check.evT (o : List UInt8) (ho : o.length ≤ 1000000) (t : Nat) (n : Int) (ht : t < 18446744073709551616) (r g p w : List UInt8) (now bound : Nat) (h1 : now < 18446744073709551616) (h2 : bound < 18446744073709551616) :
    Ev (fun k => fresh_Check.f k (B o) (t : Int) n (B r) (B g) (B p) (B w) (now : Int) (bound : Int)) (checkE o t n r g p w now bound) := by
  unfold checkE
  cases hR : rightN o n r g
  · refine ⟨1, fun k hk => ?_⟩
    obtain ⟨k, rfl⟩ : ∃ m, k = m + 1 := ⟨k - 1, by omega⟩
    show fresh_Check.f (k + 1) _ _ _ _ _ _ _ _ _ = _
    rw [fresh_Check.f, fresh_Right.of _ o (by omega), Option.bind_some, hR, if_neg (by decide), fresh_Check.j0, if_pos rfl, if_neg (fun h => absurd h.1 (by decide))]
  · obtain ⟨en, e8⟩ := rightN_num hR
    obtain ⟨m, hm⟩ : ∃ m, m = n.toNat := ⟨_, rfl⟩
    rw [← hm] at en e8 ⊢
    obtain ⟨K, e⟩ := fresh_signed.ev o (by omega) t m ht (by omega) r g
    refine ⟨K + 10, fun k hk => ?_⟩
    obtain ⟨k, rfl⟩ : ∃ m, k = m + 10 := ⟨k - 10, by omega⟩
    show fresh_Check.f (k + 10) _ _ _ _ _ _ _ _ _ = _
    have f : fresh_signed.f (k + 9) (B o) (t : Int) n (B r) (B g) = some (pr (signedE o t m r)) := by rw [en]; exact e (k + 9) (by omega)
    have j1t : fresh_Check.j1 (k + 9) (B w) (now : Int) (bound : Int) true (B o) (t : Int) n (B r) (B g) = some 7 := by rw [fresh_Check.j1, if_pos rfl]
    rw [fresh_Check.f, fresh_Right.of _ o (by omega), Option.bind_some, hR, if_pos rfl, term_Kind.of, Option.bind_some, show ((((kindL p).toNat : Nat) : Int) != 117) = _ from kind_not p 117 (by decide), fresh_Check.j0]
    by_cases hp : kindL p = UInt8.ofNat 117
    · rw [decide_eq_true hp, if_neg (by decide), if_pos ⟨rfl, hp⟩, f, Option.bind_some, show (pr (signedE o t m r)).2 = (signedE o t m r).2 from rfl]
      by_cases hs : (signedE o t m r).2 = 0
      · rw [if_pos hs, show term_Verify.f (B p) (pr (signedE o t m r)).1 (B g) = some (verifyL p (signedE o t m r).1 g) from rfl, Option.bind_some]
        by_cases hv : verifyL p (signedE o t m r).1 g = 0
        · rw [if_pos ⟨hs, hv⟩, hv, show ((0 : Int) != 0) = false from rfl, fresh_Check.j1, if_neg (by decide), toList_B, toList_B]
          by_cases hw : o = w
          · rw [if_pos hw, if_pos hw, late_eq t now bound ht h1]
            split <;> rfl
          · rw [if_neg hw, if_neg hw]
        · rw [if_neg (fun h => hv h.2), bne_iff_ne.mpr hv]
          exact j1t
      · rw [if_neg hs, if_neg (fun h => hs h.1)]
        exact j1t
    · rw [decide_eq_false hp, if_pos (show (!false) = true from rfl), if_neg (fun h => hp h.2)]
theorem letterlockref11_Check.evT (o : List UInt8) (ho : o.length ≤ 1000000) (t : Nat) (n : Int) (ht : t < 18446744073709551616) (r g p w : List UInt8) (lr : r.length ≤ 1000000) (lg : g.length ≤ 1000000) (lp : p.length ≤ 1000000) (now bound : Nat) (h1 : now < 18446744073709551616) (h2 : bound < 18446744073709551616) :
    Ev (fun k => letterlockref11_Check.f k (B o) (t : Int) n (B r) (B g) (B p) (B w) (now : Int) (bound : Int)) (checkE o t n r g p w now bound) := by
  obtain ⟨K0, e0⟩ := letterlockref11_Right.ev o (by omega) t n r g (by omega) (by omega)
  unfold checkE
  cases hR : rightN o n r g
  · refine ⟨K0 + 1, fun k hk => ?_⟩
    obtain ⟨k, rfl⟩ : ∃ m, k = m + 1 := ⟨k - 1, by omega⟩
    have g0 : letterlockref11_Right.f (k + 1) (B o) (t : Int) n (B r) (B g) = _ := e0 (k + 1) (by omega)
    show letterlockref11_Check.f (k + 1) _ _ _ _ _ _ _ _ _ = _
    rw [letterlockref11_Check.f, g0, Option.bind_some, hR, if_neg (by decide), letterlockref11_Check.j0, if_pos rfl, if_neg (fun h => absurd h.1 (by decide))]
  · obtain ⟨en, e8⟩ := rightN_num hR
    obtain ⟨m, hm⟩ : ∃ m, m = n.toNat := ⟨_, rfl⟩
    rw [← hm] at en e8 ⊢
    have ls := signedE_len o t m r
    obtain ⟨K, e⟩ := letterlockref11_signed.ev o (by omega) t m ht (by omega) r g (by omega)
    obtain ⟨K1, e1⟩ := letterlockref3_Kind.ev p (by omega)
    obtain ⟨K2, e2⟩ := letterlockref3_Verify.ev p (signedE o t m r).1 g (by omega) (by omega) (by omega)
    refine ⟨K0 + K + K1 + K2 + 10, fun k hk => ?_⟩
    obtain ⟨k, rfl⟩ : ∃ m, k = m + 10 := ⟨k - 10, by omega⟩
    show letterlockref11_Check.f (k + 10) _ _ _ _ _ _ _ _ _ = _
    have g0 : letterlockref11_Right.f (k + 10) (B o) (t : Int) n (B r) (B g) = _ := e0 (k + 10) (by omega)
    have g1 : letterlockref3_Kind.f (k + 10) (B p) = _ := e1 (k + 10) (by omega)
    have g2 : letterlockref3_Verify.f (k + 9) (B p) (B (signedE o t m r).1) (B g) = _ := e2 (k + 9) (by omega)
    have f : letterlockref11_signed.f (k + 9) (B o) (t : Int) n (B r) (B g) = some (pr (signedE o t m r)) := by rw [en]; exact e (k + 9) (by omega)
    have j1t : letterlockref11_Check.j1 (k + 9) (B w) (now : Int) (bound : Int) true (B o) (t : Int) n (B r) (B g) = some 7 := by rw [letterlockref11_Check.j1, if_pos rfl]
    rw [letterlockref11_Check.f, g0, Option.bind_some, hR, if_pos rfl, g1, Option.bind_some, show ((((kindL p).toNat : Nat) : Int) != 117) = _ from kind_not p 117 (by decide), letterlockref11_Check.j0]
    by_cases hp : kindL p = UInt8.ofNat 117
    · rw [decide_eq_true hp, if_neg (by decide), if_pos ⟨rfl, hp⟩, f, Option.bind_some, show (pr (signedE o t m r)).2 = (signedE o t m r).2 from rfl]
      by_cases hs : (signedE o t m r).2 = 0
      · rw [if_pos hs, show (pr (signedE o t m r)).1 = B (signedE o t m r).1 from rfl, g2, Option.bind_some]
        by_cases hv : verifyL p (signedE o t m r).1 g = 0
        · rw [if_pos ⟨hs, hv⟩, hv, show ((0 : Int) != 0) = false from rfl, letterlockref11_Check.j1, if_neg (by decide), toList_B, toList_B]
          by_cases hw : o = w
          · rw [if_pos hw, if_pos hw, late_eq t now bound ht h1]
            split <;> rfl
          · rw [if_neg hw, if_neg hw]
        · rw [if_neg (fun h => hv h.2), bne_iff_ne.mpr hv]
          exact j1t
      · rw [if_neg hs, if_neg (fun h => hs h.1)]
        exact j1t
    · rw [decide_eq_false hp, if_pos (show (!false) = true from rfl), if_neg (fun h => hp h.2)]
def coverE (o : List UInt8) (n : Int) (r g : List UInt8) (a : Int) (x : List UInt8) (ps : List (List UInt8)) : Bool := rightN o n r g && verifyT r n a x ps
theorem fresh_Covers.evT (o : List UInt8) (ho : o.length ≤ 1000000) (t n : Int) (r g : List UInt8) (a : Int) (x : List UInt8) (ps : List (List UInt8)) :
    Ev (fun k => fresh_Covers.f k (B o) t n (B r) (B g) a (B x) (ps.map B)) (coverE o n r g a x ps) := by
  refine ⟨0, fun k hk => ?_⟩
  show fresh_Covers.f k _ _ _ _ _ _ _ _ = _
  unfold coverE
  rw [fresh_Covers.f, fresh_Right.of _ o (by omega), Option.bind_some]
  cases rightN o n r g
  · rfl
  · rw [if_pos rfl, tree_Verify.f, S_B, S_B, List.map_map, show (S ∘ B) = id from by funext z; exact S_B z, List.map_id, Option.bind_some, Bool.true_and]
theorem letterlockref11_Covers.evT (o : List UInt8) (ho : o.length ≤ 1000000) (t n : Int) (r g : List UInt8) (lr : r.length ≤ 1000000) (lg : g.length ≤ 1000000) (a : Int) (x : List UInt8) (lx : x.length ≤ 1000000) (ps : List (List UInt8)) (hp : ps.length ≤ 100) (hx : ∀ y ∈ ps, y.length ≤ 100000000) :
    Ev (fun k => letterlockref11_Covers.f k (B o) t n (B r) (B g) a (B x) (ps.map B)) (coverE o n r g a x ps) := by
  obtain ⟨K0, e0⟩ := letterlockref11_Right.ev o (by omega) t n r g (by omega) (by omega)
  obtain ⟨K1, e1⟩ := letterlockref10_Verify.ev r x n a ps (by omega) (by omega) hp hx
  refine ⟨K0 + K1, fun k hk => ?_⟩
  have g0 : letterlockref11_Right.f k (B o) t n (B r) (B g) = _ := e0 k (by omega)
  have g1 : letterlockref10_Verify.f k (B r) n a (B x) (ps.map B) = _ := e1 k (by omega)
  show letterlockref11_Covers.f k _ _ _ _ _ _ _ _ = _
  unfold coverE
  rw [letterlockref11_Covers.f, g0, Option.bind_some]
  cases rightN o n r g
  · rfl
  · rw [if_pos rfl, g1, Option.bind_some, Bool.true_and]
def annaL : List UInt8 := [97, 110, 110, 97]
def annaG : List UInt8 := 103 :: (secretL annaL ++ (signedE annaL 5 0 [116, 0]).1)
theorem anna_take : takeT [] = badT 2 := by
  unfold takeT
  rw [if_neg (fun h => absurd h.1 (by decide +kernel))]
theorem anna_sign : signE (secretL annaL) annaL 5 0 [116, 0] = (annaG, 0) := by decide +kernel
theorem anna_build : buildE (secretL annaL) annaL 5 [] = (B annaL, 5, 0, B [116, 0], B annaG, 0) := by
  unfold buildE
  have e : rootE [] = ([116, 0], 0) := by decide +kernel
  rw [if_pos ⟨by decide +kernel, by decide +kernel⟩, e, if_pos rfl]
  simp only [List.length_nil, anna_sign, if_true]
  rfl
theorem anna_check : checkE annaL 5 0 [116, 0] annaG (publicL annaL) annaL 6 1 = 0 := by decide +kernel
theorem letterlocklaw11_shown.ev : Ev (fun k => letterlocklaw11_shown.f k) true := by
  obtain ⟨K1, e1⟩ := fresh_Take.evT [] (by decide)
  obtain ⟨K2, e2⟩ := letterlocklaw11_secretOf.ev annaL (by decide)
  obtain ⟨K3, e3⟩ := fresh_Build.evT (secretL annaL) annaL (by decide) 5 (by decide) [] (by decide)
  obtain ⟨K4, e4⟩ := letterlocklaw11_publicOf.ev annaL (by decide)
  obtain ⟨K5, e5⟩ := fresh_Check.evT annaL (by decide) 5 0 (by decide) [116, 0] annaG (publicL annaL) annaL 6 1 (by decide) (by decide)
  rw [anna_take] at e1
  rw [anna_build] at e3
  rw [anna_check] at e5
  refine ⟨K1 + K2 + K3 + K4 + K5, fun k hk => ?_⟩
  have g1 : fresh_Take.f k (⟨#[]⟩ : ByteArray) = some (⟨#[]⟩, 0, 0, ⟨#[]⟩, ⟨#[]⟩, 2) := e1 k (by omega)
  have g2 : letterlocklaw11_secretOf.f k (⟨#[97, 110, 110, 97]⟩ : ByteArray) = _ := e2 k (by omega)
  have g3 : fresh_Build.f k (B (secretL annaL)) (⟨#[97, 110, 110, 97]⟩ : ByteArray) 5 ([] : List ByteArray) = some (B annaL, 5, 0, B [116, 0], B annaG, 0) := e3 k (by omega)
  have g4 : letterlocklaw11_publicOf.f k (⟨#[97, 110, 110, 97]⟩ : ByteArray) = _ := e4 k (by omega)
  have g5 : fresh_Check.f k (B annaL) 5 0 (B [116, 0]) (B annaG) (B (publicL annaL)) (⟨#[97, 110, 110, 97]⟩ : ByteArray) 6 1 = some 0 := e5 k (by omega)
  show letterlocklaw11_shown.f k = _
  rw [letterlocklaw11_shown.f, g1, Option.bind_some, g2, Option.bind_some, g3, Option.bind_some, if_pos rfl, if_pos rfl, g4, Option.bind_some, g5, Option.bind_some]
  rfl
end Go.Proofs.YtodiffgpefidoaaGreatDoor.P
