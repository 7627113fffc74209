/- Slimmed by wip/slim.py. -/
import Derived.Test.YtodiffgpefidoaaDoorELaw11
import Derived.Test.YtodiffgpefidoaaDoorXName
namespace Go.Proofs.YtodiffgpefidoaaDoor.P
open Go.RowKit Go.Proofs.YtodiffgpefidoaaDoorW.PrintWords Go.Proofs.YtodiffgpefidoaaDoorW.PrintLast Go.Proofs.YtodiffgpefidoaaDoorW.PrintMore
set_option linter.unusedVariables false
set_option linter.unusedSimpArgs false
theorem names_right : ∀ s ∈ names, nameT (B s) = true := by decide +kernel
theorem nameT_nil : nameT (B []) = false := by decide +kernel
theorem name_Right.of (k : Nat) (o : List UInt8) (ho : o.length ≤ 1000000000) : name_Right.f k (B o) = some (nameT (B o)) := by
  rw [name_Right.f, if_pos (by rw [size_B]; omega)]
theorem term_Kind.of (l : List UInt8) : term_Kind.f (B l) = some ((kindL l).toNat : Int) := rfl
def rootL (ls : List (List UInt8)) : List UInt8 := if ls.length = 0 then textT [] else (treeL ls).1
def sigL (o : List UInt8) (t n : Nat) (r : List UInt8) : List UInt8 := 103 :: (secretL o ++ saysL o t n r)
theorem textT_nil : textT [] = [116, 0] := by decide +kernel
theorem rootL_fits {ls : List (List UInt8)} (hg : GoodAll ls) (h8 : ls.length ≤ 8) : Fits 17 (rootL ls) ∧ (rootL ls).length ≤ 400 := by
  unfold rootL
  split
  · exact ⟨(fits_text [] (by simp)).le (by omega), by rw [textT_nil]; decide⟩
  · obtain ⟨-, h2, h3, -⟩ := treeL_good ls.length ls hg rfl (by omega) h8
    exact ⟨h2.le (by omega), by omega⟩
theorem rootL_right {ls : List (List UInt8)} (hg : GoodAll ls) (h8 : ls.length ≤ 8) : right (rootL ls) = true := by
  obtain ⟨h1, h2⟩ := rootL_fits hg h8
  exact h1.right (by omega) (by omega)
theorem sig_fits {o : List UInt8} {t n : Nat} {r : List UInt8} (ho : o.length ≤ 40) (ht : t < 18446744073709551616) (hn : n < 18446744073709551616) (hr : Fits 17 r) (hl : r.length ≤ 400) :
    ofL [103] [secretL o, saysL o t n r] = (sigL o t n r, 0) ∧ right (sigL o t n r) = true ∧ (sigL o t n r).length ≤ r.length + 200 := by
  obtain ⟨-, h2, h3⟩ := signedE_fits (o := o) (t := t) (n := n) (r := r) (d := 17) (by omega) ht hn (by omega) (by omega) hr (by omega)
  have s1 := secretL_fits o (by omega)
  have s2 := secretL_len o (by omega)
  have f := ((s1.le (e := 20) (by omega)).two h2 (c := 103) (Or.inr rfl))
  have hlen : (sigL o t n r).length ≤ r.length + 200 := by unfold sigL; rw [List.length_cons, List.length_append]; omega
  have hr2 : right (sigL o t n r) = true := f.right (by omega) (by show (sigL o t n r).length ≤ 4000; omega)
  refine ⟨?_, hr2, hlen⟩
  rw [ofL2 (s1.right (by omega) (by omega)) (h2.right (by omega) (by omega)), show right (103 :: (secretL o ++ saysL o t n r)) = true from hr2]
  rfl
theorem fresh_Build.ev11 (o : List UInt8) (ho : o ∈ names) (t : Nat) (ht : t < 18446744073709551616) (ls : List (List UInt8)) (hg : GoodAll ls) (h8 : ls.length ≤ 8) :
    Ev (fun k => fresh_Build.f k (B (secretL o)) (B o) (t : Int) (ls.map B)) (B o, (t : Int), (ls.length : Int), B (rootL ls), B (sigL o t ls.length (rootL ls)), 0) := by
  obtain ⟨o1, o2, -⟩ := names_len o ho
  obtain ⟨rf, rl⟩ := rootL_fits hg h8
  obtain ⟨K1, e1⟩ := term_OfText.ev [] (by simp)
  obtain ⟨K2, e2⟩ := fresh_signed.ev o (by omega) t ls.length ht (by omega) (rootL ls) []
  obtain ⟨s1, -, -⟩ := signedE_fits (o := o) (t := t) (n := ls.length) (d := 17) (by omega) ht (by omega) (by omega) (by omega) rf (by omega)
  obtain ⟨g1, -, -⟩ := sig_fits (o := o) (t := t) (n := ls.length) (by omega) ht (by omega) rf rl
  rw [s1] at e2
  refine ⟨K1 + K2 + 20, fun k hk => ?_⟩
  obtain ⟨k, rfl⟩ : ∃ m, k = m + 20 := ⟨k - 20, by omega⟩
  show fresh_Build.f (k + 20) _ _ _ _ = _
  have f1 : term_OfText.f (k + 19) (⟨#[]⟩ : ByteArray) = _ := e1 (k + 19) (by omega)
  have f2 : fresh_signed.f (k + 18) (B o) (t : Int) (ls.length : Int) (B (rootL ls)) (B []) = _ := e2 (k + 18) (by omega)
  have f3 := term_Sign.of (secretL o) (saysL o t ls.length (rootL ls))
  rw [g1] at f3
  have hk : (((kindL (secretL o)).toNat : Nat) : Int) = 104 := by rw [kindL, secretL_right o (by omega)]; rfl
  have j2 : fresh_Build.j2 (k + 18) (B (secretL o)) 0 (B (saysL o t ls.length (rootL ls))) (B o) (t : Int) (ls.length : Int) (B (rootL ls)) (⟨#[]⟩ : ByteArray) = some (B o, (t : Int), (ls.length : Int), B (rootL ls), B (sigL o t ls.length (rootL ls)), 0) := by
    rw [fresh_Build.j2, if_pos rfl, f3, Option.bind_some]
    rfl
  have j1 : fresh_Build.j1 (k + 19) (B (secretL o)) 0 (B o) (t : Int) (ls.length : Int) (B (rootL ls)) (⟨#[]⟩ : ByteArray) = some (B o, (t : Int), (ls.length : Int), B (rootL ls), B (sigL o t ls.length (rootL ls)), 0) := by
    rw [fresh_Build.j1, if_pos rfl, show fresh_signed.f (k + 18) (B o) (t : Int) (ls.length : Int) (B (rootL ls)) (⟨#[]⟩ : ByteArray) = _ from f2, Option.bind_some]
    exact j2
  rw [fresh_Build.f, term_Kind.of, Option.bind_some, hk, if_neg (by decide), name_Right.of _ o (by omega), Option.bind_some, names_right o ho, show (!true) = false from rfl, fresh_Build.j0, if_neg (by decide), f1, Option.bind_some, List.length_map]
  by_cases h0 : ls.length = 0
  · have hT : ofTextL [] = (textT [], 0) := by rw [ofTextL, if_pos (by rw [textT_nil]; decide)]
    rw [if_neg (by omega), hT]
    rw [show rootL ls = textT [] from by rw [rootL, if_pos h0]] at j1 ⊢
    exact j1
  · have r := tree_Root.good (k + 19) (by omega) ls hg (by omega) h8
    rw [if_pos (by omega), r, Option.bind_some]
    rw [show rootL ls = (treeL ls).1 from by rw [rootL, if_neg h0]] at j1 ⊢
    exact j1
def rightS (o : List UInt8) (n : Nat) (r g : List UInt8) : Bool := nameT (B o) && (decide (n ≤ 8) && (decide (kindL r ≠ 0) && decide (kindL g = 103)))
theorem kind_zero (l : List UInt8) : ((((kindL l).toNat : Nat) : Int) = 0) ↔ kindL l = 0 := eq_byte (n := 0) (by decide)
theorem kind_103 (l : List UInt8) : ((((kindL l).toNat : Nat) : Int) == 103) = decide (kindL l = 103) := by
  by_cases h : kindL l = 103
  · rw [h]; rfl
  · rw [decide_eq_false h]; exact byte_ne (n := 103) (by decide) h
theorem fresh_Right.of (k : Nat) (o : List UInt8) (ho : o.length ≤ 1000000000) (t n : Nat) (r g : List UInt8) : fresh_Right.f k (B o) (t : Int) (n : Int) (B r) (B g) = some (rightS o n r g) := by
  unfold fresh_Right.f
  simp only [toList_B]
  by_cases hz : (!(o == ([] : List UInt8)) || (!((t : Int) == 0) || (!((n : Int) == 0) || (!(r == ([] : List UInt8)) || (!(g == ([] : List UInt8))))))) = true
  · rw [if_pos hz, name_Right.of k o ho, Option.bind_some, rightS]
    cases hN : nameT (B o)
    · rfl
    · rw [if_pos rfl, if_pos (by omega)]
      by_cases h8 : n ≤ 8
      · rw [if_pos (by omega), term_Kind.of, Option.bind_some, decide_eq_true h8]
        by_cases hk : kindL r = 0
        · rw [if_pos ((kind_zero r).mpr hk), hk]; rfl
        · rw [if_neg (fun e => hk ((kind_zero r).mp e)), term_Kind.of, Option.bind_some, kind_103, decide_eq_true hk]
          rfl
      · rw [if_neg (by omega), decide_eq_false h8]; rfl
  · rw [if_neg hz]
    have ho : o = [] := by
      cases o with
      | nil => rfl
      | cons a l => exact absurd rfl hz
    rw [rightS, ho, nameT_nil]
    rfl
def checkE (o : List UInt8) (t n : Nat) (r g p w : List UInt8) (now bound : Nat) : Int :=
  if rightS o n r g = true ∧ kindL p = 117 then (if (signedE o t n r).2 = 0 ∧ verifyL p (signedE o t n r).1 g = 0 then (if o = w then (if now < t ∨ bound < now - t then 8 else 0) else 3) else 7) else 1
theorem fresh_Check.ev (o : List UInt8) (ho : o.length ≤ 1000000) (t n : Nat) (ht : t < 18446744073709551616) (hn : n < 1000) (r g p w : List UInt8) (now bound : Nat) (h1 : now < 18446744073709551616) (h2 : bound < 18446744073709551616) :
    Ev (fun k => fresh_Check.f k (B o) (t : Int) (n : Int) (B r) (B g) (B p) (B w) (now : Int) (bound : Int)) (checkE o t n r g p w now bound) := by
  obtain ⟨K, e⟩ := fresh_signed.ev o (by omega) t n ht hn r g
  refine ⟨K + 10, fun k hk => ?_⟩
  obtain ⟨k, rfl⟩ : ∃ m, k = m + 10 := ⟨k - 10, by omega⟩
  show fresh_Check.f (k + 10) _ _ _ _ _ _ _ _ _ = _
  have f : fresh_signed.f (k + 9) (B o) (t : Int) (n : Int) (B r) (B g) = _ := e (k + 9) (by omega)
  have j1t : fresh_Check.j1 (k + 9) (B w) (now : Int) (bound : Int) true (B o) (t : Int) (n : Int) (B r) (B g) = some 7 := by rw [fresh_Check.j1, if_pos rfl]
  have j0t : fresh_Check.j0 (k + 10) (B p) (B w) (now : Int) (bound : Int) true (B o) (t : Int) (n : Int) (B r) (B g) = some 1 := by rw [fresh_Check.j0, if_pos rfl]
  rw [fresh_Check.f, fresh_Right.of _ o (by omega), Option.bind_some, checkE]
  cases hR : rightS o n r g
  · rw [if_neg (by decide), if_neg (fun h => absurd h.1 (by decide))]; exact j0t
  · rw [if_pos rfl, term_Kind.of, Option.bind_some]
    by_cases hp : kindL p = 117
    · rw [if_pos ⟨rfl, hp⟩, hp, show ((((117 : UInt8).toNat : Nat) : Int) != 117) = false from rfl, fresh_Check.j0, if_neg (by decide), f, Option.bind_some, show (pr (signedE o t n r)).2 = (signedE o t n r).2 from rfl]
      by_cases hs : (signedE o t n r).2 = 0
      · rw [if_pos hs, show term_Verify.f (B p) (pr (signedE o t n r)).1 (B g) = some (verifyL p (signedE o t n r).1 g) from rfl, Option.bind_some]
        by_cases hv : verifyL p (signedE o t n r).1 g = 0
        · rw [if_pos ⟨hs, hv⟩, hv, show ((0 : Int) != 0) = false from rfl, fresh_Check.j1, if_neg (by decide), toList_B, toList_B]
          by_cases hw : o = w
          · rw [if_pos hw, if_pos hw]
            by_cases hn1 : now < t
            · rw [if_pos (by omega), if_pos (Or.inl hn1)]
            · have hx : IntKind.u64.wrap ((now : Int) - (t : Int)) = ((now - t : Nat) : Int) := by rw [wu64 _ (by omega) (by omega)]; omega
              rw [if_neg (by omega), hx]
              clear hx
              by_cases hb : bound < now - t
              · rw [if_pos (by omega), if_pos (Or.inr hb)]
              · rw [if_neg (by omega), if_neg (fun h => h.elim hn1 hb)]
          · rw [if_neg hw, if_neg hw]
        · rw [if_neg (fun h => hv h.2), bne_iff_ne.mpr hv]
          exact j1t
      · rw [if_neg hs, if_neg (fun h => hs h.1)]
        exact j1t
    · rw [if_neg (fun h => hp h.2), show ((((kindL p).toNat : Nat) : Int) != 117) = true from bne_iff_ne.mpr (fun e => hp ((eq_byte (n := 117) (by decide)).mp e))]
      exact j0t
theorem verifyL_zero {p a s : List UInt8} (h : verifyL p a s = 0) : right p = true ∧ right a = true ∧ right s = true ∧ p.getD 0 0 = 117 ∧ s = 103 :: (p.tail ++ a) := by
  unfold verifyL at h
  split at h
  · rename_i h1
    simp only [Bool.and_eq_true] at h1
    split at h
    · rename_i h2; exact ⟨h1.1.1, h1.1.2, h1.2, h2.1, h2.2⟩
    · exact absurd h (by decide)
  · exact absurd h (by decide)
theorem checkE_zero {o r g p w : List UInt8} {t n now bound : Nat} (h : checkE o t n r g p w now bound = 0) : rightS o n r g = true ∧ (signedE o t n r).2 = 0 ∧ verifyL p (signedE o t n r).1 g = 0 ∧ o = w ∧ t ≤ now ∧ now - t ≤ bound := by
  unfold checkE at h
  split at h
  · rename_i h1
    split at h
    · rename_i h2
      split at h
      · rename_i h3
        split at h
        · exact absurd h (by decide)
        · rename_i h4; exact ⟨h1.1, h2.1, h2.2, h3, by omega, by omega⟩
      · exact absurd h (by decide)
    · exact absurd h (by decide)
  · exact absurd h (by decide)
theorem built_right (o : List UInt8) (ho : o ∈ names) (t : Nat) (ht : t < 18446744073709551616) (n : Nat) (hn : n ≤ 8) (r : List UInt8) (hr : Fits 17 r) (hl : r.length ≤ 400) (n' : Nat) (hn' : n' ≤ 8) (r' : List UInt8) (hr' : right r' = true) : rightS o n' r' (sigL o t n r) = true := by
  obtain ⟨o1, o2, -⟩ := names_len o ho
  obtain ⟨-, g2, -⟩ := sig_fits (o := o) (t := t) (n := n) (by omega) ht (by omega) hr hl
  have hk : kindL r' ≠ 0 := by
    obtain ⟨c, q, rfl, -, h4⟩ := right_cons hr'
    rw [kindL, hr']
    show c ≠ 0
    intro hc
    subst hc
    have h5 : tlen 40 (0 :: q) = 0 := by rw [tlen]; simp
    omega
  rw [rightS, names_right o ho, decide_eq_true hn', decide_eq_true hk, kindL, g2]
  rfl
theorem public_kind (o : List UInt8) (ho : o.length ≤ 100) : kindL (publicL o) = 117 := by rw [kindL, publicL_right o ho]; rfl
theorem check_built (u : List UInt8) (hu : u ∈ names) (t : Nat) (ht : t < 18446744073709551616) (n : Nat) (hn : n ≤ 8) (r : List UInt8) (hr : Fits 17 r) (hl : r.length ≤ 400)
    (t' : Nat) (ht' : t' < 18446744073709551616) (n' : Nat) (hn' : n' ≤ 8) (r' : List UInt8) (hr' : Fits 17 r') (hl' : r'.length ≤ 400) (v : List UInt8) (hv : v ∈ names) (w : List UInt8) (now bound : Nat) :
    checkE u t' n' r' (sigL u t n r) (publicL v) w now bound = if v = u ∧ t' = t ∧ n' = n ∧ r' = r then (if u = w then (if now < t' ∨ bound < now - t' then 8 else 0) else 3) else 7 := by
  obtain ⟨u1, u2, -⟩ := names_len u hu
  obtain ⟨v1, v2, -⟩ := names_len v hv
  have rr := built_right u hu t ht n hn r hr hl n' hn' r' (hr'.right (by omega) (by omega))
  obtain ⟨s1, s2, s3⟩ := signedE_fits (o := u) (t := t') (n := n') (d := 17) (by omega) ht' (by omega) (by omega) (by omega) hr' (by omega)
  obtain ⟨q1, q2, q3⟩ := signedE_fits (o := u) (t := t) (n := n) (d := 17) (by omega) ht (by omega) (by omega) (by omega) hr (by omega)
  obtain ⟨g1, g2, g3⟩ := sig_fits (o := u) (t := t) (n := n) (by omega) ht (by omega) hr hl
  rw [checkE, if_pos ⟨rr, public_kind v (by omega)⟩, s1]
  have hV : verifyL (publicL v) (saysL u t' n' r') (sigL u t n r) = if v = u ∧ t' = t ∧ n' = n ∧ r' = r then 0 else 7 := by
    rw [verifyL, publicL_right v (by omega), s2.right (by omega) (by omega), g2, if_pos (show (true && true && true) = true from rfl)]
    by_cases h : v = u ∧ t' = t ∧ n' = n ∧ r' = r
    · obtain ⟨rfl, rfl, rfl, rfl⟩ := h
      rw [if_pos ⟨rfl, rfl⟩, if_pos ⟨rfl, rfl, rfl, rfl⟩]
    · rw [if_neg h, if_neg]
      rintro ⟨-, e⟩
      obtain ⟨e1, e2⟩ := pair_inj (secretL_right u (by omega)) (secretL_right v (by omega)) (List.tail_eq_of_cons_eq e)
      have h1 := (fits_text u (by omega)).right (by omega) (by have := textT_len u (by omega); omega)
      obtain ⟨-, e3, e4, e5⟩ := saysL_inj h1 h1 ht ht' (by omega) (by omega) e2
      exact h ⟨(secretL_inj (by omega) (by omega) e1).symm, e3.symm, e4.symm, e5.symm⟩
  by_cases h : v = u ∧ t' = t ∧ n' = n ∧ r' = r
  · rw [if_pos h] at hV ⊢
    rw [if_pos ⟨rfl, hV⟩]
  · rw [if_neg h] at hV ⊢
    rw [if_neg (fun e => absurd (hV.symm.trans e.2) (by decide))]
end Go.Proofs.YtodiffgpefidoaaDoor.P

