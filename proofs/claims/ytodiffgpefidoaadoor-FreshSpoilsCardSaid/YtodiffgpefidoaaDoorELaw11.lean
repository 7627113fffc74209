/- Slimmed by wip/slim.py. -/
import Derived.Test.YtodiffgpefidoaaDoorELaw10R
import Derived.Test.YtodiffgpefidoaaDoorGFresh
import Derived.Test.YtodiffgpefidoaaDoorGFresh1
import Derived.Test.YtodiffgpefidoaaDoorGLaw11R
import Derived.Test.YtodiffgpefidoaaDoorGRef5
namespace Go.Proofs.YtodiffgpefidoaaDoor.P
open Go.RowKit Go.Proofs.YtodiffgpefidoaaDoorW.PrintWords Go.Proofs.YtodiffgpefidoaaDoorW.PrintLast Go.Proofs.YtodiffgpefidoaaDoorW.PrintMore
set_option linter.unusedVariables false
set_option linter.unusedSimpArgs false
theorem Fits.one {d : Nat} {l : List UInt8} {c : UInt8} (h : Fits d l) (hc : c = 104 ∨ c = 117) : Fits (d + 1) (c :: l) := by
  refine ⟨by simp, ?_⟩
  rw [tlen_one hc, if_neg h.pos, h.2, List.length_cons]
  omega
theorem Fits.two {d : Nat} {a b : List UInt8} {c : UInt8} (ha : Fits d a) (hb : Fits d b) (hc : c = 112 ∨ c = 103) : Fits (d + 1) (c :: (a ++ b)) := by
  have h1 : tlen d (a ++ b) = a.length := by rw [tlen_append d a b ha.pos]; exact ha.2
  have h2 : (a ++ b).drop a.length = b := List.drop_left
  have hp := List.length_pos_iff.mpr ha.1
  have hq := List.length_pos_iff.mpr hb.1
  refine ⟨by simp, ?_⟩
  rw [tlen_two (hc.elim Or.inl (fun h => Or.inr (Or.inr (Or.inr h)))), if_neg (by rcases hc with rfl | rfl <;> simp), h1, if_neg (by omega), h2, hb.2, if_neg (by omega), List.length_cons, List.length_append]
  omega
def userL (s : List UInt8) : List UInt8 := [117, 115, 101, 114, 58] ++ s
def secretL (s : List UInt8) : List UInt8 := 104 :: mkLeaf (userL s) 1
def publicL (s : List UInt8) : List UInt8 := 117 :: secretL s
theorem mkLeaf_len2 (s : List UInt8) (v : Nat) (hs : s.length ≤ 3000) (hv : v < 18446744073709551616) : (mkLeaf s v).length ≤ s.length + 23 := by
  have h1 := textT_len s hs
  have h2 := encN_len v hv
  unfold mkLeaf
  rw [List.length_cons, List.length_append, List.length_cons]
  omega
theorem userL_len (s : List UInt8) : (userL s).length = s.length + 5 := by simp [userL]
theorem secretL_fits (s : List UInt8) (hs : s.length ≤ 100) : Fits 3 (secretL s) := (mkLeaf_fits _ 1 (by rw [userL_len]; omega) (by decide)).hash
theorem secretL_len (s : List UInt8) (hs : s.length ≤ 100) : (secretL s).length ≤ s.length + 29 := by
  have := mkLeaf_len2 (userL s) 1 (by rw [userL_len]; omega) (by decide)
  rw [userL_len] at this
  unfold secretL
  rw [List.length_cons]
  omega
theorem secretL_right (s : List UInt8) (hs : s.length ≤ 100) : right (secretL s) = true := (secretL_fits s hs).right (by omega) (by have := secretL_len s hs; omega)
theorem publicL_right (s : List UInt8) (hs : s.length ≤ 100) : right (publicL s) = true := ((secretL_fits s hs).one (c := 117) (by simp)).right (by omega) (by have := secretL_len s hs; rw [List.length_cons]; omega)
theorem ofL1 {k : UInt8} {a : List UInt8} (ha : right a = true) : ofL [k] [a] = if right (k :: a) then (k :: a, 0) else ([], 10) := by
  unfold ofL
  simp [ha]
theorem letterlockref5_Secret.ev (s : List UInt8) (hs : s.length ≤ 100) : Ev (fun k => letterlockref5_Secret.f k (⟨#[117, 115, 101, 114]⟩ : ByteArray) (B s) 1) (B (secretL s), 0) := by
  have e1 : (⟨#[117, 115, 101, 114]⟩ : ByteArray) ++ (⟨#[58]⟩ : ByteArray) = B [117, 115, 101, 114, 58] := append_B [117, 115, 101, 114] [58]
  have e2 : B [117, 115, 101, 114, 58] ++ B s = B (userL s) := append_B _ _
  have q1 : (⟨#[117, 115, 101, 114]⟩ : ByteArray).size + 1 ≤ 9223372036854775807 := by decide
  have q2 : (B [117, 115, 101, 114, 58]).size + (B s).size ≤ 9223372036854775807 := by rw [size_B, size_B]; simp; omega
  have hu : (userL s).length ≤ 105 := by rw [userL_len]; omega
  have ht := fits_text (userL s) (by omega)
  have htl := textT_len (userL s) (by omega)
  have ha := fits_atom 1 (by decide)
  have hal := encN_len 1 (by decide)
  have hp := ht.pair ha
  have hT : ofTextL (userL s) = (textT (userL s), 0) := by rw [ofTextL, if_pos (by omega)]
  unfold letterlockref5_Secret.f
  simp only [e1, e2, q1, q2, if_true]
  refine Ev.bind (letterlockref3_OfText.ev (userL s) (by omega)) ?_
  rw [hT]
  simp only [pr, if_true]
  refine Ev.bind (letterlockref3_OfAtom.ev 1 (by decide)) ?_
  refine Ev.bind (letterlockref3_OfPair.ev _ _ (by omega) (by rw [List.length_cons]; omega)) ?_
  rw [ofL2 (ht.right (by omega) (by omega)) (ha.right (by omega) (by rw [List.length_cons]; omega)), hp.right (by omega) (by rw [List.length_cons, List.length_append, List.length_cons]; omega)]
  simp only [pr, if_true]
  refine Ev.bind (letterlockref3_OfHash.ev _ (by rw [List.length_cons, List.length_append, List.length_cons]; omega)) ?_
  rw [ofL_one hp (by omega) (by rw [List.length_cons, List.length_append, List.length_cons]; omega)]
  exact Ev.eq (Ev.now _) rfl
theorem letterlocklaw11_secretOf.ev (s : List UInt8) (hs : s.length ≤ 100) : Ev (fun k => letterlocklaw11_secretOf.f k (B s)) (B (secretL s)) := by
  unfold letterlocklaw11_secretOf.f
  refine Ev.bind (letterlockref5_Secret.ev s hs) ?_
  exact Ev.eq (Ev.now _) rfl
theorem letterlockref3_OfPublic.ev11 (a : List UInt8) (ha : a.length ≤ 100000000) : Ev (fun k => letterlockref3_OfPublic.f k (B a)) (pr (ofL [117] [a])) := by
  unfold letterlockref3_OfPublic.f
  refine Ev.bind (letterlockref3_one.ev 117 a ha) ?_
  exact Ev.eq (Ev.now _) rfl
theorem letterlocklaw11_publicOf.ev (s : List UInt8) (hs : s.length ≤ 100) : Ev (fun k => letterlocklaw11_publicOf.f k (B s)) (B (publicL s)) := by
  have hl := secretL_len s hs
  unfold letterlocklaw11_publicOf.f
  refine Ev.bind (letterlocklaw11_secretOf.ev s hs) ?_
  refine Ev.bind (letterlockref3_OfPublic.ev11 _ (by omega)) ?_
  rw [ofL1 (secretL_right s hs), show right (117 :: secretL s) = true from publicL_right s hs]
  exact Ev.eq (Ev.now _) rfl
def atomL (n : Nat) : List UInt8 := 97 :: encN n
theorem atomL_right (n : Nat) (h : n < 18446744073709551616) : right (atomL n) = true := right_atom n h
def chain2 (a : List UInt8) (p : List UInt8 × Int) : List UInt8 × Int := if p.2 = 0 then ofL [112] [a, p.1] else ([], p.2)
theorem chain_one (k : Nat) (a : List UInt8) : fresh_chain.f (k + 1) (B a) [] = some (B a, 0) := by
  rw [fresh_chain.f, if_pos (by simp)]
theorem chain_more (k : Nat) (a b : List UInt8) (l : List (List UInt8)) (p : List UInt8 × Int) (h : fresh_chain.f k (B b) (l.map B) = some (B p.1, p.2)) : fresh_chain.f (k + 1) (B a) ((b :: l).map B) = some (pr (chain2 a p)) := by
  rw [fresh_chain.f, if_neg (by rw [List.length_map, List.length_cons]; omega), if_pos (by rw [List.length_map, List.length_cons]; omega), if_pos (by rw [List.length_map, List.length_cons]; omega), show rdOf ByteArray.empty ((b :: l).map B) 0 = B b from rfl, show ((b :: l).map B).drop 1 = l.map B from rfl, h, Option.bind_some, chain2]
  by_cases hp : p.2 = 0
  · rw [if_pos hp, if_pos hp, term_OfPair.of, Option.bind_some]
  · rw [if_neg hp, if_neg hp]; rfl
def signedE (o : List UInt8) (t n : Nat) (r : List UInt8) : List UInt8 × Int := chain2 (ofTextL o).1 (chain2 (atomL t) (chain2 (atomL n) (r, 0)))
theorem fresh_signed.ev (o : List UInt8) (ho : o.length ≤ 100000000) (t n : Nat) (ht : t < 18446744073709551616) (hn : n < 1000) (r g : List UInt8) :
    Ev (fun k => fresh_signed.f k (B o) (t : Int) (n : Int) (B r) (B g)) (pr (signedE o t n r)) := by
  unfold fresh_signed.f
  refine Ev.bind (term_OfText.ev o ho) ?_
  refine Ev.bind (term_OfAtom.ev t ht) ?_
  rw [show IntKind.u64.wrap (n : Int) = (n : Int) from wu64 _ (by omega) (by omega)]
  refine Ev.bind (term_OfAtom.ev n (by omega)) ?_
  refine ⟨4, fun k hk => ?_⟩
  obtain ⟨k, rfl⟩ : ∃ m, k = m + 4 := ⟨k - 4, by omega⟩
  have h1 := chain_one k r
  have h2 := chain_more (k + 1) (atomL n) r [] (r, 0) h1
  have h3 := chain_more (k + 2) (atomL t) (atomL n) [r] _ h2
  have h4 := chain_more (k + 3) (ofTextL o).1 (atomL t) [atomL n, r] _ h3
  have h4 : fresh_chain.f (k + 4) (pr (ofTextL o)).1 [B (97 :: encN t), B (97 :: encN n), B r] = _ := h4
  show (fresh_chain.f (k + 4) (pr (ofTextL o)).1 [B (97 :: encN t), B (97 :: encN n), B r]).bind _ = _
  rw [h4]
  rfl
def saysL (o : List UInt8) (t n : Nat) (r : List UInt8) : List UInt8 := 112 :: (textT o ++ (112 :: (atomL t ++ (112 :: (atomL n ++ r)))))
theorem chain2_ok {a : List UInt8} {p : List UInt8 × Int} (ha : right a = true) (hp : p.2 = 0) (hr : right p.1 = true) (h : (chain2 a p).2 = 0) : chain2 a p = (112 :: (a ++ p.1), 0) ∧ right (112 :: (a ++ p.1)) = true := by
  unfold chain2 at h ⊢
  rw [if_pos hp] at h ⊢
  rw [ofL2 ha hr] at h ⊢
  split at h
  · rename_i h1; exact ⟨by rw [if_pos h1], h1⟩
  · exact absurd h (by decide)
theorem chain2_bad {a : List UInt8} {p : List UInt8 × Int} (h : (chain2 a p).2 = 0) : p.2 = 0 ∧ right a = true ∧ right p.1 = true := by
  unfold chain2 at h
  split at h
  · rename_i h0
    refine ⟨h0, ?_⟩
    unfold ofL at h
    split at h
    · rename_i h1
      simp only [List.all_cons, List.all_nil, Bool.and_true, Bool.and_eq_true] at h1
      exact h1
    · exact absurd h (by decide)
  · rename_i h0; exact absurd h h0
theorem signedE_ok {o : List UInt8} {t n : Nat} {r : List UInt8} (h : (signedE o t n r).2 = 0) : signedE o t n r = (saysL o t n r, 0) ∧ right (saysL o t n r) = true ∧ right r = true ∧ right (textT o) = true ∧ right (atomL t) = true ∧ right (atomL n) = true := by
  unfold signedE at h ⊢
  obtain ⟨c2, c3, -⟩ := chain2_bad h
  obtain ⟨d2, d3, -⟩ := chain2_bad c2
  obtain ⟨e2, e3, e4⟩ := chain2_bad d2
  obtain ⟨p1, p2⟩ := chain2_ok e3 rfl e4 d2
  rw [p1] at c2 h ⊢
  obtain ⟨q1, q2⟩ := chain2_ok d3 rfl p2 c2
  rw [q1] at h ⊢
  obtain ⟨s1, s2⟩ := chain2_ok c3 rfl q2 h
  have hT : (ofTextL o).1 = textT o := by
    unfold ofTextL at c3 ⊢
    split
    · rfl
    · rename_i h9; rw [if_neg h9] at c3; exact absurd c3 (by decide)
  rw [hT] at s1 s2 c3 ⊢
  exact ⟨s1, s2, e4, c3, d3, e3⟩
theorem signedE_fits {o : List UInt8} {t n : Nat} {r : List UInt8} {d : Nat} (ho : o.length ≤ 200) (ht : t < 18446744073709551616) (hn : n < 18446744073709551616) (h1 : 1 ≤ d) (hd : d ≤ 30) (hr : Fits d r) (hl : r.length ≤ 1000) :
    signedE o t n r = (saysL o t n r, 0) ∧ Fits (d + 3) (saysL o t n r) ∧ (saysL o t n r).length ≤ r.length + o.length + 40 := by
  have ft := fits_text o (by omega)
  have tl := textT_len o (by omega)
  have f1 : Fits 1 (atomL t) := fits_atom t ht
  have f2 : Fits 1 (atomL n) := fits_atom n hn
  have l1 := encN_len t ht
  have l2 := encN_len n hn
  have a1 : (atomL t).length ≤ 10 := by unfold atomL; rw [List.length_cons]; omega
  have a2 : (atomL n).length ≤ 10 := by unfold atomL; rw [List.length_cons]; omega
  have p1 := (f2.le h1).pair hr
  have p2 := (f1.le (e := d + 1) (by omega)).pair p1
  have p3 := (ft.le (e := d + 2) (by omega)).pair p2
  have r1 := p1.right (by omega) (by rw [List.length_cons, List.length_append]; omega)
  have r2 := p2.right (by omega) (by rw [List.length_cons, List.length_append, List.length_cons, List.length_append]; omega)
  have r3 := p3.right (by omega) (by rw [List.length_cons, List.length_append, List.length_cons, List.length_append, List.length_cons, List.length_append]; omega)
  have hT : ofTextL o = (textT o, 0) := by rw [ofTextL, if_pos (by omega)]
  refine ⟨?_, p3, ?_⟩
  · unfold signedE
    rw [hT, show chain2 (atomL n) (r, 0) = (112 :: (atomL n ++ r), 0) from by rw [chain2, if_pos rfl, ofL2 (f2.right (by omega) (by omega)) (hr.right (by omega) (by omega)), r1]; rfl]
    rw [show chain2 (atomL t) (112 :: (atomL n ++ r), 0) = (112 :: (atomL t ++ (112 :: (atomL n ++ r))), 0) from by rw [chain2, if_pos rfl, ofL2 (f1.right (by omega) (by omega)) r1, r2]; rfl]
    rw [chain2, if_pos rfl, ofL2 (ft.right (by omega) (by omega)) r2, r3]
    rfl
  · unfold saysL
    rw [List.length_cons, List.length_append, List.length_cons, List.length_append, List.length_cons, List.length_append]
    omega
theorem encN_inj {m n : Nat} (hm : m < 18446744073709551616) (hn : n < 18446744073709551616) (h : encN m = encN n) : m = n := by
  have h1 := takeL_encN m [] hm
  rw [h, takeL_encN n [] hn] at h1
  exact (Prod.mk.inj (Option.some.inj h1)).1.symm
theorem textT_inj {a b : List UInt8} (ha : a.length < 18446744073709551616) (hb : b.length < 18446744073709551616) (h : textT a = textT b) : a = b := by
  have h0 : textL a = textL b := List.tail_eq_of_cons_eq h
  have h1 := takeTextL_textL a [] 4000 ha
  have h2 : takeL (textL a) = some (a.length, a) := by unfold textL; exact takeL_encN _ _ ha
  have h3 : takeL (textL b) = some (b.length, b) := by unfold textL; exact takeL_encN _ _ hb
  rw [h0, h3] at h2
  exact (Prod.mk.inj (Option.some.inj h2)).2.symm
theorem saysL_inj {o o' : List UInt8} {t t' n n' : Nat} {r r' : List UInt8} (h1 : right (textT o) = true) (h1' : right (textT o') = true) (ht : t < 18446744073709551616) (ht' : t' < 18446744073709551616) (hn : n < 18446744073709551616) (hn' : n' < 18446744073709551616) (h : saysL o t n r = saysL o' t' n' r') : o = o' ∧ t = t' ∧ n = n' ∧ r = r' := by
  unfold saysL at h
  obtain ⟨e1, e2⟩ := pair_inj h1 h1' (List.tail_eq_of_cons_eq h)
  obtain ⟨e3, e4⟩ := pair_inj (atomL_right t ht) (atomL_right t' ht') (List.tail_eq_of_cons_eq e2)
  obtain ⟨e5, e6⟩ := pair_inj (atomL_right n hn) (atomL_right n' hn') (List.tail_eq_of_cons_eq e4)
  have s1 := (right_pos h1).2
  have s2 := (right_pos h1').2
  refine ⟨textT_inj ?_ ?_ e1, encN_inj ht ht' (List.tail_eq_of_cons_eq e3), encN_inj hn hn' (List.tail_eq_of_cons_eq e5), e6⟩
  · unfold textT textL at s1; rw [List.length_cons, List.length_append] at s1; omega
  · unfold textT textL at s2; rw [List.length_cons, List.length_append] at s2; omega
theorem secretL_inj {s s' : List UInt8} (hs : s.length ≤ 100) (hs' : s'.length ≤ 100) (h : secretL s = secretL s') : s = s' := by
  unfold secretL mkLeaf at h
  have h1 := (fits_text (userL s) (by rw [userL_len]; omega)).right (by omega) (by have := textT_len (userL s) (by rw [userL_len]; omega); rw [userL_len] at this; omega)
  have h2 := (fits_text (userL s') (by rw [userL_len]; omega)).right (by omega) (by have := textT_len (userL s') (by rw [userL_len]; omega); rw [userL_len] at this; omega)
  obtain ⟨e1, -⟩ := pair_inj h1 h2 (List.tail_eq_of_cons_eq (List.tail_eq_of_cons_eq h))
  have e2 := textT_inj (by rw [userL_len]; omega) (by rw [userL_len]; omega) e1
  unfold userL at e2
  exact List.append_cancel_left e2
end Go.Proofs.YtodiffgpefidoaaDoor.P

