/- Slimmed by wip/slim.py. -/
import Derived.Test.YtodiffgpefidoaaGreatDoorELaw10
import Derived.Test.YtodiffgpefidoaaGreatDoorGFresh
import Derived.Test.YtodiffgpefidoaaGreatDoorGFresh1
import Derived.Test.YtodiffgpefidoaaGreatDoorGRef5
namespace Go.Proofs.YtodiffgpefidoaaGreatDoor.P
open Go.RowKit Go.Proofs.YtodiffgpefidoaaGreatDoorW.PrintWords Go.Proofs.YtodiffgpefidoaaGreatDoorW.PrintLast Go.Proofs.YtodiffgpefidoaaGreatDoorW.PrintMore
set_option linter.unusedVariables false
set_option linter.unusedSimpArgs false
theorem Fits.one {d : Nat} {l : List UInt8} {c : UInt8} (h : Fits d l) (hc : c = 104 ∨ c = 117) : Fits (d + 1) (c :: l) := by
  refine ⟨by simp, ?_⟩
  rw [tlen_one hc, if_neg h.pos, h.2, List.length_cons]
  omega
def userL (s : List UInt8) : List UInt8 := [117, 115, 101, 114, 58] ++ s
def secretL (s : List UInt8) : List UInt8 := 104 :: mkLeaf (userL s) 1
def publicL (s : List UInt8) : List UInt8 := 117 :: secretL s
theorem mkLeaf_len2 (s : List UInt8) (v : Nat) (hs : s.length ≤ 3000) (hv : v < 18446744073709551616) : (mkLeaf s v).length ≤ s.length + 23 := by
  have h1 := textT_len s hs
  have h2 := encN_len v hv
  unfold mkLeaf
  rw [List.length_cons, List.length_append, List.length_cons]
  omega
theorem userL_len (s : List UInt8) : (userL s).length = s.length + 5 := by simp [userL]
theorem secretL_fits (s : List UInt8) (hs : s.length ≤ 100) : Fits 3 (secretL s) := (mkLeaf_fits _ 1 (by rw [userL_len]; omega) (by decide)).hash
theorem secretL_len (s : List UInt8) (hs : s.length ≤ 100) : (secretL s).length ≤ s.length + 29 := by
  have := mkLeaf_len2 (userL s) 1 (by rw [userL_len]; omega) (by decide)
  rw [userL_len] at this
  unfold secretL
  rw [List.length_cons]
  omega
theorem secretL_right (s : List UInt8) (hs : s.length ≤ 100) : right (secretL s) = true := (secretL_fits s hs).right (by omega) (by have := secretL_len s hs; omega)
theorem publicL_right (s : List UInt8) (hs : s.length ≤ 100) : right (publicL s) = true := ((secretL_fits s hs).one (c := 117) (by simp)).right (by omega) (by have := secretL_len s hs; rw [List.length_cons]; omega)
theorem ofL1 {k : UInt8} {a : List UInt8} (ha : right a = true) : ofL [k] [a] = if right (k :: a) then (k :: a, 0) else ([], 10) := by
  unfold ofL
  simp [ha]
theorem letterlockref5_Secret.ev (s : List UInt8) (hs : s.length ≤ 100) : Ev (fun k => letterlockref5_Secret.f k (⟨#[117, 115, 101, 114]⟩ : ByteArray) (B s) 1) (B (secretL s), 0) := by
  have e1 : (⟨#[117, 115, 101, 114]⟩ : ByteArray) ++ (⟨#[58]⟩ : ByteArray) = B [117, 115, 101, 114, 58] := append_B [117, 115, 101, 114] [58]
  have e2 : B [117, 115, 101, 114, 58] ++ B s = B (userL s) := append_B _ _
  have q1 : (⟨#[117, 115, 101, 114]⟩ : ByteArray).size + 1 ≤ 9223372036854775807 := by decide
  have q2 : (B [117, 115, 101, 114, 58]).size + (B s).size ≤ 9223372036854775807 := by rw [size_B, size_B]; simp; omega
  have hu : (userL s).length ≤ 105 := by rw [userL_len]; omega
  have ht := fits_text (userL s) (by omega)
  have htl := textT_len (userL s) (by omega)
  have ha := fits_atom 1 (by decide)
  have hal := encN_len 1 (by decide)
  have hp := ht.pair ha
  have hT : ofTextL (userL s) = (textT (userL s), 0) := by rw [ofTextL, if_pos (by omega)]
  unfold letterlockref5_Secret.f
  simp only [e1, e2, q1, q2, if_true]
  refine Ev.bind (letterlockref3_OfText.ev (userL s) (by omega)) ?_
  rw [hT]
  simp only [pr, if_true]
  refine Ev.bind (letterlockref3_OfAtom.ev 1 (by decide)) ?_
  refine Ev.bind (letterlockref3_OfPair.ev _ _ (by omega) (by rw [List.length_cons]; omega)) ?_
  rw [ofL2 (ht.right (by omega) (by omega)) (ha.right (by omega) (by rw [List.length_cons]; omega)), hp.right (by omega) (by rw [List.length_cons, List.length_append, List.length_cons]; omega)]
  simp only [pr, if_true]
  refine Ev.bind (letterlockref3_OfHash.ev _ (by rw [List.length_cons, List.length_append, List.length_cons]; omega)) ?_
  rw [ofL_one hp (by omega) (by rw [List.length_cons, List.length_append, List.length_cons]; omega)]
  exact Ev.eq (Ev.now _) rfl
theorem letterlocklaw11_secretOf.ev (s : List UInt8) (hs : s.length ≤ 100) : Ev (fun k => letterlocklaw11_secretOf.f k (B s)) (B (secretL s)) := by
  unfold letterlocklaw11_secretOf.f
  refine Ev.bind (letterlockref5_Secret.ev s hs) ?_
  exact Ev.eq (Ev.now _) rfl
theorem letterlockref3_OfPublic.ev11 (a : List UInt8) (ha : a.length ≤ 100000000) : Ev (fun k => letterlockref3_OfPublic.f k (B a)) (pr (ofL [117] [a])) := by
  unfold letterlockref3_OfPublic.f
  refine Ev.bind (letterlockref3_one.ev 117 a ha) ?_
  exact Ev.eq (Ev.now _) rfl
theorem letterlocklaw11_publicOf.ev (s : List UInt8) (hs : s.length ≤ 100) : Ev (fun k => letterlocklaw11_publicOf.f k (B s)) (B (publicL s)) := by
  have hl := secretL_len s hs
  unfold letterlocklaw11_publicOf.f
  refine Ev.bind (letterlocklaw11_secretOf.ev s hs) ?_
  refine Ev.bind (letterlockref3_OfPublic.ev11 _ (by omega)) ?_
  rw [ofL1 (secretL_right s hs), show right (117 :: secretL s) = true from publicL_right s hs]
  exact Ev.eq (Ev.now _) rfl
def atomL (n : Nat) : List UInt8 := 97 :: encN n
def chain2 (a : List UInt8) (p : List UInt8 × Int) : List UInt8 × Int := if p.2 = 0 then ofL [112] [a, p.1] else ([], p.2)
theorem chain_one (k : Nat) (a : List UInt8) : fresh_chain.f (k + 1) (B a) [] = some (B a, 0) := by
  rw [fresh_chain.f, if_pos (by simp)]
theorem chain_more (k : Nat) (a b : List UInt8) (l : List (List UInt8)) (p : List UInt8 × Int) (h : fresh_chain.f k (B b) (l.map B) = some (B p.1, p.2)) : fresh_chain.f (k + 1) (B a) ((b :: l).map B) = some (pr (chain2 a p)) := by
  rw [fresh_chain.f, if_neg (by rw [List.length_map, List.length_cons]; omega), if_pos (by rw [List.length_map, List.length_cons]; omega), if_pos (by rw [List.length_map, List.length_cons]; omega), show rdOf ByteArray.empty ((b :: l).map B) 0 = B b from rfl, show ((b :: l).map B).drop 1 = l.map B from rfl, h, Option.bind_some, chain2]
  by_cases hp : p.2 = 0
  · rw [if_pos hp, if_pos hp, term_OfPair.of, Option.bind_some]
  · rw [if_neg hp, if_neg hp]; rfl
def signedE (o : List UInt8) (t n : Nat) (r : List UInt8) : List UInt8 × Int := chain2 (ofTextL o).1 (chain2 (atomL t) (chain2 (atomL n) (r, 0)))
theorem fresh_signed.ev (o : List UInt8) (ho : o.length ≤ 100000000) (t n : Nat) (ht : t < 18446744073709551616) (hn : n < 1000) (r g : List UInt8) :
    Ev (fun k => fresh_signed.f k (B o) (t : Int) (n : Int) (B r) (B g)) (pr (signedE o t n r)) := by
  unfold fresh_signed.f
  refine Ev.bind (term_OfText.ev o ho) ?_
  refine Ev.bind (term_OfAtom.ev t ht) ?_
  rw [show IntKind.u64.wrap (n : Int) = (n : Int) from wu64 _ (by omega) (by omega)]
  refine Ev.bind (term_OfAtom.ev n (by omega)) ?_
  refine ⟨4, fun k hk => ?_⟩
  obtain ⟨k, rfl⟩ : ∃ m, k = m + 4 := ⟨k - 4, by omega⟩
  have h1 := chain_one k r
  have h2 := chain_more (k + 1) (atomL n) r [] (r, 0) h1
  have h3 := chain_more (k + 2) (atomL t) (atomL n) [r] _ h2
  have h4 := chain_more (k + 3) (ofTextL o).1 (atomL t) [atomL n, r] _ h3
  have h4 : fresh_chain.f (k + 4) (pr (ofTextL o)).1 [B (97 :: encN t), B (97 :: encN n), B r] = _ := h4
  show (fresh_chain.f (k + 4) (pr (ofTextL o)).1 [B (97 :: encN t), B (97 :: encN n), B r]).bind _ = _
  rw [h4]
  rfl
end Go.Proofs.YtodiffgpefidoaaGreatDoor.P

