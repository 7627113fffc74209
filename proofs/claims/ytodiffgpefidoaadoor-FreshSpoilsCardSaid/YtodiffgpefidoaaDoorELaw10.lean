/- Slimmed by wip/slim.py. -/
import Derived.Test.YtodiffgpefidoaaDoorXTree
import Derived.Test.YtodiffgpefidoaaDoorGRef10L
namespace Go.Proofs.YtodiffgpefidoaaDoor.P
open Go.RowKit Go.Proofs.YtodiffgpefidoaaDoorW.PrintWords Go.Proofs.YtodiffgpefidoaaDoorW.PrintLast Go.Proofs.YtodiffgpefidoaaDoorW.PrintMore
set_option linter.unusedVariables false
set_option linter.unusedSimpArgs false
theorem wf64 {n : Int} (h : (Lit.int .u64 n).wf = true) : ∃ m : Nat, n = (m : Int) ∧ m < 18446744073709551616 := by
  simp only [Lit.wf, Bool.and_eq_true, decide_eq_true_iff] at h
  obtain ⟨h1, h2⟩ := h
  have h3 : (0 : Int) ≤ n := h1
  have h4 : n ≤ 18446744073709551615 := h2
  exact ⟨n.toNat, by omega, by omega⟩
theorem wfi64 {n : Int} (h : (Lit.int .i64 n).wf = true) : -9223372036854775808 ≤ n ∧ n ≤ 9223372036854775807 := by
  simp only [Lit.wf, Bool.and_eq_true, decide_eq_true_iff] at h
  exact ⟨h.1, h.2⟩
theorem right_atom (n : Nat) (h : n < 18446744073709551616) : right (97 :: encN n) = true := by
  have hl := encN_len n h
  refine (right_iff _).mpr ⟨by simp, by rw [List.length_cons]; omega, ?_⟩
  have ht := takeL_encN n [] h
  rw [List.append_nil] at ht
  rw [tlen, if_pos rfl, ht]
  simp only [List.length_nil, List.length_cons]
  omega
theorem letterlockref3_OfPair.ev (a b : List UInt8) (ha : a.length ≤ 100000000) (hb : b.length ≤ 100000000) : Ev (fun k => letterlockref3_OfPair.f k (B a) (B b)) (pr (ofL [112] [a, b])) := by
  unfold letterlockref3_OfPair.f
  refine Ev.bind (letterlockref3_two.ev 112 a b ha hb) ?_
  exact Ev.eq (Ev.now _) rfl
theorem letterlockref3_OfHash.ev (a : List UInt8) (ha : a.length ≤ 100000000) : Ev (fun k => letterlockref3_OfHash.f k (B a)) (pr (ofL [104] [a])) := by
  unfold letterlockref3_OfHash.f
  refine Ev.bind (letterlockref3_one.ev 104 a ha) ?_
  exact Ev.eq (Ev.now _) rfl
theorem right_tlen {a : List UInt8} (h : right a = true) : tlen 40 a = a.length ∧ tlen 40 a ≠ 0 := by
  obtain ⟨h1, -, h3⟩ := (right_iff _).mp h
  exact ⟨h3, by rw [h3]; exact Nat.ne_of_gt (List.length_pos_iff.mpr h1)⟩
theorem pair_inj {a b c d : List UInt8} (ha : right a = true) (hc : right c = true) (h : a ++ b = c ++ d) : a = c ∧ b = d := by
  obtain ⟨a1, a2⟩ := right_tlen ha
  obtain ⟨c1, c2⟩ := right_tlen hc
  have e1 := tlen_append 40 a b a2
  have e2 := tlen_append 40 c d c2
  rw [h, e2] at e1
  exact List.append_inj h (by omega)
theorem ofL2 {k : UInt8} {a b : List UInt8} (ha : right a = true) (hb : right b = true) : ofL [k] [a, b] = if right (k :: (a ++ b)) then (k :: (a ++ b), 0) else ([], 10) := by
  unfold ofL
  simp [ha, hb]
def Fits (d : Nat) (l : List UInt8) : Prop := l ≠ [] ∧ tlen d l = l.length
theorem Fits.pos {d : Nat} {l : List UInt8} (h : Fits d l) : tlen d l ≠ 0 := by
  rw [h.2]
  exact Nat.ne_of_gt (List.length_pos_iff.mpr h.1)
theorem Fits.succ {d : Nat} {l : List UInt8} (h : Fits d l) : Fits (d + 1) l := ⟨h.1, by rw [tlen_more d l h.pos]; exact h.2⟩
theorem Fits.le {d e : Nat} {l : List UInt8} (h : Fits d l) (hde : d ≤ e) : Fits e l := by
  obtain ⟨m, rfl⟩ : ∃ m, e = d + m := ⟨e - d, by omega⟩
  induction m with
  | zero => exact h
  | succ m ih => exact (ih (by omega)).succ
theorem Fits.right {d : Nat} {l : List UInt8} (h : Fits d l) (hd : d ≤ 40) (hl : l.length ≤ 4000) : right l = true := by
  have h2 := h.le hd
  exact (right_iff _).mpr ⟨h2.1, hl, h2.2⟩
theorem Fits.hash {d : Nat} {l : List UInt8} (h : Fits d l) : Fits (d + 1) (104 :: l) := by
  refine ⟨by simp, ?_⟩
  rw [tlen_one (Or.inl rfl), if_neg h.pos, h.2, List.length_cons]
  omega
theorem Fits.pair {d : Nat} {a b : List UInt8} (ha : Fits d a) (hb : Fits d b) : Fits (d + 1) (112 :: (a ++ b)) := by
  have h1 : tlen d (a ++ b) = a.length := by rw [tlen_append d a b ha.pos]; exact ha.2
  have h2 : (a ++ b).drop a.length = b := List.drop_left
  have hp := List.length_pos_iff.mpr ha.1
  have hq := List.length_pos_iff.mpr hb.1
  refine ⟨by simp, ?_⟩
  rw [tlen_two (Or.inl rfl), if_neg (by simp), h1, if_neg (by omega), h2, hb.2, if_neg (by omega), List.length_cons, List.length_append]
  omega
theorem fits_text (t : List UInt8) (ht : t.length ≤ 3000) : Fits 1 (textT t) := by
  refine ⟨by simp [textT], ?_⟩
  have h3 := takeTextL_textL t [] 4000 (by omega)
  rw [List.append_nil, if_neg (by omega)] at h3
  unfold textT
  rw [tlen, if_neg (by decide), if_pos rfl, h3]
  simp only [if_true, List.length_nil, List.length_cons]
  omega
theorem fits_atom (n : Nat) (h : n < 18446744073709551616) : Fits 1 (97 :: encN n) := by
  have ht := takeL_encN n [] h
  rw [List.append_nil] at ht
  refine ⟨by simp, ?_⟩
  rw [tlen, if_pos rfl, ht]
  simp only [List.length_nil, List.length_cons]
  omega
def mkLeaf (s : List UInt8) (v : Nat) : List UInt8 := 112 :: (textT s ++ (97 :: encN v))
theorem mkLeaf_fits (s : List UInt8) (v : Nat) (hs : s.length ≤ 3000) (hv : v < 18446744073709551616) : Fits 2 (mkLeaf s v) := (fits_text s hs).pair (fits_atom v hv)
theorem textT_len (s : List UInt8) (hs : s.length ≤ 3000) : (textT s).length ≤ s.length + 12 := by
  have h := textL_len s (by omega)
  unfold textT
  rw [List.length_cons]
  omega
theorem mkLeaf_len (s : List UInt8) (v : Nat) (hs : s.length ≤ 6) (hv : v < 18446744073709551616) : (mkLeaf s v).length ≤ 40 := by
  have h1 := textT_len s (by omega)
  have h2 := encN_len v hv
  unfold mkLeaf
  rw [List.length_cons, List.length_append, List.length_cons]
  omega
def Good (x : List UInt8) : Prop := Fits 2 x ∧ x.length ≤ 40 ∧ leafL x = true ∧ ∃ r, x = 112 :: 116 :: r
theorem mkLeaf_good (s : List UInt8) (v : Nat) (hs : s.length ≤ 6) (hv : v < 18446744073709551616) : Good (mkLeaf s v) := by
  have h1 := mkLeaf_fits s v (by omega) hv
  have h2 := mkLeaf_len s v hs hv
  have hr := h1.right (by omega) (by omega)
  have ht := (fits_text s (by omega)).right (by omega) (by have := textT_len s (by omega); omega)
  have ha := (fits_atom v hv).right (by omega) (by have := encN_len v hv; rw [List.length_cons]; omega)
  refine ⟨h1, h2, ?_, ⟨textL s ++ (97 :: encN v), rfl⟩⟩
  have hp : partsL (mkLeaf s v) = [textT s, 97 :: encN v] := by
    have e1 := tlen_append 40 (textT s) (97 :: encN v) (right_tlen ht).2
    rw [(right_tlen ht).1] at e1
    unfold partsL mkLeaf
    rw [if_neg (by simp), if_pos (by simp), List.tail_cons, e1, List.take_left, List.drop_left]
  rw [leafL, hr, hp]
  simp only [List.getD_cons_zero, List.getD_cons_succ]
  rw [kindL, ht, kindL, ha]
  rfl
def leafOfL (s : List UInt8) (v : Nat) : List UInt8 × Int := if (ofTextL s).2 = 0 then ofL [112] [(ofTextL s).1, 97 :: encN v] else ([], (ofTextL s).2)
theorem leafOfL_small (s : List UInt8) (v : Nat) (hs : s.length ≤ 6) (hv : v < 18446744073709551616) : leafOfL s v = (mkLeaf s v, 0) := by
  have h1 := mkLeaf_fits s v (by omega) hv
  have h2 := mkLeaf_len s v hs hv
  have hr : right (112 :: (textT s ++ (97 :: encN v))) = true := h1.right (by omega) (show (mkLeaf s v).length ≤ 4000 from by omega)
  have htl := textT_len s (by omega)
  have ht := (fits_text s (by omega)).right (by omega) (by omega)
  have ha := (fits_atom v hv).right (by omega) (by have := encN_len v hv; rw [List.length_cons]; omega)
  have hT : ofTextL s = (textT s, 0) := by rw [ofTextL, if_pos (by omega)]
  rw [leafOfL, hT, if_pos rfl, ofL2 ht ha, hr]
  rfl
theorem letterlockref10_Leaf.ev (s : List UInt8) (hs : s.length ≤ 100000000) (v : Nat) (hv : v < 18446744073709551616) : Ev (fun k => letterlockref10_Leaf.f k (B s) (v : Int)) (pr (leafOfL s v)) := by
  unfold letterlockref10_Leaf.f
  refine Ev.bind (letterlockref3_OfText.ev s hs) ?_
  rw [leafOfL]
  by_cases h : (ofTextL s).2 = 0
  · have hl : (ofTextL s).1.length ≤ 4000 := by
      rw [ofTextL] at h ⊢
      split at h
      · rename_i h1; rw [if_pos h1]; exact h1
      · exact absurd h (by decide)
    simp only [pr, h, if_true]
    refine Ev.bind (letterlockref3_OfAtom.ev v hv) ?_
    refine Ev.bind (letterlockref3_OfPair.ev _ _ (by omega) (by have := encN_len v hv; rw [List.length_cons]; omega)) ?_
    exact Ev.eq (Ev.now _) rfl
  · simp only [pr, h, if_false]
    exact Ev.eq (Ev.now _) rfl
theorem ofL_one {a : List UInt8} {d : Nat} (ha : Fits d a) (hd : d < 40) (hl : a.length < 4000) : ofL [104] [a] = (104 :: a, 0) := by
  have h1 := ha.right (by omega) (by omega)
  have h2 := ha.hash.right (by omega) (by rw [List.length_cons]; omega)
  unfold ofL
  simp [h1, h2]
theorem overL_fits {a b : List UInt8} {d : Nat} (ha : Fits d a) (hb : Fits d b) (hd : d < 39) (hl : a.length + b.length < 3998) : overL a b = (104 :: 112 :: (a ++ b), 0) := by
  have h1 := ha.right (by omega) (by omega)
  have h2 := hb.right (by omega) (by omega)
  have hp := ha.pair hb
  have h3 := hp.right (by omega) (by rw [List.length_cons, List.length_append]; omega)
  have e : ofL [112] [a, b] = (112 :: (a ++ b), 0) := by rw [ofL2 h1 h2, h3]; rfl
  rw [overL, e, if_pos rfl]
  exact ofL_one hp (by omega) (by rw [List.length_cons, List.length_append]; omega)
def GoodAll (ls : List (List UInt8)) : Prop := ∀ x ∈ ls, Good x
theorem GoodAll.take {ls : List (List UInt8)} (h : GoodAll ls) (n : Nat) : GoodAll (ls.take n) := fun x hx => h x (List.mem_of_mem_take hx)
theorem GoodAll.drop {ls : List (List UInt8)} (h : GoodAll ls) (n : Nat) : GoodAll (ls.drop n) := fun x hx => h x (List.mem_of_mem_drop hx)
theorem treeL_good : ∀ (n : Nat) (ls : List (List UInt8)), GoodAll ls → ls.length = n → 1 ≤ n → n ≤ 8 → (treeL ls).2 = 0 ∧ Fits (1 + 2 * n) (treeL ls).1 ∧ (treeL ls).1.length + 2 ≤ 44 * n ∧ (∃ r, (treeL ls).1 = 104 :: r) := by
  intro n
  induction n using Nat.strongRecOn with
  | _ n ih =>
    intro ls hg hn h1 h8
    rw [treeL]
    by_cases h : 1 < ls.length
    · have f1 := firstN_pos ls.length
      have f2 := firstN_lt h
      obtain ⟨a2, a3, a4, -⟩ := ih (firstN ls.length) (by omega) (ls.take (firstN ls.length)) (hg.take _) (by rw [List.length_take]; omega) (by omega) (by omega)
      obtain ⟨b2, b3, b4, -⟩ := ih (ls.length - firstN ls.length) (by omega) (ls.drop (firstN ls.length)) (hg.drop _) (by rw [List.length_drop]) (by omega) (by omega)
      have hd : ∃ m, m = firstN ls.length := ⟨_, rfl⟩
      rw [dif_pos h, if_pos a2, if_pos b2]
      have ha := a3.le (e := 2 * n - 1) (by omega)
      have hb := b3.le (e := 2 * n - 1) (by omega)
      rw [overL_fits ha hb (by omega) (by omega)]
      refine ⟨rfl, ?_, ?_, ⟨_, rfl⟩⟩
      · have := (ha.pair hb).hash
        rw [show 2 * n - 1 + 1 + 1 = 1 + 2 * n from by omega] at this
        exact this
      · simp only [List.length_cons, List.length_append]
        omega
    · obtain ⟨x, rfl⟩ : ∃ x, ls = [x] := List.length_eq_one_iff.mp (by omega)
      obtain ⟨g1, g2, -, -⟩ := hg x (by simp)
      rw [dif_neg h, show ([x] : List (List UInt8)).getD 0 [] = x from rfl, ofL_one g1 (by omega) (by omega)]
      have hn1 : n = 1 := by rw [← hn]; rfl
      subst hn1
      exact ⟨rfl, g1.hash, by simp only [List.length_cons]; omega, ⟨_, rfl⟩⟩
theorem any_good {ls : List (List UInt8)} (h : GoodAll ls) : (ls.map B).any (fun t => !leafL (S t)) = false := by
  rw [List.any_map, List.any_eq_false]
  intro x hx
  have := (h x hx).2.2.1
  simp [S_B, this]
theorem tree_Root.good (k : Nat) (hk : 8 ≤ k) (ls : List (List UInt8)) (hg : GoodAll ls) (h1 : 1 ≤ ls.length) (h8 : ls.length ≤ 8) : tree_Root.f k (ls.map B) = some (B (treeL ls).1, 0) := by
  obtain ⟨e0, -, -, -⟩ := treeL_good ls.length ls hg rfl h1 h8
  rw [tree_Root.f, if_neg (by rw [List.length_map]; omega), any_good hg, if_neg (by decide), tree_grow.of k ls h1 h8 (by omega), pr, e0]
theorem tree_Root.none (k : Nat) (ls : List ByteArray) (h : ls.length = 0 ∨ 8 < ls.length) : tree_Root.f k ls = some (⟨#[]⟩, 1) := by
  rw [tree_Root.f, if_pos h]
theorem tree_Root.bad (k : Nat) (ls : List ByteArray) (x : ByteArray) (hx : x ∈ ls) (hl : leafL (S x) = false) : tree_Root.f k ls = some (⟨#[]⟩, 1) := by
  rw [tree_Root.f]
  split
  · rfl
  · rw [if_pos]
    rw [List.any_eq_true]
    exact ⟨x, hx, by rw [hl]; rfl⟩
end Go.Proofs.YtodiffgpefidoaaDoor.P

