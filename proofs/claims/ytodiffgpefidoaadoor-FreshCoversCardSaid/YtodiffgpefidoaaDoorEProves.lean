/- Slimmed by wip/slim.py. -/
import Derived.Test.YtodiffgpefidoaaDoorELaw10R
import Derived.Test.YtodiffgpefidoaaDoorERef10
namespace Go.Proofs.YtodiffgpefidoaaDoor.P
open Go.RowKit Go.Proofs.YtodiffgpefidoaaDoorW.PrintWords Go.Proofs.YtodiffgpefidoaaDoorW.PrintLast Go.Proofs.YtodiffgpefidoaaDoorW.PrintMore
set_option linter.unusedVariables false
set_option linter.unusedSimpArgs false
theorem proofL_len (ls : List (List UInt8)) (a : Nat) : (proofL ls a).length = (forks a 0 ls.length).length := by rw [proofL_g, List.length_reverse, List.length_map]
theorem treeL_over {ls : List (List UInt8)} (hg : GoodAll ls) (h1 : 1 < ls.length) (h8 : ls.length ≤ 8) : treeL ls = overL (treeL (ls.take (firstN ls.length))).1 (treeL (ls.drop (firstN ls.length))).1 := by
  have f1 := firstN_pos ls.length
  have f2 := firstN_lt h1
  obtain ⟨a2, -, -, -⟩ := treeL_good (firstN ls.length) (ls.take (firstN ls.length)) (hg.take _) (by rw [List.length_take]; omega) (by omega) (by omega)
  obtain ⟨b2, -, -, -⟩ := treeL_good (ls.length - firstN ls.length) (ls.drop (firstN ls.length)) (hg.drop _) (by rw [List.length_drop]) (by omega) (by omega)
  rw [treeL, dif_pos h1, if_pos a2, if_pos b2]
theorem up_proof : ∀ (n : Nat) (ls : List (List UInt8)) (a : Nat) (x : List UInt8), ls.length = n → GoodAll ls → 1 ≤ n → n ≤ 8 → a < n → ls[a]? = some x → upL (forks a 0 n).reverse (proofL ls a) (ofL [104] [x]) = treeL ls := by
  intro n
  induction n using Nat.strongRecOn with
  | _ n ih =>
    intro ls a x hn hg h1 h8 ha hx
    by_cases h : 1 < n
    · have hl1 : 1 < ls.length := by omega
      have f1 := firstN_pos n
      have f2 : firstN n < n := firstN_lt h
      obtain ⟨a2, -, -, -⟩ := treeL_good (firstN n) (ls.take (firstN n)) (hg.take _) (by rw [List.length_take]; omega) (by omega) (by omega)
      obtain ⟨b2, -, -, -⟩ := treeL_good (n - firstN n) (ls.drop (firstN n)) (hg.drop _) (by rw [List.length_drop]; omega) (by omega) (by omega)
      have ho := treeL_over hg hl1 (by omega)
      rw [hn] at ho
      by_cases hk : a < firstN n
      · have hp := proofL_lo ls a hl1 (by rw [hn]; exact hk)
        rw [hn] at hp
        have i := ih (firstN n) f2 (ls.take (firstN n)) a x (by rw [List.length_take]; omega) (hg.take _) (by omega) (by omega) hk (by rw [List.getElem?_take, if_pos hk]; exact hx)
        have hlen : (forks a 0 (firstN n)).reverse.length = (proofL (ls.take (firstN n)) a).length := by rw [List.length_reverse, proofL_len, List.length_take, hn, Nat.min_eq_left (by omega)]
        rw [forks_rev_lo n a h hk, hp, upL_snoc _ _ _ _ _ hlen, i, if_pos a2, ho]
        rfl
      · have hp := proofL_hi ls a hl1 (by rw [hn]; omega)
        rw [hn] at hp
        have i := ih (n - firstN n) (by omega) (ls.drop (firstN n)) (a - firstN n) x (by rw [List.length_drop]; omega) (hg.drop _) (by omega) (by omega) (by omega) (by rw [List.getElem?_drop, show firstN n + (a - firstN n) = a from by omega]; exact hx)
        have hlen : ((forks (a - firstN n) 0 (n - firstN n)).reverse.map (shF (firstN n))).length = (proofL (ls.drop (firstN n)) (a - firstN n)).length := by rw [List.length_map, List.length_reverse, proofL_len, List.length_drop, hn]
        rw [forks_rev_hi n a h (by omega), hp, upL_snoc _ _ _ _ _ hlen, upL_shift, i, if_pos b2, ho]
        rfl
    · have hn1 : n = 1 := by omega
      subst hn1
      obtain ⟨y, rfl⟩ := List.length_eq_one_iff.mp hn
      have ha0 : a = 0 := by omega
      subst ha0
      obtain rfl : y = x := by simpa using hx
      rw [forks_one, proofL_g, show ([y] : List (List UInt8)).length = 1 from rfl, forks_one, treeL, dif_neg (by simp)]
      rfl
theorem overL_eq {a b : List UInt8} (h : (overL a b).2 = 0) : (overL a b).1 = 104 :: 112 :: (a ++ b) := by
  obtain ⟨ra, rb, -⟩ := overL_ok h
  have e : (ofL [112] [a, b]).2 = 0 → (ofL [112] [a, b]).1 = 112 :: (a ++ b) := by
    intro h0
    rw [ofL2 ra rb] at h0 ⊢
    split at h0
    · rename_i h1; rw [if_pos h1]
    · exact absurd h0 (by decide)
  unfold overL at h ⊢
  by_cases h1 : (ofL [112] [a, b]).2 = 0
  · rw [if_pos h1] at h ⊢
    rw [e h1] at h ⊢
    unfold ofL at h ⊢
    split at h
    · rename_i h2
      rw [if_pos h2]
      split at h
      · rename_i h3; rw [if_pos h3]; simp
      · exact absurd h (by decide)
    · exact absurd h (by decide)
  · rw [if_neg h1] at h
    exact absurd h h1
theorem upL_inj : ∀ (fs : List Fk) (qs ps : List (List UInt8)) (u v : List UInt8 × Int), fs.length = qs.length → fs.length = ps.length → (upL fs qs u).2 = 0 → (upL fs ps v).2 = 0 → (upL fs qs u).1 = (upL fs ps v).1 → qs = ps ∧ u.1 = v.1
  | [], [], [], u, v, _, _, _, _, e => ⟨rfl, e⟩
  | [], q :: qs, ps, u, v, h, _, _, _, _ => by simp at h
  | [], [], p :: ps, u, v, _, h, _, _, _ => by simp at h
  | f :: fs, [], ps, u, v, h, _, _, _, _ => by simp at h
  | f :: fs, q :: qs, [], u, v, _, h, _, _, _ => by simp at h
  | f :: fs, q :: qs, p :: ps, u, v, h1, h2, hu, hv, e => by
    rw [upL] at hu hv e
    rw [upL] at e
    by_cases u0 : u.2 = 0
    · by_cases v0 : v.2 = 0
      · rw [if_pos u0] at hu e
        rw [if_pos v0] at hv e
        obtain ⟨r1, r2⟩ := upL_inj fs qs ps _ _ (by simpa using h1) (by simpa using h2) hu hv e
        have k1 : (if f.f2 then overL q u.1 else overL u.1 q).2 = 0 := by
          by_cases hh : (if f.f2 then overL q u.1 else overL u.1 q).2 = 0
          · exact hh
          · rw [upL_err hh] at hu; exact hu
        have k2 : (if f.f2 then overL p v.1 else overL v.1 p).2 = 0 := by
          by_cases hh : (if f.f2 then overL p v.1 else overL v.1 p).2 = 0
          · exact hh
          · rw [upL_err hh] at hv; exact hv
        cases hf : f.f2
        · rw [hf] at k1 k2 r2
          simp only [Bool.false_eq_true, if_false] at k1 k2 r2
          rw [overL_eq k1, overL_eq k2] at r2
          obtain ⟨a1, a2⟩ := pair_inj (overL_ok k1).1 (overL_ok k2).1 (List.cons.inj (List.cons.inj r2).2).2
          exact ⟨by rw [r1, a2], a1⟩
        · rw [hf] at k1 k2 r2
          simp only [if_true] at k1 k2 r2
          rw [overL_eq k1, overL_eq k2] at r2
          obtain ⟨a1, a2⟩ := pair_inj (overL_ok k1).1 (overL_ok k2).1 (List.cons.inj (List.cons.inj r2).2).2
          exact ⟨by rw [r1, a1], a2⟩
      · rw [if_neg v0] at hv
        exact absurd hv v0
    · rw [if_neg u0] at hu
      exact absurd hu u0
theorem verifyT_eq (root t : List UInt8) (n a : Nat) (ps : List (List UInt8)) (h1 : 1 ≤ n) (h8 : n ≤ 8) (ha : a < n) (hl : leafL t = true) (hlen : (forks a 0 n).length = ps.length) :
    verifyT root (n : Int) (a : Int) t ps = decide ((upL (forks a 0 n).reverse ps (ofL [104] [t])).2 = 0 ∧ (upL (forks a 0 n).reverse ps (ofL [104] [t])).1 = root) := by
  rw [verifyT, if_neg (by rw [hl]; simp; omega), Int.toNat_natCast, Int.toNat_natCast, if_neg (fun h => h hlen)]
theorem verifyT_len (root t : List UInt8) (n a : Nat) (ps : List (List UInt8)) (hlen : (forks a 0 n).length ≠ ps.length) : verifyT root (n : Int) (a : Int) t ps = false := by
  rw [verifyT]
  split
  · rfl
  · rw [Int.toNat_natCast, Int.toNat_natCast, if_pos hlen]
theorem verify_yes {ls : List (List UInt8)} (hg : GoodAll ls) (h1 : 1 ≤ ls.length) (h8 : ls.length ≤ 8) (a : Nat) (ha : a < ls.length) : verifyT (treeL ls).1 (ls.length : Int) (a : Int) ls[a] (proofL ls a) = true := by
  have hx := hg _ (List.getElem_mem ha)
  have u := up_proof ls.length ls a ls[a] rfl hg h1 h8 ha (List.getElem?_eq_getElem ha)
  obtain ⟨e0, -, -, -⟩ := treeL_good ls.length ls hg rfl h1 h8
  rw [verifyT_eq _ _ _ _ _ h1 h8 ha hx.2.2.1 (proofL_len ls a).symm, u, e0]
  simp
theorem verify_no {ls : List (List UInt8)} (hg : GoodAll ls) (h1 : 1 ≤ ls.length) (h8 : ls.length ≤ 8) (a : Nat) (ha : a < ls.length) (t : List UInt8) (ht : Good t) (qs : List (List UInt8)) (hne : ¬ (t = ls[a] ∧ qs = proofL ls a)) : verifyT (treeL ls).1 (ls.length : Int) (a : Int) t qs = false := by
  by_cases hl : (forks a 0 ls.length).length = qs.length
  · have hx := hg _ (List.getElem_mem ha)
    have u := up_proof ls.length ls a ls[a] rfl hg h1 h8 ha (List.getElem?_eq_getElem ha)
    obtain ⟨e0, -, -, -⟩ := treeL_good ls.length ls hg rfl h1 h8
    rw [verifyT_eq _ _ _ _ _ h1 h8 ha ht.2.2.1 hl, decide_eq_false_iff_not]
    rintro ⟨z, e⟩
    rw [← u] at e e0
    obtain ⟨r1, r2⟩ := upL_inj _ qs (proofL ls a) _ _ (by rw [List.length_reverse]; exact hl) (by rw [List.length_reverse]; exact (proofL_len ls a).symm) z e0 e
    rw [ofL_one ht.1 (by omega) (by have := ht.2.1; omega), ofL_one hx.1 (by omega) (by have := hx.2.1; omega)] at r2
    exact hne ⟨(List.cons.inj r2).2, r1⟩
  · exact verifyT_len _ _ _ _ _ hl
theorem verify_place (root t : List UInt8) (n : Nat) (a : Int) (ps : List (List UInt8)) (h : a < 0 ∨ (n : Int) ≤ a) : verifyT root (n : Int) a t ps = false := by
  rw [verifyT, if_pos (by omega)]
end Go.Proofs.YtodiffgpefidoaaDoor.P

