/- Slimmed by wip/slim.py. -/
import Derived.Test.YtodiffgpefidoaaGreatDoorXTree
import Derived.Test.YtodiffgpefidoaaGreatDoorGRef10
namespace Go.Proofs.YtodiffgpefidoaaGreatDoor.P
open Go.RowKit Go.Proofs.YtodiffgpefidoaaGreatDoorW.PrintWords Go.Proofs.YtodiffgpefidoaaGreatDoorW.PrintLast Go.Proofs.YtodiffgpefidoaaGreatDoorW.PrintMore
set_option linter.unusedVariables false
set_option linter.unusedSimpArgs false
theorem wf64 {n : Int} (h : (Lit.int .u64 n).wf = true) : ∃ m : Nat, n = (m : Int) ∧ m < 18446744073709551616 := by
  simp only [Lit.wf, Bool.and_eq_true, decide_eq_true_iff] at h
  obtain ⟨h1, h2⟩ := h
  have h3 : (0 : Int) ≤ n := h1
  have h4 : n ≤ 18446744073709551615 := h2
  exact ⟨n.toNat, by omega, by omega⟩
theorem ofB (s : ByteArray) : ∃ l, s = B l ∧ l.length = s.size := ⟨S s, rfl, (size_S s).symm⟩
theorem letterlockref3_OfPair.ev (a b : List UInt8) (ha : a.length ≤ 100000000) (hb : b.length ≤ 100000000) : Ev (fun k => letterlockref3_OfPair.f k (B a) (B b)) (pr (ofL [112] [a, b])) := by
  unfold letterlockref3_OfPair.f
  refine Ev.bind (letterlockref3_two.ev 112 a b ha hb) ?_
  exact Ev.eq (Ev.now _) rfl
theorem letterlockref3_OfHash.ev (a : List UInt8) (ha : a.length ≤ 100000000) : Ev (fun k => letterlockref3_OfHash.f k (B a)) (pr (ofL [104] [a])) := by
  unfold letterlockref3_OfHash.f
  refine Ev.bind (letterlockref3_one.ev 104 a ha) ?_
  exact Ev.eq (Ev.now _) rfl
theorem ofL_right {k : List UInt8} {ls : List (List UInt8)} (h : (ofL k ls).2 = 0) : right (ofL k ls).1 = true := by
  unfold ofL at h ⊢
  split at h
  · rename_i h1
    rw [if_pos h1]
    split at h
    · rename_i h2
      rw [if_pos h2]
      exact h2
    · exact absurd h (by decide)
  · exact absurd h (by decide)
theorem ofL_len (k : List UInt8) (ls : List (List UInt8)) : (ofL k ls).1.length ≤ 4000 := by
  unfold ofL
  split
  · split
    · rename_i h; exact (right_pos h).2
    · simp
  · simp
theorem ofL2 {k : UInt8} {a b : List UInt8} (ha : right a = true) (hb : right b = true) : ofL [k] [a, b] = if right (k :: (a ++ b)) then (k :: (a ++ b), 0) else ([], 10) := by
  unfold ofL
  simp [ha, hb]
def Fits (d : Nat) (l : List UInt8) : Prop := l ≠ [] ∧ tlen d l = l.length
theorem Fits.pos {d : Nat} {l : List UInt8} (h : Fits d l) : tlen d l ≠ 0 := by
  rw [h.2]
  exact Nat.ne_of_gt (List.length_pos_iff.mpr h.1)
theorem Fits.succ {d : Nat} {l : List UInt8} (h : Fits d l) : Fits (d + 1) l := ⟨h.1, by rw [tlen_more d l h.pos]; exact h.2⟩
theorem Fits.le {d e : Nat} {l : List UInt8} (h : Fits d l) (hde : d ≤ e) : Fits e l := by
  obtain ⟨m, rfl⟩ : ∃ m, e = d + m := ⟨e - d, by omega⟩
  induction m with
  | zero => exact h
  | succ m ih => exact (ih (by omega)).succ
theorem Fits.right {d : Nat} {l : List UInt8} (h : Fits d l) (hd : d ≤ 40) (hl : l.length ≤ 4000) : right l = true := by
  have h2 := h.le hd
  exact (right_iff _).mpr ⟨h2.1, hl, h2.2⟩
theorem Fits.hash {d : Nat} {l : List UInt8} (h : Fits d l) : Fits (d + 1) (104 :: l) := by
  refine ⟨by simp, ?_⟩
  rw [tlen_one (Or.inl rfl), if_neg h.pos, h.2, List.length_cons]
  omega
theorem Fits.pair {d : Nat} {a b : List UInt8} (ha : Fits d a) (hb : Fits d b) : Fits (d + 1) (112 :: (a ++ b)) := by
  have h1 : tlen d (a ++ b) = a.length := by rw [tlen_append d a b ha.pos]; exact ha.2
  have h2 : (a ++ b).drop a.length = b := List.drop_left
  have hp := List.length_pos_iff.mpr ha.1
  have hq := List.length_pos_iff.mpr hb.1
  refine ⟨by simp, ?_⟩
  rw [tlen_two (Or.inl rfl), if_neg (by simp), h1, if_neg (by omega), h2, hb.2, if_neg (by omega), List.length_cons, List.length_append]
  omega
theorem fits_text (t : List UInt8) (ht : t.length ≤ 3000) : Fits 1 (textT t) := by
  refine ⟨by simp [textT], ?_⟩
  have h3 := takeTextL_textL t [] 4000 (by omega)
  rw [List.append_nil, if_neg (by omega)] at h3
  unfold textT
  rw [tlen, if_neg (by decide), if_pos rfl, h3]
  simp only [if_true, List.length_nil, List.length_cons]
  omega
theorem fits_atom (n : Nat) (h : n < 18446744073709551616) : Fits 1 (97 :: encN n) := by
  have ht := takeL_encN n [] h
  rw [List.append_nil] at ht
  refine ⟨by simp, ?_⟩
  rw [tlen, if_pos rfl, ht]
  simp only [List.length_nil, List.length_cons]
  omega
def mkLeaf (s : List UInt8) (v : Nat) : List UInt8 := 112 :: (textT s ++ (97 :: encN v))
theorem mkLeaf_fits (s : List UInt8) (v : Nat) (hs : s.length ≤ 3000) (hv : v < 18446744073709551616) : Fits 2 (mkLeaf s v) := (fits_text s hs).pair (fits_atom v hv)
theorem textT_len (s : List UInt8) (hs : s.length ≤ 3000) : (textT s).length ≤ s.length + 12 := by
  have h := textL_len s (by omega)
  unfold textT
  rw [List.length_cons]
  omega
theorem ofL_one {a : List UInt8} {d : Nat} (ha : Fits d a) (hd : d < 40) (hl : a.length < 4000) : ofL [104] [a] = (104 :: a, 0) := by
  have h1 := ha.right (by omega) (by omega)
  have h2 := ha.hash.right (by omega) (by rw [List.length_cons]; omega)
  unfold ofL
  simp [h1, h2]
theorem forks_one (at_ : Nat) : forks at_ 0 1 = [] := by rw [forks, dif_neg (by omega)]
theorem rdOf_map (ls : List (List UInt8)) (i : Nat) (h : i < ls.length) : rdOf ByteArray.empty (ls.map B) (i : Int) = B ls[i] := by
  simp [rdOf, List.getD_eq_getElem?_getD, h]
end Go.Proofs.YtodiffgpefidoaaGreatDoor.P

