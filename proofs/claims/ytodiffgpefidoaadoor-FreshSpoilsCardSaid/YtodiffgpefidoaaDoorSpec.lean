/- Slimmed by wip/slim.py. -/
import Derived.Test.YtodiffgpefidoaaDoorWAll
import Derived.Lib.BitFns
import Derived.Lib.Strings
namespace Go.Proofs.YtodiffgpefidoaaDoor.P
open Go.Proofs.YtodiffgpefidoaaDoorW.PrintWords
set_option linter.unusedVariables false
set_option linter.unusedSimpArgs false
def B (l : List UInt8) : ByteArray := ⟨l.toArray⟩
def S (s : ByteArray) : List UInt8 := s.data.toList
theorem B_S (s : ByteArray) : B (S s) = s := rfl
theorem S_B (l : List UInt8) : S (B l) = l := rfl
theorem B_inj {l m : List UInt8} (h : B l = B m) : l = m := by rw [← S_B l, h, S_B]
theorem size_B (l : List UInt8) : (B l).size = l.length := by simp [B, ByteArray.size]
theorem size_S (s : ByteArray) : s.size = (S s).length := by rw [← size_B, B_S]
theorem append_B (l m : List UInt8) : B l ++ B m = B (l ++ m) := by
  apply ByteArray.ext; simp [B]
theorem extract_B (l : List UInt8) (i j : Nat) : (B l).extract i j = B ((l.take j).drop i) := by
  apply ByteArray.ext; simp [B, List.extract_eq_take_drop, List.drop_take]
theorem toList_S (s : ByteArray) : s.toList = S s := ByteArray.toList_eq s
theorem toList_B (l : List UInt8) : (B l).toList = l := by rw [toList_S, S_B]
theorem bt_B (l : List UInt8) (i : Int) : bt (B l) i = (((l.getD i.toNat 0).toNat : Nat) : Int) := by
  unfold bt
  split
  · rename_i h
    rw [size_B] at h
    simp [List.getD_eq_getElem?_getD, h]; rfl
  · rename_i h
    rw [size_B] at h
    simp [List.getD_eq_getElem?_getD, List.getElem?_eq_none (by omega : l.length ≤ i.toNat)]
def numOf (l : List UInt8) : Nat := l.foldl (fun a b => 256 * a + b.toNat) 0
theorem numOf_snoc (l : List UInt8) (b : UInt8) : numOf (l ++ [b]) = 256 * numOf l + b.toNat := by simp [numOf]
theorem numOf_lt (l : List UInt8) : numOf l < 256 ^ l.length := by
  have key : ∀ (n : Nat) (l : List UInt8), l.length = n → numOf l < 256 ^ n := by
    intro n
    induction n with
    | zero => intro l h; obtain rfl := List.eq_nil_of_length_eq_zero h; decide
    | succ n ih =>
      intro l h
      have hne : l ≠ [] := by intro e; simp [e] at h
      obtain ⟨m, b, rfl⟩ : ∃ m b, l = m ++ [b] := ⟨l.dropLast, l.getLast hne, (List.dropLast_concat_getLast hne).symm⟩
      have := ih m (by simpa using h)
      have hb := b.toNat_lt
      rw [numOf_snoc, Nat.pow_succ]
      omega
  exact key _ l rfl
def takeL : List UInt8 → Option (Nat × List UInt8)
  | [] => none
  | z :: r => if z.toNat ≤ 8 ∧ z.toNat ≤ r.length ∧ ¬ (0 < z.toNat ∧ r.getD 0 0 = 0) then some (numOf (r.take z.toNat), r.drop z.toNat) else none
end Go.Proofs.YtodiffgpefidoaaDoor.P

