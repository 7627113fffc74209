/- Slimmed by wip/slim.py. -/
import Derived.Test.YtodiffgpefidoaaDoorELaw11C
import Derived.Test.YtodiffgpefidoaaDoorEProves
import Derived.Test.YtodiffgpefidoaaDoorGLFreshCovers
namespace Go.Proofs.YtodiffgpefidoaaDoor.Pure
set_option linter.unusedVariables false
set_option linter.unusedSimpArgs false
open Go.RowKit Go.Proofs.YtodiffgpefidoaaDoor.P Go.Proofs.YtodiffgpefidoaaDoorW.PrintWords Go.Proofs.YtodiffgpefidoaaDoorW.PrintLast Go.Proofs.YtodiffgpefidoaaDoorW.PrintMore
theorem verifyK (k : Nat) (root t : ByteArray) (n a : Int) (l : List ByteArray) (r : Bool) (h : verifyT (S root) n a (S t) (l.map S) = r) : tree_Verify.f k root n a t l = some r := by rw [tree_Verify.f, h]
theorem proof_good (k : Nat) (hk : 8 ≤ k) (ls : List (List UInt8)) (hg : GoodAll ls) (h1 : 1 ≤ ls.length) (h8 : ls.length ≤ 8) (p : Nat) (hp : p < ls.length) : tree_Proof.f k (ls.map B) (p : Int) = some ((proofL ls p).map B, 0) := by
  rw [tree_Proof.f, tree_Root.good k hk ls hg h1 h8, Option.bind_some, if_pos rfl, if_pos (by rw [List.length_map]; omega), Int.toNat_natCast, List.map_map, show (S ∘ B) = id from by funext z; exact S_B z, List.map_id]
theorem covers (k : Nat) (o : List UInt8) (t n : Nat) (r g : List UInt8) (ho : o.length ≤ 1000000000) (hR : rightS o n r g = true) (a : Int) (x : ByteArray) (l : List ByteArray) (b : Bool) (h : verifyT r (n : Int) a (S x) (l.map S) = b) :
    fresh_Covers.f k (B o) (t : Int) (n : Int) (B r) (B g) a x l = some b := by
  rw [fresh_Covers.f, fresh_Right.of k o ho, Option.bind_some, hR, if_pos rfl, verifyK k (B r) x n a l b (by rw [S_B]; exact h), Option.bind_some]
theorem covers_none (k : Nat) (a : Int) (x : ByteArray) (l : List ByteArray) : fresh_Covers.f k (⟨#[]⟩ : ByteArray) 0 0 (⟨#[]⟩ : ByteArray) (⟨#[]⟩ : ByteArray) a x l = some false := by
  have h : fresh_Right.f k (⟨#[]⟩ : ByteArray) 0 0 (⟨#[]⟩ : ByteArray) (⟨#[]⟩ : ByteArray) = some false := by
    have := fresh_Right.of k [] (by decide) 0 0 [] []
    rw [rightS, nameT_nil] at this
    exact this
  rw [fresh_Covers.f, h, Option.bind_some, if_neg (by decide)]
theorem FreshCovers : letterlocklaw11_FreshCovers.Pure := by
  intro l0 a1 a2 m0 y0 w0 w1 w2
  obtain ⟨b10, b11⟩ := wfi64 w1
  obtain ⟨b20, b21⟩ := wfi64 w2
  obtain ⟨ls, hls, hlen, K1, e1⟩ := letterlocklaw11_row.ev l0 w0
  have hg := leaves_good hls
  have h8 : ls.length ≤ 8 := by omega
  obtain ⟨hf, hl⟩ := rootL_fits hg h8
  have hR := built_right [97, 110, 110, 97] anna 5 (by decide) ls.length h8 (rootL ls) hf hl ls.length h8 (rootL ls) (rootL_right hg h8)
  obtain ⟨o, ho, eo⟩ := letterlocklaw11_pick.of a2 b20 b21 9 (by decide) (by decide)
  have eo : letterlocklaw11_pick.f a2 9 = some (o : Int) := eo
  obtain ⟨K0, e0⟩ := letterlocklaw11_shown.ev
  obtain ⟨K2, e2⟩ := letterlocklaw11_secretOf.ev [97, 110, 110, 97] (by decide)
  obtain ⟨K3, e3⟩ := fresh_Build.ev11 [97, 110, 110, 97] anna 5 (by decide) ls hg h8
  obtain ⟨K4, e4⟩ := tree_Leaf.ev [111, 116, 104, 101, 114] (by decide) o (by omega)
  rw [leafOfL_small _ o (by decide) (by omega)] at e4
  refine ⟨K0 + K1 + K2 + K3 + K4 + 12, ?_⟩
  obtain ⟨k, hk⟩ : ∃ k, k = K0 + K1 + K2 + K3 + K4 + 12 := ⟨_, rfl⟩
  rw [← hk]
  obtain ⟨G, hG⟩ : ∃ G, G = sigL [97, 110, 110, 97] 5 ls.length (rootL ls) := ⟨_, rfl⟩
  rw [← hG] at e3 hR
  have g0 : letterlocklaw11_shown.f k = _ := e0 k (by omega)
  have g1 : letterlocklaw11_row.f k l0 = _ := e1 k (by omega)
  have g2 : letterlocklaw11_secretOf.f k (⟨#[97, 110, 110, 97]⟩ : ByteArray) = _ := e2 k (by omega)
  have g3 : fresh_Build.f k (B (secretL [97, 110, 110, 97])) (⟨#[97, 110, 110, 97]⟩ : ByteArray) 5 (ls.map B) = some (B [97, 110, 110, 97], 5, (ls.length : Int), B (rootL ls), B G, 0) := e3 k (by omega)
  have g4 : tree_Leaf.f k (⟨#[111, 116, 104, 101, 114]⟩ : ByteArray) (o : Int) = some (B (other o), 0) := e4 k (by omega)
  have hm : (ls.map B).length = ls.length := List.length_map ..
  have pm : ∀ l : List (List UInt8), (l.map B).map S = l := fun l => by rw [List.map_map, show (S ∘ B) = id from by funext z; exact S_B z, List.map_id]
  have C : ∀ (a : Int) (x : ByteArray) (l : List ByteArray) (b : Bool), verifyT (rootL ls) (ls.length : Int) a (S x) (l.map S) = b → fresh_Covers.f k (B [97, 110, 110, 97]) 5 (ls.length : Int) (B (rootL ls)) (B G) a x l = some b :=
    fun a x l b h => covers k [97, 110, 110, 97] 5 ls.length (rootL ls) G (by decide) hR a x l b h
  rw [letterlocklaw11_FreshCovers.f, g0, Option.bind_some, if_pos rfl, g1, Option.bind_some, g2, Option.bind_some, g3, Option.bind_some, eo, Option.bind_some, wu64 _ (by omega) (by omega), g4, Option.bind_some, if_pos rfl]
  by_cases hz : ls.length = 0
  · rw [if_pos (show ((ls.map B).length : Int) = 0 by omega), if_pos (show (ls.length : Int) = 0 by omega), C 0 _ [] false (verify_place _ _ _ _ _ (Or.inr (by omega))), Option.bind_some]
    rfl
  · have h1 : 1 ≤ ls.length := by omega
    have hroot : rootL ls = (treeL ls).1 := by rw [rootL, if_neg hz]
    obtain ⟨p, hp, ep⟩ := letterlocklaw11_pick.of a1 b10 b11 ls.length (by omega) (by omega)
    obtain ⟨j, hj, ej⟩ := letterlocklaw11_pick.of a2 b20 b21 ls.length (by omega) (by omega)
    have rk : rdOf ByteArray.empty (ls.map B) (p : Int) = B ls[p] := rdOf_map ls p hp
    have rj : rdOf ByteArray.empty (ls.map B) (j : Int) = B ls[j] := rdOf_map ls j hj
    have no := fun t ht qs hne => verify_no hg h1 h8 p hp t ht qs hne
    have CY := C (p : Int) (rdOf ByteArray.empty (ls.map B) (p : Int)) ((proofL ls p).map B) true (by rw [rk, pm, S_B, hroot]; exact verify_yes hg h1 h8 p hp)
    have CO := C (p : Int) (B (other o)) ((proofL ls p).map B) false (by rw [pm, S_B, hroot]; exact no _ (other_good o (by omega)) _ (fun h => (hls _ (List.getElem_mem hp)).ne o (by omega) h.1.symm))
    have CF := C (ls.length : Int) (rdOf ByteArray.empty (ls.map B) (p : Int)) ((proofL ls p).map B) false (verify_place _ _ _ _ _ (Or.inr (Int.le_refl _)))
    have g5 := proof_good k (by omega) ls hg h1 h8 p hp
    rw [← hm] at ep ej
    rw [if_neg (show ¬ ((ls.map B).length : Int) = 0 by omega), ep, Option.bind_some, g5, Option.bind_some, ej, Option.bind_some, if_pos rfl, if_pos (by omega), if_pos (by omega), CY, Option.bind_some, if_pos rfl, CO, Option.bind_some, if_neg (by decide), if_pos (by omega), if_pos (by omega), hm]
    by_cases hy : (rdOf ByteArray.empty (ls.map B) (j : Int)).toList = (rdOf ByteArray.empty (ls.map B) (p : Int)).toList
    · rw [if_pos hy, CF, Option.bind_some, if_neg (by decide), covers_none, Option.bind_some]
      rfl
    · have CL := C (p : Int) (rdOf ByteArray.empty (ls.map B) (j : Int)) ((proofL ls p).map B) false (by
        rw [rk, rj, toList_B, toList_B] at hy
        rw [rj, pm, S_B, hroot]
        exact no _ (hg _ (List.getElem_mem hj)) _ (fun h => hy h.1))
      rw [if_neg hy, CL, Option.bind_some, if_neg (by decide), CF, Option.bind_some, if_neg (by decide), covers_none, Option.bind_some]
      rfl
end Go.Proofs.YtodiffgpefidoaaDoor.Pure

