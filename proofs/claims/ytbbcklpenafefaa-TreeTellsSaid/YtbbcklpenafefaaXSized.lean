/- A slice of texts that comes in: how it reads, and how long it and its texts can be. -/
import Derived.SizedLaws
import Derived.SliceStrings
import Derived.Test.YtbbcklpenafefaaWWords
namespace Go.Proofs.Ytbbcklpenafefaa.P
open Go.RowKit Go.ChangeShapes Go.WideShapes Go.Proofs.YtbbcklpenafefaaW.PrintWords
set_option linter.unusedVariables false
theorem weightsAll_mem {H : Type} {P : Program} {e : TypeId} {x : DataW H} : ∀ {l : List (DataW H)}, x ∈ l → ∀ n ∈ x.weights P e, n ∈ DataW.weightsAll P e l
  | y :: l, h, n, hn => by
    unfold DataW.weightsAll
    rcases List.mem_cons.mp h with rfl | h
    · exact List.mem_append_left _ hn
    · exact List.mem_append_right _ (weightsAll_mem h n hn)
theorem open_strs {H : Type} {enc : TypeId × Value → H} {P : Program} {W : World} {base : Nat} {spare : Nat → Bool} {held : Bool} {t e : TypeId} {a : Option Addr} {len cap : Nat} {d : DataW H} {ps : List MemPlace} {ts : List TypeId} {ds : List (DataW H)} {j : Nat}
    (hsz : (DataW.weightsEach P ts ds).all (· ≤ reachBytes) = true) (ht : ts[j]? = some t) (hd : ds[j]? = some d) (hu : P.underlying t = some (.slice e)) (he : P.underlying e = some .string) (hc : P.cellsOf e = 1) (hB : P.bytesOf e = 16)
    (h : DataW.Trod enc P W base spare held t (.slice a len cap) d ps) : ∃ zs : List ByteArray, Kd.C Kd.string W a len zs ∧ len ≤ cap ∧ len * 16 ≤ 140737488351232 ∧ ∀ x ∈ zs, x.size ≤ 140737488351232 := by
  obtain ⟨fuel, hf⟩ := h
  rcases open_strings hu he hc hf with ⟨hcs, _⟩ | ⟨x, l, c, ss, hcs, _, hl, hm, hz, hx, hcell, hw⟩
  · simp [Value.cells] at hcs
    obtain ⟨rfl, rfl, rfl⟩ := hcs
    exact ⟨[], ⟨rfl, by omega, fun hp => absurd hp (by omega)⟩, by omega, by omega, by simp⟩
  · simp [Value.cells] at hcs
    obtain ⟨rfl, rfl, rfl⟩ := hcs
    obtain ⟨hx, _⟩ := Prod.mk.inj hx
    subst hx
    have z := sized_slice hsz ht hd hu
    rw [hB] at z
    have hl2 : len ≤ ss.length := by
      rw [hz]
      split
      · exact hl
      · exact Nat.le_refl _
    have h1 : (strs (H := H) (ss.take len)).length + (strs (H := H) (ss.drop len)).length = ss.length := by
      simp [strs]
      omega
    rw [h1] at z
    have hm' : cap ≤ 9223372036854775807 := hm
    refine ⟨ss.take len, Kd.C_of_reads (d := ByteArray.empty) (h1 := fun _ => rfl) ⟨by rw [List.length_take]; omega, by omega, fun hp => ⟨x, rfl, fun i hi => ?_⟩⟩, hl, Nat.le_trans (Nat.mul_le_mul_right _ hl2) z, fun s hs => ?_⟩
    · rw [hcell i (by omega)]
      simp [List.getD_eq_getElem?_getD, hi]
    · have hmem := DataW.weights_mem_each (P := P) ht hd
      have hin : s.data.toList.length ∈ DataW.weights P t (.slice (strs (H := H) (ss.take len)) (strs (ss.drop len))) := by
        unfold DataW.weights
        rw [hu]
        refine List.mem_cons_of_mem _ (List.mem_append_left _ (weightsAll_mem (x := .lit (.string s.data.toList)) ?_ _ ?_))
        · unfold strs
          exact List.mem_map_of_mem hs
        · unfold DataW.weights
          simp
      have := List.all_eq_true.mp hsz _ (hmem _ hin)
      simp only [decide_eq_true_eq] at this
      have hr : reachBytes = 140737488351232 := by decide
      rw [hr, Array.length_toList] at this
      exact this
end Go.Proofs.Ytbbcklpenafefaa.P
