/- Slimmed by wip/slim.py. -/
import Derived.SizedLaws
import Derived.SliceStrings
import Derived.Test.YtodiffgpefidoaaGreatDoorWAll
import Derived.ChangeSame
import Derived.WideShapes
import Derived.ShutString
import Derived.KernelRfl
import Derived.Test.YtodiffgpefidoaaGreatDoorProg
namespace Go.Proofs.YtodiffgpefidoaaGreatDoor.P
open Go.RowKit Go.ChangeShapes Go.WideShapes Go.Proofs.YtodiffgpefidoaaGreatDoorW.PrintWords
set_option linter.unusedVariables false
theorem weightsAll_mem {H : Type} {P : Program} {e : TypeId} {x : DataW H} : ∀ {l : List (DataW H)}, x ∈ l → ∀ n ∈ x.weights P e, n ∈ DataW.weightsAll P e l
  | y :: l, h, n, hn => by
    unfold DataW.weightsAll
    rcases List.mem_cons.mp h with rfl | h
    · exact List.mem_append_left _ hn
    · exact List.mem_append_right _ (weightsAll_mem h n hn)
theorem open_strs {H : Type} {enc : TypeId × Value → H} {P : Program} {W : World} {base : Nat} {spare : Nat → Bool} {held : Bool} {t e : TypeId} {a : Option Addr} {len cap : Nat} {d : DataW H} {ps : List MemPlace} {ts : List TypeId} {ds : List (DataW H)} {j : Nat}
    (hsz : (DataW.weightsEach P ts ds).all (· ≤ reachBytes) = true) (ht : ts[j]? = some t) (hd : ds[j]? = some d) (hu : P.underlying t = some (.slice e)) (he : P.underlying e = some .string) (hc : P.cellsOf e = 1) (hB : P.bytesOf e = 16)
    (h : DataW.Trod enc P W base spare held t (.slice a len cap) d ps) : ∃ zs : List ByteArray, Kd.C Kd.string W a len zs ∧ len ≤ cap ∧ len * 16 ≤ 140737488351232 ∧ ∀ x ∈ zs, x.size ≤ 140737488351232 := by
  obtain ⟨fuel, hf⟩ := h
  rcases open_strings hu he hc hf with ⟨hcs, _⟩ | ⟨x, l, c, ss, hcs, _, hl, hm, hz, hx, hcell, hw⟩
  · simp [Value.cells] at hcs
    obtain ⟨rfl, rfl, rfl⟩ := hcs
    exact ⟨[], ⟨rfl, by omega, fun hp => absurd hp (by omega)⟩, by omega, by omega, by simp⟩
  · simp [Value.cells] at hcs
    obtain ⟨rfl, rfl, rfl⟩ := hcs
    obtain ⟨hx, _⟩ := Prod.mk.inj hx
    subst hx
    have z := sized_slice hsz ht hd hu
    rw [hB] at z
    have hl2 : len ≤ ss.length := by
      rw [hz]
      split
      · exact hl
      · exact Nat.le_refl _
    have h1 : (strs (H := H) (ss.take len)).length + (strs (H := H) (ss.drop len)).length = ss.length := by
      simp [strs]
      omega
    rw [h1] at z
    have hm' : cap ≤ 9223372036854775807 := hm
    refine ⟨ss.take len, Kd.C_of_reads (d := ByteArray.empty) (h1 := fun _ => rfl) ⟨by rw [List.length_take]; omega, by omega, fun hp => ⟨x, rfl, fun i hi => ?_⟩⟩, hl, Nat.le_trans (Nat.mul_le_mul_right _ hl2) z, fun s hs => ?_⟩
    · rw [hcell i (by omega)]
      simp [List.getD_eq_getElem?_getD, hi]
    · have hmem := DataW.weights_mem_each (P := P) ht hd
      have hin : s.data.toList.length ∈ DataW.weights P t (.slice (strs (H := H) (ss.take len)) (strs (ss.drop len))) := by
        unfold DataW.weights
        rw [hu]
        refine List.mem_cons_of_mem _ (List.mem_append_left _ (weightsAll_mem (x := .lit (.string s.data.toList)) ?_ _ ?_))
        · unfold strs
          exact List.mem_map_of_mem hs
        · unfold DataW.weights
          simp
      have := List.all_eq_true.mp hsz _ (hmem _ hin)
      simp only [decide_eq_true_eq] at this
      have hr : reachBytes = 140737488351232 := by decide
      rw [hr, Array.length_toList] at this
      exact this
end Go.Proofs.YtodiffgpefidoaaGreatDoor.P
namespace Go.Proofs.YtodiffgpefidoaaGreatDoor.P
open Go Go.ChangeShapes Go.WideShapes
set_option linter.unusedVariables false
theorem five {α : Type} {l : List α} (h : l.length = 5) : ∃ a b c d e, l = [a, b, c, d, e] := by
  match l, h with
  | [a, b, c, d, e], _ => exact ⟨a, b, c, d, e, rfl⟩
abbrev stampD (H : Type) (o : ByteArray) (t n : Int) (r g : ByteArray) : DataW H := .agg [.lit (.string o.data.toList), .lit (.int .u64 t), .lit (.int .i64 n), .lit (.string r.data.toList), .lit (.string g.data.toList)]
theorem cells9 : Tryz.prog.cellsOf 9 = 1 := by kernel_rfl
theorem cells22 : Tryz.prog.cellsOf 22 = 1 := by kernel_rfl
theorem cells3 : Tryz.prog.cellsOf 3 = 1 := by kernel_rfl
theorem cells24 : Tryz.prog.cellsOf 24 = 5 := by kernel_rfl
section
variable {H : Type} {enc : TypeId × Value → H} {W : World} {base b0 : Nat} {spare : Nat → Bool} {held : Bool} {v : Value} {d : DataW H} {p : List MemPlace}
set_option maxRecDepth 100000 in
theorem open_stamp {rc : Reach} (hv : Value.okWide Tryz.prog W rc b0 24 v) (h : DataW.Trod enc Tryz.prog W base spare held 24 v d p) :
    ∃ (o : ByteArray) (t n : Int) (r g : ByteArray), v = .agg #[.string o, .int .u64 t, .int .i64 n, .string r, .string g] ∧ d = stampD H o t n r g ∧ p = [] ∧ (Lit.int .u64 t).wf = true ∧ (Lit.int .i64 n).wf = true ∧ o.size ≤ maxLen ∧ r.size ≤ maxLen ∧ g.size ≤ maxLen := by
  obtain ⟨cs, rfl, hsz⟩ := okWide_struct Tryz.underlying24 hv
  obtain ⟨l⟩ := cs
  obtain ⟨c0, c1, c2, c3, c4, rfl⟩ := five (l := l) (hsz.trans cells24)
  obtain ⟨fuel, hf⟩ := h
  obtain ⟨xs, m, -, hx, -, hlen, hg⟩ := DataW.trod_struct Tryz.underlying24 hf
  obtain ⟨y0, y1, y2, y3, y4, rfl⟩ := five (l := xs) hlen
  have h0 : DataW.trod enc Tryz.prog W base spare held m 9 [c0] = some y0 := by simpa [Value.cells, cells9] using hg 0 _ rfl
  have h1 : DataW.trod enc Tryz.prog W base spare held m 22 [c1] = some y1 := by simpa [Value.cells, cells22] using hg 1 _ rfl
  have h2 : DataW.trod enc Tryz.prog W base spare held m 3 [c2] = some y2 := by simpa [Value.cells, cells3] using hg 2 _ rfl
  have h3 : DataW.trod enc Tryz.prog W base spare held m 9 [c3] = some y3 := by simpa [Value.cells, cells9] using hg 3 _ rfl
  have h4 : DataW.trod enc Tryz.prog W base spare held m 9 [c4] = some y4 := by simpa [Value.cells, cells9] using hg 4 _ rfl
  obtain ⟨o, e0, rfl, z0⟩ := DataW.trod_string Tryz.underlying9 h0
  obtain ⟨t, e1, rfl, z1⟩ := DataW.trod_int Tryz.underlying22 h1
  obtain ⟨n, e2, rfl, z2⟩ := DataW.trod_int Tryz.underlying3 h2
  obtain ⟨r, e3, rfl, z3⟩ := DataW.trod_string Tryz.underlying9 h3
  obtain ⟨g, e4, rfl, z4⟩ := DataW.trod_string Tryz.underlying9 h4
  simp only [List.cons.injEq, and_true] at e0 e1 e2 e3 e4
  subst e0 e1 e2 e3 e4
  simp only [Prod.mk.injEq] at hx
  exact ⟨o, t, n, r, g, rfl, hx.1, by simpa using hx.2, z1, z2, z0, z3, z4⟩
set_option maxRecDepth 100000 in
theorem shut_stamp {o : ByteArray} {t n : Int} {r g : ByteArray} (z1 : (Lit.int .u64 t).wf = true) (z2 : (Lit.int .i64 n).wf = true) (z0 : o.size ≤ maxLen) (z3 : r.size ≤ maxLen) (z4 : g.size ≤ maxLen) :
    DataW.Trod enc Tryz.prog W base spare held 24 (.agg #[.string o, .int .u64 t, .int .i64 n, .string r, .string g]) (stampD H o t n r g) [] := by
  refine ⟨2, ?_⟩
  have s0 : ∀ s : ByteArray, s.size ≤ maxLen → DataW.trod enc Tryz.prog W base spare held 1 9 [.string s] = some (.lit (.string s.data.toList), []) := fun s hs => by simp [DataW.trod, Tryz.underlying9, hs]
  have i1 : DataW.trod enc Tryz.prog W base spare held 1 22 [.int .u64 t] = some (.lit (.int .u64 t), []) := trod_int_mk 0 Tryz.underlying22 z1
  have i2 : DataW.trod enc Tryz.prog W base spare held 1 3 [.int .i64 n] = some (.lit (.int .i64 n), []) := trod_int_mk 0 Tryz.underlying3 z2
  have h := trod_struct_mk (enc := enc) (w := W) (base := base) (spare := spare) (held := held) (n := 1) (cs := Value.cells (.agg #[.string o, .int .u64 t, .int .i64 n, .string r, .string g]) |>.toList) (xs := [(.lit (.string o.data.toList), []), (.lit (.int .u64 t), []), (.lit (.int .i64 n), []), (.lit (.string r.data.toList), []), (.lit (.string g.data.toList), [])]) Tryz.underlying24
    (by rw [cells24]; rfl) (by simp [Value.cells, cells9, cells22, cells3, s0 o z0, s0 r z3, s0 g z4, i1, i2])
  simpa using h
set_option maxRecDepth 100000 in
theorem sized_stamp {ts : List TypeId} {ds : List (DataW H)} {j : Nat} {o : ByteArray} {t n : Int} {r g : ByteArray} (hsz : (DataW.weightsEach Tryz.prog ts ds).all (· ≤ reachBytes) = true) (ht : ts[j]? = some 24) (hd : ds[j]? = some (stampD H o t n r g)) :
    o.size ≤ 140737488351232 ∧ r.size ≤ 140737488351232 ∧ g.size ≤ 140737488351232 := by
  have hmem := DataW.weights_mem_each (P := Tryz.prog) ht hd
  have hw : DataW.weights Tryz.prog 24 (stampD H o t n r g) = [o.data.toList.length, r.data.toList.length, g.data.toList.length] := by
    unfold DataW.weights
    rw [Tryz.underlying24]
    simp [DataW.weightsEach, DataW.weights]
  rw [hw] at hmem
  have hr : reachBytes = 140737488351232 := by decide
  have key : ∀ s : ByteArray, s.data.toList.length ∈ [o.data.toList.length, r.data.toList.length, g.data.toList.length] → s.size ≤ 140737488351232 := fun s hs => by
    have := List.all_eq_true.mp hsz _ (hmem _ hs)
    simp only [decide_eq_true_eq] at this
    rw [hr, Array.length_toList] at this
    exact this
  exact ⟨key o (by simp), key r (by simp), key g (by simp)⟩
end
end Go.Proofs.YtodiffgpefidoaaGreatDoor.P
