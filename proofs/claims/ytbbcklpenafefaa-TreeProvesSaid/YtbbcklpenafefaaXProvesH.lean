/- What TreeProves asks of Verify at its end; the words for a region that draws, step by step. -/
import Derived.Test.YtbbcklpenafefaaEProves
import Derived.Test.YtbbcklpenafefaaGLTreeProves
import Derived.Deep.RegionHeld3
import Derived.Deep.DrawnRows
namespace Go.Proofs.Ytbbcklpenafefaa.P
open Go.RowKit Go.Proofs.YtbbcklpenafefaaW.PrintWords Go.Proofs.YtbbcklpenafefaaW.PrintLast Go.Proofs.YtbbcklpenafefaaW.PrintMore
set_option linter.unusedVariables false
set_option linter.unusedSimpArgs false
theorem aA {α : Type} (l : List α) (i : Nat) (a : α) : l.toArray.setIfInBounds i a = (l.set i a).toArray := List.setIfInBounds_toArray l i a
theorem aB {α : Type} (x : α) (xs : List α) (a : α) : (x :: xs).set 0 a = a :: xs := List.set_cons_zero
theorem aC {α : Type} (x : α) (xs : List α) (n : Nat) (a : α) : (x :: xs).set (n + 1) a = x :: xs.set n a := List.set_cons_succ
/-- The first k of n. -/
def upto (n k : Nat) : Array Bool := (List.replicate k true ++ List.replicate (n - k) false).toArray
abbrev T_ : Bool := true
abbrev F_ : Bool := false
/-- What is known of the last three calls of Verify: of a row, its tree, a leaf's proof. -/
structure EndOk (rs ps : List ByteArray) (T : ByteArray) (kk m : Int) : Prop where
  k0 : 0 ≤ kk
  k1 : kk < (rs.length : Int)
  p1 : 0 < ps.length
  p3 : ps.length ≤ 3
  put : verifyT (S T) (rs.length : Int) kk (S (rdOf ByteArray.empty rs kk)) ((ps.set m.toNat ((⟨#[104]⟩ : ByteArray) ++ rdOf ByteArray.empty ps m)).map S) = false
  less : verifyT (S T) (rs.length : Int) kk (S (rdOf ByteArray.empty rs kk)) ((ps.drop 1).map S) = false
  more : verifyT (S T) (rs.length : Int) kk (S (rdOf ByteArray.empty rs kk)) ((ps ++ [T]).map S) = false
def ProvesEnd (l0 : List Int) (a1 a3 : Int) : Prop := ∀ (k : Nat) (rs ps : List ByteArray) (T : ByteArray) (e f kk m : Int), letterlocklaw10_row.f k l0 = some rs → tree_Root.f k rs = some (T, e) → letterlocklaw10_pick.f a1 (rs.length : Int) = some kk → tree_Proof.f k rs kk = some (ps, f) → letterlocklaw10_pick.f a3 (ps.length : Int) = some m → (rs.length : Int) ≠ 1 → EndOk rs ps T kk m
/-- Verify's contract, the answer known. -/
theorem VK (root t : ByteArray) (n a : Int) (l : List ByteArray) (r : Bool) (h : verifyT (S root) n a (S t) (l.map S) = r) (A : Option Addr) (c : Nat) (w : World) (hC : Kd.C Kd.string w A l.length l) (hc : l.length ≤ c) :
    Calls Try.prog 23 #[.string root, .int .i64 n, .int .i64 a, .string t, .slice A l.length c] w fun e w' => e = .returned (.bool r) ∧ Below w.heap.size w w' :=
  tree_Verify.calls 0 root n a t A c l r w hC hc (by rw [tree_Verify.f, h])
theorem lit_C (w : World) (T : ByteArray) : Kd.C Kd.string (w.alloc (.cells #[.string T] 9)) (some ⟨w.heap.size, 0, none⟩) ([T] : List ByteArray).length [T] := by
  have h : (w.alloc (.cells #[.string T] 9)).ownsRow 0 9 1 (.slice (some ⟨w.heap.size, 0, none⟩) 1 1) ([T] : List ByteArray).length ([T].map Value.string) :=
    ⟨rfl, .inr ⟨w.heap.size, 1, _, rfl, Nat.zero_le _, World.alloc_heap_new w _, Nat.le_refl _, by decide, rfl, rfl⟩⟩
  exact (Kd.R_reads' (R_of_own (ok := fun _ => True) h (fun _ _ => trivial))).2.2
theorem cell_keep {w w' : World} {p : Addr} {v : Value} (hb : Below w.heap.size w w') (h : w.cell? p = some v) : w'.cell? p = some v := (hb.cell (World.block_lt_of_cell? w _ h)).trans h
section
variable {P : Program} {l : List Oper} {Q : Exit → Act → World → Prop} {md : Region.Mode} {S : World → Prop}
/-- An operation that its guard lets in is taken. -/
theorem H_take {i : Nat} {oi : Oper} {v : Value} {fuel : Nat} {listed : Array Bool} {a : Act} {w : World} (hS : S w) (hi : l[i]? = some oi)
    (hs : Region.noSelect l.toArray = true) (hf : Region.free md l.toArray listed i = true) (hr : (Region.ready md l.toArray listed).contains i = true)
    (hQ : ∀ c a w, Q (.panic c) (a.put oi.dst v) w → Q (.panic c) a w) (hw : Region.wanted oi (yielded l.toArray a.tmps) = true) (hy : ∀ w, S w → (execOp a.eval oi).run P w = .ok (.value v) w)
    (h : wpAnyH P md l.toArray Q S fuel (listed.setIfInBounds i true) (a.put oi.dst v) w) : wpAnyH P md l.toArray Q S (fuel + 1) listed a w :=
  wpAnyH_take (by simpa using hi) hs hf hr hQ (Or.inl ⟨hw, hy⟩) hS h
/-- One that is the only one that may come up. -/
theorem H_only {i : Nat} {oi : Oper} {fuel : Nat} {listed : Array Bool} {a : Act} {w : World} (hr : Region.ready md l.toArray listed = [i]) (hi : l[i]? = some oi)
    (h : ∀ K' : Act → World → Prop, Shut (∀ a w, S w → (S w → wpAnyH P md l.toArray Q S fuel (listed.setIfInBounds i true) a w) → K' a w) → if Region.wanted oi (yielded l.toArray a.tmps) = true then Oper.wp P oi a w K' Q else K' (a.put oi.dst undef) w) : wpAnyH P md l.toArray Q S (fuel + 1) listed a w :=
  wpAnyH_ready hr (by simp) (AllReadyH.cons (by simpa using hi) h AllReadyH.nil)
/-- One of two that may come up. -/
theorem H_two {i j : Nat} {oi oj : Oper} {fuel : Nat} {listed : Array Bool} {a : Act} {w : World} (hr : Region.ready md l.toArray listed = [i, j]) (hi : l[i]? = some oi) (hj : l[j]? = some oj)
    (h1 : ∀ K' : Act → World → Prop, Shut (∀ a w, S w → (S w → wpAnyH P md l.toArray Q S fuel (listed.setIfInBounds i true) a w) → K' a w) → if Region.wanted oi (yielded l.toArray a.tmps) = true then Oper.wp P oi a w K' Q else K' (a.put oi.dst undef) w)
    (h2 : ∀ K' : Act → World → Prop, Shut (∀ a w, S w → (S w → wpAnyH P md l.toArray Q S fuel (listed.setIfInBounds j true) a w) → K' a w) → if Region.wanted oj (yielded l.toArray a.tmps) = true then Oper.wp P oj a w K' Q else K' (a.put oj.dst undef) w) : wpAnyH P md l.toArray Q S (fuel + 1) listed a w :=
  wpAnyH_ready hr (by simp) (AllReadyH.cons (by simpa using hi) h1 (AllReadyH.cons (by simpa using hj) h2 AllReadyH.nil))
end
end Go.Proofs.Ytbbcklpenafefaa.P
