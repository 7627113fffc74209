/- Slimmed by wip/slim.py. -/
import Derived.Test.YtodiffgpefidoaaDoorELaw11B
import Derived.Test.YtodiffgpefidoaaDoorEWireB
import Derived.Test.YtodiffgpefidoaaDoorGFresh2
import Derived.Test.YtodiffgpefidoaaDoorGLaw11
namespace Go.Proofs.YtodiffgpefidoaaDoor.P
open Go.RowKit Go.Proofs.YtodiffgpefidoaaDoorW.PrintWords Go.Proofs.YtodiffgpefidoaaDoorW.PrintLast Go.Proofs.YtodiffgpefidoaaDoorW.PrintMore
set_option linter.unusedVariables false
set_option linter.unusedSimpArgs false
def numE (t : List UInt8) : Nat × Bool := match takeL t with | none => (0, false) | some (n, r) => (n, r == [])
theorem fresh_number.of (t : List UInt8) : fresh_number.f (B t) = some (((numE t).1 : Int), (numE t).2) := by
  rw [fresh_number.f, wire_Take.of, numE]
  cases takeL t with
  | none => rfl
  | some p =>
    obtain ⟨n, r⟩ := p
    simp only [Option.bind_some, if_true, toList_B]
theorem numE_lt (t : List UInt8) : (numE t).1 < 18446744073709551616 := by
  unfold numE
  cases h : takeL t with
  | none => simp
  | some p => exact (takeL_some t p.1 p.2 h).2
theorem numE_some {t : List UInt8} (h : (numE t).2 = true) : t = encN (numE t).1 := by
  unfold numE at h ⊢
  cases ht : takeL t with
  | none => rw [ht] at h; exact absurd h (by decide)
  | some p =>
    obtain ⟨n, r⟩ := p
    rw [ht] at h
    have hr : r = [] := beq_iff_eq.mp h
    subst hr
    have := (takeL_some t n [] ht).1
    rw [List.append_nil] at this
    exact this
abbrev StampL := List UInt8 × Nat × Nat × List UInt8 × List UInt8
def stampOf (l : List (List UInt8)) : Option StampL :=
  if (numE (l.getD 1 [])).2 = true ∧ (numE (l.getD 2 [])).2 = true ∧ rightS (l.getD 0 []) (min (numE (l.getD 2 [])).1 9) (l.getD 3 []) (l.getD 4 []) = true then some (l.getD 0 [], (numE (l.getD 1 [])).1, min (numE (l.getD 2 [])).1 9, l.getD 3 [], l.getD 4 []) else none
def takeE (b : List UInt8) : Option StampL := if (takeAllL b 5 4000).2 = 0 ∧ (takeAllL b 5 4000).1.length = 5 then stampOf (takeAllL b 5 4000).1 else none
def stampT : Option StampL → ByteArray × Int × Int × ByteArray × ByteArray × Int
  | none => (⟨#[]⟩, 0, 0, ⟨#[]⟩, ⟨#[]⟩, 2)
  | some (o, t, n, r, g) => (B o, (t : Int), (n : Int), B r, B g, 0)
theorem mn9 (n : Nat) (h : n < 18446744073709551616) : wrap64 (mn (n : Int) 9) = ((min n 9 : Nat) : Int) := by
  have e : mn (n : Int) 9 = ((min n 9 : Nat) : Int) := by unfold mn; split <;> omega
  rw [e, w64 _ (by omega) (by omega)]
theorem rowLen : ∀ (l : List (List UInt8)), ∀ x ∈ l, x.length ≤ (l.map textL).flatten.length
  | y :: l, x, hx => by
    rw [List.map_cons, List.flatten_cons, List.length_append]
    rcases List.mem_cons.mp hx with rfl | h
    · unfold textL; rw [List.length_append]; omega
    · have := rowLen l x h; omega
theorem take_mem {b : List UInt8} (h0 : (takeAllL b 5 4000).2 = 0) : ∀ x ∈ (takeAllL b 5 4000).1, x.length ≤ b.length := by
  intro x hx
  have h1 := takeAllL_some b 5 4000 h0
  have h2 := rowLen _ x hx
  rw [← h1]
  unfold rowL
  rw [List.length_append]
  omega
theorem fresh_Take.ev (b : List UInt8) (hb : b.length ≤ 1000000) : Ev (fun k => fresh_Take.f k (B b)) (stampT (takeE b)) := by
  obtain ⟨K, e⟩ := wire_TakeAll.ev b 5 4000 hb (by decide) (by decide) (by decide) (by decide)
  refine ⟨K + 5, fun k hk => ?_⟩
  obtain ⟨k, rfl⟩ : ∃ m, k = m + 1 := ⟨k - 1, by omega⟩
  show fresh_Take.f (k + 1) _ = _
  have g : wire_TakeAll.f (k + 1) (B b) 5 4000 = _ := e (k + 1) (by omega)
  rw [fresh_Take.f, g, Option.bind_some, ta, takeE]
  simp only [List.length_map]
  have bad : ∀ l, fresh_Take.j0 (k + 1) l true = some (stampT none) := fun l => by rw [fresh_Take.j0, if_pos rfl]; rfl
  by_cases h0 : (takeAllL b 5 4000).2 = 0
  · rw [if_pos h0]
    by_cases h5 : (takeAllL b 5 4000).1.length = 5
    · rw [if_pos ⟨h0, h5⟩, h5, show ((((5 : Nat) : Int)) != 5) = false from rfl]
      have hm := take_mem h0
      obtain ⟨l, hl⟩ : ∃ l, l = (takeAllL b 5 4000).1 := ⟨_, rfl⟩
      rw [← hl] at h5 hm ⊢
      have hlen : (l.map B).length = 5 := by rw [List.length_map]; exact h5
      have hz : (l.getD 0 []).length ≤ 1000000000 := by
        have := hm (l.getD 0 []) (getD_mem l 0 [] (by omega))
        omega
      have R := fresh_Right.of k (l.getD 0 []) hz (numE (l.getD 1 [])).1 (min (numE (l.getD 2 [])).1 9) (l.getD 3 []) (l.getD 4 [])
      have r0 : rdOf ByteArray.empty (l.map B) 0 = B (l.getD 0 []) := rdOf_B l 0
      have r1 : rdOf ByteArray.empty (l.map B) 1 = B (l.getD 1 []) := rdOf_B l 1
      have r2 : rdOf ByteArray.empty (l.map B) 2 = B (l.getD 2 []) := rdOf_B l 2
      have r3 : rdOf ByteArray.empty (l.map B) 3 = B (l.getD 3 []) := rdOf_B l 3
      have r4 : rdOf ByteArray.empty (l.map B) 4 = B (l.getD 4 []) := rdOf_B l 4
      rw [fresh_Take.j0, if_neg (by decide), if_pos (by omega), r1, fresh_number.of, Option.bind_some, if_pos (by omega), r2, fresh_number.of, Option.bind_some, if_pos (by omega), if_pos (by omega), if_pos (by omega), r0, r3, r4, mn9 _ (numE_lt _), stampOf]
      cases hA : (numE (l.getD 1 [])).2
      · rw [if_neg (by decide), if_neg (fun h => absurd h.1 (by decide))]; rfl
      · rw [if_pos rfl]
        cases hB : (numE (l.getD 2 [])).2
        · rw [if_neg (by decide), if_neg (fun h => absurd h.2.1 (by decide))]; rfl
        · rw [if_pos rfl, R, Option.bind_some]
          cases hC : rightS (l.getD 0 []) (min (numE (l.getD 2 [])).1 9) (l.getD 3 []) (l.getD 4 [])
          · rw [if_neg (by decide), if_neg (fun h => absurd h.2.2 (by decide))]; rfl
          · rw [if_pos rfl, if_pos ⟨rfl, rfl, rfl⟩]; rfl
    · rw [if_neg (fun h => h5 h.2), show ((((takeAllL b 5 4000).1.length : Nat) : Int) != 5) = true from bne_iff_ne.mpr (by omega)]
      exact bad _
  · rw [if_neg h0, if_neg (fun h => h0 h.1)]
    exact bad _
def stampB (s : StampL) : List UInt8 := rowL [s.1, encN s.2.1, encN s.2.2.1, s.2.2.2.1, s.2.2.2.2]
theorem takeE_some {b : List UInt8} {s : StampL} (h : takeE b = some s) : b = stampB s ∧ s.2.1 < 18446744073709551616 ∧ s.2.2.1 ≤ 8 ∧ rightS s.1 s.2.2.1 s.2.2.2.1 s.2.2.2.2 = true := by
  unfold takeE at h
  split at h
  · rename_i h1
    obtain ⟨h0, h5⟩ := h1
    have hr := takeAllL_some b 5 4000 h0
    obtain ⟨l, hl⟩ : ∃ l, l = (takeAllL b 5 4000).1 := ⟨_, rfl⟩
    rw [← hl] at hr h5 h
    unfold stampOf at h
    split at h
    · rename_i h2
      obtain ⟨a1, a2, a3⟩ := h2
      obtain rfl := Option.some.inj h
      have h8 : min (numE (l.getD 2 [])).1 9 ≤ 8 := by
        unfold rightS at a3
        simp only [Bool.and_eq_true, decide_eq_true_eq] at a3
        exact a3.2.1
      refine ⟨?_, numE_lt _, h8, a3⟩
      have e1 := numE_some a1
      have e2 := numE_some a2
      have hmin : min (numE (l.getD 2 [])).1 9 = (numE (l.getD 2 [])).1 := by omega
      rw [stampB]
      simp only
      rw [hmin, ← e1, ← e2, ← hr]
      congr 1
      match l, h5 with
      | [a, b, c, d, e], _ => rfl
    · exact absurd h (by simp)
  · exact absurd h (by simp)
theorem takeE_nil : takeE [] = none := by
  rw [takeE, if_neg]
  rintro ⟨h, -⟩
  exact absurd h (by decide)
theorem anna : [97, 110, 110, 97] ∈ names := by decide
theorem letterlocklaw11_shown.ev : Ev (fun k => letterlocklaw11_shown.f k) true := by
  obtain ⟨K1, e1⟩ := fresh_Take.ev [] (by decide)
  obtain ⟨K2, e2⟩ := letterlocklaw11_secretOf.ev [97, 110, 110, 97] (by decide)
  obtain ⟨K3, e3⟩ := fresh_Build.ev11 [97, 110, 110, 97] anna 5 (by decide) [] (by intro x hx; simp at hx) (by decide)
  obtain ⟨K4, e4⟩ := letterlocklaw11_publicOf.ev [97, 110, 110, 97] (by decide)
  have hf := rootL_fits (ls := []) (by intro x hx; simp at hx) (by decide)
  obtain ⟨K5, e5⟩ := fresh_Check.ev [97, 110, 110, 97] (by decide) 5 0 (by decide) (by decide) (rootL []) (sigL [97, 110, 110, 97] 5 0 (rootL [])) (publicL [97, 110, 110, 97]) [97, 110, 110, 97] 6 1 (by decide) (by decide)
  have hc := check_built [97, 110, 110, 97] anna 5 (by decide) 0 (by decide) (rootL []) hf.1 hf.2 5 (by decide) 0 (by decide) (rootL []) hf.1 hf.2 [97, 110, 110, 97] anna [97, 110, 110, 97] 6 1
  rw [if_pos ⟨rfl, rfl, rfl, rfl⟩, if_pos rfl, if_neg (by decide)] at hc
  rw [hc] at e5
  rw [takeE_nil] at e1
  refine ⟨K1 + K2 + K3 + K4 + K5, fun k hk => ?_⟩
  have g1 : fresh_Take.f k (⟨#[]⟩ : ByteArray) = some (⟨#[]⟩, 0, 0, ⟨#[]⟩, ⟨#[]⟩, 2) := e1 k (by omega)
  have g2 : letterlocklaw11_secretOf.f k (⟨#[97, 110, 110, 97]⟩ : ByteArray) = _ := e2 k (by omega)
  have g3 : fresh_Build.f k (B (secretL [97, 110, 110, 97])) (⟨#[97, 110, 110, 97]⟩ : ByteArray) 5 ([] : List ByteArray) = some (B [97, 110, 110, 97], 5, 0, B (rootL []), B (sigL [97, 110, 110, 97] 5 0 (rootL [])), 0) := e3 k (by omega)
  have g4 : letterlocklaw11_publicOf.f k (⟨#[97, 110, 110, 97]⟩ : ByteArray) = _ := e4 k (by omega)
  have g5 : fresh_Check.f k (B [97, 110, 110, 97]) 5 0 (B (rootL [])) (B (sigL [97, 110, 110, 97] 5 0 (rootL []))) (B (publicL [97, 110, 110, 97])) (⟨#[97, 110, 110, 97]⟩ : ByteArray) 6 1 = some 0 := e5 k (by omega)
  show letterlocklaw11_shown.f k = _
  rw [letterlocklaw11_shown.f, g1, Option.bind_some, g2, Option.bind_some, g3, Option.bind_some, if_pos rfl, if_pos rfl, g4, Option.bind_some, g5, Option.bind_some]
  rfl
end Go.Proofs.YtodiffgpefidoaaDoor.P

