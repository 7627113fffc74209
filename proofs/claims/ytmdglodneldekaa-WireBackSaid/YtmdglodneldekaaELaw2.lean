/- The helpers of chapter 2's statements: shown, same, small. -/
import Derived.Test.YtmdglodneldekaaEWire
import Derived.Test.YtmdglodneldekaaGLaw2
namespace Go.Proofs.Ytmdglodneldekaa.P
open Go.RowKit Go.Proofs.YtmdglodneldekaaW.PrintWords Go.Proofs.YtmdglodneldekaaW.PrintLast Go.Proofs.YtmdglodneldekaaW.PrintMore
set_option linter.unusedVariables false
set_option linter.unusedSimpArgs false
theorem enc258 : encN 258 = [2, 1, 2] := by
  have : digs 258 = [1, 2] := by
    rw [digs_pos 258 (by decide), show 258 / 256 = 1 from rfl, digs_pos 1 (by decide), show 1 / 256 = 0 from rfl, digs_zero]
    rfl
  unfold encN
  rw [this]
  rfl
theorem letterlocklaw2_shown.ev : Ev (fun k => letterlocklaw2_shown.f k) true := by
  obtain ⟨K, hK⟩ := wire_Put.ev 258 (by decide)
  refine ⟨K, fun k hk => ?_⟩
  have e : wire_Put.f k 258 = _ := hK k hk
  show letterlocklaw2_shown.f k = _
  unfold letterlocklaw2_shown.f
  rw [e, Option.bind_some, toList_B, enc258]
  rfl
theorem law2_same_loop (l : List (List UInt8)) (hl : l.length ≤ 1000000000) : ∀ (m i : Nat), l.length = i + m → ∀ k, m < k → letterlocklaw2_same.l0 k (l.map B) (l.map B) (i : Int) = some true := by
  intro m
  induction m with
  | zero =>
    intro i hi k hk
    obtain ⟨k, rfl⟩ : ∃ m, k = m + 1 := ⟨k - 1, by omega⟩
    rw [letterlocklaw2_same.l0, if_neg (by rw [List.length_map]; omega)]
  | succ m ih =>
    intro i hi k hk
    obtain ⟨k, rfl⟩ : ∃ m, k = m + 1 := ⟨k - 1, by omega⟩
    rw [letterlocklaw2_same.l0, if_pos (by rw [List.length_map]; omega), if_pos (by omega), if_pos (by rw [List.length_map]; omega), if_pos rfl, w64 _ (by omega) (by omega), show (i : Int) + 1 = ((i + 1 : Nat) : Int) from by omega]
    exact ih (i + 1) (by omega) k (by omega)
theorem letterlocklaw2_same.ev (l : List (List UInt8)) (hl : l.length ≤ 1000000000) : Ev (fun k => letterlocklaw2_same.f k (l.map B) (l.map B)) true := by
  refine ⟨l.length + 1, fun k hk => ?_⟩
  show letterlocklaw2_same.f k (l.map B) (l.map B) = _
  unfold letterlocklaw2_same.f
  rw [if_pos rfl]
  exact law2_same_loop l hl l.length 0 (by omega) k (by omega)
/-- Few and short texts. -/
def Small (l : List (List UInt8)) : Prop := l.length ≤ 100 ∧ (∀ x ∈ l, x.length ≤ 2000) ∧ (l.map List.length).sum ≤ 4000
theorem small_loop (l : List (List UInt8)) (hl : l.length ≤ 100) : ∀ (m i : Nat) (n : Nat), l.length = i + m → n ≤ 2000 * i → ∀ k, m < k →
    ∃ b, letterlocklaw2_small.l0 k (l.map B) (n : Int) (i : Int) = some b ∧ (b = true → (∀ x ∈ l.drop i, x.length ≤ 2000) ∧ n + ((l.drop i).map List.length).sum ≤ 4000) := by
  intro m
  induction m with
  | zero =>
    intro i n hi hn k hk
    obtain ⟨k, rfl⟩ : ∃ m, k = m + 1 := ⟨k - 1, by omega⟩
    rw [letterlocklaw2_small.l0, if_neg (by rw [List.length_map]; omega)]
    refine ⟨_, rfl, fun h => ?_⟩
    rw [decide_eq_true_iff] at h
    rw [List.drop_of_length_le (by omega)]
    exact ⟨by simp, by simp; omega⟩
  | succ m ih =>
    intro i n hi hn k hk
    obtain ⟨k, rfl⟩ : ∃ m, k = m + 1 := ⟨k - 1, by omega⟩
    rw [letterlocklaw2_small.l0, if_pos (by rw [List.length_map]; omega), if_pos (by omega), rdOf_B, size_B]
    by_cases h : (l.getD i []).length > 2000
    · rw [if_pos (by omega)]
      exact ⟨_, rfl, fun h => by simp at h⟩
    · rw [if_neg (by omega), w64 _ (by omega) (by omega), w64 _ (by omega) (by omega), show (i : Int) + 1 = ((i + 1 : Nat) : Int) from by omega, show (n : Int) + ((l.getD i []).length : Int) = ((n + (l.getD i []).length : Nat) : Int) from by omega]
      obtain ⟨b, hb, hp⟩ := ih (i + 1) (n + (l.getD i []).length) (by omega) (by omega) k (by omega)
      refine ⟨b, hb, fun e => ?_⟩
      obtain ⟨h1, h2⟩ := hp e
      rw [drop_getD l i [] (by omega)]
      constructor
      · intro x hx
        rcases List.mem_cons.mp hx with rfl | hx
        · omega
        · exact h1 x hx
      · rw [List.map_cons, List.sum_cons]; omega
theorem letterlocklaw2_small.ev (l : List (List UInt8)) : ∃ b, Ev (fun k => letterlocklaw2_small.f k (l.map B)) b ∧ (b = true → Small l) := by
  by_cases h : l.length > 100
  · refine ⟨false, ⟨0, fun k hk => ?_⟩, fun h => by simp at h⟩
    show letterlocklaw2_small.f k (l.map B) = _
    unfold letterlocklaw2_small.f
    rw [if_pos (by rw [List.length_map]; omega)]
  · have key := fun k hk => small_loop l (by omega) l.length 0 0 (by omega) (by omega) k hk
    obtain ⟨b, hb, hp⟩ := key (l.length + 1) (by omega)
    refine ⟨b, ⟨l.length + 1, fun k hk => ?_⟩, fun e => ?_⟩
    · show letterlocklaw2_small.f k (l.map B) = _
      unfold letterlocklaw2_small.f
      rw [if_neg (by rw [List.length_map]; omega)]
      exact at_rounds (fun k => letterlocklaw2_small.mono_l k (l.map B) 0 0) hk hb
    · obtain ⟨h1, h2⟩ := hp e
      exact ⟨by omega, h1, by simpa using h2⟩
theorem small_heavy {l : List (List UInt8)} (h : Small l) : heavy l ≤ 4900 := by
  have key : ∀ l : List (List UInt8), heavy l = (l.map List.length).sum + 9 * l.length := by
    intro l
    induction l with
    | nil => rfl
    | cons x l ih => rw [heavy_cons, ih, List.map_cons, List.sum_cons, List.length_cons]; omega
  rw [key]
  have := h.1
  have := h.2.2
  omega
theorem wf64 {n : Int} (h : (Lit.int .u64 n).wf = true) : ∃ m : Nat, n = (m : Int) ∧ m < 18446744073709551616 := by
  simp only [Lit.wf, Bool.and_eq_true, decide_eq_true_iff] at h
  obtain ⟨h1, h2⟩ := h
  have h3 : (0 : Int) ≤ n := h1
  have h4 : n ≤ 18446744073709551615 := h2
  exact ⟨n.toNat, by omega, by omega⟩
theorem wfi64 {n : Int} (h : (Lit.int .i64 n).wf = true) : -9223372036854775808 ≤ n ∧ n ≤ 9223372036854775807 := by
  simp only [Lit.wf, Bool.and_eq_true, decide_eq_true_iff] at h
  exact ⟨h.1, h.2⟩
theorem ofB (s : ByteArray) : ∃ l, s = B l ∧ l.length = s.size := ⟨S s, rfl, (size_S s).symm⟩
theorem ofBs : ∀ l : List ByteArray, ∃ m : List (List UInt8), l = m.map B
  | [] => ⟨[], rfl⟩
  | s :: l => by
    obtain ⟨m, rfl⟩ := ofBs l
    exact ⟨S s :: m, rfl⟩
/-- Take's answer. -/
def tn (s : List UInt8) : Int × ByteArray × Int := match takeL s with | none => (0, B [], 2) | some (n, r) => ((n : Int), B r, 0)
theorem wire_Take.tn (s : List UInt8) : wire_Take.f (B s) = some (tn s) := by
  rw [wire_Take.of]; unfold P.tn; cases takeL s <;> rfl
theorem letterlockref2_Take.tn (s : List UInt8) (hb : s.length ≤ 1000000000) : Ev (fun k => letterlockref2_Take.f k (B s)) (tn s) := by
  have h := letterlockref2_Take.ev s hb
  unfold P.tn
  cases hs : takeL s with
  | none => rw [hs] at h; exact h
  | some p => rw [hs] at h; exact h
theorem takeRowL_len (most : Int) : ∀ (m : Nat) (r : List UInt8), (takeRowL most m r).1.length ≤ r.length := by
  intro m
  induction m with
  | zero => intro r; unfold takeRowL; split <;> simp
  | succ m ih =>
    intro r
    rw [takeRowL]
    split
    · rename_i he
      have := takeTextL_len r most he
      have h2 := ih (takeTextL r most).2.1
      split
      · simp only [List.length_cons]; omega
      · simp
    · simp
theorem takeAllL_len (s : List UInt8) (many most : Int) : (takeAllL s many most).1.length ≤ s.length := by
  unfold takeAllL
  cases ht : takeL s with
  | none => simp
  | some p =>
    obtain ⟨n, r⟩ := p
    have := takeL_len s n r ht
    have h2 := takeRowL_len most n r
    simp only
    split
    · simp
    · omega
end Go.Proofs.Ytmdglodneldekaa.P
