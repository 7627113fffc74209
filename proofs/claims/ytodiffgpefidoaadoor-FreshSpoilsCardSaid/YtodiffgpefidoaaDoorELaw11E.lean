/- Slimmed by wip/slim.py. -/
import Derived.Test.YtodiffgpefidoaaDoorELaw11C
namespace Go.Proofs.YtodiffgpefidoaaDoor.P
open Go.RowKit Go.Proofs.YtodiffgpefidoaaDoorW.PrintWords Go.Proofs.YtodiffgpefidoaaDoorW.PrintLast Go.Proofs.YtodiffgpefidoaaDoorW.PrintMore
set_option linter.unusedVariables false
set_option linter.unusedSimpArgs false
def headB (u : List UInt8) (T n : Nat) (r : List UInt8) : List UInt8 := ([u, encN T, encN n, r].map textL).flatten
def lastB (u : List UInt8) (T n : Nat) (r : List UInt8) : List UInt8 := textL (sigL u T n r)
theorem stampB_parts (u : List UInt8) (T n : Nat) (r : List UInt8) : stampB (u, T, n, r, sigL u T n r) = (encN 5 ++ headB u T n r) ++ lastB u T n r := by
  simp [stampB, rowL, headB, lastB]
theorem headB_inj {u : List UInt8} {T T' n n' : Nat} {r r' : List UInt8} (lu : u.length ≤ 4000) (hT : T < 18446744073709551616) (hT' : T' < 18446744073709551616) (hn : n < 18446744073709551616) (hn' : n' < 18446744073709551616) (lr : r.length ≤ 4000) (lr' : r'.length ≤ 4000)
    (h : headB u T n r = headB u T' n' r') : T = T' ∧ n = n' ∧ r = r' := by
  have t1 := encN_len T hT
  have t2 := encN_len T' hT'
  have t3 := encN_len n hn
  have t4 := encN_len n' hn'
  have e1 := takeAllL_put [u, encN T, encN n, r] [] 4000 (show 4 < 18446744073709551616 by decide) (by
    intro x hx
    simp only [List.mem_cons, List.mem_nil_iff, or_false] at hx
    rcases hx with rfl | rfl | rfl | rfl <;> omega)
  have e2 := takeAllL_put [u, encN T', encN n', r'] [] 4000 (show 4 < 18446744073709551616 by decide) (by
    intro x hx
    simp only [List.mem_cons, List.mem_nil_iff, or_false] at hx
    rcases hx with rfl | rfl | rfl | rfl <;> omega)
  rw [List.append_nil, if_pos rfl] at e1 e2
  have hrow : rowL [u, encN T, encN n, r] = rowL [u, encN T', encN n', r'] := by
    show encN 4 ++ headB u T n r = encN 4 ++ headB u T' n' r'
    rw [h]
  rw [hrow] at e1
  have e3 : [u, encN T, encN n, r] = [u, encN T', encN n', r'] := (Prod.mk.inj (e1.symm.trans e2)).1
  simp only [List.cons.injEq, true_and, and_true] at e3
  exact ⟨encN_inj hT hT' e3.1, encN_inj hn hn' e3.2.1, e3.2.2⟩
theorem lastB_inj {u : List UInt8} (hu : u ∈ names) {T T' n n' : Nat} {r r' : List UInt8} (hT : T < 18446744073709551616) (hT' : T' < 18446744073709551616) (hn : n < 18446744073709551616) (hn' : n' < 18446744073709551616) (lg : (sigL u T n r).length < 18446744073709551616) (lg' : (sigL u T' n' r').length < 18446744073709551616)
    (h : lastB u T n r = lastB u T' n' r') : T = T' ∧ n = n' ∧ r = r' := by
  obtain ⟨u1, u2, -⟩ := names_len u hu
  have e1 := takeL_encN (sigL u T n r).length (sigL u T n r) lg
  have e2 := takeL_encN (sigL u T' n' r').length (sigL u T' n' r') lg'
  rw [show encN (sigL u T n r).length ++ sigL u T n r = encN (sigL u T' n' r').length ++ sigL u T' n' r' from h, e2] at e1
  have e3 : sigL u T' n' r' = sigL u T n r := (Prod.mk.inj (Option.some.inj e1)).2
  obtain ⟨-, e4⟩ := pair_inj (secretL_right u (by omega)) (secretL_right u (by omega)) (List.tail_eq_of_cons_eq e3)
  have h1 := (fits_text u (by omega)).right (by omega) (by have := textT_len u (by omega); omega)
  obtain ⟨-, e5, e6, e7⟩ := saysL_inj h1 h1 hT' hT hn' hn e4
  exact ⟨e5.symm, e6.symm, e7.symm⟩
theorem encN_size (n : Nat) (h0 : 0 < n) (h : n < 65536) : (encN n).length = if n < 256 then 2 else 3 := by
  split
  · rw [encN_small n h0 (by assumption)]; rfl
  · have h1 : digs n = digs (n / 256) ++ [UInt8.ofNat (n % 256)] := digs_pos n h0
    have h2 : digs (n / 256) = digs (n / 256 / 256) ++ [UInt8.ofNat (n / 256 % 256)] := digs_pos _ (by omega)
    rw [encN, List.length_cons, h1, h2, show n / 256 / 256 = 0 from by omega, digs_zero]
    rfl
theorem parts_size {u : List UInt8} (u2 : u.length ≤ 6) (u1 : 0 < u.length) {T n : Nat} {r : List UInt8} (hT : T < 18446744073709551616) (hn : n < 18446744073709551616) (r0 : 0 < r.length) (lr : r.length ≤ 4000) :
    ∃ c q e f : Nat, c = 1 + (secretL u).length + 1 + (textT u).length + 1 + 1 + 1 + 1 ∧ (headB u T n r).length = (textL u).length + 4 + q + e ∧ (lastB u T n r).length = f + c + q ∧ q = (encN T).length + (encN n).length + r.length ∧
      (e = if r.length < 256 then 2 else 3) ∧ (f = if c + q < 256 then 2 else 3) := by
  have t1 := encN_len T hT
  have t3 := encN_len n hn
  have s1 := secretL_len u (by omega)
  have s2 := textT_len u (by omega)
  have a1 := encN_size (encN T).length (by omega) (by omega)
  have a2 := encN_size (encN n).length (by omega) (by omega)
  have a3 := encN_size r.length r0 (by omega)
  rw [if_pos (by omega)] at a1 a2
  have g : (sigL u T n r).length = 1 + (secretL u).length + 1 + (textT u).length + 1 + 1 + 1 + 1 + ((encN T).length + (encN n).length + r.length) := by
    unfold sigL saysL atomL
    simp only [List.length_cons, List.length_append]
    omega
  have a4 := encN_size (sigL u T n r).length (by omega) (by omega)
  refine ⟨_, _, (encN r.length).length, (encN (sigL u T n r).length).length, rfl, ?_, ?_, rfl, a3, by rw [a4, g]⟩
  · have z1 : (textL (encN T)).length = 2 + (encN T).length := by unfold textL; rw [List.length_append, a1]
    have z2 : (textL (encN n)).length = 2 + (encN n).length := by unfold textL; rw [List.length_append, a2]
    have z3 : (textL r).length = (encN r.length).length + r.length := by unfold textL; rw [List.length_append]
    simp only [headB, List.map_cons, List.map_nil, List.flatten_cons, List.flatten_nil, List.length_append, List.length_nil]
    omega
  · unfold lastB textL
    rw [List.length_append, g]
    omega
theorem spoilt_same (u : List UInt8) (hu : u ∈ names) (T n T' n' : Nat) (r r' : List UInt8) (hT : T < 18446744073709551616) (hT' : T' < 18446744073709551616) (hn : n ≤ 8) (hn' : n' ≤ 8) (r0 : 0 < r.length) (lr : r.length ≤ 4000) (r0' : 0 < r'.length) (lr' : r'.length ≤ 4000)
    (p : Nat) (y : UInt8) (h : stampB (u, T', n', r', sigL u T' n' r') = (stampB (u, T, n, r, sigL u T n r)).set p y) : stampB (u, T', n', r', sigL u T' n' r') = stampB (u, T, n, r, sigL u T n r) := by
  obtain ⟨u1, u2, -⟩ := names_len u hu
  have t1 := encN_len T hT
  have t2 := encN_len T' hT'
  have t3 := encN_len n (by omega)
  have t4 := encN_len n' (by omega)
  have s1 := secretL_len u (by omega)
  have s2 := textT_len u (by omega)
  obtain ⟨c, q, e, f, hc, hh, hl, hq, he, hf⟩ := parts_size u2 u1 (n := n) (r := r) hT (by omega) r0 lr
  obtain ⟨c', q', e', f', hc', hh', hl', hq', he', hf'⟩ := parts_size u2 u1 (n := n') (r := r') hT' (by omega) r0' lr'
  rw [← hc] at hc'
  subst hc'
  have hf2 : f ≤ 3 := by rw [hf]; split <;> omega
  have hf3 : f' ≤ 3 := by rw [hf']; split <;> omega
  have hlen := congrArg List.length h
  rw [List.length_set, stampB_parts, stampB_parts, List.length_append, List.length_append, List.length_append, List.length_append] at hlen
  have hsize : (headB u T' n' r').length = (headB u T n r).length := by
    split at he <;> split at he' <;> split at hf <;> split at hf' <;> omega
  have key : T = T' ∧ n = n' ∧ r = r' := by
    rw [stampB_parts, stampB_parts] at h
    by_cases hp : p < (encN 5 ++ headB u T n r).length
    · rw [List.set_append_left _ _ hp] at h
      have h2 := (List.append_inj h (by rw [List.length_set, List.length_append, List.length_append, hsize])).2
      exact lastB_inj hu hT hT' (by omega) (by omega) (by
        have := hl
        unfold lastB textL at this
        rw [List.length_append] at this
        omega) (by
        have := hl'
        unfold lastB textL at this
        rw [List.length_append] at this
        omega) h2.symm
    · rw [List.set_append_right _ _ (by omega)] at h
      have h2 := (List.append_inj h (by rw [List.length_append, List.length_append, hsize])).1
      exact headB_inj (by omega) hT hT' (by omega) (by omega) lr lr' (List.append_cancel_left h2).symm
  obtain ⟨rfl, rfl, rfl⟩ := key
  rfl
theorem spoilt (u : List UInt8) (hu : u ∈ names) (T n : Nat) (r : List UInt8) (hT : T < 18446744073709551616) (hn : n ≤ 8) (r0 : 0 < r.length) (lr : r.length ≤ 4000) (p : Nat) (y : UInt8) (s : StampL) (now bound : Nat)
    (hx : takeE ((stampB (u, T, n, r, sigL u T n r)).set p y) = some s) (hc : checkE s.1 s.2.1 s.2.2.1 s.2.2.2.1 s.2.2.2.2 (publicL u) u now bound = 0) : (stampB (u, T, n, r, sigL u T n r)).set p y = stampB (u, T, n, r, sigL u T n r) := by
  obtain ⟨e, hT', hn', -⟩ := takeE_some hx
  obtain ⟨o, T', n', r', g'⟩ := s
  simp only at e hT' hn' hc
  obtain ⟨-, h2, h3, h4, -, -⟩ := checkE_zero hc
  subst h4
  obtain ⟨q1, -, q3, -, -, -⟩ := signedE_ok h2
  rw [q1] at h3
  obtain ⟨-, -, -, -, hg⟩ := verifyL_zero h3
  have hg2 : g' = sigL o T' n' r' := hg
  subst hg2
  obtain ⟨k1, k2⟩ := right_pos q3
  rw [e]
  exact spoilt_same o hu T n T' n' r r' hT hT' hn hn' r0 lr k1 k2 p y e.symm
end Go.Proofs.YtodiffgpefidoaaDoor.P

