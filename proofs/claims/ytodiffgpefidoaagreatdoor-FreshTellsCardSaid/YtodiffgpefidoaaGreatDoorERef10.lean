/- Slimmed by wip/slim.py. -/
import Derived.Test.YtodiffgpefidoaaGreatDoorELaw10
import Derived.Test.YtodiffgpefidoaaGreatDoorGRef10
namespace Go.Proofs.YtodiffgpefidoaaGreatDoor.P
open Go.RowKit Go.Proofs.YtodiffgpefidoaaGreatDoorW.PrintWords Go.Proofs.YtodiffgpefidoaaGreatDoorW.PrintLast Go.Proofs.YtodiffgpefidoaaGreatDoorW.PrintMore
set_option linter.unusedVariables false
set_option linter.unusedSimpArgs false
theorem tlen_take : ∀ (d : Nat) (l : List UInt8), tlen d l ≠ 0 → tlen d (l.take (tlen d l)) = tlen d l := by
  intro d
  induction d with
  | zero => intro l h; exact absurd rfl h
  | succ d ih =>
    intro l h
    cases l with
    | nil => exact absurd rfl h
    | cons c r =>
      by_cases h97 : c = 97
      · have e : ∀ x : List UInt8, tlen (d + 1) (c :: x) = (match takeL x with | none => 0 | some p => 1 + x.length - p.2.length) := by intro x; rw [tlen, if_pos h97]; cases takeL x <;> rfl
        rw [e] at h
        cases ht : takeL r with
        | none => rw [ht] at h; exact absurd rfl h
        | some p =>
          obtain ⟨n, q⟩ := p
          obtain ⟨hr, hn⟩ := takeL_some r n q ht
          have hm : tlen (d + 1) (c :: r) = (encN n).length + 1 := by
            rw [e, ht]
            show 1 + r.length - q.length = _
            rw [hr, List.length_append]; omega
          have h2 := takeL_encN n [] hn
          rw [List.append_nil] at h2
          rw [hm, List.take_succ_cons, hr, List.take_left, e, h2]
          show 1 + (encN n).length - 0 = _
          omega
      · by_cases h116 : c = 116
        · have e : ∀ x : List UInt8, tlen (d + 1) (c :: x) = (if (takeTextL x 4000).2.2 = 0 then 1 + x.length - (takeTextL x 4000).2.1.length else 0) := by intro x; rw [tlen, if_neg h97, if_pos h116]
          rw [e] at h
          by_cases hz : (takeTextL r 4000).2.2 = 0
          · obtain ⟨hr, hn, hb⟩ := takeTextL_some r 4000 hz
            have hm : tlen (d + 1) (c :: r) = (textL (takeTextL r 4000).1).length + 1 := by
              rw [e, if_pos hz]
              have hl : r.length = (textL (takeTextL r 4000).1).length + (takeTextL r 4000).2.1.length := (congrArg List.length hr).trans List.length_append
              omega
            have hx : r.take (textL (takeTextL r 4000).1).length = textL (takeTextL r 4000).1 := by
              have h3 : r.take (textL (takeTextL r 4000).1).length = (textL (takeTextL r 4000).1 ++ (takeTextL r 4000).2.1).take (textL (takeTextL r 4000).1).length := congrArg _ hr
              rw [h3, List.take_left]
            have h2 := takeTextL_textL (takeTextL r 4000).1 [] 4000 hn
            rw [List.append_nil, if_neg (by rw [if_pos (by decide)] at hb; omega)] at h2
            rw [hm, List.take_succ_cons, hx, e, h2, if_pos rfl]
            show 1 + (textL (takeTextL r 4000).1).length - 0 = _
            omega
          · rw [if_neg hz] at h; exact absurd rfl h
        · by_cases g2 : c = 104 ∨ c = 117
          · rw [tlen_one g2] at h ⊢
            have hne : tlen d r ≠ 0 := by intro e; rw [if_pos e] at h; exact h rfl
            rw [if_neg hne, Nat.add_comm 1 (tlen d r), List.take_succ_cons, tlen_one g2, ih r hne, if_neg hne, Nat.add_comm]
          · by_cases g3 : c = 112 ∨ c = 115 ∨ c = 98 ∨ c = 103
            · rw [tlen_two g3] at h ⊢
              have hb : ¬ (c = 98 ∧ r.getD 0 0 ≠ 117) := by intro e; rw [if_pos e] at h; exact h rfl
              rw [if_neg hb] at h ⊢
              have hne : tlen d r ≠ 0 := by intro e; rw [if_pos e] at h; exact h rfl
              rw [if_neg hne] at h ⊢
              have hne2 : tlen d (r.drop (tlen d r)) ≠ 0 := by intro e; rw [if_pos e] at h; exact h rfl
              rw [if_neg hne2] at h ⊢
              have hle := tlen_le d r
              have hsp : r.take (tlen d r + tlen d (r.drop (tlen d r))) = r.take (tlen d r) ++ (r.drop (tlen d r)).take (tlen d (r.drop (tlen d r))) := List.take_add
              have i1 := ih r hne
              have i2 := ih _ hne2
              have a1 : tlen d (r.take (tlen d r + tlen d (r.drop (tlen d r)))) = tlen d r := by
                rw [hsp, tlen_append d _ _ (by rw [i1]; exact hne), i1]
              have a2 : (r.take (tlen d r + tlen d (r.drop (tlen d r)))).drop (tlen d r) = (r.drop (tlen d r)).take (tlen d (r.drop (tlen d r))) := by
                rw [hsp, List.drop_append_of_le_length (by rw [List.length_take]; omega), List.drop_take, Nat.sub_self, List.take_zero, List.nil_append]
              have a3 : (r.take (tlen d r + tlen d (r.drop (tlen d r)))).getD 0 0 = r.getD 0 0 := by
                cases r with
                | nil => exact absurd (tlen_nil d) hne
                | cons x y =>
                  obtain ⟨n, hn⟩ : ∃ n, tlen d (x :: y) + tlen d ((x :: y).drop (tlen d (x :: y))) = n + 1 := ⟨tlen d (x :: y) + tlen d ((x :: y).drop (tlen d (x :: y))) - 1, by omega⟩
                  rw [hn, List.take_succ_cons]; rfl
              rw [show 1 + tlen d r + tlen d (r.drop (tlen d r)) = (tlen d r + tlen d (r.drop (tlen d r))) + 1 from by omega, List.take_succ_cons, tlen_two g3, a3, if_neg hb, a1, if_neg hne, a2, i2, if_neg hne2]
              omega
            · exfalso
              rw [tlen, if_neg h97, if_neg h116, if_neg g2, if_neg g3] at h
              exact h rfl
theorem right_more {p : List UInt8} (h : tlen 39 p = p.length) (h0 : tlen 39 p ≠ 0) (hl : p.length ≤ 4000) : right p = true := by
  refine (right_iff _).mpr ⟨by intro e; rw [e] at h0; exact h0 (tlen_nil 39), hl, ?_⟩
  rw [tlen_more 39 p h0, h]
theorem parts_right {c : UInt8} {r : List UInt8} (h : right (c :: r) = true) : (∀ p ∈ partsL (c :: r), right p = true) ∧ ((partsL (c :: r)).length > 0 → (partsL (c :: r)).flatten = r) ∧ (partsL (c :: r)).length ≤ 2 := by
  obtain ⟨-, hl, htl⟩ := (right_iff _).mp h
  rw [List.length_cons] at hl htl
  by_cases g2 : c = 104 ∨ c = 117
  · rw [tlen_one g2] at htl
    have hne : tlen 39 r ≠ 0 := by intro e; rw [if_pos e] at htl; omega
    rw [if_neg hne] at htl
    have hp : partsL (c :: r) = [r] := by unfold partsL; rw [if_pos (by simpa using g2)]; rfl
    rw [hp]
    refine ⟨?_, by simp, by simp⟩
    intro p hp
    rw [List.mem_singleton.mp hp]
    exact right_more (by omega) hne (by omega)
  · by_cases g3 : c = 112 ∨ c = 115 ∨ c = 98 ∨ c = 103
    · rw [tlen_two g3] at htl
      have hp : partsL (c :: r) = [r.take (tlen 40 r), r.drop (tlen 40 r)] := by unfold partsL; rw [if_neg (by simpa using g2), if_pos (by simpa using g3)]; rfl
      rw [hp]
      split at htl
      · omega
      · have hne : tlen 39 r ≠ 0 := by intro e; rw [if_pos e] at htl; omega
        rw [if_neg hne] at htl
        have hne2 : tlen 39 (r.drop (tlen 39 r)) ≠ 0 := by intro e; rw [if_pos e] at htl; omega
        rw [if_neg hne2] at htl
        have e40 : tlen 40 r = tlen 39 r := tlen_more 39 r hne
        have hle := tlen_le 39 r
        refine ⟨?_, by intro _; simp, by simp⟩
        intro p hp
        rw [e40] at hp
        rcases List.mem_cons.mp hp with h | h
        · rw [h]
          have ht := tlen_take 39 r hne
          exact right_more (by rw [ht, List.length_take]; omega) (by rw [ht]; exact hne) (by rw [List.length_take]; omega)
        · rw [List.mem_singleton.mp h]
          exact right_more (by rw [List.length_drop]; omega) hne2 (by rw [List.length_drop]; omega)
    · have hp : partsL (c :: r) = [] := by unfold partsL; rw [if_neg (by simpa using g2), if_neg (by simpa using g3)]
      rw [hp]
      exact ⟨by simp, by simp, by simp⟩
theorem letterlockref10_leaf.ev (t : List UInt8) (hs : t.length ≤ 1000000000) : Ev (fun k => letterlockref10_leaf.f k (B t)) (leafL t) := by
  unfold letterlockref10_leaf.f
  refine Ev.bind (letterlockref3_Kind.ev t hs) ?_
  cases hr : right t
  · rw [kindL, hr, leafL, hr]
    exact Ev.eq (Ev.now _) rfl
  · have hk : kindL t = t.getD 0 0 := by rw [kindL, hr]; rfl
    by_cases h1 : t.getD 0 0 = 112
    · obtain ⟨a, b, hp⟩ := partsL_pair h1
      have hpe : partsE t = ([a, b], 0) := by rw [partsE, hr, if_pos rfl, hp]
      obtain ⟨c, r, rfl, -, -⟩ := right_cons hr
      obtain ⟨hpr, -, -⟩ := parts_right hr
      rw [hp] at hpr
      have ra := hpr a (by simp)
      have rb := hpr b (by simp)
      have pa := right_pos ra
      have pb := right_pos rb
      have ka : kindL a = a.getD 0 0 := by rw [kindL, ra]; rfl
      have kb : kindL b = b.getD 0 0 := by rw [kindL, rb]; rfl
      have hlf : leafL (c :: r) = (decide (a.getD 0 0 = 116) && decide (b.getD 0 0 = 97)) := by rw [leafL, hr, h1, hp]; simp only [List.getD_cons_zero, List.getD_cons_succ, ka, kb]; rfl
      rw [hk, h1, hlf]
      simp only [show (((112 : UInt8).toNat : Nat) : Int) = 112 from rfl, if_true]
      refine Ev.bind (letterlockref3_Parts.ev _ hs) ?_
      rw [hpe]
      have e0 : rdOf ByteArray.empty (([a, b] : List (List UInt8)).map B) 0 = B a := rfl
      have e1 : rdOf ByteArray.empty (([a, b] : List (List UInt8)).map B) 1 = B b := rfl
      have s0 : 0 < ((B a).size : Int) := by rw [size_B]; omega
      have s1 : 0 < ((B b).size : Int) := by rw [size_B]; omega
      have t0 : bt (B a) 0 = (((a.getD 0 0).toNat : Nat) : Int) := by rw [bt_B]; rfl
      have t1 : bt (B b) 0 = (((b.getD 0 0).toNat : Nat) : Int) := by rw [bt_B]; rfl
      simp only [e0, e1, s0, s1, t0, t1, if_true, List.length_map, List.length_cons, List.length_nil]
      by_cases h2 : a.getD 0 0 = 116
      · rw [h2, decide_eq_true rfl, Bool.true_and]
        by_cases h3 : b.getD 0 0 = 97
        · rw [h3]
          exact Ev.eq (Ev.now _) (by decide)
        · rw [show ((((b.getD 0 0).toNat : Nat) : Int) == 97) = false from byte_ne (n := 97) (by decide) h3, decide_eq_false h3]
          exact Ev.eq (Ev.now _) (by simp)
      · have n2 : ¬ (((a.getD 0 0).toNat : Nat) : Int) = 116 := fun e => h2 ((b116 _).mp e)
        simp only [n2, decide_eq_false h2, Bool.false_and, if_false]
        exact Ev.eq (Ev.now _) (by simp)
    · have n1 : ¬ (((t.getD 0 0).toNat : Nat) : Int) = 112 := fun e => h1 ((b112 _).mp e)
      rw [hk, leafL, decide_eq_false h1]
      simp only [n1, if_false, Bool.and_false, Bool.false_and]
      exact Ev.eq (Ev.now _) rfl
theorem letterlockref10_first.of (n : Nat) (h1 : 2 ≤ n) (h2 : n ≤ 8) (k : Nat) : letterlockref10_first.f (k + 4) (n : Int) = some ((firstN n : Nat) : Int) := by
  rcases (by omega : n = 2 ∨ n = 3 ∨ n = 4 ∨ n = 5 ∨ n = 6 ∨ n = 7 ∨ n = 8) with rfl | rfl | rfl | rfl | rfl | rfl | rfl <;> simp [letterlockref10_first.f, letterlockref10_first.l0, wrap64, firstN]
theorem letterlockref10_over.ev (a b : List UInt8) (ha : a.length ≤ 100000000) (hb : b.length ≤ 100000000) : Ev (fun k => letterlockref10_over.f k (B a) (B b)) (pr (overL a b)) := by
  unfold letterlockref10_over.f overL
  refine Ev.bind (letterlockref3_OfPair.ev a b ha hb) ?_
  have hl := ofL_len [112] [a, b]
  by_cases h : (ofL [112] [a, b]).2 = 0
  · simp only [pr, h, if_true]
    refine Ev.bind (letterlockref3_OfHash.ev _ (by omega)) ?_
    exact Ev.eq (Ev.now _) rfl
  · simp only [pr, h, if_false]
    exact Ev.eq (Ev.now _) rfl
theorem overL_len (a b : List UInt8) : (overL a b).1.length ≤ 4000 := by
  unfold overL
  split
  · exact ofL_len _ _
  · simp
theorem treeL_len (ls : List (List UInt8)) : (treeL ls).1.length ≤ 4000 := by
  rw [treeL]
  split
  · split
    · split
      · exact overL_len _ _
      · simp
    · simp
  · exact ofL_len _ _
theorem letterlockref10_tree.ev : ∀ (n : Nat) (ls : List (List UInt8)), ls.length = n → 1 ≤ n → n ≤ 8 → (∀ x ∈ ls, x.length ≤ 100000000) → Ev (fun k => letterlockref10_tree.f k (ls.map B)) (pr (treeL ls)) := by
  intro n
  induction n using Nat.strongRecOn with
  | _ n ih =>
    intro ls hn h1 h8 hx
    rw [treeL]
    by_cases h : 1 < ls.length
    · have f1 := firstN_pos ls.length
      have f2 := firstN_lt h
      obtain ⟨K1, e1⟩ := ih (firstN ls.length) (by omega) (ls.take (firstN ls.length)) (by rw [List.length_take]; omega) (by omega) (by omega) (fun x hm => hx x (List.mem_of_mem_take hm))
      obtain ⟨K2, e2⟩ := ih (ls.length - firstN ls.length) (by omega) (ls.drop (firstN ls.length)) (by rw [List.length_drop]) (by omega) (by omega) (fun x hm => hx x (List.mem_of_mem_drop hm))
      have l1 := treeL_len (ls.take (firstN ls.length))
      have l2 := treeL_len (ls.drop (firstN ls.length))
      obtain ⟨K3, e3⟩ := letterlockref10_over.ev (treeL (ls.take (firstN ls.length))).1 (treeL (ls.drop (firstN ls.length))).1 (by omega) (by omega)
      refine ⟨K1 + K2 + K3 + 5, fun k hk => ?_⟩
      obtain ⟨k, rfl⟩ : ∃ m, k = m + 5 := ⟨k - 5, by omega⟩
      have g1 : letterlockref10_tree.f (k + 4) ((ls.take (firstN ls.length)).map B) = _ := e1 _ (by omega)
      have g2 : letterlockref10_tree.f (k + 4) ((ls.drop (firstN ls.length)).map B) = _ := e2 _ (by omega)
      have g3 : letterlockref10_over.f (k + 4) (B (treeL (ls.take (firstN ls.length))).1) (B (treeL (ls.drop (firstN ls.length))).1) = _ := e3 _ (by omega)
      show letterlockref10_tree.f (k + 5) _ = _
      rw [letterlockref10_tree.f, List.length_map, if_neg (by omega), letterlockref10_first.of ls.length (by omega) (by omega) k, Option.bind_some, if_pos (by omega), if_pos (by omega), Int.toNat_natCast, ← List.map_take, ← List.map_drop, g1, Option.bind_some, g2, dif_pos h]
      generalize treeL (ls.take (firstN ls.length)) = a at g3
      generalize treeL (ls.drop (firstN ls.length)) = b at g3
      by_cases ha : a.2 = 0
      · rw [if_pos ha, if_pos (show (pr a).2 = 0 from ha), Option.bind_some]
        by_cases hb : b.2 = 0
        · rw [if_pos hb, if_pos (show (pr b).2 = 0 from hb), show (pr a).1 = B a.1 from rfl, show (pr b).1 = B b.1 from rfl, g3]
          rfl
        · rw [if_neg hb, if_neg (show ¬ (pr b).2 = 0 from hb)]
          rfl
      · rw [if_neg ha, if_neg (show ¬ (pr a).2 = 0 from ha)]
        rfl
    · obtain ⟨x, rfl⟩ : ∃ x, ls = [x] := List.length_eq_one_iff.mp (by omega)
      obtain ⟨K, e⟩ := letterlockref3_OfHash.ev x (hx x (by simp))
      refine ⟨K + 1, fun k hk => ?_⟩
      obtain ⟨k, rfl⟩ : ∃ m, k = m + 1 := ⟨k - 1, by omega⟩
      have g : letterlockref3_OfHash.f k (B x) = _ := e k (by omega)
      show letterlockref10_tree.f (k + 1) _ = _
      rw [letterlockref10_tree.f, if_pos (by simp), if_pos (by simp), show rdOf ByteArray.empty ([x].map B) 0 = B x from rfl, g, dif_neg h]
      rfl
def rootP (ls : List (List UInt8)) : List UInt8 × Int := if ls.length = 0 ∨ 8 < ls.length then ([], 1) else if ls.any (fun t => !leafL t) then ([], 1) else treeL ls
theorem tree_Root.of (k : Nat) (hk : 8 ≤ k) (ls : List (List UInt8)) : tree_Root.f k (ls.map B) = some (pr (rootP ls)) := by
  rw [tree_Root.f, rootP, List.length_map, List.any_map, show ((fun t => !leafL (S t)) ∘ B) = (fun t => !leafL t) from rfl]
  by_cases h : ls.length = 0 ∨ 8 < ls.length
  · rw [if_pos h, if_pos h]; rfl
  · rw [if_neg h, if_neg h]
    by_cases h2 : ls.any (fun t => !leafL t) = true
    · rw [if_pos h2, if_pos h2]; rfl
    · rw [if_neg h2, if_neg h2]
      exact tree_grow.of k ls (by omega) (by omega) (by omega)
theorem ref_root_l0 (ls : List (List UInt8)) (h0 : 1 ≤ ls.length) (h8 : ls.length ≤ 8) (hx : ∀ x ∈ ls, x.length ≤ 100000000) : ∀ (m i : Nat), i + m = ls.length → (ls.take i).any (fun t => !leafL t) = false →
    Ev (fun k => letterlockref10_Root.l0 k (ls.map B) (i : Int)) (pr (if ls.any (fun t => !leafL t) then ([], 1) else treeL ls)) := by
  intro m
  induction m with
  | zero =>
    intro i hi ha
    obtain ⟨K, e⟩ := letterlockref10_tree.ev ls.length ls rfl h0 h8 hx
    rw [show i = ls.length from by omega, List.take_length] at ha
    refine ⟨K + 1, fun k hk => ?_⟩
    obtain ⟨k, rfl⟩ : ∃ m, k = m + 1 := ⟨k - 1, by omega⟩
    have g : letterlockref10_tree.f k (ls.map B) = _ := e k (by omega)
    show letterlockref10_Root.l0 (k + 1) _ _ = _
    rw [letterlockref10_Root.l0, if_neg (by rw [List.length_map]; omega), g, ha]
    rfl
  | succ m ih =>
    intro i hi ha
    have hil : i < ls.length := by omega
    obtain ⟨K0, e0⟩ := letterlockref10_leaf.ev ls[i] (by have := hx _ (List.getElem_mem hil); omega)
    have htk : ls.take (i + 1) = ls.take i ++ [ls[i]] := List.take_succ_eq_append_getElem hil
    cases hlf : leafL ls[i]
    · refine ⟨K0 + 1, fun k hk => ?_⟩
      obtain ⟨k, rfl⟩ : ∃ m, k = m + 1 := ⟨k - 1, by omega⟩
      have g : letterlockref10_leaf.f k (B ls[i]) = _ := e0 k (by omega)
      show letterlockref10_Root.l0 (k + 1) _ _ = _
      rw [letterlockref10_Root.l0, if_pos (by rw [List.length_map]; omega), if_pos (by omega), rdOf_map ls i hil, g, hlf, Option.bind_some, if_neg (by decide), show ls.any (fun t => !leafL t) = true from List.any_eq_true.mpr ⟨_, List.getElem_mem hil, by rw [hlf]; rfl⟩]
      rfl
    · obtain ⟨K, e⟩ := ih (i + 1) (by omega) (by rw [htk, List.any_append, ha]; simp [hlf])
      refine ⟨K + K0 + 1, fun k hk => ?_⟩
      obtain ⟨k, rfl⟩ : ∃ m, k = m + 1 := ⟨k - 1, by omega⟩
      have g : letterlockref10_leaf.f k (B ls[i]) = _ := e0 k (by omega)
      show letterlockref10_Root.l0 (k + 1) _ _ = _
      rw [letterlockref10_Root.l0, if_pos (by rw [List.length_map]; omega), if_pos (by omega), rdOf_map ls i hil, g, hlf, Option.bind_some, if_pos rfl, w64 _ (by omega) (by omega), show (i : Int) + 1 = ((i + 1 : Nat) : Int) from by omega]
      exact e k (by omega)
theorem letterlockref10_Root.ev (ls : List (List UInt8)) (hl : ls.length ≤ 100) (hx : ∀ x ∈ ls, x.length ≤ 100000000) : Ev (fun k => letterlockref10_Root.f k (ls.map B)) (pr (rootP ls)) := by
  have bad : Ev (fun k => letterlockref10_Root.j0 k (ls.map B) true) (pr ([], 1)) := ⟨1, fun k hk => by
    obtain ⟨k, rfl⟩ : ∃ m, k = m + 1 := ⟨k - 1, by omega⟩
    show letterlockref10_Root.j0 (k + 1) _ _ = _
    rw [letterlockref10_Root.j0, if_pos rfl]
    rfl⟩
  unfold letterlockref10_Root.f
  rw [List.length_map, rootP]
  by_cases h0 : ls.length = 0
  · rw [if_pos (Or.inl h0)]
    simp only [show ((ls.length : Int) < 1) from by omega, if_true]
    exact bad
  · simp only [show ¬ ((ls.length : Int) < 1) from by omega, if_false]
    by_cases h8 : 8 < ls.length
    · rw [if_pos (Or.inr h8), show decide ((ls.length : Int) > 8) = true from decide_eq_true (by omega)]
      exact bad
    · rw [if_neg (by omega), show decide ((ls.length : Int) > 8) = false from decide_eq_false (by omega)]
      obtain ⟨K, e⟩ := ref_root_l0 ls (by omega) (by omega) hx ls.length 0 (by omega) (by simp)
      refine ⟨K + 1, fun k hk => ?_⟩
      obtain ⟨k, rfl⟩ : ∃ m, k = m + 1 := ⟨k - 1, by omega⟩
      show letterlockref10_Root.j0 (k + 1) _ _ = _
      rw [letterlockref10_Root.j0, if_neg (by decide)]
      exact e k (by omega)
def shF (s : Nat) (x : Fk) : Fk := ⟨x.f0 + (s : Int), x.f1 + (s : Int), x.f2⟩
theorem forks_shift (s : Nat) : ∀ (m a lo hi : Nat), hi - lo ≤ m → forks (a + s) (lo + s) (hi + s) = (forks a lo hi).map (shF s) := by
  intro m
  induction m with
  | zero =>
    intro a lo hi h
    rw [forks, dif_neg (by omega), forks, dif_neg (by omega)]
    rfl
  | succ m ih =>
    intro a lo hi h
    rw [forks, forks.eq_def a lo hi]
    rw [show hi + s - (lo + s) = hi - lo from by omega]
    by_cases h1 : 1 < hi - lo
    · have f1 := firstN_pos (hi - lo)
      have f2 := firstN_lt h1
      rw [dif_pos h1, dif_pos h1, show lo + s + firstN (hi - lo) = lo + firstN (hi - lo) + s from by omega]
      by_cases h2 : lo + firstN (hi - lo) ≤ a
      · rw [if_pos (by omega), if_pos h2, ih a (lo + firstN (hi - lo)) hi (by omega), List.map_cons]
        congr 1
      · rw [if_neg (by omega), if_neg h2, ih a lo (lo + firstN (hi - lo)) (by omega), List.map_cons]
        congr 1
    · rw [dif_neg h1, dif_neg h1]
      rfl
theorem ofL_bad {k : List UInt8} {ls : List (List UInt8)} (h : ¬ (ofL k ls).2 = 0) : (ofL k ls).1 = [] := by
  unfold ofL at h ⊢
  split at h
  · rename_i h1
    rw [if_pos h1]
    split at h
    · exact absurd rfl h
    · rename_i h2; rw [if_neg h2]
  · rename_i h1
    rw [if_neg h1]
theorem overL_bad {a b : List UInt8} (h : ¬ (overL a b).2 = 0) : (overL a b).1 = [] := by
  unfold overL at h ⊢
  by_cases h1 : (ofL [112] [a, b]).2 = 0
  · rw [if_pos h1] at h ⊢
    exact ofL_bad h
  · rw [if_neg h1]
theorem overL_ok {a b : List UInt8} (h : (overL a b).2 = 0) : right a = true ∧ right b = true ∧ right (overL a b).1 = true := by
  unfold overL at h ⊢
  by_cases h1 : (ofL [112] [a, b]).2 = 0
  · rw [if_pos h1] at h ⊢
    refine ⟨?_, ?_, ofL_right h⟩
    · unfold ofL at h1
      split at h1
      · rename_i h2; simp at h2; exact h2.1
      · exact absurd h1 (by decide)
    · unfold ofL at h1
      split at h1
      · rename_i h2; simp at h2; exact h2.2
      · exact absurd h1 (by decide)
  · rw [if_neg h1] at h
    exact absurd h h1
theorem overL_nil (a b : List UInt8) (h : a = [] ∨ b = []) : overL a b = ([], 1) := by
  have hr : right [] = false := by unfold right; simp
  have e : ofL [112] [a, b] = ([], 1) := by
    unfold ofL
    rw [if_neg]
    rcases h with rfl | rfl
    · simp [hr]
    · simp [hr]
  rw [overL, e, if_neg (by decide)]
def upR (t : List UInt8) : Nat → Nat → List (List UInt8) → List UInt8
  | many, a, ps =>
    if h : many ≤ 1 then (if ps = [] then (ofL [104] [t]).1 else [])
    else if ps = [] then []
    else if a < firstN many then (overL (upR t (firstN many) a (ps.take (ps.length - 1))) (ps.getD (ps.length - 1) [])).1
    else (overL (ps.getD (ps.length - 1) []) (upR t (many - firstN many) (a - firstN many) (ps.take (ps.length - 1)))).1
termination_by many => many
decreasing_by
  · exact firstN_lt (by omega)
  · have := firstN_pos many; omega
theorem upR_len (t : List UInt8) (many a : Nat) (ps : List (List UInt8)) : (upR t many a ps).length ≤ 4000 := by
  rw [upR]
  split
  · split
    · exact ofL_len _ _
    · simp
  · split
    · simp
    · split
      · exact overL_len _ _
      · exact overL_len _ _
theorem letterlockref10_up.ev (t : List UInt8) (ht : t.length ≤ 100000000) : ∀ (n a : Nat) (ps : List (List UInt8)), 1 ≤ n → n ≤ 8 → ps.length ≤ 100 → a < n → (∀ x ∈ ps, x.length ≤ 100000000) → Ev (fun k => letterlockref10_up.f k (n : Int) (a : Int) (B t) (ps.map B)) (B (upR t n a ps)) := by
  intro n
  induction n using Nat.strongRecOn with
  | _ n ih =>
    intro a ps h1 h8 hp ha hx
    rw [upR]
    by_cases hn : n ≤ 1
    · rw [dif_pos hn]
      have hn1 : n = 1 := by omega
      subst hn1
      by_cases hps : ps = []
      · subst hps
        obtain ⟨K, e⟩ := letterlockref3_OfHash.ev t ht
        refine ⟨K + 1, fun k hk => ?_⟩
        obtain ⟨k, rfl⟩ : ∃ m, k = m + 1 := ⟨k - 1, by omega⟩
        have g : letterlockref3_OfHash.f k (B t) = _ := e k (by omega)
        show letterlockref10_up.f (k + 1) _ _ _ _ = _
        rw [letterlockref10_up.f, if_pos (by simp), if_neg (by simp), g, if_pos rfl]
        rfl
      · have hpl := List.length_pos_iff.mpr hps
        refine ⟨1, fun k hk => ?_⟩
        obtain ⟨k, rfl⟩ : ∃ m, k = m + 1 := ⟨k - 1, by omega⟩
        show letterlockref10_up.f (k + 1) _ _ _ _ = _
        rw [letterlockref10_up.f, if_pos (by simp), if_pos (by rw [List.length_map]; omega), if_neg hps]
        rfl
    · rw [dif_neg hn]
      by_cases hps : ps = []
      · subst hps
        refine ⟨1, fun k hk => ?_⟩
        obtain ⟨k, rfl⟩ : ∃ m, k = m + 1 := ⟨k - 1, by omega⟩
        show letterlockref10_up.f (k + 1) _ _ _ _ = _
        rw [letterlockref10_up.f, if_neg (by omega), if_pos (by simp), if_pos rfl]
        rfl
      · have hpl := List.length_pos_iff.mpr hps
        have f1 := firstN_pos n
        have f2 : firstN n < n := firstN_lt (by omega)
        have hw : wrap64 (((ps.map B).length : Int) - 1) = ((ps.length - 1 : Nat) : Int) := by rw [List.length_map, w64 _ (by omega) (by omega)]; omega
        have hlast : rdOf ByteArray.empty (ps.map B) ((ps.length - 1 : Nat) : Int) = B (ps.getD (ps.length - 1) []) := by
          rw [rdOf_map ps (ps.length - 1) (by omega), List.getD_eq_getElem?_getD, List.getElem?_eq_getElem (by omega)]; rfl
        have hxl : (ps.getD (ps.length - 1) []).length ≤ 100000000 := by
          rw [List.getD_eq_getElem?_getD, List.getElem?_eq_getElem (by omega)]; exact hx _ (List.getElem_mem _)
        have hxt : ∀ x ∈ ps.take (ps.length - 1), x.length ≤ 100000000 := fun x hm => hx x (List.mem_of_mem_take hm)
        have hpt : (ps.take (ps.length - 1)).length ≤ 100 := by rw [List.length_take]; omega
        rw [if_neg hps]
        by_cases hk : a < firstN n
        · rw [if_pos hk]
          obtain ⟨K1, e1⟩ := ih (firstN n) f2 a (ps.take (ps.length - 1)) (by omega) (by omega) hpt hk hxt
          have hul := upR_len t (firstN n) a (ps.take (ps.length - 1))
          obtain ⟨K2, e2⟩ := letterlockref10_over.ev (upR t (firstN n) a (ps.take (ps.length - 1))) (ps.getD (ps.length - 1) []) (by omega) hxl
          refine ⟨K1 + K2 + 5, fun k hk2 => ?_⟩
          obtain ⟨k, rfl⟩ : ∃ m, k = m + 5 := ⟨k - 5, by omega⟩
          have g1 : letterlockref10_up.f (k + 4) ((firstN n : Nat) : Int) (a : Int) (B t) ((ps.take (ps.length - 1)).map B) = _ := e1 _ (by omega)
          have g2 : letterlockref10_over.f (k + 4) (B (upR t (firstN n) a (ps.take (ps.length - 1)))) (B (ps.getD (ps.length - 1) [])) = _ := e2 _ (by omega)
          show letterlockref10_up.f (k + 5) _ _ _ _ = _
          rw [letterlockref10_up.f, if_neg (by omega), if_neg (by rw [List.length_map]; omega), letterlockref10_first.of n (by omega) h8 k, Option.bind_some, if_pos (by omega), hw, List.length_map, if_pos (by omega), if_pos (by omega), Int.toNat_natCast, ← List.map_take, g1, Option.bind_some, if_pos (by omega), hlast, g2]
          rfl
        · rw [if_neg hk]
          obtain ⟨K1, e1⟩ := ih (n - firstN n) (by omega) (a - firstN n) (ps.take (ps.length - 1)) (by omega) (by omega) hpt (by omega) hxt
          have hul := upR_len t (n - firstN n) (a - firstN n) (ps.take (ps.length - 1))
          obtain ⟨K2, e2⟩ := letterlockref10_over.ev (ps.getD (ps.length - 1) []) (upR t (n - firstN n) (a - firstN n) (ps.take (ps.length - 1))) hxl (by omega)
          have hw2 : wrap64 ((n : Int) - ((firstN n : Nat) : Int)) = ((n - firstN n : Nat) : Int) := by rw [w64 _ (by omega) (by omega)]; omega
          have hw3 : wrap64 ((a : Int) - ((firstN n : Nat) : Int)) = ((a - firstN n : Nat) : Int) := by rw [w64 _ (by omega) (by omega)]; omega
          refine ⟨K1 + K2 + 5, fun k hk2 => ?_⟩
          obtain ⟨k, rfl⟩ : ∃ m, k = m + 5 := ⟨k - 5, by omega⟩
          have g1 : letterlockref10_up.f (k + 4) ((n - firstN n : Nat) : Int) ((a - firstN n : Nat) : Int) (B t) ((ps.take (ps.length - 1)).map B) = _ := e1 _ (by omega)
          have g2 : letterlockref10_over.f (k + 4) (B (ps.getD (ps.length - 1) [])) (B (upR t (n - firstN n) (a - firstN n) (ps.take (ps.length - 1)))) = _ := e2 _ (by omega)
          show letterlockref10_up.f (k + 5) _ _ _ _ = _
          rw [letterlockref10_up.f, if_neg (by omega), if_neg (by rw [List.length_map]; omega), letterlockref10_first.of n (by omega) h8 k, Option.bind_some, if_neg (by omega), hw, List.length_map, if_pos (by omega), if_pos (by omega), if_pos (by omega), Int.toNat_natCast, ← List.map_take, hw2, hw3, g1, Option.bind_some, hlast, g2]
          rfl
theorem upL_snoc : ∀ (fs : List Fk) (qs : List (List UInt8)) (f : Fk) (p : List UInt8) (u : List UInt8 × Int), fs.length = qs.length →
    upL (fs ++ [f]) (qs ++ [p]) u = (if (upL fs qs u).2 = 0 then (if f.f2 then overL p (upL fs qs u).1 else overL (upL fs qs u).1 p) else upL fs qs u)
  | [], [], f, p, u, _ => by
    rw [List.nil_append, List.nil_append, upL, show upL [] [] u = u from rfl]
    by_cases h : u.2 = 0
    · rw [if_pos h, if_pos h, upL]
      intro _ _ _ _ h2
      exact absurd h2 (by simp)
    · rw [if_neg h, if_neg h]
  | [], q :: qs, f, p, u, h => by simp at h
  | g :: fs, [], f, p, u, h => by simp at h
  | g :: fs, q :: qs, f, p, u, h => by
    rw [List.cons_append, List.cons_append, upL, upL]
    by_cases h0 : u.2 = 0
    · rw [if_pos h0, if_pos h0]
      exact upL_snoc fs qs f p _ (by simpa using h)
    · rw [if_neg h0, if_neg h0, if_neg h0]
theorem upL_shift (s : Nat) : ∀ (fs : List Fk) (qs : List (List UInt8)) (u : List UInt8 × Int), upL (fs.map (shF s)) qs u = upL fs qs u
  | [], qs, u => by cases qs <;> rfl
  | g :: fs, [], u => rfl
  | g :: fs, q :: qs, u => by
    rw [List.map_cons, upL, upL, upL_shift s fs qs]
    rfl
theorem forks_rev_lo (n a : Nat) (h1 : 1 < n) (ha : a < firstN n) : (forks a 0 n).reverse = (forks a 0 (firstN n)).reverse ++ [⟨((firstN n : Nat) : Int), (n : Int), false⟩] := by
  rw [forks, dif_pos (by omega), Nat.sub_zero, Nat.zero_add, if_neg (by omega), List.reverse_cons]
theorem forks_rev_hi (n a : Nat) (h1 : 1 < n) (ha : firstN n ≤ a) : (forks a 0 n).reverse = (forks (a - firstN n) 0 (n - firstN n)).reverse.map (shF (firstN n)) ++ [⟨0, ((firstN n : Nat) : Int), true⟩] := by
  have f2 := firstN_lt h1
  have hs := forks_shift (firstN n) n (a - firstN n) 0 (n - firstN n) (by omega)
  rw [Nat.sub_add_cancel ha, Nat.zero_add, Nat.sub_add_cancel (by omega)] at hs
  rw [forks, dif_pos (by omega), Nat.sub_zero, Nat.zero_add, if_pos ha, List.reverse_cons, hs, List.map_reverse]
  rfl
theorem take_last {ps : List (List UInt8)} (h : 0 < ps.length) : ps.take (ps.length - 1) ++ [ps.getD (ps.length - 1) []] = ps := by
  have e := List.take_succ_eq_append_getElem (l := ps) (i := ps.length - 1) (by omega)
  rw [show ps.length - 1 + 1 = ps.length from by omega, List.take_length] at e
  rw [List.getD_eq_getElem?_getD, List.getElem?_eq_getElem (by omega)]
  exact e.symm
theorem upL_bad : ∀ (fs : List Fk) (qs : List (List UInt8)) (u : List UInt8 × Int), (¬ u.2 = 0 → u.1 = []) → ¬ (upL fs qs u).2 = 0 → (upL fs qs u).1 = []
  | [], qs, u, hu, h => by
    rw [show upL [] qs u = u from by cases qs <;> rfl] at h ⊢
    exact hu h
  | g :: fs, [], u, hu, h => hu h
  | g :: fs, q :: qs, u, hu, h => by
    rw [upL] at h ⊢
    by_cases h0 : u.2 = 0
    · rw [if_pos h0] at h ⊢
      refine upL_bad fs qs _ ?_ h
      intro h1
      split
      · rename_i h2; rw [if_pos h2] at h1; exact overL_bad h1
      · rename_i h2; rw [if_neg h2] at h1; exact overL_bad h1
    · rw [if_neg h0] at h ⊢
      exact hu h
theorem upR_upL (t : List UInt8) : ∀ (n a : Nat) (ps : List (List UInt8)), 1 ≤ n → a < n → upR t n a ps = if (forks a 0 n).length = ps.length then (upL (forks a 0 n).reverse ps (ofL [104] [t])).1 else [] := by
  intro n
  induction n using Nat.strongRecOn with
  | _ n ih =>
    intro a ps h1 ha
    rw [upR]
    by_cases hn : n ≤ 1
    · obtain rfl : n = 1 := by omega
      rw [dif_pos hn, forks_one]
      by_cases hps : ps = []
      · subst hps; rfl
      · rw [if_neg hps, if_neg (by have := List.length_pos_iff.mpr hps; simp; omega)]
    · have f1 := firstN_pos n
      have f2 : firstN n < n := firstN_lt (by omega)
      have hfl : 0 < (forks a 0 n).length := by rw [forks, dif_pos (by omega)]; split <;> simp
      rw [dif_neg hn]
      by_cases hps : ps = []
      · subst hps
        rw [if_pos rfl, if_neg (by rw [List.length_nil]; omega)]
      · have hpl := List.length_pos_iff.mpr hps
        have htl : (ps.take (ps.length - 1)).length = ps.length - 1 := by rw [List.length_take]; omega
        have hlast := take_last hpl
        have hbad : ∀ (fs : List Fk) (qs : List (List UInt8)), ¬ (upL fs qs (ofL [104] [t])).2 = 0 → (upL fs qs (ofL [104] [t])).1 = [] := fun fs qs => upL_bad fs qs _ ofL_bad
        rw [if_neg hps]
        by_cases hk : a < firstN n
        · have hrev := forks_rev_lo n a (by omega) hk
          have hl2 : (forks a 0 n).length = (forks a 0 (firstN n)).length + 1 := by rw [← List.length_reverse, hrev, List.length_append, List.length_reverse]; rfl
          rw [if_pos hk, ih (firstN n) f2 a (ps.take (ps.length - 1)) (by omega) hk, htl, hl2]
          by_cases he : (forks a 0 (firstN n)).length = ps.length - 1
          · rw [if_pos he, if_pos (by omega), hrev]
            have hs := upL_snoc (forks a 0 (firstN n)).reverse (ps.take (ps.length - 1)) ⟨((firstN n : Nat) : Int), (n : Int), false⟩ (ps.getD (ps.length - 1) []) (ofL [104] [t]) (by rw [List.length_reverse, htl]; exact he)
            rw [hlast] at hs
            rw [hs]
            by_cases h0 : (upL (forks a 0 (firstN n)).reverse (ps.take (ps.length - 1)) (ofL [104] [t])).2 = 0
            · rw [if_pos h0]; rfl
            · rw [if_neg h0, hbad _ _ h0, overL_nil _ _ (Or.inl rfl)]
          · rw [if_neg he, if_neg (by omega), overL_nil _ _ (Or.inl rfl)]
        · have hrev := forks_rev_hi n a (by omega) (by omega)
          have hl2 : (forks a 0 n).length = (forks (a - firstN n) 0 (n - firstN n)).length + 1 := by rw [← List.length_reverse, hrev, List.length_append, List.length_map, List.length_reverse]; rfl
          rw [if_neg hk, ih (n - firstN n) (by omega) (a - firstN n) (ps.take (ps.length - 1)) (by omega) (by omega), htl, hl2]
          by_cases he : (forks (a - firstN n) 0 (n - firstN n)).length = ps.length - 1
          · rw [if_pos he, if_pos (by omega), hrev]
            have hs := upL_snoc ((forks (a - firstN n) 0 (n - firstN n)).reverse.map (shF (firstN n))) (ps.take (ps.length - 1)) ⟨0, ((firstN n : Nat) : Int), true⟩ (ps.getD (ps.length - 1) []) (ofL [104] [t]) (by rw [List.length_map, List.length_reverse, htl]; exact he)
            rw [hlast, upL_shift] at hs
            rw [hs]
            by_cases h0 : (upL (forks (a - firstN n) 0 (n - firstN n)).reverse (ps.take (ps.length - 1)) (ofL [104] [t])).2 = 0
            · rw [if_pos h0]; rfl
            · rw [if_neg h0, hbad _ _ h0, overL_nil _ _ (Or.inr rfl)]
          · rw [if_neg he, if_neg (by omega), overL_nil _ _ (Or.inr rfl)]
theorem upL_right : ∀ (fs : List Fk) (qs : List (List UInt8)) (u : List UInt8 × Int), fs.length = qs.length → (u.2 = 0 → right u.1 = true) → (upL fs qs u).2 = 0 → (∀ q ∈ qs, right q = true) ∧ right (upL fs qs u).1 = true
  | [], [], u, _, hu, h => ⟨by simp, hu h⟩
  | [], q :: qs, u, hl, _, _ => by simp at hl
  | g :: fs, [], u, hl, _, _ => by simp at hl
  | g :: fs, q :: qs, u, hl, hu, h => by
    rw [upL] at h ⊢
    by_cases h0 : u.2 = 0
    · rw [if_pos h0] at h ⊢
      have key : ((if g.f2 then overL q u.1 else overL u.1 q).2 = 0 → right (if g.f2 then overL q u.1 else overL u.1 q).1 = true) := by
        split
        · exact fun h => (overL_ok h).2.2
        · exact fun h => (overL_ok h).2.2
      obtain ⟨r1, r2⟩ := upL_right fs qs _ (by simpa using hl) key h
      refine ⟨?_, r2⟩
      intro x hx
      rcases List.mem_cons.mp hx with rfl | hx
      · have hv : (if g.f2 then overL x u.1 else overL u.1 x).2 = 0 := by
          by_cases hv : (if g.f2 then overL x u.1 else overL u.1 x).2 = 0
          · exact hv
          · rw [upL_err hv] at h
            exact h
        split at hv
        · exact (overL_ok hv).1
        · exact (overL_ok hv).2.1
      · exact r1 x hx
    · rw [if_neg h0] at h
      exact absurd h h0
theorem ref_verify_l0 (root t : List UInt8) (n a : Nat) (ps : List (List UInt8)) (ht : t.length ≤ 100000000) (h1 : 1 ≤ n) (h8 : n ≤ 8) (ha : a < n) (hp : ps.length ≤ 100) (hx : ∀ x ∈ ps, x.length ≤ 100000000) :
    ∀ (m i : Nat), i + m = ps.length → Ev (fun k => letterlockref10_Verify.l0 k (B root) (n : Int) (a : Int) (B t) (ps.map B) (i : Int)) (if (ps.drop i).all right then upR t n a ps == root else false) := by
  intro m
  induction m with
  | zero =>
    intro i hi
    obtain ⟨K, e⟩ := letterlockref10_up.ev t ht n a ps h1 h8 hp ha hx
    refine ⟨K + 1, fun k hk => ?_⟩
    obtain ⟨k, rfl⟩ : ∃ m, k = m + 1 := ⟨k - 1, by omega⟩
    have g : letterlockref10_up.f k (n : Int) (a : Int) (B t) (ps.map B) = _ := e k (by omega)
    show letterlockref10_Verify.l0 (k + 1) _ _ _ _ _ _ = _
    rw [letterlockref10_Verify.l0, if_neg (by rw [List.length_map]; omega), g, Option.bind_some, toList_B, toList_B, List.drop_eq_nil_of_le (by omega)]
    rfl
  | succ m ih =>
    intro i hi
    have hil : i < ps.length := by omega
    obtain ⟨K0, e0⟩ := letterlockref3_Right.ev ps[i] (by have := hx _ (List.getElem_mem hil); omega)
    obtain ⟨K, e⟩ := ih (i + 1) (by omega)
    have hd : ps.drop i = ps[i] :: ps.drop (i + 1) := List.drop_eq_getElem_cons hil
    refine ⟨K + K0 + 1, fun k hk => ?_⟩
    obtain ⟨k, rfl⟩ : ∃ m, k = m + 1 := ⟨k - 1, by omega⟩
    have g : letterlockref3_Right.f k (B ps[i]) = _ := e0 k (by omega)
    have g2 : letterlockref10_Verify.l0 k (B root) (n : Int) (a : Int) (B t) (ps.map B) ((i + 1 : Nat) : Int) = _ := e k (by omega)
    show letterlockref10_Verify.l0 (k + 1) _ _ _ _ _ _ = _
    rw [letterlockref10_Verify.l0, if_pos (by rw [List.length_map]; omega), if_pos (by omega), rdOf_map ps i hil, g, Option.bind_some, w64 _ (by omega) (by omega), show (i : Int) + 1 = ((i + 1 : Nat) : Int) from by omega, hd, List.all_cons]
    cases hr : right ps[i]
    · rw [if_neg (by decide), Bool.false_and, if_neg (by decide)]
    · rw [if_pos rfl, g2, Bool.true_and]
theorem letterlockref10_Verify.ev (root t : List UInt8) (many a : Int) (ps : List (List UInt8)) (hr : root.length ≤ 100000000) (ht : t.length ≤ 100000000) (hp : ps.length ≤ 100) (hx : ∀ x ∈ ps, x.length ≤ 100000000) :
    Ev (fun k => letterlockref10_Verify.f k (B root) many a (B t) (ps.map B)) (verifyT root many a t ps) := by
  have no : Ev (fun k => letterlockref10_Verify.j0 k (B root) many a (B t) (ps.map B) true) false := ⟨1, fun k hk => by
    obtain ⟨k, rfl⟩ : ∃ m, k = m + 1 := ⟨k - 1, by omega⟩
    show letterlockref10_Verify.j0 (k + 1) _ _ _ _ _ _ = _
    rw [letterlockref10_Verify.j0, if_pos rfl]⟩
  unfold letterlockref10_Verify.f
  by_cases q1 : a < 0 ∨ many < 1 ∨ 8 < many ∨ many ≤ a
  · rw [verifyT, if_pos (by omega)]
    by_cases c1 : many < 1
    · simp only [c1, if_true]; exact no
    · by_cases c2 : many > 8
      · simp only [c1, c2, if_true, if_false]; exact no
      · by_cases c3 : a < 0
        · simp only [c1, c2, c3, if_true, if_false]; exact no
        · have c4 : a ≥ many := by omega
          simp only [c1, c2, c3, c4, if_true, if_false]; exact no
  · have c1 : ¬ many < 1 := by omega
    have c2 : ¬ many > 8 := by omega
    have c3 : ¬ a < 0 := by omega
    have c4 : ¬ a ≥ many := by omega
    simp only [c1, c2, c3, c4, if_false]
    refine Ev.bind (letterlockref10_leaf.ev t (by omega)) ?_
    cases hlf : leafL t
    · rw [verifyT, if_pos (Or.inr (Or.inr (Or.inr (Or.inr hlf))))]
      simp only [Bool.false_eq_true, if_false]
      exact no
    · obtain ⟨n, rfl⟩ : ∃ n : Nat, many = (n : Int) := ⟨many.toNat, by omega⟩
      obtain ⟨b, rfl⟩ : ∃ n : Nat, a = (n : Int) := ⟨a.toNat, by omega⟩
      have hb : b < n := by omega
      have hu := upR_upL t n b ps (by omega) hb
      rw [verifyT, if_neg (by rw [hlf]; simp; omega), Int.toNat_natCast, Int.toNat_natCast]
      simp only [if_true]
      refine Ev.bind (letterlockref3_Right.ev root (by omega)) ?_
      have fact : (upL (forks b 0 n).reverse ps (ofL [104] [t])).2 = 0 → (forks b 0 n).length = ps.length → (∀ q ∈ ps, right q = true) ∧ right (upL (forks b 0 n).reverse ps (ofL [104] [t])).1 = true := fun h hl =>
        upL_right _ _ _ (by rw [List.length_reverse]; exact hl) ofL_right h
      cases hrr : right root
      · refine Ev.eq no ?_
        by_cases hl : (forks b 0 n).length = ps.length
        · rw [if_neg (fun h => h hl)]
          refine (decide_eq_false ?_).symm
          rintro ⟨e1, e2⟩
          have := (fact e1 hl).2
          rw [e2, hrr] at this
          exact absurd this (by decide)
        · rw [if_pos hl]
      · obtain ⟨K, e⟩ := ref_verify_l0 root t n b ps ht (by omega) (by omega) hb hp hx ps.length 0 (by omega)
        refine ⟨K + 1, fun k hk => ?_⟩
        obtain ⟨k, rfl⟩ : ∃ m, k = m + 1 := ⟨k - 1, by omega⟩
        have g : letterlockref10_Verify.l0 k (B root) (n : Int) (b : Int) (B t) (ps.map B) 0 = _ := e k (by omega)
        show letterlockref10_Verify.j0 (k + 1) _ _ _ _ _ _ = _
        rw [letterlockref10_Verify.j0, if_neg (by decide), g, List.drop_zero, hu]
        have hne : ¬ ([] : List UInt8) = root := by intro h; rw [← h] at hrr; exact absurd hrr (by unfold right; simp)
        refine congrArg some ?_
        by_cases hl : (forks b 0 n).length = ps.length
        · rw [if_pos hl, if_neg (show ¬ ((forks b 0 n).length ≠ ps.length) from fun h => h hl)]
          by_cases h0 : (upL (forks b 0 n).reverse ps (ofL [104] [t])).2 = 0
          · have hall : ps.all right = true := List.all_eq_true.mpr (fact h0 hl).1
            rw [hall, if_pos rfl, Bool.eq_iff_iff, beq_iff_eq, decide_eq_true_iff]
            exact ⟨fun h => ⟨h0, h⟩, fun h => h.2⟩
          · rw [upL_bad _ _ _ ofL_bad h0, beq_eq_false_iff_ne.mpr hne, ite_self]
            exact (decide_eq_false (fun h => h0 h.1)).symm
        · rw [if_neg hl, if_pos (show (forks b 0 n).length ≠ ps.length from hl), beq_eq_false_iff_ne.mpr hne, ite_self]
end Go.Proofs.YtodiffgpefidoaaGreatDoor.P

