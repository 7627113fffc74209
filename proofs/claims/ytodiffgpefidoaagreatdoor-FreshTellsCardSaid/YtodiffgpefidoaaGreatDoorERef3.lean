/- Slimmed by wip/slim.py. -/
import Derived.Test.YtodiffgpefidoaaGreatDoorGRef3
import Derived.Test.YtodiffgpefidoaaGreatDoorGTerm
import Derived.Test.YtodiffgpefidoaaGreatDoorXTerm
import Derived.Test.YtodiffgpefidoaaGreatDoorGRef31
namespace Go.Proofs.YtodiffgpefidoaaGreatDoor.P
open Go.RowKit Go.Proofs.YtodiffgpefidoaaGreatDoorW.PrintWords Go.Proofs.YtodiffgpefidoaaGreatDoorW.PrintLast Go.Proofs.YtodiffgpefidoaaGreatDoorW.PrintMore
set_option linter.unusedVariables false
set_option linter.unusedSimpArgs false
def manyI (c : UInt8) : Int := if c = 97 ∨ c = 116 then 0 else if c = 104 ∨ c = 117 then 1 else if c = 112 ∨ c = 115 ∨ c = 98 ∨ c = 103 then 2 else -1
theorem ref3_many_fin : ∀ n : Fin 256, letterlockref3_many.f 3 ((n.val : Nat) : Int) = some (manyI (UInt8.ofNat n.val)) := by decide +kernel
theorem letterlockref3_many.ev (c : UInt8) : Ev (fun k => letterlockref3_many.f k ((c.toNat : Nat) : Int)) (manyI c) := by
  have h := ref3_many_fin ⟨c.toNat, c.toNat_lt⟩
  rw [show UInt8.ofNat c.toNat = c from by simp] at h
  exact Ev.of (letterlockref3_many.mono _) h
theorem eq_byte {c : UInt8} {n : Nat} (hn : n < 256) : ((c.toNat : Nat) : Int) = (n : Int) ↔ c = UInt8.ofNat n := by
  constructor
  · intro h
    rw [← (by exact_mod_cast h : c.toNat = n)]; simp
  · rintro rfl
    simp; omega
theorem b97 (c : UInt8) : ((c.toNat : Nat) : Int) = 97 ↔ c = 97 := eq_byte (n := 97) (by decide)
theorem b98 (c : UInt8) : ((c.toNat : Nat) : Int) = 98 ↔ c = 98 := eq_byte (n := 98) (by decide)
theorem b116 (c : UInt8) : ((c.toNat : Nat) : Int) = 116 ↔ c = 116 := eq_byte (n := 116) (by decide)
theorem b117 (c : UInt8) : ((c.toNat : Nat) : Int) = 117 ↔ c = 117 := eq_byte (n := 117) (by decide)
theorem letterlockref3_size.ev : ∀ (d : Nat), d ≤ 100 → ∀ s : List UInt8, s.length ≤ 1000000000 → Ev (fun k => letterlockref3_size.f k (B s) ((d : Nat) : Int)) ((tlen d s : Nat) : Int) := by
  intro d
  induction d with
  | zero =>
    intro _ s hb
    refine ⟨2, fun k hk => ?_⟩
    obtain ⟨k, rfl⟩ : ∃ m, k = m + 2 := ⟨k - 2, by omega⟩
    show letterlockref3_size.f (k + 2) (B s) 0 = some 0
    rw [letterlockref3_size.f]
    split
    · rw [letterlockref3_size.j0, if_pos rfl]
    · rw [if_pos rfl, letterlockref3_size.j0, if_pos rfl]
  | succ d ih =>
    intro hd s hb
    cases s with
    | nil =>
      refine ⟨2, fun k hk => ?_⟩
      obtain ⟨k, rfl⟩ : ∃ m, k = m + 2 := ⟨k - 2, by omega⟩
      show letterlockref3_size.f (k + 2) (B []) _ = some 0
      rw [letterlockref3_size.f, if_pos (toList_B []), letterlockref3_size.j0, if_pos rfl]
    | cons c r =>
      obtain ⟨KM, eM⟩ := letterlockref3_many.ev c
      have hD : wrap64 (((d + 1 : Nat) : Int) - 1) = (d : Int) := by rw [w64 _ (by omega) (by omega)]; omega
      generalize hDD : ((d + 1 : Nat) : Int) = D at hD
      have hD0 : ¬ (D = 0) := by omega
      have hbt0 : bt (B (c :: r)) 0 = ((c.toNat : Nat) : Int) := by rw [bt_B]; rfl
      have hsz : (B (c :: r)).size = r.length + 1 := by rw [size_B]; rfl
      rw [List.length_cons] at hb
      have hpos : 0 < ((B (c :: r)).size : Int) := by rw [hsz]; omega
      have J3 : ∀ (x8 x9 : Nat) (R : Int), x8 ≤ r.length + 1 → x9 ≤ 5 → (tlen d ((c :: r).drop x8) = 0 → R = 0) → (tlen d ((c :: r).drop x8) ≠ 0 → Ev (fun k => letterlockref3_size.l0 k (B (c :: r)) D ((x8 + tlen d ((c :: r).drop x8) : Nat) : Int) ((x9 + 1 : Nat) : Int)) R) →
          Ev (fun k => letterlockref3_size.j3 k (B (c :: r)) D (x8 : Int) (x9 : Int) false) R := by
        intro x8 x9 R hx hx9 h0 h1
        obtain ⟨K, e⟩ := ih (by omega) ((c :: r).drop x8) (by rw [List.length_drop, List.length_cons]; omega)
        have hcut : (B (c :: r)).extract x8 (B (c :: r)).size = B ((c :: r).drop x8) := by rw [extract_B, size_B, List.take_of_length_le (Nat.le_refl _)]
        have htl := tlen_le d ((c :: r).drop x8)
        rw [List.length_drop, List.length_cons] at htl
        by_cases hz : tlen d ((c :: r).drop x8) = 0
        · refine ⟨K + 1, fun k hk => ?_⟩
          obtain ⟨k, rfl⟩ : ∃ m, k = m + 1 := ⟨k - 1, by omega⟩
          have g := e k (by omega)
          show letterlockref3_size.j3 (k + 1) _ _ _ _ _ = _
          rw [letterlockref3_size.j3, if_neg (by decide), if_pos (by omega), if_pos (by rw [hsz]; omega), Int.toNat_natCast, hcut, hD]
          rw [show letterlockref3_size.f k (B ((c :: r).drop x8)) (d : Int) = _ from g, Option.bind_some, hz, if_pos (by rfl), h0 hz]
        · obtain ⟨K2, e2⟩ := h1 hz
          refine ⟨K + K2 + 1, fun k hk => ?_⟩
          obtain ⟨k, rfl⟩ : ∃ m, k = m + 1 := ⟨k - 1, by omega⟩
          have g := e k (by omega)
          have g2 := e2 k (by omega)
          show letterlockref3_size.j3 (k + 1) _ _ _ _ _ = _
          rw [letterlockref3_size.j3, if_neg (by decide), if_pos (by omega), if_pos (by rw [hsz]; omega), Int.toNat_natCast, hcut, hD]
          rw [show letterlockref3_size.f k (B ((c :: r).drop x8)) (d : Int) = _ from g, Option.bind_some, if_neg (by omega)]
          rw [w64 _ (by omega) (by omega), w64 _ (by omega) (by omega)]
          rw [show (x8 : Int) + ((tlen d ((c :: r).drop x8) : Nat) : Int) = ((x8 + tlen d ((c :: r).drop x8) : Nat) : Int) from by omega, show (x9 : Int) + 1 = ((x9 + 1 : Nat) : Int) from by omega]
          exact g2
      have L0 : ∀ (x8 x9 : Nat) (R : Int), (x9 : Int) < manyI c → ¬ (c = 98 ∧ x9 = 0) → Ev (fun k => letterlockref3_size.j3 k (B (c :: r)) D (x8 : Int) (x9 : Int) false) R → Ev (fun k => letterlockref3_size.l0 k (B (c :: r)) D (x8 : Int) (x9 : Int)) R := by
        rintro x8 x9 R hm hc ⟨K, e⟩
        refine ⟨K + KM + 1, fun k hk => ?_⟩
        obtain ⟨k, rfl⟩ : ∃ m, k = m + 1 := ⟨k - 1, by omega⟩
        have g := e k (by omega)
        have gm := eM k (by omega)
        show letterlockref3_size.l0 (k + 1) _ _ _ _ = _
        rw [letterlockref3_size.l0, if_pos hpos, hbt0, show letterlockref3_many.f k ((c.toNat : Nat) : Int) = _ from gm, Option.bind_some, if_pos hm]
        by_cases h98 : c = 98
        · rw [if_pos ((b98 _).mpr h98), if_neg (by intro h; exact hc ⟨h98, by omega⟩)]
          exact g
        · rw [if_neg (fun h => h98 ((b98 _).mp h))]
          exact g
      have L9 : ∀ (R : Int), c = 98 → (r.getD 0 0 = 117 → Ev (fun k => letterlockref3_size.j3 k (B (c :: r)) D ((1 : Nat) : Int) ((0 : Nat) : Int) false) R) → (r.getD 0 0 ≠ 117 → R = 0) → Ev (fun k => letterlockref3_size.l0 k (B (c :: r)) D ((1 : Nat) : Int) ((0 : Nat) : Int)) R := by
        intro R h98 h1 h2
        have hm : (0 : Int) < manyI c := by rw [h98]; decide
        have bad : Ev (fun k => letterlockref3_size.j3 k (B (c :: r)) D 1 0 true) 0 := ⟨1, fun k hk => by
          obtain ⟨k, rfl⟩ : ∃ m, k = m + 1 := ⟨k - 1, by omega⟩
          show letterlockref3_size.j3 (k + 1) _ _ _ _ _ = _
          rw [letterlockref3_size.j3, if_pos rfl]⟩
        have hbt1 : bt (B (c :: r)) 1 = (((r.getD 0 0).toNat : Nat) : Int) := by rw [bt_B]; rfl
        by_cases h117 : r.getD 0 0 = 117
        · obtain ⟨K, e⟩ := h1 h117
          refine ⟨K + KM + 1, fun k hk => ?_⟩
          obtain ⟨k, rfl⟩ : ∃ m, k = m + 1 := ⟨k - 1, by omega⟩
          have g := e k (by omega)
          have gm := eM k (by omega)
          have hr : 0 < r.length := by
            cases r with
            | nil => exact absurd h117 (by decide)
            | cons a b => simp
          show letterlockref3_size.l0 (k + 1) _ _ 1 0 = _
          rw [letterlockref3_size.l0, if_pos hpos, hbt0, show letterlockref3_many.f k ((c.toNat : Nat) : Int) = _ from gm, Option.bind_some, if_pos hm, if_pos ((b98 _).mpr h98), if_pos rfl, if_neg (by rw [hsz]; omega), if_pos (by omega), if_pos (by rw [hsz]; omega), hbt1, h117]
          exact g
        · rw [h2 h117]
          obtain ⟨K, e⟩ := bad
          refine ⟨K + KM + 1, fun k hk => ?_⟩
          obtain ⟨k, rfl⟩ : ∃ m, k = m + 1 := ⟨k - 1, by omega⟩
          have g : letterlockref3_size.j3 k (B (c :: r)) D 1 0 true = some 0 := e k (by omega)
          have gm := eM k (by omega)
          show letterlockref3_size.l0 (k + 1) _ _ 1 0 = _
          rw [letterlockref3_size.l0, if_pos hpos, hbt0, show letterlockref3_many.f k ((c.toNat : Nat) : Int) = _ from gm, Option.bind_some, if_pos hm, if_pos ((b98 _).mpr h98), if_pos rfl]
          by_cases hr : 0 < r.length
          · rw [if_neg (by rw [hsz]; omega), if_pos (by omega), if_pos (by rw [hsz]; omega), hbt1, show ((((r.getD 0 0).toNat : Nat) : Int) != 117) = true from bne_iff_ne.mpr (fun h => h117 ((b117 _).mp h))]
            exact g
          · rw [if_pos (by rw [hsz]; omega)]
            exact g
      have LE : ∀ (x8 m : Nat), manyI c = (m : Int) → Ev (fun k => letterlockref3_size.l0 k (B (c :: r)) D (x8 : Int) (m : Int)) (x8 : Int) := by
        intro x8 m hm
        refine ⟨KM + 1, fun k hk => ?_⟩
        obtain ⟨k, rfl⟩ : ∃ m, k = m + 1 := ⟨k - 1, by omega⟩
        have gm := eM k (by omega)
        show letterlockref3_size.l0 (k + 1) _ _ _ _ = _
        rw [letterlockref3_size.l0, if_pos hpos, hbt0, show letterlockref3_many.f k ((c.toNat : Nat) : Int) = _ from gm, Option.bind_some, if_neg (by omega)]
      have HEAD : ∀ (R : Int), (manyI c < 0 → R = 0) → (0 ≤ manyI c → Ev (fun k => letterlockref3_size.j0 k (B (c :: r)) D false) R) → Ev (fun k => letterlockref3_size.f k (B (c :: r)) D) R := by
        intro R h1 h2
        by_cases hm : manyI c < 0
        · refine ⟨KM + 2, fun k hk => ?_⟩
          obtain ⟨k, rfl⟩ : ∃ m, k = m + 2 := ⟨k - 2, by omega⟩
          have gm := eM (k + 1) (by omega)
          show letterlockref3_size.f (k + 2) _ _ = _
          rw [letterlockref3_size.f, if_neg (by rw [toList_B]; simp), if_neg hD0, if_pos hpos, hbt0, show letterlockref3_many.f (k + 1) ((c.toNat : Nat) : Int) = _ from gm, Option.bind_some, decide_eq_true hm, letterlockref3_size.j0, if_pos rfl, h1 hm]
        · obtain ⟨K, e⟩ := h2 (by omega)
          refine ⟨K + KM + 1, fun k hk => ?_⟩
          obtain ⟨k, rfl⟩ : ∃ m, k = m + 1 := ⟨k - 1, by omega⟩
          have g := e k (by omega)
          have gm := eM k (by omega)
          show letterlockref3_size.f (k + 1) _ _ = _
          rw [letterlockref3_size.f, if_neg (by rw [toList_B]; simp), if_neg hD0, if_pos hpos, hbt0, show letterlockref3_many.f k ((c.toNat : Nat) : Int) = _ from gm, Option.bind_some, decide_eq_false hm]
          exact g
      have J0 : ∀ (R : Int), ¬ (c = 97) → ¬ (c = 116) → Ev (fun k => letterlockref3_size.l0 k (B (c :: r)) D ((1 : Nat) : Int) ((0 : Nat) : Int)) R → Ev (fun k => letterlockref3_size.j0 k (B (c :: r)) D false) R := by
        rintro R h97 h116 ⟨K, e⟩
        refine ⟨K + 2, fun k hk => ?_⟩
        obtain ⟨k, rfl⟩ : ∃ m, k = m + 2 := ⟨k - 2, by omega⟩
        have g := e k (by omega)
        show letterlockref3_size.j0 (k + 2) _ _ _ = _
        rw [letterlockref3_size.j0, if_neg (by decide), if_pos hpos, hbt0, if_neg (fun h => h97 ((b97 _).mp h)), show ((((c.toNat : Nat) : Int) == 116)) = false from beq_eq_false_iff_ne.mpr (fun h => h116 ((b116 _).mp h)), letterlockref3_size.j1, if_neg (by decide)]
        exact g
      have hcut1 : (B (c :: r)).extract 1 (B (c :: r)).size = B r := by rw [extract_B, size_B, List.take_of_length_le (Nat.le_refl _)]; rfl
      refine HEAD _ (fun hm => ?_) (fun hm => ?_)
      · rw [tlen]
        unfold manyI at hm
        by_cases g1 : c = 97 ∨ c = 116
        · rw [if_pos g1] at hm; omega
        · by_cases g2 : c = 104 ∨ c = 117
          · rw [if_neg g1, if_pos g2] at hm; omega
          · by_cases g3 : c = 112 ∨ c = 115 ∨ c = 98 ∨ c = 103
            · rw [if_neg g1, if_neg g2, if_pos g3] at hm; omega
            · rw [if_neg (fun h => g1 (Or.inl h)), if_neg (fun h => g1 (Or.inr h)), if_neg g2, if_neg g3]; rfl
      · by_cases h97 : c = 97
        · rw [tlen, if_pos h97]
          obtain ⟨KT, eT⟩ := letterlockref2_Take.ev r (by omega)
          refine ⟨KT + 2, fun k hk => ?_⟩
          obtain ⟨k, rfl⟩ : ∃ m, k = m + 2 := ⟨k - 2, by omega⟩
          have g : letterlockref2_Take.f k (B r) = _ := eT k (by omega)
          show letterlockref3_size.j0 (k + 2) _ _ _ = _
          rw [letterlockref3_size.j0, if_neg (by decide), if_pos hpos, hbt0, if_pos ((b97 _).mpr h97), letterlockref3_size.j1, if_pos rfl, if_pos (by rw [hsz]; omega), hcut1, g, Option.bind_some, if_pos hpos, hbt0, if_neg (fun h => absurd (h97.symm.trans ((b116 _).mp h)) (by decide))]
          cases ht : takeL r with
          | none => rfl
          | some p =>
            obtain ⟨n, q⟩ := p
            have hq := takeL_len r n q ht
            show (if (0 : Int) = 0 then some (wrap64 (((B (c :: r)).size : Int) - ((B q).size : Int))) else some 0) = some (((1 + r.length - q.length : Nat)) : Int)
            rw [if_pos rfl, hsz, size_B, w64 _ (by omega) (by omega)]
            congr 1
            omega
        · by_cases h116 : c = 116
          · rw [tlen, if_neg h97, if_pos h116]
            obtain ⟨KT, eT⟩ := letterlockref2_Take.ev r (by omega)
            obtain ⟨KU, eU⟩ := letterlockref2_TakeText.ev r 4000 (by omega) (by omega) (by omega)
            refine ⟨KT + KU + 2, fun k hk => ?_⟩
            obtain ⟨k, rfl⟩ : ∃ m, k = m + 2 := ⟨k - 2, by omega⟩
            have g : letterlockref2_Take.f k (B r) = _ := eT k (by omega)
            have g2 : letterlockref2_TakeText.f k (B r) 4000 = _ := eU k (by omega)
            show letterlockref3_size.j0 (k + 2) _ _ _ = _
            rw [letterlockref3_size.j0, if_neg (by decide), if_pos hpos, hbt0, if_neg (fun h => h97 ((b97 _).mp h)), show ((((c.toNat : Nat) : Int) == 116)) = true from beq_iff_eq.mpr ((b116 _).mpr h116), letterlockref3_size.j1, if_pos rfl, if_pos (by rw [hsz]; omega), hcut1, g, Option.bind_some, if_pos hpos, hbt0, if_pos ((b116 _).mpr h116), g2, Option.bind_some]
            unfold tt
            by_cases hz : (takeTextL r 4000).2.2 = 0
            · have hq := takeTextL_len r 4000 hz
              rw [if_pos hz, if_pos hz, hsz, size_B, w64 _ (by omega) (by omega)]
              congr 1
              omega
            · rw [if_neg hz, if_neg hz]
              rfl
          · refine J0 _ h97 h116 ?_
            have off1 : (c :: r).drop 1 = r := rfl
            by_cases h1 : c = 104 ∨ c = 117
            · have hm1 : manyI c = ((1 : Nat) : Int) := by unfold manyI; rw [if_neg (by rintro (h | h); exact h97 h; exact h116 h), if_pos h1]; rfl
              rw [tlen_one h1]
              refine L0 1 0 _ (by rw [hm1]; decide) (by rintro ⟨h, -⟩; rw [h] at h1; exact absurd h1 (by decide)) (J3 1 0 _ (by omega) (by omega) ?_ ?_)
              · intro h; rw [off1] at h; rw [if_pos h]; rfl
              · intro h; rw [off1] at h ⊢; rw [if_neg h]
                exact LE (1 + tlen d r) 1 hm1
            · have h2 : c = 112 ∨ c = 115 ∨ c = 98 ∨ c = 103 := by
                unfold manyI at hm
                rw [if_neg (by rintro (h | h); exact h97 h; exact h116 h), if_neg h1] at hm
                by_cases h : c = 112 ∨ c = 115 ∨ c = 98 ∨ c = 103
                · exact h
                · rw [if_neg h] at hm; omega
              have hm2 : manyI c = ((2 : Nat) : Int) := by unfold manyI; rw [if_neg (by rintro (h | h); exact h97 h; exact h116 h), if_neg h1, if_pos h2]; rfl
              rw [tlen_two h2]
              have htl := tlen_le d r
              have body : ∀ R : Int, ((if tlen d r = 0 then 0 else if tlen d (r.drop (tlen d r)) = 0 then 0 else 1 + tlen d r + tlen d (r.drop (tlen d r)) : Nat) : Int) = R → Ev (fun k => letterlockref3_size.j3 k (B (c :: r)) D ((1 : Nat) : Int) ((0 : Nat) : Int) false) R := by
                rintro R rfl
                refine J3 1 0 _ (by omega) (by omega) ?_ ?_
                · intro h; rw [off1] at h; rw [if_pos h]; rfl
                · intro h; rw [off1] at h ⊢; rw [if_neg h]
                  have off2 : (c :: r).drop (1 + tlen d r) = r.drop (tlen d r) := by rw [Nat.add_comm, List.drop_succ_cons]
                  refine L0 (1 + tlen d r) 1 _ (by rw [hm2]; decide) (by rintro ⟨-, h⟩; omega) (J3 _ 1 _ (by omega) (by omega) ?_ ?_)
                  · intro h; rw [off2] at h; rw [if_pos h]; rfl
                  · intro h; rw [off2] at h ⊢; rw [if_neg h]
                    exact LE (1 + tlen d r + tlen d (r.drop (tlen d r))) 2 hm2
              by_cases h98 : c = 98
              · refine L9 _ h98 (fun h117 => body _ ?_) (fun h117 => ?_)
                · rw [if_neg (c := (c = 98 ∧ r.getD 0 0 ≠ 117)) (fun h => h.2 h117)]
                · rw [if_pos ⟨h98, h117⟩]; rfl
              · refine L0 1 0 _ (by rw [hm2]; decide) (fun h => h98 h.1) (body _ ?_)
                rw [if_neg (c := (c = 98 ∧ r.getD 0 0 ≠ 117)) (fun h => h98 h.1)]
def pr (p : List UInt8 × Int) : ByteArray × Int := (B p.1, p.2)
theorem letterlockref3_Right.ev (l : List UInt8) (hl : l.length ≤ 1000000000) : Ev (fun k => letterlockref3_Right.f k (B l)) (right l) := by
  unfold letterlockref3_Right.f
  by_cases h0 : l = []
  · have : right l = false := by unfold right; rw [decide_eq_false_iff_not]; exact fun h => h.1 h0
    rw [this]
    simp only [toList_B, h0, if_true]
    exact Ev.now _
  · by_cases h1 : l.length ≤ 4000
    · have hs : ((B l).size : Int) ≤ 4000 := by rw [size_B]; omega
      simp only [toList_B, h0, hs, if_true, if_false]
      refine Ev.bind (letterlockref3_size.ev 40 (by decide) l hl) ?_
      refine Ev.eq (Ev.now _) ?_
      unfold right
      rw [size_B, Bool.eq_iff_iff, beq_iff_eq, decide_eq_true_iff]
      constructor
      · intro h; exact ⟨h0, h1, by omega⟩
      · rintro ⟨-, -, h⟩; omega
    · have hs : ¬ (((B l).size : Int) ≤ 4000) := by rw [size_B]; omega
      have : right l = false := by unfold right; rw [decide_eq_false_iff_not]; exact fun h => h1 h.2.1
      rw [this]
      simp only [toList_B, h0, hs, if_false]
      exact Ev.now _
theorem letterlockref3_made.ev (l : List UInt8) (hl : l.length ≤ 1000000000) : Ev (fun k => letterlockref3_made.f k (B l)) (pr (if right l then (l, 0) else ([], 10))) := by
  unfold letterlockref3_made.f
  refine Ev.bind (letterlockref3_Right.ev l hl) ?_
  cases hr : right l
  · exact Ev.eq (Ev.now _) rfl
  · exact Ev.eq (Ev.now _) rfl
theorem letterlockref3_OfAtom.ev (n : Nat) (h : n < 18446744073709551616) : Ev (fun k => letterlockref3_OfAtom.f k (n : Int)) (B (97 :: encN n)) := by
  unfold letterlockref3_OfAtom.f
  refine Ev.bind (letterlockref2_Put.ev n h) ?_
  have hs : 1 + (B (encN n)).size ≤ 9223372036854775807 := by rw [size_B]; have := encN_len n h; omega
  simp only [hs, if_true]
  exact Ev.eq (Ev.now _) rfl
theorem term_OfAtom.ev (n : Nat) (h : n < 18446744073709551616) : Ev (fun k => term_OfAtom.f k (n : Int)) (B (97 :: encN n)) := by
  unfold term_OfAtom.f
  refine Ev.bind (wire_Put.ev n h) ?_
  have hs : 1 + (B (encN n)).size ≤ 9223372036854775807 := by rw [size_B]; have := encN_len n h; omega
  simp only [hs, if_true]
  exact Ev.eq (Ev.now _) rfl
def textT (t : List UInt8) : List UInt8 := 116 :: textL t
theorem right_text (t : List UInt8) (ht : t.length ≤ 1000000000) : right (textT t) = decide ((textT t).length ≤ 4000) := by
  rw [Bool.eq_iff_iff, decide_eq_true_iff, right_iff]
  constructor
  · exact fun h => h.2.1
  · intro h
    refine ⟨by simp [textT], h, ?_⟩
    have h1 : (textL t).length ≤ 3999 := by unfold textT at h; rw [List.length_cons] at h; omega
    have h2 : t.length ≤ 4000 := by unfold textL at h1; rw [List.length_append] at h1; omega
    have h3 := takeTextL_textL t [] 4000 (by omega)
    rw [List.append_nil, if_neg (by omega)] at h3
    unfold textT
    rw [tlen, if_neg (by decide), if_pos rfl, h3]
    simp only [if_true, List.length_nil, List.length_cons]
    omega
def ofTextL (t : List UInt8) : List UInt8 × Int := if (textT t).length ≤ 4000 then (textT t, 0) else ([], 10)
theorem letterlockref3_OfText.ev (t : List UInt8) (ht : t.length ≤ 100000000) : Ev (fun k => letterlockref3_OfText.f k (B t)) (pr (ofTextL t)) := by
  unfold letterlockref3_OfText.f
  have h1 := textL_len t (by omega)
  refine Ev.bind (letterlockref2_PutText.ev t (by omega)) ?_
  have hs : 1 + (B (textL t)).size ≤ 9223372036854775807 := by rw [size_B]; omega
  simp only [hs, if_true]
  refine Ev.bind (letterlockref3_made.ev (textT t) (by unfold textT; rw [List.length_cons]; omega)) ?_
  refine Ev.eq (Ev.now _) ?_
  rw [right_text t (by omega), ofTextL]
  by_cases h : (textT t).length ≤ 4000
  · simp [h]
  · simp [h]
theorem term_OfText.ev (t : List UInt8) (ht : t.length ≤ 100000000) : Ev (fun k => term_OfText.f k (B t)) (pr (ofTextL t)) := by
  unfold term_OfText.f
  have h1 := textL_len t (by omega)
  refine Ev.bind (wire_PutText.ev t (by omega)) ?_
  have hs : 1 + (B (textL t)).size ≤ 9223372036854775807 := by rw [size_B]; omega
  have ha : (⟨#[116]⟩ : ByteArray) ++ B (textL t) = B (textT t) := append_B [116] (textL t)
  have hs' : 1 + (textL t).length ≤ 9223372036854775807 := by omega
  simp only [hs, hs', if_true, ha, size_B]
  rw [ofTextL]
  by_cases h : (textT t).length ≤ 4000
  · have h2 : ¬ (((textT t).length : Int) > 4000) := by omega
    simp only [h, h2, if_true, if_false]
    exact Ev.eq (Ev.now _) rfl
  · have h2 : (((textT t).length : Int) > 4000) := by omega
    simp only [h, h2, if_true, if_false]
    exact Ev.eq (Ev.now _) rfl
theorem letterlockref3_one.ev (c : UInt8) (a : List UInt8) (ha : a.length ≤ 100000000) : Ev (fun k => letterlockref3_one.f k (B [c]) (B a)) (pr (ofL [c] [a])) := by
  unfold letterlockref3_one.f
  refine Ev.bind (letterlockref3_Right.ev a (by omega)) ?_
  unfold ofL
  simp only [List.all_cons, List.all_nil, Bool.and_true]
  cases hr : right a
  · exact Ev.eq (Ev.now _) rfl
  · have hs : (B [c]).size + (B a).size ≤ 9223372036854775807 := by rw [size_B, size_B]; simp; omega
    simp only [hs, if_true, append_B]
    refine Ev.bind (letterlockref3_made.ev ([c] ++ a) (by simp; omega)) ?_
    refine Ev.eq (Ev.now _) ?_
    simp [pr]
theorem letterlockref3_two.ev (c : UInt8) (a b : List UInt8) (ha : a.length ≤ 100000000) (hb : b.length ≤ 100000000) : Ev (fun k => letterlockref3_two.f k (B [c]) (B a) (B b)) (pr (ofL [c] [a, b])) := by
  unfold letterlockref3_two.f
  refine Ev.bind (letterlockref3_Right.ev a (by omega)) ?_
  unfold ofL
  simp only [List.all_cons, List.all_nil, Bool.and_true]
  cases hr : right a
  · exact Ev.eq (Ev.now _) rfl
  · simp only [if_true]
    refine Ev.bind (letterlockref3_Right.ev b (by omega)) ?_
    cases hr2 : right b
    · exact Ev.eq (Ev.now _) rfl
    · have hs : (B [c]).size + (B a).size ≤ 9223372036854775807 := by rw [size_B, size_B]; simp; omega
      have hs2 : (B ([c] ++ a)).size + (B b).size ≤ 9223372036854775807 := by rw [size_B, size_B]; simp; omega
      simp only [hs, hs2, if_true, append_B]
      refine Ev.bind (letterlockref3_made.ev (([c] ++ a) ++ b) (by simp; omega)) ?_
      refine Ev.eq (Ev.now _) ?_
      simp [pr]
theorem term_of.of (c : UInt8) (ls : List (List UInt8)) (h : ls.length ≤ 10) : term_of.f (B [c]) (ls.map B) = some (pr (ofL [c] ls)) := by
  rw [term_of.f, if_pos ⟨by rw [List.length_map]; exact h, by rw [size_B]; simp⟩, List.map_map]
  rw [show (S ∘ B) = id from rfl, List.map_id]
  rfl
theorem term_OfPair.of (a b : List UInt8) : term_OfPair.f (B a) (B b) = some (pr (ofL [112] [a, b])) := by
  unfold term_OfPair.f
  rw [show term_of.f (⟨#[112]⟩ : ByteArray) [B a, B b] = some (pr (ofL [112] [a, b])) from term_of.of 112 [a, b] (by simp)]; rfl
theorem term_Sign.of (a b : List UInt8) : term_Sign.f (B a) (B b) = some (pr (ofL [103] [a, b])) := by
  unfold term_Sign.f
  rw [show term_of.f (⟨#[103]⟩ : ByteArray) [B a, B b] = some (pr (ofL [103] [a, b])) from term_of.of 103 [a, b] (by simp)]; rfl
theorem term_OfHash.of (a : List UInt8) : term_OfHash.f (B a) = some (pr (ofL [104] [a])) := by
  unfold term_OfHash.f
  rw [show term_of.f (⟨#[104]⟩ : ByteArray) [B a] = some (pr (ofL [104] [a])) from term_of.of 104 [a] (by simp)]; rfl
theorem right_pos {l : List UInt8} (h : right l = true) : 0 < l.length ∧ l.length ≤ 4000 := by
  obtain ⟨h1, h2, -⟩ := (right_iff _).mp h
  exact ⟨List.length_pos_iff.mpr h1, h2⟩
theorem right_cons {t : List UInt8} (h : right t = true) : ∃ c r, t = c :: r ∧ r.length ≤ 3999 ∧ tlen 40 (c :: r) = r.length + 1 := by
  obtain ⟨h1, h2, h3⟩ := (right_iff _).mp h
  cases t with
  | nil => exact absurd rfl h1
  | cons c r => exact ⟨c, r, rfl, by rw [List.length_cons] at h2; omega, by rw [h3]; rfl⟩
end Go.Proofs.YtodiffgpefidoaaGreatDoor.P
namespace Go.Proofs.YtodiffgpefidoaaGreatDoor.P
open Go.RowKit Go.Proofs.YtodiffgpefidoaaGreatDoorW.PrintWords Go.Proofs.YtodiffgpefidoaaGreatDoorW.PrintLast Go.Proofs.YtodiffgpefidoaaGreatDoorW.PrintMore
set_option linter.unusedVariables false
set_option linter.unusedSimpArgs false
end Go.Proofs.YtodiffgpefidoaaGreatDoor.P
namespace Go.Proofs.YtodiffgpefidoaaGreatDoor.P
open Go.RowKit Go.Proofs.YtodiffgpefidoaaGreatDoorW.PrintWords Go.Proofs.YtodiffgpefidoaaGreatDoorW.PrintLast Go.Proofs.YtodiffgpefidoaaGreatDoorW.PrintMore
set_option linter.unusedVariables false
set_option linter.unusedSimpArgs false
theorem letterlockref3_Kind.ev (t : List UInt8) (hs : t.length ≤ 1000000000) : Ev (fun k => letterlockref3_Kind.f k (B t)) (((kindL t).toNat : Nat) : Int) := by
  unfold letterlockref3_Kind.f
  refine Ev.bind (letterlockref3_Right.ev t hs) ?_
  rw [kindL]
  cases hr : right t
  · exact Ev.eq (Ev.now _) rfl
  · have h0 : 0 < ((B t).size : Int) := by rw [size_B]; have := (right_pos hr).1; omega
    simp only [h0, if_true]
    refine Ev.eq (Ev.now _) ?_
    rw [bt_B]; rfl
theorem letterlockref3_Parts.ev (t : List UInt8) (hs : t.length ≤ 1000000000) : Ev (fun k => letterlockref3_Parts.f k (B t)) ((partsE t).1.map B, (partsE t).2) := by
  unfold letterlockref3_Parts.f
  refine Ev.bind (letterlockref3_Right.ev t hs) ?_
  rw [partsE]
  cases hr : right t
  · exact Ev.eq (Ev.now _) rfl
  · obtain ⟨c, r, rfl, hl, htl⟩ := right_cons hr
    have h0 : 0 < ((B (c :: r)).size : Int) := by rw [size_B, List.length_cons]; omega
    have h1 : 1 ≤ ((B (c :: r)).size : Int) := by rw [size_B, List.length_cons]; omega
    have hb : bt (B (c :: r)) 0 = ((c.toNat : Nat) : Int) := by rw [bt_B]; rfl
    have hcut : (B (c :: r)).extract 1 (B (c :: r)).size = B r := by rw [extract_B, size_B, List.take_of_length_le (Nat.le_refl _)]; rfl
    simp only [h1, if_true, hcut]
    obtain ⟨KM, eM⟩ := letterlockref3_many.ev c
    have ST : ∀ (acc : List ByteArray) (rest : List UInt8) (i : Nat) (R : List ByteArray × Int), (i : Int) < manyI c → i ≤ 5 → acc.length ≤ 5 → rest.length ≤ 1000000000 →
        Ev (fun k => letterlockref3_Parts.l0 k (B (c :: r)) (acc ++ [B (rest.take (tlen 40 rest))]) (B (rest.drop (tlen 40 rest))) ((i + 1 : Nat) : Int)) R →
        Ev (fun k => letterlockref3_Parts.l0 k (B (c :: r)) acc (B rest) (i : Int)) R := by
      rintro acc rest i R hm hi hacc hrest ⟨K, e⟩
      obtain ⟨KS, eS⟩ := letterlockref3_size.ev 40 (by decide) rest hrest
      refine ⟨K + KM + KS + 1, fun k hk => ?_⟩
      obtain ⟨k, rfl⟩ : ∃ m, k = m + 1 := ⟨k - 1, by omega⟩
      have g := e k (by omega)
      have gm : letterlockref3_many.f k ((c.toNat : Nat) : Int) = _ := eM k (by omega)
      have gs : letterlockref3_size.f k (B rest) 40 = _ := eS k (by omega)
      have htl := tlen_le 40 rest
      show letterlockref3_Parts.l0 (k + 1) _ _ _ _ = _
      rw [letterlockref3_Parts.l0, if_pos h0, hb, gm, Option.bind_some, if_pos hm, gs, Option.bind_some, if_pos (by omega), if_pos (by rw [size_B]; omega), if_pos (by omega), Int.toNat_natCast, extract_B, extract_B, List.drop_zero, size_B, List.take_of_length_le (Nat.le_refl rest.length), w64 _ (by omega) (by omega)]
      exact g
    have LE : ∀ (acc : List ByteArray) (rest : ByteArray) (m : Nat), manyI c = (m : Int) → Ev (fun k => letterlockref3_Parts.l0 k (B (c :: r)) acc rest (m : Int)) (acc, 0) := by
      intro acc rest m hm
      refine ⟨KM + 1, fun k hk => ?_⟩
      obtain ⟨k, rfl⟩ : ∃ m, k = m + 1 := ⟨k - 1, by omega⟩
      have gm : letterlockref3_many.f k ((c.toNat : Nat) : Int) = _ := eM k (by omega)
      show letterlockref3_Parts.l0 (k + 1) _ _ _ _ = _
      rw [letterlockref3_Parts.l0, if_pos h0, hb, gm, Option.bind_some, if_neg (by omega)]
    by_cases g1 : c = 97 ∨ c = 116
    · have hm : manyI c = ((0 : Nat) : Int) := by unfold manyI; rw [if_pos g1]; rfl
      rw [partsL_leaf rfl g1]
      exact LE [] (B r) 0 hm
    · by_cases g2 : c = 104 ∨ c = 117
      · have hm : manyI c = ((1 : Nat) : Int) := by unfold manyI; rw [if_neg g1, if_pos g2]; rfl
        rw [tlen_one g2] at htl
        have hne : tlen 39 r ≠ 0 := by intro e; rw [if_pos e] at htl; omega
        rw [if_neg hne] at htl
        have e40 : tlen 40 r = tlen 39 r := tlen_more 39 r hne
        have hp : partsL (c :: r) = [r] := by unfold partsL; rw [if_pos (by simpa using g2)]; rfl
        rw [hp]
        refine ST [] r 0 _ (by rw [hm]; decide) (by omega) (by simp) (by omega) ?_
        rw [List.take_of_length_le (by omega)]
        exact LE [B r] _ 1 hm
      · by_cases g3 : c = 112 ∨ c = 115 ∨ c = 98 ∨ c = 103
        · have hm : manyI c = ((2 : Nat) : Int) := by unfold manyI; rw [if_neg g1, if_neg g2, if_pos g3]; rfl
          rw [tlen_two g3] at htl
          have hp : partsL (c :: r) = [r.take (tlen 40 r), r.drop (tlen 40 r)] := by unfold partsL; rw [if_neg (by simpa using g2), if_pos (by simpa using g3)]; rfl
          rw [hp]
          split at htl
          · omega
          · have hne : tlen 39 r ≠ 0 := by intro e; rw [if_pos e] at htl; omega
            rw [if_neg hne] at htl
            have hne2 : tlen 39 (r.drop (tlen 39 r)) ≠ 0 := by intro e; rw [if_pos e] at htl; omega
            rw [if_neg hne2] at htl
            have e40 : tlen 40 r = tlen 39 r := tlen_more 39 r hne
            have e41 : tlen 40 (r.drop (tlen 39 r)) = tlen 39 (r.drop (tlen 39 r)) := tlen_more 39 _ hne2
            refine ST [] r 0 _ (by rw [hm]; decide) (by omega) (by simp) (by omega) ?_
            refine ST [B (r.take (tlen 40 r))] (r.drop (tlen 40 r)) 1 _ (by rw [hm]; decide) (by omega) (by simp) (by rw [List.length_drop]; omega) ?_
            rw [e40, List.take_of_length_le (l := r.drop (tlen 39 r)) (by rw [e41, List.length_drop]; omega)]
            exact LE [B (r.take (tlen 39 r)), B (r.drop (tlen 39 r))] _ 2 hm
        · exfalso
          rw [tlen, if_neg (fun h => g1 (Or.inl h)), if_neg (fun h => g1 (Or.inr h)), if_neg g2, if_neg g3] at htl
          omega
theorem letterlockref3_Verify.ev (p a s : List UInt8) (h1 : p.length ≤ 1000000000) (h2 : a.length ≤ 1000000000) (h3 : s.length ≤ 1000000000) : Ev (fun k => letterlockref3_Verify.f k (B p) (B a) (B s)) (verifyL p a s) := by
  unfold letterlockref3_Verify.f
  have bad : Ev (fun k => letterlockref3_Verify.j0 k (B p) (B a) (B s) true) 1 := ⟨1, fun k hk => by
    obtain ⟨k, rfl⟩ : ∃ m, k = m + 1 := ⟨k - 1, by omega⟩
    show letterlockref3_Verify.j0 (k + 1) _ _ _ _ = _
    rw [letterlockref3_Verify.j0, if_pos rfl]⟩
  refine Ev.bind (letterlockref3_Right.ev p h1) ?_
  rw [verifyL]
  cases hr : right p
  · exact bad
  · simp only [if_true]
    refine Ev.bind (letterlockref3_Right.ev a h2) ?_
    cases hr2 : right a
    · exact bad
    · simp only [if_true]
      refine Ev.bind (letterlockref3_Right.ev s h3) ?_
      cases hr3 : right s
      · exact bad
      · obtain ⟨c, r, rfl, hl, htl⟩ := right_cons hr
        have hla := (right_pos hr2).2
        have h0 : 0 < ((B (c :: r)).size : Int) := by rw [size_B, List.length_cons]; omega
        have h1 : 1 ≤ ((B (c :: r)).size : Int) := by rw [size_B, List.length_cons]; omega
        have hb : bt (B (c :: r)) 0 = ((c.toNat : Nat) : Int) := by rw [bt_B]; rfl
        have hcut : (B (c :: r)).extract 1 (B (c :: r)).size = B r := by rw [extract_B, size_B, List.take_of_length_le (Nat.le_refl _)]; rfl
        have ha1 : (⟨#[103]⟩ : ByteArray) ++ B r = B (103 :: r) := append_B [103] r
        have ha2 : B (103 :: r) ++ B a = B (103 :: (r ++ a)) := append_B (103 :: r) a
        refine ⟨1, fun k hk => ?_⟩
        obtain ⟨k, rfl⟩ : ∃ m, k = m + 1 := ⟨k - 1, by omega⟩
        show letterlockref3_Verify.j0 (k + 1) _ _ _ false = _
        rw [letterlockref3_Verify.j0, if_neg (by decide), if_pos h0, hb]
        by_cases hc : c = 117
        · rw [if_pos ((b117 _).mpr hc), if_pos h1, hcut, if_pos (by rw [size_B]; omega), ha1, if_pos (by rw [size_B, size_B, List.length_cons]; omega), ha2, toList_B, toList_B]
          by_cases he : s = 103 :: (r ++ a)
          · rw [if_pos he, if_pos (show (true && true && true) = true from rfl), if_pos ⟨hc, he⟩]
          · rw [if_neg he, if_pos (show (true && true && true) = true from rfl), if_neg (fun h => he h.2)]
        · rw [if_neg (fun h => hc ((b117 _).mp h)), if_pos (show (true && true && true) = true from rfl), if_neg (fun h => hc h.1)]
end Go.Proofs.YtodiffgpefidoaaGreatDoor.P

