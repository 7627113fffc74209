/- Slimmed by wip/slim.py. -/
import Derived.Test.YtodiffgpefidoaaGreatDoorXLeaf
import Derived.Deep.RegionHeld3
import Derived.Deep.DrawnRows
import Derived.Outline
namespace Go.Proofs.YtodiffgpefidoaaGreatDoor.P
open Go.RowKit Go.Proofs.YtodiffgpefidoaaGreatDoorW.PrintWords Go.Proofs.YtodiffgpefidoaaGreatDoorW.PrintLast Go.Proofs.YtodiffgpefidoaaGreatDoorW.PrintMore
attribute [local go_sem ↓] Go.wp_at_zero Go.wp_at_succ
set_option linter.unusedVariables false
set_option linter.unusedSimpArgs false
def offs (d : Nat) (r : List UInt8) : Nat → Nat
  | 0 => 0
  | j + 1 => offs d r j + tlen d (r.drop (offs d r j))
def pts (d : Nat) (r : List UInt8) : Nat → List (List UInt8)
  | 0 => []
  | j + 1 => pts d r j ++ [(r.drop (offs d r j)).take (tlen d (r.drop (offs d r j)))]
theorem offs_le (d : Nat) (r : List UInt8) : ∀ j, offs d r j ≤ r.length
  | 0 => Nat.zero_le _
  | j + 1 => by
    have h1 := offs_le d r j
    have h2 := tlen_le d (r.drop (offs d r j))
    rw [List.length_drop] at h2
    rw [offs]
    omega
theorem pts_len (d : Nat) (r : List UInt8) : ∀ j, (pts d r j).length = j
  | 0 => rfl
  | j + 1 => by rw [pts, List.length_append, pts_len d r j]; rfl
def NodeS (w : World) (base : Nat) (d : Nat) (s : ByteArray) (n : Nat) (v : Value) : Prop :=
  ∃ k r, S s = k :: r ∧
  ((k = 97 ∧ ∃ (m : Nat) (q : List UInt8), takeL r = some (m, q) ∧ v = .iface 126 (.agg #[.string (s.extract 0 n), .int .u64 (m : Int)])) ∨
   (k = 116 ∧ ∃ t q : List UInt8, takeTextL r 4000 = (t, q, 0) ∧ v = .iface 128 (.agg #[.string (s.extract 0 n), .string (B t)])) ∨
   (∃ (m : Nat) (A : Option Addr) (c : Nat), ((k = 104 ∨ k = 117) ∧ m = 1 ∨ (k = 112 ∨ k = 115 ∨ k = 98 ∨ k = 103) ∧ m = 2) ∧ v = .iface 113 (.agg #[.string (s.extract 0 n), .slice A m c]) ∧ Kd.R Kd.string 9 w base (fun _ => True) (.slice A m c) ((pts (d - 1) r m).map B)))
def ReadPost (w : World) (base : Nat) (d : Nat) (s : ByteArray) (e : Ending) : Prop :=
  ∃ v, e = .returned v ∧ (tlen d (S s) = 0 ∧ v = .nilIface ∨ tlen d (S s) ≠ 0 ∧ NodeS w base d s (tlen d (S s)) v)
theorem bytes_number (a : ByteArray) (n : Int) (w : World) : Calls Tryz.prog 128 #[.agg #[.string a, .int .u64 n]] w fun e w' => e = .returned (.string a) ∧ Below w.heap.size w w' := by
  go_enter Tryz.func128, Tryz.ntmps128
  go_wp2
  go_ret
  exact ⟨rfl, (Below.refl _ _).alloc (Nat.le_refl _) _⟩
theorem bytes_words (a b : ByteArray) (w : World) : Calls Tryz.prog 129 #[.agg #[.string a, .string b]] w fun e w' => e = .returned (.string a) ∧ Below w.heap.size w w' := by
  go_enter Tryz.func129, Tryz.ntmps129
  go_wp2
  go_ret
  exact ⟨rfl, (Below.refl _ _).alloc (Nat.le_refl _) _⟩
theorem bytes_parts (a : ByteArray) (A : Option Addr) (m c : Nat) (w : World) : Calls Tryz.prog 126 #[.agg #[.string a, .slice A m c]] w fun e w' => e = .returned (.string a) ∧ Below w.heap.size w w' := by
  go_enter Tryz.func126, Tryz.ntmps126
  go_wp2
  go_ret
  exact ⟨rfl, (Below.refl _ _).alloc (Nat.le_refl _) _⟩
def RelX (w wr : World) (d : Nat) (r : List UInt8) (j : Nat) : Prop :=
  ∃ v, wr.heap[w.heap.size]? = some (.cells #[.string ⟨#[]⟩, v] 113 (0, 0)) ∧ Kd.R Kd.string 9 wr (w.heap.size + 1) (fun _ => True) v ((pts d r j).map B) ∧ Below w.heap.size w wr
theorem relx_next {w wr w1 w2 w3 w4 : World} {d : Nat} {r : List UInt8} {j : Nat} {v u : Value} {raw : ByteArray}
    (hblk : wr.heap[w.heap.size]? = some (.cells #[.string ⟨#[]⟩, v] 113 (0, 0))) (hbel : Below w.heap.size w wr) (hb1 : Below wr.heap.size wr w1) (hb2 : Below w1.heap.size w1.drew w2)
    (hb3 : Below (w.heap.size + 1) w2 w3) (hR : Kd.R Kd.string 9 w3 (w.heap.size + 1) (fun _ => True) u ((pts d r j).map B ++ [raw])) (hb4 : Below w3.heap.size (w3.setCell ⟨w.heap.size, 1, none⟩ u) w4)
    (hraw : raw = B ((r.drop (offs d r j)).take (tlen d (r.drop (offs d r j))))) : RelX w w4 d r (j + 1) := by
  have hg : w.heap.size < wr.heap.size := blk_lt hblk
  have hblk1 := blk_below hblk hb1
  have hblk2 : w2.heap[w.heap.size]? = _ := (hb2.block _ (blk_lt hblk1)).trans (blk_drew hblk1)
  have hblk3 : w3.heap[w.heap.size]? = _ := (hb3.block _ (by omega)).trans hblk2
  have hblk4 := (hb4.block w.heap.size (blk_lt hblk3)).trans (blk_set hblk3 1 u)
  refine ⟨u, hblk4, ?_, ?_⟩
  · rw [pts, List.map_append, List.map_cons, List.map_nil, ← hraw]
    have h := Kd.R_far (p := ⟨w.heap.size, 1, none⟩) (Kd.R_bound hR) (fun k hk => by have := hk.2.1; show k ≠ w.heap.size; omega) u
    have h2 := Kd.R_mono (ok' := fun _ => True) h (fun _ _ => trivial)
    exact Kd.R_step h2 (fun k _ hk => hb4.block k (by simpa using hk))
  · have a1 : Below w.heap.size w w1 := below_then hbel hbel.size hb1
    have a2 : Below w.heap.size w w2 := below_then a1 a1.size ⟨hb2.os, hb2.tape, hb2.output, hb2.size, hb2.block⟩
    have a3 : Below w.heap.size w w3 := a2.trans (hb3.mono (by omega))
    have a4 : Below w.heap.size w (w3.setCell ⟨w.heap.size, 1, none⟩ u) := below_set a3 (Nat.le_refl _)
    exact a4.trans (hb4.mono (by have := a3.size; omega))
end Go.Proofs.YtodiffgpefidoaaGreatDoor.P
namespace Go.Proofs.YtodiffgpefidoaaGreatDoor.P
open Go.RowKit Go.Proofs.YtodiffgpefidoaaGreatDoorW.PrintWords Go.Proofs.YtodiffgpefidoaaGreatDoorW.PrintLast Go.Proofs.YtodiffgpefidoaaGreatDoorW.PrintMore
attribute [local go_sem ↓] Go.wp_at_zero Go.wp_at_succ
set_option linter.unusedVariables false
set_option linter.unusedSimpArgs false
theorem tlen_two {d : Nat} {k : UInt8} {r : List UInt8} (hk : k = 112 ∨ k = 115 ∨ k = 98 ∨ k = 103) : tlen (d + 1) (k :: r) =
    if k = 98 ∧ r.getD 0 0 ≠ 117 then 0 else if tlen d r = 0 then 0 else if tlen d (r.drop (tlen d r)) = 0 then 0 else 1 + tlen d r + tlen d (r.drop (tlen d r)) := by
  rw [tlen]
  rcases hk with rfl | rfl | rfl | rfl
  all_goals rw [if_neg (by decide), if_neg (by decide), if_neg (by decide), if_pos (by decide)]
theorem tlen_one {d : Nat} {k : UInt8} {r : List UInt8} (hk : k = 104 ∨ k = 117) : tlen (d + 1) (k :: r) = if tlen d r = 0 then 0 else 1 + tlen d r := by
  rw [tlen]
  rcases hk with rfl | rfl
  all_goals rw [if_neg (by decide), if_neg (by decide), if_pos (by decide)]
def manyK (k : UInt8) (m : Nat) : Prop := (k = 104 ∨ k = 117) ∧ m = 1 ∨ (k = 112 ∨ k = 115 ∨ k = 98 ∨ k = 103) ∧ m = 2
theorem tlen_miss {d j m : Nat} {k : UInt8} {r : List UInt8} (hk : manyK k m) (hj : j < m) (h : tlen d (r.drop (offs d r j)) = 0) : tlen (d + 1) (k :: r) = 0 := by
  rcases hk with ⟨hk, rfl⟩ | ⟨hk, rfl⟩
  · obtain rfl : j = 0 := by omega
    rw [tlen_one hk, if_pos (by simpa [offs] using h)]
  · rw [tlen_two hk]
    split
    · rfl
    · rcases (by omega : j = 0 ∨ j = 1) with rfl | rfl
      · rw [if_pos (by simpa [offs] using h)]
      · split
        · rfl
        · rw [if_pos (by simpa [offs] using h)]
theorem tlen_all {d m : Nat} {k : UInt8} {r : List UInt8} (hk : manyK k m) (hb : k = 98 → r.getD 0 0 = 117) (h : ∀ i, i < m → tlen d (r.drop (offs d r i)) ≠ 0) : tlen (d + 1) (k :: r) = 1 + offs d r m := by
  rcases hk with ⟨hk, rfl⟩ | ⟨hk, rfl⟩
  · have h0 := h 0 (by omega)
    simp only [offs, List.drop_zero, Nat.zero_add] at h0 ⊢
    rw [tlen_one hk, if_neg h0]
  · have h0 := h 0 (by omega)
    have h1 := h 1 (by omega)
    simp only [offs, List.drop_zero, Nat.zero_add] at h0 h1 ⊢
    rw [tlen_two hk, if_neg (fun h => h.2 (hb h.1)), if_neg h0, if_neg h1, Nat.add_assoc]
theorem nodeS_forms {w : World} {base d n : Nat} {s : ByteArray} {v : Value} (h : NodeS w base d s n v) :
    (∃ q : Int, v = .iface 126 (.agg #[.string (s.extract 0 n), .int .u64 q])) ∨ (∃ t, v = .iface 128 (.agg #[.string (s.extract 0 n), .string t])) ∨
    (∃ A m c, v = .iface 113 (.agg #[.string (s.extract 0 n), .slice A m c])) := by
  obtain ⟨k, r, _, ⟨_, m, _, _, rfl⟩ | ⟨_, t, _, _, rfl⟩ | ⟨m, A, c, _, rfl, _⟩⟩ := h
  · exact Or.inl ⟨_, rfl⟩
  · exact Or.inr (Or.inl ⟨_, rfl⟩)
  · exact Or.inr (Or.inr ⟨_, _, _, rfl⟩)
theorem read_end {w wr : World} {d m p c : Nat} {k : UInt8} {r : List UInt8} {s : ByteArray} {A : Option Addr} (u : Value) (hk : manyK k m) (hb : k = 98 → r.getD 0 0 = 117) (hs : S s = k :: r)
    (h : ∀ i, i < m → tlen d (r.drop (offs d r i)) ≠ 0) (hm : 0 < m) (hp : p = 1 + offs d r m) (hR : Kd.R Kd.string 9 wr (w.heap.size + 1) (fun _ => True) (.slice A m c) ((pts d r m).map B)) (hbel : Below w.heap.size w wr) :
    ReadPost (wr.setCell ⟨w.heap.size, 0, none⟩ u) w.heap.size (d + 1) s (.returned (.iface 113 (.agg #[.string (s.extract 0 p), .slice A m c]))) ∧ Below w.heap.size w (wr.setCell ⟨w.heap.size, 0, none⟩ u) := by
  have e := tlen_all hk hb h
  refine ⟨⟨_, rfl, Or.inr ⟨by rw [hs, e]; omega, k, r, hs, Or.inr (Or.inr ⟨m, A, c, hk, by rw [hs, e, hp], ?_⟩)⟩⟩, below_set hbel (Nat.le_refl _)⟩
  have h2 := Kd.R_far (p := ⟨w.heap.size, 0, none⟩) (Kd.R_bound hR) (fun k hk => by have := hk.2.1; show k ≠ w.heap.size; omega) u
  exact Kd.R_lower (Kd.R_mono (ok' := fun _ => True) h2 (fun _ _ => trivial)) (by omega)
theorem read_nil {w w1 wr : World} {d m j : Nat} {k : UInt8} {r : List UInt8} {s : ByteArray} (hk : manyK k m) (hs : S s = k :: r) (hj : j < m) (h : tlen d (r.drop (offs d r j)) = 0) (hbel : Below w.heap.size w wr) (hb1 : Below wr.heap.size wr w1) :
    ReadPost w1 w.heap.size (d + 1) s (.returned .nilIface) ∧ Below w.heap.size w w1 :=
  ⟨⟨_, rfl, Or.inl ⟨by rw [hs]; exact tlen_miss hk hj h, rfl⟩⟩, below_then hbel hbel.size hb1⟩
end Go.Proofs.YtodiffgpefidoaaGreatDoor.P

