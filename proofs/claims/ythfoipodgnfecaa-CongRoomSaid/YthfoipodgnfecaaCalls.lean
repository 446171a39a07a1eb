/- What the calls of package cong do: New, Sent, Drop, Lost, Came, Persistent, Room, and the law's own Awake. Each returns what is said here and leaves what was there before as it was. -/
import Derived.Test.YthfoipodgnfecaaRows
import Derived.WalkKit
import Derived.WalkSpells
import Derived.WalkLawsBesides
import Derived.Lib.MinMax
namespace Go.Proofs.Ythfoipodgnfecaa
open Go.RowKit
set_option linter.unusedVariables false

theorem grow {w w1 : World} (h : Below w.heap.size w w1) (o : Obj) : Below w.heap.size w (w1.alloc o) := h.alloc h.size o

/-- A window: its size, what is on its way, from where it grows slowly, since when it is reduced, whether it is. -/
abbrev wv (s f l n : Int) (b : Bool) : Value := .agg #[.int .u64 s, .int .u64 f, .int .u64 l, .int .u64 n, .bool b]

set_option maxHeartbeats 400000 in
theorem new_any (w : World) :
    Calls Try.prog 7 #[] w fun e w' => e = .returned (wv 12000 0 16777216 0 false) ∧ Below w.heap.size w w' := by
  go_enter Try.func7, Try.ntmps7
  go_wp2
  exact bodyPost_ret (v := wv 12000 0 16777216 0 false) (by simp [results, Try.results7, go_sem, wv]) rfl ⟨rfl, (Below.refl _ _).alloc (Nat.le_refl _) _⟩

set_option maxHeartbeats 400000 in
theorem sent_any (s f l n x : Int) (b : Bool) (w : World) (hf : 0 ≤ f) (hf2 : f ≤ 1000000000000) (hx : 0 ≤ x) :
    Calls Try.prog 8 #[wv s f l n b, .int .u64 x] w fun e w' => e = .returned (wv s (f + min x 16777216) l n b) ∧ Below w.heap.size w w' := by
  go_enter Try.func8, Try.ntmps8
  go_wp2
  exact bodyPost_ret (v := wv s (f + min x 16777216) l n b) (by simp [results, Try.results8, go_sem, wv]) rfl ⟨rfl, ((Below.refl _ _).alloc (Nat.le_refl _) _).alloc (by simp) _⟩

set_option maxHeartbeats 400000 in
theorem drop_any (s f l n x : Int) (b : Bool) (w : World) (hf : 0 ≤ f) (hf2 : f ≤ 1000000000000) (hx : 0 ≤ x) :
    Calls Try.prog 13 #[wv s f l n b, .int .u64 x] w fun e w' => e = .returned (wv s (f - min f x) l n b) ∧ Below w.heap.size w w' := by
  go_enter Try.func13, Try.ntmps13
  go_wp2
  exact bodyPost_ret (v := wv s (f - min f x) l n b) (by simp [results, Try.results13, go_sem, wv]) rfl ⟨rfl, ((Below.refl _ _).alloc (Nat.le_refl _) _).alloc (by simp) _⟩

set_option maxHeartbeats 400000 in
theorem persistent_any (s f l n : Int) (b : Bool) (w : World) :
    Calls Try.prog 10 #[wv s f l n b] w fun e w' => e = .returned (wv 2400 f l n false) ∧ Below w.heap.size w w' := by
  go_enter Try.func10, Try.ntmps10
  go_wp2
  exact bodyPost_ret (v := wv 2400 f l n false) (by simp [results, Try.results10, go_sem, wv]) rfl ⟨rfl, ((Below.refl _ _).alloc (Nat.le_refl _) _).alloc (by simp) _⟩

set_option maxHeartbeats 400000 in
theorem room_any (s f l n : Int) (b : Bool) (w : World) (hs : 0 ≤ s) (hs2 : s ≤ 16777216) (hf : 0 ≤ f) :
    Calls Try.prog 11 #[wv s f l n b] w fun e w' => e = .returned (.int .u64 (s - min s f)) ∧ Below w.heap.size w w' := by
  go_enter Try.func11, Try.ntmps11
  go_wp2
  go_ret
  exact ⟨rfl, (Below.refl _ _).alloc (Nat.le_refl _) _⟩

set_option maxHeartbeats 400000 in
theorem settled_no (s f l n x : Int) (w : World) :
    Calls Try.prog 14 #[wv s f l n false, .int .u64 x] w fun e w' => e = .returned (.bool false) ∧ Below w.heap.size w w' := by
  go_enter Try.func14, Try.ntmps14
  go_wp2
  go_ret
  exact ⟨rfl, (Below.refl _ _).alloc (Nat.le_refl _) _⟩

set_option maxHeartbeats 400000 in
theorem settled_yes (s f l n x : Int) (w : World) :
    Calls Try.prog 14 #[wv s f l n true, .int .u64 x] w fun e w' => e = .returned (.bool (decide (x ≤ n))) ∧ Below w.heap.size w w' := by
  go_enter Try.func14, Try.ntmps14
  go_wp2
  go_ret
  exact ⟨rfl, (Below.refl _ _).alloc (Nat.le_refl _) _⟩

/-- Was what was sent at x sent no later than the window was reduced? -/
def settled (b : Bool) (x n : Int) : Bool := b && decide (x ≤ n)

theorem settled_is (s f l n x : Int) (b st : Bool) (w : World) (h : settled b x n = st) :
    Calls Try.prog 14 #[wv s f l n b, .int .u64 x] w fun e w' => e = .returned (.bool st) ∧ Below w.heap.size w w' := by
  cases b
  · simp [settled] at h; subst h; exact settled_no s f l n x w
  · simp [settled] at h; subst h; exact settled_yes s f l n x w

set_option maxHeartbeats 400000 in
theorem capped_any (a b : Int) (w : World) (ha : 0 ≤ a) (hb : 0 ≤ b) :
    Calls Try.prog 15 #[.int .u64 a, .int .u64 b] w fun e w' => e = .returned (.int .u64 (min (min a 16777216 + min b 16777216) 16777216)) ∧ w' = w := by
  go_enter Try.func15, Try.ntmps15
  go_wp2
  go_ret
  exact ⟨rfl, rfl⟩

set_option maxHeartbeats 400000 in
theorem lost_settled (s f l n x t now : Int) (w : World) (hf : 0 ≤ f) (hf2 : f ≤ 1000000000000) (hx : 0 ≤ x) (hst : t ≤ n) :
    Calls Try.prog 9 #[wv s f l n true, .int .u64 x, .int .u64 t, .int .u64 now] w fun e w' => e = .returned (wv s (f - min f x) l n true) ∧ Below w.heap.size w w' := by
  go_enter Try.func9, Try.ntmps9
  go_wp2
  refine bodyPost_ret (v := wv s (f - min f x) l n true) (by simp [results, Try.results13, go_sem, wv]) rfl ?_
  go_wp2
  exact bodyPost_ret (v := wv s (f - min f x) l n true) (by simp [results, Try.results9, go_sem, wv]) rfl ⟨rfl, grow (grow (grow (grow (grow (Below.refl _ _) _) _) _) _) _⟩

set_option maxHeartbeats 400000 in
theorem lost_first (s f l n x t now : Int) (w : World) (hs : 0 ≤ s) (hs2 : s ≤ 16777216) (hf : 0 ≤ f) (hf2 : f ≤ 1000000000000) (hx : 0 ≤ x) :
    Calls Try.prog 9 #[wv s f l n false, .int .u64 x, .int .u64 t, .int .u64 now] w fun e w' => e = .returned (wv (max (s / 2) 2400) (f - min f x) (max (s / 2) 2400) now true) ∧ Below w.heap.size w w' := by
  go_enter Try.func9, Try.ntmps9
  go_wp2
  refine bodyPost_ret (v := wv s (f - min f x) l n false) (by simp [results, Try.results13, go_sem, wv]) rfl ?_
  go_wp2
  exact bodyPost_ret (v := wv (max (s / 2) 2400) (f - min f x) (max (s / 2) 2400) now true) (by simp [results, Try.results9, go_sem, wv]) rfl ⟨rfl, grow (grow (grow (grow (grow (Below.refl _ _) _) _) _) _) _⟩

set_option maxHeartbeats 400000 in
theorem lost_anew (s f l n x t now : Int) (w : World) (hs : 0 ≤ s) (hs2 : s ≤ 16777216) (hf : 0 ≤ f) (hf2 : f ≤ 1000000000000) (hx : 0 ≤ x) (hst : n < t) :
    Calls Try.prog 9 #[wv s f l n true, .int .u64 x, .int .u64 t, .int .u64 now] w fun e w' => e = .returned (wv (max (s / 2) 2400) (f - min f x) (max (s / 2) 2400) now true) ∧ Below w.heap.size w w' := by
  go_enter Try.func9, Try.ntmps9
  go_wp2
  refine bodyPost_ret (v := wv s (f - min f x) l n true) (by simp [results, Try.results13, go_sem, wv]) rfl ?_
  go_wp2
  exact bodyPost_ret (v := wv (max (s / 2) 2400) (f - min f x) (max (s / 2) 2400) now true) (by simp [results, Try.results9, go_sem, wv]) rfl ⟨rfl, grow (grow (grow (grow (grow (Below.refl _ _) _) _) _) _) _⟩

set_option maxHeartbeats 400000 in
theorem came_low (s f l n x t : Int) (b : Bool) (w : World) (hf : 0 ≤ f) (hf2 : f ≤ 1000000000000) (hx : 0 ≤ x) (hlow : f < s) :
    Calls Try.prog 12 #[wv s f l n b, .int .u64 x, .int .u64 t] w fun e w' => e = .returned (wv s (f - min f x) l n b) ∧ Below w.heap.size w w' := by
  go_enter Try.func12, Try.ntmps12
  go_wp2
  refine bodyPost_ret (v := wv s (f - min f x) l n b) (by simp [results, Try.results13, go_sem, wv]) rfl ?_
  go_wp2
  exact bodyPost_ret (v := wv s (f - min f x) l n b) (by simp [results, Try.results12, go_sem, wv]) rfl ⟨rfl, by repeat (first | exact Below.refl _ _ | refine grow ?_ _)⟩

set_option maxHeartbeats 400000 in
theorem came_grow (s f l n x t : Int) (w : World) (hf : 0 ≤ f) (hf2 : f ≤ 1000000000000) (hx : 0 ≤ x) (hs : 0 < s) (hs2 : s ≤ 16777216) (hlow : s ≤ f) (hsl : s < l) :
    Calls Try.prog 12 #[wv s f l n false, .int .u64 x, .int .u64 t] w fun e w' => e = .returned (wv (min (min s 16777216 + min x 16777216) 16777216) (f - min f x) l n false) ∧ Below w.heap.size w w' := by
  have hs0 : ((s : Int) == 0) = false := by simp; omega
  go_enter Try.func12, Try.ntmps12
  go_wp2
  refine bodyPost_ret (v := wv s (f - min f x) l n false) (by simp [results, Try.results13, go_sem, wv]) rfl ?_
  go_wp2
  exact bodyPost_ret (v := wv (min (min s 16777216 + min x 16777216) 16777216) (f - min f x) l n false) (by simp [results, Try.results12, go_sem, wv]) rfl ⟨rfl, by repeat (first | exact Below.refl _ _ | refine grow ?_ _)⟩
set_option maxHeartbeats 400000 in
theorem awake_any (w : World) :
    Calls Try.prog 6 #[] w fun e w' => e = .returned (.bool true) ∧ Below w.heap.size w w' := by
  go_enter Try.func6, Try.ntmps6
  go_wp2_with fail
  refine (new_any _).mono ?_
  rintro e w1 ⟨rfl, hb1⟩
  go_wp2_with fail
  refine (room_any 12000 0 16777216 0 false _ (by omega) (by omega) (by omega)).mono ?_
  rintro e w2 ⟨rfl, hb2⟩
  go_wp2
  go_ret
  exact ⟨rfl, hb1.trans (hb2.mono hb1.size)⟩

/-- Block B of the world holds a window, and may be written. -/
def Box (w : World) (B : Nat) (l le s v : Int) (b : Bool) : Prop := w.heap[B]? = some (.cells #[.int .u64 l, .int .u64 le, .int .u64 s, .int .u64 v, .bool b] 26 (0, 0))

theorem Box.cells {w : World} {B : Nat} {l le s v : Int} {b : Bool} (h : Box w B l le s v b) :
    w.cell? ⟨B, 0, none⟩ = some (.int .u64 l) ∧ w.cell? ⟨B, 1, none⟩ = some (.int .u64 le) ∧ w.cell? ⟨B, 2, none⟩ = some (.int .u64 s) ∧ w.cell? ⟨B, 3, none⟩ = some (.int .u64 v) ∧ w.cell? ⟨B, 4, none⟩ = some (.bool b) ∧
    w.frozen? ⟨B, 0, none⟩ = false ∧ w.frozen? ⟨B, 1, none⟩ = false ∧ w.frozen? ⟨B, 2, none⟩ = false ∧ w.frozen? ⟨B, 3, none⟩ = false ∧ w.frozen? ⟨B, 4, none⟩ = false := by
  unfold Box at h
  simp [World.cell?, World.frozen?, h]

theorem Box.new (w : World) (l le s v : Int) (b : Bool) : Box (w.alloc (.cells #[.int .u64 l, .int .u64 le, .int .u64 s, .int .u64 v, .bool b] 26)) w.heap.size l le s v b := by
  show (w.heap.push _)[w.heap.size]? = _
  simp

theorem Box.below {w w' : World} {B : Nat} {l le s v : Int} {b : Bool} (h : Box w B l le s v b) (hb : Below w.heap.size w w') : Box w' B l le s v b := by
  unfold Box at *
  have hlt : B < w.heap.size := (Array.getElem?_eq_some_iff.1 h).1
  rw [hb.block B hlt]; exact h

theorem Box.set {w : World} {B : Nat} {l le s v l' le' s' v' : Int} {b b' : Bool} (h : Box w B l le s v b) :
    Box (((((w.setCell ⟨B, 0, none⟩ (.int .u64 l')).setCell ⟨B, 1, none⟩ (.int .u64 le')).setCell ⟨B, 2, none⟩ (.int .u64 s')).setCell ⟨B, 3, none⟩ (.int .u64 v')).setCell ⟨B, 4, none⟩ (.bool b')) B l' le' s' v' b' := by
  unfold Box at *
  simp [World.setCell, Array.getElem?_modify, h]

theorem Box.set_other {w : World} {B C : Nat} {l le s v : Int} {b : Bool} {x0 x1 x2 x3 x4 : Value} (h : Box w B l le s v b) (hne : B ≠ C) :
    Box (((((w.setCell ⟨C, 0, none⟩ x0).setCell ⟨C, 1, none⟩ x1).setCell ⟨C, 2, none⟩ x2).setCell ⟨C, 3, none⟩ x3).setCell ⟨C, 4, none⟩ x4) B l le s v b := by
  unfold Box at *
  rw [Below.heap_setCell _ _ _ _ hne, Below.heap_setCell _ _ _ _ hne, Below.heap_setCell _ _ _ _ hne, Below.heap_setCell _ _ _ _ hne, Below.heap_setCell _ _ _ _ hne]
  exact h

theorem below_set5 {B0 B : Nat} {a w : World} (h : Below B0 a w) (hB : B0 ≤ B) (x0 x1 x2 x3 x4 : Value) :
    Below B0 a (((((w.setCell ⟨B, 0, none⟩ x0).setCell ⟨B, 1, none⟩ x1).setCell ⟨B, 2, none⟩ x2).setCell ⟨B, 3, none⟩ x3).setCell ⟨B, 4, none⟩ x4) :=
  ((((h.setCell hB _).setCell hB _).setCell hB _).setCell hB _).setCell hB _

end Go.Proofs.Ythfoipodgnfecaa
