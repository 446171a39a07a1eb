/- What the calls of package credit do, and the law's own Awake and number. Each returns what is said here and leaves what was there before as it was. -/
import Derived.Test.YtkmmighhmglikaaRows
import Derived.WalkKit
import Derived.WalkSpells
import Derived.WalkLawsBesides
import Derived.Lib.MinMax
import Derived.Deep.QuietTactic
import Derived.BigQuiet
namespace Go.Proofs.Ytkmmighhmglikaa
open Go.RowKit
set_option linter.unusedVariables false

theorem grow {w w1 : World} (h : Below w.heap.size w w1) (o : Obj) : Below w.heap.size w (w1.alloc o) := h.alloc h.size o

/-- What is given: the limit, what is used, what was taken, how far ahead, what was told. -/
abbrev gv (l u t a d : Int) : Value := .agg #[.int .u64 l, .int .u64 u, .int .u64 t, .int .u64 a, .int .u64 d]
/-- What was got: the limit, what is used, what was said. -/
abbrev hv (l u s : Int) : Value := .agg #[.int .u64 l, .int .u64 u, .int .u64 s]

set_option maxHeartbeats 400000 in
theorem new_any (n : Int) (w : World) (hn : 0 ≤ n) :
    Calls Try.prog 7 #[.int .u64 n] w fun e w' => e = .returned (gv (min n 4611686018427387903) 0 0 (min n 4611686018427387903) (min n 4611686018427387903)) ∧ Below w.heap.size w w' := by
  go_enter Try.func7, Try.ntmps7
  go_wp2
  exact bodyPost_ret (v := gv (min n 4611686018427387903) 0 0 (min n 4611686018427387903) (min n 4611686018427387903)) (by simp [results, Try.results7, go_sem, gv]) rfl ⟨rfl, grow (Below.refl _ _) _⟩

set_option maxHeartbeats 400000 in
theorem number_raw (k n x : Int) (w : World) :
    Calls Try.prog 8 #[.agg #[.int .u8 k, .int .u16 n, .int .u64 x, .bool true]] w fun e w' => e = .returned (.int .u64 x) ∧ Below w.heap.size w w' := by
  go_enter Try.func8, Try.ntmps8
  go_wp2
  go_ret
  exact ⟨rfl, grow (Below.refl _ _) _⟩

set_option maxHeartbeats 400000 in
theorem number_small (k n x : Int) (w : World) (hn : 0 ≤ n) (hn2 : n ≤ 65535) :
    Calls Try.prog 8 #[.agg #[.int .u8 k, .int .u16 n, .int .u64 x, .bool false]] w fun e w' => e = .returned (.int .u64 (n % 200)) ∧ Below w.heap.size w w' := by
  go_enter Try.func8, Try.ntmps8
  go_wp2
  go_ret
  exact ⟨rfl, grow (Below.refl _ _) _⟩

set_option maxHeartbeats 400000 in
theorem use_no (l u t a d x : Int) (w : World) (hu : 0 ≤ u) (hul : u ≤ l) (hl : l ≤ 4611686018427387903) (hx : l - u < x) :
    Calls Try.prog 9 #[gv l u t a d, .int .u64 x] w fun e w' => e = .returned (.tuple #[gv l u t a d, .int .i64 14]) ∧ Below w.heap.size w w' := by
  go_enter Try.func9, Try.ntmps9
  go_wp2
  exact bodyPost_ret (v := .tuple #[gv l u t a d, .int .i64 14]) (by simp [results, Try.results9, go_sem, gv]) rfl ⟨rfl, grow (grow (Below.refl _ _) _) _⟩

set_option maxHeartbeats 400000 in
theorem use_yes (l u t a d x : Int) (w : World) (hu : 0 ≤ u) (hul : u ≤ l) (hl : l ≤ 4611686018427387903) (hx0 : 0 ≤ x) (hx : x ≤ l - u) :
    Calls Try.prog 9 #[gv l u t a d, .int .u64 x] w fun e w' => e = .returned (.tuple #[gv l (u + x) t a d, .int .i64 0]) ∧ Below w.heap.size w w' := by
  go_enter Try.func9, Try.ntmps9
  go_wp2
  exact bodyPost_ret (v := .tuple #[gv l (u + x) t a d, .int .i64 0]) (by simp [results, Try.results9, go_sem, gv]) rfl ⟨rfl, grow (grow (Below.refl _ _) _) _⟩

set_option maxHeartbeats 400000 in
theorem told_any (l u t a d : Int) (w : World) :
    Calls Try.prog 11 #[gv l u t a d] w fun e w' => e = .returned (gv l u t a l) ∧ Below w.heap.size w w' := by
  go_enter Try.func11, Try.ntmps11
  go_wp2
  exact bodyPost_ret (v := gv l u t a l) (by simp [results, Try.results11, go_sem, gv]) rfl ⟨rfl, grow (grow (Below.refl _ _) _) _⟩

set_option maxHeartbeats 400000 in
theorem lost_any (l u t a d : Int) (w : World) (ha : 0 ≤ a) (ha2 : a ≤ 4611686018427387903) (hd : 0 ≤ d) (hd2 : d ≤ 4611686018427387903) :
    Calls Try.prog 12 #[gv l u t a d] w fun e w' => e = .returned (gv l u t a (d - min d (a / 2 + 1))) ∧ Below w.heap.size w w' := by
  go_enter Try.func12, Try.ntmps12
  go_wp2
  exact bodyPost_ret (v := gv l u t a (d - min d (a / 2 + 1))) (by simp [results, Try.results12, go_sem, gv]) rfl ⟨rfl, grow (grow (Below.refl _ _) _) _⟩

set_option maxHeartbeats 400000 in
theorem last_any (l u t a d : Int) (w : World) :
    Calls Try.prog 13 #[gv l u t a d] w fun e w' => e = .returned (.int .u64 d) ∧ Below w.heap.size w w' := by
  go_enter Try.func13, Try.ntmps13
  go_wp2
  go_ret
  exact ⟨rfl, grow (Below.refl _ _) _⟩

set_option maxHeartbeats 400000 in
theorem room_pure (l u : Int) (w : World) (hl : 0 ≤ l) (hl2 : l ≤ 4611686018427387903) (hu : 0 ≤ u) :
    Calls Try.prog 20 #[.int .u64 l, .int .u64 u] w fun e w' => e = .returned (.int .u64 (l - min l u)) ∧ w' = w := by
  go_enter Try.func20, Try.ntmps20
  go_wp2
  go_ret
  exact ⟨rfl, rfl⟩

theorem below_drewN {B : Nat} {a w : World} (h : Below B a w) (n : Nat) : Below B a (w.drewN n) := ⟨h.os, h.tape, h.output, h.size, h.block⟩

set_option maxHeartbeats 400000 in
theorem wants_any (l u t a d : Int) (w : World) (ha : 0 ≤ a) (ha2 : a ≤ 4611686018427387903) (hd : 0 ≤ d) (hd2 : d ≤ l) (hl : l ≤ 4611686018427387903) :
    Calls Try.prog 14 #[gv l u t a d] w fun e w' => e = .returned (.bool (decide (a / 2 < l - d))) ∧ Below w.heap.size w w' := by
  have hr := fun wx => room_pure l d wx (by omega) hl hd
  rw [show l - min l d = l - d from by omega] at hr
  have Hr := hr
  go_enter Try.func14, Try.ntmps14
  go_wp2
  go_quiet ((go_at_call 20; exact Calls.quiet_of_same (hr _)))
  go_wp2
  go_ret
  exact ⟨rfl, below_drewN (grow (Below.refl _ _) _) _⟩

set_option maxHeartbeats 400000 in
theorem take_less (l u t a d x : Int) (w : World) (ha : 0 ≤ a) (ha2 : a ≤ 4611686018427387903) (hl0 : 0 ≤ l) (hl : l ≤ 4611686018427387903) (ht : 0 ≤ t) (htu : t ≤ u) (hul : u ≤ l) (hx0 : 0 ≤ x) (hx : x < u - t) :
    Calls Try.prog 10 #[gv l u t a d, .int .u64 x] w fun e w' => e = .returned (gv (max l (min (t + x + a) 4611686018427387903)) u (t + x) a d) ∧ Below w.heap.size w w' := by
  go_enter Try.func10, Try.ntmps10
  go_wp2
  rw [show t + x + min a (4611686018427387903 - (t + x)) = min (t + x + a) 4611686018427387903 from by omega]
  exact bodyPost_ret (v := gv (max l (min (t + x + a) 4611686018427387903)) u (t + x) a d) (by simp [results, Try.results10, go_sem, gv]) rfl ⟨rfl, grow (grow (Below.refl _ _) _) _⟩

set_option maxHeartbeats 400000 in
theorem take_all (l u t a d x : Int) (w : World) (ha : 0 ≤ a) (ha2 : a ≤ 4611686018427387903) (hl0 : 0 ≤ l) (hl : l ≤ 4611686018427387903) (ht : 0 ≤ t) (htu : t ≤ u) (hul : u ≤ l) (hx : u - t ≤ x) (hu : u < 4611686018427387903) :
    Calls Try.prog 10 #[gv l u t a d, .int .u64 x] w fun e w' => e = .returned (gv (max l (min (u + a) 4611686018427387903)) u u a d) ∧ Below w.heap.size w w' := by
  go_enter Try.func10, Try.ntmps10
  go_wp2
  rw [show u + min a (4611686018427387903 - u) = min (u + a) 4611686018427387903 from by omega]
  exact bodyPost_ret (v := gv (max l (min (u + a) 4611686018427387903)) u u a d) (by simp [results, Try.results10, go_sem, gv]) rfl ⟨rfl, grow (grow (Below.refl _ _) _) _⟩

set_option maxHeartbeats 400000 in
theorem take_top (l t a d x : Int) (w : World) (ha : 0 ≤ a) (ha2 : a ≤ 4611686018427387903) (hl : l ≤ 4611686018427387903) (ht : 0 ≤ t) (htu : t ≤ 4611686018427387903) (hul : 4611686018427387903 ≤ l) (hx : 4611686018427387903 - t ≤ x) :
    Calls Try.prog 10 #[gv l 4611686018427387903 t a d, .int .u64 x] w fun e w' => e = .returned (gv (max l 4611686018427387903) 4611686018427387903 4611686018427387903 a d) ∧ Below w.heap.size w w' := by
  go_enter Try.func10, Try.ntmps10
  go_wp2
  exact bodyPost_ret (v := gv (max l 4611686018427387903) 4611686018427387903 4611686018427387903 a d) (by simp [results, Try.results10, go_sem, gv]) rfl ⟨rfl, grow (grow (Below.refl _ _) _) _⟩

/-- So much more was taken: as far as it is used; the limit rises. -/
theorem take_any (l u t a d x : Int) (w : World) (ha : 0 ≤ a) (ha2 : a ≤ 4611686018427387903) (hl0 : 0 ≤ l) (hl : l ≤ 4611686018427387903) (ht : 0 ≤ t) (htu : t ≤ u) (hul : u ≤ l) (hx0 : 0 ≤ x) :
    Calls Try.prog 10 #[gv l u t a d, .int .u64 x] w fun e w' => e = .returned (gv (max l (min (t + min x (u - t) + a) 4611686018427387903)) u (t + min x (u - t)) a d) ∧ Below w.heap.size w w' := by
  by_cases h : x < u - t
  · rw [show min x (u - t) = x from by omega]
    exact take_less l u t a d x w ha ha2 hl0 hl ht htu hul hx0 h
  · rw [show t + min x (u - t) = u from by omega]
    by_cases hu : u < 4611686018427387903
    · exact take_all l u t a d x w ha ha2 hl0 hl ht htu hul (by omega) hu
    · obtain rfl : u = 4611686018427387903 := by omega
      rw [show min (4611686018427387903 + a) 4611686018427387903 = 4611686018427387903 from by omega]
      exact take_top l t a d x w ha ha2 hl ht htu hul (by omega)
set_option maxHeartbeats 400000 in
theorem raise_any (l u s x : Int) (w : World) :
    Calls Try.prog 15 #[hv l u s, .int .u64 x] w fun e w' => e = .returned (hv (max l (min x 4611686018427387903)) u s) ∧ Below w.heap.size w w' := by
  go_enter Try.func15, Try.ntmps15
  go_wp2
  exact bodyPost_ret (v := hv (max l (min x 4611686018427387903)) u s) (by simp [results, Try.results15, go_sem, hv]) rfl ⟨rfl, grow (grow (Below.refl _ _) _) _⟩

set_option maxHeartbeats 400000 in
theorem got_room (l u s : Int) (w : World) (hu : 0 ≤ u) (hul : u ≤ l) (hl : l ≤ 4611686018427387903) :
    Calls Try.prog 17 #[hv l u s] w fun e w' => e = .returned (.int .u64 (l - u)) ∧ Below w.heap.size w w' := by
  go_enter Try.func17, Try.ntmps17
  go_wp2
  rw [show l - min l u = l - u from by omega]
  go_ret
  exact ⟨rfl, grow (Below.refl _ _) _⟩

set_option maxHeartbeats 400000 in
theorem got_use (l u s x : Int) (w : World) (hu : 0 ≤ u) (hul : u ≤ l) (hl : l ≤ 4611686018427387903) (hx : 0 ≤ x) :
    Calls Try.prog 16 #[hv l u s, .int .u64 x] w fun e w' => e = .returned (.tuple #[hv l (u + min x (l - u)) s, .int .u64 (min x (l - u))]) ∧ Below w.heap.size w w' := by
  have hm : l - min l u = l - u := by omega
  go_enter Try.func16, Try.ntmps16
  go_wp2
  exact bodyPost_ret (v := .tuple #[hv l (u + min x (l - u)) s, .int .u64 (min x (l - u))]) (by simp [results, Try.results16, go_sem, hv]) rfl ⟨rfl, grow (grow (grow (Below.refl _ _) _) _) _⟩

set_option maxHeartbeats 400000 in
theorem say_any (l u s : Int) (w : World) (hl0 : 0 ≤ l) (hl : l ≤ 4611686018427387903) :
    Calls Try.prog 18 #[hv l u s] w fun e w' => e = .returned (hv l u (l + 1)) ∧ Below w.heap.size w w' := by
  go_enter Try.func18, Try.ntmps18
  go_wp2
  exact bodyPost_ret (v := hv l u (l + 1)) (by simp [results, Try.results18, go_sem, hv]) rfl ⟨rfl, grow (grow (Below.refl _ _) _) _⟩

set_option maxHeartbeats 400000 in
theorem blocked_no (l u s : Int) (w : World) (hu : 0 ≤ u) (hul : u < l) (hl : l ≤ 4611686018427387903) :
    Calls Try.prog 19 #[hv l u s] w fun e w' => e = .returned (.bool false) ∧ Below w.heap.size w w' := by
  have hm : l - min l u = l - u := by omega
  have h0 : ((l - u) == 0) = false := by simp; omega
  go_enter Try.func19, Try.ntmps19
  go_wp2
  go_ret
  exact ⟨rfl, grow (grow (Below.refl _ _) _) _⟩

set_option maxHeartbeats 400000 in
theorem blocked_full (l s : Int) (w : World) (hl0 : 0 ≤ l) (hl : l ≤ 4611686018427387903) :
    Calls Try.prog 19 #[hv l l s] w fun e w' => e = .returned (.bool (s != l + 1)) ∧ Below w.heap.size w w' := by
  have hm : l - min l l = 0 := by omega
  go_enter Try.func19, Try.ntmps19
  go_wp2
  go_ret
  exact ⟨rfl, grow (grow (Below.refl _ _) _) _⟩

/-- Block B of the world holds what is given, and may be written. -/
def Box (w : World) (B : Nat) (l le s v : Int) (d : Int) : Prop := w.heap[B]? = some (.cells #[.int .u64 l, .int .u64 le, .int .u64 s, .int .u64 v, .int .u64 d] 27 (0, 0))

theorem Box.cells {w : World} {B : Nat} {l le s v : Int} {d : Int} (h : Box w B l le s v d) :
    w.cell? ⟨B, 0, none⟩ = some (.int .u64 l) ∧ w.cell? ⟨B, 1, none⟩ = some (.int .u64 le) ∧ w.cell? ⟨B, 2, none⟩ = some (.int .u64 s) ∧ w.cell? ⟨B, 3, none⟩ = some (.int .u64 v) ∧ w.cell? ⟨B, 4, none⟩ = some (.int .u64 d) ∧
    w.frozen? ⟨B, 0, none⟩ = false ∧ w.frozen? ⟨B, 1, none⟩ = false ∧ w.frozen? ⟨B, 2, none⟩ = false ∧ w.frozen? ⟨B, 3, none⟩ = false ∧ w.frozen? ⟨B, 4, none⟩ = false := by
  unfold Box at h
  simp [World.cell?, World.frozen?, h]

theorem Box.new (w : World) (l le s v : Int) (d : Int) : Box (w.alloc (.cells #[.int .u64 l, .int .u64 le, .int .u64 s, .int .u64 v, .int .u64 d] 27)) w.heap.size l le s v d := by
  show (w.heap.push _)[w.heap.size]? = _
  simp

theorem Box.below {w w' : World} {B : Nat} {l le s v : Int} {d : Int} (h : Box w B l le s v d) (hb : Below w.heap.size w w') : Box w' B l le s v d := by
  unfold Box at *
  have hlt : B < w.heap.size := (Array.getElem?_eq_some_iff.1 h).1
  rw [hb.block B hlt]; exact h

theorem Box.set {w : World} {B : Nat} {l le s v l' le' s' v' : Int} {d d' : Int} (h : Box w B l le s v d) :
    Box (((((w.setCell ⟨B, 0, none⟩ (.int .u64 l')).setCell ⟨B, 1, none⟩ (.int .u64 le')).setCell ⟨B, 2, none⟩ (.int .u64 s')).setCell ⟨B, 3, none⟩ (.int .u64 v')).setCell ⟨B, 4, none⟩ (.int .u64 d')) B l' le' s' v' d' := by
  unfold Box at *
  simp [World.setCell, Array.getElem?_modify, h]

theorem Box.set_other {w : World} {B C : Nat} {l le s v : Int} {d : Int} {x0 x1 x2 x3 x4 : Value} (h : Box w B l le s v d) (hne : B ≠ C) :
    Box (((((w.setCell ⟨C, 0, none⟩ x0).setCell ⟨C, 1, none⟩ x1).setCell ⟨C, 2, none⟩ x2).setCell ⟨C, 3, none⟩ x3).setCell ⟨C, 4, none⟩ x4) B l le s v d := by
  unfold Box at *
  rw [Below.heap_setCell _ _ _ _ hne, Below.heap_setCell _ _ _ _ hne, Below.heap_setCell _ _ _ _ hne, Below.heap_setCell _ _ _ _ hne, Below.heap_setCell _ _ _ _ hne]
  exact h

theorem below_set5 {B0 B : Nat} {a w : World} (h : Below B0 a w) (hB : B0 ≤ B) (x0 x1 x2 x3 x4 : Value) :
    Below B0 a (((((w.setCell ⟨B, 0, none⟩ x0).setCell ⟨B, 1, none⟩ x1).setCell ⟨B, 2, none⟩ x2).setCell ⟨B, 3, none⟩ x3).setCell ⟨B, 4, none⟩ x4) :=
  ((((h.setCell hB _).setCell hB _).setCell hB _).setCell hB _).setCell hB _

/-- Block B of the world holds what was got, and may be written. -/
def Bok (w : World) (B : Nat) (l u s : Int) : Prop := w.heap[B]? = some (.cells #[.int .u64 l, .int .u64 u, .int .u64 s] 41 (0, 0))

theorem Bok.cells {w : World} {B : Nat} {l u s : Int} (h : Bok w B l u s) :
    w.cell? ⟨B, 0, none⟩ = some (.int .u64 l) ∧ w.cell? ⟨B, 1, none⟩ = some (.int .u64 u) ∧ w.cell? ⟨B, 2, none⟩ = some (.int .u64 s) ∧
    w.frozen? ⟨B, 0, none⟩ = false ∧ w.frozen? ⟨B, 1, none⟩ = false ∧ w.frozen? ⟨B, 2, none⟩ = false := by
  unfold Bok at h
  simp [World.cell?, World.frozen?, h]

theorem Bok.new (w : World) (l u s : Int) : Bok (w.alloc (.cells #[.int .u64 l, .int .u64 u, .int .u64 s] 41)) w.heap.size l u s := by
  show (w.heap.push _)[w.heap.size]? = _
  simp

theorem Bok.below {w w' : World} {B : Nat} {l u s : Int} (h : Bok w B l u s) (hb : Below w.heap.size w w') : Bok w' B l u s := by
  unfold Bok at *
  have hlt : B < w.heap.size := (Array.getElem?_eq_some_iff.1 h).1
  rw [hb.block B hlt]; exact h

theorem Bok.set {w : World} {B : Nat} {l u s l' u' s' : Int} (h : Bok w B l u s) :
    Bok (((w.setCell ⟨B, 0, none⟩ (.int .u64 l')).setCell ⟨B, 1, none⟩ (.int .u64 u')).setCell ⟨B, 2, none⟩ (.int .u64 s')) B l' u' s' := by
  unfold Bok at *
  simp [World.setCell, Array.getElem?_modify, h]

theorem Bok.set_five {w : World} {B C : Nat} {l u s : Int} {x0 x1 x2 x3 x4 : Value} (h : Bok w B l u s) (hne : B ≠ C) :
    Bok (((((w.setCell ⟨C, 0, none⟩ x0).setCell ⟨C, 1, none⟩ x1).setCell ⟨C, 2, none⟩ x2).setCell ⟨C, 3, none⟩ x3).setCell ⟨C, 4, none⟩ x4) B l u s := by
  unfold Bok at *
  rw [Below.heap_setCell _ _ _ _ hne, Below.heap_setCell _ _ _ _ hne, Below.heap_setCell _ _ _ _ hne, Below.heap_setCell _ _ _ _ hne, Below.heap_setCell _ _ _ _ hne]
  exact h

theorem Box.set_three {w : World} {B C : Nat} {l le s v d : Int} {x0 x1 x2 : Value} (h : Box w B l le s v d) (hne : B ≠ C) :
    Box (((w.setCell ⟨C, 0, none⟩ x0).setCell ⟨C, 1, none⟩ x1).setCell ⟨C, 2, none⟩ x2) B l le s v d := by
  unfold Box at *
  rw [Below.heap_setCell _ _ _ _ hne, Below.heap_setCell _ _ _ _ hne, Below.heap_setCell _ _ _ _ hne]
  exact h

theorem below_set3 {B0 B : Nat} {a w : World} (h : Below B0 a w) (hB : B0 ≤ B) (x0 x1 x2 : Value) :
    Below B0 a (((w.setCell ⟨B, 0, none⟩ x0).setCell ⟨B, 1, none⟩ x1).setCell ⟨B, 2, none⟩ x2) :=
  ((h.setCell hB _).setCell hB _).setCell hB _

theorem wp_gen {P : Program} {c : Code} {Q : Exit → Act → World → Prop} {a : Act} {w : World} (R : World → Prop) (h : R w) (k : ∀ W, R W → Code.wp P c Q a W) : Code.wp P c Q a w := k w h

set_option maxHeartbeats 400000 in
theorem awake_any (w : World) :
    Calls Try.prog 6 #[] w fun e w' => e = .returned (.bool true) ∧ Below w.heap.size w w' := by
  go_enter Try.func6, Try.ntmps6
  go_wp2_with fail
  have h := new_any 10 w (by omega)
  rw [show min (10 : Int) 4611686018427387903 = 10 from rfl] at h
  refine h.mono ?_
  clear h
  rintro e w1 ⟨rfl, hb1⟩
  go_wp2_with fail
  refine (use_yes 10 0 0 10 10 6 _ (by omega) (by omega) (by omega) (by omega) (by omega)).mono ?_
  rintro e w2 ⟨rfl, hb2⟩
  have hbw2 := hb1.trans (hb2.mono hb1.size)
  go_wp2_with fail
  have h := take_any 10 6 0 10 10 6 (w2.alloc (.cells #[.int .u64 10, .int .u64 6, .int .u64 0, .int .u64 10, .int .u64 10] 27)) (by omega) (by omega) (by omega) (by omega) (by omega) (by omega) (by omega) (by omega)
  rw [show max (10 : Int) (min (0 + min 6 (6 - 0) + 10) 4611686018427387903) = 16 from rfl, show (0 : Int) + min 6 (6 - 0) = 6 from rfl] at h
  refine h.mono ?_
  clear h
  rintro e w3 ⟨rfl, hb3⟩
  have hbox3 := (Box.new w2 10 6 0 10 10).below hb3
  have hbw3 := (grow hbw2 _).trans (hb3.mono (grow hbw2 _).size)
  obtain ⟨c0, c1, c2, c3, c4, f0, f1, f2, f3, f4⟩ := hbox3.cells
  go_wp2_with fail
  refine (wants_any 16 6 6 10 10 _ (by omega) (by omega) (by omega) (by omega) (by omega)).mono ?_
  rintro e w4 ⟨rfl, hb4⟩
  go_wp2_with fail
  have hbw4 := below_set5 hbw3 hbw2.size (.int .u64 16) (.int .u64 6) (.int .u64 6) (.int .u64 10) (.int .u64 10)
  go_ret
  exact ⟨rfl, hbw4.trans (hb4.mono hbw4.size)⟩
end Go.Proofs.Ytkmmighhmglikaa
