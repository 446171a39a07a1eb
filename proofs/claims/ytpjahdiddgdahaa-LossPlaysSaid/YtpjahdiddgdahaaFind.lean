/- Find: which packets are lost; when the next one will be. -/
import Derived.Test.YtpjahdiddgdahaaOld
import Derived.Test.YtpjahdiddgdahaaRtt
import Derived.BigRegion
namespace Go.Proofs.Ytpjahdiddgdahaa
open Go.RowKit
set_option linter.unusedVariables false
set_option linter.unusedSimpArgs false

/-- When the next one will be lost, of those that are not above the greatest that came. -/
def nextL (ak wait : Int) : List Pk → Bool → Int → Bool × Int
  | [], wt, la => (wt, la)
  | p :: ps, wt, la => if ak < p.n then (wt, la) else if wt = false ∨ p.a + wait < la then nextL ak wait ps true (p.a + wait) else nextL ak wait ps wt la

theorem Led.set_wait {w : World} {L : Nat} {v : Value} {ps : List Pk} {so wt : Bool} {ak la ls : Int} (h : Led w L v ps so ak wt la ls) (b : Bool) (x : Int) :
    Led ((w.setCell ⟨L, 3, none⟩ (.bool b)).setCell ⟨L, 4, none⟩ (.int .u64 x)) L v ps so ak b x ls := by
  refine ⟨by simp [World.setCell, Array.getElem?_modify, h.1], h.2.keep fun g hg => ?_⟩
  have := (h.2.lt g hg).1
  rw [Below.heap_setCell _ _ _ _ (by show g ≠ L; omega), Below.heap_setCell _ _ _ _ (by show g ≠ L; omega)]

/-- Find's three variables: the ledger, the time, the round trip; and the wait, where it is known. -/
def FVars (w : World) (B L : Nat) (now : Int) : Prop :=
  w.cell? ⟨B, 0, none⟩ = some (.pointer (some ⟨L, 0, none⟩)) ∧ w.cell? ⟨B + 1, 0, none⟩ = some (.int .u64 now) ∧ B + 2 < w.heap.size

theorem FVars.below {w w' : World} {B L : Nat} {now : Int} (h : FVars w B L now) (hb : Below w.heap.size w w') : FVars w' B L now :=
  ⟨by rw [hb.cell (by show B < _; have := h.2.2; omega)]; exact h.1, by rw [hb.cell (by show B + 1 < _; have := h.2.2; omega)]; exact h.2.1, Nat.lt_of_lt_of_le h.2.2 hb.size⟩
theorem FVars.kp {w w' : World} {B L : Nat} {now : Int} (h : FVars w B L now) (hk : Kp w w' (fun k => k = L)) (hB : L < B) : FVars w' B L now := by
  have h3 := h.2.2
  have e1 : w'.heap[B]? = w.heap[B]? := hk.block B (by omega) (by omega)
  have e2 : w'.heap[B + 1]? = w.heap[B + 1]? := hk.block (B + 1) (by omega) (by omega)
  refine ⟨?_, ?_, Nat.lt_of_lt_of_le h3 hk.size⟩
  · rw [← h.1]; simp [World.cell?, e1]
  · rw [← h.2.1]; simp [World.cell?, e2]

theorem find_boxes (w : World) (o1 o2 o3 : Obj) : (((w.alloc o1).alloc o2).alloc o3).heap[w.heap.size + 2]? = some o3 := by
  rw [show w.heap.size + 2 = ((w.alloc o1).alloc o2).heap.size by simp]
  show (Array.push _ _)[Array.size _]? = _
  exact Array.getElem?_push_size

/-- What is known while Find looks for the next one. -/
def FSt (w : World) (L T : Nat) (kv tv : Value) (ks ts : List Pk) (ak now wait ls : Int) (wt : Bool) (la : Int) (W : World) : Prop :=
  Led W L kv ks true ak wt la ls ∧ FVars W w.heap.size L now ∧ W.heap[T]? = some (.cells #[.int .u64 wait] 27 (0, 0)) ∧ Kp w W (fun k => k = L) ∧ Rw W w.heap.size tv ts
theorem FSt.below {w W W' : World} {L T : Nat} {kv tv : Value} {ks ts : List Pk} {ak now wait ls : Int} {wt : Bool} {la : Int} (h : FSt w L T kv tv ks ts ak now wait ls wt la W) (hb : Below W.heap.size W W') : FSt w L T kv tv ks ts ak now wait ls wt la W' := by
  obtain ⟨h1, h2, h3, h4, h5⟩ := h
  exact ⟨h1.below hb, h2.below hb, by rw [hb.block T (Array.getElem?_eq_some_iff.1 h3).1]; exact h3, h4.trans (Kp.of_below (fun k => k = L) hb) (fun _ _ h => h), h5.below hb⟩
theorem FSt.store {w W : World} {L T : Nat} {kv tv : Value} {ks ts : List Pk} {ak now wait ls : Int} {wt : Bool} {la : Int} (h : FSt w L T kv tv ks ts ak now wait ls wt la W) (hL : L < w.heap.size) (hT : L < T) (n : Nat) (b : Bool) (x : Int) :
    FSt w L T kv tv ks ts ak now wait ls b x (((W.drewN n).setCell ⟨L, 3, none⟩ (.bool b)).setCell ⟨L, 4, none⟩ (.int .u64 x)) := by
  obtain ⟨h1, h2, h3, h4, h5⟩ := h.below (below_drewN (Below.refl _ _) n)
  generalize W.drewN n = W at *
  refine ⟨h1.set_wait _ _, h2.kp (((Kp.of_below (fun k => k = L) (Below.refl _ W)).set ⟨L, 3, none⟩ (by rfl) _).set ⟨L, 4, none⟩ (by rfl) _) hL, ?_, (h4.set ⟨L, 3, none⟩ (by rfl) _).set ⟨L, 4, none⟩ (by rfl) _, h5.keep fun g hg => ?_⟩
  · rw [Below.heap_setCell _ _ _ _ (by show T ≠ L; omega), Below.heap_setCell _ _ _ _ (by show T ≠ L; omega)]; exact h3
  · have := (h5.lt g hg).1
    rw [Below.heap_setCell _ _ _ _ (by show g ≠ L; omega), Below.heap_setCell _ _ _ _ (by show g ≠ L; omega)]

def FindRel (w : World) (L T : Nat) (kv tv : Value) (ks ts : List Pk) (ak now wait ls : Int) (x11 i : Value) (wr : World) : Prop :=
  ∃ (k : Nat) (wt : Bool) (la : Int), i = .int .i64 k ∧ k ≤ ks.length ∧ FSt w L T kv tv ks ts ak now wait ls wt la wr ∧ nextL ak wait (ks.drop k) wt la = nextL ak wait ks false 0

/-- What Find leaves where nothing came yet. -/
def FindNone (w : World) (L : Nat) (v : Value) (ps : List Pk) (ak ls : Int) (e : Ending) (w' : World) : Prop :=
  e = .returned (.slice none 0 0) ∧ Led w' L v ps false ak false 0 ls ∧ Kp w w' (fun k => k = L)

/-- What Find leaves. -/
def FindPost (w : World) (L : Nat) (ks ts : List Pk) (ak wait ls : Int) (e : Ending) (w' : World) : Prop :=
  ∃ tv kv wt la, e = .returned tv ∧ Led w' L kv ks true ak wt la ls ∧ Rw w' w.heap.size tv ts ∧ Kp w w' (fun k => k = L) ∧
    (∀ k, kv.ownBlock = some k → w.heap.size ≤ k) ∧ (∀ g, tv.ownBlock = some g → kv.ownBlock ≠ some g) ∧ nextL ak wait ks false 0 = (wt, la)

theorem find_reset {w W : World} {L : Nat} {v : Value} {ps : List Pk} {so wt : Bool} {ak la ls : Int} {B : Nat} {now l le s va : Int} {b : Bool} (h : Led W L v ps so ak wt la ls) (hf : FVars W B L now) (hr : W.heap[B + 2]? = some (.cells #[.int .u64 l, .int .u64 le, .int .u64 s, .int .u64 va, .bool b] 33 (0, 0))) (hk : Kp w W (fun k => k = L)) (hB : L < B) (n : Nat) :
    Led (((W.drewN n).setCell ⟨L, 3, none⟩ (.bool false)).setCell ⟨L, 4, none⟩ (.int .u64 0)) L v ps so ak false 0 ls ∧ FVars (((W.drewN n).setCell ⟨L, 3, none⟩ (.bool false)).setCell ⟨L, 4, none⟩ (.int .u64 0)) B L now ∧
    (((W.drewN n).setCell ⟨L, 3, none⟩ (.bool false)).setCell ⟨L, 4, none⟩ (.int .u64 0)).heap[B + 2]? = some (.cells #[.int .u64 l, .int .u64 le, .int .u64 s, .int .u64 va, .bool b] 33 (0, 0)) ∧ Kp w (((W.drewN n).setCell ⟨L, 3, none⟩ (.bool false)).setCell ⟨L, 4, none⟩ (.int .u64 0)) (fun k => k = L) := by
  have hk1 := hk.trans (Kp.of_below (fun k => k = L) (below_drewN (Below.refl _ W) n)) (fun _ _ h => h)
  have hk2 := (hk1.set ⟨L, 3, none⟩ (by rfl) (.bool false)).set ⟨L, 4, none⟩ (by rfl) (.int .u64 0)
  have hk3 := ((Kp.of_below (fun k => k = L) (below_drewN (Below.refl _ W) n)).set ⟨L, 3, none⟩ (by rfl) (.bool false)).set ⟨L, 4, none⟩ (by rfl) (.int .u64 0)
  refine ⟨(h.below (below_drewN (Below.refl _ _) n)).set_wait _ _, hf.kp hk3 hB, ?_, hk2⟩
  rw [hk3.block (B + 2) hf.2.2 (by omega)]; exact hr

set_option maxRecDepth 100000 in
set_option maxHeartbeats 1000000 in
theorem find_none (L : Nat) (v : Value) (ps : List Pk) (wt : Bool) (ak la ls now l le s va : Int) (b : Bool) (w : World) (hl : Led w L v ps false ak wt la ls) :
    Calls Try.prog 11 #[.pointer (some ⟨L, 0, none⟩), .int .u64 now, rv l le s va b] w (FindNone w L v ps ak ls) := by
  have HL := Lib.hid hl.lt
  unfold rv
  go_enter Try.func11, Try.ntmps11
  go_upto_region 1 with (fail)
  refine wp_gen (fun W => Led W L v ps false ak wt la ls ∧ FVars W w.heap.size L now ∧ W.heap[w.heap.size + 2]? = some (.cells #[.int .u64 l, .int .u64 le, .int .u64 s, .int .u64 va, .bool b] 33 (0, 0)) ∧ Kp w W (fun k => k = L))
    ⟨hl.below (((grow (Below.refl _ _) _).alloc (by simp) _).alloc (by simp; omega) _), ⟨by go_simp, by go_simp, by simp⟩, find_boxes w _ _ _, Kp.of_below _ (((grow (Below.refl _ _) _).alloc (by simp) _).alloc (by simp; omega) _)⟩ ?_
  rintro W ⟨hl1, hf1, hr1, hk1⟩
  obtain ⟨c0, c1, c2, c3, c4, c5, f0, f1, f2, f3, f4, f5⟩ := hl1.cells
  obtain ⟨g0, g1, g2⟩ := hf1
  have Hl1 := Lib.hid hl1
  have Hf1 := Lib.hid (show FVars W w.heap.size L now from ⟨g0, g1, g2⟩)
  have Hr1 := Lib.hid hr1
  have Hk1 := Lib.hid hk1
  clear hl1 hr1 hk1 hl
  go_wp2_with fail
  go_region
  all_goals
    refine ex_gen (fun W => Led W L v ps false ak false 0 ls ∧ FVars W w.heap.size L now ∧ W.heap[w.heap.size + 2]? = some (.cells #[.int .u64 l, .int .u64 le, .int .u64 s, .int .u64 va, .bool b] 33 (0, 0)) ∧ Kp w W (fun k => k = L))
      (by exact find_reset Hl1.out Hf1.out Hr1.out Hk1.out HL.out _) ?_
    clear c0 c1 c2 c3 c4 c5 f0 f1 f2 f3 f4 f5 g0 g1 g2 Hl1 Hf1 Hr1 Hk1
    rintro W2 ⟨hl1, hf1, hr1, hk1⟩
    obtain ⟨c0, c1, c2, c3, c4, c5, f0, f1, f2, f3, f4, f5⟩ := hl1.cells
    obtain ⟨g0, g1, g2⟩ := hf1
    have Hl1 := Lib.hid hl1
    have Hk1 := Lib.hid hk1
    clear hl1 hk1 hr1
    go_wp2_with fail
    go_ret
    exact ⟨rfl, Hl1.out, Hk1.out⟩

set_option maxRecDepth 100000 in
set_option maxHeartbeats 1000000 in
theorem find_some (L : Nat) (v : Value) (ps : List Pk) (wt : Bool) (ak la ls now l le s va : Int) (b : Bool) (w : World) (hl : Led w L v ps true ak wt la ls) (hmany : ps.length ≤ 256) (hfit : ∀ p ∈ ps, Fits p) (hak : 0 ≤ ak) (hak2 : ak ≤ 18446744073709551615) (hnow : 0 ≤ now) (hnow2 : now ≤ 18446744073709551615)
    (h0 : 0 ≤ l) (h1 : l ≤ 1125899906842624) (h2 : 0 ≤ s) (h3 : s ≤ 1125899906842624) (wait : Int) (hw : Hid (wait = max (9 * max s l / 8) 1000))
    (ks ts : List Pk) (hks : Hid (ks = ps.filter (fun p => !isLost ak now wait p))) (hts : Hid (ts = ps.filter (isLost ak now wait))) :
    Calls Try.prog 11 #[.pointer (some ⟨L, 0, none⟩), .int .u64 now, rv l le s va b] w (FindPost w L ks ts ak wait ls) := by
  have HL := Lib.hid hl.lt
  have Hfit := Lib.hid hfit
  clear hfit
  unfold rv
  go_enter Try.func11, Try.ntmps11
  go_upto_region 1 with (fail)
  refine wp_gen (fun W => Led W L v ps true ak wt la ls ∧ FVars W w.heap.size L now ∧ W.heap[w.heap.size + 2]? = some (.cells #[.int .u64 l, .int .u64 le, .int .u64 s, .int .u64 va, .bool b] 33 (0, 0)) ∧ Kp w W (fun k => k = L))
    ⟨hl.below (((grow (Below.refl _ _) _).alloc (by simp) _).alloc (by simp; omega) _), ⟨by go_simp, by go_simp, by simp⟩, find_boxes w _ _ _, Kp.of_below _ (((grow (Below.refl _ _) _).alloc (by simp) _).alloc (by simp; omega) _)⟩ ?_
  rintro W ⟨hl1, hf1, hr1, hk1⟩
  obtain ⟨c0, c1, c2, c3, c4, c5, f0, f1, f2, f3, f4, f5⟩ := hl1.cells
  obtain ⟨g0, g1, g2⟩ := hf1
  have Hl1 := Lib.hid hl1
  have Hf1 := Lib.hid (show FVars W w.heap.size L now from ⟨g0, g1, g2⟩)
  have Hr1 := Lib.hid hr1
  have Hk1 := Lib.hid hk1
  clear hl1 hr1 hk1 hl
  go_wp2_with fail
  go_region
  all_goals
    refine ex_gen (fun W => Led W L v ps true ak false 0 ls ∧ FVars W w.heap.size L now ∧ W.heap[w.heap.size + 2]? = some (.cells #[.int .u64 l, .int .u64 le, .int .u64 s, .int .u64 va, .bool b] 33 (0, 0)) ∧ Kp w W (fun k => k = L))
      (by exact find_reset Hl1.out Hf1.out Hr1.out Hk1.out HL.out _) ?_
    clear c0 c1 c2 c3 c4 c5 f0 f1 f2 f3 f4 f5 g0 g1 g2 Hl1 Hf1 Hr1 Hk1
    rintro W2 ⟨hl1, hf1, hr1, hk1⟩
    obtain ⟨c0, c1, c2, c3, c4, c5, f0, f1, f2, f3, f4, f5⟩ := hl1.cells
    obtain ⟨g0, g1, g2⟩ := hf1
    have Hl1 := Lib.hid hl1
    have Hf1 := Lib.hid (show FVars W2 w.heap.size L now from ⟨g0, g1, g2⟩)
    have Hr1 := Lib.hid hr1
    have Hk1 := Lib.hid hk1
    have r0 : W2.cell? ⟨w.heap.size + 2, 0, none⟩ = some (.int .u64 l) := by simp [World.cell?, hr1]
    have r1 : W2.cell? ⟨w.heap.size + 2, 1, none⟩ = some (.int .u64 le) := by simp [World.cell?, hr1]
    have r2 : W2.cell? ⟨w.heap.size + 2, 2, none⟩ = some (.int .u64 s) := by simp [World.cell?, hr1]
    have r3 : W2.cell? ⟨w.heap.size + 2, 3, none⟩ = some (.int .u64 va) := by simp [World.cell?, hr1]
    have r4 : W2.cell? ⟨w.heap.size + 2, 4, none⟩ = some (.bool b) := by simp [World.cell?, hr1]
    clear hl1 hk1 hr1
    go_wp2_with fail
    refine (rtt_lost l le s va b _ h0 h1 h2 h3).mono ?_
    rintro e W3 ⟨rfl, hb3⟩
    rw [← hw.out]
    go_upto_region 7 with (fail)
    have hbq := grow hb3 (.cells #[.int .u64 wait] 27)
    refine wp_gen (fun W => Led W L v ps true ak false 0 ls ∧ FVars W w.heap.size L now ∧ W.heap[W3.heap.size]? = some (.cells #[.int .u64 wait] 27 (0, 0)) ∧ Kp w W (fun k => k = L))
      ⟨Hl1.out.below hbq, Hf1.out.below hbq, by show (Array.push _ _)[_]? = _; simp, Hk1.out.trans (Kp.of_below (fun k => k = L) hbq) (fun _ _ h => h)⟩ ?_
    have hT : L < W3.heap.size := by have := HL.out; have := hb3.size; omega
    have HT := Lib.hid hT
    clear c0 c1 c2 c3 c4 c5 f0 f1 f2 f3 f4 f5 g0 g1 g2 r0 r1 r2 r3 r4 Hl1 Hf1 Hr1 Hk1 hb3 hbq hT
    generalize W3.heap.size = T at *
    rintro W4 ⟨hl4, hf4, ht4, hk4⟩
    have Hl4 := Lib.hid hl4
    have Hf4 := Lib.hid hf4
    have Ht4 := Lib.hid ht4
    have Hk4 := Lib.hid hk4
    obtain ⟨g0, g1, g2⟩ := hf4
    clear hl4 ht4 hk4
    have hmf : ∀ (fn : Fn) (first cap : Array Value) (w : World), (Instr.makeFunc fn first cap).run Try.prog w = .ok (.func fn first cap) w := fun _ _ _ _ => rfl
    go_wp2_with fail
    refine (take26 ⟨w.heap.size, 0, none⟩ ⟨w.heap.size + 1, 0, none⟩ ⟨T, 0, none⟩ (isLost ak now wait) L v ps true false ak 0 ls W4 Hl4.out hmany (fun Wc p hp hb => by
      obtain ⟨q0, q1, q2⟩ := Hf4.out.below hb
      have q3 := (Hl4.out.below hb).cells.2.2.1
      have q4 : Wc.heap[T]? = some (.cells #[.int .u64 wait] 27 (0, 0)) := by rw [hb.block T (Array.getElem?_eq_some_iff.1 Ht4.out).1]; exact Ht4.out
      exact lost_one p w.heap.size (w.heap.size + 1) T L ak now wait _ Wc q0 q1 (by simp [World.cell?, q4]) q3 (by omega) (by omega) (Array.getElem?_eq_some_iff.1 q4).1 (Hl4.out.below hb).lt (Hfit.out p hp) hak hak2 hnow hnow2 (by rw [hw.out]; omega) rfl)).mono ?_
    rintro e W5 ⟨tv, kv, rfl, hl5, hr5, hk5, hkv5, hdis5⟩
    rw [← hks.out] at hl5
    rw [← hts.out] at hr5
    have hst : FSt w L T kv tv ks ts ak now wait ls false 0 W5 :=
      ⟨hl5, Hf4.out.kp hk5 HL.out, by rw [hk5.block T (Array.getElem?_eq_some_iff.1 Ht4.out).1 (by have := HT.out; omega)]; exact Ht4.out, Hk4.out.trans hk5 (fun _ _ h => h), hr5.mono (by have := Hk4.out.size; exact this)⟩
    have hkv : ∀ k, kv.ownBlock = some k → w.heap.size ≤ k := fun k hk => by have := hkv5 k hk; have := Hk4.out.size; omega
    have hfk : ∀ p ∈ ks, Fits p := fun p hp => Hfit.out p (by rw [hks.out] at hp; exact (List.mem_filter.1 hp).1)
    have hlk : ks.length ≤ 256 := by rw [hks.out]; exact Nat.le_trans (List.length_filter_le _ _) hmany
    have Hst := Lib.hid hst
    have Hkv := Lib.hid hkv
    have Hdis := Lib.hid hdis5
    have Hfk := Lib.hid hfk
    clear hst hkv hdis5 hfk hl5 hr5 hk5 hkv5 g0 g1 g2 Hl4 Hf4 Ht4 Hk4
    obtain ⟨ka, kc, hkvs, -⟩ := Hst.out.1.2.shape
    subst hkvs
    obtain ⟨c0, c1, c2, c3, c4, c5, f0, f1, f2, f3, f4, f5⟩ := Hst.out.1.cells
    obtain ⟨g0, g1, g2⟩ := Hst.out.2.1
    go_wp2_with fail
    go_loopw [11, 35] (fun x11 i wr => FindRel w L T (.slice ka ks.length kc) tv ks ts ak now wait ls x11 i wr) (fun x11 i wr => (ks.length - intOf i).toNat)
    case atStart => exact ⟨0, false, 0, rfl, by omega, Hst.out, rfl⟩
    case round =>
      clear c0 c1 c2 c3 c4 c5 f0 f1 f2 f3 f4 f5 g0 g1 g2 Hst
      obtain ⟨k, wt1, la1, rfl, hk, hst, hnx⟩ := hrel
      have Hst := Lib.hid hst
      have Hnx := Lib.hid hnx
      clear hst hnx
      obtain ⟨c0, c1, c2, c3, c4, c5, f0, f1, f2, f3, f4, f5⟩ := Hst.out.1.cells
      obtain ⟨g0, g1, g2⟩ := Hst.out.2.1
      by_cases hlt : k < ks.length
      · obtain ⟨a', cap', he, hcs⟩ := Hst.out.1.2.shape
        injection he with e1 e2 e3
        subst e1 e3
        obtain ⟨g, rfl, hg, hgl, hgo, d0, d1, d2, d3, d4⟩ := hcs k ks[k] (List.getElem?_eq_getElem hlt)
        have hpf := Hfk.out ks[k] (List.getElem_mem hlt)
        have hdr : ks.drop k = ks[k] :: ks.drop (k + 1) := List.drop_eq_getElem_cons hlt
        generalize hp : ks[k] = p at *
        have hnx := Hnx.out
        rw [hdr] at hnx
        simp only [nextL] at hnx
        have Hnx := Lib.hid hnx
        obtain ⟨p0, p1, p2, p3⟩ := hpf
        have hw0 : 0 ≤ wait := by rw [hw.out]; omega
        have hw1 : wait ≤ 2251799813685248 := by rw [hw.out]; omega
        clear hp hdr hnx hcs
        go_upto_region 11 with (fail)
        refine wp_gen (fun W => FSt w L T (.slice (some ⟨g, 0, none⟩) ks.length kc) tv ks ts ak now wait ls wt1 la1 W ∧ Pb W wr.heap.size p) ⟨Hst.out.below (grow (Below.refl _ _) _), Pb.new _ _⟩ ?_
        clear c0 c1 c2 c3 c4 c5 f0 f1 f2 f3 f4 f5 d0 d1 d2 d3 d4 g0 g1 g2 Hst hgl hgo hg
        rintro W6 ⟨hst, hpb⟩
        have hwt : W6.cell? ⟨T, 0, none⟩ = some (.int .u64 wait) := by have h := hst.2.2.1; simp [World.cell?, h]
        obtain ⟨c0, c1, c2, c3, c4, c5, f0, f1, f2, f3, f4, f5⟩ := hst.1.cells
        obtain ⟨d0, d1, d2, d3, d4⟩ := hpb.cells
        obtain ⟨g0, g1, g2⟩ := hst.2.1
        have Hst := Lib.hid hst
        clear hst hpb
        by_cases hab : ak < p.n
        · go_quiet (fail)
          go_wp2_with fail
          go_ret
          refine ⟨tv, _, wt1, la1, rfl, (Hst.out.below (below_drewN (Below.refl _ _) _)).1, (Hst.out.below (below_drewN (Below.refl _ _) _)).2.2.2.2, (Hst.out.below (below_drewN (Below.refl _ _) _)).2.2.2.1, Hkv.out, Hdis.out, ?_⟩
          rw [← Hnx.out, if_pos hab]
        · have hab2 : p.n ≤ ak := by omega
          have i1 : IntKind.u64.wrap (p.a + wait) = p.a + wait := IntWalk.u64_in _ (by omega)
          cases wt1
          · go_quiet (fail)
            go_wp2_with fail
            go_region
            all_goals
              refine ex_gen (fun W => FSt w L T (.slice (some ⟨g, 0, none⟩) ks.length kc) tv ks ts ak now wait ls true (p.a + wait) W) (by exact Hst.out.store HL.out HT.out _ _ _) ?_
              clear c0 c1 c2 c3 c4 c5 f0 f1 f2 f3 f4 f5 d0 d1 d2 d3 d4 g0 g1 g2 Hst hwt
              rintro W7 hst
              have Hst := Lib.hid hst
              clear hst
              go_wp2_with fail
              go_roundw
              case rel => exact ⟨k + 1, true, (p.a + wait), by go_num, by omega, Hst.out, by rw [← Hnx.out, if_neg (Int.not_lt.2 hab2)]; simp⟩
              case measure => simp [intOf]; omega
          · by_cases hat : p.a + wait < la1
            · have Hat := Lib.hid hat
              go_quiet (fail)
              go_wp2_with fail
              go_region
              all_goals
                refine ex_gen (fun W => FSt w L T (.slice (some ⟨g, 0, none⟩) ks.length kc) tv ks ts ak now wait ls true (p.a + wait) W) (by exact Hst.out.store HL.out HT.out _ _ _) ?_
                clear c0 c1 c2 c3 c4 c5 f0 f1 f2 f3 f4 f5 d0 d1 d2 d3 d4 g0 g1 g2 Hst hwt
                rintro W7 hst
                have Hst := Lib.hid hst
                clear hst
                go_wp2_with fail
                go_roundw
                case rel => exact ⟨k + 1, true, (p.a + wait), by go_num, by omega, Hst.out, by rw [← Hnx.out, if_neg (Int.not_lt.2 hab2), if_pos (.inr Hat.out)]⟩
                case measure => simp [intOf]; omega
            · go_quiet (fail)
              go_wp2_with fail
              go_roundw
              case rel => exact ⟨k + 1, true, la1, by go_num, by omega, Hst.out.below (below_drewN (Below.refl _ _) _), by rw [← Hnx.out, if_neg hab, if_neg (fun h => h.elim (fun h => nomatch h) hat)]⟩
              case measure => simp [intOf]; omega
      · obtain rfl : k = ks.length := by omega
        go_wp2_with fail
        go_ret
        refine ⟨tv, _, wt1, la1, rfl, Hst.out.1, Hst.out.2.2.2.2, Hst.out.2.2.2.1, Hkv.out, Hdis.out, ?_⟩
        rw [← Hnx.out, List.drop_length]; rfl

end Go.Proofs.Ytpjahdiddgdahaa
