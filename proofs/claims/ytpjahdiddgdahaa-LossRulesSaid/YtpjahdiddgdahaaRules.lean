/- LossRules, walked: nothing is lost that is above what came, nor less than three below, unless it is that old; what is lost isn't lost again. -/
import Derived.Test.YtpjahdiddgdahaaAwake
import Derived.Test.YtpjahdiddgdahaaNext
import Derived.Test.YtpjahdiddgdahaaSeen
import Derived.Deep.DrawnRows
import Derived.Deep.RegionHeld3
import Derived.Deep.RegionWith
namespace Go.Proofs.Ytpjahdiddgdahaa
open Go.RowKit
set_option linter.unusedVariables false
set_option linter.unusedSimpArgs false
attribute [local go_sem ↓] Go.wp_at_zero Go.wp_at_succ

/-- The number behind j steps; the packets; which are sent. -/
def ruN (zs : Nat → Int) : Nat → Int
  | 0 => 0
  | j + 1 => ruN zs j + (1 + zs j % 3)
def ruP (zs : Nat → Int) (j : Nat) : Pk := ⟨ruN zs (j + 1), (j : Int) * 1000, 10, true, true⟩
def ruL (zs : Nat → Int) (j : Nat) : List Pk := (List.range j).map (ruP zs)
theorem ruL_succ (zs : Nat → Int) (j : Nat) : ruL zs (j + 1) = ruL zs j ++ [ruP zs j] := by simp [ruL, List.range_succ]
theorem ruL_len (zs : Nat → Int) (j : Nat) : (ruL zs j).length = j := by simp [ruL]
theorem ruL_mem {zs : Nat → Int} {j : Nat} {q : Pk} (h : q ∈ ruL zs j) : ∃ i, i < j ∧ q = ruP zs i := by
  simp [ruL] at h
  obtain ⟨i, hi, rfl⟩ := h
  exact ⟨i, hi, rfl⟩
theorem ruN_lt (zs : Nat → Int) (i d : Nat) : ruN zs i + d ≤ ruN zs (i + d) := by
  induction d with
  | zero => simp
  | succ d ih =>
    have h : ruN zs (i + (d + 1)) = ruN zs (i + d) + (1 + zs (i + d) % 3) := rfl
    omega
theorem ruN_in (zs : Nat → Int) (j : Nat) : 0 ≤ ruN zs j ∧ ruN zs j ≤ 3 * j := by
  induction j with
  | zero => simp [ruN]
  | succ j ih => simp only [ruN]; omega
theorem ruN_mono (zs : Nat → Int) {i j : Nat} (h : i < j) : ruN zs (i + 1) ≤ ruN zs j := by
  have h1 := ruN_lt zs (i + 1) (j - (i + 1))
  rw [show i + 1 + (j - (i + 1)) = j from by omega] at h1
  omega
theorem ruN_rise (zs : Nat → Int) {i j : Nat} (h : i < j) : ruN zs (i + 1) < ruN zs (j + 1) := by
  have h1 := ruN_mono zs h
  have h2 := ruN_lt zs j 1
  omega
theorem ruL_rise (zs : Nat → Int) (j : Nat) : Rise (ruL zs j) := by
  unfold Rise ruL
  rw [List.pairwise_map]
  exact List.pairwise_lt_range.imp (fun h => by simp only [ruP]; exact ruN_rise zs h)

/-- The round trip that nothing was measured for, in a block of its own. -/
def RB0 (w : World) (R : Nat) : Prop := w.heap[R]? = some (.cells #[.int .u64 0, .int .u64 0, .int .u64 333000, .int .u64 166500, .bool false] 33 (0, 0))
theorem RB0.below {w w' : World} {R : Nat} (h : RB0 w R) (hb : Below w.heap.size w w') : RB0 w' R := by
  unfold RB0 at *
  rw [hb.block R (Array.getElem?_eq_some_iff.1 h).1]; exact h
theorem RB0.kp {w w' : World} {L R : Nat} (h : RB0 w R) (hk : Kp w w' (fun k => k = L)) (hR : R ≠ L) : RB0 w' R := by
  unfold RB0 at *
  rw [hk.block R (Array.getElem?_eq_some_iff.1 h).1 hR]; exact h
theorem RB0.cells {w : World} {R : Nat} (h : RB0 w R) :
    w.cell? ⟨R, 0, none⟩ = some (.int .u64 0) ∧ w.cell? ⟨R, 1, none⟩ = some (.int .u64 0) ∧ w.cell? ⟨R, 2, none⟩ = some (.int .u64 333000) ∧ w.cell? ⟨R, 3, none⟩ = some (.int .u64 166500) ∧ w.cell? ⟨R, 4, none⟩ = some (.bool false) := by
  unfold RB0 at h
  simp [World.cell?, h]

/-- Find, whether anything came or not. -/
def FindAny (w : World) (L : Nat) (v : Value) (ps : List Pk) (so : Bool) (ak now wait ls : Int) (e : Ending) (w' : World) : Prop :=
  ∃ tv kv wt la ks ts, e = .returned tv ∧ Led w' L kv ks so ak wt la ls ∧ Rw w' (L + 1) tv ts ∧ Kp w w' (fun k => k = L) ∧ (kv = v ∨ ∀ g, kv.ownBlock = some g → w.heap.size ≤ g) ∧ (∀ g, tv.ownBlock = some g → w.heap.size ≤ g) ∧
    (so = true → ks = ps.filter (fun p => !isLost ak now wait p) ∧ ts = ps.filter (isLost ak now wait)) ∧ (so = false → ks = ps ∧ ts = [])
theorem find_any (L : Nat) (v : Value) (ps : List Pk) (so wt : Bool) (ak la ls now l le s va : Int) (b : Bool) (w : World) (hl : Led w L v ps so ak wt la ls) (hmany : ps.length ≤ 256) (hfit : ∀ p ∈ ps, Fits p) (hak : 0 ≤ ak) (hak2 : ak ≤ 18446744073709551615) (hnow : 0 ≤ now) (hnow2 : now ≤ 18446744073709551615)
    (h0 : 0 ≤ l) (h1 : l ≤ 1125899906842624) (h2 : 0 ≤ s) (h3 : s ≤ 1125899906842624) (wait : Int) (hw : Hid (wait = max (9 * max s l / 8) 1000)) :
    Calls Try.prog 11 #[.pointer (some ⟨L, 0, none⟩), .int .u64 now, rv l le s va b] w (FindAny w L v ps so ak now wait ls) := by
  cases so
  · refine (find_none L v ps wt ak la ls now l le s va b w hl).mono ?_
    rintro e w' ⟨rfl, hl', hk⟩
    exact ⟨_, v, false, 0, ps, [], rfl, hl', Rw.nil _ _, hk, .inl rfl, by simp [Value.ownBlock], (fun h => nomatch h), fun _ => ⟨rfl, rfl⟩⟩
  · refine (find_some L v ps wt ak la ls now l le s va b w hl hmany hfit hak hak2 hnow hnow2 h0 h1 h2 h3 wait hw _ _ (Lib.hid rfl) (Lib.hid rfl)).mono ?_
    rintro e w' ⟨tv, kv, wt', la', rfl, hl', hr', hk, hkv, -, -⟩
    exact ⟨tv, kv, wt', la', _, _, rfl, hl', hr'.mono hl.lt, hk, .inr hkv, fun g hg => (hr'.lt g hg).1, fun _ => ⟨rfl, rfl⟩, (fun h => nomatch h)⟩

/-- What is known while what is lost is gone through. -/
def InSt (w : World) (L R : Nat) (tv kv : Value) (ks ts : List Pk) (so : Bool) (ak : Int) (wt : Bool) (la ls : Int) (T : Int → Prop) (W : World) : Prop :=
  Led W L kv ks so ak wt la ls ∧ RB0 W R ∧ Below w.heap.size w W ∧ Rw W (L + 1) tv ts ∧ Seen W (R + 1) T
theorem InSt.below {w W W' : World} {L R : Nat} {tv kv : Value} {ks ts : List Pk} {so wt : Bool} {ak la ls : Int} {T : Int → Prop} (h : InSt w L R tv kv ks ts so ak wt la ls T W) (hb : Below W.heap.size W W') : InSt w L R tv kv ks ts so ak wt la ls T W' :=
  ⟨h.1.below hb, h.2.1.below hb, h.2.2.1.trans (hb.mono h.2.2.1.size), h.2.2.2.1.below hb, h.2.2.2.2.below hb⟩
theorem InSt.put {w W W' : World} {L R : Nat} {tv kv : Value} {ks ts : List Pk} {so wt : Bool} {ak la ls : Int} {T U : Int → Prop} (h : InSt w L R tv kv ks ts so ak wt la ls T W) (hk : Kp W W' (fun k => k = R + 1)) (hs : Seen W' (R + 1) U) (hL : L < R) (hw : w.heap.size ≤ L) (hkv : kv.ownBlock ≠ some (R + 1)) (htv : tv.ownBlock ≠ some (R + 1)) :
    InSt w L R tv kv ks ts so ak wt la ls U W' :=
  ⟨h.1.keep fun k hkl hb => hk.block k hkl (by rintro rfl; rcases hb with h2 | h2; omega; exact hkv h2), h.2.1.kp hk (by omega), below_kp h.2.2.1 hk (fun k hk => by omega), h.2.2.2.1.keep fun g hg => hk.block g (h.2.2.2.1.lt g hg).2 (by rintro rfl; exact htv hg), hs⟩

/-- What is known between the rounds. -/
def RuSt (w : World) (L R : Nat) (N : Int) (v : Value) (ps : List Pk) (so : Bool) (ak : Int) (wt : Bool) (la ls : Int) (wr : World) : Prop :=
  Led wr L v ps so ak wt la ls ∧ RB0 wr R ∧ Below w.heap.size w wr ∧ Rise ps ∧ (∀ p ∈ ps, Fits p ∧ p.n ≤ N) ∧ ps.length ≤ 100 ∧ 0 ≤ ak ∧ ak ≤ N ∧ Seen wr (R + 1) (fun n => ∀ p ∈ ps, p.n ≠ n) ∧ v.ownBlock ≠ some (R + 1)
def RuOut (w : World) (L R m : Nat) (N : Int) (i : Value) (wr : World) : Prop :=
  ∃ (q : Nat) (v : Value) (ps : List Pk) (so : Bool) (ak : Int) (wt : Bool) (la ls : Int), i = .int .i64 q ∧ q ≤ m ∧ RuSt w L R N v ps so ak wt la ls wr
def InRel (w : World) (L R : Nat) (tv kv : Value) (ks ts : List Pk) (so : Bool) (ak : Int) (wt : Bool) (la ls : Int) (i : Value) (wr : World) : Prop :=
  ∃ j : Nat, i = .int .i64 j ∧ j ≤ ts.length ∧ InSt w L R tv kv ks ts so ak wt la ls (fun n => (∀ p ∈ ks, p.n ≠ n) ∧ ∀ p ∈ ts.drop j, p.n ≠ n) wr

theorem rise_inj {ps : List Pk} (h : Rise ps) : ∀ {p q : Pk}, p ∈ ps → q ∈ ps → p.n = q.n → p = q := by
  induction ps with
  | nil => intro p q hp; simp at hp
  | cons a r ih =>
    obtain ⟨h1, h2⟩ := List.pairwise_cons.1 h
    intro p q hp hq e
    rcases List.mem_cons.1 hp with e1 | hp'
    · rcases List.mem_cons.1 hq with e2 | hq'
      · rw [e1, e2]
      · have := h1 q hq'; rw [e1] at e; omega
    · rcases List.mem_cons.1 hq with e2 | hq'
      · have := h1 p hp'; rw [e2] at e; omega
      · exact ih h2 hp' hq' e
theorem rise_drop {ts : List Pk} (h : Rise ts) {j : Nat} {p : Pk} (hd : ts.drop j = p :: ts.drop (j + 1)) : ∀ q ∈ ts.drop (j + 1), q.n ≠ p.n := by
  have h2 : Rise (ts.drop j) := h.sublist (List.drop_sublist _ _)
  rw [hd] at h2
  intro q hq
  have := (List.pairwise_cons.1 h2).1 q hq
  omega
/-- What Find kept and took, whether anything came or not. -/
theorem lost_parts {so : Bool} {ak now wait : Int} {ps ks ts : List Pk} (hr : Rise ps) (h1 : so = true → ks = ps.filter (fun p => !isLost ak now wait p) ∧ ts = ps.filter (isLost ak now wait)) (h2 : so = false → ks = ps ∧ ts = []) :
    Rise ks ∧ Rise ts ∧ (∀ p ∈ ks, p ∈ ps) ∧ (∀ p ∈ ts, p ∈ ps ∧ so = true ∧ isLost ak now wait p = true) ∧ (∀ p ∈ ts, ∀ q ∈ ks, q.n ≠ p.n) ∧ ks.length ≤ ps.length ∧ ts.length ≤ ps.length := by
  cases so
  · obtain ⟨rfl, rfl⟩ := h2 rfl
    exact ⟨hr, List.Pairwise.nil, fun p h => h, by simp, by simp, Nat.le_refl _, by simp⟩
  · obtain ⟨rfl, rfl⟩ := h1 rfl
    refine ⟨hr.filter _, hr.filter _, fun p h => (List.mem_filter.1 h).1, fun p h => ⟨(List.mem_filter.1 h).1, rfl, (List.mem_filter.1 h).2⟩, fun p hp q hq e => ?_, List.length_filter_le _ _, List.length_filter_le _ _⟩
    have h3 := List.mem_filter.1 hp
    have h4 := List.mem_filter.1 hq
    have := rise_inj hr h4.1 h3.1 e
    subst this
    simp [h3.2] at h4

theorem lost0 (w : World) : Calls Try.prog 13 #[rv 0 0 333000 166500 false] w fun e w' => e = .returned (.int .u64 374625) ∧ Below w.heap.size w w' := by
  have h := rtt_lost 0 0 333000 166500 false w (by omega) (by omega) (by omega) (by omega)
  rw [show max (9 * max (333000 : Int) 0 / 8) 1000 = 374625 from by omega] at h
  exact h
theorem keep7 {w w' : World} {B R : Nat} {y x0 x1 x2 x3 x4 : Value} (hb : Below w.heap.size w w')
    (h : w.cell? ⟨R, 0, none⟩ = some x0 ∧ w.cell? ⟨R, 1, none⟩ = some x1 ∧ w.cell? ⟨R, 2, none⟩ = some x2 ∧ w.cell? ⟨R, 3, none⟩ = some x3 ∧ w.cell? ⟨R, 4, none⟩ = some x4 ∧ w.cell? ⟨B, 1, none⟩ = some y ∧ R < w.heap.size ∧ B < w.heap.size) :
    w'.cell? ⟨R, 0, none⟩ = some x0 ∧ w'.cell? ⟨R, 1, none⟩ = some x1 ∧ w'.cell? ⟨R, 2, none⟩ = some x2 ∧ w'.cell? ⟨R, 3, none⟩ = some x3 ∧ w'.cell? ⟨R, 4, none⟩ = some x4 ∧ w'.cell? ⟨B, 1, none⟩ = some y ∧ R < w'.heap.size ∧ B < w'.heap.size := by
  obtain ⟨h0, h1, h2, h3, h4, h5, hR, hB⟩ := h
  exact ⟨(hb.cell (p := ⟨R, 0, none⟩) hR).trans h0, (hb.cell (p := ⟨R, 1, none⟩) hR).trans h1, (hb.cell (p := ⟨R, 2, none⟩) hR).trans h2, (hb.cell (p := ⟨R, 3, none⟩) hR).trans h3, (hb.cell (p := ⟨R, 4, none⟩) hR).trans h4, (hb.cell (p := ⟨B, 1, none⟩) hB).trans h5, Nat.lt_of_lt_of_le hR hb.size, Nat.lt_of_lt_of_le hB hb.size⟩
theorem acked_same (L : Nat) (v : Value) (ps : List Pk) (wt : Bool) (ak la ls : Int) (w : World) (hl : Led w L v ps true ak wt la ls) (h0 : 0 ≤ ak) (h1 : ak ≤ 9223372036854775807) :
    Calls Try.prog 12 #[.pointer (some ⟨L, 0, none⟩)] w fun e w' => e = .returned (.int .i64 ak) ∧ w' = w := by
  obtain ⟨c0, c1, c2, c3, c4, c5, f0, f1, f2, f3, f4, f5⟩ := hl.cells
  have i1 : IntKind.i64.wrap ak = ak := IntWalk.i64_in _ (by omega)
  go_enter Try.func12, Try.ntmps12
  go_wp2_with fail
  go_ret
  exact ⟨rfl, rfl⟩

/-- At the head of the rounds that send: j are sent. -/
def RuRel (w : World) (L len : Nat) (zs : Nat → Int) (x8 i : Value) (wr : World) : Prop :=
  ∃ (j : Nat) (v : Value) (ls : Int), i = .int .i64 j ∧ j ≤ len ∧ x8 = .int .u64 (ruN zs j) ∧ Led wr L v (ruL zs j) false 0 false 0 ls ∧ Below w.heap.size w wr

set_option maxRecDepth 100000 in
set_option maxHeartbeats 2000000 in
theorem rules_any (a0 a1 : Option Addr) (len cap m cap1 : Nat) (zs ys : Nat → Int) (now : Int) (w : World) (hlen : len ≤ 9223372036854775807) (hm : m ≤ 9223372036854775807)
    (hcell : ∀ i, i < len → ∃ b off, a0 = some ⟨b, off, none⟩ ∧ b < w.heap.size ∧ w.cell? ⟨b, off + i, none⟩ = some (.int .u8 (zs i))) (hz : ∀ i, i < len → 0 ≤ zs i ∧ zs i ≤ 255)
    (hcell1 : ∀ i, i < m → ∃ b off, a1 = some ⟨b, off, none⟩ ∧ b < w.heap.size ∧ w.cell? ⟨b, off + i, none⟩ = some (.int .u8 (ys i))) (hy : ∀ i, i < m → 0 ≤ ys i ∧ ys i ≤ 255)
    (hn0 : 0 ≤ now) (hn1 : now ≤ 4294967295) :
    Calls Try.prog 3 #[.slice a0 len cap, .slice a1 m cap1, .int .u32 now] w fun e w' => e = .returned (.bool true) ∧ Below w.heap.size w w' := by
  have Hc := Lib.hid hcell
  have Hz := Lib.hid hz
  have Hd := Lib.hid hcell1
  have Hy := Lib.hid hy
  clear hcell hz hcell1 hy
  go_enter Try.func3, Try.ntmps3
  go_wp2_with fail
  refine (awake _).mono ?_
  rintro e w1 ⟨rfl, hb1⟩
  by_cases hbig : 100 < len
  · go_wp2_with fail
    go_ret
    exact ⟨rfl, hb1⟩
  · by_cases hbig2 : 30 < m
    · go_wp2_with fail
      go_ret
      exact ⟨rfl, hb1⟩
    · have h100 : len ≤ 100 := by omega
      have h30 : m ≤ 30 := by omega
      have t1 : decide ((100 : Int) < (len : Int)) = false := decide_eq_false (by omega)
      have t2 : decide ((30 : Int) < (m : Int)) = false := decide_eq_false (by omega)
      go_wp2_with fail
      refine (new_any w1).mono ?_
      rintro e w2 ⟨rfl, rfl⟩
      have hl2 := new_led w1
      have hb2 := hb1.trans ((grow (Below.refl w1.heap.size w1) (.cells #[.slice none 0 0, .bool false, .int .u64 0, .bool false, .int .u64 0, .int .u64 0] 59)).mono hb1.size)
      have HLw := Lib.hid hb1.size
      clear hb1
      generalize hLe : w1.heap.size = L at *
      clear hLe
      go_wp2_with fail
      go_loopw [8, 9, 10, 33] (fun x8 x9 x10 i wr => RuRel w L len zs x8 i wr) (fun x8 x9 x10 i wr => (len - intOf i).toNat)
      case atStart => exact ⟨0, _, 0, rfl, by omega, rfl, hl2, hb2⟩
      case round =>
        clear hl2 hb2
        obtain ⟨j, v, ls, rfl, hj, rfl, hl, hb⟩ := hrel
        have Hl := Lib.hid hl
        have Hb := Lib.hid hb
        clear hl hb
        by_cases hlt : j < len
        · obtain ⟨b0, o0, rfl, hb0, hcj⟩ := Hc.out j hlt
          have hcj : wr.cell? ⟨b0, o0 + j, none⟩ = some (.int .u8 (zs j)) := by rw [Hb.out.cell (by exact hb0)]; exact hcj
          have hz1 := (Hz.out j hlt).1
          have hz2 := (Hz.out j hlt).2
          have hT1 := (ruN_in zs j).1
          have hT2 := (ruN_in zs j).2
          go_upto_region 11 with (fail)
          go_wp2_with fail
          refine (sent_any L v false false 0 0 ls (ruL zs j) (ruP zs j) wr Hl.out (.inl rfl) ?_ (by rw [ruL_len]; omega) ((j : Int) * 1000) (Lib.hid rfl)).mono ?_
          · intro q hq
            obtain ⟨i, hi, rfl⟩ := ruL_mem hq
            exact ruN_rise zs hi
          rintro e w3 ⟨v', rfl, hl3, hk3, -⟩
          rw [← ruL_succ] at hl3
          have Hl3 := Lib.hid hl3
          have Hb3 := Lib.hid (below_kp Hb.out hk3 (Hl.out.blk HLw.out))
          clear hl3 hk3
          go_wp2_with fail
          go_roundw
          case rel => exact ⟨j + 1, v', _, by go_num, by omega, rfl, Hl3.out, Hb3.out⟩
          case measure => simp [intOf]; omega
        · obtain rfl : j = len := by omega
          go_wp2_with fail
          refine (rtt_new _).mono ?_
          rintro e w3 ⟨rfl, hb3⟩
          have Hl3 := Lib.hid (Hl.out.below hb3)
          have Hb3 := Lib.hid (Hb.out.trans (hb3.mono Hb.out.size))
          clear hb3 Hl Hb
          have hmm : ∀ w : World, (Instr.makeMap 35 none).run Try.prog w = .ok (.map (some w.heap.size)) (w.alloc (.map #[] 0)) := fun _ => rfl
          go_upto_region 15 with (fail)
          have hN := ruN_in zs j
          refine wp_gen (fun W => RuSt w L w3.heap.size (ruN zs j) v (ruL zs j) false 0 false 0 ls W)
            ⟨Hl3.out.below (grow (grow (Below.refl _ _) _) _), RB0.below (by show (Array.push _ _)[Array.size _]? = _; exact Array.getElem?_push_size) (grow (Below.refl _ _) _), grow (grow Hb3.out _) _, ruL_rise zs j, fun p hp => by
              obtain ⟨i, hi, rfl⟩ := ruL_mem hp
              have h1 := ruN_in zs (i + 1)
              have h2 := ruN_mono zs hi
              exact ⟨by constructor <;> simp only [ruP] <;> omega, h2⟩, by rw [ruL_len]; exact h100, by omega, hN.1, by
                have h9 := Seen.made (w3.alloc (.cells #[.int .u64 0, .int .u64 0, .int .u64 333000, .int .u64 166500, .bool false] 33)) (fun n => ∀ p ∈ ruL zs j, p.n ≠ n)
                simpa using h9, fun h => by have := (Hl3.out.2.lt _ h).2; omega⟩ ?_
          have HLR := Lib.hid Hl3.out.lt
          have hN0 := hN.1
          have hN1 : ruN zs j ≤ 300 := by omega
          clear Hl3 Hb3 hN Hc Hz
          generalize w3.heap.size = R at *
          generalize ruN zs j = N at *
          generalize ruL zs j = ps0 at *
          rintro w5 hst
          go_wp2_with fail
          go_loopw [14, 15, 18, 19, 56] (fun x14 x15 x18 x19 i wr => RuOut w L R m N i wr) (fun x14 x15 x18 x19 i wr => (m - intOf i).toNat)
          case atStart => exact ⟨0, v, ps0, false, 0, false, 0, ls, rfl, by omega, hst⟩
          case round =>
            clear hst
            obtain ⟨q, v, ps, so, ak, wt, la, ls, rfl, hq, hst⟩ := hrel
            have Hst := Lib.hid hst
            clear hst
            by_cases hqm : q < m
            · obtain ⟨b0, o0, rfl, hb0, hcj⟩ := Hd.out q hqm
              have hcj : wr.cell? ⟨b0, o0 + q, none⟩ = some (.int .u8 (ys q)) := by rw [Hst.out.2.2.1.cell (by exact hb0)]; exact hcj
              have hy1 := (Hy.out q hqm).1
              have hy2 := (Hy.out q hqm).2
              generalize ys q = y at *
              go_upto_region 19 with (fail)
              have hx0 := Int.emod_nonneg y (show N + 1 ≠ 0 by omega)
              have hx1 := Int.emod_lt_of_pos y (show 0 < N + 1 by omega)
              generalize y % (N + 1) = x at *
              go_wp2_with fail
              refine (came_ok L v (.slice (some ⟨wr.heap.size, 0, none⟩) 1 1) ps so wt ak la ls (N + 1) [(x, x + 1)] _ (RgAre.one wr x (x + 1)) (by simp) (by simp [goodR]; omega) (Hst.out.1.below (grow (Below.refl _ _) _)) (by have := Hst.out.2.2.2.2.2.1; omega) (by omega) (by simp) _ (Lib.hid rfl) (by simp; omega) (by omega)).mono ?_
              rintro e w6 ⟨tv, kv, b, so', ak', rfl, hl6, hr6, hk6, hkv, -, hd⟩
              have hak' : 0 ≤ ak' ∧ ak' ≤ N := by
                have h7 := Hst.out.2.2.2.2.2.2.1
                have h8 := Hst.out.2.2.2.2.2.2.2.1
                rcases hd with ⟨-, -, -, h⟩ | ⟨xs, g, h, -, -, h2⟩
                · rw [h]; exact ⟨h7, h8⟩
                · have hg : g ∈ ps.filter (fun p => List.any [(x, x + 1)] (inR p.n)) := by rw [h]; simp
                  have hg2 := Hst.out.2.2.2.2.1 g (List.mem_filter.1 hg).1
                  have hg3 := hg2.1.n0
                  rw [h2]
                  split <;> omega
              have hst6 : RuSt w L R N kv (ps.filter (fun p => !List.any [(x, x + 1)] (inR p.n))) so' ak' wt la ls w6 :=
                ⟨hl6, (Hst.out.2.1.below (grow (Below.refl _ _) _)).kp hk6 (by have := HLR.out; omega), below_kp (Hst.out.2.2.1.trans ((grow (Below.refl wr.heap.size wr) (.cells #[.int .u64 x, .int .u64 (x + 1)] 40)).mono Hst.out.2.2.1.size)) hk6 (fun i hi => by rw [hi]; exact HLw.out), Hst.out.2.2.2.1.filter _, fun p hp => Hst.out.2.2.2.2.1 p (List.mem_filter.1 hp).1, Nat.le_trans (List.length_filter_le _ _) Hst.out.2.2.2.2.2.1, hak'.1, hak'.2,
                  ((Hst.out.2.2.2.2.2.2.2.2.1.below (grow (Below.refl _ _) _)).kp hk6 (by have := HLR.out; omega)).mono (fun n hn p hp => hn p (List.mem_filter.1 hp).1), fun h => by have h9 := hkv _ h; have h10 := Hst.out.2.2.2.2.2.2.2.2.1.lt; simp at h9; omega⟩
              clear hl6 hr6 hk6 hkv hd hak' Hst hcj
              generalize ps.filter (fun p => !List.any [(x, x + 1)] (inR p.n)) = ps1 at *
              have Hst := Lib.hid hst6
              clear hst6
              obtain ⟨r0, r1, r2, r3, r4⟩ := Hst.out.2.1.cells
              go_upto_region 20 with (fail)
              go_wp2_with fail
              have hq7 := Hst.out.2.2.2.2.2.2.1
              have hq8 := Hst.out.2.2.2.2.2.2.2.1
              refine (find_any L kv ps1 so' wt ak' la ls now 0 0 333000 166500 false w6 Hst.out.1 (by have := Hst.out.2.2.2.2.2.1; omega) (fun p hp => (Hst.out.2.2.2.2.1 p hp).1) (by omega) (by omega) (by omega) (by omega) (by omega) (by omega) (by omega) (by omega) 374625 (Lib.hid (by omega))).mono ?_
              rintro e w7 ⟨tv7, kv7, wt7, la7, ks, ts, rfl, hl7, hr7, hk7, hkv7, htv7, hso1, hso2⟩
              obtain ⟨k1, k2, k3, k4, k5, k6, k7⟩ := lost_parts Hst.out.2.2.2.1 hso1 hso2
              have hin : InSt w L R tv7 kv7 ks ts so' ak' wt7 la7 ls (fun n => (∀ p ∈ ks, p.n ≠ n) ∧ ∀ p ∈ ts.drop 0, p.n ≠ n) w7 :=
                ⟨hl7, Hst.out.2.1.kp hk7 (by have := HLR.out; omega), below_kp Hst.out.2.2.1 hk7 (fun i hi => by rw [hi]; exact HLw.out), hr7, (Hst.out.2.2.2.2.2.2.2.2.1.kp hk7 (by have := HLR.out; omega)).mono (fun n hn => ⟨fun p hp => hn p (k3 p hp), fun p hp => hn p (k4 p hp).1⟩)⟩
              have hR1 := Hst.out.2.2.2.2.2.2.2.2.1.lt
              have hkvR : kv7.ownBlock ≠ some (R + 1) := by
                rcases hkv7 with h | h
                · rw [h]; exact Hst.out.2.2.2.2.2.2.2.2.2
                · intro h2; have := h _ h2; omega
              have htvR : tv7.ownBlock ≠ some (R + 1) := fun h2 => by have := htv7 _ h2; omega
              have hfk : ∀ p ∈ ks, Fits p ∧ p.n ≤ N := fun p hp => Hst.out.2.2.2.2.1 p (k3 p hp)
              have hft : ∀ p ∈ ts, Fits p ∧ p.n ≤ N := fun p hp => Hst.out.2.2.2.2.1 p (k4 p hp).1
              have hlk : ks.length ≤ 100 := Nat.le_trans k6 Hst.out.2.2.2.2.2.1
              have hlt2 : ts.length ≤ 100 := Nat.le_trans k7 Hst.out.2.2.2.2.2.1
              have htl : ∀ p ∈ ts, so' = true ∧ p.n ≤ ak' ∧ (3 ≤ ak' - p.n ∨ p.a + 374625 ≤ now) := fun p hp => ⟨(k4 p hp).2.1, isLost_true (k4 p hp).2.2⟩
              have Hin := Lib.hid hin
              have Hks := Lib.hid k1
              have Hts := Lib.hid k2
              have Hdis := Lib.hid k5
              have HkvR := Lib.hid hkvR
              have HtvR := Lib.hid htvR
              have Hfk := Lib.hid hfk
              have Hft := Lib.hid hft
              have Htl := Lib.hid htl
              clear hin k1 k2 k3 k4 k5 k6 k7 hkvR htvR hfk hft htl hl7 hr7 hk7 hkv7 htv7 hso1 hso2 hR1 r0 r1 r2 r3 r4 Hst
              obtain ⟨ta, tc, htv, -⟩ := Hin.out.2.2.2.1.shape
              subst htv
              go_upto_region 21 with (fail)
              obtain ⟨wo, hwo⟩ : ∃ wo : World, wo = w7 := ⟨_, rfl⟩
              go_loopw [18, 19, 80] (fun x18 x19 i wr => InRel w L R (.slice ta ts.length tc) kv7 ks ts so' ak' wt7 la7 ls i wr) (fun x18 x19 i wr => (ts.length - intOf i).toNat)
              case atStart => exact ⟨0, rfl, by omega, Hin.out⟩
              case round =>
                clear Hin
                obtain ⟨z, rfl, hz, hin⟩ := hrel
                have Hin := Lib.hid hin
                clear hin
                by_cases hzt : z < ts.length
                · obtain ⟨a', cap', he, hcs⟩ := Hin.out.2.2.2.1.shape
                  injection he with e1 e2 e3
                  subst e1 e3
                  obtain ⟨g, rfl, hg, hgl, hgo, d0, d1, d2, d3, d4⟩ := hcs z ts[z] (List.getElem?_eq_getElem hzt)
                  have hdr : ts.drop z = ts[z] :: ts.drop (z + 1) := List.drop_eq_getElem_cons hzt
                  have hm1 := Hft.out ts[z] (List.getElem_mem hzt)
                  have hm2 := Htl.out ts[z] (List.getElem_mem hzt)
                  have hm3 := Hdis.out ts[z] (List.getElem_mem hzt)
                  generalize ts[z] = p at *
                  have hm4 := rise_drop Hts.out hdr
                  obtain ⟨⟨p0, p1, p2, p3⟩, p4⟩ := hm1
                  obtain ⟨hso, p5, p6⟩ := hm2
                  subst hso
                  have Hm3 := Lib.hid hm3
                  have Hm4 := Lib.hid hm4
                  have Hdr := Lib.hid hdr
                  have P6 := Lib.hid p6
                  clear hm3 hm4 hdr p6 hcs
                  go_upto_region 23 with (fail)
                  refine wp_gen (fun W => InSt w L R (.slice (some ⟨g, 0, none⟩) ts.length tc) kv7 ks ts true ak' wt7 la7 ls (fun n => (∀ p ∈ ks, p.n ≠ n) ∧ ∀ p ∈ ts.drop z, p.n ≠ n) W ∧ Pb W wr.heap.size p) ⟨Hin.out.below (grow (Below.refl _ _) _), Pb.new _ _⟩ ?_
                  clear Hin d0 d1 d2 d3 d4 hg hgl hgo
                  generalize wr.heap.size = B at *
                  rintro W1 ⟨hin, hpb⟩
                  have Hin := Lib.hid hin
                  have Hpb := Lib.hid hpb
                  obtain ⟨d0, d1, d2, d3, d4⟩ := hpb.cells
                  have Hak9 := Lib.hid (show ak' ≤ 9223372036854775807 by omega)
                  clear hin hpb
                  go_quiet ((go_at_call 12; exact Calls.quiet_of_same (acked_same L kv7 ks wt7 ak' la7 ls _ (Hin.out.1.below (below_drewN (Below.refl _ _) _)) hq7 Hak9.out)))
                  refine ex_gen (fun W => InSt w L R (.slice (some ⟨g, 0, none⟩) ts.length tc) kv7 ks ts true ak' wt7 la7 ls (fun n => (∀ p ∈ ks, p.n ≠ n) ∧ ∀ p ∈ ts.drop z, p.n ≠ n) W ∧ Pb W B p) ⟨Hin.out.below (below_drewN (Below.refl _ _) _), Hpb.out.below (below_drewN (Below.refl _ _) _)⟩ ?_
                  clear Hin Hpb d0 d1 d2 d3 d4
                  rintro W2 ⟨hin, hpb⟩
                  have Hin := Lib.hid hin
                  have Hpb := Lib.hid hpb
                  obtain ⟨d0, d1, d2, d3, d4⟩ := hpb.cells
                  obtain ⟨r0, r1, r2, r3, r4⟩ := hin.2.1.cells
                  have hRs : R < W2.heap.size := (Array.getElem?_eq_some_iff.1 hin.2.1).1
                  have hBs : B < W2.heap.size := (Array.getElem?_eq_some_iff.1 hpb).1
                  clear hin hpb
                  go_wp2_with fail
                  go_region_held3 (fun w' => w'.cell? ⟨R, 0, none⟩ = some (.int .u64 0) ∧ w'.cell? ⟨R, 1, none⟩ = some (.int .u64 0) ∧ w'.cell? ⟨R, 2, none⟩ = some (.int .u64 333000) ∧ w'.cell? ⟨R, 3, none⟩ = some (.int .u64 166500) ∧ w'.cell? ⟨R, 4, none⟩ = some (.bool false) ∧ w'.cell? ⟨B, 1, none⟩ = some (.int .u64 p.a) ∧ R < w'.heap.size ∧ B < w'.heap.size)
                    (first | go_keep | (refine keep7 hbp ?_; assumption))
                    (first | (go_at_call 13; refine (lost0 _).mono ?_; rintro e w4 ⟨rfl, hbp⟩))
                  rw [show IntKind.u64.wrap (p.a + 374625) = p.a + 374625 from IntWalk.u64_in _ (by omega), show IntKind.u64.wrap now = now from IntWalk.u64_in _ (by omega)]
                  refine ex_gen (fun W => InSt w L R (.slice (some ⟨g, 0, none⟩) ts.length tc) kv7 ks ts true ak' wt7 la7 ls (fun n => (∀ p ∈ ks, p.n ≠ n) ∧ ∀ p ∈ ts.drop z, p.n ≠ n) W ∧ Pb W B p) ⟨Hin.out.below ((Below.refl _ W2).drew.trans hbp), Hpb.out.below ((Below.refl _ W2).drew.trans hbp)⟩ ?_
                  clear Hin Hpb d0 d1 d2 d3 d4 r0 r1 r2 r3 r4 hRs hBs hbp
                  rintro W3 ⟨hin, hpb⟩
                  have Hin := Lib.hid hin
                  have Hpb := Lib.hid hpb
                  obtain ⟨d0, d1, d2, d3, d4⟩ := hpb.cells
                  have HT := Lib.hid (show ¬ ((∀ q ∈ ks, q.n ≠ p.n) ∧ ∀ q ∈ ts.drop z, q.n ≠ p.n) from fun h => h.2 p (by rw [Hdr.out]; simp) rfl)
                  have hlk : ∀ n, (Instr.lookup 35 (.map (some (R + 1))) (.int .u64 p.n) false).run Try.prog (W3.drewN n) = .ok (.bool false) (W3.drewN n) := fun n => (Hin.out.below (below_drewN (Below.refl _ _) n)).2.2.2.2.look ⟨p0, p1⟩ HT.out
                  clear hin hpb
                  have t4 : decide (ak' < p.n) = false := decide_eq_false (by omega)
                  by_cases hf : 3 ≤ ak' - p.n
                  · have t3 : decide (3 ≤ ak' - p.n) = true := decide_eq_true hf
                    go_wp2_with fail
                    go_quiet ((go_at_call 12; exact Calls.quiet_of_same (acked_same L kv7 ks wt7 ak' la7 ls _ (Hin.out.1.below (below_drewN (Below.refl _ _) _)) hq7 Hak9.out)))
                    refine ex_gen (fun W => InSt w L R (.slice (some ⟨g, 0, none⟩) ts.length tc) kv7 ks ts true ak' wt7 la7 ls (fun n => (∀ p ∈ ks, p.n ≠ n) ∧ ∀ p ∈ ts.drop z, p.n ≠ n) W ∧ Pb W B p) ⟨Hin.out.below (below_drewN (Below.refl _ _) _), Hpb.out.below (below_drewN (Below.refl _ _) _)⟩ ?_
                    clear Hin Hpb d0 d1 d2 d3 d4 hlk
                    rintro W4 ⟨hin, hpb⟩
                    have Hin := Lib.hid hin
                    obtain ⟨d0, d1, d2, d3, d4⟩ := hpb.cells
                    clear hin hpb
                    obtain ⟨W5, hrun, hs5, hk5⟩ := Hin.out.2.2.2.2.put (n := p.n) ⟨p0, p1⟩ HT.out
                    have Hs5 := Lib.hid hs5
                    have Hk5 := Lib.hid hk5
                    clear hs5 hk5
                    go_wp2_with fail
                    go_roundw
                    case rel =>
                      refine ⟨z + 1, by go_num, by omega, Hin.out.put Hk5.out (Hs5.out.mono fun n hn => ?_) HLR.out HLw.out HkvR.out HtvR.out⟩
                      rcases hn with ⟨h1, h2⟩ | rfl
                      · exact ⟨h1, fun q hq => h2 q (by rw [Hdr.out]; exact List.mem_cons_of_mem _ hq)⟩
                      · exact ⟨Hm3.out, Hm4.out⟩
                    case measure => simp [intOf]; omega
                  · have t3 : decide (3 ≤ ak' - p.n) = false := decide_eq_false hf
                    have t5 : decide (p.a + 374625 ≤ now) = true := decide_eq_true (by rcases P6.out with h | h; exact absurd h hf; exact h)
                    go_wp2_with fail
                    go_quiet ((go_at_call 12; exact Calls.quiet_of_same (acked_same L kv7 ks wt7 ak' la7 ls _ (Hin.out.1.below (below_drewN (Below.refl _ _) _)) hq7 Hak9.out)))
                    refine ex_gen (fun W => InSt w L R (.slice (some ⟨g, 0, none⟩) ts.length tc) kv7 ks ts true ak' wt7 la7 ls (fun n => (∀ p ∈ ks, p.n ≠ n) ∧ ∀ p ∈ ts.drop z, p.n ≠ n) W ∧ Pb W B p) ⟨Hin.out.below (below_drewN (Below.refl _ _) _), Hpb.out.below (below_drewN (Below.refl _ _) _)⟩ ?_
                    clear Hin Hpb d0 d1 d2 d3 d4 hlk
                    rintro W4 ⟨hin, hpb⟩
                    have Hin := Lib.hid hin
                    obtain ⟨d0, d1, d2, d3, d4⟩ := hpb.cells
                    clear hin hpb
                    obtain ⟨W5, hrun, hs5, hk5⟩ := Hin.out.2.2.2.2.put (n := p.n) ⟨p0, p1⟩ HT.out
                    have Hs5 := Lib.hid hs5
                    have Hk5 := Lib.hid hk5
                    clear hs5 hk5
                    go_wp2_with fail
                    go_roundw
                    case rel =>
                      refine ⟨z + 1, by go_num, by omega, Hin.out.put Hk5.out (Hs5.out.mono fun n hn => ?_) HLR.out HLw.out HkvR.out HtvR.out⟩
                      rcases hn with ⟨h1, h2⟩ | rfl
                      · exact ⟨h1, fun q hq => h2 q (by rw [Hdr.out]; exact List.mem_cons_of_mem _ hq)⟩
                      · exact ⟨Hm3.out, Hm4.out⟩
                    case measure => simp [intOf]; omega
                · obtain rfl : z = ts.length := by omega
                  go_wp2_with fail
                  go_roundw
                  case rel => exact ⟨q + 1, kv7, ks, so', ak', wt7, la7, ls, by go_num, by omega, Hin.out.1, Hin.out.2.1, Hin.out.2.2.1, Hks.out, Hfk.out, hlk, hq7, hq8, Hin.out.2.2.2.2.mono (fun n hn => hn.1), HkvR.out⟩
                  case measure => simp [intOf]; omega
            · obtain rfl : q = m := by omega
              go_wp2_with fail
              go_ret
              exact ⟨rfl, Hst.out.2.2.1⟩
end Go.Proofs.Ytpjahdiddgdahaa
