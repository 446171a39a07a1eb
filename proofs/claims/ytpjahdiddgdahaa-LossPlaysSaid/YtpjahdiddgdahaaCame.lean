/- Came: which packets are acknowledged; what the ledger knows then. -/
import Derived.Test.YtpjahdiddgdahaaTake
import Derived.Test.YtpjahdiddgdahaaIn
import Derived.Deep.QuietTactic
import Derived.BigQuiet
import Derived.BigRegion
namespace Go.Proofs.Ytpjahdiddgdahaa
open Go.RowKit
set_option linter.unusedVariables false
set_option linter.unusedSimpArgs false

def endOf (rs : List (Int × Int)) : Int := rs.foldl (fun m r => max m r.2) 0
theorem endOf_snoc (rs : List (Int × Int)) (r : Int × Int) : endOf (rs ++ [r]) = max (endOf rs) r.2 := by simp [endOf]
theorem endOf_nonneg (rs : List (Int × Int)) : 0 ≤ endOf rs := by
  suffices ∀ (m : Int), 0 ≤ m → 0 ≤ rs.foldl (fun m r => max m r.2) m from this 0 (Int.le_refl 0)
  induction rs with
  | nil => intro m h; exact h
  | cons r rs ih => intro m h; exact ih _ (by show 0 ≤ max m r.2; omega)
theorem endOf_ge (rs : List (Int × Int)) : ∀ r ∈ rs, r.2 ≤ endOf rs := by
  suffices ∀ (rs : List (Int × Int)) (m : Int), m ≤ rs.foldl (fun m r => max m r.2) m ∧ ∀ r ∈ rs, r.2 ≤ rs.foldl (fun m r => max m r.2) m from (this rs 0).2
  intro rs
  induction rs with
  | nil => intro m; simp
  | cons q rs ih =>
    intro m
    have h := ih (max m q.2)
    simp only [List.foldl_cons]
    refine ⟨by omega, fun r hr => ?_⟩
    rcases List.mem_cons.1 hr with rfl | h2
    · omega
    · exact h.2 r h2
def goodR (next : Int) (r : Int × Int) : Bool := decide (r.1 < r.2) && decide (r.2 ≤ next)
theorem endOf_le (rs : List (Int × Int)) (next : Int) (h0 : 0 ≤ next) (h : ∀ r ∈ rs, goodR next r = true) : endOf rs ≤ next := by
  suffices ∀ (m : Int), m ≤ next → rs.foldl (fun m r => max m r.2) m ≤ next from this 0 h0
  induction rs with
  | nil => intro m h; exact h
  | cons r rs ih =>
    intro m hm
    have h1 := h r (by simp)
    simp [goodR] at h1
    exact ih (fun r' hr' => h r' (by simp [hr'])) _ (by show max m r.2 ≤ next; omega)

/-- The ranges before the k-th are good; what is reckoned so far. -/
def CameRel (w : World) (next : Int) (rs : List (Int × Int)) (x9 i : Value) (wr : World) : Prop :=
  ∃ k : Nat, i = .int .i64 k ∧ k ≤ rs.length ∧ Below w.heap.size w wr ∧ x9 = .int .u64 (endOf (rs.take k)) ∧ ∀ r ∈ rs.take k, goodR next r = true

/-- The same, and the ranges' own variable is as it was. -/
def CameRelB (w : World) (vr : Value) (next : Int) (rs : List (Int × Int)) (x9 i : Value) (wr : World) : Prop :=
  CameRel w next rs x9 i wr ∧ wr.cell? ⟨w.heap.size, 0, none⟩ = some vr ∧ w.heap.size < wr.heap.size

set_option maxRecDepth 100000 in
set_option maxHeartbeats 1000000 in
theorem came_bad (L : Nat) (v vr : Value) (ps : List Pk) (so wt : Bool) (ak la ls next : Int) (rs : List (Int × Int)) (w : World) (hrs : RgAre w vr rs) (hlen : rs.length ≤ 1000) (hbad : ∃ r ∈ rs, goodR next r = false)
    (hin : ∀ r ∈ rs, (0 ≤ r.1 ∧ r.1 ≤ 18446744073709551615) ∧ 0 ≤ r.2 ∧ r.2 ≤ 18446744073709551615) (hn0 : 0 ≤ next) :
    Calls Try.prog 10 #[.pointer (some ⟨L, 0, none⟩), vr, .int .u64 next] w fun e w' => e = .returned (.tuple #[.slice none 0 0, .bool false, .int .i64 10]) ∧ Below w.heap.size w w' := by
  obtain ⟨a, cap, rfl, hcs⟩ := hrs
  have Hcs := Lib.hid hcs
  have Hbad := Lib.hid hbad
  have Hin := Lib.hid hin
  clear hcs hbad hin
  go_enter Try.func10, Try.ntmps10
  go_wp2_with fail
  go_loopw [9, 18] (fun x9 i wr => CameRel w next rs x9 i wr) (fun x9 i wr => (rs.length - intOf i).toNat)
  case atStart => exact ⟨0, rfl, by omega, grow (Below.refl _ _) _, rfl, by simp⟩
  case round =>
    obtain ⟨k, rfl, hk, hbw, rfl, hgood⟩ := hrel
    have Hgood := Lib.hid hgood
    clear hgood
    by_cases hlt : k < rs.length
    · obtain ⟨g, rfl, hg, d0, d1⟩ := Hcs.out k rs[k] (List.getElem?_eq_getElem hlt)
      have hstep : rs.take (k + 1) = rs.take k ++ [rs[k]] := List.take_succ_eq_append_getElem hlt
      have hi := Hin.out rs[k] (List.getElem_mem hlt)
      have he0 := endOf_nonneg (rs.take k)
      generalize hr : rs[k] = r at *
      obtain ⟨f, t⟩ := r
      have Hstep := Lib.hid hstep
      clear hstep hr
      obtain ⟨⟨hi1, hi2⟩, hi3, hi4⟩ := hi
      have d0 : wr.cell? ⟨g, k * 2, none⟩ = some (.int .u64 f) := by rw [hbw.cell (by exact hg)]; exact d0
      have d1 : wr.cell? ⟨g, k * 2 + 1, none⟩ = some (.int .u64 t) := by rw [hbw.cell (by exact hg)]; exact d1
      have hes := endOf_snoc (rs.take k) (f, t)
      have Hes := Lib.hid hes
      clear hes
      generalize endOf (rs.take k) = en at *
      by_cases hft : t ≤ f
      · go_wp2_with fail
        go_ret3
        exact ⟨rfl, grow hbw _⟩
      · by_cases htn : next < t
        · have hft2 : f < t := by omega
          go_wp2_with fail
          go_ret3
          exact ⟨rfl, grow hbw _⟩
        · have hft2 : f < t := by omega
          have htn2 : t ≤ next := by omega
          clear hft htn
          go_wp2_with fail
          go_roundw
          case rel => exact ⟨k + 1, by go_num, by omega, grow hbw _, by rw [Hstep.out, Hes.out], fun r hr => by
            rw [Hstep.out] at hr
            rcases List.mem_append.1 hr with h | h
            · exact Hgood.out r h
            · simp at h; subst h; simp [goodR]; omega⟩
          case measure => simp [intOf]; omega
    · exfalso
      obtain rfl : k = rs.length := by omega
      obtain ⟨r, hr, hb⟩ := Hbad.out
      have h1 := Hgood.out r (by rw [List.take_length]; exact hr)
      rw [hb] at h1
      cases h1
/-- What Came leaves where all ranges are good. -/
def CamePost (w : World) (L : Nat) (ps taken : List Pk) (en : Int) (rs : List (Int × Int)) (so : Bool) (ak : Int) (wt : Bool) (la ls : Int) (e : Ending) (w' : World) : Prop :=
  ∃ (tv kv : Value) (b so' : Bool) (ak' : Int), e = .returned (.tuple #[tv, .bool b, .int .i64 0]) ∧ Led w' L kv (ps.filter (fun p => !rs.any (inR p.n))) so' ak' wt la ls ∧ Rw w' w.heap.size tv taken ∧ Kp w w' (fun k => k = L) ∧
    (∀ k, kv.ownBlock = some k → w.heap.size ≤ k) ∧ (∀ g, tv.ownBlock = some g → kv.ownBlock ≠ some g) ∧
    ((taken = [] ∧ b = false ∧ so' = so ∧ ak' = ak) ∨ ∃ xs g, taken = xs ++ [g] ∧ b = (decide (g.n = en - 1) && g.e) ∧ so' = true ∧ ak' = (if so = true ∧ g.n ≤ ak then ak else g.n))

theorem Led.set_some {w : World} {L : Nat} {v : Value} {ps : List Pk} {so wt : Bool} {ak la ls : Int} (h : Led w L v ps so ak wt la ls) (b : Bool) (x : Int) :
    Led ((w.setCell ⟨L, 1, none⟩ (.bool b)).setCell ⟨L, 2, none⟩ (.int .u64 x)) L v ps b x wt la ls := by
  refine ⟨by simp [World.setCell, Array.getElem?_modify, h.1], h.2.keep fun g hg => ?_⟩
  have := (h.2.lt g hg).1
  rw [Below.heap_setCell _ _ _ _ (by show g ≠ L; omega), Below.heap_setCell _ _ _ _ (by show g ≠ L; omega)]
theorem Led.set_some' {w : World} {L : Nat} {v : Value} {ps : List Pk} {so wt : Bool} {ak la ls : Int} (h : Led w L v ps so ak wt la ls) (b : Bool) (x : Int) :
    Led ((w.setCell ⟨L, 2, none⟩ (.int .u64 x)).setCell ⟨L, 1, none⟩ (.bool b)) L v ps b x wt la ls := by
  refine ⟨by simp [World.setCell, Array.getElem?_modify, h.1], h.2.keep fun g hg => ?_⟩
  have := (h.2.lt g hg).1
  rw [Below.heap_setCell _ _ _ _ (by show g ≠ L; omega), Below.heap_setCell _ _ _ _ (by show g ≠ L; omega)]

theorem came_still {w W : World} {L B b : Nat} {v tv : Value} {ps ts : List Pk} {so wt : Bool} {ak la ls : Int} {g : Pk} (h : Led W L v ps so ak wt la ls) (hp : Pb W B g) (hr : Rw W b tv ts) (hk : Kp w W (fun k => k = L)) (n : Nat) :
    Led (W.drewN n) L v ps so ak wt la ls ∧ Pb (W.drewN n) B g ∧ Rw (W.drewN n) b tv ts ∧ Kp w (W.drewN n) (fun k => k = L) :=
  ⟨h.below (below_drewN (Below.refl _ _) _), hp.below (below_drewN (Below.refl _ _) _), hr.below (below_drewN (Below.refl _ _) _), hk.trans (Kp.of_below (fun k => k = L) (below_drewN (Below.refl _ _) n)) (fun _ _ h => h)⟩
theorem came_store {w W : World} {L B b : Nat} {v tv : Value} {ps ts : List Pk} {so wt : Bool} {ak la ls : Int} {g : Pk} (h : Led W L v ps so ak wt la ls) (hp : Pb W B g) (hr : Rw W b tv ts) (hk : Kp w W (fun k => k = L)) (hB : L < B) (hb : L < b) (n : Nat) (x : Int) :
    (Led (((W.drewN n).setCell ⟨L, 1, none⟩ (.bool true)).setCell ⟨L, 2, none⟩ (.int .u64 x)) L v ps true x wt la ls ∧ Pb (((W.drewN n).setCell ⟨L, 1, none⟩ (.bool true)).setCell ⟨L, 2, none⟩ (.int .u64 x)) B g ∧ Rw (((W.drewN n).setCell ⟨L, 1, none⟩ (.bool true)).setCell ⟨L, 2, none⟩ (.int .u64 x)) b tv ts ∧ Kp w (((W.drewN n).setCell ⟨L, 1, none⟩ (.bool true)).setCell ⟨L, 2, none⟩ (.int .u64 x)) (fun k => k = L)) ∧
    (Led (((W.drewN n).setCell ⟨L, 2, none⟩ (.int .u64 x)).setCell ⟨L, 1, none⟩ (.bool true)) L v ps true x wt la ls ∧ Pb (((W.drewN n).setCell ⟨L, 2, none⟩ (.int .u64 x)).setCell ⟨L, 1, none⟩ (.bool true)) B g ∧ Rw (((W.drewN n).setCell ⟨L, 2, none⟩ (.int .u64 x)).setCell ⟨L, 1, none⟩ (.bool true)) b tv ts ∧ Kp w (((W.drewN n).setCell ⟨L, 2, none⟩ (.int .u64 x)).setCell ⟨L, 1, none⟩ (.bool true)) (fun k => k = L)) := by
  obtain ⟨h, hp, hr, hk⟩ := came_still h hp hr hk n
  generalize W.drewN n = W at *
  refine ⟨⟨h.set_some _ _, ?_, hr.keep fun k hk' => ?_, (hk.set _ (by rfl) _).set _ (by rfl) _⟩, ⟨h.set_some' _ _, ?_, hr.keep fun k hk' => ?_, (hk.set _ (by rfl) _).set _ (by rfl) _⟩⟩
  · unfold Pb at *
    rw [Below.heap_setCell _ _ _ _ (by show B ≠ L; omega), Below.heap_setCell _ _ _ _ (by show B ≠ L; omega)]; exact hp
  · have := (hr.lt k hk').1
    rw [Below.heap_setCell _ _ _ _ (by show k ≠ L; omega), Below.heap_setCell _ _ _ _ (by show k ≠ L; omega)]
  · unfold Pb at *
    rw [Below.heap_setCell _ _ _ _ (by show B ≠ L; omega), Below.heap_setCell _ _ _ _ (by show B ≠ L; omega)]; exact hp
  · have := (hr.lt k hk').1
    rw [Below.heap_setCell _ _ _ _ (by show k ≠ L; omega), Below.heap_setCell _ _ _ _ (by show k ≠ L; omega)]

set_option maxRecDepth 100000 in
set_option maxHeartbeats 1000000 in
theorem came_ok (L : Nat) (v vr : Value) (ps : List Pk) (so wt : Bool) (ak la ls next : Int) (rs : List (Int × Int)) (w : World) (hrs : RgAre w vr rs) (hlen : rs.length ≤ 1000) (hall : ∀ r ∈ rs, goodR next r = true) (hl : Led w L v ps so ak wt la ls) (hmany : ps.length ≤ 256) (hn9 : next ≤ 9223372036854775807) (hne : rs ≠ []) (taken : List Pk) (htk : Hid (taken = ps.filter (fun p => rs.any (inR p.n))))
    (hin : ∀ r ∈ rs, (0 ≤ r.1 ∧ r.1 ≤ 18446744073709551615) ∧ 0 ≤ r.2 ∧ r.2 ≤ 18446744073709551615) (hn0 : 0 ≤ next) :
    Calls Try.prog 10 #[.pointer (some ⟨L, 0, none⟩), vr, .int .u64 next] w (CamePost w L ps taken (endOf rs) rs so ak wt la ls) := by
  obtain ⟨a, cap, rfl, hcs⟩ := hrs
  have Hrs := Lib.hid (show RgAre w (.slice a rs.length cap) rs from ⟨a, cap, rfl, hcs⟩)
  have Hcs := Lib.hid hcs
  have Hall := Lib.hid hall
  have Hin := Lib.hid hin
  clear hcs hall hin
  go_enter Try.func10, Try.ntmps10
  go_wp2_with fail
  go_loopw [9, 18] (fun x9 i wr => CameRelB w (.slice a rs.length cap) next rs x9 i wr) (fun x9 i wr => (rs.length - intOf i).toNat)
  case atStart => exact ⟨⟨0, rfl, by omega, grow (Below.refl _ _) _, rfl, by simp⟩, by go_simp, by simp⟩
  case round =>
    obtain ⟨⟨k, rfl, hk, hbw, rfl, hgood⟩, hT, hTl⟩ := hrel
    have Hgood := Lib.hid hgood
    clear hgood
    by_cases hlt : k < rs.length
    · obtain ⟨g, rfl, hg, d0, d1⟩ := Hcs.out k rs[k] (List.getElem?_eq_getElem hlt)
      have hstep : rs.take (k + 1) = rs.take k ++ [rs[k]] := List.take_succ_eq_append_getElem hlt
      have hi := Hin.out rs[k] (List.getElem_mem hlt)
      have Hgd := Hall.out rs[k] (List.getElem_mem hlt)
      have he0 := endOf_nonneg (rs.take k)
      generalize hr : rs[k] = r at *
      obtain ⟨f, t⟩ := r
      have Hstep := Lib.hid hstep
      clear hstep hr
      obtain ⟨⟨hi1, hi2⟩, hi3, hi4⟩ := hi
      have d0 : wr.cell? ⟨g, k * 2, none⟩ = some (.int .u64 f) := by rw [hbw.cell (by exact hg)]; exact d0
      have d1 : wr.cell? ⟨g, k * 2 + 1, none⟩ = some (.int .u64 t) := by rw [hbw.cell (by exact hg)]; exact d1
      have hes := endOf_snoc (rs.take k) (f, t)
      have Hes := Lib.hid hes
      clear hes
      generalize endOf (rs.take k) = en at *
      have hgr : f < t ∧ t ≤ next := by
        have h1 := Hgd
        simp [goodR] at h1
        exact h1
      obtain ⟨hft2, htn2⟩ := hgr
      clear Hgd
      go_wp2_with fail
      go_roundw
      case rel => exact ⟨⟨k + 1, by go_num, by omega, grow hbw _, by rw [Hstep.out, Hes.out], fun r hr => by
        rw [Hstep.out] at hr
        rcases List.mem_append.1 hr with h | h
        · exact Hgood.out r h
        · simp at h; subst h; simp [goodR]; omega⟩, by rw [(grow (Below.refl _ _) _).cell (by exact hTl)]; exact hT, by simp; omega⟩
      case measure => simp [intOf]; omega
    · obtain rfl : k = rs.length := by omega
      rw [List.take_length]
      have hen1 : 1 ≤ endOf rs := by
        cases rs with
        | nil => exact absurd rfl hne
        | cons r rs' =>
          have h1 := Hall.out r (by simp)
          have h2 := (Hin.out r (by simp)).1.1
          have h3 := endOf_ge (r :: rs') r (by simp)
          simp [goodR] at h1
          omega
      have hen2 : endOf rs ≤ next := endOf_le rs next hn0 Hall.out
      generalize endOf rs = en at *
      have j1 : IntKind.u64.wrap (en - 1) = en - 1 := IntWalk.u64_in _ (by omega)
      have hmf : ∀ (fn : Fn) (first cap : Array Value) (w : World), (Instr.makeFunc fn first cap).run Try.prog w = .ok (.func fn first cap) w := fun _ _ _ _ => rfl
      have hLl := hl.below hbw
      have hrw := Hrs.out.below hbw
      have HT := Lib.hid hT
      have HL := Lib.hid hLl
      have HR := Lib.hid hrw
      clear hT hLl hrw
      go_wp2_with fail
      refine (take23 ⟨w.heap.size, 0, none⟩ (fun p => rs.any (inR p.n)) L v ps so wt ak la ls wr HL.out hmany (fun W p hp hb => wanted_came p w.heap.size _ rs W (HR.out.below hb) hlen (by rw [hb.cell hTl]; exact HT.out) (Nat.lt_of_lt_of_le hTl hb.size))).mono ?_
      rintro e w1 ⟨tv, kv, rfl, hl1, hr1, hk1, hkv, hdis⟩
      rw [← htk.out] at hr1
      have Hk1 := Lib.hid hk1
      have Hkv := Lib.hid hkv
      have Hdis := Lib.hid hdis
      clear hk1 hkv hdis
      rcases List.eq_nil_or_concat taken with ht | ⟨xs, g, ht⟩
      · subst ht
        obtain ⟨ta, tc, rfl, -⟩ := hr1.shape
        have Hl1 := Lib.hid hl1
        clear hl1
        go_wp2_with fail
        go_ret3
        exact ⟨_, kv, false, so, ak, rfl, Hl1.out, Rw.nil _ _, (Kp.of_below _ hbw).trans Hk1.out (fun i _ h => h), fun k hk => by have := Hkv.out k hk; have := hbw.size; omega, by simp [Value.ownBlock], .inl ⟨rfl, rfl, rfl, rfl⟩⟩
      · rw [List.concat_eq_append] at ht
        subst ht
        obtain ⟨ta, tc, htv, htc⟩ := hr1.shape
        obtain ⟨G, rfl, hG, hGl, hGo, d0, d1, d2, d3, d4⟩ := htc xs.length g (by simp)
        simp only [List.length_append, List.length_cons, List.length_nil, Nat.zero_add] at htv
        clear htc
        subst htv
        have hxl : xs.length ≤ 256 := by have h := hmany; have h2 := congrArg List.length htk.out; have h3 := List.length_filter_le (fun p => rs.any (inR p.n)) ps; simp only [List.length_append, List.length_cons, List.length_nil] at h2; omega
        have i2 : IntKind.i64.wrap ((xs.length : Int) + 1 - 1) = (xs.length : Int) := by rw [IntWalk.i64_in _ (by omega)]; omega
        have i1 : (0 : Int) ≤ (xs.length : Int) := by omega
        have Hl1 := Lib.hid hl1
        have Hr1 := Lib.hid hr1
        have HL1 := Lib.hid hl.lt
        clear hl1 hr1 htk
        go_upto_region 15 with (fail)
        refine wp_gen (fun W => Led W L kv (ps.filter (fun p => !rs.any (inR p.n))) so ak wt la ls ∧ Pb W w1.heap.size g ∧ Rw W wr.heap.size (.slice (some ⟨G, 0, none⟩) (xs.length + 1) tc) (xs ++ [g]) ∧ Kp w W (fun k => k = L))
          ⟨Hl1.out.below (grow (Below.refl _ _) _), Pb.new _ _, Hr1.out.below (grow (Below.refl _ _) _), ((Kp.of_below _ hbw).trans Hk1.out (fun i _ h => h)).trans (Kp.of_below (fun k => k = L) (grow (Below.refl _ _) _)) (fun i _ h => h)⟩ ?_
        clear d0 d1 d2 d3 d4
        have Hs := Lib.hid hbw.size
        have Hlt := Lib.hid (show w1.heap.size ≥ wr.heap.size from Hk1.out.size)
        clear hbw
        rintro W ⟨hl2, hp2, hr2, hk2⟩
        obtain ⟨c0, c1, c2, c3, c4, c5, f0, f1, f2, f3, f4, f5⟩ := hl2.cells
        obtain ⟨d0, d1, d2, d3, d4⟩ := hp2.cells
        have Hl2 := Lib.hid hl2
        have Hp2 := Lib.hid hp2
        have Hr2 := Lib.hid hr2
        have Hk2 := Lib.hid hk2
        clear hl2 hp2 hr2 hk2
        cases so
        · go_quiet (fail)
          go_wp2_with fail
          go_region
          all_goals
            refine ex_gen (fun W => Led W L kv (ps.filter (fun p => !rs.any (inR p.n))) true g.n wt la ls ∧ Pb W w1.heap.size g ∧ Rw W wr.heap.size (.slice (some ⟨G, 0, none⟩) (xs.length + 1) tc) (xs ++ [g]) ∧ Kp w W (fun k => k = L))
              (by have hB : L < w1.heap.size := Nat.lt_of_lt_of_le HL1.out (Nat.le_trans Hs.out Hlt.out); have hb : L < wr.heap.size := Nat.lt_of_lt_of_le HL1.out Hs.out; first | exact (came_store Hl2.out Hp2.out Hr2.out Hk2.out hB hb _ _).1 | exact (came_store Hl2.out Hp2.out Hr2.out Hk2.out hB hb _ _).2) ?_
            clear c0 c1 c2 c3 c4 c5 f0 f1 f2 f3 f4 f5 d0 d1 d2 d3 d4 Hl2 Hp2 Hr2 Hk2
            rintro W3 ⟨hl2, hp2, hr2, hk2⟩
            obtain ⟨d0, d1, d2, d3, d4⟩ := hp2.cells
            have Hl2 := Lib.hid hl2
            have Hp3 := Lib.hid hp2
            have Hr2 := Lib.hid hr2
            have Hk2 := Lib.hid hk2
            clear hl2 hp2 hr2 hk2
            by_cases heq : g.n = en - 1
            · go_wp2_with fail
              go_quiet (fail)
              go_wp2_with fail
              go_ret3
              exact ⟨_, kv, g.e, true, g.n, rfl, (came_still Hl2.out Hp3.out Hr2.out Hk2.out _).1, (came_still Hl2.out Hp3.out Hr2.out Hk2.out _).2.2.1.mono Hs.out, (came_still Hl2.out Hp3.out Hr2.out Hk2.out _).2.2.2, fun k hk => Nat.le_trans Hs.out (Hkv.out k hk), Hdis.out, .inr ⟨xs, g, rfl, by simp [heq], rfl, by simp⟩⟩
            · go_wp2_with fail
              go_quiet (fail)
              go_wp2_with fail
              go_ret3
              exact ⟨_, kv, false, true, g.n, rfl, (came_still Hl2.out Hp3.out Hr2.out Hk2.out _).1, (came_still Hl2.out Hp3.out Hr2.out Hk2.out _).2.2.1.mono Hs.out, (came_still Hl2.out Hp3.out Hr2.out Hk2.out _).2.2.2, fun k hk => Nat.le_trans Hs.out (Hkv.out k hk), Hdis.out, .inr ⟨xs, g, rfl, by simp [heq], rfl, by simp⟩⟩
        · by_cases hga : g.n ≤ ak
          · go_quiet (fail)
            all_goals
              refine ex_gen (fun W => Led W L kv (ps.filter (fun p => !rs.any (inR p.n))) true ak wt la ls ∧ Pb W w1.heap.size g ∧ Rw W wr.heap.size (.slice (some ⟨G, 0, none⟩) (xs.length + 1) tc) (xs ++ [g]) ∧ Kp w W (fun k => k = L))
                (by exact came_still Hl2.out Hp2.out Hr2.out Hk2.out _) ?_
              clear c0 c1 c2 c3 c4 c5 f0 f1 f2 f3 f4 f5 d0 d1 d2 d3 d4 Hl2 Hp2 Hr2 Hk2
              rintro W3 ⟨hl2, hp2, hr2, hk2⟩
              obtain ⟨d0, d1, d2, d3, d4⟩ := hp2.cells
              have Hl2 := Lib.hid hl2
              have Hp3 := Lib.hid hp2
              have Hr2 := Lib.hid hr2
              have Hk2 := Lib.hid hk2
              clear hl2 hp2 hr2 hk2
              by_cases heq : g.n = en - 1
              · go_wp2_with fail
                go_quiet (fail)
                go_wp2_with fail
                go_ret3
                exact ⟨_, kv, g.e, true, ak, rfl, (came_still Hl2.out Hp3.out Hr2.out Hk2.out _).1, (came_still Hl2.out Hp3.out Hr2.out Hk2.out _).2.2.1.mono Hs.out, (came_still Hl2.out Hp3.out Hr2.out Hk2.out _).2.2.2, fun k hk => Nat.le_trans Hs.out (Hkv.out k hk), Hdis.out, .inr ⟨xs, g, rfl, by simp [heq], rfl, by simp [hga]⟩⟩
              · go_wp2_with fail
                go_quiet (fail)
                go_wp2_with fail
                go_ret3
                exact ⟨_, kv, false, true, ak, rfl, (came_still Hl2.out Hp3.out Hr2.out Hk2.out _).1, (came_still Hl2.out Hp3.out Hr2.out Hk2.out _).2.2.1.mono Hs.out, (came_still Hl2.out Hp3.out Hr2.out Hk2.out _).2.2.2, fun k hk => Nat.le_trans Hs.out (Hkv.out k hk), Hdis.out, .inr ⟨xs, g, rfl, by simp [heq], rfl, by simp [hga]⟩⟩
          · have hga2 : ak < g.n := by omega
            go_quiet (fail)
            go_wp2_with fail
            go_region
            all_goals
              refine ex_gen (fun W => Led W L kv (ps.filter (fun p => !rs.any (inR p.n))) true g.n wt la ls ∧ Pb W w1.heap.size g ∧ Rw W wr.heap.size (.slice (some ⟨G, 0, none⟩) (xs.length + 1) tc) (xs ++ [g]) ∧ Kp w W (fun k => k = L))
                (by have hB : L < w1.heap.size := Nat.lt_of_lt_of_le HL1.out (Nat.le_trans Hs.out Hlt.out); have hb : L < wr.heap.size := Nat.lt_of_lt_of_le HL1.out Hs.out; first | exact (came_store Hl2.out Hp2.out Hr2.out Hk2.out hB hb _ _).1 | exact (came_store Hl2.out Hp2.out Hr2.out Hk2.out hB hb _ _).2) ?_
              clear c0 c1 c2 c3 c4 c5 f0 f1 f2 f3 f4 f5 d0 d1 d2 d3 d4 Hl2 Hp2 Hr2 Hk2
              rintro W3 ⟨hl2, hp2, hr2, hk2⟩
              obtain ⟨d0, d1, d2, d3, d4⟩ := hp2.cells
              have Hl2 := Lib.hid hl2
              have Hp3 := Lib.hid hp2
              have Hr2 := Lib.hid hr2
              have Hk2 := Lib.hid hk2
              clear hl2 hp2 hr2 hk2
              by_cases heq : g.n = en - 1
              · go_wp2_with fail
                go_quiet (fail)
                go_wp2_with fail
                go_ret3
                exact ⟨_, kv, g.e, true, g.n, rfl, (came_still Hl2.out Hp3.out Hr2.out Hk2.out _).1, (came_still Hl2.out Hp3.out Hr2.out Hk2.out _).2.2.1.mono Hs.out, (came_still Hl2.out Hp3.out Hr2.out Hk2.out _).2.2.2, fun k hk => Nat.le_trans Hs.out (Hkv.out k hk), Hdis.out, .inr ⟨xs, g, rfl, by simp [heq], rfl, by simp; omega⟩⟩
              · go_wp2_with fail
                go_quiet (fail)
                go_wp2_with fail
                go_ret3
                exact ⟨_, kv, false, true, g.n, rfl, (came_still Hl2.out Hp3.out Hr2.out Hk2.out _).1, (came_still Hl2.out Hp3.out Hr2.out Hk2.out _).2.2.1.mono Hs.out, (came_still Hl2.out Hp3.out Hr2.out Hk2.out _).2.2.2, fun k hk => Nat.le_trans Hs.out (Hkv.out k hk), Hdis.out, .inr ⟨xs, g, rfl, by simp [heq], rfl, by simp; omega⟩⟩

end Go.Proofs.Ytpjahdiddgdahaa
