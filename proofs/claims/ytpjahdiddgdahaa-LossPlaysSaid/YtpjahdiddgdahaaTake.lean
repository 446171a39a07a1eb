/- take: the packets that are asked for; the others are kept. -/
import Derived.Test.YtpjahdiddgdahaaBase
import Derived.Deep.Cut
import Derived.Deep.DeepMust
namespace Go.Proofs.Ytpjahdiddgdahaa
open Go.RowKit
set_option linter.unusedVariables false
set_option linter.unusedSimpArgs false

theorem Rw.mono {w : World} {b b' : Nat} {v : Value} {ps : List Pk} (h : Rw w b v ps) (hb : b' ≤ b) : Rw w b' v ps := by
  refine ⟨h.1, ?_⟩
  rcases h.2 with hn | ⟨g, cap, cur, hv, h1, r⟩
  · exact .inl hn
  · exact .inr ⟨g, cap, cur, hv, by omega, r⟩

/-- One of two rows of the call's own has grown: the other one is as it was, and apart from it. -/
theorem push_step {w w1 w5 : World} {o : Obj} {x y v' : Value} {xs xs' ys : List Pk} (hb : Below w.heap.size w w1) (hx : Rw w1 w.heap.size x xs) (hy : Rw w1 w.heap.size y ys) (hd : ∀ g, x.ownBlock = some g → y.ownBlock ≠ some g)
    (hr : Rw w5 w.heap.size v' xs') (hk : Kp (w1.alloc o) w5 (fun k => x.ownBlock = some k)) (ho : v'.ownBlock = x.ownBlock ∨ v'.ownBlock = some (w1.heap.size + 1)) :
    Below w.heap.size w w5 ∧ Rw w5 w.heap.size y ys ∧ ∀ g, v'.ownBlock = some g → y.ownBlock ≠ some g := by
  have hsz : (w1.alloc o).heap.size = w1.heap.size + 1 := by simp
  refine ⟨(hb.alloc hb.size o).trans (hk.to_below (by have := hb.size; omega) (fun k hk' e => by have := (hx.lt k e).1; omega)), hy.keep fun g hg => ?_, fun g hg hyg => ?_⟩
  · have hl := (hy.lt g hg).2
    rw [hk.block g (by omega) (fun e => hd g e hg)]
    exact Below.heap_alloc _ _ _ hl
  · rcases ho with h | h
    · exact hd g (by rw [← h]; exact hg) hyg
    · rw [h] at hg
      have := (hy.lt g hyg).2
      simp at hg
      omega

/-- What holds at the head of take's rounds: k packets are parted. -/
def TakeRel (w : World) (B : Nat) (ps : List Pk) (q : Pk → Bool) (x4 x5 i : Value) (wr : World) : Prop :=
  ∃ k : Nat, i = .int .i64 k ∧ k ≤ ps.length ∧ Below w.heap.size w wr ∧ Rw wr w.heap.size x4 ((ps.take k).filter q) ∧ Rw wr w.heap.size x5 ((ps.take k).filter (fun p => !q p)) ∧
    (∀ g, x4.ownBlock = some g → x5.ownBlock ≠ some g)

/-- What take leaves. -/
def TakePost (w : World) (L : Nat) (ps : List Pk) (q : Pk → Bool) (so : Bool) (ak : Int) (wt : Bool) (la ls : Int) (e : Ending) (w' : World) : Prop :=
  ∃ tv kv, e = .returned tv ∧ Led w' L kv (ps.filter (fun p => !q p)) so ak wt la ls ∧ Rw w' w.heap.size tv (ps.filter q) ∧ Kp w w' (fun k => k = L) ∧ (∀ k, kv.ownBlock = some k → w.heap.size ≤ k) ∧ (∀ g, tv.ownBlock = some g → kv.ownBlock ≠ some g)

set_option maxHeartbeats 1000000 in
theorem take23 (c1 : Addr) (q : Pk → Bool) (L : Nat) (v : Value) (ps : List Pk) (so wt : Bool) (ak la ls : Int) (w : World) (hl : Led w L v ps so ak wt la ls) (hmany : ps.length ≤ 256)
    (hcl : ∀ (W : World) (p : Pk), p ∈ ps → Below w.heap.size w W → Calls Try.prog 23 #[pv p, .pointer (some c1)] W fun e w' => e = .returned (.bool (q p)) ∧ Below W.heap.size W w') :
    Calls Try.prog 22 #[.pointer (some ⟨L, 0, none⟩), .func (.func 23) #[] #[.pointer (some c1)]] w (TakePost w L ps q so ak wt la ls) := by
  have Hcl := Lib.hid hcl
  clear hcl
  obtain ⟨a, cap, hv, hcs⟩ := hl.2.shape
  subst hv
  have Hcs := Lib.hid hcs
  clear hcs
  have hL := hl.lt
  obtain ⟨c0, c1, c2, c3, c4, c5, f0, f1, f2, f3, f4, f5⟩ := hl.cells
  go_enter Try.func22, Try.ntmps22
  go_wp2_with fail
  go_loopw [4, 5, 13] (fun x4 x5 i wr => TakeRel w L ps q x4 x5 i wr) (fun x4 x5 i wr => (ps.length - intOf i).toNat)
  case atStart => exact ⟨0, rfl, by omega, Below.refl _ _, Rw.nil _ _, Rw.nil _ _, by simp [Value.ownBlock]⟩
  case round =>
    clear c0 c1 c2 c3 c4 c5 f0 f1 f2 f3 f4 f5
    obtain ⟨k, rfl, hk, hbw, hr4, hr5, hdis⟩ := hrel
    by_cases hlt : k < ps.length
    · obtain ⟨g, rfl, hg, hgl, hgo, d0, d1, d2, d3, d4⟩ := Hcs.out k ps[k] (List.getElem?_eq_getElem hlt)
      have hpm : ps[k] ∈ ps := List.getElem_mem hlt
      generalize hp : ps[k] = p at *
      have Hp := Lib.hid hp
      clear hp
      have d0 : wr.cell? ⟨g, k * 5, none⟩ = some (.int .u64 p.n) := by rw [hbw.cell (by exact hgl)]; exact d0
      have d1 : wr.cell? ⟨g, k * 5 + 1, none⟩ = some (.int .u64 p.a) := by rw [hbw.cell (by exact hgl)]; exact d1
      have d2 : wr.cell? ⟨g, k * 5 + 2, none⟩ = some (.int .u64 p.s) := by rw [hbw.cell (by exact hgl)]; exact d2
      have d3 : wr.cell? ⟨g, k * 5 + 3, none⟩ = some (.bool p.e) := by rw [hbw.cell (by exact hgl)]; exact d3
      have d4 : wr.cell? ⟨g, k * 5 + 4, none⟩ = some (.bool p.f) := by rw [hbw.cell (by exact hgl)]; exact d4
      go_wp2_with fail
      refine (Hcl.out _ p hpm (grow hbw _)).mono ?_
      rintro e w1 ⟨rfl, hb1⟩
      have hp1 := (Pb.new wr p).below hb1
      have hbw1 := (grow hbw _).trans (hb1.mono (grow hbw _).size)
      have hr41 := (hr4.below (grow (Below.refl _ _) _)).below hb1
      have hr51 := (hr5.below (grow (Below.refl _ _) _)).below hb1
      clear d0 d1 d2 d3 d4 hb1 hr4 hr5
      obtain ⟨d0, d1, d2, d3, d4⟩ := hp1.cells
      have hstep : ps.take (k + 1) = ps.take k ++ [p] := by
        rw [List.take_succ_eq_append_getElem hlt, Hp.out]
      have Hstep := Lib.hid hstep
      clear hstep
      have hl4 : ((ps.take k).filter q).length ≤ 1000 := Nat.le_trans (List.length_filter_le _ _) (Nat.le_trans (List.length_take_le _ _) (by omega))
      have hl5 : ((ps.take k).filter (fun p => !q p)).length ≤ 1000 := Nat.le_trans (List.length_filter_le _ _) (Nat.le_trans (List.length_take_le _ _) (by omega))
      have Hl4 := Lib.hid hl4
      have Hl5 := Lib.hid hl5
      clear hl4 hl5
      cases hq : q p
      · have hq4 : (ps.take k ++ [p]).filter q = (ps.take k).filter q := by simp [hq]
        have hq5 : (ps.take k ++ [p]).filter (fun p => !q p) = (ps.take k).filter (fun p => !q p) ++ [p] := by simp [hq]
        have Hq4 := Lib.hid hq4
        have Hq5 := Lib.hid hq5
        clear hq4 hq5 hq
        go_upto_region 7 with (fail)
        go_wp2_with (at_builtin; go_must (refine wpList_append_pk rfl (.tmp 24) (.tmp 26) rfl w.heap.size u5 _ rfl (hr51.below (grow (Below.refl _ _) _)) w1.heap.size 1 p rfl (Pb.new _ _) Hl5.out (grow hbw1 _).size ?_))
        intro v' w5 hr6 hk6 ho6
        obtain ⟨s1, s2, s3⟩ := push_step hbw1 hr51 hr41 (fun g h1 h2 => hdis g h2 h1) hr6 hk6 ho6
        have S1 := Lib.hid s1
        have S3 := Lib.hid s3
        clear s1 s3 hk6 ho6
        go_wp2_with fail
        go_roundw
        case rel => exact ⟨k + 1, by go_num, by omega, S1.out, by rw [Hstep.out, Hq4.out]; exact s2, by rw [Hstep.out, Hq5.out]; exact hr6, fun g h1 h2 => S3.out g h2 h1⟩
        case measure => simp [intOf]; omega
      · have hq4 : (ps.take k ++ [p]).filter q = (ps.take k).filter q ++ [p] := by simp [hq]
        have hq5 : (ps.take k ++ [p]).filter (fun p => !q p) = (ps.take k).filter (fun p => !q p) := by simp [hq]
        have Hq4 := Lib.hid hq4
        have Hq5 := Lib.hid hq5
        clear hq4 hq5 hq
        go_upto_region 6 with (fail)
        go_wp2_with (at_builtin; go_must (refine wpList_append_pk rfl (.tmp 20) (.tmp 22) rfl w.heap.size u4 _ rfl (hr41.below (grow (Below.refl _ _) _)) w1.heap.size 1 p rfl (Pb.new _ _) Hl4.out (grow hbw1 _).size ?_))
        intro v' w5 hr6 hk6 ho6
        obtain ⟨s1, s2, s3⟩ := push_step hbw1 hr41 hr51 hdis hr6 hk6 ho6
        have S1 := Lib.hid s1
        have S3 := Lib.hid s3
        clear s1 s3 hk6 ho6
        go_wp2_with fail
        go_roundw
        case rel => exact ⟨k + 1, by go_num, by omega, S1.out, by rw [Hstep.out, Hq4.out]; exact hr6, by rw [Hstep.out, Hq5.out]; exact s2, fun g h1 h2 => S3.out g h1 h2⟩
        case measure => simp [intOf]; omega
    · obtain rfl : k = ps.length := by omega
      rw [List.take_length] at hr4 hr5
      obtain ⟨a5, cap5, rfl, -⟩ := hr5.shape
      have h0 : wr.heap[L]? = some (.cells #[.slice a ps.length cap, .bool so, .int .u64 ak, .bool wt, .int .u64 la, .int .u64 ls] 59 (0, 0)) := by rw [hbw.block L hL]; exact hl.1
      have e0 : wr.cell? ⟨L, 0, none⟩ = some (.slice a ps.length cap) := by simp [World.cell?, h0]
      have e1 : wr.frozen? ⟨L, 0, none⟩ = false := by simp [World.frozen?, h0]
      have H0 := Lib.hid h0
      have Hd := Lib.hid hdis
      clear h0 hdis hl
      go_wp2_with fail
      go_ret
      refine ⟨_, _, rfl, ⟨by simp [World.setCell, Array.getElem?_modify, H0.out], (hr5.mono (by omega)).keep fun g hg => ?_⟩, hr4.keep fun g hg => ?_, (Kp.of_below (fun k => k = L) hbw).set ⟨L, 0, none⟩ rfl _, fun k hk => (hr5.lt k hk).1, fun g h1 h2 => Hd.out g h1 h2⟩
      · have := (hr5.lt g hg).1
        exact Below.heap_setCell _ _ _ _ (by show g ≠ L; omega)
      · have := (hr4.lt g hg).1
        exact Below.heap_setCell _ _ _ _ (by show g ≠ L; omega)

set_option maxHeartbeats 1000000 in
theorem take26 (c1 c2 c3 : Addr) (q : Pk → Bool) (L : Nat) (v : Value) (ps : List Pk) (so wt : Bool) (ak la ls : Int) (w : World) (hl : Led w L v ps so ak wt la ls) (hmany : ps.length ≤ 256)
    (hcl : ∀ (W : World) (p : Pk), p ∈ ps → Below w.heap.size w W → Calls Try.prog 26 #[pv p, .pointer (some c1), .pointer (some c2), .pointer (some c3)] W fun e w' => e = .returned (.bool (q p)) ∧ Below W.heap.size W w') :
    Calls Try.prog 22 #[.pointer (some ⟨L, 0, none⟩), .func (.func 26) #[] #[.pointer (some c1), .pointer (some c2), .pointer (some c3)]] w (TakePost w L ps q so ak wt la ls) := by
  have Hcl := Lib.hid hcl
  clear hcl
  obtain ⟨a, cap, hv, hcs⟩ := hl.2.shape
  subst hv
  have Hcs := Lib.hid hcs
  clear hcs
  have hL := hl.lt
  obtain ⟨c0, c1, c2, c3, c4, c5, f0, f1, f2, f3, f4, f5⟩ := hl.cells
  go_enter Try.func22, Try.ntmps22
  go_wp2_with fail
  go_loopw [4, 5, 13] (fun x4 x5 i wr => TakeRel w L ps q x4 x5 i wr) (fun x4 x5 i wr => (ps.length - intOf i).toNat)
  case atStart => exact ⟨0, rfl, by omega, Below.refl _ _, Rw.nil _ _, Rw.nil _ _, by simp [Value.ownBlock]⟩
  case round =>
    clear c0 c1 c2 c3 c4 c5 f0 f1 f2 f3 f4 f5
    obtain ⟨k, rfl, hk, hbw, hr4, hr5, hdis⟩ := hrel
    by_cases hlt : k < ps.length
    · obtain ⟨g, rfl, hg, hgl, hgo, d0, d1, d2, d3, d4⟩ := Hcs.out k ps[k] (List.getElem?_eq_getElem hlt)
      have hpm : ps[k] ∈ ps := List.getElem_mem hlt
      generalize hp : ps[k] = p at *
      have Hp := Lib.hid hp
      clear hp
      have d0 : wr.cell? ⟨g, k * 5, none⟩ = some (.int .u64 p.n) := by rw [hbw.cell (by exact hgl)]; exact d0
      have d1 : wr.cell? ⟨g, k * 5 + 1, none⟩ = some (.int .u64 p.a) := by rw [hbw.cell (by exact hgl)]; exact d1
      have d2 : wr.cell? ⟨g, k * 5 + 2, none⟩ = some (.int .u64 p.s) := by rw [hbw.cell (by exact hgl)]; exact d2
      have d3 : wr.cell? ⟨g, k * 5 + 3, none⟩ = some (.bool p.e) := by rw [hbw.cell (by exact hgl)]; exact d3
      have d4 : wr.cell? ⟨g, k * 5 + 4, none⟩ = some (.bool p.f) := by rw [hbw.cell (by exact hgl)]; exact d4
      go_wp2_with fail
      refine (Hcl.out _ p hpm (grow hbw _)).mono ?_
      rintro e w1 ⟨rfl, hb1⟩
      have hp1 := (Pb.new wr p).below hb1
      have hbw1 := (grow hbw _).trans (hb1.mono (grow hbw _).size)
      have hr41 := (hr4.below (grow (Below.refl _ _) _)).below hb1
      have hr51 := (hr5.below (grow (Below.refl _ _) _)).below hb1
      clear d0 d1 d2 d3 d4 hb1 hr4 hr5
      obtain ⟨d0, d1, d2, d3, d4⟩ := hp1.cells
      have hstep : ps.take (k + 1) = ps.take k ++ [p] := by
        rw [List.take_succ_eq_append_getElem hlt, Hp.out]
      have Hstep := Lib.hid hstep
      clear hstep
      have hl4 : ((ps.take k).filter q).length ≤ 1000 := Nat.le_trans (List.length_filter_le _ _) (Nat.le_trans (List.length_take_le _ _) (by omega))
      have hl5 : ((ps.take k).filter (fun p => !q p)).length ≤ 1000 := Nat.le_trans (List.length_filter_le _ _) (Nat.le_trans (List.length_take_le _ _) (by omega))
      have Hl4 := Lib.hid hl4
      have Hl5 := Lib.hid hl5
      clear hl4 hl5
      cases hq : q p
      · have hq4 : (ps.take k ++ [p]).filter q = (ps.take k).filter q := by simp [hq]
        have hq5 : (ps.take k ++ [p]).filter (fun p => !q p) = (ps.take k).filter (fun p => !q p) ++ [p] := by simp [hq]
        have Hq4 := Lib.hid hq4
        have Hq5 := Lib.hid hq5
        clear hq4 hq5 hq
        go_upto_region 7 with (fail)
        go_wp2_with (at_builtin; go_must (refine wpList_append_pk rfl (.tmp 24) (.tmp 26) rfl w.heap.size u5 _ rfl (hr51.below (grow (Below.refl _ _) _)) w1.heap.size 1 p rfl (Pb.new _ _) Hl5.out (grow hbw1 _).size ?_))
        intro v' w5 hr6 hk6 ho6
        obtain ⟨s1, s2, s3⟩ := push_step hbw1 hr51 hr41 (fun g h1 h2 => hdis g h2 h1) hr6 hk6 ho6
        have S1 := Lib.hid s1
        have S3 := Lib.hid s3
        clear s1 s3 hk6 ho6
        go_wp2_with fail
        go_roundw
        case rel => exact ⟨k + 1, by go_num, by omega, S1.out, by rw [Hstep.out, Hq4.out]; exact s2, by rw [Hstep.out, Hq5.out]; exact hr6, fun g h1 h2 => S3.out g h2 h1⟩
        case measure => simp [intOf]; omega
      · have hq4 : (ps.take k ++ [p]).filter q = (ps.take k).filter q ++ [p] := by simp [hq]
        have hq5 : (ps.take k ++ [p]).filter (fun p => !q p) = (ps.take k).filter (fun p => !q p) := by simp [hq]
        have Hq4 := Lib.hid hq4
        have Hq5 := Lib.hid hq5
        clear hq4 hq5 hq
        go_upto_region 6 with (fail)
        go_wp2_with (at_builtin; go_must (refine wpList_append_pk rfl (.tmp 20) (.tmp 22) rfl w.heap.size u4 _ rfl (hr41.below (grow (Below.refl _ _) _)) w1.heap.size 1 p rfl (Pb.new _ _) Hl4.out (grow hbw1 _).size ?_))
        intro v' w5 hr6 hk6 ho6
        obtain ⟨s1, s2, s3⟩ := push_step hbw1 hr41 hr51 hdis hr6 hk6 ho6
        have S1 := Lib.hid s1
        have S3 := Lib.hid s3
        clear s1 s3 hk6 ho6
        go_wp2_with fail
        go_roundw
        case rel => exact ⟨k + 1, by go_num, by omega, S1.out, by rw [Hstep.out, Hq4.out]; exact hr6, by rw [Hstep.out, Hq5.out]; exact s2, fun g h1 h2 => S3.out g h1 h2⟩
        case measure => simp [intOf]; omega
    · obtain rfl : k = ps.length := by omega
      rw [List.take_length] at hr4 hr5
      obtain ⟨a5, cap5, rfl, -⟩ := hr5.shape
      have h0 : wr.heap[L]? = some (.cells #[.slice a ps.length cap, .bool so, .int .u64 ak, .bool wt, .int .u64 la, .int .u64 ls] 59 (0, 0)) := by rw [hbw.block L hL]; exact hl.1
      have e0 : wr.cell? ⟨L, 0, none⟩ = some (.slice a ps.length cap) := by simp [World.cell?, h0]
      have e1 : wr.frozen? ⟨L, 0, none⟩ = false := by simp [World.frozen?, h0]
      have H0 := Lib.hid h0
      have Hd := Lib.hid hdis
      clear h0 hdis hl
      go_wp2_with fail
      go_ret
      refine ⟨_, _, rfl, ⟨by simp [World.setCell, Array.getElem?_modify, H0.out], (hr5.mono (by omega)).keep fun g hg => ?_⟩, hr4.keep fun g hg => ?_, (Kp.of_below (fun k => k = L) hbw).set ⟨L, 0, none⟩ rfl _, fun k hk => (hr5.lt k hk).1, fun g h1 h2 => Hd.out g h1 h2⟩
      · have := (hr5.lt g hg).1
        exact Below.heap_setCell _ _ _ _ (by show g ≠ L; omega)
      · have := (hr4.lt g hg).1
        exact Below.heap_setCell _ _ _ _ (by show g ≠ L; omega)

end Go.Proofs.Ytpjahdiddgdahaa
