/- LossPlays, the arm of what came: is a packet in one of the ranges? -/
import Derived.Test.YtpjahdiddgdahaaStat
namespace Go.Proofs.Ytpjahdiddgdahaa
open Go.RowKit
set_option linter.unusedVariables false
set_option linter.unusedSimpArgs false

/-- The slots that live while the packets are parted. -/
structure S3 (a : Act) (gv x20 x21 x22 : Value) (hh : Int) (cv dv : Value) (wn : Bool) (mv : Value) (n j : Nat) : Prop where
  s19 : a.eval (.tmp 19) = gv
  s20 : a.eval (.tmp 20) = x20
  s21 : a.eval (.tmp 21) = x21
  s22 : a.eval (.tmp 22) = x22
  s24 : a.eval (.tmp 24) = .int .i64 hh
  s27 : a.eval (.tmp 27) = cv
  s28 : a.eval (.tmp 28) = dv
  s29 : a.eval (.tmp 29) = .bool wn
  s269 : a.eval (.tmp 269) = mv
  s270 : a.eval (.tmp 270) = .int .i64 n
  s271 : a.eval (.tmp 271) = .int .i64 j

noncomputable def pCame4 : Code := pieceAt [1, 1, 1, 1, 1, 1, 1, 1, 0, 1, 2, 3, 1, 1, 0, 2, 1, 1, 1, 0, 1, 2, 1, 5, 1, 4, 1, 1, 1, 1, 1, 1, 1, 1, 1, 1, 0, 1, 2, 3, 1, 1, 0, 2, 1, 1, 0, 1, 2, 3]

def I4 (M : World → Prop) (R L : Nat) (gv : Value) (gs : List (Int × Int)) (x20 x21 x22 : Value) (hh : Int) (cv dv : Value) (wn : Bool) (n j B : Nat) (p : Pk) (mv : Value) (mk nx nw lt la : Int) (wt : Bool) (ac : Value) (len k : Nat) (m : Nat) (a : Act) (w : World) : Prop :=
  ∃ (i : Nat), i + m = gs.length ∧ Sl a R L mv mk nx nw lt la wt ac len k ∧ S3 a gv x20 x21 x22 hh cv dv wn mv n j ∧ a.eval (.tmp 31) = .pointer (some ⟨B, 0, none⟩) ∧ a.eval (.tmp 275) = gv ∧ a.eval (.tmp 276) = .int .i64 gs.length ∧ a.eval (.tmp 277) = .int .i64 i ∧
    a.eval (.tmp 32) = .bool ((gs.take i).any (fun r => decide (r.1 ≤ p.n) && decide (p.n < r.2))) ∧ M w ∧ RgAre w gv gs ∧ Pb w B p

set_option maxRecDepth 1000000 in
set_option maxHeartbeats 4000000 in
theorem round4 {M : World → Prop} (hM : ∀ w w', M w → Below w.heap.size w w' → M w') {R L : Nat} {gv : Value} {gs : List (Int × Int)} {x20 x21 x22 : Value} {hh : Int} {cv dv : Value} {wn : Bool} {n jj B : Nat} {p : Pk} {mv : Value} {mk nx nw lt la : Int} {wt : Bool} {ac : Value} {len k : Nat} {m : Nat} {a : Act} {w : World}
    (h : I4 M R L gv gs x20 x21 x22 hh cv dv wn n jj B p mv mk nx nw lt la wt ac len k m a w) (hlen : gs.length ≤ 10) (K : Act → World → Prop) (Q0 : Exit → Act → World → Prop)
    (hK : Hid (∀ a' w', (∃ m', m = m' + 1 ∧ I4 M R L gv gs x20 x21 x22 hh cv dv wn n jj B p mv mk nx nw lt la wt ac len k m' a' w') → K a' w'))
    (hE : Hid (∀ a' w', I4 M R L gv gs x20 x21 x22 hh cv dv wn n jj B p mv mk nx nw lt la wt ac len k 0 a' w' → Q0 (.exit 9) a' w')) : Code.wp Try.prog pCame4 (Exit.then K Q0) a w := by
  obtain ⟨i, hi, hs, h3, s31, s275, s276, s277, s32, hm, hrg, hpb⟩ := h
  obtain ⟨s19, s20, s21, s22, s24, s27, s28, s29, s269, s270, s271⟩ := h3
  obtain ⟨hsz, hnd, s3, s5, s6, s7, s8, s9, s10, s11, s12, s64, s65, s66⟩ := hs
  obtain ⟨g, hg, rfl⟩ := act_lit a hsz hnd
  simp only [hg] at s3 s5 s6 s7 s8 s9 s10 s11 s12 s64 s65 s66 s19 s20 s21 s22 s24 s27 s28 s29 s269 s270 s271 s31 s275 s276 s277 s32
  clear hg hsz hnd
  unfold lit pCame4
  conv => arg 2; whnf
  simp only [s3, s5, s6, s7, s8, s9, s10, s11, s12, s64, s65, s66, s19, s20, s21, s22, s24, s27, s28, s29, s269, s270, s271, s31, s275, s276, s277, s32]
  clear s3 s5 s6 s7 s8 s9 s10 s11 s12 s64 s65 s66 s19 s20 s21 s22 s24 s27 s28 s29 s269 s270 s271 s31 s275 s276 s277 s32
  obtain ⟨ad, cap, hv, hcs⟩ := hrg
  have Hrg := Lib.hid (show RgAre w gv gs from ⟨ad, cap, hv, hcs⟩)
  subst hv
  have Hcs := Lib.hid hcs
  have Hm := Lib.hid hm
  have HM := Lib.hid hM
  have Hpb := Lib.hid hpb
  obtain ⟨p0, p1, p2, p3, p4⟩ := hpb.cells
  have hBl : B < w.heap.size := (Array.getElem?_eq_some_iff.1 hpb).1
  clear hcs hm hM hpb
  by_cases hlt : i < gs.length
  · obtain ⟨g', rfl, hgl, d0, d1⟩ := Hcs.out i gs[i] (List.getElem?_eq_getElem hlt)
    have hstep : gs.take (i + 1) = gs.take i ++ [gs[i]] := List.take_succ_eq_append_getElem hlt
    generalize gs[i] = r at *
    obtain ⟨r1, r2⟩ := r
    dsimp only at d0 d1
    have hany : (gs.take (i + 1)).any (fun r => decide (r.1 ≤ p.n) && decide (p.n < r.2)) = ((gs.take i).any (fun r => decide (r.1 ≤ p.n) && decide (p.n < r.2)) || (decide (r1 ≤ p.n) && decide (p.n < r2))) := by rw [hstep, List.any_append]; simp
    have Hany := Lib.hid hany
    clear hany hstep
    generalize hb : (gs.take i).any (fun r => decide (r.1 ≤ p.n) && decide (p.n < r.2)) = b at *
    have Hb := Lib.hid hb
    clear hb
    cases b
    · by_cases h1 : r1 ≤ p.n
      · have t1 : decide (r1 ≤ p.n) = true := decide_eq_true h1
        by_cases h2 : p.n < r2
        · have t2 : decide (p.n < r2) = true := decide_eq_true h2
          have T := Lib.hid (show (decide (r1 ≤ p.n) && decide (p.n < r2)) = true by rw [t1, t2]; rfl)
          go_wp2_with fail
          exact hK.out _ _ ⟨m - 1, by omega, i + 1, by omega, ⟨rfl, rfl, rfl, rfl, rfl, rfl, rfl, rfl, rfl, rfl, rfl, rfl, rfl, rfl⟩, ⟨rfl, rfl, rfl, rfl, rfl, rfl, rfl, rfl, rfl, rfl, rfl⟩, rfl, rfl, rfl, (by go_num : Value.int .i64 (↑i + 1) = .int .i64 ↑(i + 1)), by rw [Hany.out, decide_eq_true h1, decide_eq_true h2]; rfl, HM.out _ _ Hm.out (grow (Below.refl _ _) _), Hrg.out.below (grow (Below.refl _ _) _), Hpb.out.below (grow (Below.refl _ _) _)⟩
        · have t2 : decide (p.n < r2) = false := decide_eq_false h2
          have h3 : r2 ≤ p.n := by omega
          clear h2
          go_wp2_with fail
          exact hK.out _ _ ⟨m - 1, by omega, i + 1, by omega, ⟨rfl, rfl, rfl, rfl, rfl, rfl, rfl, rfl, rfl, rfl, rfl, rfl, rfl, rfl⟩, ⟨rfl, rfl, rfl, rfl, rfl, rfl, rfl, rfl, rfl, rfl, rfl⟩, rfl, rfl, rfl, (by go_num : Value.int .i64 (↑i + 1) = .int .i64 ↑(i + 1)), by rw [Hany.out, decide_eq_false (show ¬ p.n < r2 by omega)]; simp; rfl, HM.out _ _ Hm.out (grow (Below.refl _ _) _), Hrg.out.below (grow (Below.refl _ _) _), Hpb.out.below (grow (Below.refl _ _) _)⟩
      · have t1 : decide (r1 ≤ p.n) = false := decide_eq_false h1
        have h3 : p.n < r1 := by omega
        clear h1
        go_wp2_with fail
        exact hK.out _ _ ⟨m - 1, by omega, i + 1, by omega, ⟨rfl, rfl, rfl, rfl, rfl, rfl, rfl, rfl, rfl, rfl, rfl, rfl, rfl, rfl⟩, ⟨rfl, rfl, rfl, rfl, rfl, rfl, rfl, rfl, rfl, rfl, rfl⟩, rfl, rfl, rfl, (by go_num : Value.int .i64 (↑i + 1) = .int .i64 ↑(i + 1)), by rw [Hany.out, decide_eq_false (show ¬ r1 ≤ p.n by omega)]; simp; rfl, HM.out _ _ Hm.out (grow (Below.refl _ _) _), Hrg.out.below (grow (Below.refl _ _) _), Hpb.out.below (grow (Below.refl _ _) _)⟩
    · go_wp2_with fail
      exact hK.out _ _ ⟨m - 1, by omega, i + 1, by omega, ⟨rfl, rfl, rfl, rfl, rfl, rfl, rfl, rfl, rfl, rfl, rfl, rfl, rfl, rfl⟩, ⟨rfl, rfl, rfl, rfl, rfl, rfl, rfl, rfl, rfl, rfl, rfl⟩, rfl, rfl, rfl, (by go_num : Value.int .i64 (↑i + 1) = .int .i64 ↑(i + 1)), by rw [Hany.out]; rfl, HM.out _ _ Hm.out (grow (Below.refl _ _) _), Hrg.out.below (grow (Below.refl _ _) _), Hpb.out.below (grow (Below.refl _ _) _)⟩
  · obtain rfl : m = 0 := by omega
    obtain rfl : i = gs.length := by omega
    go_wp2_with fail
    exact hE.out _ _ ⟨gs.length, rfl, ⟨rfl, rfl, rfl, rfl, rfl, rfl, rfl, rfl, rfl, rfl, rfl, rfl, rfl, rfl⟩, ⟨rfl, rfl, rfl, rfl, rfl, rfl, rfl, rfl, rfl, rfl, rfl⟩, rfl, rfl, rfl, rfl, by rw [List.take_length]; rfl, Hm.out, Hrg.out, Hpb.out⟩
end Go.Proofs.Ytpjahdiddgdahaa
