/- LossPlays, the arm of what came: the law's own look at the ranges. -/
import Derived.Test.YtpjahdiddgdahaaStat
import Derived.Test.YtpjahdiddgdahaaCame
namespace Go.Proofs.Ytpjahdiddgdahaa
open Go.RowKit
set_option linter.unusedVariables false
set_option linter.unusedSimpArgs false

/-- Behind j ranges: was one bad; the greatest number. -/
def Bd (nx : Int) (gs : List (Int × Int)) (j : Nat) (b : Bool) (h : Int) : Prop := b = (gs.take j).any (fun r => !goodR nx r) ∧ (b = false → h = endOf (gs.take j) - 1)
theorem Bd.good {nx : Int} {gs : List (Int × Int)} {j : Nat} {h : Int} {r : Int × Int} (hb : Bd nx gs j false h) (hs : gs.take (j + 1) = gs.take j ++ [r]) (hg : goodR nx r = true) : Bd nx gs (j + 1) false (max h (r.2 - 1)) := by
  refine ⟨by rw [hs, List.any_append, ← hb.1]; simp [hg], fun _ => ?_⟩
  rw [hs, endOf_snoc, hb.2 rfl]
  omega
theorem Bd.bad {nx : Int} {gs : List (Int × Int)} {j : Nat} {h : Int} {b : Bool} {r : Int × Int} (hb : Bd nx gs j b h) (hs : gs.take (j + 1) = gs.take j ++ [r]) (hg : goodR nx r = false) : Bd nx gs (j + 1) true h :=
  ⟨by rw [hs, List.any_append]; simp [hg], (fun h => nomatch h)⟩
theorem Bd.stay {nx : Int} {gs : List (Int × Int)} {j : Nat} {h : Int} {r : Int × Int} (hb : Bd nx gs j true h) (hs : gs.take (j + 1) = gs.take j ++ [r]) : Bd nx gs (j + 1) true h :=
  ⟨by rw [hs, List.any_append, ← hb.1]; rfl, (fun h => nomatch h)⟩

noncomputable def pCame2 : Code := pieceAt [1, 1, 1, 1, 1, 1, 1, 1, 0, 1, 2, 3, 1, 1, 0, 2, 1, 1, 1, 0, 1, 2, 1, 5, 1, 4, 1, 1, 1, 1, 1, 1, 0, 1, 2, 3]

def I2 (M : World → Prop) (R L : Nat) (gv : Value) (gs : List (Int × Int)) (x20 x21 x22 : Value) (mv : Value) (mk nx nw lt la : Int) (wt : Bool) (ac : Value) (len k : Nat) (m : Nat) (a : Act) (w : World) : Prop :=
  ∃ (j : Nat) (b : Bool) (h : Int), j + m = gs.length ∧ Sl a R L mv mk nx nw lt la wt ac len k ∧ a.eval (.tmp 19) = gv ∧ a.eval (.tmp 20) = x20 ∧ a.eval (.tmp 21) = x21 ∧ a.eval (.tmp 22) = x22 ∧ a.eval (.tmp 229) = gv ∧ a.eval (.tmp 230) = .int .i64 gs.length ∧ a.eval (.tmp 231) = .int .i64 j ∧
    a.eval (.tmp 23) = .bool b ∧ a.eval (.tmp 24) = .int .i64 h ∧ M w ∧ RgAre w gv gs ∧ Bd nx gs j b h ∧ -1 ≤ h ∧ h ≤ 1152921504606846976

set_option maxRecDepth 1000000 in
set_option maxHeartbeats 4000000 in
theorem round2 {M : World → Prop} (hM : ∀ w w', M w → Below w.heap.size w w' → M w') {R L : Nat} {gv : Value} {gs : List (Int × Int)} {x20 x21 x22 : Value} {mv : Value} {mk nx nw lt la : Int} {wt : Bool} {ac : Value} {len k : Nat} {m : Nat} {a : Act} {w : World}
    (h : I2 M R L gv gs x20 x21 x22 mv mk nx nw lt la wt ac len k m a w) (hlen : gs.length ≤ 10) (hin : ∀ r ∈ gs, (0 ≤ r.1 ∧ r.1 ≤ 18446744073709551615) ∧ 0 ≤ r.2 ∧ r.2 ≤ 18446744073709551615) (hnx : 0 ≤ nx ∧ nx ≤ 1152921504606846977) (K : Act → World → Prop) (Q0 : Exit → Act → World → Prop)
    (hK : Hid (∀ a' w', (∃ m', m = m' + 1 ∧ I2 M R L gv gs x20 x21 x22 mv mk nx nw lt la wt ac len k m' a' w') → K a' w'))
    (hE : Hid (∀ a' w', I2 M R L gv gs x20 x21 x22 mv mk nx nw lt la wt ac len k 0 a' w' → Q0 (.exit 5) a' w')) : Code.wp Try.prog pCame2 (Exit.then K Q0) a w := by
  obtain ⟨j, b, hh, hj, hs, s19, s20, s21, s22, s229, s230, s231, s23, s24, hm, hrg, hb, hh0, hh1⟩ := h
  obtain ⟨hsz, hnd, s3, s5, s6, s7, s8, s9, s10, s11, s12, s64, s65, s66⟩ := hs
  obtain ⟨g, hg, rfl⟩ := act_lit a hsz hnd
  simp only [hg] at s3 s5 s6 s7 s8 s9 s10 s11 s12 s64 s65 s66 s19 s20 s21 s22 s229 s230 s231 s23 s24
  clear hg hsz hnd
  unfold lit pCame2
  conv => arg 2; whnf
  simp only [s3, s5, s6, s7, s8, s9, s10, s11, s12, s64, s65, s66, s19, s20, s21, s22, s229, s230, s231, s23, s24]
  clear s3 s5 s6 s7 s8 s9 s10 s11 s12 s64 s65 s66 s19 s20 s21 s22 s229 s230 s231 s23 s24
  obtain ⟨ad, cap, hv, hcs⟩ := hrg
  have Hrg := Lib.hid (show RgAre w gv gs from ⟨ad, cap, hv, hcs⟩)
  subst hv
  have Hcs := Lib.hid hcs
  have Hm := Lib.hid hm
  have HM := Lib.hid hM
  have Hin := Lib.hid hin
  have Hb := Lib.hid hb
  obtain ⟨hnx0, hnx1⟩ := hnx
  clear hcs hm hM hin hb
  by_cases hlt : j < gs.length
  · obtain ⟨g', rfl, hgl, d0, d1⟩ := Hcs.out j gs[j] (List.getElem?_eq_getElem hlt)
    have hr := Hin.out gs[j] (List.getElem_mem hlt)
    have hstep : gs.take (j + 1) = gs.take j ++ [gs[j]] := List.take_succ_eq_append_getElem hlt
    generalize gs[j] = r at *
    obtain ⟨r1, r2⟩ := r
    obtain ⟨⟨hr0, hr1⟩, hr2, hr3⟩ := hr
    dsimp only at hr0 hr1 hr2 hr3 d0 d1
    have Hstep := Lib.hid hstep
    clear hstep
    cases b
    · by_cases h1 : r1 < r2
      · by_cases h2 : r2 ≤ nx
        · have hg : goodR nx (r1, r2) = true := by simp [goodR, h1, h2]
          have Hg := Lib.hid (Hb.out.good Hstep.out hg)
          clear hg
          have t1 : decide (r2 ≤ r1) = false := decide_eq_false (by omega)
          have t2 : decide (nx < r2) = false := decide_eq_false (by omega)
          go_wp2_with fail
          refine hK.out _ _ ⟨m - 1, by omega, j + 1, false, max hh (r2 - 1), by omega, ⟨rfl, rfl, rfl, rfl, rfl, rfl, rfl, rfl, rfl, rfl, rfl, rfl, rfl, rfl⟩, rfl, rfl, rfl, rfl, rfl, rfl, (by go_num : Value.int .i64 (↑j + 1) = .int .i64 ↑(j + 1)), rfl, rfl, HM.out _ _ Hm.out (grow (Below.refl _ _) _), Hrg.out.below (grow (Below.refl _ _) _), Hg.out, by omega, by omega⟩
        · have hg : goodR nx (r1, r2) = false := by simp [goodR]; omega
          have Hg := Lib.hid (Hb.out.bad Hstep.out hg)
          have h3 : nx < r2 := by omega
          clear hg h2
          go_wp2_with fail
          exact hK.out _ _ ⟨m - 1, by omega, j + 1, true, hh, by omega, ⟨rfl, rfl, rfl, rfl, rfl, rfl, rfl, rfl, rfl, rfl, rfl, rfl, rfl, rfl⟩, rfl, rfl, rfl, rfl, rfl, rfl, (by go_num : Value.int .i64 (↑j + 1) = .int .i64 ↑(j + 1)), rfl, rfl, HM.out _ _ Hm.out (grow (Below.refl _ _) _), Hrg.out.below (grow (Below.refl _ _) _), Hg.out, hh0, hh1⟩
      · have hg : goodR nx (r1, r2) = false := by simp [goodR]; omega
        have Hg := Lib.hid (Hb.out.bad Hstep.out hg)
        have h3 : r2 ≤ r1 := by omega
        clear hg h1
        go_wp2_with fail
        exact hK.out _ _ ⟨m - 1, by omega, j + 1, true, hh, by omega, ⟨rfl, rfl, rfl, rfl, rfl, rfl, rfl, rfl, rfl, rfl, rfl, rfl, rfl, rfl⟩, rfl, rfl, rfl, rfl, rfl, rfl, (by go_num : Value.int .i64 (↑j + 1) = .int .i64 ↑(j + 1)), rfl, rfl, HM.out _ _ Hm.out (grow (Below.refl _ _) _), Hrg.out.below (grow (Below.refl _ _) _), Hg.out, hh0, hh1⟩
    · go_wp2_with fail
      exact hK.out _ _ ⟨m - 1, by omega, j + 1, true, hh, by omega, ⟨rfl, rfl, rfl, rfl, rfl, rfl, rfl, rfl, rfl, rfl, rfl, rfl, rfl, rfl⟩, rfl, rfl, rfl, rfl, rfl, rfl, (by go_num : Value.int .i64 (↑j + 1) = .int .i64 ↑(j + 1)), rfl, rfl, HM.out _ _ Hm.out (grow (Below.refl _ _) _), Hrg.out.below (grow (Below.refl _ _) _), Hb.out.stay Hstep.out, hh0, hh1⟩
  · obtain rfl : m = 0 := by omega
    obtain rfl : j = gs.length := by omega
    go_wp2_with fail
    exact hE.out _ _ ⟨gs.length, b, hh, rfl, ⟨rfl, rfl, rfl, rfl, rfl, rfl, rfl, rfl, rfl, rfl, rfl, rfl, rfl, rfl⟩, rfl, rfl, rfl, rfl, rfl, rfl, rfl, rfl, rfl, Hm.out, Hrg.out, Hb.out, hh0, hh1⟩
end Go.Proofs.Ytpjahdiddgdahaa
