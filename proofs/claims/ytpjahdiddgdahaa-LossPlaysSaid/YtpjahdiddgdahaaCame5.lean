/- LossPlays, the arm of what came: the greatest that came. -/
import Derived.Test.YtpjahdiddgdahaaStat
namespace Go.Proofs.Ytpjahdiddgdahaa
open Go.RowKit
set_option linter.unusedVariables false
set_option linter.unusedSimpArgs false

/-- The greatest of a number and of some packets'. -/
def ackF (mk : Int) (xs : List Pk) : Int := xs.foldl (fun m p => max m p.n) mk
theorem ackF_snoc (mk : Int) (xs : List Pk) (p : Pk) : ackF mk (xs ++ [p]) = max (ackF mk xs) p.n := by simp [ackF, List.foldl_append]
theorem ackF_in (mk : Int) (xs : List Pk) (h : -1 ≤ mk ∧ mk ≤ 1152921504606846976) (hx : ∀ p ∈ xs, p.n ≤ 1152921504606846976) : -1 ≤ ackF mk xs ∧ ackF mk xs ≤ 1152921504606846976 := by
  unfold ackF
  induction xs generalizing mk with
  | nil => exact h
  | cons p r ih =>
    simp only [List.foldl_cons]
    have := hx p (by simp)
    exact ih (max mk p.n) (by omega) (fun q hq => hx q (by simp [hq]))

noncomputable def pCame5 : Code := pieceAt [1, 1, 1, 1, 1, 1, 1, 1, 0, 1, 2, 3, 1, 1, 0, 2, 1, 1, 1, 0, 1, 2, 1, 5, 1, 4, 1, 1, 1, 1, 1, 1, 1, 1, 1, 1, 1, 1, 0, 1, 2, 3]

def I5 (M : World → Prop) (R L : Nat) (x20 x21 x22 cv : Value) (wn : Bool) (cs : List Pk) (mv : Value) (mk nx nw lt la : Int) (wt : Bool) (ac : Value) (len k : Nat) (m : Nat) (a : Act) (w : World) : Prop :=
  ∃ (j : Nat), j + m = cs.length ∧ Sl a R L mv (ackF mk (cs.take j)) nx nw lt la wt ac len k ∧ a.eval (.tmp 20) = x20 ∧ a.eval (.tmp 21) = x21 ∧ a.eval (.tmp 22) = x22 ∧ a.eval (.tmp 27) = cv ∧ a.eval (.tmp 29) = .bool wn ∧ a.eval (.tmp 320) = cv ∧ a.eval (.tmp 321) = .int .i64 cs.length ∧ a.eval (.tmp 322) = .int .i64 j ∧ M w

set_option maxRecDepth 1000000 in
set_option maxHeartbeats 4000000 in
theorem round5 {M : World → Prop} (hM : ∀ w w', M w → Below w.heap.size w w' → M w') {R L b1 : Nat} {x20 x21 x22 cv : Value} {wn : Bool} {cs : List Pk} (hR : ∀ w, M w → Rw w b1 cv cs) {mv : Value} {mk nx nw lt la : Int} {wt : Bool} {ac : Value} {len k : Nat} {m : Nat} {a : Act} {w : World}
    (h : I5 M R L x20 x21 x22 cv wn cs mv mk nx nw lt la wt ac len k m a w) (hlen : cs.length ≤ 101) (hfit : ∀ p ∈ cs, 0 ≤ p.n ∧ p.n ≤ 1152921504606846976) (hmk : -1 ≤ mk ∧ mk ≤ 1152921504606846976) (K : Act → World → Prop) (Q0 : Exit → Act → World → Prop)
    (hK : Hid (∀ a' w', (∃ m', m = m' + 1 ∧ I5 M R L x20 x21 x22 cv wn cs mv mk nx nw lt la wt ac len k m' a' w') → K a' w'))
    (hE : Hid (∀ a' w', I5 M R L x20 x21 x22 cv wn cs mv mk nx nw lt la wt ac len k 0 a' w' → Q0 (.exit 11) a' w')) : Code.wp Try.prog pCame5 (Exit.then K Q0) a w := by
  obtain ⟨j, hj, hs, s20, s21, s22, s27, s29, s320, s321, s322, hm⟩ := h
  obtain ⟨hsz, hnd, s3, s5, s6, s7, s8, s9, s10, s11, s12, s64, s65, s66⟩ := hs
  obtain ⟨g, hg, rfl⟩ := act_lit a hsz hnd
  simp only [hg] at s3 s5 s6 s7 s8 s9 s10 s11 s12 s64 s65 s66 s20 s21 s22 s27 s29 s320 s321 s322
  clear hg hsz hnd
  unfold lit pCame5
  conv => arg 2; whnf
  simp only [s3, s5, s6, s7, s8, s9, s10, s11, s12, s64, s65, s66, s20, s21, s22, s27, s29, s320, s321, s322]
  clear s3 s5 s6 s7 s8 s9 s10 s11 s12 s64 s65 s66 s20 s21 s22 s27 s29 s320 s321 s322
  obtain ⟨ad, cap, hv, hcs⟩ := (hR w hm).shape
  subst hv
  have Hcs := Lib.hid hcs
  have Hm := Lib.hid hm
  have HM := Lib.hid hM
  have Hfit := Lib.hid hfit
  have HR := Lib.hid hR
  clear hcs hm hM hfit hR
  by_cases hlt : j < cs.length
  · obtain ⟨g', rfl, hg', hgl, hgo, d0, d1, d2, d3, d4⟩ := Hcs.out j cs[j] (List.getElem?_eq_getElem hlt)
    obtain ⟨hp0, hp1⟩ := Hfit.out cs[j] (List.getElem_mem hlt)
    have hstep : cs.take (j + 1) = cs.take j ++ [cs[j]] := List.take_succ_eq_append_getElem hlt
    obtain ⟨ha0, ha1⟩ := ackF_in mk (cs.take j) hmk (fun p hp => (Hfit.out p (List.mem_of_mem_take hp)).2)
    have hsn := ackF_snoc mk (cs.take j) cs[j]
    rw [← hstep] at hsn
    generalize cs[j] = p at *
    have Hsn := Lib.hid hsn
    clear hstep hsn
    generalize ackF mk (cs.take j) = ah at *
    go_wp2_with fail
    refine hK.out _ _ ⟨m - 1, by omega, j + 1, by omega, ⟨rfl, rfl, rfl, rfl, rfl, ?_, rfl, rfl, rfl, rfl, rfl, rfl, rfl, rfl⟩, rfl, rfl, rfl, rfl, rfl, rfl, rfl, (by go_num : Value.int .i64 (↑j + 1) = .int .i64 ↑(j + 1)), HM.out _ _ Hm.out (grow (Below.refl _ _) _)⟩
    rw [Hsn.out]
    rfl
  · obtain rfl : m = 0 := by omega
    obtain rfl : j = cs.length := by omega
    go_wp2_with fail
    exact hE.out _ _ ⟨cs.length, rfl, ⟨rfl, rfl, rfl, rfl, rfl, by rw [List.take_length]; rfl, rfl, rfl, rfl, rfl, rfl, rfl, rfl, rfl⟩, rfl, rfl, rfl, rfl, rfl, rfl, rfl, rfl, Hm.out⟩
end Go.Proofs.Ytpjahdiddgdahaa
