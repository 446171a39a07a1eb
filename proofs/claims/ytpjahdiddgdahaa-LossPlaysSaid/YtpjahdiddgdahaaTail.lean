/- LossPlays: behind the switch: what is on its way, who waits; and the ledger's own answers. -/
import Derived.Test.YtpjahdiddgdahaaStat
namespace Go.Proofs.Ytpjahdiddgdahaa
open Go.RowKit
set_option linter.unusedVariables false
set_option linter.unusedSimpArgs false

noncomputable def pTail8 : Code := pieceAt [1, 1, 1, 1, 1, 1, 1, 1, 0, 1, 2, 3, 1, 1, 0, 2, 1, 1, 1, 1, 1, 0, 1, 2, 3]

def I8 (w0 : World) (R L : Nat) (rl re rs rva : Int) (v mv : Value) (ps : List Pk) (so wt : Bool) (ak la ls mk nx nw lt la' : Int) (wt' : Bool) (ac : Value) (len k : Nat) (m : Nat) (a : Act) (w : World) : Prop :=
  ∃ j : Nat, j + m = ps.length ∧ Sl a R L mv mk nx nw lt la' wt' ac len k ∧ a.eval (.tmp 413) = mv ∧ a.eval (.tmp 414) = .int .i64 ps.length ∧ a.eval (.tmp 415) = .int .i64 j ∧
    a.eval (.tmp 44) = .int .u64 (flS (ps.take j)) ∧ a.eval (.tmp 45) = .bool (waS (ps.take j)) ∧ Mm w0 L R rl re rs rva v mv ps so wt ak la ls w

set_option maxRecDepth 1000000 in
set_option maxHeartbeats 4000000 in
theorem round8 {w0 : World} {R L : Nat} {rl re rs rva : Int} {v mv : Value} {ps : List Pk} {so wt : Bool} {ak la ls mk nx nw lt la' : Int} {wt' : Bool} {ac : Value} {len k : Nat} {m : Nat} {a : Act} {w : World}
    (h : I8 w0 R L rl re rs rva v mv ps so wt ak la ls mk nx nw lt la' wt' ac len k m a w) (hlen : ps.length ≤ 101) (hfit : ∀ p ∈ ps, 0 ≤ p.s ∧ p.s ≤ 65535) (K : Act → World → Prop) (Q0 : Exit → Act → World → Prop)
    (hK : Hid (∀ a' w', (∃ m', m = m' + 1 ∧ I8 w0 R L rl re rs rva v mv ps so wt ak la ls mk nx nw lt la' wt' ac len k m' a' w') → K a' w'))
    (hE : Hid (∀ a' w', I8 w0 R L rl re rs rva v mv ps so wt ak la ls mk nx nw lt la' wt' ac len k 0 a' w' → Q0 (.exit 16) a' w')) : Code.wp Try.prog pTail8 (Exit.then K Q0) a w := by
  obtain ⟨j, hj, hs, s413, s414, s415, s44, s45, hm⟩ := h
  obtain ⟨hsz, hnd, s3, s5, s6, s7, s8, s9, s10, s11, s12, s64, s65, s66⟩ := hs
  obtain ⟨g, hg, rfl⟩ := act_lit a hsz hnd
  simp only [hg] at s3 s5 s6 s7 s8 s9 s10 s11 s12 s64 s65 s66 s413 s414 s415 s44 s45
  clear hg hsz hnd
  unfold lit pTail8
  conv => arg 2; whnf
  simp only [s3, s5, s6, s7, s8, s9, s10, s11, s12, s64, s65, s66, s413, s414, s415, s44, s45]
  clear s3 s5 s6 s7 s8 s9 s10 s11 s12 s64 s65 s66 s413 s414 s415 s44 s45
  obtain ⟨ad, cap, hv, hcs⟩ := hm.row.shape
  subst hv
  have Hcs := Lib.hid hcs
  have Hm := Lib.hid hm
  have Hfit := Lib.hid hfit
  clear hcs hm hfit
  by_cases hlt : j < ps.length
  · obtain ⟨g', rfl, hg', hgl, hgo, d0, d1, d2, d3, d4⟩ := Hcs.out j ps[j] (List.getElem?_eq_getElem hlt)
    have hp := Hfit.out ps[j] (List.getElem_mem hlt)
    have hb := flS_in (ps.take j) (fun p hp => Hfit.out p (List.mem_of_mem_take hp))
    have hlk : (ps.take j).length ≤ 101 := Nat.le_trans (List.length_take_le _ _) (by omega)
    have hstep : ps.take (j + 1) = ps.take j ++ [ps[j]] := List.take_succ_eq_append_getElem hlt
    have hsn := flS_snoc (ps.take j) ps[j]
    rw [← hstep] at hsn
    have hwn : waS (ps.take (j + 1)) = (waS (ps.take j) || (ps[j].e && ps[j].f)) := by unfold waS; rw [hstep, List.any_append]; simp
    generalize ps[j] = p at *
    generalize flS (ps.take j) = S at *
    generalize hbb : waS (ps.take j) = b at *
    obtain ⟨hb1, hb2⟩ := hb
    obtain ⟨hp1, hp2⟩ := hp
    have hS : S ≤ 65535 * 101 := by omega
    have Hsn := Lib.hid hsn
    have Hwn := Lib.hid hwn
    have Hbb := Lib.hid hbb
    clear hstep hsn hb2 hlk hwn hbb
    cases hf : p.f <;> cases he : p.e <;> cases b
    all_goals
      rw [hf] at d4
      rw [he] at d3
      have Hf := Lib.hid hf
      have He := Lib.hid he
      clear hf he
      go_wp2_with fail
      refine hK.out _ _ ⟨m - 1, by omega, j + 1, by omega, ⟨rfl, rfl, rfl, rfl, rfl, rfl, rfl, rfl, rfl, rfl, rfl, rfl, rfl, rfl⟩, rfl, rfl, (by go_num : Value.int .i64 (↑j + 1) = .int .i64 ↑(j + 1)), ?_, ?_, Hm.out.below (grow (Below.refl _ _) _)⟩
      · rw [Hsn.out, Hf.out]; simp; rfl
      · rw [Hwn.out, Hf.out, He.out]; rfl
  · obtain rfl : m = 0 := by omega
    obtain rfl : j = ps.length := by omega
    go_wp2_with fail
    exact hE.out _ _ ⟨ps.length, rfl, ⟨rfl, rfl, rfl, rfl, rfl, rfl, rfl, rfl, rfl, rfl, rfl, rfl, rfl, rfl⟩, rfl, rfl, rfl, by rw [List.take_length]; rfl, by rw [List.take_length]; rfl, Hm.out⟩
end Go.Proofs.Ytpjahdiddgdahaa
