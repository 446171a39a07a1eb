/- LossPlays: the rounds. -/
import Derived.Test.YtpjahdiddgdahaaIter
import Derived.Deep.Cut
import Derived.Deep.CutBlock
namespace Go.Proofs.Ytpjahdiddgdahaa
open Go.RowKit
set_option linter.unusedVariables false
set_option linter.unusedSimpArgs false

/-- At the head of the rounds: k acts are done. -/
def I1 (w0 : World) (R L : Nat) (rl re rs rva : Int) (ac : Value) (len : Nat) (m : Nat) (a : Act) (w : World) : Prop :=
  ∃ (k : Nat) (v mv : Value) (ps : List Pk) (so wt : Bool) (ak la ls nx nw la' : Int), k + m = len ∧ k ≤ 100 ∧ Sl a R L mv (mkOf so ak) nx nw ls la' wt ac len k ∧ Mm w0 L R rl re rs rva v mv ps so wt ak la ls w ∧ Nm ps so ak nx nw k ∧ (wt = true → la' = la)

noncomputable def p114 : Code := pieceAt [1, 1, 1, 1, 1, 1, 1, 1, 0, 1, 2, 3, 1, 1]

set_option maxRecDepth 1000000 in
set_option maxHeartbeats 4000000 in
theorem round1c {w0 : World} {R L : Nat} {rl re rs rva nw : Int} {ac : Value} {len k m : Nat} {a : Act} {w : World} (h : Jt w0 R L rl re rs rva nw ac len k a w) (hk : k < 100) (hkl : k < len) (hm : k + m = len)
    (Q : Exit → Act → World → Prop) (hK : Hid (∀ a' w', (∃ m', m = m' + 1 ∧ I1 w0 R L rl re rs rva ac len m' a' w') → Q .normal a' w')) : Code.wp Try.prog (stp p114 1) Q a w := by
  obtain ⟨v, mv, ps, so, wt, ak, la, ls, nx, la', hs, hmm, hn, hla⟩ := h
  obtain ⟨hsz, hnd, s3, s5, s6, s7, s8, s9, s10, s11, s12, s64, s65, s66⟩ := hs
  obtain ⟨g, hg, rfl⟩ := act_lit a hsz hnd
  simp only [hg] at s3 s5 s6 s7 s8 s9 s10 s11 s12 s64 s65 s66
  clear hg hsz hnd
  unfold lit p114
  conv => arg 2; whnf
  simp only [s3, s5, s6, s7, s8, s9, s10, s11, s12, s64, s65, s66]
  clear s3 s5 s6 s7 s8 s9 s10 s11 s12 s64 s65 s66
  have Hm := Lib.hid hmm
  have Hn := Lib.hid hn
  have Hla := Lib.hid hla
  clear hmm hn hla
  go_wp2_with fail
  exact hK.out _ _ ⟨m - 1, by omega, k + 1, v, mv, ps, so, wt, ak, la, ls, nx, nw, la', by omega, by omega, ⟨rfl, rfl, rfl, rfl, rfl, rfl, rfl, rfl, rfl, rfl, rfl, rfl, rfl, (by go_num : Value.int .i64 (↑k + 1) = .int .i64 ↑(k + 1))⟩, Hm.out, Hn.out, Hla.out⟩

noncomputable def pL1 : Code := pieceAt [1, 1, 1, 1, 1, 1, 1, 1, 0, 1, 2, 3]

set_option maxRecDepth 1000000 in
set_option maxHeartbeats 8000000 in
theorem round1 {w0 : World} {R L : Nat} {rl re rs rva wait : Int} {a0 : Option Addr} {len cap m : Nat} {A : Nat → Ac} {a : Act} {w : World} (h : I1 w0 R L rl re rs rva (.slice a0 len cap) len m a w) (hA : ActsAre w0 a0 len A)
    (hwe : Hid (wait = max (9 * max rs rl / 8) 1000)) (hrl : 0 ≤ rl ∧ rl ≤ 1125899906842624) (hrs : 0 ≤ rs ∧ rs ≤ 1125899906842624) (K : Act → World → Prop) (Q0 : Exit → Act → World → Prop)
    (hK : Hid (∀ a' w', (∃ m', m = m' + 1 ∧ I1 w0 R L rl re rs rva (.slice a0 len cap) len m' a' w') → K a' w'))
    (hX : Hid (∀ a' w', a'.tmps.size = 493 → a'.defers = [] → Below w0.heap.size w0 w' → Q0 (.exit 0) a' w')) (hR : Hid (∀ a' w', a'.defers = [] → a'.eval (.tmp 4) = .bool true → Below w0.heap.size w0 w' → Q0 .ret a' w')) : Code.wp Try.prog pL1 (Exit.then K Q0) a w := by
  obtain ⟨k, v, mv, ps, so, wt, ak, la, ls, nx, nw, la', hkm, hk, hs, hm, hn, hla⟩ := h
  have hll : len ≤ 9223372036854775807 := hA.1
  obtain ⟨hsz, hnd, s3, s5, s6, s7, s8, s9, s10, s11, s12, s64, s65, s66⟩ := hs
  obtain ⟨g, hg, rfl⟩ := act_lit a hsz hnd
  simp only [hg] at s3 s5 s6 s7 s8 s9 s10 s11 s12 s64 s65 s66
  clear hg hsz hnd
  unfold lit pL1
  conv => arg 2; whnf
  simp only [s3, s5, s6, s7, s8, s9, s10, s11, s12, s64, s65, s66]
  clear s3 s5 s6 s7 s8 s9 s10 s11 s12 s64 s65 s66
  have HA := Lib.hid hA
  have Hm := Lib.hid hm
  have Hn := Lib.hid hn
  have Hla := Lib.hid hla
  clear hm hn hla hA
  by_cases hkl : k < len
  · go_upto_block 1 with (fail)
    rename_i K3 hc3
    have Hc3 := Lib.hid hc3
    clear hc3
    refine wp_block ?_
    refine iter_any (cap := cap) (la' := la') (nw := nw) (nx := nx) (k := k) ?_ Hm.out Hn.out hk hkl hll Hla.out HA.out hwe hrl hrs _ (fun nw' a' w' hj h100 => ?_) (fun a' w' h1 h2 h3 => ?_) (fun a' w' h1 h2 h3 => hR.out a' w' h1 h2 h3)
    · exact ⟨rfl, rfl, rfl, rfl, rfl, rfl, rfl, rfl, rfl, rfl, rfl, rfl, rfl, rfl⟩
    · exact Hc3.out _ _ (round1c hj h100 hkl hkm _ hK)
    · show (if (0 : Nat) = 1 then K3 a' w' else Q0 (.exit 0) a' w')
      rw [if_neg (by decide)]
      exact hX.out a' w' h1 h2 h3
  · have hkl' : len ≤ k := by omega
    clear hkl
    go_wp2_with fail
    exact hX.out _ _ rfl rfl Hm.out.be
end Go.Proofs.Ytpjahdiddgdahaa
