/- LossPlays, behind the switch, whole. -/
import Derived.Test.YtpjahdiddgdahaaTell2
namespace Go.Proofs.Ytpjahdiddgdahaa
open Go.RowKit
set_option linter.unusedVariables false
set_option linter.unusedSimpArgs false

noncomputable def pTail : Code := pieceAt [1, 1, 1, 1, 1, 1, 1, 1, 0, 1, 2, 3, 1, 1, 0, 2, 1, 1, 1, 1]

set_option maxRecDepth 1000000 in
set_option maxHeartbeats 4000000 in
theorem tail_any {w0 : World} {R L : Nat} {rl re rs rva : Int} {v mv : Value} {ps : List Pk} {so wt : Bool} {ak la ls nx nw la' : Int} {ac : Value} {len k : Nat} {a : Act} {w : World}
    (hs : Sl a R L mv (mkOf so ak) nx nw ls la' wt ac len k) (hm : Mm w0 L R rl re rs rva v mv ps so wt ak la ls w) (hn : Nm ps so ak nx nw (k + 1)) (hla : wt = true → la' = la)
    (Q : Exit → Act → World → Prop) (hK : Hid (∀ a' w', Sl a' R L mv (mkOf so ak) nx nw ls la' wt ac len k → Mm w0 L R rl re rs rva v mv ps so wt ak la ls w' → Q .normal a' w')) : Code.wp Try.prog pTail Q a w := by
  obtain ⟨hsz, hnd, s3, s5, s6, s7, s8, s9, s10, s11, s12, s64, s65, s66⟩ := hs
  obtain ⟨g, hg, rfl⟩ := act_lit a hsz hnd
  simp only [hg] at s3 s5 s6 s7 s8 s9 s10 s11 s12 s64 s65 s66
  clear hg hsz hnd
  unfold lit pTail
  conv => arg 2; whnf
  simp only [s3, s5, s6, s7, s8, s9, s10, s11, s12, s64, s65, s66]
  clear s3 s5 s6 s7 s8 s9 s10 s11 s12 s64 s65 s66
  obtain ⟨ad, cap, hv, hcs⟩ := hm.row.shape
  subst hv
  have Hm := Lib.hid hm
  have Hn := Lib.hid hn
  have Hla := Lib.hid hla
  have hlen : ps.length ≤ 101 := by have := hn.len; have := hn.k1; omega
  have hfit : Hid (∀ p ∈ ps, 0 ≤ p.s ∧ p.s ≤ 65535) := fun p hp => (hn.fits p hp).2.2
  clear hm hn hla hcs
  go_wp2_with fail
  rename_i K hc
  refine wp_loop_k (I8 w0 R L rl re rs rva v (.slice ad ps.length cap) ps so wt ak la ls (mkOf so ak) nx nw ls la' wt ac len k) (m := ps.length) (fun m a w h => ?_) ⟨0, by omega, ⟨rfl, rfl, rfl, rfl, rfl, rfl, rfl, rfl, rfl, rfl, rfl, rfl, rfl, rfl⟩, rfl, rfl, rfl, rfl, rfl, Hm.out⟩
  refine round8 h hlen hfit.out _ _ (fun _ _ h => h) (fun a' w' h => ?_)
  refine inBlock_exit (hc _ _ ?_)
  obtain ⟨j, hj, hs, -, -, -, s44, s45, hm⟩ := h
  obtain rfl : j = ps.length := by omega
  rw [List.take_length] at s44 s45
  exact tell_any hs s44 s45 hm Hn.out Hla.out Q hK.out
end Go.Proofs.Ytpjahdiddgdahaa
