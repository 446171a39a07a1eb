/- LossPlays, behind the switch: the ledger's own answers are the law's. -/
import Derived.Test.YtpjahdiddgdahaaTail
namespace Go.Proofs.Ytpjahdiddgdahaa
open Go.RowKit
set_option linter.unusedVariables false
set_option linter.unusedSimpArgs false

noncomputable def pTell : Code := pieceAt [1, 1, 1, 1, 1, 1, 1, 1, 0, 1, 2, 3, 1, 1, 0, 2, 1, 1, 1, 1, 1, 1]

set_option maxRecDepth 1000000 in
set_option maxHeartbeats 4000000 in
theorem tell_any {w0 : World} {R L : Nat} {rl re rs rva : Int} {v mv : Value} {ps : List Pk} {so wt : Bool} {ak la ls nx nw la' : Int} {ac : Value} {len k : Nat} {a : Act} {w : World}
    (hs : Sl a R L mv (mkOf so ak) nx nw ls la' wt ac len k) (s44 : a.eval (.tmp 44) = .int .u64 (flS ps)) (s45 : a.eval (.tmp 45) = .bool (waS ps)) (hm : Mm w0 L R rl re rs rva v mv ps so wt ak la ls w) (hn : Nm ps so ak nx nw (k + 1)) (hla : wt = true → la' = la)
    (Q : Exit → Act → World → Prop) (hK : Hid (∀ a' w', Sl a' R L mv (mkOf so ak) nx nw ls la' wt ac len k → Mm w0 L R rl re rs rva v mv ps so wt ak la ls w' → Q .normal a' w')) : Code.wp Try.prog pTell Q a w := by
  obtain ⟨hsz, hnd, s3, s5, s6, s7, s8, s9, s10, s11, s12, s64, s65, s66⟩ := hs
  obtain ⟨g, hg, rfl⟩ := act_lit a hsz hnd
  simp only [hg] at s3 s5 s6 s7 s8 s9 s10 s11 s12 s64 s65 s66 s44 s45
  clear hg hsz hnd
  unfold lit pTell
  conv => arg 2; whnf
  simp only [s3, s5, s6, s7, s8, s9, s10, s11, s12, s64, s65, s66, s44, s45]
  clear s3 s5 s6 s7 s8 s9 s10 s11 s12 s64 s65 s66 s44 s45
  have Hm := Lib.hid hm
  have Hn := Lib.hid hn
  have hmany : ps.length ≤ 256 := by have := hn.len; have := hn.k1; omega
  clear hm hn
  have hfit : Hid (∀ p ∈ ps, 0 ≤ p.s ∧ p.s ≤ 65535) := fun p hp => (Hn.out.fits p hp).2.2
  go_wp2_with fail
  refine (waits_any L v ps so wt ak la ls _ Hm.out.led hmany).mono ?_
  rintro e w1 ⟨x, b, rfl, rfl, hx, hb⟩
  have Hm := Lib.hid (Hm.out.below hb)
  clear hb
  have Hx := Lib.hid hx
  clear hx
  go_wp2_with fail
  refine (lostat_any L v ps so wt ak la ls _ Hm.out.led).mono ?_
  rintro e w2 ⟨rfl, hb⟩
  have Hm := Lib.hid (Hm.out.below hb)
  clear hb
  go_wp2_with fail
  refine (list_any L v ps so wt ak la ls _ Hm.out.led hmany).mono ?_
  rintro e w3 ⟨v', rfl, hr, hb⟩
  have Hm := Lib.hid (Hm.out.below hb)
  have Hr := Lib.hid hr
  clear hb hr
  go_wp2_with fail
  refine (same_yes _ _ v' mv ps _ Hr.out Hm.out.row hmany).mono ?_
  rintro e w4 ⟨rfl, hb⟩
  have Hm := Lib.hid (Hm.out.below hb)
  clear hb Hr
  have hask : Calls Try.prog 12 #[.pointer (some ⟨L, 0, none⟩)] w4 fun e w' => e = .returned (.int .i64 (mkOf so ak)) ∧ Below w4.heap.size w4 w' := by
    have h0 := Hn.out.ak0
    have h2 := Hn.out.ak2
    have hl := Hm.out.led
    cases so
    · exact acked_none L v ps wt ak la ls w4 hl
    · exact acked_some L v ps wt ak la ls w4 hl h0 (by omega)
  have Hask := Lib.hid hask
  clear hask
  generalize hmkg : mkOf so ak = mk at *
  have Hmkg := Lib.hid hmkg
  clear hmkg
  go_wp2_with fail
  refine Hask.out.mono ?_
  clear Hask
  rintro e w5 ⟨rfl, hb⟩
  have Hm := Lib.hid (Hm.out.below hb)
  clear hb
  go_wp2_with fail
  refine (flight_any L v ps so wt ak la ls _ Hm.out.led hmany hfit.out).mono ?_
  rintro e w6 ⟨rfl, hb⟩
  have Hm := Lib.hid (Hm.out.below hb)
  clear hb
  obtain ⟨c0, -⟩ := Hm.out.led.cells
  obtain ⟨ad, cap, hv, -⟩ := Hm.out.led.2.shape
  rw [hv] at c0
  have Hv := Lib.hid hv
  have hps : ps.length < 256 := by have := Hn.out.len; have := Hn.out.k1; omega
  have Hc0 := Lib.hid c0
  have Hla := Lib.hid hla
  clear hv c0 hla
  generalize hwa : waS ps = bb at *
  have Hwa := Lib.hid hwa
  clear hwa
  cases bb <;> cases wt
  all_goals
    (try (have hxe := Hx.out rfl; subst hxe))
    (try (have hle := Hla.out rfl; subst hle))
    go_wp2_with fail
    refine (full_no L ad ps.length cap _ Hc0.out hps).mono ?_
    rintro e w7 ⟨rfl, rfl⟩
    go_wp2_with fail
    exact hK.out _ _ ⟨rfl, rfl, rfl, rfl, rfl, rfl, rfl, rfl, rfl, rfl, rfl, rfl, rfl, rfl⟩ Hm.out
end Go.Proofs.Ytpjahdiddgdahaa
