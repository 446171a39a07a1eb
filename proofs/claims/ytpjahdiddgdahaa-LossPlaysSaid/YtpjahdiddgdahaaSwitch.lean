/- LossPlays: the switch. -/
import Derived.Test.YtpjahdiddgdahaaArmFind
import Derived.Test.YtpjahdiddgdahaaArmCameAll
import Derived.Test.YtpjahdiddgdahaaArmSentAll
import Derived.Test.YtpjahdiddgdahaaArmDrop
import Derived.Test.YtpjahdiddgdahaaTailAll
namespace Go.Proofs.Ytpjahdiddgdahaa
open Go.RowKit
set_option linter.unusedVariables false
set_option linter.unusedSimpArgs false

noncomputable def pS85 : Code := pieceAt [1, 1, 1, 1, 1, 1, 1, 1, 0, 1, 2, 3, 1, 1, 0, 2, 1, 1, 1, 0, 1, 2, 1, 5, 1, 5]

set_option maxRecDepth 1000000 in
set_option maxHeartbeats 8000000 in
theorem sw85 {w0 : World} {R L : Nat} {rl re rs rva : Int} {v mv : Value} {ps : List Pk} {so wt : Bool} {ak la ls nx nw la' wait kk : Int} {ac : Value} {len k A : Nat} {x : Ac} {a : Act} {w : World}
    (hs : Sl a R L mv (mkOf so ak) nx nw ls la' wt ac len k) (s14 : a.eval (.tmp 14) = .pointer (some ⟨A, 0, none⟩)) (s15 : a.eval (.tmp 15) = .int .u8 kk) (hm : Mm w0 L R rl re rs rva v mv ps so wt ak la ls w) (hn : Nm ps so ak nx nw (k + 1)) (hla : wt = true → la' = la) (hab : Ab w A x) (hx : x.Ok)
    (hwe : Hid (wait = max (9 * max rs rl / 8) 1000)) (hrl : 0 ≤ rl ∧ rl ≤ 1125899906842624) (hrs : 0 ≤ rs ∧ rs ≤ 1125899906842624)
    (Q : Exit → Act → World → Prop) (hK : Hid (∀ a' w', Jt w0 R L rl re rs rva nw ac len k a' w' → Q .normal a' w')) (hE : Hid (∀ a' w', Jt w0 R L rl re rs rva nw ac len k a' w' → Q (.exit 2) a' w')) : Code.wp Try.prog pS85 Q a w := by
  obtain ⟨hsz, hnd, s3, s5, s6, s7, s8, s9, s10, s11, s12, s64, s65, s66⟩ := hs
  obtain ⟨g, hg, rfl⟩ := act_lit a hsz hnd
  simp only [hg] at s3 s5 s6 s7 s8 s9 s10 s11 s12 s64 s65 s66 s14 s15
  clear hg hsz hnd
  unfold lit pS85
  conv => arg 2; whnf
  simp only [s3, s5, s6, s7, s8, s9, s10, s11, s12, s64, s65, s66, s14, s15]
  clear s3 s5 s6 s7 s8 s9 s10 s11 s12 s64 s65 s66 s14 s15
  refine wp_seq_k (fun K hc => ?_)
  have Hc := Lib.hid hc
  have Hm := Lib.hid hm
  have Hn := Lib.hid hn
  have Hla := Lib.hid hla
  have Hab := Lib.hid hab
  have Hx := Lib.hid hx
  clear hc hm hn hla hab hx
  by_cases h9 : kk < 9
  · go_wp2_with fail
    refine Hc.out _ _ (wp_cond_true rfl ?_)
    refine armFind (la' := la') ?_ Hm.out Hn.out hwe hrl hrs Q hK
    exact ⟨rfl, rfl, rfl, rfl, rfl, rfl, rfl, rfl, rfl, rfl, rfl, rfl, rfl, rfl⟩
  · have t9 : decide (kk < 9) = false := decide_eq_false h9
    clear h9
    go_wp2_with fail
    refine Hc.out _ _ (wp_cond_false rfl ?_)
    refine armDrop ?_ ?_ Hm.out Hn.out Hla.out Hab.out Hx.out Q hK
    · exact ⟨rfl, rfl, rfl, rfl, rfl, rfl, rfl, rfl, rfl, rfl, rfl, rfl, rfl, rfl⟩
    · exact rfl

noncomputable def pS42 : Code := pieceAt [1, 1, 1, 1, 1, 1, 1, 1, 0, 1, 2, 3, 1, 1, 0, 2, 1, 1, 1, 0, 1, 2, 1, 5]

set_option maxRecDepth 1000000 in
set_option maxHeartbeats 8000000 in
theorem sw42 {w0 : World} {R L : Nat} {rl re rs rva : Int} {v mv : Value} {ps : List Pk} {so wt : Bool} {ak la ls nx nw la' wait kk : Int} {ac : Value} {len k A : Nat} {x : Ac} {a : Act} {w : World}
    (hs : Sl a R L mv (mkOf so ak) nx nw ls la' wt ac len k) (s14 : a.eval (.tmp 14) = .pointer (some ⟨A, 0, none⟩)) (s15 : a.eval (.tmp 15) = .int .u8 kk) (hm : Mm w0 L R rl re rs rva v mv ps so wt ak la ls w) (hn : Nm ps so ak nx nw (k + 1)) (hla : wt = true → la' = la) (hab : Ab w A x) (hx : x.Ok)
    (hwe : Hid (wait = max (9 * max rs rl / 8) 1000)) (hrl : 0 ≤ rl ∧ rl ≤ 1125899906842624) (hrs : 0 ≤ rs ∧ rs ≤ 1125899906842624)
    (Q : Exit → Act → World → Prop) (hK : Hid (∀ a' w', Jt w0 R L rl re rs rva nw ac len k a' w' → Q .normal a' w')) (hE : Hid (∀ a' w', Jt w0 R L rl re rs rva nw ac len k a' w' → Q (.exit 2) a' w')) : Code.wp Try.prog pS42 Q a w := by
  obtain ⟨hsz, hnd, s3, s5, s6, s7, s8, s9, s10, s11, s12, s64, s65, s66⟩ := hs
  obtain ⟨g, hg, rfl⟩ := act_lit a hsz hnd
  simp only [hg] at s3 s5 s6 s7 s8 s9 s10 s11 s12 s64 s65 s66 s14 s15
  clear hg hsz hnd
  unfold lit pS42
  conv => arg 2; whnf
  simp only [s3, s5, s6, s7, s8, s9, s10, s11, s12, s64, s65, s66, s14, s15]
  clear s3 s5 s6 s7 s8 s9 s10 s11 s12 s64 s65 s66 s14 s15
  refine wp_seq_k (fun K hc => ?_)
  have Hc := Lib.hid hc
  have Hm := Lib.hid hm
  have Hn := Lib.hid hn
  have Hla := Lib.hid hla
  have Hab := Lib.hid hab
  have Hx := Lib.hid hx
  clear hc hm hn hla hab hx
  by_cases h7 : kk < 7
  · go_wp2_with fail
    refine Hc.out _ _ (wp_cond_true rfl ?_)
    refine armCame ?_ ?_ Hm.out Hn.out Hla.out Hab.out Hx.out Q hK hE
    · exact ⟨rfl, rfl, rfl, rfl, rfl, rfl, rfl, rfl, rfl, rfl, rfl, rfl, rfl, rfl⟩
    · exact rfl
  · have t7 : decide (kk < 7) = false := decide_eq_false h7
    clear h7
    go_wp2_with fail
    refine Hc.out _ _ (wp_cond_false rfl ?_)
    refine sw85 (kk := kk) ?_ ?_ ?_ Hm.out Hn.out Hla.out Hab.out Hx.out hwe hrl hrs Q hK hE
    · exact ⟨rfl, rfl, rfl, rfl, rfl, rfl, rfl, rfl, rfl, rfl, rfl, rfl, rfl, rfl⟩
    · exact rfl
    · exact rfl

noncomputable def pSw : Code := pieceAt [1, 1, 1, 1, 1, 1, 1, 1, 0, 1, 2, 3, 1, 1, 0, 2, 1, 1, 1, 0, 1, 2, 1]

theorem switch_any {w0 : World} {R L : Nat} {rl re rs rva : Int} {v mv : Value} {ps : List Pk} {so wt : Bool} {ak la ls nx nw la' wait kk : Int} {ac : Value} {len k A : Nat} {x : Ac} {a : Act} {w : World}
    (hs : Sl a R L mv (mkOf so ak) nx nw ls la' wt ac len k) (s14 : a.eval (.tmp 14) = .pointer (some ⟨A, 0, none⟩)) (s15 : a.eval (.tmp 15) = .int .u8 kk) (s102 : a.eval (.tmp 102) = .bool (decide (kk < 5))) (hm : Mm w0 L R rl re rs rva v mv ps so wt ak la ls w) (hn : Nm ps so ak nx nw (k + 1)) (hlen : ps.length ≤ k) (hla : wt = true → la' = la) (hab : Ab w A x) (hx : x.Ok)
    (hwe : Hid (wait = max (9 * max rs rl / 8) 1000)) (hrl : 0 ≤ rl ∧ rl ≤ 1125899906842624) (hrs : 0 ≤ rs ∧ rs ≤ 1125899906842624)
    (Q : Exit → Act → World → Prop) (hK : Hid (∀ a' w', Jt w0 R L rl re rs rva nw ac len k a' w' → Q .normal a' w')) (hE : Hid (∀ a' w', Jt w0 R L rl re rs rva nw ac len k a' w' → Q (.exit 2) a' w')) (hR : Hid (∀ a' w', a'.defers = [] → a'.eval (.tmp 4) = .bool true → Below w0.heap.size w0 w' → Q .ret a' w')) : Code.wp Try.prog pSw Q a w := by
  have e0 : pSw = .cond (.tmp 102) pSent pS42 := rfl
  rw [e0]
  by_cases h5 : kk < 5
  · exact wp_cond_true (by rw [s102, decide_eq_true h5]) (armSent hs s14 hm hn hlen hla hab hx Q hK hE hR)
  · exact wp_cond_false (by rw [s102, decide_eq_false h5]) (sw42 hs s14 s15 hm hn hla hab hx hwe hrl hrs Q hK hE)
end Go.Proofs.Ytpjahdiddgdahaa
