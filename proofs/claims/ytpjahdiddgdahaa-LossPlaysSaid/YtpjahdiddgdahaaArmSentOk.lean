/- LossPlays, the arm that sends: a packet that rises. -/
import Derived.Test.YtpjahdiddgdahaaArmSent
import Derived.Test.YtpjahdiddgdahaaFindLoop
namespace Go.Proofs.Ytpjahdiddgdahaa
open Go.RowKit
set_option linter.unusedVariables false
set_option linter.unusedSimpArgs false

theorem sent_rise {ps : List Pk} {so : Bool} {ak : Int} {p : Pk} (h : Rise ps) (hlow : ¬ lowB ps so ak p) : ∀ q ∈ ps, q.n < p.n := by
  rcases List.eq_nil_or_concat ps with h1 | ⟨qs, lst, h1⟩
  · subst h1; simp
  · rw [List.concat_eq_append] at h1
    subst h1
    have h2 : lst.n < p.n := by
      by_cases h3 : p.n ≤ lst.n
      · exact absurd (.inl ⟨qs, lst, rfl, h3⟩) hlow
      · omega
    intro q hq
    rcases List.mem_append.1 hq with h3 | h3
    · have h4 := (List.pairwise_append.1 h).2.2 q h3 lst (by simp)
      omega
    · simp at h3; subst h3; exact h2

noncomputable def pSent3 : Code := pieceAt [1, 1, 1, 1, 1, 1, 1, 1, 0, 1, 2, 3, 1, 1, 0, 2, 1, 1, 1, 0, 1, 2, 1, 4, 1, 1, 1, 1]

set_option maxRecDepth 1000000 in
set_option maxHeartbeats 8000000 in
theorem sent3 {w0 : World} {R L : Nat} {rl re rs rva : Int} {v mv : Value} {ps : List Pk} {so wt : Bool} {ak la ls ls' nx nw la' : Int} {ac : Value} {len k B : Nat} {p : Pk} {a : Act} {w : World}
    (hs : Sl a R L mv (mkOf so ak) nx nw ls la' wt ac len k) (s16 : a.eval (.tmp 16) = .pointer (some ⟨B, 0, none⟩)) (s17 : a.eval (.tmp 17) = .int .i64 0) (hm : Mt w0 L R rl re rs rva v mv (ps ++ [p]) ps so wt ak la ls' w) (hn : Nm ps so ak nx nw (k + 1)) (hlen : ps.length ≤ k) (hla : wt = true → la' = la) (hpb : Pb w B p) (hp : 0 ≤ p.n ∧ p.n ≤ 18446744073709551615) (hpa : p.a = nw) (hps : 0 ≤ p.s ∧ p.s ≤ 65535) (hlow : ¬ lowB ps so ak p)
    (hls : ls' = if p.e && p.f then p.a else ls) (hBm : mv.ownBlock ≠ some B)
    (Q : Exit → Act → World → Prop) (hK : Hid (∀ a' w', Jt w0 R L rl re rs rva nw ac len k a' w' → Q .normal a' w')) (hR : Hid (∀ a' w', a'.defers = [] → a'.eval (.tmp 4) = .bool true → Below w0.heap.size w0 w' → Q .ret a' w')) : Code.wp Try.prog pSent3 Q a w := by
  obtain ⟨hsz, hnd, s3, s5, s6, s7, s8, s9, s10, s11, s12, s64, s65, s66⟩ := hs
  obtain ⟨g, hg, rfl⟩ := act_lit a hsz hnd
  simp only [hg] at s3 s5 s6 s7 s8 s9 s10 s11 s12 s64 s65 s66 s16 s17
  clear hg hsz hnd
  unfold lit pSent3
  conv => arg 2; whnf
  simp only [s3, s5, s6, s7, s8, s9, s10, s11, s12, s64, s65, s66, s16, s17]
  clear s3 s5 s6 s7 s8 s9 s10 s11 s12 s64 s65 s66 s16 s17
  have hl1 : Hid (ps.length ≤ 1000) := by have := hn.k1; show ps.length ≤ 1000; omega
  have hL1 := Lib.hid (show L + 1 ≤ (w.alloc (.cells #[.int .u64 p.n, .int .u64 p.a, .int .u64 p.s, .bool p.e, .bool p.f] 31)).heap.size from by have := hm.led.lt; simp; omega)
  obtain ⟨d0, d1, d2, d3, d4⟩ := hpb.cells
  obtain ⟨hp0, hp1⟩ := hp
  have Hm := Lib.hid hm
  have Hn := Lib.hid hn
  have Hla := Lib.hid hla
  have Hpb := Lib.hid hpb
  have Hlow := Lib.hid hlow
  have Hpa := Lib.hid hpa
  have Hls := Lib.hid hls
  clear hm hn hla hpb hlow hpa hls
  go_wp2_with (at_builtin; go_must (refine wpList_append_pk rfl (.tmp 158) (.tmp 160) rfl (L + 1) mv ps rfl (Hm.out.row.below (grow (Below.refl _ _) _)) w.heap.size 1 p rfl (Pb.new _ _) hl1.out hL1.out ?_))
  intro mv' w5 hr6 hk6 ho6
  have Hm5 := Lib.hid (Hm.out.push hr6 hk6 (by simpa using ho6))
  have Hpb5 := Lib.hid ((Hpb.out.below (grow (Below.refl _ _) _)).kp hk6 hBm)
  clear hr6 hk6 ho6 d0 d1 d2 d3 d4 Hm Hpb hl1 hL1
  obtain ⟨d0, d1, d2, d3, d4⟩ := Hpb5.out.cells
  have Hbe := Lib.hid Hm5.out.be
  by_cases hbig : 1152921504606846976 < p.n
  · cases he : p.e <;> cases hf : p.f
    all_goals
      rw [he] at d3
      rw [hf] at d4
      clear he hf
      go_wp2_with fail
      exact hR.out _ _ rfl rfl Hbe.out
  · have hn5 := Lib.hid (nm_push Hn.out hlen Hlow.out hp0 (by omega) Hpa.out hps).2
    cases he : p.e <;> cases hf : p.f
    all_goals
      have hx := Hls.out
      rw [he, hf] at hx
      simp only [Bool.and_true, Bool.and_false, Bool.false_and, Bool.and_self, if_true, if_false, Bool.false_eq_true, ite_true, ite_false] at hx
      rw [he] at d3
      rw [hf] at d4
      clear he hf Hls
      try rw [Hpa.out] at hx
      subst hx
      go_wp2_with fail
      exact hK.out _ _ ⟨v, mv', ps ++ [p], so, wt, ak, la, _, p.n + 1, la', ⟨rfl, rfl, rfl, rfl, rfl, rfl, rfl, rfl, rfl, rfl, rfl, rfl, rfl, rfl⟩, Hm5.out, hn5.out, Hla.out⟩

set_option maxRecDepth 1000000 in
set_option maxHeartbeats 8000000 in
theorem sent_arm_ok {w0 : World} {R L : Nat} {rl re rs rva : Int} {v mv : Value} {ps : List Pk} {so wt : Bool} {ak la ls nx nw la' : Int} {ac : Value} {len k B : Nat} {p : Pk} {a : Act} {w : World}
    (hs : Sl a R L mv (mkOf so ak) nx nw ls la' wt ac len k) (s16 : a.eval (.tmp 16) = .pointer (some ⟨B, 0, none⟩)) (hm : Mm w0 L R rl re rs rva v mv ps so wt ak la ls w) (hn : Nm ps so ak nx nw (k + 1)) (hlen : ps.length ≤ k) (hla : wt = true → la' = la) (hpb : Pb w B p) (hp : 0 ≤ p.n ∧ p.n ≤ 18446744073709551615) (hpa : p.a = nw) (hps : 0 ≤ p.s ∧ p.s ≤ 65535) (hlow : ¬ lowB ps so ak p)
    (hBL : B ≠ L) (hBv : v.ownBlock ≠ some B) (hBm : mv.ownBlock ≠ some B)
    (Q : Exit → Act → World → Prop) (hK : Hid (∀ a' w', Jt w0 R L rl re rs rva nw ac len k a' w' → Q .normal a' w')) (hR : Hid (∀ a' w', a'.defers = [] → a'.eval (.tmp 4) = .bool true → Below w0.heap.size w0 w' → Q .ret a' w')) : Code.wp Try.prog pSent2 Q a w := by
  have hmany : ps.length < 256 := by have := hn.k1; omega
  have hakp : so = false ∨ ak < p.n := by
    cases so
    · exact .inl rfl
    · by_cases h3 : p.n ≤ ak
      · exact absurd (.inr ⟨rfl, h3⟩) hlow
      · exact .inr (by omega)
  obtain ⟨ls', hls⟩ : ∃ ls', ls' = if p.e && p.f then p.a else ls := ⟨_, rfl⟩
  have Hls := Lib.hid hls
  clear hls
  have hc := Lib.hid (sent_any L v so wt ak la ls ps p w hm.led hakp (sent_rise hn.rise hlow) hmany ls' Hls)
  obtain ⟨hsz, hnd, s3, s5, s6, s7, s8, s9, s10, s11, s12, s64, s65, s66⟩ := hs
  obtain ⟨g, hg, rfl⟩ := act_lit a hsz hnd
  simp only [hg] at s3 s5 s6 s7 s8 s9 s10 s11 s12 s64 s65 s66 s16
  clear hg hsz hnd
  unfold lit pSent2
  conv => arg 2; whnf
  simp only [s3, s5, s6, s7, s8, s9, s10, s11, s12, s64, s65, s66, s16]
  clear s3 s5 s6 s7 s8 s9 s10 s11 s12 s64 s65 s66 s16
  obtain ⟨d0, d1, d2, d3, d4⟩ := hpb.cells
  obtain ⟨hp0, hp1⟩ := hp
  have Hm := Lib.hid hm
  have Hn := Lib.hid hn
  have Hla := Lib.hid hla
  have Hpb := Lib.hid hpb
  have Hlow := Lib.hid hlow
  have Hakp := Lib.hid hakp
  have Hpa := Lib.hid hpa
  clear hm hn hla hpb hlow hakp hpa
  go_wp2_with fail
  refine hc.out.mono ?_
  clear hc d0 d1 d2 d3 d4
  rintro e w1 ⟨v', rfl, hl, hk, ho⟩
  have Hm1 := Lib.hid (Hm.out.sent hl hk ho)
  have Hpb1 := Lib.hid (Hpb.out.kp hk (by rintro (h | h); exact hBL h; exact hBv h))
  clear hl hk ho Hm Hpb
  obtain ⟨d0, d1, d2, d3, d4⟩ := Hpb1.out.cells
  have hak0 := Hn.out.ak0
  have hak2 := Hn.out.ak2
  have hnx := Hn.out.nx1
  go_wp2_with fail
  rename_i K1 hc1 K2 hc2
  rcases List.eq_nil_or_concat ps with h0 | ⟨qs, lst, h0⟩
  · subst h0
    obtain ⟨ad, cap, hv, -⟩ := Hm1.out.row.shape
    simp only [List.length_nil] at hv
    subst hv
    cases so
    · simp only [show mkOf false ak = -1 from rfl]
      go_quiet (fail)
      refine hc2 _ _ (wp_cond_false rfl (wp_skip (hc1 _ _ ?_)))
      refine sent3 ?_ ?_ ?_ (Hm1.out.below (below_drewN (Below.refl _ _) _)) Hn.out hlen Hla.out (Hpb1.out.below (below_drewN (Below.refl _ _) _)) ⟨hp0, hp1⟩ Hpa.out hps Hlow.out Hls.out hBm Q hK hR
      · exact ⟨rfl, rfl, rfl, rfl, rfl, rfl, rfl, rfl, rfl, rfl, rfl, rfl, rfl, rfl⟩
      · exact rfl
      · exact rfl
    · simp only [show mkOf true ak = ak from rfl]
      have t3 : decide (p.n ≤ ak) = false := decide_eq_false (by rcases Hakp.out with h | h; exact nomatch h; omega)
      have t4 : decide (0 ≤ ak) = true := decide_eq_true hak0
      go_quiet (fail)
      refine hc2 _ _ (wp_cond_false rfl (wp_skip (hc1 _ _ ?_)))
      refine sent3 ?_ ?_ ?_ (Hm1.out.below (below_drewN (Below.refl _ _) _)) Hn.out hlen Hla.out (Hpb1.out.below (below_drewN (Below.refl _ _) _)) ⟨hp0, hp1⟩ Hpa.out hps Hlow.out Hls.out hBm Q hK hR
      · exact ⟨rfl, rfl, rfl, rfl, rfl, rfl, rfl, rfl, rfl, rfl, rfl, rfl, rfl, rfl⟩
      · exact rfl
      · exact rfl
  · rw [List.concat_eq_append] at h0
    subst h0
    obtain ⟨g', cap, hv, hlst⟩ := Hm1.out.row.last
    subst hv
    have hq : qs.length ≤ 255 := by simp at hmany; omega
    have t1 : decide ((0 : Int) < (qs.length : Int) + 1) = true := decide_eq_true (by omega)
    have i1 : (0 : Int) ≤ (qs.length : Int) := by omega
    have i2 : IntKind.i64.wrap ((qs.length : Int) + 1 - 1) = (qs.length : Int) := by rw [IntWalk.i64_in _ (by omega)]; omega
    have t2 : decide (p.n ≤ lst.n) = false := decide_eq_false (fun h => Hlow.out (.inl ⟨qs, lst, rfl, h⟩))
    cases so
    · simp only [show mkOf false ak = -1 from rfl]
      go_quiet (fail)
      refine hc2 _ _ (wp_cond_false rfl (wp_skip (hc1 _ _ ?_)))
      refine sent3 ?_ ?_ ?_ (Hm1.out.below (below_drewN (Below.refl _ _) _)) Hn.out hlen Hla.out (Hpb1.out.below (below_drewN (Below.refl _ _) _)) ⟨hp0, hp1⟩ Hpa.out hps Hlow.out Hls.out hBm Q hK hR
      · exact ⟨rfl, rfl, rfl, rfl, rfl, rfl, rfl, rfl, rfl, rfl, rfl, rfl, rfl, rfl⟩
      · exact rfl
      · exact rfl
    · simp only [show mkOf true ak = ak from rfl]
      have t3 : decide (p.n ≤ ak) = false := decide_eq_false (by rcases Hakp.out with h | h; exact nomatch h; omega)
      have t4 : decide (0 ≤ ak) = true := decide_eq_true hak0
      go_quiet (fail)
      refine hc2 _ _ (wp_cond_false rfl (wp_skip (hc1 _ _ ?_)))
      refine sent3 ?_ ?_ ?_ (Hm1.out.below (below_drewN (Below.refl _ _) _)) Hn.out hlen Hla.out (Hpb1.out.below (below_drewN (Below.refl _ _) _)) ⟨hp0, hp1⟩ Hpa.out hps Hlow.out Hls.out hBm Q hK hR
      · exact ⟨rfl, rfl, rfl, rfl, rfl, rfl, rfl, rfl, rfl, rfl, rfl, rfl, rfl, rfl⟩
      · exact rfl
      · exact rfl
end Go.Proofs.Ytpjahdiddgdahaa
