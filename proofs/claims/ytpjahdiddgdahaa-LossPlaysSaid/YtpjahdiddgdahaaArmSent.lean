/- LossPlays, the arm that sends. -/
import Derived.Test.YtpjahdiddgdahaaDrop
import Derived.Test.YtpjahdiddgdahaaSentBad
import Derived.Deep.DeepMust
namespace Go.Proofs.Ytpjahdiddgdahaa
open Go.RowKit
set_option linter.unusedVariables false
set_option linter.unusedSimpArgs false

/-- Memory between the ledger's growth and the law's own. -/
structure Mt (w0 : World) (L R : Nat) (rl re rs rva : Int) (v mv : Value) (qs ps : List Pk) (so wt : Bool) (ak la ls : Int) (w : World) : Prop where
  led : Led w L v qs so ak wt la ls
  row : Rw w (L + 1) mv ps
  rv : RV w R rl re rs rva true
  be : Below w0.heap.size w0 w
  ne : ∀ g, mv.ownBlock = some g → v.ownBlock ≠ some g
  hR : w0.heap.size ≤ R
  hL : R < L
theorem Mm.sent {w0 w w1 : World} {L R : Nat} {rl re rs rva : Int} {v v' mv : Value} {ps qs : List Pk} {so wt : Bool} {ak la ls ls' : Int} (h : Mm w0 L R rl re rs rva v mv ps so wt ak la ls w) (hl : Led w1 L v' qs so ak wt la ls') (hk : Kp w w1 (Blk L v)) (ho : v'.ownBlock = v.ownBlock ∨ ∀ k, v'.ownBlock = some k → w.heap.size ≤ k) :
    Mt w0 L R rl re rs rva v' mv qs ps so wt ak la ls' w1 := by
  have hL := h.hL
  have hR := h.hR
  have hv : ∀ g, v.ownBlock = some g → L + 1 ≤ g := fun g hg => (h.led.2.lt g hg).1
  refine ⟨hl, h.row.keep fun g hg => hk.block g (h.row.lt g hg).2 ?_, h.rv.kp hk ?_, below_kp h.be hk (fun k hb => ?_), fun g hg e => ?_, hR, hL⟩
  · rintro (h1 | h1)
    · have := (h.row.lt g hg).1; omega
    · exact h.ne g hg h1
  · rintro (h1 | h1)
    · omega
    · have := hv _ h1; omega
  · rcases hb with h1 | h1
    · omega
    · have := hv _ h1; omega
  · rcases ho with h1 | h1
    · exact h.ne g hg (by rw [← h1]; exact e)
    · have := h1 g e; have := (h.row.lt g hg).2; omega
theorem Mt.below {w0 w w' : World} {L R : Nat} {rl re rs rva : Int} {v mv : Value} {qs ps : List Pk} {so wt : Bool} {ak la ls : Int} (h : Mt w0 L R rl re rs rva v mv qs ps so wt ak la ls w) (hb : Below w.heap.size w w') :
    Mt w0 L R rl re rs rva v mv qs ps so wt ak la ls w' :=
  ⟨h.led.below hb, h.row.below hb, h.rv.below hb, h.be.trans (hb.mono h.be.size), h.ne, h.hR, h.hL⟩
theorem Mt.push {w0 w1 w5 : World} {L R : Nat} {rl re rs rva : Int} {v mv mv' : Value} {qs ps : List Pk} {so wt : Bool} {ak la ls : Int} {o : Obj} (h : Mt w0 L R rl re rs rva v mv qs ps so wt ak la ls w1)
    (hr : Rw w5 (L + 1) mv' qs) (hk : Kp (w1.alloc o) w5 (fun k => mv.ownBlock = some k)) (ho : mv'.ownBlock = mv.ownBlock ∨ mv'.ownBlock = some (w1.heap.size + 1)) : Mm w0 L R rl re rs rva v mv' qs so wt ak la ls w5 := by
  have h2 := h.below (grow (Below.refl w1.heap.size w1) o)
  have hs : (w1.alloc o).heap.size = w1.heap.size + 1 := by simp
  have hL := h.hL
  have hR := h.hR
  have hm : ∀ g, mv.ownBlock = some g → L + 1 ≤ g := fun g hg => (h.row.lt g hg).1
  refine ⟨h2.led.keep fun k hk' hb => hk.block k hk' (fun e => ?_), hr, h2.rv.kp hk (fun e => by have := hm _ e; omega), below_kp h2.be hk (fun k e => by have := hm _ e; omega), fun g hg e => ?_, hR, hL⟩
  · rcases hb with h1 | h1
    · have := hm _ e; omega
    · exact h.ne k e h1
  · rcases ho with h1 | h1
    · exact h.ne g (by rw [← h1]; exact hg) e
    · rw [h1] at hg
      have := (h.led.2.lt g e).2
      simp at hg
      omega

theorem nm_push {ps : List Pk} {so : Bool} {ak nx nw : Int} {k : Nat} {p : Pk} (h : Nm ps so ak nx nw (k + 1)) (hlen : ps.length ≤ k) (hlow : ¬ lowB ps so ak p) (hp0 : 0 ≤ p.n) (hp1 : p.n ≤ 1152921504606846976) (ha : p.a = nw) (hs : 0 ≤ p.s ∧ p.s ≤ 65535) : (∀ q ∈ ps, q.n < p.n) ∧ Nm (ps ++ [p]) so ak (p.n + 1) nw (k + 1) := by
  have hr : ∀ q ∈ ps, q.n < p.n := by
    rcases List.eq_nil_or_concat ps with h1 | ⟨qs, lst, h1⟩
    · subst h1; simp
    · rw [List.concat_eq_append] at h1
      subst h1
      have h2 : lst.n < p.n := by
        by_cases h3 : p.n ≤ lst.n
        · exact absurd (.inl ⟨qs, lst, rfl, h3⟩) hlow
        · omega
      intro q hq
      rcases List.mem_append.1 hq with h3 | h3
      · have h4 := (List.pairwise_append.1 h.rise).2.2 q h3 lst (by simp)
        omega
      · simp at h3; subst h3; exact h2
  refine ⟨hr, List.pairwise_append.2 ⟨h.rise, List.pairwise_singleton _ _, fun q hq r hr' => by simp at hr'; subst hr'; exact hr q hq⟩, fun q hq => ?_, by simp; omega, h.ak0, fun hso => ?_, h.ak2, by omega, by omega, h.nw0, h.nw1, h.k1⟩
  · rcases List.mem_append.1 hq with h1 | h1
    · have h2 := h.fits q h1
      have h3 := hr q h1
      exact ⟨⟨h2.1.1, by omega⟩, h2.2⟩
    · simp at h1
      subst h1
      have := h.nw0
      exact ⟨⟨hp0, by omega⟩, by omega, hs⟩
  · by_cases h3 : p.n ≤ ak
    · exact absurd (.inr ⟨hso, h3⟩) hlow
    · omega

theorem Rw.last {w : World} {base : Nat} {v : Value} {qs : List Pk} {lst : Pk} (h : Rw w base v (qs ++ [lst])) : ∃ g cap, v = .slice (some ⟨g, 0, none⟩) (qs.length + 1) cap ∧ w.cell? ⟨g, qs.length * 5, none⟩ = some (.int .u64 lst.n) := by
  obtain ⟨a, cap, hv, hcs⟩ := h.shape
  obtain ⟨g, rfl, hg, hgl, hgo, hlast, -⟩ := hcs qs.length lst (by simp)
  exact ⟨g, cap, by rw [hv, List.length_append]; rfl, hlast⟩

noncomputable def pSent2 : Code := pieceAt [1, 1, 1, 1, 1, 1, 1, 1, 0, 1, 2, 3, 1, 1, 0, 2, 1, 1, 1, 0, 1, 2, 1, 4, 1, 1]

set_option maxRecDepth 1000000 in
set_option maxHeartbeats 4000000 in
/-- The number is too low: an order error, on both sides. -/
theorem sent_arm_bad {w0 : World} {R L : Nat} {rl re rs rva : Int} {v mv : Value} {ps : List Pk} {so wt : Bool} {ak la ls nx nw la' : Int} {ac : Value} {len k B : Nat} {p : Pk} {a : Act} {w : World}
    (hs : Sl a R L mv (mkOf so ak) nx nw ls la' wt ac len k) (s16 : a.eval (.tmp 16) = .pointer (some ⟨B, 0, none⟩)) (hm : Mm w0 L R rl re rs rva v mv ps so wt ak la ls w) (hn : Nm ps so ak nx nw (k + 1)) (hla : wt = true → la' = la) (hpb : Pb w B p) (hp : 0 ≤ p.n ∧ p.n ≤ 18446744073709551615) (hlow : lowB ps so ak p)
    (Q : Exit → Act → World → Prop) (hE : Hid (∀ a' w', Jt w0 R L rl re rs rva nw ac len k a' w' → Q (.exit 2) a' w')) : Code.wp Try.prog pSent2 Q a w := by
  have hmany : ps.length ≤ 256 := by have := hn.len; have := hn.k1; omega
  have hc := Lib.hid (sent_bad L v so wt ak la ls ps p w hm.led hlow hmany)
  obtain ⟨hsz, hnd, s3, s5, s6, s7, s8, s9, s10, s11, s12, s64, s65, s66⟩ := hs
  obtain ⟨g, hg, rfl⟩ := act_lit a hsz hnd
  simp only [hg] at s3 s5 s6 s7 s8 s9 s10 s11 s12 s64 s65 s66 s16
  clear hg hsz hnd
  unfold lit pSent2
  conv => arg 2; whnf
  simp only [s3, s5, s6, s7, s8, s9, s10, s11, s12, s64, s65, s66, s16]
  clear s3 s5 s6 s7 s8 s9 s10 s11 s12 s64 s65 s66 s16
  obtain ⟨d0, d1, d2, d3, d4⟩ := hpb.cells
  obtain ⟨hp0, hp1⟩ := hp
  have Hm := Lib.hid hm
  have Hn := Lib.hid hn
  have Hla := Lib.hid hla
  have Hpb := Lib.hid hpb
  clear hm hn hla hpb
  go_wp2_with fail
  refine hc.out.mono ?_
  clear hc d0 d1 d2 d3 d4
  rintro e w1 ⟨rfl, hb⟩
  have Hm1 := Lib.hid (Hm.out.below hb)
  have Hpb1 := Lib.hid (Hpb.out.below hb)
  clear hb Hm Hpb
  obtain ⟨d0, d1, d2, d3, d4⟩ := Hpb1.out.cells
  have hak0 := Hn.out.ak0
  have hak2 := Hn.out.ak2
  go_wp2_with fail
  rcases List.eq_nil_or_concat ps with h0 | ⟨qs, lst, h0⟩
  · subst h0
    obtain ⟨rfl, hak⟩ : so = true ∧ p.n ≤ ak := by
      rcases hlow with ⟨_, _, h, _⟩ | h
      · simp at h
      · exact h
    obtain ⟨ad, cap, hv, -⟩ := Hm1.out.row.shape
    simp only [List.length_nil] at hv
    subst hv
    clear hlow
    simp only [show mkOf true ak = ak from rfl]
    have t3 : decide (p.n ≤ ak) = true := decide_eq_true hak
    have t4 : decide (0 ≤ ak) = true := decide_eq_true hak0
    go_quiet (fail)
    go_wp2_with fail
    exact hE.out _ _ ⟨v, _, _, _, wt, ak, la, ls, nx, la', ⟨rfl, rfl, rfl, rfl, rfl, rfl, rfl, rfl, rfl, rfl, rfl, rfl, rfl, rfl⟩, Hm1.out.below (below_drewN (Below.refl _ _) _), Hn.out, Hla.out⟩
  · rw [List.concat_eq_append] at h0
    subst h0
    obtain ⟨g', cap, hv, hlst⟩ := Hm1.out.row.last
    subst hv
    have hq : qs.length ≤ 255 := by simpa using hmany
    have t1 : decide ((0 : Int) < (qs.length : Int) + 1) = true := decide_eq_true (by omega)
    have i1 : (0 : Int) ≤ (qs.length : Int) := by omega
    have i2 : IntKind.i64.wrap ((qs.length : Int) + 1 - 1) = (qs.length : Int) := by rw [IntWalk.i64_in _ (by omega)]; omega
    by_cases h1 : p.n ≤ lst.n
    · have t2 : decide (p.n ≤ lst.n) = true := decide_eq_true h1
      clear hlow
      go_quiet (fail)
      go_wp2_with fail
      exact hE.out _ _ ⟨v, _, _, _, wt, ak, la, ls, nx, la', ⟨rfl, rfl, rfl, rfl, rfl, rfl, rfl, rfl, rfl, rfl, rfl, rfl, rfl, rfl⟩, Hm1.out.below (below_drewN (Below.refl _ _) _), Hn.out, Hla.out⟩
    · obtain ⟨rfl, hak⟩ : so = true ∧ p.n ≤ ak := by
        rcases hlow with ⟨qs', lst', h, h2⟩ | h
        · have := (List.append_inj' h rfl).2
          simp at this
          subst this
          exact absurd h2 h1
        · exact h
      clear hlow
      simp only [show mkOf true ak = ak from rfl]
      have t2 : decide (p.n ≤ lst.n) = false := decide_eq_false h1
      have t3 : decide (p.n ≤ ak) = true := decide_eq_true hak
      have t4 : decide (0 ≤ ak) = true := decide_eq_true hak0
      go_quiet (fail)
      go_wp2_with fail
      exact hE.out _ _ ⟨v, _, _, _, wt, ak, la, ls, nx, la', ⟨rfl, rfl, rfl, rfl, rfl, rfl, rfl, rfl, rfl, rfl, rfl, rfl, rfl, rfl⟩, Hm1.out.below (below_drewN (Below.refl _ _) _), Hn.out, Hla.out⟩
end Go.Proofs.Ytpjahdiddgdahaa
