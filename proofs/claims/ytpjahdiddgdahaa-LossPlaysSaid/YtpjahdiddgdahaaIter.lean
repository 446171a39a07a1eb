/- LossPlays: one act; the rounds. -/
import Derived.Test.YtpjahdiddgdahaaSwitch
namespace Go.Proofs.Ytpjahdiddgdahaa
open Go.RowKit
set_option linter.unusedVariables false
set_option linter.unusedSimpArgs false

theorem Nm.step {ps : List Pk} {so : Bool} {ak nx nw d : Int} {k : Nat} (h : Nm ps so ak nx nw k) (hd : 0 ≤ d ∧ d ≤ 65535) (hk : k ≤ 100) : Nm ps so ak nx (nw + d) (k + 1) := by
  have h1 := h.nw0
  have h2 := h.nw1
  refine ⟨h.rise, fun p hp => ?_, by have := h.len; omega, h.ak0, h.ak1, h.ak2, h.nx0, h.nx1, by omega, by omega, by omega⟩
  have := h.fits p hp
  exact ⟨this.1, ⟨this.2.1.1, by omega⟩, this.2.2⟩

/-- The act in question, cell by cell. -/
theorem act_at {w0 w : World} {a0 : Option Addr} {len k : Nat} {A : Nat → Ac} (h : ActsAre w0 a0 len A) (hk : k < len) (hb : Below w0.heap.size w0 w) : (A k).Ok ∧ ∃ b off, a0 = some ⟨b, off, none⟩ ∧
    w.cell? ⟨b, off + k * 13, none⟩ = some (.int .u8 (A k).k) ∧ w.cell? ⟨b, off + k * 13 + 1, none⟩ = some (.int .u8 (A k).g) ∧ w.cell? ⟨b, off + k * 13 + 2, none⟩ = some (.int .u16 (A k).s) ∧ w.cell? ⟨b, off + k * 13 + 3, none⟩ = some (.int .u16 (A k).w) ∧
    w.cell? ⟨b, off + k * 13 + 4, none⟩ = some (.int .u8 (A k).fr) ∧ w.cell? ⟨b, off + k * 13 + 5, none⟩ = some (.int .u8 (A k).mn) ∧ w.cell? ⟨b, off + k * 13 + 6, none⟩ = some (.int .u8 (A k).mo) ∧ w.cell? ⟨b, off + k * 13 + 7, none⟩ = some (.bool (A k).e) ∧
    w.cell? ⟨b, off + k * 13 + 8, none⟩ = some (.bool (A k).f) ∧ w.cell? ⟨b, off + k * 13 + 9, none⟩ = some (.bool (A k).r) ∧ w.cell? ⟨b, off + k * 13 + 10, none⟩ = some (.int .u64 (A k).af) ∧ w.cell? ⟨b, off + k * 13 + 11, none⟩ = some (.int .u64 (A k).at') ∧ w.cell? ⟨b, off + k * 13 + 12, none⟩ = some (.int .u64 (A k).nu) := by
  obtain ⟨hx, b, off, ha, hbl, hc⟩ := h.2 k hk
  have key : ∀ j v, (A k).vals[j]? = some v → w.cell? ⟨b, off + k * 13 + j, none⟩ = some v := fun j v hv => by
    rw [hb.cell (p := ⟨b, off + k * 13 + j, none⟩) hbl]
    exact hc j v hv
  exact ⟨hx, b, off, ha, key 0 _ rfl, key 1 _ rfl, key 2 _ rfl, key 3 _ rfl, key 4 _ rfl, key 5 _ rfl, key 6 _ rfl, key 7 _ rfl, key 8 _ rfl, key 9 _ rfl, key 10 _ rfl, key 11 _ rfl, key 12 _ rfl⟩

noncomputable def pIter : Code := pieceAt [1, 1, 1, 1, 1, 1, 1, 1, 0, 1, 2, 3, 1, 1, 0, 2]

set_option maxRecDepth 1000000 in
set_option maxHeartbeats 8000000 in
theorem iter_any {w0 : World} {R L : Nat} {rl re rs rva : Int} {v mv : Value} {ps : List Pk} {so wt : Bool} {ak la ls nx nw la' wait : Int} {a0 : Option Addr} {len cap k : Nat} {A : Nat → Ac} {a : Act} {w : World}
    (hs : Sl a R L mv (mkOf so ak) nx nw ls la' wt (.slice a0 len cap) len k) (hm : Mm w0 L R rl re rs rva v mv ps so wt ak la ls w) (hn : Nm ps so ak nx nw k) (hk : k ≤ 100) (hkl : k < len) (hll : len ≤ 9223372036854775807) (hla : wt = true → la' = la) (hA : ActsAre w0 a0 len A)
    (hwe : Hid (wait = max (9 * max rs rl / 8) 1000)) (hrl : 0 ≤ rl ∧ rl ≤ 1125899906842624) (hrs : 0 ≤ rs ∧ rs ≤ 1125899906842624)
    (Q : Exit → Act → World → Prop) (hK : Hid (∀ nw' a' w', Jt w0 R L rl re rs rva nw' (.slice a0 len cap) len k a' w' → k < 100 → Q .normal a' w')) (hX : Hid (∀ a' w', a'.tmps.size = 493 → a'.defers = [] → Below w0.heap.size w0 w' → Q (.exit 0) a' w')) (hR : Hid (∀ a' w', a'.defers = [] → a'.eval (.tmp 4) = .bool true → Below w0.heap.size w0 w' → Q .ret a' w')) : Code.wp Try.prog pIter Q a w := by
  obtain ⟨hsz, hnd, s3, s5, s6, s7, s8, s9, s10, s11, s12, s64, s65, s66⟩ := hs
  obtain ⟨g, hg, rfl⟩ := act_lit a hsz hnd
  simp only [hg] at s3 s5 s6 s7 s8 s9 s10 s11 s12 s64 s65 s66
  clear hg hsz hnd
  unfold lit pIter
  conv => arg 2; whnf
  simp only [s3, s5, s6, s7, s8, s9, s10, s11, s12, s64, s65, s66]
  clear s3 s5 s6 s7 s8 s9 s10 s11 s12 s64 s65 s66
  obtain ⟨hx, b, off, ha, e0, e1, e2, e3, e4, e5, e6, e7, e8, e9, e10, e11, e12⟩ := act_at hA hkl hm.be
  subst ha
  obtain ⟨xk0, xk1⟩ := hx.k
  obtain ⟨xw0, xw1⟩ := hx.w
  generalize A k = x at *
  have hnw0 := hn.nw0
  have hnw1 := hn.nw1
  have Hm := Lib.hid hm
  have Hn := Lib.hid hn
  have Hla := Lib.hid hla
  have Hx := Lib.hid hx
  clear hm hn hla hx hA
  go_upto_region 12 with (fail)
  refine wp_gen (fun W => Mm w0 L R rl re rs rva v mv ps so wt ak la ls W ∧ Ab W w.heap.size x) ⟨Hm.out.below (grow (Below.refl _ _) _), by unfold Ab; show (w.heap.push _)[w.heap.size]? = _; simp⟩ ?_
  clear e0 e1 e2 e3 e4 e5 e6 e7 e8 e9 e10 e11 e12 Hm
  generalize w.heap.size = B at *
  rintro W ⟨hm, hab⟩
  have Hm := Lib.hid hm
  have Hab := Lib.hid hab
  obtain ⟨c0, c1, c2, c3, c4, c5, c6, c7, c8, c9, c10, c11, c12⟩ := hab.cells
  clear hm hab c1 c2 c4 c5 c6 c7 c8 c9 c10 c11 c12
  by_cases h100 : k < 100
  · go_upto_region 26 with (fail)
    rename_i K2 hc2 K1 hc1
    have Hc1 := Lib.hid hc1
    have Hc2 := Lib.hid hc2
    clear hc1 hc2
    go_wp2_with fail
    have hT : ∀ a' w', Jt w0 R L rl re rs rva (nw + x.w) (.slice (some ⟨b, off, none⟩) len cap) len k a' w' → K2 a' w' := fun a' w' hj => by
      obtain ⟨v, mv, ps, so, wt, ak, la, ls, nx, la', hs, hm, hn, hla⟩ := hj
      exact Hc2.out _ _ (tail_any hs hm hn hla Q (fun a2 w2 h1 h2 => hK.out _ _ _ ⟨v, mv, ps, so, wt, ak, la, ls, nx, la', h1, h2, hn, hla⟩ h100))
    refine Hc1.out _ _ (switch_any (kk := x.k % 10) ?_ ?_ ?_ ?_ Hm.out (Hn.out.step ⟨xw0, xw1⟩ hk) Hn.out.len Hla.out Hab.out Hx.out hwe hrl hrs _ (fun a' w' h => hT a' w' h) (fun a' w' h => inBlock_exit (hT a' w' h)) (fun a' w' h1 h2 h3 => hR.out a' w' h1 h2 h3))
    · exact ⟨rfl, rfl, rfl, rfl, rfl, rfl, rfl, rfl, rfl, rfl, rfl, rfl, rfl, rfl⟩
    · exact rfl
    · exact rfl
    · exact rfl
  · have h100' : 100 ≤ k := by omega
    clear h100
    go_wp2_with fail
    exact hX.out _ _ rfl rfl Hm.out.be
end Go.Proofs.Ytpjahdiddgdahaa
