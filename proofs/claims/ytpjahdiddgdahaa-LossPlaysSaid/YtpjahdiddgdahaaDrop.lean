/- LossPlays, the arm that drops. -/
import Derived.Test.YtpjahdiddgdahaaStat
namespace Go.Proofs.Ytpjahdiddgdahaa
open Go.RowKit
set_option linter.unusedVariables false
set_option linter.unusedSimpArgs false

/-- The act in a block of its own. -/
def Ab (w : World) (B : Nat) (x : Ac) : Prop := w.heap[B]? = some (.cells #[.int .u8 x.k, .int .u8 x.g, .int .u16 x.s, .int .u16 x.w, .int .u8 x.fr, .int .u8 x.mn, .int .u8 x.mo, .bool x.e, .bool x.f, .bool x.r, .int .u64 x.af, .int .u64 x.at', .int .u64 x.nu] 55 (0, 0))
theorem Ab.below {w w' : World} {B : Nat} {x : Ac} (h : Ab w B x) (hb : Below w.heap.size w w') : Ab w' B x := by
  unfold Ab at *
  rw [hb.block B (Array.getElem?_eq_some_iff.1 h).1]; exact h
theorem Ab.cells {w : World} {B : Nat} {x : Ac} (h : Ab w B x) :
    w.cell? ⟨B, 0, none⟩ = some (.int .u8 x.k) ∧ w.cell? ⟨B, 1, none⟩ = some (.int .u8 x.g) ∧ w.cell? ⟨B, 2, none⟩ = some (.int .u16 x.s) ∧ w.cell? ⟨B, 3, none⟩ = some (.int .u16 x.w) ∧ w.cell? ⟨B, 4, none⟩ = some (.int .u8 x.fr) ∧ w.cell? ⟨B, 5, none⟩ = some (.int .u8 x.mn) ∧ w.cell? ⟨B, 6, none⟩ = some (.int .u8 x.mo) ∧
    w.cell? ⟨B, 7, none⟩ = some (.bool x.e) ∧ w.cell? ⟨B, 8, none⟩ = some (.bool x.f) ∧ w.cell? ⟨B, 9, none⟩ = some (.bool x.r) ∧ w.cell? ⟨B, 10, none⟩ = some (.int .u64 x.af) ∧ w.cell? ⟨B, 11, none⟩ = some (.int .u64 x.at') ∧ w.cell? ⟨B, 12, none⟩ = some (.int .u64 x.nu) := by
  unfold Ab at h
  simp [World.cell?, h]

/-- What is known where the arms meet. -/
def Jt (w0 : World) (R L : Nat) (rl re rs rva nw : Int) (ac : Value) (len k : Nat) (a : Act) (w : World) : Prop :=
  ∃ (v mv : Value) (ps : List Pk) (so wt : Bool) (ak la ls nx la' : Int), Sl a R L mv (mkOf so ak) nx nw ls la' wt ac len k ∧ Mm w0 L R rl re rs rva v mv ps so wt ak la ls w ∧ Nm ps so ak nx nw (k + 1) ∧ (wt = true → la' = la)

noncomputable def pDrop7 : Code := pieceAt [1, 1, 1, 1, 1, 1, 1, 1, 0, 1, 2, 3, 1, 1, 0, 2, 1, 1, 1, 0, 1, 2, 1, 5, 1, 5, 1, 5, 1, 0, 1, 2, 3]

def I7 (w0 : World) (R L : Nat) (rl re rs rva : Int) (v mv : Value) (ps : List Pk) (so wt : Bool) (ak la ls mk nx nw lt la' : Int) (wt' : Bool) (ac : Value) (len k B : Nat) (x : Ac) (m : Nat) (a : Act) (w : World) : Prop :=
  ∃ j : Nat, j + m = ps.length ∧ Sl a R L mv mk nx nw lt la' wt' ac len k ∧ a.eval (.tmp 81) = mv ∧ a.eval (.tmp 82) = .int .i64 ps.length ∧ a.eval (.tmp 83) = .int .i64 j ∧
    a.eval (.tmp 41) = .int .u64 (flS (ps.take j)) ∧ a.eval (.tmp 14) = .pointer (some ⟨B, 0, none⟩) ∧ Mm w0 L R rl re rs rva v mv ps so wt ak la ls w ∧ Ab w B x

set_option maxRecDepth 1000000 in
set_option maxHeartbeats 4000000 in
theorem round7 {w0 : World} {R L : Nat} {rl re rs rva : Int} {v mv : Value} {ps : List Pk} {so wt : Bool} {ak la ls mk nx nw lt la' : Int} {wt' : Bool} {ac : Value} {len k B : Nat} {x : Ac} {m : Nat} {a : Act} {w : World}
    (h : I7 w0 R L rl re rs rva v mv ps so wt ak la ls mk nx nw lt la' wt' ac len k B x m a w) (hlen : ps.length ≤ 101) (hfit : ∀ p ∈ ps, 0 ≤ p.s ∧ p.s ≤ 65535) (K : Act → World → Prop) (Q0 : Exit → Act → World → Prop)
    (hK : Hid (∀ a' w', (∃ m', m = m' + 1 ∧ I7 w0 R L rl re rs rva v mv ps so wt ak la ls mk nx nw lt la' wt' ac len k B x m' a' w') → K a' w'))
    (hE : Hid (∀ a' w', I7 w0 R L rl re rs rva v mv ps so wt ak la ls mk nx nw lt la' wt' ac len k B x 0 a' w' → Q0 (.exit 3) a' w')) : Code.wp Try.prog pDrop7 (Exit.then K Q0) a w := by
  obtain ⟨j, hj, hs, s81, s82, s83, s41, s14, hm, hab⟩ := h
  obtain ⟨hsz, hnd, s3, s5, s6, s7, s8, s9, s10, s11, s12, s64, s65, s66⟩ := hs
  obtain ⟨g, hg, rfl⟩ := act_lit a hsz hnd
  simp only [hg] at s3 s5 s6 s7 s8 s9 s10 s11 s12 s64 s65 s66 s81 s82 s83 s41 s14
  clear hg hsz hnd
  unfold lit pDrop7
  conv => arg 2; whnf
  simp only [s3, s5, s6, s7, s8, s9, s10, s11, s12, s64, s65, s66, s81, s82, s83, s41, s14]
  clear s3 s5 s6 s7 s8 s9 s10 s11 s12 s64 s65 s66 s81 s82 s83 s41 s14
  obtain ⟨ad, cap, hv, hcs⟩ := hm.row.shape
  subst hv
  have Hcs := Lib.hid hcs
  have Hm := Lib.hid hm
  have Hab := Lib.hid hab
  have Hfit := Lib.hid hfit
  clear hcs hm hfit hab
  by_cases hlt : j < ps.length
  · obtain ⟨g', rfl, hg', hgl, hgo, d0, d1, d2, d3, d4⟩ := Hcs.out j ps[j] (List.getElem?_eq_getElem hlt)
    have hp := Hfit.out ps[j] (List.getElem_mem hlt)
    have hb := flS_in (ps.take j) (fun p hp => Hfit.out p (List.mem_of_mem_take hp))
    have hlk : (ps.take j).length ≤ 101 := Nat.le_trans (List.length_take_le _ _) (by omega)
    have hstep : ps.take (j + 1) = ps.take j ++ [ps[j]] := List.take_succ_eq_append_getElem hlt
    have hsn := flS_snoc (ps.take j) ps[j]
    rw [← hstep] at hsn
    generalize ps[j] = p at *
    generalize flS (ps.take j) = S at *
    obtain ⟨hb1, hb2⟩ := hb
    obtain ⟨hp1, hp2⟩ := hp
    have hS : S ≤ 65535 * 101 := by omega
    have Hsn := Lib.hid hsn
    clear hstep hsn hb2 hlk
    cases hf : p.f
    all_goals
      rw [hf] at d4
      have Hf := Lib.hid hf
      clear hf
      go_wp2_with fail
      refine hK.out _ _ ⟨m - 1, by omega, j + 1, by omega, ⟨rfl, rfl, rfl, rfl, rfl, rfl, rfl, rfl, rfl, rfl, rfl, rfl, rfl, rfl⟩, rfl, rfl, (by go_num : Value.int .i64 (↑j + 1) = .int .i64 ↑(j + 1)), ?_, rfl, Hm.out.below (grow (Below.refl _ _) _), Hab.out.below (grow (Below.refl _ _) _)⟩
      rw [Hsn.out, Hf.out]; simp; rfl
  · obtain rfl : m = 0 := by omega
    obtain rfl : j = ps.length := by omega
    go_wp2_with fail
    exact hE.out _ _ ⟨ps.length, rfl, ⟨rfl, rfl, rfl, rfl, rfl, rfl, rfl, rfl, rfl, rfl, rfl, rfl, rfl, rfl⟩, rfl, rfl, rfl, by rw [List.take_length]; rfl, rfl, Hm.out, Hab.out⟩

noncomputable def pDrop9 : Code := pieceAt [1, 1, 1, 1, 1, 1, 1, 1, 0, 1, 2, 3, 1, 1, 0, 2, 1, 1, 1, 0, 1, 2, 1, 5, 1, 5, 1, 5, 1, 1]

theorem Mm.emptied {w0 w w' : World} {L R : Nat} {rl re rs rva : Int} {v mv : Value} {ps : List Pk} {so wt : Bool} {ak la ls : Int} (h : Mm w0 L R rl re rs rva v mv ps so wt ak la ls w) (hl : Led w' L (.slice none 0 0) [] so ak false 0 ls) (hk : Kp w w' (fun k => k = L)) :
    Mm w0 L R rl re rs rva (.slice none 0 0) (.slice none 0 0) [] so false ak 0 ls w' :=
  ⟨hl, Rw.nil _ _, h.rv.kp hk (by have := h.hL; omega), below_kp h.be hk (fun k hk => by have := h.hR; have := h.hL; omega), by simp [Value.ownBlock], h.hR, h.hL⟩

set_option maxRecDepth 1000000 in
set_option maxHeartbeats 4000000 in
theorem drop9 {w0 : World} {R L : Nat} {rl re rs rva : Int} {v mv : Value} {ps : List Pk} {so wt : Bool} {ak la ls nx nw la' : Int} {ac : Value} {len k B : Nat} {x : Ac} {a : Act} {w : World}
    (hs : Sl a R L mv (mkOf so ak) nx nw ls la' wt ac len k) (s41 : a.eval (.tmp 41) = .int .u64 (flS ps)) (s14 : a.eval (.tmp 14) = .pointer (some ⟨B, 0, none⟩)) (hm : Mm w0 L R rl re rs rva v mv ps so wt ak la ls w) (hn : Nm ps so ak nx nw (k + 1)) (hla : wt = true → la' = la) (hab : Ab w B x) (hx : x.Ok)
    (Q : Exit → Act → World → Prop) (hK : Hid (∀ a' w', Jt w0 R L rl re rs rva nw ac len k a' w' → Q .normal a' w')) : Code.wp Try.prog pDrop9 Q a w := by
  obtain ⟨hsz, hnd, s3, s5, s6, s7, s8, s9, s10, s11, s12, s64, s65, s66⟩ := hs
  obtain ⟨g, hg, rfl⟩ := act_lit a hsz hnd
  simp only [hg] at s3 s5 s6 s7 s8 s9 s10 s11 s12 s64 s65 s66 s41 s14
  clear hg hsz hnd
  unfold lit pDrop9
  conv => arg 2; whnf
  simp only [s3, s5, s6, s7, s8, s9, s10, s11, s12, s64, s65, s66, s41, s14]
  clear s3 s5 s6 s7 s8 s9 s10 s11 s12 s64 s65 s66 s41 s14
  have hmany : ps.length ≤ 256 := by have := hn.len; have := hn.k1; omega
  have hfit : Hid (∀ p ∈ ps, 0 ≤ p.s ∧ p.s ≤ 65535) := fun p hp => (hn.fits p hp).2.2
  obtain ⟨-, c1, -⟩ := hab.cells
  obtain ⟨x1, x2⟩ := hx.g
  generalize x.g = xg at *
  have Hm := Lib.hid hm
  have Hn := Lib.hid hn
  have Hla := Lib.hid hla
  clear hm hn hla hab
  by_cases h0 : xg % 4 = 0
  · have h1 : (xg % 4 == 0) = true := by simpa using h0
    have H0 := Lib.hid h0
    clear h0
    go_wp2_with fail
    refine (drop_any L v ps so wt ak la ls _ Hm.out.led hmany hfit.out).mono ?_
    rintro e w1 ⟨rfl, hl, hk⟩
    have Hm1 := Lib.hid (Hm.out.emptied hl hk)
    clear hl hk
    go_wp2_with fail
    refine hK.out _ _ ⟨_, _, [], so, false, ak, 0, ls, nx, la', ⟨rfl, rfl, rfl, rfl, rfl, rfl, rfl, rfl, rfl, rfl, rfl, rfl, rfl, rfl⟩, Hm1.out, ?_, by simp⟩
    have hn := Hn.out
    exact ⟨List.Pairwise.nil, by simp, by simp, hn.ak0, hn.ak1, hn.ak2, hn.nx0, hn.nx1, hn.nw0, hn.nw1, hn.k1⟩
  · have h1 : (xg % 4 == 0) = false := by simpa using h0
    have H0 := Lib.hid h0
    clear h0
    go_wp2_with fail
    exact hK.out _ _ ⟨v, mv, ps, so, wt, ak, la, ls, nx, la', ⟨rfl, rfl, rfl, rfl, rfl, rfl, rfl, rfl, rfl, rfl, rfl, rfl, rfl, rfl⟩, Hm.out, Hn.out, Hla.out⟩
end Go.Proofs.Ytpjahdiddgdahaa
