/- LossPlays, the arm of what came: the call, and the look at the ranges. -/
import Derived.Test.YtpjahdiddgdahaaCameB
namespace Go.Proofs.Ytpjahdiddgdahaa
open Go.RowKit
set_option linter.unusedVariables false
set_option linter.unusedSimpArgs false

theorem Bd.init (nx : Int) (gs : List (Int × Int)) : Bd nx gs 0 false (-1) := ⟨by simp, fun _ => by simp [endOf]⟩

/-- What came: the numbers behind it. -/
theorem came_nums {ps ts : List Pk} {q : Pk → Bool} {so so' b : Bool} {ak ak' nx nw en : Int} {k : Nat} (hn : Nm ps so ak nx nw k) (hts : ts = ps.filter q) (hen : ∀ p ∈ ts, p.n ≤ en - 1)
    (h : (ts = [] ∧ b = false ∧ so' = so ∧ ak' = ak) ∨ ∃ xs g, ts = xs ++ [g] ∧ b = (decide (g.n = en - 1) && g.e) ∧ so' = true ∧ ak' = (if so = true ∧ g.n ≤ ak then ak else g.n)) :
    Nm (ps.filter (fun p => !q p)) so' ak' nx nw k ∧ ackF (mkOf so ak) ts = mkOf so' ak' ∧ b = ts.any (fun p => decide (p.n = en - 1) && p.e) := by
  have hr : Rise ts := by rw [hts]; exact hn.rise.filter _
  have hb : ∀ so2 ak2, 0 ≤ ak2 → (so2 = true → ak2 < nx) → ak2 ≤ 1152921504606846976 → Nm (ps.filter (fun p => !q p)) so2 ak2 nx nw k := fun so2 ak2 h1 h2 h3 =>
    ⟨hn.rise.filter _, fun p hp => hn.fits p (List.mem_filter.1 hp).1, Nat.le_trans (List.length_filter_le _ _) hn.len, h1, h2, h3, hn.nx0, hn.nx1, hn.nw0, hn.nw1, hn.k1⟩
  rcases h with ⟨h1, rfl, rfl, rfl⟩ | ⟨xs, g, h1, rfl, rfl, rfl⟩
  · exact ⟨hb _ _ hn.ak0 hn.ak1 hn.ak2, by rw [h1]; rfl, by rw [h1]; rfl⟩
  · have hg : g ∈ ps := by
      have : g ∈ ts := by rw [h1]; simp
      rw [hts] at this
      exact (List.mem_filter.1 this).1
    have hf := hn.fits g hg
    have hx := hn.nx1
    have h0 := hn.ak0
    have h2 := hn.ak2
    have h3 := hn.ak1
    refine ⟨hb _ _ ?_ (fun _ => ?_) ?_, ?_, (any_last hr h1 hen).symm⟩
    · split <;> omega
    · split
      · rename_i h4; exact h3 h4.1
      · omega
    · split <;> omega
    · rw [ack_last hr h1]
      cases so
      · simp [mkOf]; omega
      · simp [mkOf]; split <;> omega

noncomputable def pCame49 : Code := pieceAt [1, 1, 1, 1, 1, 1, 1, 1, 0, 1, 2, 3, 1, 1, 0, 2, 1, 1, 1, 0, 1, 2, 1, 5, 1, 4, 1, 1, 1, 1]

set_option maxRecDepth 1000000 in
set_option maxHeartbeats 4000000 in
theorem came49 {w0 : World} {R L b0 : Nat} {rl re rs rva : Int} {v mv : Value} {ps : List Pk} {so wt : Bool} {ak la ls nx nw la' : Int} {gv : Value} {gs : List (Int × Int)} {ac : Value} {len k A : Nat} {x : Ac} {a : Act} {w : World}
    (hs : Sl a R L mv (mkOf so ak) nx nw ls la' wt ac len k) (s19 : a.eval (.tmp 19) = gv) (hf : F1 w0 R L b0 rl re rs rva v mv ps so wt ak la ls gv gs A x w) (hn : Nm ps so ak nx nw (k + 1)) (hla : wt = true → la' = la) (hne : gs ≠ []) (hgs : gs.length ≤ 10)
    (hin : ∀ r ∈ gs, (0 ≤ r.1 ∧ r.1 ≤ 18446744073709551615) ∧ 0 ≤ r.2 ∧ r.2 ≤ 18446744073709551615)
    (Q : Exit → Act → World → Prop) (hK : Hid (∀ a' w', Jt w0 R L rl re rs rva nw ac len k a' w' → Q .normal a' w')) (hE : Hid (∀ a' w', Jt w0 R L rl re rs rva nw ac len k a' w' → Q (.exit 2) a' w')) : Code.wp Try.prog pCame49 Q a w := by
  have hmany : ps.length ≤ 101 := by have := hn.len; have := hn.k1; omega
  have hnx : 0 ≤ nx ∧ nx ≤ 1152921504606846977 := ⟨hn.nx0, hn.nx1⟩
  have hmk2 : Hid (-1 ≤ mkOf so ak ∧ mkOf so ak ≤ 1152921504606846976) := by
    have h1 := hn.ak0
    have h2 := hn.ak2
    unfold mkOf
    cases so
    · exact ⟨by simp, by simp⟩
    · exact ⟨by simp; omega, by simpa using h2⟩
  have hfit : Hid (∀ p ∈ ps, 0 ≤ p.n ∧ p.n ≤ 1152921504606846976) := fun p hp => by
    have := hn.fits p hp
    exact ⟨this.1.1, by omega⟩
  obtain ⟨hsz, hnd, s3, s5, s6, s7, s8, s9, s10, s11, s12, s64, s65, s66⟩ := hs
  obtain ⟨g, hg, rfl⟩ := act_lit a hsz hnd
  simp only [hg] at s3 s5 s6 s7 s8 s9 s10 s11 s12 s64 s65 s66 s19
  clear hg hsz hnd
  unfold lit pCame49
  conv => arg 2; whnf
  simp only [s3, s5, s6, s7, s8, s9, s10, s11, s12, s64, s65, s66, s19]
  clear s3 s5 s6 s7 s8 s9 s10 s11 s12 s64 s65 s66 s19
  obtain ⟨gad, gcap, hgv, -⟩ := hf.rg.are
  subst hgv
  have Hf := Lib.hid hf
  have Hn := Lib.hid hn
  have Hla := Lib.hid hla
  have Hin := Lib.hid hin
  have Hne := Lib.hid hne
  have Hnx := Lib.hid hnx
  clear hf hn hla hin hne hnx
  by_cases hall : ∀ r ∈ gs, goodR nx r = true
  · have Hall := Lib.hid hall
    clear hall
    go_wp2_with fail
    refine (came_ok L v (.slice gad gs.length gcap) ps so wt ak la ls nx gs w Hf.out.rg.are (by omega) Hall.out Hf.out.mm.led (by omega) (by have := Hnx.out; omega) Hne.out _ (Lib.hid rfl) Hin.out Hnx.out.1).mono ?_
    rintro e w1 ⟨tv, kv, mb, so', ak', rfl, hl, hr, hk, hkv, -, hd⟩
    have hmt := Lib.hid (Hf.out.came hl hk hkv hr)
    have hnum := Lib.hid (came_nums Hn.out rfl (fun p hp => in_end hp) hd)
    clear hl hr hk hkv hd
    go_wp2_with fail
    rename_i K hc
    refine wp_loop_k (I2 (fun w' => Mt w0 L R rl re rs rva kv mv (ps.filter (fun p => !gs.any (inR p.n))) ps so' wt ak' la ls w' ∧ RgW w' (L + 1) (.slice gad gs.length gcap) gs ∧ Rw w' (L + 1) tv (ps.filter (fun p => gs.any (inR p.n)))) R L (.slice gad gs.length gcap) gs tv (.bool mb) (.int .i64 0) mv (mkOf so ak) nx nw ls la' wt ac len k) (m := gs.length) (fun m' a' w' h' => ?_)
      ⟨0, false, -1, by omega, ⟨rfl, rfl, rfl, rfl, rfl, rfl, rfl, rfl, rfl, rfl, rfl, rfl, rfl, rfl⟩, rfl, rfl, rfl, rfl, rfl, rfl, rfl, rfl, rfl, hmt.out, hmt.out.2.1.are, Bd.init nx gs, by omega, by omega⟩
    refine round2 (fun w1 w2 h hb => ⟨h.1.below hb, h.2.1.below hb, h.2.2.below hb⟩) h' hgs Hin.out Hnx.out _ _ (fun _ _ h => h) (fun a5 w5 h5 => ?_)
    refine inBlock_exit (hc _ _ ?_)
    obtain ⟨j, b, hh, hj, hs5, s19, s20, s21, s22, -, -, -, s23, s24, hm5, -, hbd, -, -⟩ := h5
    obtain rfl : j = gs.length := by omega
    unfold Bd at hbd
    rw [List.take_length] at hbd
    have hb : b = false := by
      rw [hbd.1, List.any_eq_false]
      intro r hr
      simp [Hall.out r hr]
    subst hb
    have hhe := hbd.2 rfl
    subst hhe
    exact came58_good hs5 s19 s20 s21 s22 s23 s24 hm5.1 hm5.2.1 hm5.2.2 hgs hmany hnum.out.1 Hla.out hnum.out.2.1 hnum.out.2.2 hfit.out hmk2.out Q hK
  · have hbad : ∃ r ∈ gs, goodR nx r = false := by
      simp only [Classical.not_forall] at hall
      obtain ⟨r, hr, h⟩ := hall
      exact ⟨r, hr, by simpa using h⟩
    have Hbad := Lib.hid hbad
    clear hall hbad
    go_wp2_with fail
    refine (came_bad L v (.slice gad gs.length gcap) ps so wt ak la ls nx gs w Hf.out.rg.are (by omega) Hbad.out Hin.out Hnx.out.1).mono ?_
    rintro e w1 ⟨rfl, hb⟩
    have Hf1 := Lib.hid (Hf.out.below hb)
    clear hb
    go_wp2_with fail
    rename_i K hc
    refine wp_loop_k (I2 (fun w' => F1 w0 R L b0 rl re rs rva v mv ps so wt ak la ls (.slice gad gs.length gcap) gs A x w') R L (.slice gad gs.length gcap) gs (.slice none 0 0) (.bool false) (.int .i64 10) mv (mkOf so ak) nx nw ls la' wt ac len k) (m := gs.length) (fun m' a' w' h' => ?_)
      ⟨0, false, -1, by omega, ⟨rfl, rfl, rfl, rfl, rfl, rfl, rfl, rfl, rfl, rfl, rfl, rfl, rfl, rfl⟩, rfl, rfl, rfl, rfl, rfl, rfl, rfl, rfl, rfl, Hf1.out, Hf1.out.rg.are, Bd.init nx gs, by omega, by omega⟩
    refine round2 (fun w1 w2 h hb => h.below hb) h' hgs Hin.out Hnx.out _ _ (fun _ _ h => h) (fun a5 w5 h5 => ?_)
    refine inBlock_exit (hc _ _ ?_)
    obtain ⟨j, b, hh, hj, hs5, s19, s20, s21, s22, -, -, -, s23, s24, hm5, -, hbd, -, -⟩ := h5
    obtain rfl : j = gs.length := by omega
    unfold Bd at hbd
    rw [List.take_length] at hbd
    have hb : b = true := by
      rw [hbd.1, List.any_eq_true]
      obtain ⟨r, hr, h⟩ := Hbad.out
      exact ⟨r, hr, by simp [h]⟩
    subst hb
    exact came58_bad hs5 s20 s21 s22 s23 hm5.mm Hn.out Hla.out Q hE
end Go.Proofs.Ytpjahdiddgdahaa
