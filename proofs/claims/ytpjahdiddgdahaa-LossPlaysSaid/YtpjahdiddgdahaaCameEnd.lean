/- LossPlays, the arm of what came: behind the look at the ranges. -/
import Derived.Test.YtpjahdiddgdahaaCame3
import Derived.Test.YtpjahdiddgdahaaCame5
namespace Go.Proofs.Ytpjahdiddgdahaa
open Go.RowKit
set_option linter.unusedVariables false
set_option linter.unusedSimpArgs false

theorem F3.to_mm {w0 w : World} {R L b1 : Nat} {rl re rs rva : Int} {v mv : Value} {qs ps : List Pk} {so wt : Bool} {ak la ls : Int} {gv : Value} {gs : List (Int × Int)} {tv : Value} {ts : List Pk} {cv dv : Value} {cs : List Pk} (h : F3 w0 R L b1 rl re rs rva v mv qs ps so wt ak la ls gv gs tv ts cv dv cs qs w) :
    Mm w0 L R rl re rs rva v dv qs so wt ak la ls w :=
  ⟨h.mt.led, h.dr.mono h.hL, h.mt.rv, h.mt.be, fun g hg e => by have := (h.dr.lt g hg).1; have := h.hv g e; omega, h.mt.hR, h.mt.hL⟩

noncomputable def pCame83 : Code := pieceAt [1, 1, 1, 1, 1, 1, 1, 1, 0, 1, 2, 3, 1, 1, 0, 2, 1, 1, 1, 0, 1, 2, 1, 5, 1, 4, 1, 1, 1, 1, 1, 1, 1, 1, 1, 1, 1, 1, 1]

set_option maxRecDepth 1000000 in
set_option maxHeartbeats 4000000 in
theorem came83 {w0 : World} {R L b1 : Nat} {rl re rs rva : Int} {v mv : Value} {qs ps : List Pk} {so wt : Bool} {ak la ls : Int} {gv : Value} {gs : List (Int × Int)} {tv : Value} {ts : List Pk} {cv dv : Value} {mb wn : Bool} {mk nx nw la' : Int} {ac : Value} {len k : Nat} {a : Act} {w : World}
    (hs : Sl a R L dv mk nx nw ls la' wt ac len k) (s20 : a.eval (.tmp 20) = tv) (s21 : a.eval (.tmp 21) = .bool mb) (s22 : a.eval (.tmp 22) = .int .i64 0) (s27 : a.eval (.tmp 27) = cv) (s29 : a.eval (.tmp 29) = .bool wn)
    (hf : F3 w0 R L b1 rl re rs rva v mv qs ps so wt ak la ls gv gs tv ts cv dv ts qs w) (hn : Nm qs so ak nx nw (k + 1)) (hla : wt = true → la' = la) (hmk : mk = mkOf so ak) (hmb : mb = wn) (hts : ts.length ≤ 256)
    (Q : Exit → Act → World → Prop) (hK : Hid (∀ a' w', Jt w0 R L rl re rs rva nw ac len k a' w' → Q .normal a' w')) : Code.wp Try.prog pCame83 Q a w := by
  subst hmb
  obtain ⟨hsz, hnd, s3, s5, s6, s7, s8, s9, s10, s11, s12, s64, s65, s66⟩ := hs
  obtain ⟨g, hg, rfl⟩ := act_lit a hsz hnd
  simp only [hg] at s3 s5 s6 s7 s8 s9 s10 s11 s12 s64 s65 s66 s20 s21 s22 s27 s29
  clear hg hsz hnd
  unfold lit pCame83
  conv => arg 2; whnf
  simp only [s3, s5, s6, s7, s8, s9, s10, s11, s12, s64, s65, s66, s20, s21, s22, s27, s29]
  clear s3 s5 s6 s7 s8 s9 s10 s11 s12 s64 s65 s66 s20 s21 s22 s27 s29
  have Hf := Lib.hid hf
  have Hn := Lib.hid hn
  have Hla := Lib.hid hla
  have Hmk := Lib.hid hmk
  clear hf hn hla hmk
  go_wp2_with fail
  refine (same_yes _ _ tv cv ts _ Hf.out.tr Hf.out.cr hts).mono ?_
  rintro e w2 ⟨rfl, hb⟩
  have Hf2 := Lib.hid (Hf.out.below hb)
  clear hb Hf
  cases mb
  all_goals
    go_wp2_with fail
    refine hK.out _ _ ⟨v, dv, qs, so, wt, ak, la, ls, nx, la', ?_, Hf2.out.to_mm, Hn.out, Hla.out⟩
    rw [← Hmk.out]
    exact ⟨rfl, rfl, rfl, rfl, rfl, rfl, rfl, rfl, rfl, rfl, rfl, rfl, rfl, rfl⟩

noncomputable def pCame77 : Code := pieceAt [1, 1, 1, 1, 1, 1, 1, 1, 0, 1, 2, 3, 1, 1, 0, 2, 1, 1, 1, 0, 1, 2, 1, 5, 1, 4, 1, 1, 1, 1, 1, 1, 1, 1, 1, 1, 1]

set_option maxRecDepth 1000000 in
set_option maxHeartbeats 4000000 in
theorem came77 {w0 : World} {R L b1 : Nat} {rl re rs rva : Int} {v mv : Value} {qs ps : List Pk} {so wt : Bool} {ak la ls : Int} {gv : Value} {gs : List (Int × Int)} {tv : Value} {ts : List Pk} {mb wn : Bool} {hh mk nx nw la' : Int} {ac : Value} {len k n j : Nat} {a : Act} {w : World}
    (h : J3 w0 R L b1 rl re rs rva v mv qs ps so wt ak la ls gv gs tv ts (.bool mb) (.int .i64 0) hh mk nx nw ls la' wt ac len k n j ts qs wn a w) (hn : Nm qs so ak nx nw (k + 1)) (hla : wt = true → la' = la) (hmk : ackF mk ts = mkOf so ak) (hmb : mb = wn) (hts : ts.length ≤ 101)
    (hfit : ∀ p ∈ ts, 0 ≤ p.n ∧ p.n ≤ 1152921504606846976) (hmk2 : -1 ≤ mk ∧ mk ≤ 1152921504606846976)
    (Q : Exit → Act → World → Prop) (hK : Hid (∀ a' w', Jt w0 R L rl re rs rva nw ac len k a' w' → Q .normal a' w')) : Code.wp Try.prog pCame77 Q a w := by
  obtain ⟨cv, dv, hs, ⟨s19, s20, s21, s22, s24, s27, s28, s29, s269, s270, s271⟩, hf⟩ := h
  obtain ⟨hsz, hnd, s3, s5, s6, s7, s8, s9, s10, s11, s12, s64, s65, s66⟩ := hs
  obtain ⟨g, hg, rfl⟩ := act_lit a hsz hnd
  simp only [hg] at s3 s5 s6 s7 s8 s9 s10 s11 s12 s64 s65 s66 s19 s20 s21 s22 s24 s27 s28 s29 s269 s270 s271
  clear hg hsz hnd
  unfold lit pCame77
  conv => arg 2; whnf
  simp only [s3, s5, s6, s7, s8, s9, s10, s11, s12, s64, s65, s66, s19, s20, s21, s22, s24, s27, s28, s29, s269, s270, s271]
  clear s3 s5 s6 s7 s8 s9 s10 s11 s12 s64 s65 s66 s19 s20 s21 s22 s24 s27 s28 s29 s269 s270 s271
  obtain ⟨ad, cap, hv, -⟩ := hf.cr.shape
  subst hv
  have Hf := Lib.hid hf
  have Hn := Lib.hid hn
  have Hla := Lib.hid hla
  have Hmk := Lib.hid hmk
  have Hfit := Lib.hid hfit
  have Hmk2 := Lib.hid hmk2
  have Hmb := Lib.hid hmb
  clear hf hn hla hmk hfit hmk2 hmb
  go_wp2_with fail
  rename_i K hc
  refine wp_loop_k (I5 (fun w' => F3 w0 R L b1 rl re rs rva v mv qs ps so wt ak la ls gv gs tv ts (.slice ad ts.length cap) dv ts qs w') R L tv (.bool mb) (.int .i64 0) (.slice ad ts.length cap) wn ts dv mk nx nw ls la' wt ac len k) (m := ts.length) (fun m' a' w' h' => ?_) ⟨0, by omega, ⟨rfl, rfl, rfl, rfl, rfl, rfl, rfl, rfl, rfl, rfl, rfl, rfl, rfl, rfl⟩, rfl, rfl, rfl, rfl, rfl, rfl, rfl, rfl, Hf.out⟩
  refine round5 (fun w1 w2 h hb => h.below hb) (fun w1 h => h.cr) h' hts Hfit.out Hmk2.out _ _ (fun _ _ h => h) (fun a5 w5 h5 => ?_)
  refine inBlock_exit (hc _ _ ?_)
  obtain ⟨i, hi, hs5, s20, s21, s22, s27, s29, -, -, -, hf5⟩ := h5
  obtain rfl : i = ts.length := by omega
  rw [List.take_length, Hmk.out] at hs5
  exact came83 hs5 s20 s21 s22 s27 s29 hf5 Hn.out Hla.out rfl Hmb.out (by omega) Q hK

noncomputable def pCame61 : Code := pieceAt [1, 1, 1, 1, 1, 1, 1, 1, 0, 1, 2, 3, 1, 1, 0, 2, 1, 1, 1, 0, 1, 2, 1, 5, 1, 4, 1, 1, 1, 1, 1, 1, 1, 1]

set_option maxRecDepth 1000000 in
set_option maxHeartbeats 4000000 in
theorem came61 {w0 : World} {R L : Nat} {rl re rs rva : Int} {v mv : Value} {ps : List Pk} {so wt : Bool} {ak la ls : Int} {gv : Value} {gs : List (Int × Int)} {tv : Value} {mb : Bool} {hh mk nx nw la' : Int} {ac : Value} {len k : Nat} {a : Act} {w : World}
    (hs : Sl a R L mv mk nx nw ls la' wt ac len k) (s19 : a.eval (.tmp 19) = gv) (s20 : a.eval (.tmp 20) = tv) (s21 : a.eval (.tmp 21) = .bool mb) (s22 : a.eval (.tmp 22) = .int .i64 0) (s24 : a.eval (.tmp 24) = .int .i64 hh)
    (hm : Mt w0 L R rl re rs rva v mv (ps.filter (fun p => !gs.any (inR p.n))) ps so wt ak la ls w) (hg : RgW w (L + 1) gv gs) (ht : Rw w (L + 1) tv (ps.filter (fun p => gs.any (inR p.n)))) (hgs : gs.length ≤ 10) (hlen : ps.length ≤ 101)
    (hn : Nm (ps.filter (fun p => !gs.any (inR p.n))) so ak nx nw (k + 1)) (hla : wt = true → la' = la) (hmk : ackF mk (ps.filter (fun p => gs.any (inR p.n))) = mkOf so ak) (hmb : mb = (ps.filter (fun p => gs.any (inR p.n))).any (fun p => decide (p.n = hh) && p.e))
    (hfit : ∀ p ∈ ps, 0 ≤ p.n ∧ p.n ≤ 1152921504606846976) (hmk2 : -1 ≤ mk ∧ mk ≤ 1152921504606846976)
    (Q : Exit → Act → World → Prop) (hK : Hid (∀ a' w', Jt w0 R L rl re rs rva nw ac len k a' w' → Q .normal a' w')) : Code.wp Try.prog pCame61 Q a w := by
  obtain ⟨hsz, hnd, s3, s5, s6, s7, s8, s9, s10, s11, s12, s64, s65, s66⟩ := hs
  obtain ⟨g, hg, rfl⟩ := act_lit a hsz hnd
  simp only [hg] at s3 s5 s6 s7 s8 s9 s10 s11 s12 s64 s65 s66 s19 s20 s21 s22 s24
  clear hg hsz hnd
  unfold lit pCame61
  conv => arg 2; whnf
  simp only [s3, s5, s6, s7, s8, s9, s10, s11, s12, s64, s65, s66, s19, s20, s21, s22, s24]
  clear s3 s5 s6 s7 s8 s9 s10 s11 s12 s64 s65 s66 s19 s20 s21 s22 s24
  obtain ⟨ad, cap, hv, -⟩ := hm.row.shape
  subst hv
  have hf := F3.mk (b1 := w.heap.size) (cv := .slice none 0 0) (dv := .slice none 0 0) hm hg ht (Rw.nil _ _) (Rw.nil _ _) (by simp [Value.ownBlock]) hm.led.lt (fun g hg => (hm.row.lt g hg).2) (fun g hg => (hm.led.2.lt g hg).2) (fun g hg' => (hg.lt g hg').2) (fun g hg' => (ht.lt g hg').2) (Nat.le_refl _)
  have Hf := Lib.hid hf
  have Hn := Lib.hid hn
  have Hla := Lib.hid hla
  have Hmk := Lib.hid hmk
  have Hfit := Lib.hid hfit
  have Hmk2 := Lib.hid hmk2
  have Hmb := Lib.hid hmb
  clear hf hm hg ht hn hla hmk hfit hmk2 hmb
  go_wp2_with fail
  rename_i K hc
  refine wp_loop_k (I3 w0 R L w.heap.size rl re rs rva v (.slice ad ps.length cap) (ps.filter (fun p => !gs.any (inR p.n))) ps so wt ak la ls gv gs tv (ps.filter (fun p => gs.any (inR p.n))) (.bool mb) (.int .i64 0) hh mk nx nw ls la' wt ac len k) (m := ps.length) (fun m' a' w' h' => ?_)
    ⟨0, by omega, .slice none 0 0, .slice none 0 0, ⟨rfl, rfl, rfl, rfl, rfl, rfl, rfl, rfl, rfl, rfl, rfl, rfl, rfl, rfl⟩, ⟨rfl, rfl, rfl, rfl, rfl, rfl, rfl, rfl, rfl, rfl, rfl⟩, Hf.out⟩
  refine round3 h' hlen hgs Hfit.out _ _ (fun _ _ h => h) (fun a5 w5 h5 => ?_)
  refine inBlock_exit (hc _ _ ?_)
  obtain ⟨i, hi, hj⟩ := h5
  obtain rfl : i = ps.length := by omega
  rw [List.take_length] at hj
  exact came77 hj Hn.out Hla.out Hmk.out Hmb.out (Nat.le_trans (List.length_filter_le _ _) hlen) (fun p hp => Hfit.out p (List.mem_filter.1 hp).1) Hmk2.out Q hK
end Go.Proofs.Ytpjahdiddgdahaa
