/- LossPlays, the arm of what came, whole. -/
import Derived.Test.YtpjahdiddgdahaaArmCame
namespace Go.Proofs.Ytpjahdiddgdahaa
open Go.RowKit
set_option linter.unusedVariables false
set_option linter.unusedSimpArgs false

noncomputable def pCame47 : Code := pieceAt [1, 1, 1, 1, 1, 1, 1, 1, 0, 1, 2, 3, 1, 1, 0, 2, 1, 1, 1, 0, 1, 2, 1, 5, 1, 4, 1, 1, 1]

set_option maxRecDepth 1000000 in
set_option maxHeartbeats 4000000 in
theorem came47 {w0 : World} {R L b0 : Nat} {rl re rs rva : Int} {v mv : Value} {ps : List Pk} {so wt : Bool} {ak la ls nx nw la' : Int} {gv : Value} {gs : List (Int × Int)} {ac : Value} {len k A : Nat} {x : Ac} {a : Act} {w : World}
    (hs : Sl a R L mv (mkOf so ak) nx nw ls la' wt ac len k) (s14 : a.eval (.tmp 14) = .pointer (some ⟨A, 0, none⟩)) (s19 : a.eval (.tmp 19) = gv) (hf : F1 w0 R L b0 rl re rs rva v mv ps so wt ak la ls gv gs A x w) (hn : Nm ps so ak nx nw (k + 1)) (hla : wt = true → la' = la) (hne : gs ≠ []) (hgs : gs.length ≤ 5) (hx : x.Ok)
    (hin : ∀ r ∈ gs, (0 ≤ r.1 ∧ r.1 ≤ 18446744073709551615) ∧ 0 ≤ r.2 ∧ r.2 ≤ 18446744073709551615)
    (Q : Exit → Act → World → Prop) (hK : Hid (∀ a' w', Jt w0 R L rl re rs rva nw ac len k a' w' → Q .normal a' w')) (hE : Hid (∀ a' w', Jt w0 R L rl re rs rva nw ac len k a' w' → Q (.exit 2) a' w')) : Code.wp Try.prog pCame47 Q a w := by
  obtain ⟨hsz, hnd, s3, s5, s6, s7, s8, s9, s10, s11, s12, s64, s65, s66⟩ := hs
  obtain ⟨g, hg, rfl⟩ := act_lit a hsz hnd
  simp only [hg] at s3 s5 s6 s7 s8 s9 s10 s11 s12 s64 s65 s66 s14 s19
  clear hg hsz hnd
  unfold lit pCame47
  conv => arg 2; whnf
  simp only [s3, s5, s6, s7, s8, s9, s10, s11, s12, s64, s65, s66, s14, s19]
  clear s3 s5 s6 s7 s8 s9 s10 s11 s12 s64 s65 s66 s14 s19
  refine wp_seq_k (fun K hc => ?_)
  have Hc := Lib.hid hc
  obtain ⟨c0, c1, c2, c3, c4, c5, c6, c7, c8, c9, c10, c11, c12⟩ := hf.ab.cells
  clear c0 c1 c2 c3 c4 c5 c6 c7 c8 c12
  have Hf := Lib.hid hf
  have Hn := Lib.hid hn
  have Hla := Lib.hid hla
  have Hne := Lib.hid hne
  have Hin := Lib.hid hin
  have Hx := Lib.hid hx
  clear hc hf hn hla hne hin hx
  cases hr : x.r
  · rw [hr] at c9
    have Hr := Lib.hid hr
    clear hr
    go_wp2_with fail
    refine Hc.out _ _ ?_
    refine came49 ?_ ?_ Hf.out Hn.out Hla.out Hne.out (by omega) Hin.out Q hK hE
    · exact ⟨rfl, rfl, rfl, rfl, rfl, rfl, rfl, rfl, rfl, rfl, rfl, rfl, rfl, rfl⟩
    · exact rfl
  · rw [hr] at c9
    have Hr := Lib.hid hr
    have q1 := Lib.hid (show RgW (w.alloc (.cells #[.int .u64 x.af, .int .u64 x.at'] 40)) b0 gv gs from Hf.out.rg.below (grow (Below.refl _ _) _))
    have q2 := Lib.hid (show (w.alloc (.cells #[.int .u64 x.af, .int .u64 x.at'] 40)).cell? ⟨w.heap.size, 0, none⟩ = some (.int .u64 x.af) from by go_simp)
    have q3 := Lib.hid (show (w.alloc (.cells #[.int .u64 x.af, .int .u64 x.at'] 40)).cell? ⟨w.heap.size, 1, none⟩ = some (.int .u64 x.at') from by go_simp)
    have q4 := Lib.hid (show b0 ≤ (w.alloc (.cells #[.int .u64 x.af, .int .u64 x.at'] 40)).heap.size from Nat.le_trans Hf.out.hb0 (grow (Below.refl _ _) _).size)
    clear hr
    go_wp2_with (at_builtin; go_must (refine wpList_append_rg rfl (.tmp 216) (.tmp 219) rfl b0 gv gs rfl q1.out w.heap.size 1 x.af x.at' rfl q2.out q3.out (by omega) q4.out ?_))
    intro v' w5 hr6 hk6 ho6
    have Hf5 := Lib.hid ((Hf.out.below (grow (Below.refl _ _) _)).push hr6 hk6)
    clear hr6 hk6 ho6
    go_wp2_with fail
    refine Hc.out _ _ ?_
    refine came49 ?_ ?_ Hf5.out Hn.out Hla.out (by simp) (by simp; omega) (fun r hr => ?_) Q hK hE
    · exact ⟨rfl, rfl, rfl, rfl, rfl, rfl, rfl, rfl, rfl, rfl, rfl, rfl, rfl, rfl⟩
    · exact rfl
    · rcases List.mem_append.1 hr with h | h
      · exact Hin.out r h
      · simp at h
        subst h
        exact ⟨Hx.out.af, Hx.out.at'⟩

noncomputable def pCame : Code := pieceAt [1, 1, 1, 1, 1, 1, 1, 1, 0, 1, 2, 3, 1, 1, 0, 2, 1, 1, 1, 0, 1, 2, 1, 5, 1, 4]

set_option maxRecDepth 1000000 in
set_option maxHeartbeats 4000000 in
theorem armCame {w0 : World} {R L : Nat} {rl re rs rva : Int} {v mv : Value} {ps : List Pk} {so wt : Bool} {ak la ls nx nw la' : Int} {ac : Value} {len k A : Nat} {x : Ac} {a : Act} {w : World}
    (hs : Sl a R L mv (mkOf so ak) nx nw ls la' wt ac len k) (s14 : a.eval (.tmp 14) = .pointer (some ⟨A, 0, none⟩)) (hm : Mm w0 L R rl re rs rva v mv ps so wt ak la ls w) (hn : Nm ps so ak nx nw (k + 1)) (hla : wt = true → la' = la) (hab : Ab w A x) (hx : x.Ok)
    (Q : Exit → Act → World → Prop) (hK : Hid (∀ a' w', Jt w0 R L rl re rs rva nw ac len k a' w' → Q .normal a' w')) (hE : Hid (∀ a' w', Jt w0 R L rl re rs rva nw ac len k a' w' → Q (.exit 2) a' w')) : Code.wp Try.prog pCame Q a w := by
  obtain ⟨hsz, hnd, s3, s5, s6, s7, s8, s9, s10, s11, s12, s64, s65, s66⟩ := hs
  obtain ⟨g, hg, rfl⟩ := act_lit a hsz hnd
  simp only [hg] at s3 s5 s6 s7 s8 s9 s10 s11 s12 s64 s65 s66 s14
  clear hg hsz hnd
  unfold lit pCame
  conv => arg 2; whnf
  simp only [s3, s5, s6, s7, s8, s9, s10, s11, s12, s64, s65, s66, s14]
  clear s3 s5 s6 s7 s8 s9 s10 s11 s12 s64 s65 s66 s14
  obtain ⟨c0, c1, c2, c3, c4, c5, c6, c7, c8, c9, c10, c11, c12⟩ := hab.cells
  clear c0 c1 c2 c3 c7 c8 c9 c10 c11 c12
  obtain ⟨xf0, xf1⟩ := hx.fr
  obtain ⟨xm0, xm1⟩ := hx.mn
  obtain ⟨xo0, xo1⟩ := hx.mo
  have hf := Lib.hid (show F1 w0 R L w.heap.size rl re rs rva v mv ps so wt ak la ls (.slice (some ⟨w.heap.size, 0, none⟩) 1 1) [(x.fr, x.fr + 1 + x.mn % 6)] A x (w.alloc (.cells #[.int .u64 x.fr, .int .u64 (x.fr + 1 + x.mn % 6)] 40)) from
    ⟨hm.below (grow (Below.refl _ _) _), RgW.one w _ _ _ (Nat.le_refl _), hab.below (grow (Below.refl _ _) _), hm.led.lt, fun g hg => (hm.row.lt g hg).2, fun g hg => (hm.led.2.lt g hg).2, (Array.getElem?_eq_some_iff.1 hab).1, (grow (Below.refl _ _) _).size⟩)
  have hA : A < w.heap.size := (Array.getElem?_eq_some_iff.1 hab).1
  have hd1 := Lib.hid (show (w.alloc (.cells #[.int .u64 x.fr, .int .u64 (x.fr + 1 + x.mn % 6)] 40)).cell? ⟨w.heap.size, 1, none⟩ = some (.int .u64 (x.fr + 1 + x.mn % 6)) from by go_simp)
  have Hn := Lib.hid hn
  have Hla := Lib.hid hla
  have Hx := Lib.hid hx
  clear hm hn hla hab hx
  go_upto_region 45 with (fail)
  refine wp_gen (fun W => F1 w0 R L w.heap.size rl re rs rva v mv ps so wt ak la ls (.slice (some ⟨w.heap.size, 0, none⟩) 1 1) [(x.fr, x.fr + 1 + x.mn % 6)] A x W ∧ W.cell? ⟨w.heap.size, 1, none⟩ = some (.int .u64 (x.fr + 1 + x.mn % 6))) ⟨hf.out, hd1.out⟩ ?_
  clear hf hd1 c4 c5 c6 hA
  generalize w.heap.size = B at *
  rintro W ⟨hf, hd⟩
  rename_i K2 hc2 K1 hc1
  have Hc := Lib.hid hc2
  obtain ⟨c0, c1, c2, c3, c4, c5, c6, c7, c8, c9, c10, c11, c12⟩ := hf.ab.cells
  clear c0 c1 c2 c3 c4 c5 c7 c8 c9 c10 c11 c12 hc2
  have Hf := Lib.hid hf
  have Hd := Lib.hid hd
  have Hin := Lib.hid (show ∀ r ∈ [(x.fr, x.fr + 1 + x.mn % 6)], (0 ≤ r.1 ∧ r.1 ≤ 18446744073709551615) ∧ 0 ≤ r.2 ∧ r.2 ≤ 18446744073709551615 from fun r hr => by
    simp at hr
    subst hr
    exact ⟨⟨by show 0 ≤ x.fr; omega, by show x.fr ≤ _; omega⟩, by show 0 ≤ x.fr + 1 + x.mn % 6; omega, by show x.fr + 1 + x.mn % 6 ≤ _; omega⟩)
  clear hf hd
  by_cases h3 : x.mo % 3 = 0
  · have h4 : (x.mo % 3 == 0) = true := by simpa using h3
    clear h3
    go_upto_region 46 with (fail)
    refine came46 (mk := mkOf so ak) (nx := nx) (nw := nw) (lt := ls) (la' := la') (wt' := wt) (ac := ac) (len := len) (k := k) ?_ ?_ ?_ Hf.out Hd.out ⟨by omega, by omega⟩ Hx.out _ (fun a5 w5 gv5 hs5 s14 s19 hf5 => ?_)
    · exact ⟨rfl, rfl, rfl, rfl, rfl, rfl, rfl, rfl, rfl, rfl, rfl, rfl, rfl, rfl⟩
    · exact rfl
    · exact rfl
    refine Hc.out _ _ ?_
    refine came47 hs5 s14 s19 hf5 Hn.out Hla.out (by simp) (by simp) Hx.out (fun r hr => ?_) Q hK hE
    rcases List.mem_append.1 hr with h | h
    · exact Hin.out r h
    · simp at h
      subst h
      exact ⟨⟨by show 0 ≤ x.fr + 1 + x.mn % 6 + 2; omega, by show x.fr + 1 + x.mn % 6 + 2 ≤ _; omega⟩, by show 0 ≤ x.fr + 1 + x.mn % 6 + 2 + x.mo % 5; omega, by show x.fr + 1 + x.mn % 6 + 2 + x.mo % 5 ≤ _; omega⟩
  · have h4 : (x.mo % 3 == 0) = false := by simpa using h3
    clear h3
    go_wp2_with fail
    refine Hc.out _ _ ?_
    refine came47 ?_ ?_ ?_ Hf.out Hn.out Hla.out (by simp) (by simp) Hx.out Hin.out Q hK hE
    · exact ⟨rfl, rfl, rfl, rfl, rfl, rfl, rfl, rfl, rfl, rfl, rfl, rfl, rfl, rfl⟩
    · exact rfl
    · exact rfl
end Go.Proofs.Ytpjahdiddgdahaa
