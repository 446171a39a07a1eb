/- LossPlays, the arm that sends, whole. -/
import Derived.Test.YtpjahdiddgdahaaArmSentOk
namespace Go.Proofs.Ytpjahdiddgdahaa
open Go.RowKit
set_option linter.unusedVariables false
set_option linter.unusedSimpArgs false

theorem Pb.renum {w : World} {B : Nat} {p : Pk} (h : Pb w B p) (n : Int) : Pb (w.setCell ⟨B, 0, none⟩ (.int .u64 n)) B ⟨n, p.a, p.s, p.e, p.f⟩ := by
  unfold Pb at *
  simp [World.setCell, Array.getElem?_modify, h]
theorem Mm.setB {w0 w : World} {L R B : Nat} {rl re rs rva : Int} {v mv : Value} {ps : List Pk} {so wt : Bool} {ak la ls : Int} (h : Mm w0 L R rl re rs rva v mv ps so wt ak la ls w) (u : Value) (h1 : B ≠ L) (h2 : B ≠ R) (h3 : v.ownBlock ≠ some B) (h4 : mv.ownBlock ≠ some B) (h5 : w0.heap.size ≤ B) :
    Mm w0 L R rl re rs rva v mv ps so wt ak la ls (w.setCell ⟨B, 0, none⟩ u) :=
  h.kp ((Kp.of_below (fun k => k = B) (Below.refl _ w)).set ⟨B, 0, none⟩ rfl u) (fun k hk => by subst hk; exact ⟨h1, h2, h3, h4, h5⟩)

noncomputable def pSent : Code := pieceAt [1, 1, 1, 1, 1, 1, 1, 1, 0, 1, 2, 3, 1, 1, 0, 2, 1, 1, 1, 0, 1, 2, 1, 4]

set_option maxRecDepth 1000000 in
set_option maxHeartbeats 8000000 in
theorem armSent {w0 : World} {R L : Nat} {rl re rs rva : Int} {v mv : Value} {ps : List Pk} {so wt : Bool} {ak la ls nx nw la' : Int} {ac : Value} {len k A : Nat} {x : Ac} {a : Act} {w : World}
    (hs : Sl a R L mv (mkOf so ak) nx nw ls la' wt ac len k) (s14 : a.eval (.tmp 14) = .pointer (some ⟨A, 0, none⟩)) (hm : Mm w0 L R rl re rs rva v mv ps so wt ak la ls w) (hn : Nm ps so ak nx nw (k + 1)) (hlen : ps.length ≤ k) (hla : wt = true → la' = la) (hab : Ab w A x) (hx : x.Ok)
    (Q : Exit → Act → World → Prop) (hK : Hid (∀ a' w', Jt w0 R L rl re rs rva nw ac len k a' w' → Q .normal a' w')) (hE : Hid (∀ a' w', Jt w0 R L rl re rs rva nw ac len k a' w' → Q (.exit 2) a' w')) (hR : Hid (∀ a' w', a'.defers = [] → a'.eval (.tmp 4) = .bool true → Below w0.heap.size w0 w' → Q .ret a' w')) : Code.wp Try.prog pSent Q a w := by
  obtain ⟨hsz, hnd, s3, s5, s6, s7, s8, s9, s10, s11, s12, s64, s65, s66⟩ := hs
  obtain ⟨g, hg, rfl⟩ := act_lit a hsz hnd
  simp only [hg] at s3 s5 s6 s7 s8 s9 s10 s11 s12 s64 s65 s66 s14
  clear hg hsz hnd
  unfold lit pSent
  conv => arg 2; whnf
  simp only [s3, s5, s6, s7, s8, s9, s10, s11, s12, s64, s65, s66, s14]
  clear s3 s5 s6 s7 s8 s9 s10 s11 s12 s64 s65 s66 s14
  obtain ⟨c0, c1, c2, c3, c4, c5, c6, c7, c8, c9, c10, c11, c12⟩ := hab.cells
  have hAl : A < w.heap.size := (Array.getElem?_eq_some_iff.1 hab).1
  obtain ⟨xg0, xg1⟩ := hx.g
  obtain ⟨xs0, xs1⟩ := hx.s
  obtain ⟨xn0, xn1⟩ := hx.nu
  have hnx0 := hn.nx0
  have hnx1 := hn.nx1
  have f1 := Lib.hid (show w.heap.size ≠ L from by have := hm.led.lt; omega)
  have f2 := Lib.hid (show w.heap.size ≠ R from by have := hm.rv.lt; omega)
  have f3 := Lib.hid (show v.ownBlock ≠ some w.heap.size from fun e => by have := (hm.led.2.lt _ e).2; omega)
  have f4 := Lib.hid (show mv.ownBlock ≠ some w.heap.size from fun e => by have := (hm.row.lt _ e).2; omega)
  have f5 := Lib.hid (show w0.heap.size ≤ w.heap.size from hm.be.size)
  have Hm := Lib.hid hm
  have Hn := Lib.hid hn
  have Hla := Lib.hid hla
  have Hab := Lib.hid hab
  clear hm hn hla hab
  go_upto_region 28 with (fail)
  refine wp_gen (fun W => Mm w0 L R rl re rs rva v mv ps so wt ak la ls W ∧ Ab W A x ∧ Pb W w.heap.size ⟨nx + x.g % 4, nw, x.s, x.e, x.f⟩) ⟨Hm.out.below (grow (Below.refl _ _) _), Hab.out.below (grow (Below.refl _ _) _), Pb.new _ ⟨nx + x.g % 4, nw, x.s, x.e, x.f⟩⟩ ?_
  clear c0 c1 c2 c3 c4 c5 c6 c7 c8 c9 c10 c11 c12 Hm Hab hAl
  generalize w.heap.size = B at *
  rintro W ⟨hm, hab, hpb⟩
  obtain ⟨c0, c1, c2, c3, c4, c5, c6, c7, c8, c9, c10, c11, c12⟩ := hab.cells
  obtain ⟨d0, d1, d2, d3, d4⟩ := hpb.cells
  have dz : W.frozen? ⟨B, 0, none⟩ = false := by unfold Pb at hpb; simp [World.frozen?, hpb]
  have Hm := Lib.hid hm
  have Hpb := Lib.hid hpb
  clear hm hab hpb
  rename_i K2 hc2 K1 hc1
  have Hc := Lib.hid hc2
  clear hc2
  cases hr : x.r
  · rw [hr] at c9
    have Hr := Lib.hid hr
    clear hr
    go_wp2_with fail
    refine Hc.out _ _ ?_
    by_cases hlow : lowB ps so ak ⟨nx + x.g % 4, nw, x.s, x.e, x.f⟩
    · refine sent_arm_bad ?_ ?_ Hm.out Hn.out Hla.out Hpb.out ⟨by show 0 ≤ nx + x.g % 4; omega, by show nx + x.g % 4 ≤ _; omega⟩ hlow Q hE
      · exact ⟨rfl, rfl, rfl, rfl, rfl, rfl, rfl, rfl, rfl, rfl, rfl, rfl, rfl, rfl⟩
      · exact rfl
    · refine sent_arm_ok ?_ ?_ Hm.out Hn.out hlen Hla.out Hpb.out ⟨by show 0 ≤ nx + x.g % 4; omega, by show nx + x.g % 4 ≤ _; omega⟩ rfl ⟨xs0, xs1⟩ hlow f1.out f3.out f4.out Q hK hR
      · exact ⟨rfl, rfl, rfl, rfl, rfl, rfl, rfl, rfl, rfl, rfl, rfl, rfl, rfl, rfl⟩
      · exact rfl
  · rw [hr] at c9
    have Hr := Lib.hid hr
    clear hr
    go_wp2_with fail
    have Hm2 := Lib.hid (Hm.out.setB (.int .u64 x.nu) f1.out f2.out f3.out f4.out f5.out)
    have Hpb2 := Lib.hid (Hpb.out.renum x.nu)
    refine Hc.out _ _ ?_
    by_cases hlow : lowB ps so ak ⟨x.nu, nw, x.s, x.e, x.f⟩
    · refine sent_arm_bad ?_ ?_ Hm2.out Hn.out Hla.out Hpb2.out ⟨xn0, xn1⟩ hlow Q hE
      · exact ⟨rfl, rfl, rfl, rfl, rfl, rfl, rfl, rfl, rfl, rfl, rfl, rfl, rfl, rfl⟩
      · exact rfl
    · refine sent_arm_ok ?_ ?_ Hm2.out Hn.out hlen Hla.out Hpb2.out ⟨xn0, xn1⟩ rfl ⟨xs0, xs1⟩ hlow f1.out f3.out f4.out Q hK hR
      · exact ⟨rfl, rfl, rfl, rfl, rfl, rfl, rfl, rfl, rfl, rfl, rfl, rfl, rfl, rfl⟩
      · exact rfl
end Go.Proofs.Ytpjahdiddgdahaa
