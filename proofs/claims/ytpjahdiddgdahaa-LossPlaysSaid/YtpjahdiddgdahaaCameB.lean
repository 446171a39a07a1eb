/- LossPlays, the arm of what came: from the call on. -/
import Derived.Test.YtpjahdiddgdahaaCameEnd
import Derived.Test.YtpjahdiddgdahaaCame2
import Derived.Test.YtpjahdiddgdahaaCameA
namespace Go.Proofs.Ytpjahdiddgdahaa
open Go.RowKit
set_option linter.unusedVariables false
set_option linter.unusedSimpArgs false

theorem le_endOf {gs : List (Int × Int)} {r : Int × Int} (h : r ∈ gs) : r.2 ≤ endOf gs := by
  have key : ∀ (l : List (Int × Int)) (m : Int), m ≤ l.foldl (fun m r => max m r.2) m ∧ ∀ r ∈ l, r.2 ≤ l.foldl (fun m r => max m r.2) m := by
    intro l
    induction l with
    | nil => intro m; exact ⟨Int.le_refl _, by simp⟩
    | cons a l ih =>
      intro m
      simp only [List.foldl_cons]
      obtain ⟨h1, h2⟩ := ih (max m a.2)
      refine ⟨by omega, fun r hr => ?_⟩
      rcases List.mem_cons.1 hr with rfl | h3
      · omega
      · exact h2 r h3
  exact (key gs 0).2 r h
theorem in_end {ps : List Pk} {gs : List (Int × Int)} {p : Pk} (h : p ∈ ps.filter (fun p => gs.any (inR p.n))) : p.n ≤ endOf gs - 1 := by
  have h1 := (List.mem_filter.1 h).2
  obtain ⟨r, hr, h2⟩ := List.any_eq_true.1 h1
  have h3 := le_endOf hr
  simp [inR] at h2
  omega
theorem any_last {ts xs : List Pk} {g : Pk} {e : Int} (hr : Rise ts) (h : ts = xs ++ [g]) (he : ∀ p ∈ ts, p.n ≤ e) : ts.any (fun p => decide (p.n = e) && p.e) = (decide (g.n = e) && g.e) := by
  subst h
  rw [List.any_append]
  have hx : xs.any (fun p => decide (p.n = e) && p.e) = false := by
    rw [List.any_eq_false]
    intro p hp
    have h1 := (List.pairwise_append.1 hr).2.2 p hp g (by simp)
    have h2 := he g (by simp)
    simp
    intro h3
    omega
  rw [hx]
  simp
theorem ack_last {ts xs : List Pk} {g : Pk} {mk : Int} (hr : Rise ts) (h : ts = xs ++ [g]) : ackF mk ts = max mk g.n := by
  subst h
  rw [ackF_snoc]
  have hx : ∀ (ys : List Pk) (m : Int), (∀ p ∈ ys, p.n ≤ g.n) → max (ackF m ys) g.n = max m g.n := by
    intro ys
    induction ys with
    | nil => intro m _; rfl
    | cons a r ih =>
      intro m hm
      have h1 := hm a (by simp)
      have h2 := ih (max m a.n) (fun p hp => hm p (by simp [hp]))
      show max (ackF (max m a.n) r) g.n = _
      omega
  exact hx xs mk (fun p hp => by have := (List.pairwise_append.1 hr).2.2 p hp g (by simp); omega)

theorem F1.came {w0 w w1 : World} {R L b0 : Nat} {rl re rs rva : Int} {v kv mv tv : Value} {ps qs ts : List Pk} {so so' wt : Bool} {ak ak' la ls : Int} {gv : Value} {gs : List (Int × Int)} {A : Nat} {x : Ac} (h : F1 w0 R L b0 rl re rs rva v mv ps so wt ak la ls gv gs A x w) (hl : Led w1 L kv qs so' ak' wt la ls) (hk : Kp w w1 (fun k => k = L)) (hkv : ∀ k, kv.ownBlock = some k → w.heap.size ≤ k) (ht : Rw w1 w.heap.size tv ts) :
    Mt w0 L R rl re rs rva kv mv qs ps so' wt ak' la ls w1 ∧ RgW w1 (L + 1) gv gs ∧ Rw w1 (L + 1) tv ts := by
  have hL := h.hL
  have hb0 := h.hb0
  have hg : RgW w (L + 1) gv gs := by
    refine ⟨h.rg.1, ?_⟩
    rcases h.rg.2 with hn | ⟨g, cap, cur, hv, h1, r⟩
    · exact .inl hn
    · exact .inr ⟨g, cap, cur, hv, by omega, r⟩
  refine ⟨⟨hl, h.mm.row.keep fun g hg => hk.block g (h.mm.row.lt g hg).2 (by have := (h.mm.row.lt g hg).1; show ¬ g = L; omega), h.mm.rv.kp hk (by have := h.mm.hL; omega), below_kp h.mm.be hk (fun k hk => by have := h.mm.hR; have := h.mm.hL; omega), fun g hg e => by have := (h.mm.row.lt g hg).2; have := hkv g e; omega, h.mm.hR, h.mm.hL⟩, hg.keep fun g hg' => hk.block g (hg.lt g hg').2 (by have := (hg.lt g hg').1; show ¬ g = L; omega), ht.mono (by omega)⟩

noncomputable def pCame58 : Code := pieceAt [1, 1, 1, 1, 1, 1, 1, 1, 0, 1, 2, 3, 1, 1, 0, 2, 1, 1, 1, 0, 1, 2, 1, 5, 1, 4, 1, 1, 1, 1, 1, 1, 1]

set_option maxRecDepth 1000000 in
set_option maxHeartbeats 4000000 in
theorem came58_bad {w0 : World} {R L : Nat} {rl re rs rva : Int} {v mv : Value} {ps : List Pk} {so wt : Bool} {ak la ls nx nw la' : Int} {ac : Value} {len k : Nat} {a : Act} {w : World}
    (hs : Sl a R L mv (mkOf so ak) nx nw ls la' wt ac len k) (s20 : a.eval (.tmp 20) = .slice none 0 0) (s21 : a.eval (.tmp 21) = .bool false) (s22 : a.eval (.tmp 22) = .int .i64 10) (s23 : a.eval (.tmp 23) = .bool true) (hm : Mm w0 L R rl re rs rva v mv ps so wt ak la ls w) (hn : Nm ps so ak nx nw (k + 1)) (hla : wt = true → la' = la)
    (Q : Exit → Act → World → Prop) (hE : Hid (∀ a' w', Jt w0 R L rl re rs rva nw ac len k a' w' → Q (.exit 2) a' w')) : Code.wp Try.prog pCame58 Q a w := by
  obtain ⟨hsz, hnd, s3, s5, s6, s7, s8, s9, s10, s11, s12, s64, s65, s66⟩ := hs
  obtain ⟨g, hg, rfl⟩ := act_lit a hsz hnd
  simp only [hg] at s3 s5 s6 s7 s8 s9 s10 s11 s12 s64 s65 s66 s20 s21 s22 s23
  clear hg hsz hnd
  unfold lit pCame58
  conv => arg 2; whnf
  simp only [s3, s5, s6, s7, s8, s9, s10, s11, s12, s64, s65, s66, s20, s21, s22, s23]
  clear s3 s5 s6 s7 s8 s9 s10 s11 s12 s64 s65 s66 s20 s21 s22 s23
  have Hm := Lib.hid hm
  have Hn := Lib.hid hn
  have Hla := Lib.hid hla
  clear hm hn hla
  go_wp2_with fail
  exact hE.out _ _ ⟨v, mv, ps, so, wt, ak, la, ls, nx, la', ⟨rfl, rfl, rfl, rfl, rfl, rfl, rfl, rfl, rfl, rfl, rfl, rfl, rfl, rfl⟩, Hm.out, Hn.out, Hla.out⟩

set_option maxRecDepth 1000000 in
set_option maxHeartbeats 4000000 in
theorem came58_good {w0 : World} {R L : Nat} {rl re rs rva : Int} {v mv : Value} {ps : List Pk} {so wt : Bool} {ak la ls : Int} {gv : Value} {gs : List (Int × Int)} {tv : Value} {mb : Bool} {hh mk nx nw la' : Int} {ac : Value} {len k : Nat} {a : Act} {w : World}
    (hs : Sl a R L mv mk nx nw ls la' wt ac len k) (s19 : a.eval (.tmp 19) = gv) (s20 : a.eval (.tmp 20) = tv) (s21 : a.eval (.tmp 21) = .bool mb) (s22 : a.eval (.tmp 22) = .int .i64 0) (s23 : a.eval (.tmp 23) = .bool false) (s24 : a.eval (.tmp 24) = .int .i64 hh)
    (hm : Mt w0 L R rl re rs rva v mv (ps.filter (fun p => !gs.any (inR p.n))) ps so wt ak la ls w) (hg : RgW w (L + 1) gv gs) (ht : Rw w (L + 1) tv (ps.filter (fun p => gs.any (inR p.n)))) (hgs : gs.length ≤ 10) (hlen : ps.length ≤ 101)
    (hn : Nm (ps.filter (fun p => !gs.any (inR p.n))) so ak nx nw (k + 1)) (hla : wt = true → la' = la) (hmk : ackF mk (ps.filter (fun p => gs.any (inR p.n))) = mkOf so ak) (hmb : mb = (ps.filter (fun p => gs.any (inR p.n))).any (fun p => decide (p.n = hh) && p.e))
    (hfit : ∀ p ∈ ps, 0 ≤ p.n ∧ p.n ≤ 1152921504606846976) (hmk2 : -1 ≤ mk ∧ mk ≤ 1152921504606846976)
    (Q : Exit → Act → World → Prop) (hK : Hid (∀ a' w', Jt w0 R L rl re rs rva nw ac len k a' w' → Q .normal a' w')) : Code.wp Try.prog pCame58 Q a w := by
  obtain ⟨hsz, hnd, s3, s5, s6, s7, s8, s9, s10, s11, s12, s64, s65, s66⟩ := hs
  obtain ⟨g, hg, rfl⟩ := act_lit a hsz hnd
  simp only [hg] at s3 s5 s6 s7 s8 s9 s10 s11 s12 s64 s65 s66 s19 s20 s21 s22 s23 s24
  clear hg hsz hnd
  unfold lit pCame58
  conv => arg 2; whnf
  simp only [s3, s5, s6, s7, s8, s9, s10, s11, s12, s64, s65, s66, s19, s20, s21, s22, s23, s24]
  clear s3 s5 s6 s7 s8 s9 s10 s11 s12 s64 s65 s66 s19 s20 s21 s22 s23 s24
  refine wp_seq_k (fun K hc => ?_)
  have Hc := Lib.hid hc
  have Hm := Lib.hid hm
  have Hg := Lib.hid hg
  have Ht := Lib.hid ht
  have Hn := Lib.hid hn
  have Hla := Lib.hid hla
  have Hmk := Lib.hid hmk
  have Hmb := Lib.hid hmb
  have Hfit := Lib.hid hfit
  clear hc hm hg ht hn hla hmk hmb hfit
  go_wp2_with fail
  refine Hc.out _ _ ?_
  refine came61 ?_ ?_ ?_ ?_ ?_ ?_ Hm.out Hg.out Ht.out hgs hlen Hn.out Hla.out Hmk.out Hmb.out Hfit.out hmk2 Q hK
  · exact ⟨rfl, rfl, rfl, rfl, rfl, rfl, rfl, rfl, rfl, rfl, rfl, rfl, rfl, rfl⟩
  · exact rfl
  · exact rfl
  · exact rfl
  · exact rfl
  · exact rfl
end Go.Proofs.Ytpjahdiddgdahaa
