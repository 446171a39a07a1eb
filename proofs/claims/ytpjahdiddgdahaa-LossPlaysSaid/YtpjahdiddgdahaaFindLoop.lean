/- LossPlays, the arm that finds: the law's own rounds. -/
import Derived.Test.YtpjahdiddgdahaaCls
import Derived.Deep.DeepMust
namespace Go.Proofs.Ytpjahdiddgdahaa
open Go.RowKit
set_option linter.unusedVariables false
set_option linter.unusedSimpArgs false

/-- The law's own time of the next loss, over what is kept. -/
def lawW (mk wait : Int) (ks : List Pk) (wt : Bool) (la : Int) : Prop :=
  (wt = true → (∃ p ∈ ks, p.n ≤ mk ∧ p.a + wait = la) ∧ ∀ p ∈ ks, p.n ≤ mk → la ≤ p.a + wait) ∧ (wt = false → ∀ p ∈ ks, mk < p.n)
theorem lawW_nil (mk wait la : Int) : lawW mk wait [] false la := ⟨(fun h => nomatch h), fun _ p hp => by simp at hp⟩
theorem lawW_high {mk wait la : Int} {ks : List Pk} {wt : Bool} {p : Pk} (h : lawW mk wait ks wt la) (hp : mk < p.n) : lawW mk wait (ks ++ [p]) wt la := by
  refine ⟨fun hw => ?_, fun hw q hq => ?_⟩
  · obtain ⟨⟨q, hq, h1, h2⟩, h3⟩ := h.1 hw
    refine ⟨⟨q, by simp [hq], h1, h2⟩, fun r hr hrn => ?_⟩
    rcases List.mem_append.1 hr with h4 | h4
    · exact h3 r h4 hrn
    · simp at h4; subst h4; omega
  · rcases List.mem_append.1 hq with h4 | h4
    · exact h.2 hw q h4
    · simp at h4; subst h4; exact hp
theorem lawW_first {mk wait la : Int} {ks : List Pk} {p : Pk} (h : lawW mk wait ks false la) (hp : p.n ≤ mk) : lawW mk wait (ks ++ [p]) true (p.a + wait) := by
  refine ⟨fun _ => ⟨⟨p, by simp, hp, rfl⟩, fun r hr hrn => ?_⟩, (fun h => nomatch h)⟩
  rcases List.mem_append.1 hr with h4 | h4
  · have := h.2 rfl r h4; omega
  · simp at h4; subst h4; exact Int.le_refl _
theorem lawW_less {mk wait la : Int} {ks : List Pk} {p : Pk} (h : lawW mk wait ks true la) (hp : p.n ≤ mk) (hl : p.a + wait < la) : lawW mk wait (ks ++ [p]) true (p.a + wait) := by
  refine ⟨fun _ => ⟨⟨p, by simp, hp, rfl⟩, fun r hr hrn => ?_⟩, (fun h => nomatch h)⟩
  rcases List.mem_append.1 hr with h4 | h4
  · have := (h.1 rfl).2 r h4 hrn; omega
  · simp at h4; subst h4; exact Int.le_refl _
theorem lawW_more {mk wait la : Int} {ks : List Pk} {p : Pk} (h : lawW mk wait ks true la) (hl : la ≤ p.a + wait) : lawW mk wait (ks ++ [p]) true la := by
  obtain ⟨⟨q, hq, h1, h2⟩, h3⟩ := h.1 rfl
  refine ⟨fun _ => ⟨⟨q, by simp [hq], h1, h2⟩, fun r hr hrn => ?_⟩, (fun h => nomatch h)⟩
  rcases List.mem_append.1 hr with h4 | h4
  · exact h3 r h4 hrn
  · simp at h4; subst h4; exact hl

/-- Memory, and two rows of the call's own that grow. -/
structure F6 (w0 : World) (R L b0 : Nat) (rl re rs rva : Int) (v mv : Value) (ps : List Pk) (so wt : Bool) (ak la ls : Int) (lv kv : Value) (ts ks : List Pk) (w : World) : Prop where
  mm : Mm w0 L R rl re rs rva v mv ps so wt ak la ls w
  lr : Rw w b0 lv ts
  kr : Rw w b0 kv ks
  di : ∀ g, lv.ownBlock = some g → kv.ownBlock ≠ some g
  hL : L < b0
  hmv : ∀ g, mv.ownBlock = some g → g < b0
  hv : ∀ g, v.ownBlock = some g → g < b0
  hb0 : b0 ≤ w.heap.size
theorem F6.below {w0 w w' : World} {R L b0 : Nat} {rl re rs rva : Int} {v mv : Value} {ps : List Pk} {so wt : Bool} {ak la ls : Int} {lv kv : Value} {ts ks : List Pk} (h : F6 w0 R L b0 rl re rs rva v mv ps so wt ak la ls lv kv ts ks w) (hb : Below w.heap.size w w') :
    F6 w0 R L b0 rl re rs rva v mv ps so wt ak la ls lv kv ts ks w' :=
  ⟨h.mm.below hb, h.lr.below hb, h.kr.below hb, h.di, h.hL, h.hmv, h.hv, Nat.le_trans h.hb0 hb.size⟩
theorem Mm.kp {w0 w w' : World} {L R : Nat} {rl re rs rva : Int} {v mv : Value} {ps : List Pk} {so wt : Bool} {ak la ls : Int} {S : Nat → Prop} (h : Mm w0 L R rl re rs rva v mv ps so wt ak la ls w) (hk : Kp w w' S) (hS : ∀ k, S k → k ≠ L ∧ k ≠ R ∧ v.ownBlock ≠ some k ∧ mv.ownBlock ≠ some k ∧ w0.heap.size ≤ k) :
    Mm w0 L R rl re rs rva v mv ps so wt ak la ls w' :=
  ⟨h.led.keep fun k hk' hb => hk.block k hk' (fun hs => by obtain ⟨h1, h2, h3, h4, h5⟩ := hS k hs; rcases hb with rfl | hb; exact h1 rfl; exact h3 hb),
    h.row.keep fun g hg => hk.block g (h.row.lt g hg).2 (fun hs => (hS g hs).2.2.2.1 hg), h.rv.kp hk (fun hs => (hS R hs).2.1 rfl), below_kp h.be hk (fun k hs => (hS k hs).2.2.2.2), h.ne, h.hR, h.hL⟩
theorem F6.pushK {w0 w1 w5 : World} {R L b0 : Nat} {rl re rs rva : Int} {v mv : Value} {ps : List Pk} {so wt : Bool} {ak la ls : Int} {lv kv v' : Value} {ts ks ks' : List Pk} {o : Obj} (h : F6 w0 R L b0 rl re rs rva v mv ps so wt ak la ls lv kv ts ks w1)
    (hr : Rw w5 b0 v' ks') (hk : Kp (w1.alloc o) w5 (fun k => kv.ownBlock = some k)) (ho : v'.ownBlock = kv.ownBlock ∨ v'.ownBlock = some (w1.heap.size + 1)) : F6 w0 R L b0 rl re rs rva v mv ps so wt ak la ls lv v' ts ks' w5 := by
  have h2 := h.below (grow (Below.refl w1.heap.size w1) o)
  have hs : (w1.alloc o).heap.size = w1.heap.size + 1 := by simp
  refine ⟨h2.mm.kp hk (fun k hk => ?_), h2.lr.keep fun g hg => hk.block g (h2.lr.lt g hg).2 (h2.di g hg), hr, fun g h3 h4 => ?_, h.hL, h.hmv, h.hv, Nat.le_trans h2.hb0 hk.size⟩
  · have h3 := (h2.kr.lt k hk).1
    have h4 := h.hL
    have h5 := h.mm.hL
    have h6 := h.mm.hR
    exact ⟨by omega, by omega, fun e => by have := h.hv k e; omega, fun e => by have := h.hmv k e; omega, by omega⟩
  · rcases ho with h5 | h5
    · exact h.di g h3 (by rw [← h5]; exact h4)
    · rw [h5] at h4
      have := (h.lr.lt g h3).2
      simp at h4
      omega
theorem F6.pushL {w0 w1 w5 : World} {R L b0 : Nat} {rl re rs rva : Int} {v mv : Value} {ps : List Pk} {so wt : Bool} {ak la ls : Int} {lv kv v' : Value} {ts ks ts' : List Pk} {o : Obj} (h : F6 w0 R L b0 rl re rs rva v mv ps so wt ak la ls lv kv ts ks w1)
    (hr : Rw w5 b0 v' ts') (hk : Kp (w1.alloc o) w5 (fun k => lv.ownBlock = some k)) (ho : v'.ownBlock = lv.ownBlock ∨ v'.ownBlock = some (w1.heap.size + 1)) : F6 w0 R L b0 rl re rs rva v mv ps so wt ak la ls v' kv ts' ks w5 := by
  have h2 := h.below (grow (Below.refl w1.heap.size w1) o)
  have hs : (w1.alloc o).heap.size = w1.heap.size + 1 := by simp
  refine ⟨h2.mm.kp hk (fun k hk => ?_), hr, h2.kr.keep fun g hg => hk.block g (h2.kr.lt g hg).2 (fun e => h2.di g e hg), fun g h3 h4 => ?_, h.hL, h.hmv, h.hv, Nat.le_trans h2.hb0 hk.size⟩
  · have h3 := (h2.lr.lt k hk).1
    have h4 := h.hL
    have h5 := h.mm.hL
    have h6 := h.mm.hR
    exact ⟨by omega, by omega, fun e => by have := h.hv k e; omega, fun e => by have := h.hmv k e; omega, by omega⟩
  · rcases ho with h5 | h5
    · exact h.di g (by rw [← h5]; exact h3) h4
    · rw [h5] at h3
      have := (h.kr.lt g h4).2
      simp at h3
      omega

theorem filt_yes {q : Pk → Bool} {ps : List Pk} {j : Nat} {p : Pk} (hs : ps.take (j + 1) = ps.take j ++ [p]) (h : q p = true) : (ps.take (j + 1)).filter q = (ps.take j).filter q ++ [p] := by rw [hs]; simp [h]
theorem filt_no {q : Pk → Bool} {ps : List Pk} {j : Nat} {p : Pk} (hs : ps.take (j + 1) = ps.take j ++ [p]) (h : q p = false) : (ps.take (j + 1)).filter q = (ps.take j).filter q := by rw [hs]; simp [h]
theorem filt_len (q : Pk → Bool) (ps : List Pk) (j : Nat) (h : ps.length ≤ 101) : ((ps.take j).filter q).length ≤ 1000 :=
  Nat.le_trans (List.length_filter_le _ _) (by rw [List.length_take]; omega)
theorem Pb.kp {w w' : World} {S : Nat → Prop} {B : Nat} {p : Pk} (h : Pb w B p) (hk : Kp w w' S) (hS : ¬ S B) : Pb w' B p := by
  unfold Pb at *
  rw [hk.block B (Array.getElem?_eq_some_iff.1 h).1 hS]; exact h

noncomputable def pFind6 : Code := pieceAt [1, 1, 1, 1, 1, 1, 1, 1, 0, 1, 2, 3, 1, 1, 0, 2, 1, 1, 1, 0, 1, 2, 1, 5, 1, 5, 1, 4, 1, 1, 0, 1, 2, 3]

/-- At the head of the rounds: j are parted. -/
def I6 (w0 : World) (R L b0 : Nat) (rl re rs rva : Int) (v mv : Value) (ps : List Pk) (so wt : Bool) (ak la ls mk nx nw lt wait : Int) (ac : Value) (len k : Nat) (m : Nat) (a : Act) (w : World) : Prop :=
  ∃ (j : Nat) (lv kv : Value) (wt' : Bool) (la' : Int), j + m = ps.length ∧ Sl a R L mv mk nx nw lt la' wt' ac len k ∧ a.eval (.tmp 348) = mv ∧ a.eval (.tmp 349) = .int .i64 ps.length ∧ a.eval (.tmp 350) = .int .i64 j ∧
    a.eval (.tmp 37) = lv ∧ a.eval (.tmp 38) = kv ∧ F6 w0 R L b0 rl re rs rva v mv ps so wt ak la ls lv kv ((ps.take j).filter (isLost mk nw wait)) ((ps.take j).filter (fun p => !isLost mk nw wait p)) w ∧
    lawW mk wait ((ps.take j).filter (fun p => !isLost mk nw wait p)) wt' la'

set_option maxRecDepth 1000000 in
set_option maxHeartbeats 8000000 in
theorem round6 {w0 : World} {R L b0 : Nat} {rl re rs rva : Int} {v mv : Value} {ps : List Pk} {so wt : Bool} {ak la ls mk nx nw lt wait : Int} {ac : Value} {len k : Nat} {m : Nat} {a : Act} {w : World}
    (h : I6 w0 R L b0 rl re rs rva v mv ps so wt ak la ls mk nx nw lt wait ac len k m a w) (hlen : ps.length ≤ 101) (hfit : ∀ p ∈ ps, (0 ≤ p.n ∧ p.n ≤ 1152921504606846976) ∧ 0 ≤ p.a ∧ p.a ≤ nw) (hmk : -1 ≤ mk ∧ mk ≤ 1152921504606846976) (hnw : 0 ≤ nw ∧ nw ≤ 1125899906842624)
    (hwt : 0 ≤ wait ∧ wait ≤ 18014398509481984) (hwe : Hid (wait = max (9 * max rs rl / 8) 1000)) (hrl : 0 ≤ rl ∧ rl ≤ 1125899906842624) (hrs : 0 ≤ rs ∧ rs ≤ 1125899906842624) (K : Act → World → Prop) (Q0 : Exit → Act → World → Prop)
    (hK : Hid (∀ a' w', (∃ m', m = m' + 1 ∧ I6 w0 R L b0 rl re rs rva v mv ps so wt ak la ls mk nx nw lt wait ac len k m' a' w') → K a' w'))
    (hE : Hid (∀ a' w', I6 w0 R L b0 rl re rs rva v mv ps so wt ak la ls mk nx nw lt wait ac len k 0 a' w' → Q0 (.exit 13) a' w')) : Code.wp Try.prog pFind6 (Exit.then K Q0) a w := by
  obtain ⟨j, lv, kv, wt', la', hj, hs, s348, s349, s350, s37, s38, hf, hlw⟩ := h
  obtain ⟨hsz, hnd, s3, s5, s6, s7, s8, s9, s10, s11, s12, s64, s65, s66⟩ := hs
  obtain ⟨g, hg, rfl⟩ := act_lit a hsz hnd
  simp only [hg] at s3 s5 s6 s7 s8 s9 s10 s11 s12 s64 s65 s66 s348 s349 s350 s37 s38
  clear hg hsz hnd
  unfold lit pFind6
  conv => arg 2; whnf
  simp only [s3, s5, s6, s7, s8, s9, s10, s11, s12, s64, s65, s66, s348, s349, s350, s37, s38]
  clear s3 s5 s6 s7 s8 s9 s10 s11 s12 s64 s65 s66 s348 s349 s350 s37 s38
  obtain ⟨ad, cap, hv, hcs⟩ := hf.mm.row.shape
  subst hv
  have Hcs := Lib.hid hcs
  have Hf := Lib.hid hf
  have Hlw := Lib.hid hlw
  have Hfit := Lib.hid hfit
  clear hcs hf hfit hlw
  obtain ⟨hmk0, hmk1⟩ := hmk
  obtain ⟨hnw0, hnw1⟩ := hnw
  obtain ⟨hwt0, hwt1⟩ := hwt
  obtain ⟨hrl0, hrl1⟩ := hrl
  obtain ⟨hrs0, hrs1⟩ := hrs
  by_cases hlt : j < ps.length
  · obtain ⟨g', rfl, hg', hgl, hgo, d0, d1, d2, d3, d4⟩ := Hcs.out j ps[j] (List.getElem?_eq_getElem hlt)
    obtain ⟨⟨hp0, hp1⟩, hp2, hp3⟩ := Hfit.out ps[j] (List.getElem_mem hlt)
    have hstep : ps.take (j + 1) = ps.take j ++ [ps[j]] := List.take_succ_eq_append_getElem hlt
    generalize ps[j] = p at *
    have Hstep := Lib.hid hstep
    clear hstep
    have hkB : ∀ g, kv.ownBlock = some g → g < w.heap.size := fun g hg => (Hf.out.kr.lt g hg).2
    have HkB := Lib.hid hkB
    clear hkB
    go_upto_region 94 with (fail)
    refine wp_gen (fun W => F6 w0 R L b0 rl re rs rva v (.slice (some ⟨g', 0, none⟩) ps.length cap) ps so wt ak la ls lv kv ((ps.take j).filter (isLost mk nw wait)) ((ps.take j).filter (fun p => !isLost mk nw wait p)) W ∧ Pb W w.heap.size p) ⟨Hf.out.below (grow (Below.refl _ _) _), Pb.new _ _⟩ ?_
    clear d0 d1 d2 d3 d4 Hf hgl
    generalize w.heap.size = B at *
    rintro W ⟨hf, hpb⟩
    have Hf := Lib.hid hf
    have Hpb := Lib.hid hpb
    obtain ⟨d0, d1, d2, d3, d4⟩ := hpb.cells
    have Hl4 := Lib.hid (filt_len (isLost mk nw wait) ps j hlen)
    have Hl5 := Lib.hid (filt_len (fun p => !isLost mk nw wait p) ps j hlen)
    clear hf hpb
    by_cases hhi : mk < p.n
    · have hq : isLost mk nw wait p = false := by simp [isLost, hhi]
      have Ht := Lib.hid (filt_no (q := isLost mk nw wait) Hstep.out hq)
      have Hk := Lib.hid (filt_yes (q := fun p => !isLost mk nw wait p) Hstep.out (by simp [hq]))
      have Hw := Lib.hid (lawW_high (p := p) Hlw.out hhi)
      clear hq
      go_wp2_with (at_builtin; go_must (refine wpList_append_pk rfl (.tmp 380) (.tmp 382) rfl b0 kv _ rfl (Hf.out.kr.below (grow (Below.refl _ _) _)) W.heap.size 1 p rfl (Pb.new _ _) Hl5.out (Nat.le_trans Hf.out.hb0 (grow (Below.refl _ _) _).size) ?_))
      intro v' w5 hr6 hk6 ho6
      have hf5 := Hf.out.pushK hr6 hk6 (by simpa using ho6)
      have Hf5 := Lib.hid hf5
      clear hf5 hr6 hk6 ho6
      go_wp2_with fail
      exact hK.out _ _ ⟨m - 1, by omega, j + 1, lv, v', wt', la', by omega, ⟨rfl, rfl, rfl, rfl, rfl, rfl, rfl, rfl, rfl, rfl, rfl, rfl, rfl, rfl⟩, rfl, rfl, (by go_num : Value.int .i64 (↑j + 1) = .int .i64 ↑(j + 1)), rfl, rfl, by rw [Ht.out, Hk.out]; exact Hf5.out, by rw [Hk.out]; exact Hw.out⟩
    · have hhi2 : p.n ≤ mk := by omega
      clear hhi
      go_wp2_with fail
      obtain ⟨I, F, hF⟩ := grown_of W
      obtain ⟨r0, r1, r2, r3, r4⟩ := Hf.out.mm.rv.cells
      have e0 := hF.cell d0
      have e1 := hF.cell d1
      have e2 := hF.cell r0
      have e3 := hF.cell r1
      have e4 := hF.cell r2
      have e5 := hF.cell r3
      have e6 := hF.cell r4
      have hNI : Nonempty I := hF.non
      have HF := Lib.hid hF
      clear hF r0 r1 r2 r3 r4
      by_cases h3 : 3 ≤ mk - p.n
      · have hq : isLost mk nw wait p = true := by simp [isLost]; exact ⟨hhi2, .inl h3⟩
        have Ht := Lib.hid (filt_yes (q := isLost mk nw wait) Hstep.out hq)
        have Hk := Lib.hid (filt_no (q := fun p => !isLost mk nw wait p) Hstep.out (by simp [hq]))
        clear hq
        refine wp_region_grown HF.out (by kernel_rfl) ?_
        repeat (go_big_quiet_step (fail))
        refine wpQuiet_nil ?_
        rintro w5 ⟨n5, rfl⟩
        have hb5 := HF.out.1 n5
        have Hf5 := Lib.hid (Hf.out.below hb5)
        have Hpb5 := Lib.hid (Hpb.out.below hb5)
        clear e0 e1 e2 e3 e4 e5 e6 HF hNI hb5 Hf Hpb d0 d1 d2 d3 d4
        generalize F n5 = w5 at *
        clear n5 F I
        obtain ⟨d0, d1, d2, d3, d4⟩ := Hpb5.out.cells
        go_wp2_with (at_builtin; go_must (refine wpList_append_pk rfl (.tmp 400) (.tmp 402) rfl b0 lv _ rfl (Hf5.out.lr.below (grow (Below.refl _ _) _)) w5.heap.size 1 p rfl (Pb.new _ _) Hl4.out (Nat.le_trans Hf5.out.hb0 (grow (Below.refl _ _) _).size) ?_))
        intro v' w6 hr6 hk6 ho6
        have hf6 := Hf5.out.pushL hr6 hk6 (by simpa using ho6)
        have Hf6 := Lib.hid hf6
        clear hf6 hr6 hk6 ho6
        go_wp2_with fail
        exact hK.out _ _ ⟨m - 1, by omega, j + 1, v', kv, wt', la', by omega, ⟨rfl, rfl, rfl, rfl, rfl, rfl, rfl, rfl, rfl, rfl, rfl, rfl, rfl, rfl⟩, rfl, rfl, (by go_num : Value.int .i64 (↑j + 1) = .int .i64 ↑(j + 1)), rfl, rfl, by rw [Ht.out, Hk.out]; exact Hf6.out, by rw [Hk.out]; exact Hlw.out⟩
      · by_cases h4 : p.a + wait ≤ nw
        · have hq : isLost mk nw wait p = true := by simp [isLost]; exact ⟨hhi2, .inr ⟨by omega, by omega⟩⟩
          have Ht := Lib.hid (filt_yes (q := isLost mk nw wait) Hstep.out hq)
          have Hk := Lib.hid (filt_no (q := fun p => !isLost mk nw wait p) Hstep.out (by simp [hq]))
          clear hq
          refine wp_region_grown HF.out (by kernel_rfl) ?_
          repeat (go_big_quiet_step ((go_at_call 13; exact HF.out.lost _ rl re rs rva true hrl0 hrl1 hrs0 hrs1 hwe)))
          refine wpQuiet_nil ?_
          rintro w5 ⟨n5, rfl⟩
          have hb5 := HF.out.1 n5
          have Hf5 := Lib.hid (Hf.out.below hb5)
          have Hpb5 := Lib.hid (Hpb.out.below hb5)
          clear e0 e1 e2 e3 e4 e5 e6 HF hNI hb5 Hf Hpb d0 d1 d2 d3 d4
          generalize F n5 = w5 at *
          clear n5 F I
          obtain ⟨d0, d1, d2, d3, d4⟩ := Hpb5.out.cells
          go_wp2_with (at_builtin; go_must (refine wpList_append_pk rfl (.tmp 400) (.tmp 402) rfl b0 lv _ rfl (Hf5.out.lr.below (grow (Below.refl _ _) _)) w5.heap.size 1 p rfl (Pb.new _ _) Hl4.out (Nat.le_trans Hf5.out.hb0 (grow (Below.refl _ _) _).size) ?_))
          intro v' w6 hr6 hk6 ho6
          have hf6 := Hf5.out.pushL hr6 hk6 (by simpa using ho6)
          have Hf6 := Lib.hid hf6
          clear hf6 hr6 hk6 ho6
          go_wp2_with fail
          exact hK.out _ _ ⟨m - 1, by omega, j + 1, v', kv, wt', la', by omega, ⟨rfl, rfl, rfl, rfl, rfl, rfl, rfl, rfl, rfl, rfl, rfl, rfl, rfl, rfl⟩, rfl, rfl, (by go_num : Value.int .i64 (↑j + 1) = .int .i64 ↑(j + 1)), rfl, rfl, by rw [Ht.out, Hk.out]; exact Hf6.out, by rw [Hk.out]; exact Hlw.out⟩
        · have hq : isLost mk nw wait p = false := by
            cases hb : isLost mk nw wait p
            · rfl
            · have := isLost_true hb; omega
          have Ht := Lib.hid (filt_no (q := isLost mk nw wait) Hstep.out hq)
          have Hk := Lib.hid (filt_yes (q := fun p => !isLost mk nw wait p) Hstep.out (by simp [hq]))
          clear hq
          refine wp_region_grown HF.out (by kernel_rfl) ?_
          repeat (go_big_quiet_step ((go_at_call 13; exact HF.out.lost _ rl re rs rva true hrl0 hrl1 hrs0 hrs1 hwe)))
          refine wpQuiet_nil ?_
          rintro w5 ⟨n5, rfl⟩
          have hb5 := HF.out.1 n5
          have Hf5 := Lib.hid (Hf.out.below hb5)
          have Hpb5 := Lib.hid (Hpb.out.below hb5)
          clear e0 e1 e2 e3 e4 e5 e6 HF hNI hb5 Hf Hpb d0 d1 d2 d3 d4
          generalize F n5 = w5 at *
          clear n5 F I
          obtain ⟨d0, d1, d2, d3, d4⟩ := Hpb5.out.cells
          go_wp2_with (at_builtin; go_must (refine wpList_append_pk rfl (.tmp 354) (.tmp 356) rfl b0 kv _ rfl (Hf5.out.kr.below (grow (Below.refl _ _) _)) w5.heap.size 1 p rfl (Pb.new _ _) Hl5.out (Nat.le_trans Hf5.out.hb0 (grow (Below.refl _ _) _).size) ?_))
          intro v' w6 hr6 hk6 ho6
          have hf6 := Hf5.out.pushK hr6 hk6 (by simpa using ho6)
          have hpb6 := (Hpb5.out.below (grow (Below.refl _ _) _)).kp hk6 (fun e => by have := HkB.out _ e; omega)
          have Hf6 := Lib.hid hf6
          have Hpb6 := Lib.hid hpb6
          clear hf6 hr6 hk6 ho6 hpb6 d0 d1 d2 d3 d4 Hf5 Hpb5
          obtain ⟨d0, d1, d2, d3, d4⟩ := Hpb6.out.cells
          go_wp2_with fail
          obtain ⟨I, F, hF⟩ := grown_of w6
          obtain ⟨r0, r1, r2, r3, r4⟩ := Hf6.out.mm.rv.cells
          have e0 := hF.cell d0
          have e1 := hF.cell d1
          have e2 := hF.cell r0
          have e3 := hF.cell r1
          have e4 := hF.cell r2
          have e5 := hF.cell r3
          have e6 := hF.cell r4
          have hNI : Nonempty I := hF.non
          have HF := Lib.hid hF
          clear hF r0 r1 r2 r3 r4
          cases wt'
          · have Hw := Lib.hid (lawW_first (p := p) Hlw.out hhi2)
            refine wp_region_grown HF.out (by kernel_rfl) ?_
            repeat (go_big_quiet_step ((go_at_call 13; exact HF.out.lost _ rl re rs rva true hrl0 hrl1 hrs0 hrs1 hwe)))
            refine wpQuiet_nil ?_
            rintro w7 ⟨n7, rfl⟩
            have hb7 := HF.out.1 n7
            have Hf7 := Lib.hid (Hf6.out.below hb7)
            have Hpb7 := Lib.hid (Hpb6.out.below hb7)
            clear e0 e1 e2 e3 e4 e5 e6 HF hNI hb7 Hf6 Hpb6 d0 d1 d2 d3 d4
            generalize F n7 = w7 at *
            clear n7 F I
            obtain ⟨d0, d1, d2, d3, d4⟩ := Hpb7.out.cells
            go_wp2_with fail
            obtain ⟨I, F, hF⟩ := grown_of w7
            obtain ⟨r0, r1, r2, r3, r4⟩ := Hf7.out.mm.rv.cells
            have e0 := hF.cell d0
            have e1 := hF.cell d1
            have e2 := hF.cell r0
            have e3 := hF.cell r1
            have e4 := hF.cell r2
            have e5 := hF.cell r3
            have e6 := hF.cell r4
            have hNI : Nonempty I := hF.non
            have HF := Lib.hid hF
            clear hF r0 r1 r2 r3 r4
            refine wp_region_grown HF.out (by kernel_rfl) ?_
            repeat (go_big_quiet_step ((go_at_call 13; exact HF.out.lost _ rl re rs rva true hrl0 hrl1 hrs0 hrs1 hwe)))
            refine wpQuiet_nil ?_
            rintro w8 ⟨n8, rfl⟩
            have Hf8 := Lib.hid (Hf7.out.below (HF.out.1 n8))
            clear e0 e1 e2 e3 e4 e5 e6 HF hNI Hf7 Hpb7 d0 d1 d2 d3 d4
            generalize F n8 = w8 at *
            clear n8 F I
            go_wp2_with fail
            exact hK.out _ _ ⟨m - 1, by omega, j + 1, lv, v', true, (p.a + wait), by omega, ⟨rfl, rfl, rfl, rfl, rfl, rfl, rfl, rfl, rfl, rfl, rfl, rfl, rfl, rfl⟩, rfl, rfl, (by go_num : Value.int .i64 (↑j + 1) = .int .i64 ↑(j + 1)), rfl, rfl, by rw [Ht.out, Hk.out]; exact Hf8.out, by rw [Hk.out]; exact Hw.out⟩
          · by_cases h5 : p.a + wait < la'
            · have Hw := Lib.hid (lawW_less (p := p) Hlw.out hhi2 h5)
              refine wp_region_grown HF.out (by kernel_rfl) ?_
              repeat (go_big_quiet_step ((go_at_call 13; exact HF.out.lost _ rl re rs rva true hrl0 hrl1 hrs0 hrs1 hwe)))
              refine wpQuiet_nil ?_
              rintro w7 ⟨n7, rfl⟩
              have hb7 := HF.out.1 n7
              have Hf7 := Lib.hid (Hf6.out.below hb7)
              have Hpb7 := Lib.hid (Hpb6.out.below hb7)
              clear e0 e1 e2 e3 e4 e5 e6 HF hNI hb7 Hf6 Hpb6 d0 d1 d2 d3 d4
              generalize F n7 = w7 at *
              clear n7 F I
              obtain ⟨d0, d1, d2, d3, d4⟩ := Hpb7.out.cells
              go_wp2_with fail
              obtain ⟨I, F, hF⟩ := grown_of w7
              obtain ⟨r0, r1, r2, r3, r4⟩ := Hf7.out.mm.rv.cells
              have e0 := hF.cell d0
              have e1 := hF.cell d1
              have e2 := hF.cell r0
              have e3 := hF.cell r1
              have e4 := hF.cell r2
              have e5 := hF.cell r3
              have e6 := hF.cell r4
              have hNI : Nonempty I := hF.non
              have HF := Lib.hid hF
              clear hF r0 r1 r2 r3 r4
              refine wp_region_grown HF.out (by kernel_rfl) ?_
              repeat (go_big_quiet_step ((go_at_call 13; exact HF.out.lost _ rl re rs rva true hrl0 hrl1 hrs0 hrs1 hwe)))
              refine wpQuiet_nil ?_
              rintro w8 ⟨n8, rfl⟩
              have Hf8 := Lib.hid (Hf7.out.below (HF.out.1 n8))
              clear e0 e1 e2 e3 e4 e5 e6 HF hNI Hf7 Hpb7 d0 d1 d2 d3 d4
              generalize F n8 = w8 at *
              clear n8 F I
              go_wp2_with fail
              exact hK.out _ _ ⟨m - 1, by omega, j + 1, lv, v', true, (p.a + wait), by omega, ⟨rfl, rfl, rfl, rfl, rfl, rfl, rfl, rfl, rfl, rfl, rfl, rfl, rfl, rfl⟩, rfl, rfl, (by go_num : Value.int .i64 (↑j + 1) = .int .i64 ↑(j + 1)), rfl, rfl, by rw [Ht.out, Hk.out]; exact Hf8.out, by rw [Hk.out]; exact Hw.out⟩
            · have Hw := Lib.hid (lawW_more (p := p) Hlw.out (by omega))
              have h6 : la' ≤ p.a + wait := by omega
              clear h5
              refine wp_region_grown HF.out (by kernel_rfl) ?_
              repeat (go_big_quiet_step ((go_at_call 13; exact HF.out.lost _ rl re rs rva true hrl0 hrl1 hrs0 hrs1 hwe)))
              refine wpQuiet_nil ?_
              rintro w7 ⟨n7, rfl⟩
              have hb7 := HF.out.1 n7
              have Hf7 := Lib.hid (Hf6.out.below hb7)
              have Hpb7 := Lib.hid (Hpb6.out.below hb7)
              clear e0 e1 e2 e3 e4 e5 e6 HF hNI hb7 Hf6 Hpb6 d0 d1 d2 d3 d4
              generalize F n7 = w7 at *
              clear n7 F I
              obtain ⟨d0, d1, d2, d3, d4⟩ := Hpb7.out.cells
              go_wp2_with fail
              exact hK.out _ _ ⟨m - 1, by omega, j + 1, lv, v', true, la', by omega, ⟨rfl, rfl, rfl, rfl, rfl, rfl, rfl, rfl, rfl, rfl, rfl, rfl, rfl, rfl⟩, rfl, rfl, (by go_num : Value.int .i64 (↑j + 1) = .int .i64 ↑(j + 1)), rfl, rfl, by rw [Ht.out, Hk.out]; exact Hf7.out, by rw [Hk.out]; exact Hw.out⟩
  · obtain rfl : m = 0 := by omega
    obtain rfl : j = ps.length := by omega
    go_wp2_with fail
    exact hE.out _ _ ⟨ps.length, lv, kv, wt', la', rfl, ⟨rfl, rfl, rfl, rfl, rfl, rfl, rfl, rfl, rfl, rfl, rfl, rfl, rfl, rfl⟩, rfl, rfl, rfl, rfl, rfl, Hf.out, Hlw.out⟩
end Go.Proofs.Ytpjahdiddgdahaa
