/- LossPlays, the arm that finds, whole. -/
import Derived.Test.YtpjahdiddgdahaaFindLoop
namespace Go.Proofs.Ytpjahdiddgdahaa
open Go.RowKit
set_option linter.unusedVariables false
set_option linter.unusedSimpArgs false

theorem lawW_one {mk wait la la' : Int} {ks : List Pk} {wt wt' : Bool} (h : lawW mk wait ks wt la) (h' : lawW mk wait ks wt' la') : wt = wt' ∧ (wt' = true → la = la') := by
  cases wt <;> cases wt'
  · exact ⟨rfl, (fun h => nomatch h)⟩
  · obtain ⟨⟨p, hp, h1, -⟩, -⟩ := h'.1 rfl
    have := h.2 rfl p hp
    omega
  · obtain ⟨⟨p, hp, h1, -⟩, -⟩ := h.1 rfl
    have := h'.2 rfl p hp
    omega
  · obtain ⟨⟨p, hp, h1, h2⟩, h3⟩ := h.1 rfl
    obtain ⟨⟨q, hq, h4, h5⟩, h6⟩ := h'.1 rfl
    have h7 := h3 q hq h4
    have h8 := h6 p hp h1
    exact ⟨rfl, fun _ => by omega⟩
theorem lawW_next {ak wait la : Int} {ks : List Pk} {wt : Bool} (hs : Rise ks) (h : nextL ak wait ks false 0 = (wt, la)) : lawW ak wait ks wt la := by
  rcases nextL_start ak wait ks hs with ⟨la', e, l1, p, hp, h3, h4⟩ | ⟨e, h1⟩
  · rw [e] at h
    simp at h
    obtain ⟨rfl, rfl⟩ := h
    exact ⟨fun _ => ⟨⟨p, hp, h3, h4⟩, l1⟩, (fun h => nomatch h)⟩
  · rw [e] at h
    simp at h
    obtain ⟨rfl, rfl⟩ := h
    exact ⟨(fun h => nomatch h), fun _ => h1⟩

/-- What Find leaves, whether any came or not. -/
def FindLaw (w : World) (L : Nat) (v : Value) (ps : List Pk) (so : Bool) (ak now wait ls : Int) (e : Ending) (w' : World) : Prop :=
  ∃ tv kv wt la, e = .returned tv ∧ Led w' L kv (ps.filter (fun p => !isLost (mkOf so ak) now wait p)) so ak wt la ls ∧ Rw w' (L + 1) tv (ps.filter (isLost (mkOf so ak) now wait)) ∧ Kp w w' (fun k => k = L) ∧ (kv = v ∨ ∀ g, kv.ownBlock = some g → w.heap.size ≤ g) ∧
    lawW (mkOf so ak) wait (ps.filter (fun p => !isLost (mkOf so ak) now wait p)) wt la
theorem find_law (L : Nat) (v : Value) (ps : List Pk) (so wt : Bool) (ak la ls now l le s va : Int) (b : Bool) (w : World) (hl : Led w L v ps so ak wt la ls) (hmany : ps.length ≤ 256) (hrise : Rise ps) (hfit : ∀ p ∈ ps, Fits p) (hak : 0 ≤ ak) (hak2 : ak ≤ 18446744073709551615) (hnow : 0 ≤ now) (hnow2 : now ≤ 18446744073709551615)
    (h0 : 0 ≤ l) (h1 : l ≤ 1125899906842624) (h2 : 0 ≤ s) (h3 : s ≤ 1125899906842624) (wait : Int) (hw : Hid (wait = max (9 * max s l / 8) 1000)) :
    Calls Try.prog 11 #[.pointer (some ⟨L, 0, none⟩), .int .u64 now, rv l le s va b] w (FindLaw w L v ps so ak now wait ls) := by
  cases so
  · refine (find_none L v ps wt ak la ls now l le s va b w hl).mono ?_
    rintro e w' ⟨rfl, hl', hk⟩
    have hn : ∀ p ∈ ps, isLost (mkOf false ak) now wait p = false := fun p hp => by
      have := (hfit p hp).n0
      simp [isLost, mkOf]
      intro h
      omega
    have e1 : ps.filter (fun p => !isLost (mkOf false ak) now wait p) = ps := by
      rw [List.filter_eq_self]
      intro p hp
      simp [hn p hp]
    have e2 : ps.filter (isLost (mkOf false ak) now wait) = [] := by
      rw [List.filter_eq_nil_iff]
      intro p hp
      simp [hn p hp]
    unfold FindLaw
    rw [e1, e2]
    refine ⟨_, v, false, 0, rfl, hl', Rw.nil _ _, hk, .inl rfl, (fun h => nomatch h), fun _ p hp => ?_⟩
    have := (hfit p hp).n0
    simp [mkOf]
    omega
  · refine (find_some L v ps wt ak la ls now l le s va b w hl hmany hfit hak hak2 hnow hnow2 h0 h1 h2 h3 wait hw _ _ (Lib.hid rfl) (Lib.hid rfl)).mono ?_
    rintro e w' ⟨tv, kv, wt', la', rfl, hl', hr', hk, hkv, -, hnx⟩
    exact ⟨tv, kv, wt', la', rfl, hl', hr'.mono hl.lt, hk, .inr hkv, lawW_next (hrise.filter _) hnx⟩

noncomputable def pFind9 : Code := pieceAt [1, 1, 1, 1, 1, 1, 1, 1, 0, 1, 2, 3, 1, 1, 0, 2, 1, 1, 1, 0, 1, 2, 1, 5, 1, 5, 1, 4, 1, 1, 1]

theorem F6.found {w0 w w' : World} {R L b0 : Nat} {rl re rs rva : Int} {v mv : Value} {ps : List Pk} {so wt : Bool} {ak la ls : Int} {lv kv : Value} {ts ks : List Pk} (h : F6 w0 R L b0 rl re rs rva v mv ps so wt ak la ls lv kv ts ks w) {kv' : Value} {wt' : Bool} {la' : Int}
    (hl : Led w' L kv' ks so ak wt' la' ls) (hk : Kp w w' (fun k => k = L)) (hkv : kv' = v ∨ ∀ g, kv'.ownBlock = some g → w.heap.size ≤ g) : Mm w0 L R rl re rs rva kv' kv ks so wt' ak la' ls w' := by
  have hlt := h.kr.lt
  have hL := h.hL
  refine ⟨hl, (h.kr.mono (by omega)).keep fun g hg => hk.block g (hlt g hg).2 (by have := (hlt g hg).1; show ¬ g = L; omega), h.mm.rv.kp hk (by have := h.mm.hL; omega), below_kp h.mm.be hk (fun k hk => by have := h.mm.hR; have := h.mm.hL; omega), fun g hg e => ?_, h.mm.hR, h.mm.hL⟩
  have h1 := hlt g hg
  rcases hkv with rfl | h2
  · have := h.hv g e; omega
  · have := h2 g e; omega

set_option maxRecDepth 1000000 in
set_option maxHeartbeats 4000000 in
theorem find9 {w0 : World} {R L b0 : Nat} {rl re rs rva : Int} {v mv : Value} {ps : List Pk} {so wt : Bool} {ak la ls nx nw la' wait : Int} {wt' : Bool} {ac : Value} {len k : Nat} {lv kv : Value} {a : Act} {w : World}
    (hs : Sl a R L mv (mkOf so ak) nx nw ls la' wt' ac len k) (s37 : a.eval (.tmp 37) = lv) (s38 : a.eval (.tmp 38) = kv) (hf : F6 w0 R L b0 rl re rs rva v mv ps so wt ak la ls lv kv (ps.filter (isLost (mkOf so ak) nw wait)) (ps.filter (fun p => !isLost (mkOf so ak) nw wait p)) w)
    (hlw : lawW (mkOf so ak) wait (ps.filter (fun p => !isLost (mkOf so ak) nw wait p)) wt' la') (hn : Nm ps so ak nx nw (k + 1)) (hwe : Hid (wait = max (9 * max rs rl / 8) 1000)) (hrl : 0 ≤ rl ∧ rl ≤ 1125899906842624) (hrs : 0 ≤ rs ∧ rs ≤ 1125899906842624)
    (Q : Exit → Act → World → Prop) (hK : Hid (∀ a' w', Jt w0 R L rl re rs rva nw ac len k a' w' → Q .normal a' w')) : Code.wp Try.prog pFind9 Q a w := by
  obtain ⟨hsz, hnd, s3, s5, s6, s7, s8, s9, s10, s11, s12, s64, s65, s66⟩ := hs
  obtain ⟨g, hg, rfl⟩ := act_lit a hsz hnd
  simp only [hg] at s3 s5 s6 s7 s8 s9 s10 s11 s12 s64 s65 s66 s37 s38
  clear hg hsz hnd
  unfold lit pFind9
  conv => arg 2; whnf
  simp only [s3, s5, s6, s7, s8, s9, s10, s11, s12, s64, s65, s66, s37, s38]
  clear s3 s5 s6 s7 s8 s9 s10 s11 s12 s64 s65 s66 s37 s38
  have hmany : ps.length ≤ 256 := by have := hn.len; have := hn.k1; omega
  have hn2 : Nm (ps.filter (fun p => !isLost (mkOf so ak) nw wait p)) so ak nx nw (k + 1) :=
    ⟨hn.rise.filter _, fun p hp => hn.fits p (List.mem_filter.1 hp).1, Nat.le_trans (List.length_filter_le _ _) hn.len, hn.ak0, hn.ak1, hn.ak2, hn.nx0, hn.nx1, hn.nw0, hn.nw1, hn.k1⟩
  have Hc : Hid (Calls Try.prog 11 #[.pointer (some ⟨L, 0, none⟩), .int .u64 nw, rv rl re rs rva true] w (FindLaw w L v ps so ak nw wait ls)) :=
    find_law L v ps so wt ak la ls nw rl re rs rva true w hf.mm.led hmany hn.rise (fits_of hn) hn.ak0 (by have := hn.ak2; omega) hn.nw0 (by have := hn.nw1; have := hn.k1; omega) hrl.1 hrl.2 hrs.1 hrs.2 wait hwe
  obtain ⟨r0, r1, r2, r3, r4⟩ := hf.mm.rv.cells
  have Hf := Lib.hid hf
  have Hn2 := Lib.hid hn2
  have Hlw := Lib.hid hlw
  have hlt : (ps.filter (isLost (mkOf so ak) nw wait)).length ≤ 256 := Nat.le_trans (List.length_filter_le _ _) hmany
  clear hf hn hlw hn2
  unfold FindLaw at Hc
  generalize ps.filter (isLost (mkOf so ak) nw wait) = ts at *
  generalize ps.filter (fun p => !isLost (mkOf so ak) nw wait p) = ks at *
  generalize hmk : mkOf so ak = mk at *
  have Hmk := Lib.hid hmk
  clear hmk
  go_wp2_with fail
  refine Hc.out.mono ?_
  clear Hc r0 r1 r2 r3 r4
  rintro e w1 ⟨tv, kv', wt2, la2, rfl, hl, hr, hk, hkv, hw2⟩
  obtain ⟨hwe, hle⟩ := lawW_one hw2 Hlw.out
  have Hm := Lib.hid (Hf.out.found hl hk hkv)
  have hlr : Rw w1 (L + 1) lv ts := (Hf.out.lr.mono Hf.out.hL).keep fun g hg => hk.block g (Hf.out.lr.lt g hg).2 (by have := (Hf.out.lr.lt g hg).1; have := Hf.out.hL; show ¬ g = L; omega)
  have Hr := Lib.hid hr
  have Hlr := Lib.hid hlr
  have Hwe := Lib.hid hwe
  have Hle := Lib.hid hle
  clear hl hr hk hkv hw2 hwe hle hlr
  go_wp2_with fail
  refine (same_yes _ _ tv lv ts _ Hr.out Hlr.out hlt).mono ?_
  rintro e w2 ⟨rfl, hb⟩
  have Hm2 := Lib.hid (Hm.out.below hb)
  clear hb Hr Hlr Hm
  go_wp2_with fail
  refine hK.out _ _ ⟨kv', kv, ks, so, wt2, ak, la2, ls, nx, la', ?_, Hm2.out, Hn2.out, fun h => ?_⟩
  · rw [Hmk.out, Hwe.out]
    exact ⟨rfl, rfl, rfl, rfl, rfl, rfl, rfl, rfl, rfl, rfl, rfl, rfl, rfl, rfl⟩
  · exact (Hle.out (by rw [← Hwe.out]; exact h)).symm

noncomputable def pFind : Code := pieceAt [1, 1, 1, 1, 1, 1, 1, 1, 0, 1, 2, 3, 1, 1, 0, 2, 1, 1, 1, 0, 1, 2, 1, 5, 1, 5, 1, 4]

set_option maxRecDepth 1000000 in
set_option maxHeartbeats 4000000 in
theorem armFind {w0 : World} {R L : Nat} {rl re rs rva : Int} {v mv : Value} {ps : List Pk} {so wt : Bool} {ak la ls nx nw la' wait : Int} {ac : Value} {len k : Nat} {a : Act} {w : World}
    (hs : Sl a R L mv (mkOf so ak) nx nw ls la' wt ac len k) (hm : Mm w0 L R rl re rs rva v mv ps so wt ak la ls w) (hn : Nm ps so ak nx nw (k + 1)) (hwe : Hid (wait = max (9 * max rs rl / 8) 1000)) (hrl : 0 ≤ rl ∧ rl ≤ 1125899906842624) (hrs : 0 ≤ rs ∧ rs ≤ 1125899906842624)
    (Q : Exit → Act → World → Prop) (hK : Hid (∀ a' w', Jt w0 R L rl re rs rva nw ac len k a' w' → Q .normal a' w')) : Code.wp Try.prog pFind Q a w := by
  have hwt : 0 ≤ wait ∧ wait ≤ 18014398509481984 := by have := hwe.out; omega
  obtain ⟨hsz, hnd, s3, s5, s6, s7, s8, s9, s10, s11, s12, s64, s65, s66⟩ := hs
  obtain ⟨g, hg, rfl⟩ := act_lit a hsz hnd
  simp only [hg] at s3 s5 s6 s7 s8 s9 s10 s11 s12 s64 s65 s66
  clear hg hsz hnd
  unfold lit pFind
  conv => arg 2; whnf
  simp only [s3, s5, s6, s7, s8, s9, s10, s11, s12, s64, s65, s66]
  clear s3 s5 s6 s7 s8 s9 s10 s11 s12 s64 s65 s66
  obtain ⟨ad, cap, hv, hcs⟩ := hm.row.shape
  subst hv
  have Hm := Lib.hid hm
  have Hn := Lib.hid hn
  have hlen : ps.length ≤ 101 := by have := hn.len; have := hn.k1; omega
  have hfit : Hid (∀ p ∈ ps, (0 ≤ p.n ∧ p.n ≤ 1152921504606846976) ∧ 0 ≤ p.a ∧ p.a ≤ nw) := fun p hp => by
    have h1 := hn.fits p hp
    have h2 := hn.nx1
    exact ⟨⟨h1.1.1, by omega⟩, h1.2.1⟩
  have hmk : Hid (-1 ≤ mkOf so ak ∧ mkOf so ak ≤ 1152921504606846976) := by
    have h1 := hn.ak0
    have h2 := hn.ak2
    unfold mkOf
    cases so
    · exact ⟨by simp, by simp⟩
    · exact ⟨by simp; omega, by simpa using h2⟩
  have hnw : Hid (0 ≤ nw ∧ nw ≤ 1125899906842624) := ⟨hn.nw0, by have := hn.nw1; have := hn.k1; omega⟩
  clear hm hn hcs
  go_wp2_with fail
  rename_i K hc
  refine wp_loop_k (I6 w0 R L w.heap.size rl re rs rva v (.slice ad ps.length cap) ps so wt ak la ls (mkOf so ak) nx nw ls wait ac len k) (m := ps.length) (fun m a w h => ?_)
    ⟨0, .slice none 0 0, .slice none 0 0, false, la', by omega, ⟨rfl, rfl, rfl, rfl, rfl, rfl, rfl, rfl, rfl, rfl, rfl, rfl, rfl, rfl⟩, rfl, rfl, rfl, rfl, rfl,
      ⟨Hm.out, Rw.nil _ _, Rw.nil _ _, by simp [Value.ownBlock], Hm.out.led.lt, fun g hg => (Hm.out.row.lt g hg).2, fun g hg => (Hm.out.led.2.lt g hg).2, Nat.le_refl _⟩, lawW_nil _ _ _⟩
  refine round6 h hlen hfit.out hmk.out hnw.out hwt hwe hrl hrs _ _ (fun _ _ h => h) (fun a' w' h => ?_)
  refine inBlock_exit (hc _ _ ?_)
  obtain ⟨j, lv, kv, wt', la2, hj, hs, -, -, -, s37, s38, hf, hlw⟩ := h
  obtain rfl : j = ps.length := by omega
  rw [List.take_length] at hf hlw
  exact find9 hs s37 s38 hf hlw Hn.out hwe hrl hrs Q hK
end Go.Proofs.Ytpjahdiddgdahaa
