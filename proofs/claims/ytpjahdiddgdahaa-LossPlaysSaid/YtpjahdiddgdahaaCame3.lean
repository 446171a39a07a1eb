/- LossPlays, the arm of what came: the law's own parting of the packets. -/
import Derived.Test.YtpjahdiddgdahaaArmSent
import Derived.Test.YtpjahdiddgdahaaFindLoop
import Derived.Test.YtpjahdiddgdahaaCame4
namespace Go.Proofs.Ytpjahdiddgdahaa
open Go.RowKit
set_option linter.unusedVariables false
set_option linter.unusedSimpArgs false

theorem Mt.kp {w0 w w' : World} {L R : Nat} {rl re rs rva : Int} {v mv : Value} {qs ps : List Pk} {so wt : Bool} {ak la ls : Int} {S : Nat → Prop} (h : Mt w0 L R rl re rs rva v mv qs ps so wt ak la ls w) (hk : Kp w w' S) (hS : ∀ k, S k → k ≠ L ∧ k ≠ R ∧ v.ownBlock ≠ some k ∧ mv.ownBlock ≠ some k ∧ w0.heap.size ≤ k) :
    Mt w0 L R rl re rs rva v mv qs ps so wt ak la ls w' :=
  ⟨h.led.keep fun k hk' hb => hk.block k hk' (fun hs => by obtain ⟨h1, h2, h3, h4, h5⟩ := hS k hs; rcases hb with rfl | hb; exact h1 rfl; exact h3 hb),
    h.row.keep fun g hg => hk.block g (h.row.lt g hg).2 (fun hs => (hS g hs).2.2.2.1 hg), h.rv.kp hk (fun hs => (hS R hs).2.1 rfl), below_kp h.be hk (fun k hs => (hS k hs).2.2.2.2), h.ne, h.hR, h.hL⟩

/-- Memory while the packets are parted: the ranges, what the ledger told, and two rows that grow. -/
structure F3 (w0 : World) (R L b1 : Nat) (rl re rs rva : Int) (v mv : Value) (qs ps : List Pk) (so wt : Bool) (ak la ls : Int) (gv : Value) (gs : List (Int × Int)) (tv : Value) (ts : List Pk) (cv dv : Value) (cs ds : List Pk) (w : World) : Prop where
  mt : Mt w0 L R rl re rs rva v mv qs ps so wt ak la ls w
  rg : RgW w (L + 1) gv gs
  tr : Rw w (L + 1) tv ts
  cr : Rw w b1 cv cs
  dr : Rw w b1 dv ds
  di : ∀ g, cv.ownBlock = some g → dv.ownBlock ≠ some g
  hL : L < b1
  hmv : ∀ g, mv.ownBlock = some g → g < b1
  hv : ∀ g, v.ownBlock = some g → g < b1
  hgv : ∀ g, gv.ownBlock = some g → g < b1
  htv : ∀ g, tv.ownBlock = some g → g < b1
  hb1 : b1 ≤ w.heap.size
theorem F3.below {w0 w w' : World} {R L b1 : Nat} {rl re rs rva : Int} {v mv : Value} {qs ps : List Pk} {so wt : Bool} {ak la ls : Int} {gv : Value} {gs : List (Int × Int)} {tv : Value} {ts : List Pk} {cv dv : Value} {cs ds : List Pk} (h : F3 w0 R L b1 rl re rs rva v mv qs ps so wt ak la ls gv gs tv ts cv dv cs ds w) (hb : Below w.heap.size w w') :
    F3 w0 R L b1 rl re rs rva v mv qs ps so wt ak la ls gv gs tv ts cv dv cs ds w' :=
  ⟨h.mt.below hb, h.rg.below hb, h.tr.below hb, h.cr.below hb, h.dr.below hb, h.di, h.hL, h.hmv, h.hv, h.hgv, h.htv, Nat.le_trans h.hb1 hb.size⟩
theorem F3.pushC {w0 w1 w5 : World} {R L b1 : Nat} {rl re rs rva : Int} {v mv : Value} {qs ps : List Pk} {so wt : Bool} {ak la ls : Int} {gv : Value} {gs : List (Int × Int)} {tv : Value} {ts : List Pk} {cv cv' dv : Value} {cs cs' ds : List Pk} {o : Obj} (h : F3 w0 R L b1 rl re rs rva v mv qs ps so wt ak la ls gv gs tv ts cv dv cs ds w1)
    (hr : Rw w5 b1 cv' cs') (hk : Kp (w1.alloc o) w5 (fun k => cv.ownBlock = some k)) (ho : cv'.ownBlock = cv.ownBlock ∨ cv'.ownBlock = some (w1.heap.size + 1)) : F3 w0 R L b1 rl re rs rva v mv qs ps so wt ak la ls gv gs tv ts cv' dv cs' ds w5 := by
  have h2 := h.below (grow (Below.refl w1.heap.size w1) o)
  have hs : (w1.alloc o).heap.size = w1.heap.size + 1 := by simp
  have hlo : ∀ k, cv.ownBlock = some k → b1 ≤ k := fun k hk => (h.cr.lt k hk).1
  refine ⟨h2.mt.kp hk (fun k hk => ?_), h2.rg.keep fun g hg => hk.block g (h2.rg.lt g hg).2 (fun e => by have := hlo g e; have := h.hgv g hg; omega), h2.tr.keep fun g hg => hk.block g (h2.tr.lt g hg).2 (fun e => by have := hlo g e; have := h.htv g hg; omega), hr, h2.dr.keep fun g hg => hk.block g (h2.dr.lt g hg).2 (fun e => h2.di g e hg), fun g h3 h4 => ?_, h.hL, h.hmv, h.hv, h.hgv, h.htv, Nat.le_trans h2.hb1 hk.size⟩
  · have h3 := hlo k hk
    have h4 := h.hL
    have h5 := h.mt.hL
    have h6 := h.mt.hR
    exact ⟨by omega, by omega, fun e => by have := h.hv k e; omega, fun e => by have := h.hmv k e; omega, by omega⟩
  · rcases ho with h5 | h5
    · exact h.di g (by rw [← h5]; exact h3) h4
    · rw [h5] at h3
      have := (h.dr.lt g h4).2
      simp at h3
      omega
theorem F3.pushD {w0 w1 w5 : World} {R L b1 : Nat} {rl re rs rva : Int} {v mv : Value} {qs ps : List Pk} {so wt : Bool} {ak la ls : Int} {gv : Value} {gs : List (Int × Int)} {tv : Value} {ts : List Pk} {cv dv dv' : Value} {cs ds ds' : List Pk} {o : Obj} (h : F3 w0 R L b1 rl re rs rva v mv qs ps so wt ak la ls gv gs tv ts cv dv cs ds w1)
    (hr : Rw w5 b1 dv' ds') (hk : Kp (w1.alloc o) w5 (fun k => dv.ownBlock = some k)) (ho : dv'.ownBlock = dv.ownBlock ∨ dv'.ownBlock = some (w1.heap.size + 1)) : F3 w0 R L b1 rl re rs rva v mv qs ps so wt ak la ls gv gs tv ts cv dv' cs ds' w5 := by
  have h2 := h.below (grow (Below.refl w1.heap.size w1) o)
  have hs : (w1.alloc o).heap.size = w1.heap.size + 1 := by simp
  have hlo : ∀ k, dv.ownBlock = some k → b1 ≤ k := fun k hk => (h.dr.lt k hk).1
  refine ⟨h2.mt.kp hk (fun k hk => ?_), h2.rg.keep fun g hg => hk.block g (h2.rg.lt g hg).2 (fun e => by have := hlo g e; have := h.hgv g hg; omega), h2.tr.keep fun g hg => hk.block g (h2.tr.lt g hg).2 (fun e => by have := hlo g e; have := h.htv g hg; omega), h2.cr.keep fun g hg => hk.block g (h2.cr.lt g hg).2 (h2.di g hg), hr, fun g h3 h4 => ?_, h.hL, h.hmv, h.hv, h.hgv, h.htv, Nat.le_trans h2.hb1 hk.size⟩
  · have h3 := hlo k hk
    have h4 := h.hL
    have h5 := h.mt.hL
    have h6 := h.mt.hR
    exact ⟨by omega, by omega, fun e => by have := h.hv k e; omega, fun e => by have := h.hmv k e; omega, by omega⟩
  · rcases ho with h5 | h5
    · exact h.di g h3 (by rw [← h5]; exact h4)
    · rw [h5] at h4
      have := (h.cr.lt g h3).2
      simp at h4
      omega

noncomputable def pCame3b : Code := pieceAt [1, 1, 1, 1, 1, 1, 1, 1, 0, 1, 2, 3, 1, 1, 0, 2, 1, 1, 1, 0, 1, 2, 1, 5, 1, 4, 1, 1, 1, 1, 1, 1, 1, 1, 1, 1, 0, 1, 2, 3, 1, 1, 0, 2, 1, 1, 1]

/-- The packet goes where it belongs. -/
def J3 (w0 : World) (R L b1 : Nat) (rl re rs rva : Int) (v mv : Value) (qs ps : List Pk) (so wt : Bool) (ak la ls : Int) (gv : Value) (gs : List (Int × Int)) (tv : Value) (ts : List Pk) (x21 x22 : Value) (hh : Int) (mk nx nw lt la' : Int) (wt' : Bool) (ac : Value) (len k : Nat) (n j : Nat) (cs ds : List Pk) (wn : Bool) (a : Act) (w : World) : Prop :=
  ∃ cv dv, Sl a R L mv mk nx nw lt la' wt' ac len k ∧ S3 a gv tv x21 x22 hh cv dv wn mv n j ∧ F3 w0 R L b1 rl re rs rva v mv qs ps so wt ak la ls gv gs tv ts cv dv cs ds w

set_option maxRecDepth 1000000 in
set_option maxHeartbeats 8000000 in
theorem round3b {w0 : World} {R L b1 : Nat} {rl re rs rva : Int} {v mv : Value} {qs ps : List Pk} {so wt : Bool} {ak la ls : Int} {gv : Value} {gs : List (Int × Int)} {tv : Value} {ts : List Pk} {x21 x22 : Value} {hh mk nx nw lt la' : Int} {wt' : Bool} {ac : Value} {len k n j B : Nat} {cv dv : Value} {cs ds : List Pk} {wn b : Bool} {p : Pk} {a : Act} {w : World}
    (hs : Sl a R L mv mk nx nw lt la' wt' ac len k) (h3 : S3 a gv tv x21 x22 hh cv dv wn mv n j) (s31 : a.eval (.tmp 31) = .pointer (some ⟨B, 0, none⟩)) (s32 : a.eval (.tmp 32) = .bool b) (hf : F3 w0 R L b1 rl re rs rva v mv qs ps so wt ak la ls gv gs tv ts cv dv cs ds w) (hpb : Pb w B p) (hp : 0 ≤ p.n ∧ p.n ≤ 1152921504606846976) (hcB : cv.ownBlock ≠ some B) (hc : cs.length ≤ 1000) (hd : ds.length ≤ 1000)
    (Q : Exit → Act → World → Prop) (hK : Hid (∀ a' w', J3 w0 R L b1 rl re rs rva v mv qs ps so wt ak la ls gv gs tv ts x21 x22 hh mk nx nw lt la' wt' ac len k n j (if b then cs ++ [p] else cs) (if b then ds else ds ++ [p]) (wn || (b && (decide (p.n = hh) && p.e))) a' w' → Q .normal a' w')) : Code.wp Try.prog pCame3b Q a w := by
  obtain ⟨s19, s20, s21, s22, s24, s27, s28, s29, s269, s270, s271⟩ := h3
  obtain ⟨hsz, hnd, s3, s5, s6, s7, s8, s9, s10, s11, s12, s64, s65, s66⟩ := hs
  obtain ⟨g, hg, rfl⟩ := act_lit a hsz hnd
  simp only [hg] at s3 s5 s6 s7 s8 s9 s10 s11 s12 s64 s65 s66 s19 s20 s21 s22 s24 s27 s28 s29 s269 s270 s271 s31 s32
  clear hg hsz hnd
  unfold lit pCame3b
  conv => arg 2; whnf
  simp only [s3, s5, s6, s7, s8, s9, s10, s11, s12, s64, s65, s66, s19, s20, s21, s22, s24, s27, s28, s29, s269, s270, s271, s31, s32]
  clear s3 s5 s6 s7 s8 s9 s10 s11 s12 s64 s65 s66 s19 s20 s21 s22 s24 s27 s28 s29 s269 s270 s271 s31 s32
  obtain ⟨d0, d1, d2, d3, d4⟩ := hpb.cells
  obtain ⟨hp0, hp1⟩ := hp
  have Hf := Lib.hid hf
  have Hpb := Lib.hid hpb
  have Hc := Lib.hid hc
  have Hd := Lib.hid hd
  have HcB := Lib.hid hcB
  clear hf hpb hc hd hcB
  cases b
  · go_wp2_with (at_builtin; go_must (refine wpList_append_pk rfl (.tmp 314) (.tmp 316) rfl b1 dv _ rfl (Hf.out.dr.below (grow (Below.refl _ _) _)) w.heap.size 1 p rfl (Pb.new _ _) Hd.out (Nat.le_trans Hf.out.hb1 (grow (Below.refl _ _) _).size) ?_))
    intro v' w5 hr6 hk6 ho6
    have Hf5 := Lib.hid (Hf.out.pushD hr6 hk6 (by simpa using ho6))
    clear hr6 hk6 ho6
    go_wp2_with fail
    refine hK.out _ _ ⟨cv, v', ⟨rfl, rfl, rfl, rfl, rfl, rfl, rfl, rfl, rfl, rfl, rfl, rfl, rfl, rfl⟩, ?_, Hf5.out⟩
    exact ⟨rfl, rfl, rfl, rfl, rfl, rfl, rfl, by simp; rfl, rfl, rfl, rfl⟩
  · go_upto_region 74 with (at_builtin; go_must (refine wpList_append_pk rfl (.tmp 298) (.tmp 300) rfl b1 cv _ rfl (Hf.out.cr.below (grow (Below.refl _ _) _)) w.heap.size 1 p rfl (Pb.new _ _) Hc.out (Nat.le_trans Hf.out.hb1 (grow (Below.refl _ _) _).size) ?_; intro v' w5 hr6 hk6 ho6))
    have Hf5 := Lib.hid (Hf.out.pushC hr6 hk6 (by simpa using ho6))
    have Hpb5 := Lib.hid ((Hpb.out.below (grow (Below.refl _ _) _)).kp hk6 HcB.out)
    clear hr6 hk6 ho6 Hf Hpb d0 d1 d2 d3 d4
    obtain ⟨d0, d1, d2, d3, d4⟩ := Hpb5.out.cells
    cases wn
    · by_cases heq : p.n = hh
      · have T := Lib.hid (show (false || (true && (decide (p.n = hh) && p.e))) = p.e from by simp [heq])
        have t1 : (p.n == hh) = true := by simpa using heq
        clear heq
        go_wp2_with fail
        refine hK.out _ _ ⟨v', dv, ⟨rfl, rfl, rfl, rfl, rfl, rfl, rfl, rfl, rfl, rfl, rfl, rfl, rfl, rfl⟩, ?_, Hf5.out⟩
        exact ⟨rfl, rfl, rfl, rfl, rfl, rfl, rfl, by rw [T.out]; rfl, rfl, rfl, rfl⟩
      · have T := Lib.hid (show (false || (true && (decide (p.n = hh) && p.e))) = false from by simp [heq])
        have t1 : (p.n == hh) = false := by simpa using heq
        clear heq
        go_wp2_with fail
        refine hK.out _ _ ⟨v', dv, ⟨rfl, rfl, rfl, rfl, rfl, rfl, rfl, rfl, rfl, rfl, rfl, rfl, rfl, rfl⟩, ?_, Hf5.out⟩
        exact ⟨rfl, rfl, rfl, rfl, rfl, rfl, rfl, by rw [T.out]; rfl, rfl, rfl, rfl⟩
    · go_wp2_with fail
      exact hK.out _ _ ⟨v', dv, ⟨rfl, rfl, rfl, rfl, rfl, rfl, rfl, rfl, rfl, rfl, rfl, rfl, rfl, rfl⟩, ⟨rfl, rfl, rfl, rfl, rfl, rfl, rfl, rfl, rfl, rfl, rfl⟩, Hf5.out⟩

noncomputable def pCame3 : Code := pieceAt [1, 1, 1, 1, 1, 1, 1, 1, 0, 1, 2, 3, 1, 1, 0, 2, 1, 1, 1, 0, 1, 2, 1, 5, 1, 4, 1, 1, 1, 1, 1, 1, 1, 1, 1, 1, 0, 1, 2, 3]
noncomputable def pCame3c : Code := pieceAt [1, 1, 1, 1, 1, 1, 1, 1, 0, 1, 2, 3, 1, 1, 0, 2, 1, 1, 1, 0, 1, 2, 1, 5, 1, 4, 1, 1, 1, 1, 1, 1, 1, 1, 1, 1, 0, 1, 2, 3, 1, 1]

/-- At the head of the rounds: j packets are parted. -/
def I3 (w0 : World) (R L b1 : Nat) (rl re rs rva : Int) (v mv : Value) (qs ps : List Pk) (so wt : Bool) (ak la ls : Int) (gv : Value) (gs : List (Int × Int)) (tv : Value) (ts : List Pk) (x21 x22 : Value) (hh : Int) (mk nx nw lt la' : Int) (wt' : Bool) (ac : Value) (len k : Nat) (m : Nat) (a : Act) (w : World) : Prop :=
  ∃ j : Nat, j + m = ps.length ∧ J3 w0 R L b1 rl re rs rva v mv qs ps so wt ak la ls gv gs tv ts x21 x22 hh mk nx nw lt la' wt' ac len k ps.length j ((ps.take j).filter (fun p => gs.any (inR p.n))) ((ps.take j).filter (fun p => !gs.any (inR p.n))) (((ps.take j).filter (fun p => gs.any (inR p.n))).any (fun p => decide (p.n = hh) && p.e)) a w

set_option maxRecDepth 1000000 in
set_option maxHeartbeats 4000000 in
theorem round3c {w0 : World} {R L b1 : Nat} {rl re rs rva : Int} {v mv : Value} {qs ps : List Pk} {so wt : Bool} {ak la ls : Int} {gv : Value} {gs : List (Int × Int)} {tv : Value} {ts : List Pk} {x21 x22 : Value} {hh mk nx nw lt la' : Int} {wt' : Bool} {ac : Value} {len k n j : Nat} {cs ds : List Pk} {wn : Bool} {a : Act} {w : World}
    (h : J3 w0 R L b1 rl re rs rva v mv qs ps so wt ak la ls gv gs tv ts x21 x22 hh mk nx nw lt la' wt' ac len k n j cs ds wn a w) (hj : j ≤ 1000)
    (Q : Exit → Act → World → Prop) (hK : Hid (∀ a' w', J3 w0 R L b1 rl re rs rva v mv qs ps so wt ak la ls gv gs tv ts x21 x22 hh mk nx nw lt la' wt' ac len k n (j + 1) cs ds wn a' w' → Q .normal a' w')) : Code.wp Try.prog (stp pCame3c 1) Q a w := by
  obtain ⟨cv, dv, hs, ⟨s19, s20, s21, s22, s24, s27, s28, s29, s269, s270, s271⟩, hf⟩ := h
  obtain ⟨hsz, hnd, s3, s5, s6, s7, s8, s9, s10, s11, s12, s64, s65, s66⟩ := hs
  obtain ⟨g, hg, rfl⟩ := act_lit a hsz hnd
  simp only [hg] at s3 s5 s6 s7 s8 s9 s10 s11 s12 s64 s65 s66 s19 s20 s21 s22 s24 s27 s28 s29 s269 s270 s271
  clear hg hsz hnd
  unfold lit pCame3c
  conv => arg 2; whnf
  simp only [s3, s5, s6, s7, s8, s9, s10, s11, s12, s64, s65, s66, s19, s20, s21, s22, s24, s27, s28, s29, s269, s270, s271]
  clear s3 s5 s6 s7 s8 s9 s10 s11 s12 s64 s65 s66 s19 s20 s21 s22 s24 s27 s28 s29 s269 s270 s271
  have Hf := Lib.hid hf
  clear hf
  go_wp2_with fail
  exact hK.out _ _ ⟨cv, dv, ⟨rfl, rfl, rfl, rfl, rfl, rfl, rfl, rfl, rfl, rfl, rfl, rfl, rfl, rfl⟩, ⟨rfl, rfl, rfl, rfl, rfl, rfl, rfl, rfl, rfl, rfl, (by go_num : Value.int .i64 (↑j + 1) = .int .i64 ↑(j + 1))⟩, Hf.out⟩

theorem part_step {q f : Pk → Bool} {ps : List Pk} {j : Nat} {p : Pk} (hs : ps.take (j + 1) = ps.take j ++ [p]) :
    (ps.take (j + 1)).filter q = (if q p then (ps.take j).filter q ++ [p] else (ps.take j).filter q) ∧ (ps.take (j + 1)).filter (fun p => !q p) = (if q p then (ps.take j).filter (fun p => !q p) else (ps.take j).filter (fun p => !q p) ++ [p]) ∧
    ((ps.take (j + 1)).filter q).any f = (((ps.take j).filter q).any f || (q p && f p)) := by
  cases hq : q p
  · rw [filt_no hs hq, filt_yes (q := fun p => !q p) hs (by simp [hq])]
    simp
  · rw [filt_yes hs hq, filt_no (q := fun p => !q p) hs (by simp [hq]), List.any_append]
    simp

set_option maxRecDepth 1000000 in
set_option maxHeartbeats 8000000 in
theorem round3 {w0 : World} {R L b1 : Nat} {rl re rs rva : Int} {v mv : Value} {qs ps : List Pk} {so wt : Bool} {ak la ls : Int} {gv : Value} {gs : List (Int × Int)} {tv : Value} {ts : List Pk} {x21 x22 : Value} {hh mk nx nw lt la' : Int} {wt' : Bool} {ac : Value} {len k m : Nat} {a : Act} {w : World}
    (h : I3 w0 R L b1 rl re rs rva v mv qs ps so wt ak la ls gv gs tv ts x21 x22 hh mk nx nw lt la' wt' ac len k m a w) (hlen : ps.length ≤ 101) (hgs : gs.length ≤ 10) (hfit : ∀ p ∈ ps, 0 ≤ p.n ∧ p.n ≤ 1152921504606846976) (K : Act → World → Prop) (Q0 : Exit → Act → World → Prop)
    (hK : Hid (∀ a' w', (∃ m', m = m' + 1 ∧ I3 w0 R L b1 rl re rs rva v mv qs ps so wt ak la ls gv gs tv ts x21 x22 hh mk nx nw lt la' wt' ac len k m' a' w') → K a' w'))
    (hE : Hid (∀ a' w', I3 w0 R L b1 rl re rs rva v mv qs ps so wt ak la ls gv gs tv ts x21 x22 hh mk nx nw lt la' wt' ac len k 0 a' w' → Q0 (.exit 7) a' w')) : Code.wp Try.prog pCame3 (Exit.then K Q0) a w := by
  obtain ⟨j, hj, cv, dv, hs, h3, hf⟩ := h
  generalize hwn : (((ps.take j).filter (fun p => gs.any (inR p.n))).any (fun p => decide (p.n = hh) && p.e)) = wn at *
  obtain ⟨s19, s20, s21, s22, s24, s27, s28, s29, s269, s270, s271⟩ := h3
  obtain ⟨hsz, hnd, s3, s5, s6, s7, s8, s9, s10, s11, s12, s64, s65, s66⟩ := hs
  obtain ⟨g, hg, rfl⟩ := act_lit a hsz hnd
  simp only [hg] at s3 s5 s6 s7 s8 s9 s10 s11 s12 s64 s65 s66 s19 s20 s21 s22 s24 s27 s28 s29 s269 s270 s271
  clear hg hsz hnd
  unfold lit pCame3
  conv => arg 2; whnf
  simp only [s3, s5, s6, s7, s8, s9, s10, s11, s12, s64, s65, s66, s19, s20, s21, s22, s24, s27, s28, s29, s269, s270, s271]
  clear s3 s5 s6 s7 s8 s9 s10 s11 s12 s64 s65 s66 s19 s20 s21 s22 s24 s27 s28 s29 s269 s270 s271
  obtain ⟨ad, cap, hv, hcs⟩ := hf.mt.row.shape
  obtain ⟨gad, gcap, hgv, -⟩ := hf.rg.are
  subst hv hgv
  have Hcs := Lib.hid hcs
  have Hf := Lib.hid hf
  have Hfit := Lib.hid hfit
  have Hwn := Lib.hid hwn
  clear hcs hf hfit hwn
  by_cases hlt : j < ps.length
  · obtain ⟨g', rfl, hg', hgl, hgo, d0, d1, d2, d3, d4⟩ := Hcs.out j ps[j] (List.getElem?_eq_getElem hlt)
    have hp := Lib.hid (Hfit.out ps[j] (List.getElem_mem hlt))
    have hstep : ps.take (j + 1) = ps.take j ++ [ps[j]] := List.take_succ_eq_append_getElem hlt
    generalize ps[j] = p at *
    have Hstep := Lib.hid hstep
    clear hstep
    have HcB := Lib.hid (show cv.ownBlock ≠ some w.heap.size from fun e => by have := (Hf.out.cr.lt _ e).2; omega)
    have Hpb := Lib.hid (Pb.new w p)
    have Hf2 := Lib.hid (Hf.out.below (grow (Below.refl w.heap.size w) (.cells #[.int .u64 p.n, .int .u64 p.a, .int .u64 p.s, .bool p.e, .bool p.f] 31)))
    clear Hf
    go_wp2_with fail
    rename_i K1 hc1 K2 hc2
    refine wp_loop_k (I4 (fun w' => F3 w0 R L b1 rl re rs rva v (.slice (some ⟨g', 0, none⟩) ps.length cap) qs ps so wt ak la ls (.slice gad gs.length gcap) gs tv ts cv dv ((ps.take j).filter (fun p => gs.any (inR p.n))) ((ps.take j).filter (fun p => !gs.any (inR p.n))) w')
      R L (.slice gad gs.length gcap) gs tv x21 x22 hh cv dv wn ps.length j w.heap.size p (.slice (some ⟨g', 0, none⟩) ps.length cap) mk nx nw lt la' wt' ac len k) (m := gs.length) (fun m' a' w' h' => ?_) ⟨0, by omega, ⟨rfl, rfl, rfl, rfl, rfl, rfl, rfl, rfl, rfl, rfl, rfl, rfl, rfl, rfl⟩, ⟨rfl, rfl, rfl, rfl, rfl, rfl, rfl, rfl, rfl, rfl, rfl⟩, rfl, rfl, rfl, rfl, rfl, Hf2.out, Hf2.out.rg.are, Hpb.out⟩
    refine round4 (fun w1 w2 h hb => h.below hb) h' hgs _ _ (fun _ _ h => h) (fun a4 w4 h4 => ?_)
    refine inBlock_exit (hc2 _ _ ?_)
    obtain ⟨i, hi, hs4, h34, s31, -, -, -, s32, hf4, -, hp4⟩ := h4
    obtain rfl : i = gs.length := by omega
    rw [List.take_length] at s32
    refine round3b (b := gs.any (inR p.n)) hs4 h34 s31 s32 hf4 hp4 hp.out HcB.out (filt_len _ ps j hlen) (filt_len _ ps j hlen) _ (fun a5 w5 h5 => ?_)
    refine hc1 _ _ (round3c h5 (by omega) _ (fun a6 w6 h6 => ?_))
    refine hK.out _ _ ⟨m - 1, by omega, j + 1, by omega, ?_⟩
    obtain ⟨e1, e2, e3⟩ := part_step (q := fun p => gs.any (inR p.n)) (f := fun p => decide (p.n = hh) && p.e) Hstep.out
    rw [e3, e2, e1, Hwn.out]
    exact h6
  · obtain rfl : m = 0 := by omega
    obtain rfl : j = ps.length := by omega
    go_wp2_with fail
    refine hE.out _ _ ⟨ps.length, rfl, cv, dv, ⟨rfl, rfl, rfl, rfl, rfl, rfl, rfl, rfl, rfl, rfl, rfl, rfl, rfl, rfl⟩, ?_, Hf.out⟩
    rw [Hwn.out]
    exact ⟨rfl, rfl, rfl, rfl, rfl, rfl, rfl, rfl, rfl, rfl, rfl⟩
end Go.Proofs.Ytpjahdiddgdahaa
