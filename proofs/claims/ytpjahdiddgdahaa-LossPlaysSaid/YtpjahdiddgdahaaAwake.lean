/- Awake: the fixed fact holds. And Sent in one contract. -/
import Derived.Test.YtpjahdiddgdahaaSent
import Derived.Test.YtpjahdiddgdahaaCame
import Derived.Test.YtpjahdiddgdahaaFind
import Derived.Test.YtpjahdiddgdahaaAsk
namespace Go.Proofs.Ytpjahdiddgdahaa
open Go.RowKit
set_option linter.unusedVariables false
set_option linter.unusedSimpArgs false

/-- Sent, of a packet above all that are kept. -/
theorem sent_any (L : Nat) (v : Value) (so wt : Bool) (ak la ls : Int) (ps : List Pk) (p : Pk) (w : World) (hl : Led w L v ps so ak wt la ls) (hak : so = false ∨ ak < p.n) (hrise : ∀ q ∈ ps, q.n < p.n) (hmany : ps.length < 256) (ls' : Int) (hls : Hid (ls' = if p.e && p.f then p.a else ls)) :
    Calls Try.prog 8 #[.pointer (some ⟨L, 0, none⟩), pv p] w (SentPost w L v (ps ++ [p]) so ak wt la ls') := by
  rcases List.eq_nil_or_concat ps with h | ⟨qs, lst, h⟩
  · subst h
    exact sent_first L v so wt ak la ls p w hl hak ls' hls
  · rw [List.concat_eq_append] at h
    subst h
    exact sent_more L v so wt ak la ls qs lst p w hl hak (hrise lst (by simp)) (by simp at hmany; omega) ls' hls

theorem below_kp {w W W' : World} {S : Nat → Prop} (hb : Below w.heap.size w W) (hk : Kp W W' S) (hS : ∀ k, S k → w.heap.size ≤ k) : Below w.heap.size w W' :=
  hb.trans (hk.to_below hb.size (fun k hk hs => by have := hS k hs; omega))
theorem Led.blk {w : World} {L B : Nat} {v : Value} {ps : List Pk} {so wt : Bool} {ak la ls : Int} (h : Led w L v ps so ak wt la ls) (hB : B ≤ L) : ∀ k, Blk L v k → B ≤ k := by
  intro k hk
  rcases hk with rfl | h2
  · exact hB
  · have := (h.2.lt k h2).1; omega

/-- The ranges of one element that the call builds. -/
theorem RgAre.one (w : World) (f t : Int) : RgAre (w.alloc (.cells #[.int .u64 f, .int .u64 t] 40)) (.slice (some ⟨w.heap.size, 0, none⟩) 1 1) [(f, t)] := by
  refine ⟨_, 1, rfl, fun j r hj => ?_⟩
  match j with
  | 0 =>
    simp at hj
    subst hj
    exact ⟨w.heap.size, rfl, by simp, by go_simp, by go_simp⟩
  | j + 1 => simp at hj

def awP (n : Nat) : Pk := ⟨n, 10, 100, true, true⟩
def awL (j : Nat) : List Pk := (List.range j).map awP
theorem awL_succ (j : Nat) : awL (j + 1) = awL j ++ [awP j] := by simp [awL, List.range_succ]

/-- At the head of Awake's rounds: j packets are sent. -/
def AwRel (w : World) (L : Nat) (i : Value) (wr : World) : Prop :=
  ∃ (j : Nat) (v : Value) (ls : Int), i = .int .u64 j ∧ j ≤ 4 ∧ Led wr L v (awL j) false 0 false 0 ls ∧ Below w.heap.size w wr

set_option maxHeartbeats 1000000 in
theorem awake (w : World) : Calls Try.prog 6 #[] w fun e w' => e = .returned (.bool true) ∧ Below w.heap.size w w' := by
  go_enter Try.func6, Try.ntmps6
  go_wp2_with fail
  refine (new_any w).mono ?_
  rintro e w1 ⟨rfl, rfl⟩
  have hl1 := new_led w
  have hb1 : Below w.heap.size w _ := grow (Below.refl _ w) (.cells #[.slice none 0 0, .bool false, .int .u64 0, .bool false, .int .u64 0, .int .u64 0] 59)
  go_wp2_with fail
  go_loopw [2, 8] (fun x2 i wr => AwRel w w.heap.size i wr) (fun x2 i wr => (4 - intOf i).toNat)
  case atStart => exact ⟨0, _, 0, rfl, by omega, hl1, hb1⟩
  case round =>
    clear hl1 hb1
    obtain ⟨j, v, ls, rfl, hj, hl, hb⟩ := hrel
    have Hl := Lib.hid hl
    have Hb := Lib.hid hb
    clear hl hb
    by_cases hlt : j < 4
    · go_wp2_with fail
      refine (sent_any w.heap.size v false false 0 0 ls (awL j) (awP j) wr Hl.out (.inl rfl) ?_ (by simp [awL]; omega) 10 (Lib.hid rfl)).mono ?_
      · intro q hq
        simp [awL] at hq
        obtain ⟨a, ha, rfl⟩ := hq
        simp [awP]; omega
      rintro e w2 ⟨v', rfl, hl2, hk2, -⟩
      rw [← awL_succ] at hl2
      have Hl2 := Lib.hid hl2
      have Hb2 := Lib.hid (below_kp Hb.out hk2 (Hl.out.blk (Nat.le_refl _)))
      clear hl2 hk2
      go_wp2_with fail
      go_roundw
      case rel => exact ⟨j + 1, v', 10, by go_num, by omega, Hl2.out, Hb2.out⟩
      case measure => simp [intOf]; omega
    · obtain rfl : j = 4 := by omega
      go_wp2_with fail
      refine (came_ok w.heap.size v (.slice (some ⟨wr.heap.size, 0, none⟩) 1 1) (awL 4) false false 0 0 ls 4 [(3, 4)] _ (RgAre.one wr 3 4) (by simp) (by simp [goodR]) (Hl.out.below (grow (Below.refl _ _) _)) (by simp [awL]) (by omega) (by simp) [awP 3] (Lib.hid (by simp [awL, awP, inR, List.range, List.range.loop])) (by simp) (by omega)).mono ?_
      rintro e w2 ⟨tv, kv, b, so', ak', rfl, hl2, hr2, hk2, hkv, -, hd⟩
      have hb2 := below_kp (Hb.out.trans ((grow (Below.refl wr.heap.size wr) (.cells #[.int .u64 3, .int .u64 4] 40)).mono Hb.out.size)) hk2 (fun k hk => by omega)
      have hks : (awL 4).filter (fun p => !List.any [((3 : Int), (4 : Int))] (inR p.n)) = awL 3 := by simp [awL, awP, inR, List.range, List.range.loop]
      rw [hks] at hl2
      have hso : so' = true ∧ ak' = 3 := by
        rcases hd with ⟨h, -⟩ | ⟨xs, g, h, -, h1, h2⟩
        · cases h
        · have hx : xs = [] := by
            cases xs with
            | nil => rfl
            | cons x xs => simp at h
          subst hx
          simp at h
          subst h
          exact ⟨h1, by rw [h2]; simp [awP]⟩
      obtain ⟨rfl, rfl⟩ := hso
      obtain ⟨ta, tc, rfl, -⟩ := hr2.shape
      have Hl2 := Lib.hid hl2
      have Hb2 := Lib.hid hb2
      clear hl2 hb2 hr2 hk2 hkv hd hks Hl Hb
      go_wp2_with fail
      refine (rtt_new _).mono ?_
      rintro e w3 ⟨rfl, hb3⟩
      have Hl3 := Lib.hid (Hl2.out.below hb3)
      have Hb3 := Lib.hid (Hb2.out.trans (hb3.mono Hb2.out.size))
      clear hb3 Hl2 Hb2
      go_wp2_with fail
      refine (find_some w.heap.size kv (awL 3) false 3 0 ls 10 0 0 333000 166500 false w3 Hl3.out (by simp [awL]) (by intro p hp; simp [awL] at hp; obtain ⟨a, ha, rfl⟩ := hp; constructor <;> simp [awP] <;> omega) (by omega) (by omega) (by omega) (by omega) (by omega) (by omega) (by omega) (by omega) 374625 (Lib.hid (by omega)) [awP 1, awP 2] [awP 0]
        (Lib.hid (by simp [awL, awP, isLost, List.range, List.range.loop])) (Lib.hid (by simp [awL, awP, isLost, List.range, List.range.loop]))).mono ?_
      rintro e w4 ⟨tv, kv4, wt4, la4, rfl, hl4, hr4, hk4, -, -, -⟩
      have Hb4 := Lib.hid (below_kp Hb3.out hk4 (fun k hk => by omega))
      obtain ⟨a4, cap4, hv4, hcs4⟩ := hr4.shape
      obtain ⟨g, rfl, -, -, -, d0, -⟩ := hcs4 0 (awP 0) (by simp)
      simp at hv4
      subst hv4
      have d0 : w4.cell? ⟨g, 0, none⟩ = some (.int .u64 0) := by simpa [awP] using d0
      clear hcs4 hr4 hl4 hk4
      go_wp2_with fail
      go_ret
      exact ⟨rfl, Hb4.out⟩
end Go.Proofs.Ytpjahdiddgdahaa
