/- LossTimes, walked: behind a Find nothing is lost till LostAt; then one is. -/
import Derived.Test.YtpjahdiddgdahaaAwake
import Derived.Test.YtpjahdiddgdahaaNext
namespace Go.Proofs.Ytpjahdiddgdahaa
open Go.RowKit
set_option linter.unusedVariables false
set_option linter.unusedSimpArgs false

/-- The time behind j steps; the packets; which are sent. -/
def tmT (zs : Nat → Int) : Nat → Int
  | 0 => 0
  | j + 1 => tmT zs j + zs j
def tmP (zs : Nat → Int) (j : Nat) : Pk := ⟨j, tmT zs (j + 1), 1, true, true⟩
def tmL (zs : Nat → Int) (j : Nat) : List Pk := (List.range j).map (tmP zs)
theorem tmL_succ (zs : Nat → Int) (j : Nat) : tmL zs (j + 1) = tmL zs j ++ [tmP zs j] := by simp [tmL, List.range_succ]
theorem tmL_len (zs : Nat → Int) (j : Nat) : (tmL zs j).length = j := by simp [tmL]
theorem tmL_mem {zs : Nat → Int} {j : Nat} {q : Pk} (h : q ∈ tmL zs j) : ∃ i, i < j ∧ q = tmP zs i := by
  simp [tmL] at h
  obtain ⟨i, hi, rfl⟩ := h
  exact ⟨i, hi, rfl⟩
theorem tmT_in (zs : Nat → Int) (n : Nat) (hz : ∀ i, i < n → 0 ≤ zs i ∧ zs i ≤ 65535) : ∀ j, j ≤ n → 0 ≤ tmT zs j ∧ tmT zs j ≤ 65535 * j := by
  intro j
  induction j with
  | zero => intro _; simp [tmT]
  | succ j ih =>
    intro h
    have h1 := ih (by omega)
    have h2 := hz j (by omega)
    simp only [tmT]
    omega
theorem tmL_rise (zs : Nat → Int) (j : Nat) : Rise (tmL zs j) := by
  unfold Rise tmL
  rw [List.pairwise_map]
  exact List.pairwise_lt_range.imp (fun h => by simp [tmP]; omega)
theorem tmL_fits (zs : Nat → Int) (n : Nat) (hz : ∀ i, i < n → 0 ≤ zs i ∧ zs i ≤ 65535) (hn : n ≤ 60) : ∀ p ∈ tmL zs n, Fits p := by
  intro p hp
  obtain ⟨i, hi, rfl⟩ := tmL_mem hp
  have h := tmT_in zs n hz (i + 1) (by omega)
  constructor <;> simp only [tmP] <;> omega
theorem tmL_take (zs : Nat → Int) (n k : Nat) (hk : k < n) : (tmL zs n).filter (fun p => List.any [((k : Int), (k : Int) + 1)] (inR p.n)) = [tmP zs k] := by
  induction n with
  | zero => omega
  | succ n ih =>
    rw [tmL_succ, List.filter_append]
    by_cases h : k < n
    · rw [ih h]
      simp [tmP, inR]
      omega
    · obtain rfl : k = n := by omega
      have h0 : (tmL zs k).filter (fun p => List.any [((k : Int), (k : Int) + 1)] (inR p.n)) = [] := by
        rw [List.filter_eq_nil_iff]
        intro q hq
        obtain ⟨i, hi, rfl⟩ := tmL_mem hq
        simp [tmP, inR]
        omega
      rw [h0]
      simp [tmP, inR]
      omega

/-- The round trip that was measured, in a block of its own. -/
def RBox (w : World) (R : Nat) (took : Int) : Prop := w.heap[R]? = some (.cells #[.int .u64 took, .int .u64 took, .int .u64 took, .int .u64 (took / 2), .bool true] 33 (0, 0))
theorem RBox.below {w w' : World} {R : Nat} {took : Int} (h : RBox w R took) (hb : Below w.heap.size w w') : RBox w' R took := by
  unfold RBox at *
  rw [hb.block R (Array.getElem?_eq_some_iff.1 h).1]; exact h
theorem RBox.kp {w w' : World} {L R : Nat} {took : Int} (h : RBox w R took) (hk : Kp w w' (fun k => k = L)) (hR : L < R) : RBox w' R took := by
  unfold RBox at *
  rw [hk.block R (Array.getElem?_eq_some_iff.1 h).1 (by omega)]; exact h
theorem RBox.cells {w : World} {R : Nat} {took : Int} (h : RBox w R took) :
    w.cell? ⟨R, 0, none⟩ = some (.int .u64 took) ∧ w.cell? ⟨R, 1, none⟩ = some (.int .u64 took) ∧ w.cell? ⟨R, 2, none⟩ = some (.int .u64 took) ∧ w.cell? ⟨R, 3, none⟩ = some (.int .u64 (took / 2)) ∧ w.cell? ⟨R, 4, none⟩ = some (.bool true) := by
  unfold RBox at h
  simp [World.cell?, h]

/-- At the head of the rounds: j packets are sent. -/
def TmRel (w : World) (L len : Nat) (zs : Nat → Int) (x10 i : Value) (wr : World) : Prop :=
  ∃ (j : Nat) (v : Value) (ls : Int), i = .int .i64 j ∧ j ≤ len ∧ x10 = .int .u64 (tmT zs j) ∧ Led wr L v (tmL zs j) false 0 false 0 ls ∧ Below w.heap.size w wr

set_option maxRecDepth 100000 in
set_option maxHeartbeats 2000000 in
theorem times_any (a0 : Option Addr) (len cap : Nat) (zs : Nat → Int) (cm now took : Int) (w : World) (hlen : len ≤ 9223372036854775807)
    (hcell : ∀ i, i < len → ∃ b off, a0 = some ⟨b, off, none⟩ ∧ b < w.heap.size ∧ w.cell? ⟨b, off + i, none⟩ = some (.int .u16 (zs i))) (hz : ∀ i, i < len → 0 ≤ zs i ∧ zs i ≤ 65535)
    (hc0 : 0 ≤ cm) (hc1 : cm ≤ 255) (hn0 : 0 ≤ now) (hn1 : now ≤ 4294967295) (ht0 : 0 ≤ took) (ht1 : took ≤ 4294967295) :
    Calls Try.prog 4 #[.slice a0 len cap, .int .u8 cm, .int .u32 now, .int .u32 took] w fun e w' => e = .returned (.bool true) ∧ Below w.heap.size w w' := by
  have Hc := Lib.hid hcell
  have Hz := Lib.hid hz
  clear hcell hz
  go_enter Try.func4, Try.ntmps4
  go_wp2_with fail
  refine (awake _).mono ?_
  rintro e w1 ⟨rfl, hb1⟩
  by_cases hbig : 60 < len
  · go_wp2_with fail
    go_ret
    exact ⟨rfl, hb1⟩
  · by_cases hzero : len = 0
    · subst hzero
      go_wp2_with fail
      go_ret
      exact ⟨rfl, hb1⟩
    · have h60 : len ≤ 60 := by omega
      have h1 : 1 ≤ len := by omega
      have t1 : decide ((60 : Int) < (len : Int)) = false := decide_eq_false (by omega)
      have t2 : ((len : Int) == 0) = false := by simp; omega
      go_wp2_with fail
      refine (new_any w1).mono ?_
      rintro e w2 ⟨rfl, rfl⟩
      have hl2 := new_led w1
      have hb2 := hb1.trans ((grow (Below.refl w1.heap.size w1) (.cells #[.slice none 0 0, .bool false, .int .u64 0, .bool false, .int .u64 0, .int .u64 0] 59)).mono hb1.size)
      have hLw := hb1.size
      have HLw := Lib.hid hLw
      clear hb1 hLw
      generalize hLe : w1.heap.size = L at *
      clear hLe
      go_wp2_with fail
      go_loopw [10, 11, 12, 33] (fun x10 x11 x12 i wr => TmRel w L len zs x10 i wr) (fun x10 x11 x12 i wr => (len - intOf i).toNat)
      case atStart => exact ⟨0, _, 0, rfl, by omega, rfl, hl2, hb2⟩
      case round =>
        clear hl2 hb2
        obtain ⟨j, v, ls, rfl, hj, rfl, hl, hb⟩ := hrel
        have Hl := Lib.hid hl
        have Hb := Lib.hid hb
        clear hl hb
        by_cases hlt : j < len
        · obtain ⟨b0, o0, rfl, hb0, hcj⟩ := Hc.out j hlt
          have hcj : wr.cell? ⟨b0, o0 + j, none⟩ = some (.int .u16 (zs j)) := by rw [Hb.out.cell (by exact hb0)]; exact hcj
          have hzj := Hz.out j hlt
          have hT := tmT_in zs len Hz.out j (by omega)
          have hT1 := hT.1
          have hT2 := hT.2
          have hz1 := hzj.1
          have hz2 := hzj.2
          clear hT hzj
          go_upto_region 11 with (fail)
          go_wp2_with fail
          refine (sent_any L v false false 0 0 ls (tmL zs j) (tmP zs j) wr Hl.out (.inl rfl) ?_ (by rw [tmL_len]; omega) (tmT zs (j + 1)) (Lib.hid rfl)).mono ?_
          · intro q hq
            obtain ⟨i, hi, rfl⟩ := tmL_mem hq
            simp [tmP]; omega
          rintro e w3 ⟨v', rfl, hl3, hk3, -⟩
          rw [← tmL_succ] at hl3
          have Hl3 := Lib.hid hl3
          have Hb3 := Lib.hid (below_kp Hb.out hk3 (Hl.out.blk HLw.out))
          clear hl3 hk3
          go_wp2_with fail
          go_roundw
          case rel => exact ⟨j + 1, v', _, by go_num, by omega, rfl, Hl3.out, Hb3.out⟩
          case measure => simp [intOf]; omega
        · obtain rfl : j = len := by omega
          go_wp2_with fail
          refine (rtt_new _).mono ?_
          rintro e w3 ⟨rfl, hb3⟩
          have hl3 := Hl.out.below hb3
          have hbw3 := Hb.out.trans (hb3.mono Hb.out.size)
          go_wp2_with fail
          refine (measure_first 0 0 333000 166500 took 0 0 _ ht0 (by omega)).mono ?_
          rintro e w4 ⟨rfl, hb4⟩
          rw [show min took Mx = took from by unfold Mx; omega]
          have hl4 := hl3.below hb4
          have hbw4 := hbw3.trans (hb4.mono hbw3.size)
          clear hb3 hb4 hl3 hbw3
          go_upto_region 14 with (fail)
          refine wp_gen (fun W => Led W L v (tmL zs j) false 0 false 0 ls ∧ RBox W w4.heap.size took ∧ Below w.heap.size w W) ⟨hl4.below (grow (Below.refl _ _) _), by show (Array.push _ _)[Array.size _]? = _; exact Array.getElem?_push_size, grow hbw4 _⟩ ?_
          have HLR := Lib.hid hl4.lt
          clear hl4 hbw4 Hl Hb
          generalize w4.heap.size = R at *
          rintro w5 ⟨hl5, hr5, hb5⟩
          have Hl5 := Lib.hid hl5
          have Hr5 := Lib.hid hr5
          have Hb5 := Lib.hid hb5
          clear hl5 hr5 hb5
          go_upto_region 15 with (fail)
          have hk0 := Int.emod_nonneg cm (show (j : Int) ≠ 0 by omega)
          have hk1 := Int.emod_lt_of_pos cm (show (0 : Int) < j by omega)
          obtain ⟨k, hk⟩ : ∃ k : Nat, cm % (j : Int) = k := ⟨(cm % (j : Int)).toNat, by omega⟩
          rw [hk] at hk0 hk1 ⊢
          clear hk
          have hkj : k < j := by omega
          have hfz := tmL_fits zs j Hz.out h60
          have hrz := tmL_rise zs j
          have hlz := tmL_len zs j
          have htz := tmL_take zs j k hkj
          generalize tmL zs j = ps at *
          generalize tmP zs k = pk at *
          clear Hc Hz
          have hpk : pk.n = k := by
            have h9 : pk ∈ ps.filter (fun p => List.any [((k : Int), (k : Int) + 1)] (inR p.n)) := by rw [htz]; simp
            have := (List.mem_filter.1 h9).2
            simp [inR] at this
            omega
          have Hfz := Lib.hid hfz
          have Hrz := Lib.hid hrz
          have Htz := Lib.hid htz.symm
          clear hfz hrz htz
          go_wp2_with fail
          refine (came_ok L v (.slice (some ⟨w5.heap.size, 0, none⟩) 1 1) ps false false 0 0 ls j [((k : Int), (k : Int) + 1)] _ (RgAre.one w5 k (k + 1)) (by simp) (by simp [goodR]; omega) (Hl5.out.below (grow (Below.refl _ _) _)) (by omega) (by omega) (by simp) [pk] Htz (by simp; omega) (by omega)).mono ?_
          rintro e w6 ⟨tv, kv, b, so', ak', rfl, hl6, hr6, hk6, hkv, -, hd⟩
          have hso : so' = true ∧ ak' = k := by
            rcases hd with ⟨h, -⟩ | ⟨xs, g, h, -, h1, h2⟩
            · cases h
            · have hx : xs = [] := by
                cases xs with
                | nil => rfl
                | cons x xs => simp at h
              subst hx
              simp at h
              subst h
              exact ⟨h1, by rw [h2]; simp [hpk]⟩
          obtain ⟨rfl, rfl⟩ := hso
          have hr6b := (Hr5.out.below (grow (Below.refl _ _) _)).kp hk6 HLR.out
          have hb6 := below_kp (Hb5.out.trans ((grow (Below.refl w5.heap.size w5) (.cells #[.int .u64 (k : Int), .int .u64 ((k : Int) + 1)] 40)).mono Hb5.out.size)) hk6 (fun i hi => by rw [hi]; exact HLw.out)
          have hk1r : Rise (ps.filter (fun p => !List.any [((k : Int), (k : Int) + 1)] (inR p.n))) := Hrz.out.filter _
          have hk1f : ∀ p ∈ ps.filter (fun p => !List.any [((k : Int), (k : Int) + 1)] (inR p.n)), Fits p := fun p hp => Hfz.out p (List.mem_filter.1 hp).1
          have hk1l : (ps.filter (fun p => !List.any [((k : Int), (k : Int) + 1)] (inR p.n))).length ≤ 60 := Nat.le_trans (List.length_filter_le _ _) (by omega)
          have Hb6 := Lib.hid hb6
          have Hr6 := Lib.hid hr6b
          clear hd hr6 hk6 hkv Hl5 Hr5 Hb5 Hfz Hrz Htz hr6b hb6
          generalize ps.filter (fun p => !List.any [((k : Int), (k : Int) + 1)] (inR p.n)) = K1 at *
          have Hl6 := Lib.hid hl6
          have Hk1r := Lib.hid hk1r
          have Hk1f := Lib.hid hk1f
          clear hl6 hk1r hk1f
          obtain ⟨r0, r1, r2, r3, r4⟩ := Hr6.out.cells
          go_upto_region 16 with (fail)
          go_wp2_with fail
          refine (find_some L kv K1 false k 0 ls now took took took (took / 2) true w6 Hl6.out (by omega) Hk1f.out (by omega) (by omega) (by omega) (by omega) (by omega) (by omega) (by omega) (by omega) (max (9 * max took took / 8) 1000) (Lib.hid rfl) _ _ (Lib.hid rfl) (Lib.hid rfl)).mono ?_
          generalize hwait : max (9 * max took took / 8) 1000 = wait
          have hw0 : 0 ≤ wait := by omega
          have hw1 : wait ≤ 1125899906842624 := by omega
          have Hwait := Lib.hid hwait.symm
          clear hwait
          rintro e w7 ⟨tv7, kv7, wt, la, rfl, hl7, -, hk7, -, -, hnx⟩
          have hr7 := Hr6.out.kp hk7 HLR.out
          have hb7 := below_kp Hb6.out hk7 (fun i hi => by rw [hi]; exact HLw.out)
          have hK2r : Rise (K1.filter (fun p => !isLost (k : Int) now wait p)) := Hk1r.out.filter _
          have hK2f : ∀ p ∈ K1.filter (fun p => !isLost (k : Int) now wait p), Fits p := fun p hp => Hk1f.out p (List.mem_filter.1 hp).1
          have hK2l : (K1.filter (fun p => !isLost (k : Int) now wait p)).length ≤ 60 := Nat.le_trans (List.length_filter_le _ _) (by omega)
          have hlaw := fun h => next_law (k : Int) wait now la K1 _ hw0 Hk1r.out rfl h
          generalize K1.filter (fun p => !isLost (k : Int) now wait p) = K2 at *
          have Hlaw := Lib.hid hlaw
          have Hnx := Lib.hid hnx
          have HK2r := Lib.hid hK2r
          have HK2f := Lib.hid hK2f
          have Hl7 := Lib.hid hl7
          have Hr7 := Lib.hid hr7
          have Hb7 := Lib.hid hb7
          clear hlaw hnx hK2r hK2f hl7 hr7 hb7 hk7 r0 r1 r2 r3 r4 Hl6 Hr6 Hb6
          go_wp2_with fail
          refine (lostat_any L kv7 K2 true wt k la ls w7 Hl7.out).mono ?_
          rintro e w8 ⟨rfl, hb8⟩
          have Hl8 := Lib.hid (Hl7.out.below hb8)
          have Hr8 := Lib.hid (Hr7.out.below hb8)
          have Hb8 := Lib.hid (Hb7.out.trans (hb8.mono Hb7.out.size))
          clear hb8 Hl7 Hr7 Hb7
          go_wp2_with fail
          refine (list_any L kv7 K2 true wt k la ls w8 Hl8.out (by omega)).mono ?_
          rintro e w9 ⟨lv, rfl, hrow, hb9⟩
          have Hl9 := Lib.hid (Hl8.out.below hb9)
          have Hr9 := Lib.hid (Hr8.out.below hb9)
          have Hb9 := Lib.hid (Hb8.out.trans (hb9.mono Hb8.out.size))
          clear hb9 Hl8 Hr8 Hb8
          obtain ⟨la9, lc9, rfl, -⟩ := hrow.shape
          clear hrow
          cases wt
          · have hall : ∀ p ∈ K2, (k : Int) < p.n := by
              rcases nextL_start (k : Int) wait K2 HK2r.out with ⟨la', e, -⟩ | ⟨-, h⟩
              · have h2 := Hnx.out; rw [e] at h2; simp at h2
              · exact h
            have Hall := Lib.hid hall
            clear hall
            go_wp2_with fail
            refine (list_any L kv7 K2 true false k la ls w9 Hl9.out (by omega)).mono ?_
            rintro e w10 ⟨lv, rfl, hrow, hb10⟩
            obtain ⟨qa, qc, rfl, hcs⟩ := hrow.shape
            have Hcs := Lib.hid hcs
            have Hb10 := Lib.hid (Hb9.out.trans (hb10.mono Hb9.out.size))
            clear hrow hcs
            go_wp2_with fail
            go_loopw [87] (fun i wr => (∃ q : Nat, i = .int .i64 q ∧ q ≤ K2.length ∧ Below w10.heap.size w10 wr)) (fun i wr => (K2.length - intOf i).toNat)
            case atStart => exact ⟨0, rfl, by omega, Below.refl _ _⟩
            case round =>
              obtain ⟨q, rfl, hq, hbq⟩ := hrel
              by_cases hlt : q < K2.length
              · obtain ⟨g, rfl, -, hgl, -, d0, d1, d2, d3, d4⟩ := Hcs.out q K2[q] (List.getElem?_eq_getElem hlt)
                have hgn := Hall.out K2[q] (List.getElem_mem hlt)
                generalize K2[q] = p at *
                have d0 : wr.cell? ⟨g, q * 5, none⟩ = some (.int .u64 p.n) := by rw [hbq.cell (by exact hgl)]; exact d0
                have d1 : wr.cell? ⟨g, q * 5 + 1, none⟩ = some (.int .u64 p.a) := by rw [hbq.cell (by exact hgl)]; exact d1
                have d2 : wr.cell? ⟨g, q * 5 + 2, none⟩ = some (.int .u64 p.s) := by rw [hbq.cell (by exact hgl)]; exact d2
                have d3 : wr.cell? ⟨g, q * 5 + 3, none⟩ = some (.bool p.e) := by rw [hbq.cell (by exact hgl)]; exact d3
                have d4 : wr.cell? ⟨g, q * 5 + 4, none⟩ = some (.bool p.f) := by rw [hbq.cell (by exact hgl)]; exact d4
                go_wp2_with fail
                go_roundw
                case rel => exact ⟨q + 1, by go_num, by omega, grow hbq _⟩
                case measure => simp [intOf]; omega
              · obtain rfl : q = K2.length := by omega
                go_wp2_with fail
                go_ret
                exact ⟨rfl, Hb10.out.trans (hbq.mono Hb10.out.size)⟩
          · obtain ⟨l1, l2, l3, l4, p, hp, l5, l6⟩ := Hlaw.out Hnx.out
            have l7 := (HK2f.out p hp).a0
            have l8 := (HK2f.out p hp).a1
            have t5 : decide (la ≤ now) = false := decide_eq_false (by omega)
            have i5 : IntKind.u64.wrap (la - 1) = la - 1 := IntWalk.u64_in _ (by omega)
            have l9 : la ≤ 2251799813685248 := by omega
            have L2 := Lib.hid l2
            have L3 := Lib.hid l3
            have L4 := Lib.hid l4
            clear l2 l3 l4 hp l6
            obtain ⟨r0, r1, r2, r3, r4⟩ := Hr9.out.cells
            go_wp2_with fail
            refine (find_some L kv7 K2 true k la ls (la - 1) took took took (took / 2) true w9 Hl9.out (by omega) HK2f.out (by omega) (by omega) (by omega) (by omega) (by omega) (by omega) (by omega) (by omega) wait Hwait K2 [] (Lib.hid L3.out.symm) (Lib.hid L2.out.symm)).mono ?_
            rintro e w10 ⟨tv10, kv10, wt10, la10, rfl, hl10, hrow10, hk10, -, -, -⟩
            have Hl10 := Lib.hid hl10
            have Hr10 := Lib.hid (Hr9.out.kp hk10 HLR.out)
            have Hb10 := Lib.hid (below_kp Hb9.out hk10 (fun i hi => by rw [hi]; exact HLw.out))
            obtain ⟨qa, qc, rfl, -⟩ := hrow10.shape
            clear hl10 hk10 hrow10 r0 r1 r2 r3 r4 Hl9 Hr9 Hb9
            go_wp2_with fail
            refine (list_any L kv10 K2 true wt10 k la10 ls w10 Hl10.out (by omega)).mono ?_
            rintro e w11 ⟨lv, rfl, hrow, hb11⟩
            have Hl11 := Lib.hid (Hl10.out.below hb11)
            have hr11 := Hr10.out.below hb11
            have Hb11 := Lib.hid (Hb10.out.trans (hb11.mono Hb10.out.size))
            obtain ⟨qa2, qc2, rfl, -⟩ := hrow.shape
            clear hrow hb11 Hl10 Hr10 Hb10
            obtain ⟨r0, r1, r2, r3, r4⟩ := hr11.cells
            clear hr11
            go_wp2_with fail
            refine (find_some L kv10 K2 wt10 k la10 ls la took took took (took / 2) true w11 Hl11.out (by omega) HK2f.out (by omega) (by omega) (by omega) (by omega) (by omega) (by omega) (by omega) (by omega) wait Hwait _ _ (Lib.hid rfl) (Lib.hid rfl)).mono ?_
            rintro e w12 ⟨tv12, kv12, wt12, la12, rfl, hl12, hrow12, hk12, -, -, -⟩
            have Hb12 := Lib.hid (below_kp Hb11.out hk12 (fun i hi => by rw [hi]; exact HLw.out))
            obtain ⟨qa3, qc3, rfl, -⟩ := hrow12.shape
            have hpos : 0 < (K2.filter (isLost (k : Int) la wait)).length := List.length_pos_iff.2 L4.out
            clear hl12 hk12 hrow12 r0 r1 r2 r3 r4 Hl11 Hb11
            generalize (K2.filter (isLost (k : Int) la wait)).length = m at *
            go_wp2_with fail
            go_ret
            exact ⟨by simp, Hb12.out⟩
end Go.Proofs.Ytpjahdiddgdahaa
