/- LossPlays: up to its rounds. -/
import Derived.Test.YtpjahdiddgdahaaGLast
import Derived.Test.YtpjahdiddgdahaaRounds
namespace Go.Proofs.Ytpjahdiddgdahaa
open Go.RowKit
set_option linter.unusedVariables false
set_option linter.unusedSimpArgs false

/-- The round trip behind two measures: whatever it is, it is small. -/
abbrev rvM (t u : Int) : Value := rv u (min t u) (nSm t u) (nVar t (t / 2) u) true
theorem measure_second {w : World} {I : Type} {F : I → World} (hF : Grown w F) (n : I) (t u : Int) (ht : 0 ≤ t ∧ t < 100000) (hu : 0 ≤ u ∧ u < 100000) :
    Calls Try.prog 14 #[rv t t t (t / 2) true, .int .u64 u, .int .u64 0, .int .u64 0] (F n) fun e w' => e = .returned (rvM t u) ∧ ∃ m, w' = F m := by
  refine (measure_later t t t (t / 2) u 0 0 (F n) hu.1 (by omega) ht.1 (by omega) ht.1 (by omega) (by omega) (by omega) (by omega) (by omega)).mono ?_
  rintro e w' ⟨rfl, hb⟩
  have hM : min u Mx = u := by unfold Mx; omega
  rw [hM, smp_zero]
  exact ⟨rfl, hF.more n hb⟩
theorem measure_one {w : World} {I : Type} {F : I → World} (hF : Grown w F) (n : I) (t : Int) (ht : 0 ≤ t ∧ t < 100000) :
    Calls Try.prog 14 #[rv 0 0 333000 166500 false, .int .u64 t, .int .u64 0, .int .u64 0] (F n) fun e w' => e = .returned (rv t t t (t / 2) true) ∧ ∃ m, w' = F m := by
  refine (measure_first 0 0 333000 166500 t 0 0 (F n) ht.1 (by omega)).mono ?_
  rintro e w' ⟨rfl, hb⟩
  rw [show min t Mx = t from by unfold Mx; omega]
  exact ⟨rfl, hF.more n hb⟩
theorem new_trip {w : World} {I : Type} {F : I → World} (hF : Grown w F) (n : I) : Calls Try.prog 9 #[] (F n) fun e w' => e = .returned (rv 0 0 333000 166500 false) ∧ ∃ m, w' = F m := by
  refine (rtt_new (F n)).mono ?_
  rintro e w' ⟨rfl, hb⟩
  exact ⟨rfl, hF.more n hb⟩

theorem endQ_normal {P : Program} {ops : Array Oper} {Q : Exit → Act → World → Prop} {n : Nat} {a : Act} {w : World} {o : Oper} (ho : ops[n]? = some o) (hg : o.guard = none) (h : ∀ K : Act → World → Prop, (∀ a w, Q .normal a w → K a w) → o.wp P a w K Q) : endQ P ops Q n .normal a w := by
  show wpOp P ops Q n (Q .normal) a w
  unfold wpOp
  rw [ho]
  simp only [Region.wanted, hg, if_true]
  exact Or.inl (h _ (fun _ _ h => h))

theorem calls_gen {P : Program} {f : FuncId} {args : Array Value} {w : World} {X : Ending → World → Prop} (R : World → Prop) (h : R w) (k : ∀ W, R W → Calls P f args W X) : Calls P f args w X := k w h
theorem RV.written {w : World} {R : Nat} {l le s va l' le' s' va' : Int} {b b' : Bool} (h : RV w R l le s va b) :
    RV (((((w.setCell ⟨R, 0, none⟩ (.int .u64 l')).setCell ⟨R, 1, none⟩ (.int .u64 le')).setCell ⟨R, 2, none⟩ (.int .u64 s')).setCell ⟨R, 3, none⟩ (.int .u64 va')).setCell ⟨R, 4, none⟩ (.bool b')) R l' le' s' va' b' := by
  unfold RV at *
  simp [World.setCell, Array.getElem?_modify, h]

noncomputable def p115 : Code := pieceAt [1, 1, 1, 1, 1, 1, 1, 1, 1]

set_option maxRecDepth 1000000 in
set_option maxHeartbeats 4000000 in
theorem end115 {a : Act} {w : World} (hsz : a.tmps.size = 493) (hnd : a.defers = []) (Q : Exit → Act → World → Prop) (hQ : Hid (∀ a', a'.defers = [] → a'.eval (.tmp 4) = .bool true → Q .ret a' w)) : Code.wp Try.prog p115 Q a w := by
  obtain ⟨g, hg, rfl⟩ := act_lit a hsz hnd
  clear hg hsz hnd
  unfold lit p115
  conv => arg 2; whnf
  go_wp2_with fail
  exact hQ.out _ rfl rfl

set_option maxRecDepth 1000000 in
set_option maxHeartbeats 8000000 in
theorem plays_any (a0 : Option Addr) (len cap : Nat) (A : Nat → Ac) (l le s va : Int) (b : Bool) (w : World) (hacts : ActsAre w a0 len A) (hl0 : 0 ≤ l) (hl1 : l ≤ 18446744073709551615) (hs0 : 0 ≤ s) (hs1 : s ≤ 18446744073709551615) :
    Calls Try.prog 5 #[.slice a0 len cap, rv l le s va b] w fun e w' => e = .returned (.bool true) ∧ Below w.heap.size w w' := by
  have Hacts := Lib.hid hacts
  clear hacts
  go_enter Try.func5, Try.ntmps5
  go_wp2_with fail
  refine (awake _).mono ?_
  rintro e w1 ⟨rfl, hb1⟩
  go_upto_region 3 with (fail)
  refine wp_gen (fun W => RV W w.heap.size l le s va b ∧ Below w.heap.size w W) ⟨RV.below (by show (Array.push _ _)[Array.size _]? = _; exact Array.getElem?_push_size) hb1, (grow (Below.refl _ _) _).trans (hb1.mono (grow (Below.refl _ _) _).size)⟩ ?_
  clear hb1
  rintro W ⟨hr, hb⟩
  have q1 : 0 ≤ l % 100000 ∧ l % 100000 < 100000 := by omega
  have q2 : 0 ≤ s % 100000 ∧ s % 100000 < 100000 := by omega
  have Q1 := Lib.hid q1
  have Q2 := Lib.hid q2
  clear q1 q2
  obtain ⟨r0, r1, r2, r3, r4⟩ := hr.cells
  obtain ⟨I, F, hF⟩ := grown_of W
  have e2 := hF.cell r0
  have e4 := hF.cell r2
  have hNI : Nonempty I := hF.non
  have HF := Lib.hid hF
  have Hr := Lib.hid hr
  have Hb := Lib.hid hb
  clear hF r0 r1 r2 r3 r4 hr hb
  refine wp_region_grown_last HF.out 9 rfl (by kernel_rfl) (by kernel_rfl) ?_
  simp only [struck, List.getElem?_toArray, List.getElem?_cons_succ, List.getElem?_cons_zero, List.setIfInBounds_toArray, List.set_cons_zero, List.set_cons_succ, List.toList_toArray]
  go_big_quiet_step (exact new_trip HF.out _)
  go_big_quiet_step (fail)
  go_big_quiet_step (fail)
  go_big_quiet_step (fail)
  go_big_quiet_step (exact measure_one HF.out _ (l % 100000) Q1.out)
  go_big_quiet_step (fail)
  go_big_quiet_step (fail)
  go_big_quiet_step (fail)
  go_big_quiet_step (exact measure_second HF.out _ (l % 100000) (s % 100000) Q1.out Q2.out)
  go_big_quiet_step (fail)
  refine wpQuiet_nil ?_
  rintro w5 ⟨n5, rfl⟩
  have hr5 := Hr.out.below (HF.out.1 n5)
  have hb5 := Hb.out.trans ((HF.out.1 n5).mono Hb.out.size)
  clear e2 e4 hNI HF Hr Hb
  generalize F n5 = w5 at *
  clear n5 F I
  refine endQ_normal (by simp only [List.getElem?_toArray, List.getElem?_cons_succ, List.getElem?_cons_zero]; exact rfl) rfl (fun K hK => ?_)
  obtain ⟨r0, r1, r2, r3, r4⟩ := hr5.cells
  obtain ⟨z0, z1, z2, z3, z4⟩ : w5.frozen? ⟨w.heap.size, 0, none⟩ = false ∧ w5.frozen? ⟨w.heap.size, 1, none⟩ = false ∧ w5.frozen? ⟨w.heap.size, 2, none⟩ = false ∧ w5.frozen? ⟨w.heap.size, 3, none⟩ = false ∧ w5.frozen? ⟨w.heap.size, 4, none⟩ = false := by
    unfold RV at hr5
    simp [World.frozen?, hr5]
  have Hr5 := Lib.hid hr5
  have Hb5 := Lib.hid hb5
  clear hr5 hb5
  go_wp2_with fail
  have q1 := Q1.out
  have q2 := Q2.out
  have h1 := nSm_lo (l % 100000) (s % 100000) q1.1 q2.1
  have h2 := nSm_hi (l % 100000) (s % 100000) 1125899906842624 (by omega) (by omega)
  have H1 := Lib.hid (show 0 ≤ s % 100000 ∧ s % 100000 ≤ 1125899906842624 from ⟨q2.1, by omega⟩)
  have H2 := Lib.hid (show 0 ≤ nSm (l % 100000) (s % 100000) ∧ nSm (l % 100000) (s % 100000) ≤ 1125899906842624 from ⟨h1, h2⟩)
  refine calls_gen (fun W => RV W w.heap.size (s % 100000) (min (l % 100000) (s % 100000)) (nSm (l % 100000) (s % 100000)) (nVar (l % 100000) (l % 100000 / 2) (s % 100000)) true ∧ Below w.heap.size w W)
    ⟨Hr5.out.written, ((((Hb5.out.setCell (by simp) _).setCell (by simp) _).setCell (by simp) _).setCell (by simp) _).setCell (by simp) _⟩ ?_
  clear q1 q2 h1 h2 r0 r1 r2 r3 r4 z0 z1 z2 z3 z4 Hr5 Hb5 Q1 Q2
  generalize s % 100000 = rl at *
  generalize min (l % 100000) rl = re at *
  generalize nSm (l % 100000) rl = rs at *
  generalize nVar (l % 100000) (l % 100000 / 2) rl = rva at *
  rintro W6 ⟨hr, hb⟩
  have Hm := Lib.hid (show Mm w W6.heap.size w.heap.size rl re rs rva (.slice none 0 0) (.slice none 0 0) [] false false 0 0 0 (W6.alloc (.cells #[.slice none 0 0, .bool false, .int .u64 0, .bool false, .int .u64 0, .int .u64 0] 59)) from
    ⟨new_led W6, Rw.nil _ _, hr.below (grow (Below.refl _ _) _), hb.trans ((grow (Below.refl W6.heap.size W6) _).mono hb.size), by simp [Value.ownBlock], Nat.le_refl _, hr.lt⟩)
  clear hr hb
  refine (new_any W6).mono ?_
  rintro e w7 ⟨rfl, rfl⟩
  generalize (W6.alloc (.cells #[.slice none 0 0, .bool false, .int .u64 0, .bool false, .int .u64 0, .int .u64 0] 59)) = W7 at *
  generalize W6.heap.size = L at *
  go_wp2_with fail
  rename_i K hc
  obtain ⟨wait, hwe⟩ : ∃ wait, Hid (wait = max (9 * max rs rl / 8) 1000) := ⟨_, Lib.hid rfl⟩
  refine wp_loop_k (I1 w w.heap.size L rl re rs rva (.slice a0 len cap) len) (m := len) (fun m a w' h => ?_)
    ⟨0, .slice none 0 0, .slice none 0 0, [], false, false, 0, 0, 0, 0, 0, 0, by omega, by omega, ⟨rfl, rfl, rfl, rfl, rfl, rfl, rfl, rfl, rfl, rfl, rfl, rfl, rfl, rfl⟩, Hm.out, ⟨List.Pairwise.nil, by simp, by simp, by omega, by simp, by omega, by omega, by omega, by omega, by omega, by omega⟩, by simp⟩
  have hfin : ∀ a' w', a'.defers = [] → a'.eval (.tmp 4) = .bool true → Below w.heap.size w w' → bodyPost Try.prog Try.f5 (fun e w' => e = .returned (.bool true) ∧ Below w.heap.size w w') .ret a' w' := fun a' w' h1 h2 h3 =>
    bodyPost_ret (fn := Try.f5) (results_tmp (t := 4) rfl _ _ _) h1 ⟨congrArg Ending.returned h2, h3⟩
  refine round1 h Hacts.out hwe H1.out H2.out _ _ (fun _ _ h => h) (fun a' w' h1 h2 h3 => ?_) (fun a' w' h1 h2 h3 => hfin a' w' h1 h2 h3)
  exact inBlock_exit (hc _ _ (end115 h1 h2 _ (fun a2 h4 h5 => hfin a2 w' h4 h5 h3)))
end Go.Proofs.Ytpjahdiddgdahaa
