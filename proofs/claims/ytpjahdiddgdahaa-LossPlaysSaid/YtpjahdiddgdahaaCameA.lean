/- LossPlays, the arm of what came: the ranges are built. -/
import Derived.Test.YtpjahdiddgdahaaFindLoop
import Derived.Deep.RegionHeld3
namespace Go.Proofs.Ytpjahdiddgdahaa
open Go.RowKit
set_option linter.unusedVariables false
set_option linter.unusedSimpArgs false

/-- One range more, at a step of a region that draws its order. -/
theorem step_append_rg {w : World} {ops : Array Oper} {o : Oper} {a : Act} {K : Act → World → Prop} {Q : Exit → Act → World → Prop} {E : Prop}
    (hg : o.guard = none) (s x : Operand) (hop : o.op = Op.call { callee := Callee.builtin Builtin.append, args := #[s, x], argTypes := #[41, 41] })
    (base : Nat) (v : Value) (rs : List (Int × Int)) (hs : a.eval s = v) (hown : RgW w base v rs) (B c : Nat) (f t : Int) (hx : a.eval x = .slice (some ⟨B, 0, none⟩) 1 c) (hc0 : w.cell? ⟨B, 0, none⟩ = some (.int .u64 f)) (hc1 : w.cell? ⟨B, 1, none⟩ = some (.int .u64 t))
    (hlen : rs.length ≤ 1000) (hbase : base ≤ w.heap.size)
    (h : ∀ g cap w', RgW w' base (.slice (some ⟨g, 0, none⟩) (rs.length + 1) cap) (rs ++ [(f, t)]) → Kp w w' (fun k => v.ownBlock = some k) → (v.ownBlock = some g ∨ g = w.heap.size) → K (a.put o.dst (.slice (some ⟨g, 0, none⟩) (rs.length + 1) cap)) w') :
    if Region.wanted o (yielded ops a.tmps) = true then Oper.wp Try.prog o a w K Q else E := by
  obtain ⟨i, hi, hz0, hz1, hz2⟩ := info_parts info40
  have hadd : ∀ i, (Addr.add ⟨B, 0, none⟩ i) = ⟨B, i, none⟩ := fun i => by unfold Addr.add; split <;> simp_all
  refine step_append_lies w hg s x 41 hop base 40 i _ 2 16 Try.underlying41 hi hz0 hz1 hz2 rfl (by omega) v rs.length (rcs rs) hs hown ⟨B, 0, none⟩ 1 c [.int .u64 f, .int .u64 t] hx rfl
    (fun j u hj => by
      rw [hadd]
      match j with
      | 0 => simp at hj; subst hj; exact hc0
      | 1 => simp at hj; subst hj; exact hc1
      | j + 2 => simp at hj)
    (by simp [Value.oneCell']) (by omega) (by unfold maxLen; omega) (by omega) hbase _ rfl
    (fun g cap w' ho hgr hb _ => h g cap w' ?_ ⟨hgr.os, hgr.tape, hgr.output, hgr.size, fun k hk hne => hgr.block k hk (fun e => hne e.symm)⟩ hb)
  unfold RgW
  rw [rcs_append, List.length_append]
  simpa [rcs] using ho

/-- Memory, the ranges, the act. -/
structure F1 (w0 : World) (R L b0 : Nat) (rl re rs rva : Int) (v mv : Value) (ps : List Pk) (so wt : Bool) (ak la ls : Int) (gv : Value) (gs : List (Int × Int)) (A : Nat) (x : Ac) (w : World) : Prop where
  mm : Mm w0 L R rl re rs rva v mv ps so wt ak la ls w
  rg : RgW w b0 gv gs
  ab : Ab w A x
  hL : L < b0
  hmv : ∀ g, mv.ownBlock = some g → g < b0
  hv : ∀ g, v.ownBlock = some g → g < b0
  hA : A < b0
  hb0 : b0 ≤ w.heap.size
theorem F1.below {w0 w w' : World} {R L b0 : Nat} {rl re rs rva : Int} {v mv : Value} {ps : List Pk} {so wt : Bool} {ak la ls : Int} {gv : Value} {gs : List (Int × Int)} {A : Nat} {x : Ac} (h : F1 w0 R L b0 rl re rs rva v mv ps so wt ak la ls gv gs A x w) (hb : Below w.heap.size w w') :
    F1 w0 R L b0 rl re rs rva v mv ps so wt ak la ls gv gs A x w' :=
  ⟨h.mm.below hb, h.rg.below hb, h.ab.below hb, h.hL, h.hmv, h.hv, h.hA, Nat.le_trans h.hb0 hb.size⟩
theorem F1.push {w0 w1 w5 : World} {R L b0 : Nat} {rl re rs rva : Int} {v mv : Value} {ps : List Pk} {so wt : Bool} {ak la ls : Int} {gv gv' : Value} {gs gs' : List (Int × Int)} {A : Nat} {x : Ac} (h : F1 w0 R L b0 rl re rs rva v mv ps so wt ak la ls gv gs A x w1)
    (hr : RgW w5 b0 gv' gs') (hk : Kp w1 w5 (fun k => gv.ownBlock = some k)) : F1 w0 R L b0 rl re rs rva v mv ps so wt ak la ls gv' gs' A x w5 := by
  have hlo : ∀ k, gv.ownBlock = some k → b0 ≤ k := fun k hk => (h.rg.lt k hk).1
  refine ⟨h.mm.kp hk (fun k hk => ?_), hr, ?_, h.hL, h.hmv, h.hv, h.hA, Nat.le_trans h.hb0 hk.size⟩
  · have h3 := hlo k hk
    have h4 := h.hL
    have h5 := h.mm.hL
    have h6 := h.mm.hR
    exact ⟨by omega, by omega, fun e => by have := h.hv k e; omega, fun e => by have := h.hmv k e; omega, by omega⟩
  · have h1 := h.ab
    unfold Ab at *
    rw [hk.block A (Array.getElem?_eq_some_iff.1 h1).1 (fun e => by have := hlo A e; have := h.hA; omega)]
    exact h1

theorem F1.push2 {w0 w1 w5 : World} {R L b0 : Nat} {rl re rs rva : Int} {v mv : Value} {ps : List Pk} {so wt : Bool} {ak la ls : Int} {gv gv' : Value} {gs gs' : List (Int × Int)} {A : Nat} {x : Ac} {o : Obj} (h : F1 w0 R L b0 rl re rs rva v mv ps so wt ak la ls gv gs A x w1)
    (hr : RgW w5 b0 gv' gs') (hk : Kp (w1.alloc o).drew w5 (fun k => gv.ownBlock = some k)) : F1 w0 R L b0 rl re rs rva v mv ps so wt ak la ls gv' gs' A x w5 :=
  (h.below (grow (Below.refl _ _) o).drew).push hr hk

noncomputable def pCame46 : Code := pieceAt [1, 1, 1, 1, 1, 1, 1, 1, 0, 1, 2, 3, 1, 1, 0, 2, 1, 1, 1, 0, 1, 2, 1, 5, 1, 4, 1, 1, 0, 1, 4]

set_option maxRecDepth 1000000 in
set_option maxHeartbeats 8000000 in
theorem came46 {w0 : World} {R L b0 : Nat} {rl re rs rva : Int} {v mv : Value} {ps : List Pk} {so wt : Bool} {ak la ls nx nw lt la' mk : Int} {wt' : Bool} {ac : Value} {len k A B : Nat} {f t : Int} {x : Ac} {a : Act} {w : World}
    (hs : Sl a R L mv mk nx nw lt la' wt' ac len k) (s14 : a.eval (.tmp 14) = .pointer (some ⟨A, 0, none⟩)) (s19 : a.eval (.tmp 19) = .slice (some ⟨B, 0, none⟩) 1 1) (hf : F1 w0 R L b0 rl re rs rva v mv ps so wt ak la ls (.slice (some ⟨B, 0, none⟩) 1 1) [(f, t)] A x w)
    (hd1 : w.cell? ⟨B, 1, none⟩ = some (.int .u64 t)) (ht : 0 ≤ t ∧ t ≤ 1000) (hx : x.Ok)
    (Q : Exit → Act → World → Prop) (hK : Hid (∀ a' w' gv', Sl a' R L mv mk nx nw lt la' wt' ac len k → a'.eval (.tmp 14) = .pointer (some ⟨A, 0, none⟩) → a'.eval (.tmp 19) = gv' → F1 w0 R L b0 rl re rs rva v mv ps so wt ak la ls gv' ([(f, t)] ++ [(t + 2, t + 2 + x.mo % 5)]) A x w' → Q .normal a' w')) : Code.wp Try.prog pCame46 Q a w := by
  obtain ⟨hsz, hnd, s3, s5, s6, s7, s8, s9, s10, s11, s12, s64, s65, s66⟩ := hs
  obtain ⟨g, hg, rfl⟩ := act_lit a hsz hnd
  simp only [hg] at s3 s5 s6 s7 s8 s9 s10 s11 s12 s64 s65 s66 s14 s19
  clear hg hsz hnd
  unfold lit pCame46
  conv => arg 2; whnf
  simp only [s3, s5, s6, s7, s8, s9, s10, s11, s12, s64, s65, s66, s14, s19]
  clear s3 s5 s6 s7 s8 s9 s10 s11 s12 s64 s65 s66 s14 s19
  obtain ⟨c0, c1, c2, c3, c4, c5, c6, c7, c8, c9, c10, c11, c12⟩ := hf.ab.cells
  clear c0 c1 c2 c3 c4 c5 c7 c8 c9 c10 c11 c12
  obtain ⟨ht0, ht1⟩ := ht
  obtain ⟨xm0, xm1⟩ := hx.mo
  have Hf := Lib.hid hf
  have q1 := Lib.hid (show ∀ f' t' : Int, RgW (w.alloc (.cells #[.int .u64 f', .int .u64 t'] 40)).drew b0 (.slice (some ⟨B, 0, none⟩) 1 1) [(f, t)] from fun f' t' => hf.rg.below (grow (Below.refl _ _) _).drew)
  have q3 := Lib.hid (show ∀ f' t' : Int, b0 ≤ (w.alloc (.cells #[.int .u64 f', .int .u64 t'] 40)).drew.heap.size from fun f' t' => by have := hf.hb0; show b0 ≤ (w.alloc _).heap.size; simp; omega)
  have e0 := Lib.hid (show ∀ f' t' : Int, (w.alloc (.cells #[.int .u64 f', .int .u64 t'] 40)).drew.cell? ⟨w.heap.size, 0, none⟩ = some (.int .u64 f') from fun f' t' => by go_simp)
  have e1 := Lib.hid (show ∀ f' t' : Int, (w.alloc (.cells #[.int .u64 f', .int .u64 t'] 40)).drew.cell? ⟨w.heap.size, 1, none⟩ = some (.int .u64 t') from fun f' t' => by go_simp)
  have hw := Lib.hid (show IntKind.u64.wrap (t + 2) = t + 2 ∧ IntKind.u64.wrap (IntKind.u64.wrap (t + 2) + IntKind.u64.wrap (x.mo.tmod 5)) = t + 2 + x.mo % 5 from by
    rw [Int.tmod_eq_emod_of_nonneg xm0, IntWalk.u64_in (t + 2) (by omega), IntWalk.u64_in (x.mo % 5) (by omega), IntWalk.u64_in _ (by omega)]
    exact ⟨rfl, rfl⟩)
  clear hf hx
  refine wp_region_noPanic ?_
  go_region_law (first | ((refine step_append_rg (by rfl) (.tmp 195) (.tmp 212) (by rfl) b0 (.slice (some ⟨B, 0, none⟩) 1 1) [(f, t)] (by simp [Act.eval, Act.put]) (q1.out _ _) w.heap.size 1 _ _ (by simp [Act.eval, Act.put]) (e0.out _ _) (e1.out _ _) (by simp) (q3.out _ _) ?_; intro g2 cap2 w5 hr5 hk5 hb5; have Hr5 := Lib.hid hr5; have Hk5 := Lib.hid hk5; clear hr5 hk5 hb5)))
  all_goals
    refine NoPanic.normal ?_
    simp only [Act.put, List.setIfInBounds_toArray, List.set_cons_zero, List.set_cons_succ]
    refine hK.out _ w5 _ ⟨rfl, rfl, rfl, rfl, rfl, rfl, rfl, rfl, rfl, rfl, rfl, rfl, rfl, rfl⟩ rfl rfl ?_
    have hr5 := Hr5.out
    rw [hw.out.2, hw.out.1] at hr5
    exact Hf.out.push2 hr5 Hk5.out
end Go.Proofs.Ytpjahdiddgdahaa
