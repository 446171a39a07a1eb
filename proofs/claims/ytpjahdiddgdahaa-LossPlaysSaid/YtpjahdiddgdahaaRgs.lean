/- Ranges in a row of the call's own; one more behind them. -/
import Derived.Test.YtpjahdiddgdahaaIn
namespace Go.Proofs.Ytpjahdiddgdahaa
open Go.RowKit
set_option linter.unusedVariables false

def rcs : List (Int × Int) → List Value
  | [] => []
  | r :: rs => [.int .u64 r.1, .int .u64 r.2] ++ rcs rs
theorem rcs_length (rs : List (Int × Int)) : (rcs rs).length = rs.length * 2 := by
  induction rs with
  | nil => rfl
  | cons p r ih => simp [rcs, ih]; omega
theorem rcs_append (xs ys : List (Int × Int)) : rcs (xs ++ ys) = rcs xs ++ rcs ys := by
  induction xs with
  | nil => rfl
  | cons p r ih => simp [rcs, ih]
theorem rcs_at (rs : List (Int × Int)) : ∀ (j : Nat) (r : Int × Int), rs[j]? = some r → (rcs rs)[j * 2]? = some (.int .u64 r.1) ∧ (rcs rs)[j * 2 + 1]? = some (.int .u64 r.2) := by
  induction rs with
  | nil => intro j p h; simp at h
  | cons q r ih =>
    intro j p h
    cases j with
    | zero =>
      simp at h
      subst h
      simp [rcs]
    | succ j =>
      simp at h
      obtain ⟨h1, h2⟩ := ih j p h
      rw [show (j + 1) * 2 = j * 2 + 2 from by omega, show j * 2 + 2 + 1 = (j * 2 + 1) + 2 from by omega]
      simp only [rcs]
      constructor
      · rw [List.getElem?_append_right (by simp)]; simpa using h1
      · rw [List.getElem?_append_right (by simp)]; simpa using h2

/-- The slice v holds the ranges rs, in a row of the call's own, from block 'base' on. -/
def RgW (w : World) (base : Nat) (v : Value) (rs : List (Int × Int)) : Prop := w.ownsRow base 40 2 v rs.length (rcs rs)
theorem RgW.keep {w w' : World} {base : Nat} {v : Value} {rs : List (Int × Int)} (h : RgW w base v rs) (hk : ∀ g, v.ownBlock = some g → w'.heap[g]? = w.heap[g]?) : RgW w' base v rs := by
  unfold RgW at *
  refine ⟨h.1, ?_⟩
  rcases h.2 with hn | ⟨g, cap, cur, rfl, hb, hg, r⟩
  · exact .inl hn
  · exact .inr ⟨g, cap, cur, rfl, hb, by rw [hk g rfl]; exact hg, r⟩
theorem RgW.lt {w : World} {base : Nat} {v : Value} {rs : List (Int × Int)} (h : RgW w base v rs) : ∀ g, v.ownBlock = some g → base ≤ g ∧ g < w.heap.size := World.ownsRow.lt h
theorem RgW.below {w w' : World} {base : Nat} {v : Value} {rs : List (Int × Int)} (h : RgW w base v rs) (hb : Below w.heap.size w w') : RgW w' base v rs :=
  h.keep fun g hg => hb.block g (h.lt g hg).2

theorem RgW.are {w : World} {base : Nat} {v : Value} {rs : List (Int × Int)} (h : RgW w base v rs) : RgAre w v rs := by
  rcases h.2 with ⟨rfl, hn⟩ | ⟨g, cap, cur, rfl, hb, hg, hnc, hcm, hcs, htake⟩
  · refine ⟨none, 0, by rw [hn], fun j p hj => ?_⟩
    have hl := (List.getElem?_eq_some_iff.1 hj).1
    omega
  · refine ⟨_, cap, rfl, fun j p hj => ⟨g, rfl, (Array.getElem?_eq_some_iff.1 hg).1, ?_⟩⟩
    have hall := World.ownsRow.cells h (g := g) rfl
    have hadd : ∀ i, (Addr.add ⟨g, 0, none⟩ i) = ⟨g, i, none⟩ := fun i => by unfold Addr.add; split <;> simp_all
    obtain ⟨h1, h2⟩ := rcs_at rs j p hj
    exact ⟨by rw [← hadd]; exact hall _ _ h1, by rw [← hadd]; exact hall _ _ h2⟩

/-- One range in a block that the call built. -/
theorem RgW.one (w : World) (f t : Int) (base : Nat) (hb : base ≤ w.heap.size) : RgW (w.alloc (.cells #[.int .u64 f, .int .u64 t] 40)) base (.slice (some ⟨w.heap.size, 0, none⟩) 1 1) [(f, t)] :=
  ⟨by simp [rcs], .inr ⟨w.heap.size, 1, #[.int .u64 f, .int .u64 t], rfl, hb, by show (Array.push _ _)[Array.size _]? = _; exact Array.getElem?_push_size, Nat.le_refl _, by simp [maxLen], by simp, by simp [rcs]⟩⟩

theorem info40 : (Try.prog.info? 40).map (fun i => (i.zero, i.size, i.bytes)) = some (some (.agg #[.int .u64 0, .int .u64 0]), 2, 16) := by kernel_rfl

/-- One range more behind a row of the call's own. -/
theorem wpList_append_rg {w : World} {ops : Array Oper} {rest : List Oper} {o : Oper} {a : Act} {Q : Exit → Act → World → Prop}
    (hg : o.guard = none) (s x : Operand) (hop : o.op = Op.call { callee := Callee.builtin Builtin.append, args := #[s, x], argTypes := #[41, 41] })
    (base : Nat) (v : Value) (rs : List (Int × Int)) (hs : a.eval s = v) (hown : RgW w base v rs) (B c : Nat) (f t : Int) (hx : a.eval x = .slice (some ⟨B, 0, none⟩) 1 c) (hc0 : w.cell? ⟨B, 0, none⟩ = some (.int .u64 f)) (hc1 : w.cell? ⟨B, 1, none⟩ = some (.int .u64 t))
    (hlen : rs.length ≤ 1000) (hbase : base ≤ w.heap.size)
    (h : ∀ v' w', RgW w' base v' (rs ++ [(f, t)]) → Kp w w' (fun k => v.ownBlock = some k) → (v'.ownBlock = v.ownBlock ∨ v'.ownBlock = some w.heap.size) → wpList Try.prog ops Q rest (a.put o.dst v') w') : wpList Try.prog ops Q (o :: rest) a w := by
  obtain ⟨i, hi, hz0, hz1, hz2⟩ := info_parts info40
  refine wpList_plain hg fun K hK => ?_
  have hadd : ∀ i, (Addr.add ⟨B, 0, none⟩ i) = ⟨B, i, none⟩ := fun i => by unfold Addr.add; split <;> simp_all
  obtain ⟨v', w', hr, h2, h3, _, h5⟩ := run_append_own_at (P := Try.prog) w base 41 o.type 40 i _ 2 16 Try.underlying41 hi hz0 hz1 hz2 rfl (by omega) v rs.length (rcs rs) hown ⟨B, 0, none⟩ 1 c [.int .u64 f, .int .u64 t] rfl
    (fun j u hj => by
      rw [hadd]
      match j with
      | 0 => simp at hj; subst hj; exact hc0
      | 1 => simp at hj; subst hj; exact hc1
      | j + 2 => simp at hj)
    (by simp [Value.oneCell']) (by unfold maxLen; omega) (by omega) hbase
  unfold Oper.wp execOp
  simp only [hop, resolve, invoke, builtin, Sem.run_bind, Sem.run_pure, Result.andThen_ok, List.map_toArray, List.map_cons, List.map_nil, hs, hx, hr]
  refine hK _ _ (h v' w' ?_ ⟨h3.os, h3.tape, h3.output, h3.size, fun k hk hne => h3.block k hk (fun e => hne e.symm)⟩ h5)
  unfold RgW
  rw [rcs_append, List.length_append]
  simpa [rcs] using h2
end Go.Proofs.Ytpjahdiddgdahaa
