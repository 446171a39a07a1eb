/- A region that draws its order, whose last operation waits for all the others: the condition need not hold behind it. -/
import Derived.Test.YtpjahdiddgdahaaBase
import Derived.StillTail
import Derived.OrdersHeld
namespace Go.Proofs.Ytpjahdiddgdahaa
set_option linter.unusedVariables false
section
variable {P : Program} {md : Region.Mode} {ops ops' : Array Oper} {Q : Exit → Act → World → Prop} {S : World → Prop} {n : Nat}

/-- The end: where all but the last are done, the last is done. -/
def endQ (P : Program) (ops : Array Oper) (Q : Exit → Act → World → Prop) (n : Nat) : Exit → Act → World → Prop
  | .normal, a, w => wpOp P ops Q n (Q .normal) a w
  | e, a, w => Q e a w

theorem letsOut_end (h : LetsOut (endQ P ops Q n)) : LetsOut Q := h

theorem operwp_end {o : Oper} {a : Act} {w : World} {K : Act → World → Prop} (hh : o.wp P a w K (endQ P ops Q n)) : o.wp P a w K Q := by
  unfold Oper.wp at *
  generalize (execOp a.eval o).run P w = r at *
  cases r with
  | ok n w' =>
    cases n <;> simp only [Oper.upon] at hh ⊢ <;>
      first
        | exact hh
        | exact Calls.mono hh (fun e w'' he => by cases e <;> exact he)
  | halt x w' => cases x <;> simp only [Oper.upon] at hh ⊢ <;> exact hh

theorem wpOp_end {i : Nat} {a : Act} {w : World} {K : Act → World → Prop} (hi : ops'[i]? = ops[i]?) (hg : ∀ o : Oper, ops[i]? = some o → o.guard = none) (hh : wpOp P ops' (endQ P ops Q n) i K a w) : wpOp P ops Q i K a w := by
  unfold wpOp at *
  rw [hi] at hh
  cases ho : ops[i]? with
  | none => simpa [ho] using hh
  | some o =>
    have hw : ∀ y, Region.wanted o y = true := fun y => by unfold Region.wanted; rw [hg o ho]
    simp only [ho, hw, if_true] at hh ⊢
    exact hh.imp operwp_end (fun h => ⟨h.1, letsOut_end h.2⟩)

theorem ready_same (hs : ops'.size = ops.size) (ha : ∀ i : Nat, (ops'[i]?).map Oper.after = (ops[i]?).map Oper.after) (listed : Array Bool) : Region.ready md ops' listed = Region.ready md ops listed := by
  unfold Region.ready
  rw [hs]
  apply List.filter_congr
  intro i _
  have h := ha i
  cases h1 : ops'[i]? with
  | none => rw [h1] at h; cases h2 : ops[i]? with
    | none => rfl
    | some o => rw [h2] at h; cases h
  | some o1 => rw [h1] at h; cases h2 : ops[i]? with
    | none => rw [h2] at h; cases h
    | some o2 => rw [h2] at h; simp at h; simp [h]

/-- The least that is not listed is ready. -/
theorem ready_some (hlow : ∀ (j : Nat) (o : Oper), ops[j]? = some o → ∀ e ∈ o.after, Region.binds md e = true → e.on < j) {listed : Array Bool} (hsz : listed.size = ops.size) :
    ∀ (i : Nat), i < ops.size → listed.getD i true = false → Region.ready md ops listed ≠ [] := by
  intro i
  induction i using Nat.strongRecOn with
  | _ i ih =>
    intro hi hun
    by_cases hr : i ∈ Region.ready md ops listed
    · intro h; rw [h] at hr; cases hr
    · obtain ⟨o, ho⟩ : ∃ o, ops[i]? = some o := ⟨ops[i], by simp [hi]⟩
      have h2 : ¬ ∀ e ∈ o.after, Region.binds md e = true → listed.getD e.on false = true := fun h => hr (mem_ready.2 ⟨hun, o, ho, h⟩)
      simp only [Classical.not_forall] at h2
      obtain ⟨e, he, hb, hl⟩ := h2
      have hlt := hlow i o ho e he hb
      refine ih e.on hlt (by omega) (getD_in (by omega) (by simpa using hl))

theorem wpAny_of_last (hn : ops.size = n + 1) (hs' : ops'.size = ops.size) (ha : ∀ i : Nat, (ops'[i]?).map Oper.after = (ops[i]?).map Oper.after) (hsame : ∀ i : Nat, i ≠ n → ops'[i]? = ops[i]?) (hg : ∀ (i : Nat) (o : Oper), ops[i]? = some o → o.guard = none)
    (hsink : Region.sinkB md ops n = true) (hlow : ∀ (j : Nat) (o : Oper), ops[j]? = some o → ∀ e ∈ o.after, Region.binds md e = true → e.on < j)
    (hno : ∀ (K : Act → World → Prop) a w, wpOp P ops' (endQ P ops Q n) n K a w → K a w) :
    ∀ (fuel : Nat) (listed : Array Bool) (a : Act) (w : World), HeadInv md ops n listed → wpAnyH P md ops' (endQ P ops Q n) S fuel listed a w → wpAny P md ops Q fuel listed a w := by
  have hchain : Region.chainB md ops n = true := by
    unfold Region.chainB
    rw [hn]
    exact List.all_eq_true.2 fun t ht => by have := List.mem_range.1 ht; simp; left; omega
  intro fuel
  induction fuel with
  | zero =>
    intro listed a w inv h
    have h1 : Region.ready md ops' listed = [] := h.1
    rw [ready_same hs' ha] at h1
    exact absurd h1 (ready_some hlow inv.size n (by omega) (inv.tail n (Nat.le_refl _) (by omega)))
  | succ fuel ih =>
    intro listed a w inv h
    have hne := ready_some hlow inv.size n (by omega) (inv.tail n (Nat.le_refl _) (by omega))
    refine ⟨fun h0 => absurd h0 hne, fun i hi => ?_⟩
    have h2 := h.2 i (by rw [ready_same hs' ha]; exact hi)
    obtain ⟨hun, o, ho, -⟩ := mem_ready.1 hi
    have hil : i < ops.size := (Array.getElem?_eq_some_iff.1 ho).1
    by_cases hin : i = n
    · subst hin
      have hall : ∀ j, j < i → listed.getD j true = true := fun j hj => by
        cases hc : listed.getD j true with
        | true => rfl
        | false => exact absurd hi (tail_waits hsink hchain hil inv (i - j) j rfl hj hc i (Nat.le_refl _))
      have hnil : Region.ready md ops (listed.setIfInBounds i true) = [] := by
        apply List.eq_nil_iff_forall_not_mem.2
        intro j hj
        obtain ⟨hu, o2, ho2, -⟩ := mem_ready.1 hj
        have hjl : j < ops.size := (Array.getElem?_eq_some_iff.1 ho2).1
        by_cases hji : j = i
        · subst hji
          have hjs : j < listed.size := by rw [inv.size]; omega
          rw [show (listed.setIfInBounds j true).getD j true = true by simp [hjs]] at hu
          cases hu
        · rw [getD_set_ne true (by omega), hall j (by omega)] at hu
          cases hu
      obtain ⟨-, h3⟩ := hno _ _ _ h2
      have h4 : endQ P ops Q i .normal a w := by
        cases fuel with
        | zero => exact h3.2
        | succ f => exact h3.1 (by rw [ready_same hs' ha]; exact hnil)
      refine wpOp_mono (fun a' w' hq => ?_) h4
      cases fuel with
      | zero => exact ⟨hnil, hq⟩
      | succ f => exact ⟨fun _ => hq, by rw [hnil]; simp⟩
    · refine wpOp_mono (fun a' w' hk => ih _ _ _ (inv.set hi (by omega)) hk.2) (wpOp_end (hsame i hin) (hg i) h2)

/-- All the last one asks, as one test. -/
def lastB (ops : Array Oper) (n : Nat) : Bool :=
  Region.sinkB .any ops n && ((List.range ops.size).all fun j => match ops[j]? with
    | some o => o.guard.isNone && o.after.all fun e => decide (e.on < j)
    | none => true)
/-- The region with its last operation struck. -/
def struck (ops : Array Oper) (n : Nat) : Array Oper := match ops[n]? with
  | some o => ops.setIfInBounds n { o with op := .move (.const (.bool false)), dst := none }
  | none => ops

theorem wp_region_last {id : Nat} {a : Act} {w : World} (n : Nat) (hm : P.follows .mixedOrders = true) (hn : ops.size = n + 1) (hB : lastB ops n = true)
    (h : wpAnyH P .any (struck ops n) (endQ P ops Q n) S (n + 1) (Array.replicate (n + 1) false) a w.drew) : (Code.region id ops true).wp P Q a w := by
  unfold lastB at hB
  simp only [Bool.and_eq_true] at hB
  obtain ⟨hsink, hall⟩ := hB
  have hall : ∀ (j : Nat) (o : Oper), ops[j]? = some o → o.guard = none ∧ ∀ e ∈ o.after, e.on < j := by
    intro j o ho
    have hj : j < ops.size := (Array.getElem?_eq_some_iff.1 ho).1
    have h1 := List.all_eq_true.1 hall j (List.mem_range.2 hj)
    rw [ho] at h1
    simp only [Bool.and_eq_true, Option.isNone_iff_eq_none] at h1
    exact ⟨h1.1, fun e he => by have := Array.all_eq_true'.1 h1.2 e he; simpa using this⟩
  obtain ⟨o, ho⟩ : ∃ o, ops[n]? = some o := ⟨ops[n], by simp [hn]⟩
  have hst : struck ops n = ops.setIfInBounds n { o with op := .move (.const (.bool false)), dst := none } := by unfold struck; rw [ho]
  have hnl : n < ops.size := by omega
  refine wp_region_any hm ?_
  rw [hn]
  refine wpAny_of_last (ops' := struck ops n) (S := S) (n := n) hn (by rw [hst]; simp) (fun i => ?_) (fun i hi => ?_) (fun i o ho => (hall i o ho).1) hsink (fun j o ho e he _ => (hall j o ho).2 e he) (fun K a w hk => ?_) (n + 1) _ a _ ⟨by simp [hn], (fun j oj hj hl => absurd ((getD_replicate_false (n + 1) j).symm.trans hl) (by decide)), (fun t ht ht' => by simp [show t < n + 1 by omega])⟩ h
  · rw [hst]
    by_cases hin : i = n
    · subst hin
      rw [ho, Array.getElem?_setIfInBounds_self_of_lt hnl]
      rfl
    · rw [Array.getElem?_setIfInBounds_ne (by omega)]
  · rw [hst, Array.getElem?_setIfInBounds_ne (by omega)]
  · unfold wpOp at hk
    rw [hst] at hk
    have hg := (hall n o ho).1
    rw [Array.getElem?_setIfInBounds_self_of_lt hnl] at hk
    simp only [Region.wanted, hg, if_true] at hk
    rcases hk with hk | ⟨hk, -⟩
    · exact hk
    · exact absurd hk.1 (by show ¬ (noRoomEvent ∈ (#[] : Array _)); simp)
end
end Go.Proofs.Ytpjahdiddgdahaa
