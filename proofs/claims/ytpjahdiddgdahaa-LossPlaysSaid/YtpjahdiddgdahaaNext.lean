/- When the next one will be lost: what that number is. No program in sight. -/
import Derived.Test.YtpjahdiddgdahaaFind
namespace Go.Proofs.Ytpjahdiddgdahaa
set_option linter.unusedVariables false

abbrev Rise (ps : List Pk) : Prop := ps.Pairwise (fun p q => p.n < q.n)

theorem nextL_stop (ak wait : Int) (ps : List Pk) (wt : Bool) (la : Int) (h : ∀ p ∈ ps, ak < p.n) : nextL ak wait ps wt la = (wt, la) := by
  cases ps with
  | nil => rfl
  | cons p r => simp [nextL, h p (by simp)]

theorem nextL_go (ak wait : Int) (ps : List Pk) : ∀ (la : Int), Rise ps → ∃ la', nextL ak wait ps true la = (true, la') ∧ la' ≤ la ∧ (∀ p ∈ ps, p.n ≤ ak → la' ≤ p.a + wait) ∧ (la' = la ∨ ∃ p ∈ ps, p.n ≤ ak ∧ p.a + wait = la') := by
  induction ps with
  | nil => intro la _; exact ⟨la, rfl, Int.le_refl _, by simp, .inl rfl⟩
  | cons p r ih =>
    intro la hs
    obtain ⟨h1, h2⟩ := List.pairwise_cons.1 hs
    by_cases hp : ak < p.n
    · refine ⟨la, by simp [nextL, hp], Int.le_refl _, fun q hq hqn => ?_, .inl rfl⟩
      rcases List.mem_cons.1 hq with rfl | h
      · omega
      · have := h1 q h; omega
    · by_cases hl : p.a + wait < la
      · obtain ⟨la', e, l1, l2, l3⟩ := ih (p.a + wait) h2
        refine ⟨la', by simp [nextL, hp, hl, e], by omega, fun q hq hqn => ?_, .inr ?_⟩
        · rcases List.mem_cons.1 hq with rfl | h
          · exact l1
          · exact l2 q h hqn
        · rcases l3 with h | ⟨q, hq, h3, h4⟩
          · exact ⟨p, by simp, by omega, h.symm⟩
          · exact ⟨q, by simp [hq], h3, h4⟩
      · obtain ⟨la', e, l1, l2, l3⟩ := ih la h2
        refine ⟨la', by simp [nextL, hp, hl, e], l1, fun q hq hqn => ?_, ?_⟩
        · rcases List.mem_cons.1 hq with rfl | h
          · omega
          · exact l2 q h hqn
        · rcases l3 with h | ⟨q, hq, h3, h4⟩
          · exact .inl h
          · exact .inr ⟨q, by simp [hq], h3, h4⟩

theorem nextL_start (ak wait : Int) (ps : List Pk) (hs : Rise ps) :
    (∃ la', nextL ak wait ps false 0 = (true, la') ∧ (∀ p ∈ ps, p.n ≤ ak → la' ≤ p.a + wait) ∧ ∃ p ∈ ps, p.n ≤ ak ∧ p.a + wait = la') ∨ (nextL ak wait ps false 0 = (false, 0) ∧ ∀ p ∈ ps, ak < p.n) := by
  cases ps with
  | nil => exact .inr ⟨rfl, by simp⟩
  | cons p r =>
    obtain ⟨h1, h2⟩ := List.pairwise_cons.1 hs
    by_cases hp : ak < p.n
    · refine .inr ⟨by simp [nextL, hp], fun q hq => ?_⟩
      rcases List.mem_cons.1 hq with rfl | h
      · exact hp
      · have := h1 q h; omega
    · obtain ⟨la', e, l1, l2, l3⟩ := nextL_go ak wait r (p.a + wait) h2
      refine .inl ⟨la', by simp [nextL, hp, e], fun q hq hqn => ?_, ?_⟩
      · rcases List.mem_cons.1 hq with rfl | h
        · exact l1
        · exact l2 q h hqn
      · rcases l3 with h | ⟨q, hq, h3, h4⟩
        · exact ⟨p, by simp, by omega, h.symm⟩
        · exact ⟨q, by simp [hq], h3, h4⟩

theorem isLost_true {ak now wait : Int} {p : Pk} (h : isLost ak now wait p = true) : p.n ≤ ak ∧ (3 ≤ ak - p.n ∨ p.a + wait ≤ now) := by
  simp [isLost] at h
  refine ⟨h.1, ?_⟩
  rcases h.2 with h2 | ⟨h2, h3⟩
  · exact .inl h2
  · exact .inr (by omega)
theorem isLost_false {ak now wait : Int} {p : Pk} (hw : 0 ≤ wait) (h : isLost ak now wait p = false) (hn : p.n ≤ ak) : ak - p.n < 3 ∧ now < p.a + wait := by
  simp [isLost] at h
  have h2 := h hn
  refine ⟨h2.1, ?_⟩
  by_cases h3 : p.a ≤ now
  · have := h2.2 h3; omega
  · omega
theorem isLost_of {ak now wait : Int} {p : Pk} (hw : 0 ≤ wait) (hn : p.n ≤ ak) (h : p.a + wait ≤ now) : isLost ak now wait p = true := by
  simp [isLost]
  exact ⟨hn, .inr ⟨by omega, by omega⟩⟩

/-- Behind a Find at 'now': what is known of the time that it tells. -/
theorem next_law (ak wait now la : Int) (ps ks : List Pk) (hw : 0 ≤ wait) (hs : Rise ps) (hks : ks = ps.filter (fun p => !isLost ak now wait p)) (h : nextL ak wait ks false 0 = (true, la)) :
    now < la ∧ ks.filter (isLost ak (la - 1) wait) = [] ∧ ks.filter (fun p => !isLost ak (la - 1) wait p) = ks ∧ ks.filter (isLost ak la wait) ≠ [] ∧ ∃ p ∈ ks, p.n ≤ ak ∧ p.a + wait = la := by
  have hr : Rise ks := by rw [hks]; exact hs.filter _
  have hkept : ∀ p ∈ ks, isLost ak now wait p = false := fun p hp => by
    rw [hks] at hp
    simpa using (List.mem_filter.1 hp).2
  rcases nextL_start ak wait ks hr with ⟨la', e, l1, p, hp, h3, h4⟩ | ⟨e, -⟩
  · rw [h] at e
    simp at e
    subst e
    have hno : ∀ q ∈ ks, isLost ak (la - 1) wait q = false := by
      intro q hq
      by_cases hb : isLost ak (la - 1) wait q = true
      · obtain ⟨h5, h6⟩ := isLost_true hb
        have h7 := isLost_false hw (hkept q hq) h5
        have h8 := l1 q hq h5
        omega
      · simpa using hb
    refine ⟨?_, ?_, ?_, ?_, p, hp, h3, h4⟩
    · have := (isLost_false hw (hkept p hp) h3).2; omega
    · rw [List.filter_eq_nil_iff]
      intro q hq
      simp [hno q hq]
    · rw [List.filter_eq_self]
      intro q hq
      simp [hno q hq]
    · intro h9
      rw [List.filter_eq_nil_iff] at h9
      exact h9 p hp (isLost_of hw h3 (by omega))
  · rw [h] at e; simp at e
end Go.Proofs.Ytpjahdiddgdahaa
