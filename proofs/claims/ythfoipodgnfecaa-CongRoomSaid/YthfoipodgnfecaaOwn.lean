/- A slice of numbers that the law itself makes, appends to and cuts at its head: what is known of it, and what an append and a cut do to it. -/
import Derived.Test.YthfoipodgnfecaaCalls
import Derived.ArgAppend
import Derived.Lib.Hide
namespace Go.Proofs.Ythfoipodgnfecaa
open Go.RowKit

def nums (xs : List Int) : List Value := xs.map (Value.int .u64)

/-- The slice v holds the numbers xs: it is empty without room; or it leads into a block from 'base' on. -/
def Own (w : World) (base : Nat) (v : Value) (xs : List Int) : Prop :=
  (∃ a : Option Addr, v = .slice a 0 0 ∧ xs = []) ∨
  ∃ g o cap cur, v = .slice (some ⟨g, o, none⟩) xs.length cap ∧ base ≤ g ∧ w.heap[g]? = some (.cells cur 24 (0, 0)) ∧ xs.length ≤ cap ∧ cap ≤ maxLen ∧ o + cap ≤ cur.size ∧ ∀ j u, (nums xs)[j]? = some u → cur[o + j]? = some u

theorem Own.nil (w : World) (base : Nat) : Own w base (.slice none 0 0) [] := .inl ⟨none, rfl, rfl⟩

theorem Own.keep {w w' : World} {base : Nat} {v : Value} {xs : List Int} (h : Own w base v xs) (hk : ∀ g, base ≤ g → g < w.heap.size → w'.heap[g]? = w.heap[g]?) : Own w' base v xs := by
  rcases h with h | ⟨g, o, cap, cur, hv, hb, hg, r⟩
  · exact .inl h
  · exact .inr ⟨g, o, cap, cur, hv, hb, by rw [hk g hb (Array.getElem?_eq_some_iff.1 hg).1]; exact hg, r⟩

theorem Own.below {w w' : World} {base : Nat} {v : Value} {xs : List Int} (h : Own w base v xs) (hb : Below w.heap.size w w') : Own w' base v xs :=
  h.keep fun g _ hg => hb.block g hg

theorem Own.set5 {w : World} {base B : Nat} {v : Value} {xs : List Int} (h : Own w base v xs) (hB : B < base) (x0 x1 x2 x3 x4 : Value) :
    Own (((((w.setCell ⟨B, 0, none⟩ x0).setCell ⟨B, 1, none⟩ x1).setCell ⟨B, 2, none⟩ x2).setCell ⟨B, 3, none⟩ x3).setCell ⟨B, 4, none⟩ x4) base v xs :=
  h.keep fun g hb hg => by
    have hne : g ≠ B := by omega
    rw [Below.heap_setCell _ _ _ _ hne, Below.heap_setCell _ _ _ _ hne, Below.heap_setCell _ _ _ _ hne, Below.heap_setCell _ _ _ _ hne, Below.heap_setCell _ _ _ _ hne]

theorem Own.cell {w : World} {base : Nat} {v : Value} {xs : List Int} (h : Own w base v xs) (hne : 0 < xs.length) :
    ∃ g o cap, v = .slice (some ⟨g, o, none⟩) xs.length cap ∧ base ≤ g ∧ xs.length ≤ cap ∧ cap ≤ maxLen ∧ ∀ j, j < xs.length → w.cell? ⟨g, o + j, none⟩ = some (.int .u64 (xs.getD j 0)) := by
  rcases h with ⟨a, _, rfl⟩ | ⟨g, o, cap, cur, rfl, hb, hg, h1, h2, h3, h4⟩
  · simp at hne
  · refine ⟨g, o, cap, rfl, hb, h1, h2, fun j hj => ?_⟩
    rw [cell_of_row w g (o + j) cur 24 (0, 0) hg]
    refine h4 j _ ?_
    simp [nums, List.getElem?_eq_getElem hj]

theorem info24 : (Try.prog.info? 24).map (fun i => (i.zero, i.size, i.bytes)) = some (some (.int .u64 0), 1, 8) := by kernel_rfl

/-- The head cut off, the one that was left being it: some slice without numbers. -/
theorem Own.cut {w : World} {base : Nat} {v : Value} {x : Int} (h : Own w base v [x]) :
    ∃ v', (∀ wx : World, (Instr.slice 36 v (some (.int .i64 1)) none none).run Try.prog wx = .ok v' wx) ∧ ∀ w' : World, (∀ g, base ≤ g → g < w.heap.size → w'.heap[g]? = w.heap[g]?) → Own w' base v' [] := by
  rcases h with ⟨a, _, h⟩ | ⟨g, o, cap, cur, rfl, hb, hg, h1, h2, h3, h4⟩
  · simp at h
  · simp only [List.length_cons, List.length_nil, Nat.zero_add] at *
    obtain ⟨i, hi, hz0, hz1, hz2⟩ := info_parts info24
    by_cases hc : cap = 1
    · subst hc
      refine ⟨.slice (some ⟨g, o, none⟩) 0 0, fun wx => ?_, fun w' _ => .inl ⟨_, rfl, rfl⟩⟩
      simp [Instr.slice, run_underlying Try.underlying36, Instr.sliceBounds, Instr.sliceBound, asIntOf, sizeOf, typeInfo, hi]
    · refine ⟨.slice (some ⟨g, o + 1, none⟩) 0 (cap - 1), fun wx => ?_, fun w' hk => .inr ⟨g, o + 1, cap - 1, cur, rfl, hb, ?_, Nat.zero_le _, by omega, by omega, fun j u hj => by simp [nums] at hj⟩⟩
      · simp [Instr.slice, run_underlying Try.underlying36, Instr.sliceBounds, Instr.sliceBound, asIntOf, sizeOf, typeInfo, hi, hc, hz1, Addr.add]
      · rw [hk g hb (Array.getElem?_eq_some_iff.1 hg).1]; exact hg

theorem size_setCells (b : Nat) : ∀ (vs : List Value) (o : Nat) (w : World), (w.setCells b o vs).heap.size = w.heap.size
  | [], _, _ => rfl
  | v :: r, o, w => by rw [World.setCells, size_setCells b r]; simp [World.setCell]

/-- One number more. -/
theorem wpList_append_mine {w : World} {ops : Array Oper} {rest : List Oper} {o : Oper} {a : Act} {Q : Exit → Act → World → Prop}
    (hg : o.guard = none) (s x : Operand) (hop : o.op = Op.call { callee := Callee.builtin Builtin.append, args := #[s, x], argTypes := #[36, 36] })
    (base : Nat) (v : Value) (xs : List Int) (hs : a.eval s = v) (hown : Own w base v xs) (ad : Addr) (c : Nat) (n : Int) (hx : a.eval x = .slice (some ad) 1 c) (hc : w.cell? ad = some (.int .u64 n))
    (hlen : xs.length ≤ 1000) (hbase : base ≤ w.heap.size)
    (h : ∀ v' w', Own w' base v' (xs ++ [n]) → Below base w w' → wpList Try.prog ops Q rest (a.put o.dst v') w') : wpList Try.prog ops Q (o :: rest) a w := by
  obtain ⟨i, hi, hz0, hz1, hz2⟩ := info_parts info24
  have hnew : ∀ j u, [Value.int .u64 n][j]? = some u → w.cell? (ad.add j) = some u := by
    intro j u hj
    match j with
    | 0 => simp at hj; subst hj; simpa [Addr.add] using hc
    | j + 1 => simp at hj
  have grown : ∀ (v' : Value) (w' : World), w'.ownsRow w.heap.size 24 1 v' (xs.length + 1) (nums xs ++ [.int .u64 n]) → w.grownBy w' none → wpList Try.prog ops Q rest (a.put o.dst v') w' := by
    intro v' w' ho hgr
    refine h v' w' ?_ ⟨hgr.os, hgr.tape, hgr.output, hgr.size, fun k hk => hgr.block k (by omega) (by simp)⟩
    rcases ho.2 with ⟨_, h0⟩ | ⟨g, cap, cur, hv, hb, hh, h1, h2, h3, h4⟩
    · omega
    · refine .inr ⟨g, 0, cap, cur, by simpa using hv, by omega, hh, by simpa using h1, h2, by omega, fun j u hj => ?_⟩
      rw [show nums (xs ++ [n]) = nums xs ++ [.int .u64 n] from by simp [nums], ← h4, List.getElem?_take] at hj
      split at hj
      · simpa using hj
      · cases hj
  rcases hown with ⟨ao, rfl, rfl⟩ | ⟨g, of, cap, cur, rfl, hb, hh, h1, h2, h3, h4⟩
  · exact wpList_append_grows w hg s x 36 hop 24 i (.int .u64 0) 1 8 Try.underlying36 hi hz0 hz1 hz2 rfl (by decide) ao 0 0 [] hs (fun _ => ⟨rfl, rfl⟩) rfl (fun b _ j u hj => by simp at hj)
      ad 1 c [.int .u64 n] hx rfl hnew (by simp [Value.oneCell']) (by decide) (by unfold maxLen; omega) (by omega) (fun v' w' ho hgr => grown v' w' (by simpa [nums] using ho) hgr)
  · have hcell : ∀ j, j < cap → w.cell? ⟨g, of + j, none⟩ = cur[of + j]? := fun j _ => cell_of_row w g (of + j) cur 24 (0, 0) hh
    refine wpList_append_arg w hg s x 36 hop 24 i (.int .u64 0) 1 8 Try.underlying36 hi hz0 hz1 hz2 rfl (by decide) g of xs.length cap (nums xs) hs (by simp [nums]) (fun j u hj => ?_)
      ad 1 c [.int .u64 n] hx rfl hnew (by simp [Value.oneCell']) (fun hr j hj => ?_) (by unfold maxLen; omega) (by omega) (fun hr => ?_) (fun _ v' w' ho hgr => grown v' w' ho hgr)
    · have hjl : j < xs.length := by have := (List.getElem?_eq_some_iff.1 hj).1; simpa [nums] using this
      rw [hcell j (by omega)]; exact h4 j u hj
    · simp at hj
      subst hj
      refine ⟨?_, ?_⟩
      · rw [Nat.mul_one, Nat.add_zero, hcell _ (by omega)]
        rw [Array.getElem?_eq_getElem (by omega)]; rfl
      · simp [World.frozen?, hh]
    · refine h _ _ (.inr ⟨g, of, cap, cur.setIfInBounds (of + xs.length) (.int .u64 n), by simp, hb, ?_, by simpa using hr, h2, by simpa using h3, fun j u hj => ?_⟩) ?_
      · simp [World.setCells, World.setCell, Array.getElem?_modify, hh]
      · rw [show nums (xs ++ [n]) = nums xs ++ [.int .u64 n] from by simp [nums]] at hj
        rw [Array.getElem?_setIfInBounds]
        by_cases hjx : j < xs.length
        · rw [if_neg (by omega)]
          rw [List.getElem?_append_left (by simpa [nums] using hjx)] at hj
          exact h4 j u hj
        · rw [List.getElem?_append_right (by simp [nums]; omega)] at hj
          have hj0 : j = xs.length := by
            have := (List.getElem?_eq_some_iff.1 hj).1
            simp [nums] at this
            omega
          subst hj0
          simp [nums] at hj
          rw [if_pos rfl, if_pos (by omega), hj]
      · exact ⟨rfl, rfl, rfl, by rw [size_setCells]; exact Nat.le_refl _, fun k hk => by
          show (w.setCell ⟨g, of + xs.length * 1, none⟩ (.int .u64 n)).heap[k]? = _
          exact Below.heap_setCell _ _ _ _ (by show k ≠ g; omega)⟩
end Go.Proofs.Ythfoipodgnfecaa
