/- A set of numbers, kept as a map from numbers to bools that the call made: what is asked for the first time isn't there. -/
import Derived.Test.YtpjahdiddgdahaaBase
import Derived.Maps.Own
import Derived.ChangeMaps5
namespace Go.Proofs.Ytpjahdiddgdahaa
open Go.RowKit Go.ChangeShapes Go.WideShapes Go.MapKept
open Go.ChangeMaps (setBlock heap_setBlock_same heap_setBlock_other)
set_option linter.unusedVariables false

/-- Block b is such a map; the numbers in it are all of T. -/
def Seen (w : World) (b : Nat) (T : Int → Prop) : Prop :=
  ∃ es clock, w.heap[b]? = some (.map es clock) ∧ ∀ e ∈ es.toList, ∃ n : Int, e.key = .int .u64 n ∧ (0 ≤ n ∧ n ≤ 18446744073709551615) ∧ T n

theorem Seen.made (w : World) (T : Int → Prop) : Seen (w.alloc (.map #[] 0)) w.heap.size T :=
  ⟨#[], 0, by show (Array.push _ _)[Array.size _]? = _; exact Array.getElem?_push_size, by simp⟩
theorem Seen.lt {w : World} {b : Nat} {T : Int → Prop} (h : Seen w b T) : b < w.heap.size := by
  obtain ⟨es, c, hb, -⟩ := h
  exact (Array.getElem?_eq_some_iff.1 hb).1
theorem Seen.keep {w w' : World} {b : Nat} {T : Int → Prop} (h : Seen w b T) (hk : w'.heap[b]? = w.heap[b]?) : Seen w' b T := by
  obtain ⟨es, c, hb, hx⟩ := h
  exact ⟨es, c, by rw [hk]; exact hb, hx⟩
theorem Seen.below {w w' : World} {b : Nat} {T : Int → Prop} (h : Seen w b T) (hb : Below w.heap.size w w') : Seen w' b T := h.keep (hb.block b h.lt)
theorem Seen.kp {w w' : World} {b L : Nat} {T : Int → Prop} (h : Seen w b T) (hk : Kp w w' (fun k => k = L)) (hL : L < b) : Seen w' b T := h.keep (hk.block b h.lt (by omega))
theorem Seen.mono {w : World} {b : Nat} {T U : Int → Prop} (h : Seen w b T) (hTU : ∀ n, T n → U n) : Seen w b U := by
  obtain ⟨es, c, hb, hx⟩ := h
  exact ⟨es, c, hb, fun e he => by obtain ⟨n, h1, h2, h3⟩ := hx e he; exact ⟨n, h1, h2, hTU n h3⟩⟩

theorem keyed27 : Maps.Keyed Try.prog 27 := Maps.int_keyed Try.underlying27
theorem key27 {n : Int} (h : 0 ≤ n ∧ n ≤ 18446744073709551615) : keyOf Try.prog 27 (.int .u64 n) = some (.int .u64 n) :=
  Maps.keyOf_int_mk Try.underlying27 (WalkArith.wf_u64 (by omega))

theorem Seen.find {w : World} {es : Array MapEntry} {T : Int → Prop} (hx : ∀ e ∈ es.toList, ∃ n : Int, e.key = .int .u64 n ∧ (0 ≤ n ∧ n ≤ 18446744073709551615) ∧ T n) {n : Int} (hn : 0 ≤ n ∧ n ≤ 18446744073709551615) (hT : ¬ T n) :
    (Instr.findKey 27 (.int .u64 n) es.toList).run Try.prog w = .ok none w := by
  rcases keyed27.find w (key27 hn) es.toList (fun e he => by obtain ⟨m, h1, h2, -⟩ := hx e he; exact ⟨.int .u64 m, by rw [h1]; exact key27 h2⟩) with ⟨h1, -⟩ | ⟨j, e, -, h2, h3⟩
  · exact h1
  · obtain ⟨m, h4, h5, h6⟩ := hx e (List.mem_of_getElem? h2)
    rw [h3] at h4
    injection h4 with _ h7
    subst h7
    exact absurd h6 hT

theorem Seen.look {w : World} {b : Nat} {T : Int → Prop} (h : Seen w b T) {n : Int} (hn : 0 ≤ n ∧ n ≤ 18446744073709551615) (hT : ¬ T n) :
    (Instr.lookup 35 (.map (some b)) (.int .u64 n) false).run Try.prog w = .ok (.bool false) w := by
  obtain ⟨es, c, hb, hx⟩ := h
  simp [Instr.lookup, run_underlying Try.underlying35, MapKept.run_getObj_map hb, keyed27.check w _ (key27 hn), Seen.find hx hn hT, Result.andThen]

theorem Seen.put {w : World} {b : Nat} {T : Int → Prop} (h : Seen w b T) {n : Int} (hn : 0 ≤ n ∧ n ≤ 18446744073709551615) (hT : ¬ T n) :
    ∃ w', (Instr.mapUpdate 35 (.map (some b)) (.int .u64 n) (.bool true)).run Try.prog w = .ok () w' ∧ Seen w' b (fun m => T m ∨ m = n) ∧ Kp w w' (fun k => k = b) := by
  obtain ⟨es, c, hb, hx⟩ := h
  refine ⟨setBlock w b (.map (es.push ⟨.int .u64 n, .bool true, c⟩) (c + 1)), ?_, ⟨_, _, heap_setBlock_same hb _, ?_⟩, ⟨rfl, rfl, rfl, by simp [setBlock], fun k _ hk => heap_setBlock_other hb _ hk⟩⟩
  · simp [Instr.mapUpdate, run_underlying Try.underlying35, MapKept.run_getObj_map hb, keyed27.check w false (key27 hn), Seen.find hx hn hT, MapKept.run_setObj_map _ hb, Result.andThen, setBlock]
  · intro e he
    simp only [Array.toList_push, List.mem_append, List.mem_singleton] at he
    rcases he with he | rfl
    · obtain ⟨m, h1, h2, h3⟩ := hx e he
      exact ⟨m, h1, h2, .inl h3⟩
    · exact ⟨n, rfl, hn, .inr rfl⟩
end Go.Proofs.Ytpjahdiddgdahaa
