/- Packets, rows of packets, a ledger: what is known of them in memory, and what leaves them as they are. -/
import Derived.Test.YtpjahdiddgdahaaRows
import Derived.WalkKit
import Derived.WalkSpells
import Derived.WalkLawsBesides
import Derived.Lib.MinMax
import Derived.Lib.Hide
import Derived.Maps.AppendAt
import Derived.Deep.AppendLies
namespace Go.Proofs.Ytpjahdiddgdahaa
open Go.RowKit
set_option linter.unusedVariables false

/-- A packet: its number, when it was sent, its size, whether it wants an answer, whether it is on its way. -/
structure Pk where
  n : Int
  a : Int
  s : Int
  e : Bool
  f : Bool

def Pk.cells (p : Pk) : List Value := [.int .u64 p.n, .int .u64 p.a, .int .u64 p.s, .bool p.e, .bool p.f]
def pcs : List Pk → List Value
  | [] => []
  | p :: r => p.cells ++ pcs r
abbrev pv (p : Pk) : Value := .agg #[.int .u64 p.n, .int .u64 p.a, .int .u64 p.s, .bool p.e, .bool p.f]

theorem pcs_length (ps : List Pk) : (pcs ps).length = ps.length * 5 := by
  induction ps with
  | nil => rfl
  | cons p r ih => simp [pcs, Pk.cells, ih]; omega
theorem pcs_append (xs ys : List Pk) : pcs (xs ++ ys) = pcs xs ++ pcs ys := by
  induction xs with
  | nil => rfl
  | cons p r ih => simp [pcs, ih]
theorem pcs_at (ps : List Pk) : ∀ (j : Nat) (p : Pk), ps[j]? = some p → ∀ i, i < 5 → (pcs ps)[j * 5 + i]? = p.cells[i]? := by
  induction ps with
  | nil => intro j p h; simp at h
  | cons q r ih =>
    intro j p h i hi
    cases j with
    | zero =>
      simp at h
      subst h
      simp only [pcs]
      rw [List.getElem?_append_left (by simp [Pk.cells]; omega)]
      simp
    | succ j =>
      simp at h
      simp only [pcs]
      rw [List.getElem?_append_right (by simp [Pk.cells]; omega), ← ih j p h i hi]
      congr 1
      simp [Pk.cells]
      omega

/-- The slice v holds the packets ps, in a row of the call's own, from block 'base' on. -/
def Rw (w : World) (base : Nat) (v : Value) (ps : List Pk) : Prop := w.ownsRow base 31 5 v ps.length (pcs ps)

theorem Rw.nil (w : World) (base : Nat) : Rw w base (.slice none 0 0) [] := World.ownsRow_nil w base 31 5

theorem Rw.keep {w w' : World} {base : Nat} {v : Value} {ps : List Pk} (h : Rw w base v ps) (hk : ∀ g, v.ownBlock = some g → w'.heap[g]? = w.heap[g]?) : Rw w' base v ps := by
  unfold Rw at *
  refine ⟨h.1, ?_⟩
  rcases h.2 with hn | ⟨g, cap, cur, rfl, hb, hg, r⟩
  · exact .inl hn
  · exact .inr ⟨g, cap, cur, rfl, hb, by rw [hk g rfl]; exact hg, r⟩
theorem Rw.lt {w : World} {base : Nat} {v : Value} {ps : List Pk} (h : Rw w base v ps) : ∀ g, v.ownBlock = some g → base ≤ g ∧ g < w.heap.size := World.ownsRow.lt h
theorem Rw.below {w w' : World} {base : Nat} {v : Value} {ps : List Pk} (h : Rw w base v ps) (hb : Below w.heap.size w w') : Rw w' base v ps :=
  h.keep fun g hg => hb.block g (h.lt g hg).2

/-- How it lies: its length, and cell by cell. -/
theorem Rw.shape {w : World} {base : Nat} {v : Value} {ps : List Pk} (h : Rw w base v ps) :
    ∃ (a : Option Addr) (cap : Nat), v = .slice a ps.length cap ∧ ∀ j p, ps[j]? = some p → ∃ g, a = some ⟨g, 0, none⟩ ∧ base ≤ g ∧ g < w.heap.size ∧ v.ownBlock = some g ∧
      w.cell? ⟨g, j * 5, none⟩ = some (.int .u64 p.n) ∧ w.cell? ⟨g, j * 5 + 1, none⟩ = some (.int .u64 p.a) ∧ w.cell? ⟨g, j * 5 + 2, none⟩ = some (.int .u64 p.s) ∧ w.cell? ⟨g, j * 5 + 3, none⟩ = some (.bool p.e) ∧ w.cell? ⟨g, j * 5 + 4, none⟩ = some (.bool p.f) := by
  rcases h.2 with ⟨rfl, hn⟩ | ⟨g, cap, cur, rfl, hb, hg, hnc, hcm, hcs, htake⟩
  · refine ⟨none, 0, by rw [hn], fun j p hj => ?_⟩
    have hl := (List.getElem?_eq_some_iff.1 hj).1
    omega
  · refine ⟨_, cap, rfl, fun j p hj => ⟨g, rfl, hb, (Array.getElem?_eq_some_iff.1 hg).1, rfl, ?_⟩⟩
    have hall := World.ownsRow.cells h (g := g) rfl
    have hadd : ∀ i, (Addr.add ⟨g, 0, none⟩ i) = ⟨g, i, none⟩ := fun i => by unfold Addr.add; split <;> simp_all
    have hc : ∀ i u, i < 5 → p.cells[i]? = some u → w.cell? ⟨g, j * 5 + i, none⟩ = some u := fun i u hi hu => by
      rw [← hadd]; exact hall _ _ (by rw [pcs_at ps j p hj i hi]; exact hu)
    exact ⟨hc 0 _ (by omega) rfl, hc 1 _ (by omega) rfl, hc 2 _ (by omega) rfl, hc 3 _ (by omega) rfl, hc 4 _ (by omega) rfl⟩

/-- But for the blocks of S, what was there is as it was. -/
structure Kp (w w' : World) (S : Nat → Prop) : Prop where
  os : w'.os = w.os
  tape : w'.tape = w.tape
  output : w'.output = w.output
  size : w.heap.size ≤ w'.heap.size
  block : ∀ k, k < w.heap.size → ¬ S k → w'.heap[k]? = w.heap[k]?
theorem Kp.of_below {w w' : World} (S : Nat → Prop) (h : Below w.heap.size w w') : Kp w w' S := ⟨h.os, h.tape, h.output, h.size, fun k hk _ => h.block k hk⟩
theorem Kp.to_below {w w' : World} {S : Nat → Prop} {B : Nat} (h : Kp w w' S) (hB : B ≤ w.heap.size) (hS : ∀ k, k < B → ¬ S k) : Below B w w' := ⟨h.os, h.tape, h.output, h.size, fun k hk => h.block k (by omega) (hS k hk)⟩
theorem Kp.trans {a b c : World} {S T : Nat → Prop} (h : Kp a b S) (k : Kp b c T) (hT : ∀ i, i < a.heap.size → T i → S i) : Kp a c S :=
  ⟨k.os.trans h.os, k.tape.trans h.tape, k.output.trans h.output, Nat.le_trans h.size k.size, fun i hi hs => (k.block i (Nat.lt_of_lt_of_le hi h.size) (fun ht => hs (hT i hi ht))).trans (h.block i hi hs)⟩
theorem Kp.mono {w w' : World} {S T : Nat → Prop} (h : Kp w w' S) (hT : ∀ i, S i → T i) : Kp w w' T := ⟨h.os, h.tape, h.output, h.size, fun k hk ht => h.block k hk (fun hs => ht (hT k hs))⟩

/-- The blocks of a ledger. -/
def Blk (L : Nat) (v : Value) (k : Nat) : Prop := k = L ∨ v.ownBlock = some k

/-- The ledger in block L: its packets (the slice v), whether any came, the greatest, whether one waits to be lost, when, when the last one was sent. -/
def Led (w : World) (L : Nat) (v : Value) (ps : List Pk) (so : Bool) (ak : Int) (wt : Bool) (la ls : Int) : Prop :=
  w.heap[L]? = some (.cells #[v, .bool so, .int .u64 ak, .bool wt, .int .u64 la, .int .u64 ls] 59 (0, 0)) ∧ Rw w (L + 1) v ps

theorem Led.lt {w : World} {L : Nat} {v : Value} {ps : List Pk} {so wt : Bool} {ak la ls : Int} (h : Led w L v ps so ak wt la ls) : L < w.heap.size := (Array.getElem?_eq_some_iff.1 h.1).1
theorem Led.keep {w w' : World} {L : Nat} {v : Value} {ps : List Pk} {so wt : Bool} {ak la ls : Int} (h : Led w L v ps so ak wt la ls) (hk : ∀ k, k < w.heap.size → Blk L v k → w'.heap[k]? = w.heap[k]?) : Led w' L v ps so ak wt la ls :=
  ⟨by rw [hk L h.lt (.inl rfl)]; exact h.1, h.2.keep fun g hg => hk g (h.2.lt g hg).2 (.inr hg)⟩
theorem Led.below {w w' : World} {L : Nat} {v : Value} {ps : List Pk} {so wt : Bool} {ak la ls : Int} (h : Led w L v ps so ak wt la ls) (hb : Below w.heap.size w w') : Led w' L v ps so ak wt la ls :=
  h.keep fun k hk _ => hb.block k hk
theorem Led.cells {w : World} {L : Nat} {v : Value} {ps : List Pk} {so wt : Bool} {ak la ls : Int} (h : Led w L v ps so ak wt la ls) :
    w.cell? ⟨L, 0, none⟩ = some v ∧ w.cell? ⟨L, 1, none⟩ = some (.bool so) ∧ w.cell? ⟨L, 2, none⟩ = some (.int .u64 ak) ∧ w.cell? ⟨L, 3, none⟩ = some (.bool wt) ∧ w.cell? ⟨L, 4, none⟩ = some (.int .u64 la) ∧ w.cell? ⟨L, 5, none⟩ = some (.int .u64 ls) ∧
    w.frozen? ⟨L, 0, none⟩ = false ∧ w.frozen? ⟨L, 1, none⟩ = false ∧ w.frozen? ⟨L, 2, none⟩ = false ∧ w.frozen? ⟨L, 3, none⟩ = false ∧ w.frozen? ⟨L, 4, none⟩ = false ∧ w.frozen? ⟨L, 5, none⟩ = false := by
  have h1 := h.1
  simp [World.cell?, World.frozen?, h1]

theorem Led.set_last {w : World} {L : Nat} {v : Value} {ps : List Pk} {so wt : Bool} {ak la ls : Int} (h : Led w L v ps so ak wt la ls) (x : Int) : Led (w.setCell ⟨L, 5, none⟩ (.int .u64 x)) L v ps so ak wt la x := by
  refine ⟨by simp [World.setCell, Array.getElem?_modify, h.1], h.2.keep fun g hg => ?_⟩
  have := (h.2.lt g hg).1
  exact Below.heap_setCell _ _ _ _ (by show g ≠ L; omega)
theorem Kp.set {w w' : World} {S : Nat → Prop} (h : Kp w w' S) (a : Addr) (ha : S a.block) (u : Value) : Kp w (w'.setCell a u) S :=
  ⟨h.os, h.tape, h.output, by simpa [World.setCell] using h.size, fun k hk hs => by
    have hne : k ≠ a.block := fun e => hs (by rw [e]; exact ha)
    rw [Below.heap_setCell _ _ _ _ hne]; exact h.block k hk hs⟩

/-- A packet in a block of its own. -/
def Pb (w : World) (B : Nat) (p : Pk) : Prop := w.heap[B]? = some (.cells #[.int .u64 p.n, .int .u64 p.a, .int .u64 p.s, .bool p.e, .bool p.f] 31 (0, 0))
theorem Pb.new (w : World) (p : Pk) : Pb (w.alloc (.cells #[.int .u64 p.n, .int .u64 p.a, .int .u64 p.s, .bool p.e, .bool p.f] 31)) w.heap.size p := by
  show (w.heap.push _)[w.heap.size]? = _
  simp
theorem Pb.below {w w' : World} {B : Nat} {p : Pk} (h : Pb w B p) (hb : Below w.heap.size w w') : Pb w' B p := by
  unfold Pb at *
  rw [hb.block B (Array.getElem?_eq_some_iff.1 h).1]; exact h
theorem Pb.cells {w : World} {B : Nat} {p : Pk} (h : Pb w B p) :
    w.cell? ⟨B, 0, none⟩ = some (.int .u64 p.n) ∧ w.cell? ⟨B, 1, none⟩ = some (.int .u64 p.a) ∧ w.cell? ⟨B, 2, none⟩ = some (.int .u64 p.s) ∧ w.cell? ⟨B, 3, none⟩ = some (.bool p.e) ∧ w.cell? ⟨B, 4, none⟩ = some (.bool p.f) := by
  unfold Pb at h
  simp [World.cell?, h]

theorem grow {w w1 : World} (h : Below w.heap.size w w1) (o : Obj) : Below w.heap.size w (w1.alloc o) := h.alloc h.size o
theorem below_drewN {B : Nat} {a w : World} (h : Below B a w) (n : Nat) : Below B a (w.drewN n) := ⟨h.os, h.tape, h.output, h.size, h.block⟩
theorem wp_gen {P : Program} {c : Code} {Q : Exit → Act → World → Prop} {a : Act} {w : World} (R : World → Prop) (h : R w) (k : ∀ W, R W → Code.wp P c Q a W) : Code.wp P c Q a w := k w h
theorem wpl_gen {P : Program} {ops : Array Oper} {l : List Oper} {Q : Exit → Act → World → Prop} {a : Act} {w : World} (R : World → Prop) (h : R w) (k : ∀ W, R W → wpList P ops Q l a W) : wpList P ops Q l a w := k w h

theorem ex_gen {X : Exit → Act → World → Prop} {e : Exit} {a : Act} {w : World} (R : World → Prop) (h : R w) (k : ∀ W, R W → X e a W) : X e a w := k w h

theorem info31 : (Try.prog.info? 31).map (fun i => (i.zero, i.size, i.bytes)) = some (some (.agg #[.int .u64 0, .int .u64 0, .int .u64 0, .bool false, .bool false]), 5, 32) := by kernel_rfl

/-- One packet more behind a row of the call's own. -/
theorem wpList_append_pk {w : World} {ops : Array Oper} {rest : List Oper} {o : Oper} {a : Act} {Q : Exit → Act → World → Prop}
    (hg : o.guard = none) (s x : Operand) (hop : o.op = Op.call { callee := Callee.builtin Builtin.append, args := #[s, x], argTypes := #[36, 36] })
    (base : Nat) (v : Value) (ps : List Pk) (hs : a.eval s = v) (hown : Rw w base v ps) (B c : Nat) (p : Pk) (hx : a.eval x = .slice (some ⟨B, 0, none⟩) 1 c) (hc : Pb w B p)
    (hlen : ps.length ≤ 1000) (hbase : base ≤ w.heap.size)
    (h : ∀ v' w', Rw w' base v' (ps ++ [p]) → Kp w w' (fun k => v.ownBlock = some k) → (v'.ownBlock = v.ownBlock ∨ v'.ownBlock = some w.heap.size) → wpList Try.prog ops Q rest (a.put o.dst v') w') : wpList Try.prog ops Q (o :: rest) a w := by
  obtain ⟨i, hi, hz0, hz1, hz2⟩ := info_parts info31
  refine wpList_plain hg fun K hK => ?_
  have hadd : ∀ i, (Addr.add ⟨B, 0, none⟩ i) = ⟨B, i, none⟩ := fun i => by unfold Addr.add; split <;> simp_all
  obtain ⟨v', w', hr, h2, h3, _, h5⟩ := run_append_own_at (P := Try.prog) w base 36 o.type 31 i _ 5 32 Try.underlying36 hi hz0 hz1 hz2 rfl (by omega) v ps.length (pcs ps) hown ⟨B, 0, none⟩ 1 c p.cells rfl
    (fun j u hj => by
      rw [hadd]
      obtain ⟨e0, e1, e2, e3, e4⟩ := hc.cells
      match j with
      | 0 => simp [Pk.cells] at hj; subst hj; exact e0
      | 1 => simp [Pk.cells] at hj; subst hj; exact e1
      | 2 => simp [Pk.cells] at hj; subst hj; exact e2
      | 3 => simp [Pk.cells] at hj; subst hj; exact e3
      | 4 => simp [Pk.cells] at hj; subst hj; exact e4
      | j + 5 => simp [Pk.cells] at hj)
    (by simp [Pk.cells, Value.oneCell']) (by unfold maxLen; omega) (by omega) hbase
  unfold Oper.wp execOp
  simp only [hop, resolve, invoke, builtin, Sem.run_bind, Sem.run_pure, Result.andThen_ok, List.map_toArray, List.map_cons, List.map_nil, hs, hx, hr]
  refine hK _ _ (h v' w' ?_ ⟨h3.os, h3.tape, h3.output, h3.size, fun k hk hne => h3.block k hk (fun e => hne e.symm)⟩ h5)
  unfold Rw
  rw [pcs_append, List.length_append]
  simpa [pcs] using h2
/-- Behind an append onto the ledger's own row: the ledger's cells are as they were. -/
theorem Led.grown {w w' : World} {o : Obj} {L : Nat} {v : Value} {ps : List Pk} {so wt : Bool} {ak la ls : Int} (h : Led w L v ps so ak wt la ls) (hk : Kp (w.alloc o).drew w' (fun k => v.ownBlock = some k)) :
    w'.heap[L]? = some (.cells #[v, .bool so, .int .u64 ak, .bool wt, .int .u64 la, .int .u64 ls] 59 (0, 0)) ∧ w'.cell? ⟨L, 0, none⟩ = some v ∧ w'.frozen? ⟨L, 0, none⟩ = false := by
  have h1 : w'.heap[L]? = some (.cells #[v, .bool so, .int .u64 ak, .bool wt, .int .u64 la, .int .u64 ls] 59 (0, 0)) := by
    rw [hk.block L (by show L < (w.alloc o).heap.size; have := h.lt; simp; omega) (fun e => by have := (h.2.lt L e).1; omega)]
    show (w.alloc o).heap[L]? = _
    rw [Below.heap_alloc _ _ _ h.lt]; exact h.1
  exact ⟨h1, by simp [World.cell?, h1], by simp [World.frozen?, h1]⟩

/-- Behind the store of the new slice: the ledger with one packet more; all else as it was. -/
theorem Led.pushed {w w1 w' : World} {o : Obj} {L : Nat} {v v' : Value} {ps qs : List Pk} {so wt : Bool} {ak la ls : Int} {p : Pk} (hl0 : ∀ k, v.ownBlock = some k → k < w.heap.size) (hb1 : Below w.heap.size w w1) (hp1 : Pb w1 w.heap.size p)
    (h : Led w1 L v ps so ak wt la ls) (hk : Kp (w1.alloc o).drew w' (fun k => v.ownBlock = some k)) (hr : Rw w' (L + 1) v' qs) (hL : L < w.heap.size) (ho : ∀ g, v'.ownBlock = some g → v.ownBlock = some g ∨ g = w1.heap.size + 1) :
    Led (w'.setCell ⟨L, 0, none⟩ v') L v' qs so ak wt la ls ∧ Pb (w'.setCell ⟨L, 0, none⟩ v') w.heap.size p ∧ Kp w (w'.setCell ⟨L, 0, none⟩ v') (Blk L v) ∧ (v'.ownBlock = v.ownBlock ∨ ∀ k, v'.ownBlock = some k → w.heap.size ≤ k) := by
  have h0 := (h.grown hk).1
  have hpl : w.heap.size < w1.heap.size := (Array.getElem?_eq_some_iff.1 hp1).1
  have hsame : ∀ k, k < w1.heap.size → v.ownBlock ≠ some k → w'.heap[k]? = w1.heap[k]? := fun k hkl hne => by
    rw [hk.block k (by show k < (w1.alloc o).heap.size; simp; omega) hne]
    exact Below.heap_alloc _ _ _ hkl
  refine ⟨⟨by simp [World.setCell, Array.getElem?_modify, h0], hr.keep fun g hg => ?_⟩, ?_, ⟨hk.os.trans hb1.os, hk.tape.trans hb1.tape, hk.output.trans hb1.output, ?_, fun k hkl hs => ?_⟩, ?_⟩
  · have := (hr.lt g hg).1
    exact Below.heap_setCell _ _ _ _ (by show g ≠ L; omega)
  · unfold Pb
    rw [Below.heap_setCell _ _ _ _ (by show w.heap.size ≠ L; omega), hsame _ hpl (fun e => by have := hl0 _ e; omega)]
    exact hp1
  · have h1 := hk.size
    have h2 : (w1.alloc o).drew.heap.size = w1.heap.size + 1 := by show (w1.alloc o).heap.size = _; simp
    have h3 : (w'.setCell ⟨L, 0, none⟩ v').heap.size = w'.heap.size := by simp [World.setCell]
    omega
  · rw [Below.heap_setCell _ _ _ _ (by show k ≠ L; exact fun e => hs (.inl e)), hsame k (by omega) (fun e => hs (.inr e))]
    exact hb1.block k hkl
  · by_cases hv : ∃ g, v.ownBlock = some g ∧ v'.ownBlock = some g
    · obtain ⟨g, h1, h2⟩ := hv
      exact .inl (by rw [h1, h2])
    · refine .inr fun k hk' => ?_
      rcases ho k hk' with h1 | h1
      · exact absurd ⟨k, h1, hk'⟩ hv
      · omega

/-- The same at a step of a region that draws its order. -/
theorem step_append_pk {w : World} {ops : Array Oper} {o : Oper} {a : Act} {K : Act → World → Prop} {Q : Exit → Act → World → Prop} {E : Prop}
    (hg : o.guard = none) (s x : Operand) (hop : o.op = Op.call { callee := Callee.builtin Builtin.append, args := #[s, x], argTypes := #[36, 36] })
    (base : Nat) (v : Value) (ps : List Pk) (hs : a.eval s = v) (hown : Rw w base v ps) (B c : Nat) (p : Pk) (hx : a.eval x = .slice (some ⟨B, 0, none⟩) 1 c) (hc : Pb w B p)
    (hlen : ps.length ≤ 1000) (hbase : base ≤ w.heap.size)
    (h : ∀ g cap w', Rw w' base (.slice (some ⟨g, 0, none⟩) (ps.length + 1) cap) (ps ++ [p]) → Kp w w' (fun k => v.ownBlock = some k) → (v.ownBlock = some g ∨ g = w.heap.size) → K (a.put o.dst (.slice (some ⟨g, 0, none⟩) (ps.length + 1) cap)) w') :
    if Region.wanted o (yielded ops a.tmps) = true then Oper.wp Try.prog o a w K Q else E := by
  obtain ⟨i, hi, hz0, hz1, hz2⟩ := info_parts info31
  have hadd : ∀ i, (Addr.add ⟨B, 0, none⟩ i) = ⟨B, i, none⟩ := fun i => by unfold Addr.add; split <;> simp_all
  refine step_append_lies w hg s x 36 hop base 31 i _ 5 32 Try.underlying36 hi hz0 hz1 hz2 rfl (by omega) v ps.length (pcs ps) hs hown ⟨B, 0, none⟩ 1 c p.cells hx rfl
    (fun j u hj => by
      rw [hadd]
      obtain ⟨e0, e1, e2, e3, e4⟩ := hc.cells
      match j with
      | 0 => simp [Pk.cells] at hj; subst hj; exact e0
      | 1 => simp [Pk.cells] at hj; subst hj; exact e1
      | 2 => simp [Pk.cells] at hj; subst hj; exact e2
      | 3 => simp [Pk.cells] at hj; subst hj; exact e3
      | 4 => simp [Pk.cells] at hj; subst hj; exact e4
      | j + 5 => simp [Pk.cells] at hj)
    (by simp [Pk.cells, Value.oneCell']) (by omega) (by unfold maxLen; omega) (by omega) hbase _ rfl
    (fun g cap w' ho hgr hb _ => h g cap w' ?_ ⟨hgr.os, hgr.tape, hgr.output, hgr.size, fun k hk hne => hgr.block k hk (fun e => hne e.symm)⟩ hb)
  unfold Rw
  rw [pcs_append, List.length_append]
  simpa [pcs] using ho
end Go.Proofs.Ytpjahdiddgdahaa
