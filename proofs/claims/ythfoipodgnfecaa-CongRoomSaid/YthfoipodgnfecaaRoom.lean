/- CongRoom: one who sends only what there is room for never has more on its way than the window was. -/
import Derived.Test.YthfoipodgnfecaaOwn
import Derived.Deep.RegionHeld3
import Derived.Deep.DrawnRows
import Derived.Deep.RegionWith
import Derived.BigRegion
import Derived.StillTailTactics
import Derived.Deep.Cut
import Derived.Deep.DeepMust
namespace Go.Proofs.Ythfoipodgnfecaa
open Go.RowKit
set_option linter.unusedVariables false
attribute [local go_sem ↓] Go.wp_at_zero Go.wp_at_succ

theorem wp_gen {P : Program} {c : Code} {Q : Exit → Act → World → Prop} {a : Act} {w : World} (R : World → Prop) (h : R w) (k : ∀ W, R W → Code.wp P c Q a W) : Code.wp P c Q a w := k w h

/-- Whatever of the two: a loss, the window no less than the least. -/
theorem lost_either (s f l n x t now : Int) (b : Bool) (w : World) (hs : 2400 ≤ s) (hs2 : s ≤ 16777216) (hf : 0 ≤ f) (hf2 : f ≤ 1000000000000) (hx : 0 ≤ x) :
    Calls Try.prog 9 #[wv s f l n b, .int .u64 x, .int .u64 t, .int .u64 now] w fun e w' => ∃ (s' l' n' : Int) (b' : Bool), e = .returned (wv s' (f - min f x) l' n' b') ∧ 2400 ≤ s' ∧ s' ≤ 16777216 ∧ Below w.heap.size w w' := by
  cases b
  · exact (lost_first s f l n x t now w (by omega) hs2 hf hf2 hx).mono fun e w' ⟨he, hb⟩ => ⟨_, _, _, _, he, by omega, by omega, hb⟩
  · by_cases h : t ≤ n
    · exact (lost_settled s f l n x t now w hf hf2 hx h).mono fun e w' ⟨he, hb⟩ => ⟨_, _, _, _, he, by omega, by omega, hb⟩
    · exact (lost_anew s f l n x t now w (by omega) hs2 hf hf2 hx (by omega)).mono fun e w' ⟨he, hb⟩ => ⟨_, _, _, _, he, by omega, by omega, hb⟩

theorem keep5 {w w' : World} {B : Nat} {x0 x1 x2 x3 x4 : Value} (hb : Below w.heap.size w w')
    (h : w.cell? ⟨B, 0, none⟩ = some x0 ∧ w.cell? ⟨B, 1, none⟩ = some x1 ∧ w.cell? ⟨B, 2, none⟩ = some x2 ∧ w.cell? ⟨B, 3, none⟩ = some x3 ∧ w.cell? ⟨B, 4, none⟩ = some x4 ∧ B < w.heap.size) :
    w'.cell? ⟨B, 0, none⟩ = some x0 ∧ w'.cell? ⟨B, 1, none⟩ = some x1 ∧ w'.cell? ⟨B, 2, none⟩ = some x2 ∧ w'.cell? ⟨B, 3, none⟩ = some x3 ∧ w'.cell? ⟨B, 4, none⟩ = some x4 ∧ B < w'.heap.size := by
  obtain ⟨h0, h1, h2, h3, h4, hB⟩ := h
  exact ⟨(hb.cell (p := ⟨B, 0, none⟩) hB).trans h0, (hb.cell (p := ⟨B, 1, none⟩) hB).trans h1, (hb.cell (p := ⟨B, 2, none⟩) hB).trans h2, (hb.cell (p := ⟨B, 3, none⟩) hB).trans h3, (hb.cell (p := ⟨B, 4, none⟩) hB).trans h4, Nat.lt_of_lt_of_le hB hb.size⟩

theorem Own.shape {w : World} {base : Nat} {v : Value} {xs : List Int} (h : Own w base v xs) :
    ∃ (a : Option Addr) (cap : Nat), v = .slice a xs.length cap ∧ ∀ j, j < xs.length → ∃ g o, a = some ⟨g, o, none⟩ ∧ base ≤ g ∧ g < w.heap.size ∧ w.cell? ⟨g, o + j, none⟩ = some (.int .u64 (xs.getD j 0)) := by
  by_cases h0 : 0 < xs.length
  · obtain ⟨g, o, cap, rfl, hg, _, _, hc⟩ := h.cell h0
    exact ⟨_, cap, rfl, fun j hj => ⟨g, o, rfl, hg, block_lt_of_cell (hc j hj), hc j hj⟩⟩
  · have hx : xs = [] := List.eq_nil_of_length_eq_zero (by omega)
    subst hx
    rcases h with ⟨a, rfl, _⟩ | ⟨g, o, cap, cur, rfl, _⟩
    · exact ⟨a, 0, rfl, fun j hj => by simp at hj⟩
    · exact ⟨_, cap, rfl, fun j hj => by simp at hj⟩

/-- What holds at the head of each round of the last loop: j were dropped. -/
def DropRel (S L N : Int) (R : Bool) (xs : List Int) (w wo : World) (B : Nat) (i : Value) (wr : World) : Prop :=
  ∃ j : Nat, i = .int .i64 j ∧ j ≤ xs.length ∧ Below w.heap.size w wr ∧ Box wr B S (xs.drop j).sum L N R ∧ wo.heap.size ≤ wr.heap.size ∧ ∀ g, B + 1 ≤ g → g < wo.heap.size → wr.heap[g]? = wo.heap[g]?

/-- What holds at the head of each round: k of them are done. -/
def RoomRel (len m : Nat) (w : World) (B : Nat) (v i : Value) (wr : World) : Prop :=
  ∃ (k : Nat) (S L N : Int) (R : Bool) (xs : List Int), i = .int .i64 k ∧ k ≤ len ∧ Below w.heap.size w wr ∧ Box wr B S xs.sum L N R ∧ Own wr (B + 1) v xs ∧ 2400 ≤ S ∧ S ≤ 16777216 ∧ xs.sum ≤ S ∧ xs.length ≤ k ∧ (∀ x ∈ xs, 0 ≤ x ∧ x ≤ 1199) ∧ (xs = [] ∨ m ≤ k)

theorem sum_nonneg (xs : List Int) (h : ∀ x ∈ xs, 0 ≤ x ∧ x ≤ 1199) : 0 ≤ xs.sum := by
  induction xs with
  | nil => simp
  | cons a r ih => rw [List.sum_cons]; have := h a (by simp); have := ih (fun x hx => h x (by simp [hx])); omega

theorem sum_le (xs : List Int) (h : ∀ x ∈ xs, 0 ≤ x ∧ x ≤ 1199) : xs.sum ≤ 1199 * xs.length := by
  induction xs with
  | nil => simp
  | cons a r ih => rw [List.sum_cons, List.length_cons]; have := h a (by simp); have := ih (fun x hx => h x (by simp [hx])); omega

theorem keep_set5 (w : World) {B g : Nat} (hne : g ≠ B) (x0 x1 x2 x3 x4 : Value) :
    (((((w.setCell ⟨B, 0, none⟩ x0).setCell ⟨B, 1, none⟩ x1).setCell ⟨B, 2, none⟩ x2).setCell ⟨B, 3, none⟩ x3).setCell ⟨B, 4, none⟩ x4).heap[g]? = w.heap[g]? := by
  rw [Below.heap_setCell _ _ _ _ hne, Below.heap_setCell _ _ _ _ hne, Below.heap_setCell _ _ _ _ hne, Below.heap_setCell _ _ _ _ hne, Below.heap_setCell _ _ _ _ hne]

theorem room_zero (s l n : Int) (b : Bool) (w : World) (hs : 0 ≤ s) (hs2 : s ≤ 16777216) :
    Calls Try.prog 11 #[wv s 0 l n b] w fun e w' => e = .returned (.int .u64 s) ∧ Below w.heap.size w w' :=
  (room_any s 0 l n b w hs hs2 (by omega)).mono fun e w' ⟨he, hb⟩ => ⟨by rw [he, show s - min s 0 = s from by omega], hb⟩

set_option maxRecDepth 100000 in
set_option maxHeartbeats 600000 in
theorem room_law (a0 a1 : Option Addr) (len c0 m c1 : Nat) (zs : Nat → Int) (fb : Nat → Bool) (w : World) (hlen : len ≤ 9223372036854775807) (hm : m ≤ 9223372036854775807)
    (hcell : ∀ i, i < len → ∃ b off, a0 = some ⟨b, off, none⟩ ∧ b < w.heap.size ∧ w.cell? ⟨b, off + i, none⟩ = some (.int .u16 (zs i)))
    (hz : ∀ i, i < len → 0 ≤ zs i ∧ zs i ≤ 65535)
    (hfate : ∀ i, i < m → ∃ b off, a1 = some ⟨b, off, none⟩ ∧ b < w.heap.size ∧ w.cell? ⟨b, off + i, none⟩ = some (.bool (fb i))) :
    Calls Try.prog 5 #[.slice a0 len c0, .slice a1 m c1] w fun e w' => e = .returned (.bool true) ∧ Below w.heap.size w w' := by
  have Hc := Lib.hid hcell
  have Hz := Lib.hid hz
  have Hf := Lib.hid hfate
  clear hcell hz hfate
  by_cases h200 : 200 < len
  · go_enter Try.func5, Try.ntmps5
    go_wp2_with fail
    refine (awake_any _).mono ?_
    rintro e w1 ⟨rfl, hb1⟩
    go_wp2_with fail
    go_ret
    exact ⟨rfl, hb1⟩
  go_enter Try.func5, Try.ntmps5
  go_wp2_with fail
  refine (awake_any _).mono ?_
  rintro e w1 ⟨rfl, hb1⟩
  go_wp2_with fail
  refine (new_any _).mono ?_
  rintro e w2 ⟨rfl, hb2⟩
  have hB : w.heap.size ≤ w2.heap.size := Nat.le_trans hb1.size hb2.size
  have hb12 : Below w.heap.size w w2 := hb1.trans (hb2.mono hb1.size)
  clear hb1 hb2
  go_wp2_with fail
  go_loopw [6, 20] (fun v i wr => RoomRel len m w w2.heap.size v i wr) (fun v i wr => (len - intOf i).toNat)
  case atStart => exact ⟨0, 12000, 16777216, 0, false, [], rfl, by omega, hb12.alloc hB _, Box.new _ _ _ _ _ _, Own.nil _ _, by omega, by omega, by simp, by simp, by simp, .inl rfl⟩
  case round =>
    obtain ⟨k, S, L, N, R, xs, rfl, hk, hbw, hbox, hown, hS, hS2, hsum, hxl, hxs, hor⟩ := hrel
    have hsum0 := sum_nonneg xs hxs
    by_cases hlt : k < len
    · obtain ⟨b0, o0, rfl, hb0, hc0⟩ := Hc.out k hlt
      have hc : wr.cell? ⟨b0, o0 + k, none⟩ = some (.int .u16 (zs k)) := by rw [hbw.cell (by exact hb0)]; exact hc0
      have hz1 := (Hz.out k hlt).1
      have hz2 := (Hz.out k hlt).2
      clear hc0
      generalize zs k = z at *
      obtain ⟨c0, c1, c2, c3, c4, f0, f1, f2, f3, f4⟩ := hbox.cells
      go_wp2_with fail
      refine (room_any S xs.sum L N R _ (by omega) (by omega) (by omega)).mono ?_
      rintro e w3 ⟨rfl, hb3⟩
      have hbox3 := hbox.below hb3
      have hown3 := hown.below hb3
      have hbw3 := hbw.trans (hb3.mono hbw.size)
      clear c0 c1 c2 c3 c4 f0 f1 f2 f3 f4 hbox hown hbw hb3 hc
      obtain ⟨c0, c1, c2, c3, c4, f0, f1, f2, f3, f4⟩ := hbox3.cells
      by_cases hle : z % 1200 ≤ S - min S xs.sum
      · go_wp2_with fail
        refine (sent_any S xs.sum L N (z % 1200) R _ (by omega) (by omega) (by omega)).mono ?_
        rintro e w4 ⟨rfl, hb4⟩
        have hbox4 := hbox3.below hb4
        have hown4 := hown3.below hb4
        have hbw4 := hbw3.trans (hb4.mono hbw3.size)
        clear c0 c1 c2 c3 c4 f0 f1 f2 f3 f4 hbox3 hown3 hbw3 hb4
        obtain ⟨c0, c1, c2, c3, c4, f0, f1, f2, f3, f4⟩ := hbox4.cells
        rw [show min (z % 1200) 16777216 = z % 1200 from by omega]
        have hn1 : 0 ≤ z % 1200 ∧ z % 1200 ≤ 1199 ∧ xs.sum + z % 1200 ≤ S := by omega
        obtain ⟨hn1, hn2, hn3⟩ := hn1
        clear hle
        generalize z % 1200 = n at *
        go_upto_region 13 with (fail)
        refine wp_gen (fun W => Box W w2.heap.size S (xs.sum + n) L N R ∧ Below w.heap.size w W ∧ Own W (w2.heap.size + 1) u6 xs) ⟨hbox4.set, below_set5 hbw4 hB _ _ _ _ _, hown4.set5 (by omega) _ _ _ _ _⟩ ?_
        clear c0 c1 c2 c3 c4 f0 f1 f2 f3 f4 hbox4 hbw4 hown4 w3 w4
        rintro w4 ⟨hbox4, hbw4, hown4⟩
        go_wp2_with (at_builtin; go_must (refine wpList_append_mine rfl (.tmp 35) (.tmp 37) rfl (w2.heap.size + 1) u6 xs rfl ?hown ⟨w4.heap.size, 0, none⟩ 1 n rfl ?hcell ?hlen ?hbase ?_))
        case hown => exact hown4.below ((Below.refl _ _).alloc (Nat.le_refl _) _)
        case hcell => go_simp
        case hlen => omega
        case hbase => simp; have := (Array.getElem?_eq_some_iff.1 hbox4).1; omega
        intro v' w5 hown5 hgr
        have hlt4 : w2.heap.size < w4.heap.size := (Array.getElem?_eq_some_iff.1 hbox4).1
        have hbw5 : Below w.heap.size w w5 := (hbw4.alloc hbw4.size _).trans (hgr.mono (by omega))
        have hbox5 : Box w5 w2.heap.size S (xs.sum + n) L N R := by
          unfold Box at *
          rw [hgr.block _ (by omega), Below.heap_alloc _ _ _ hlt4]; exact hbox4
        clear hgr hbox4 hbw4 hown4 hlt4
        obtain ⟨c0, c1, c2, c3, c4, f0, f1, f2, f3, f4⟩ := hbox5.cells
        by_cases hkm : k < m
        · obtain rfl : xs = [] := by rcases hor with h | h; exact h; omega
          simp only [List.sum_nil, Int.zero_add, List.nil_append] at *
          obtain ⟨v'', hsl, hcut⟩ := hown5.cut
          obtain ⟨g, o, cap, hv', hg, hcp1, hcp2, hsc⟩ := hown5.cell (by simp)
          have hsc0 : w5.cell? ⟨g, o, none⟩ = some (.int .u64 n) := by simpa using hsc 0 (by simp)
          simp only [List.length_cons, List.length_nil, Nat.zero_add] at hv' hcp1
          subst hv'
          obtain ⟨b1, o1, rfl, hb1, hf0⟩ := Hf.out k hkm
          have hf : w5.cell? ⟨b1, o1 + k, none⟩ = some (.bool (fb k)) := by rw [hbw5.cell (by exact hb1)]; exact hf0
          clear hf0 hsc
          cases hfk : fb k
          · rw [hfk] at hf
            clear hfk
            go_wp2_with fail
            have ek : IntKind.u64.wrap (k : Int) = k := IntWalk.u64_in _ (by omega)
            have ek1 : IntKind.u64.wrap ((k : Int) + 1) = k + 1 := IntWalk.u64_in _ (by omega)
            go_still_tail 9, (by kernel_rfl)
            change wpList _ _ _ _ _ w5.drew
            have hboxd : Box w5.drew w2.heap.size S n L N R := hbox5
            have hbwd : Below w.heap.size w w5.drew := hbw5.drew
            have hcutd : ∀ w' : World, (∀ gg, w2.heap.size + 1 ≤ gg → gg < w5.drew.heap.size → w'.heap[gg]? = w5.drew.heap[gg]?) → Own w' (w2.heap.size + 1) v'' [] := hcut
            clear c0 c1 c2 c3 c4 f0 f1 f2 f3 f4 hsc0 hf hown5 hbw5 hbox5 hcut ek ek1
            generalize w5.drew = w6 at *
            go_wp2_with fail
            refine (lost_either S n L N n k (k + 1) R _ (by omega) (by omega) (by omega) (by omega) (by omega)).mono ?_
            rintro e w7 ⟨S', L', N', R', rfl, hS', hS2', hb7⟩
            have hbox7 := hboxd.below hb7
            have hbw7 := hbwd.trans (hb7.mono hbwd.size)
            obtain ⟨c0, c1, c2, c3, c4, f0, f1, f2, f3, f4⟩ := hbox7.cells
            rw [show n - min n n = 0 from by omega]
            go_wp2_with fail
            go_roundw
            case rel => exact ⟨k + 1, S', L', N', R', [], by go_num, by omega, below_set5 hbw7 hB _ _ _ _ _, by simpa using hbox7.set, (hcutd w7 (fun gg _ hgg => hb7.block gg hgg)).set5 (by omega) _ _ _ _ _, by omega, by omega, by simp; omega, by simp, by simp, .inl rfl⟩
            case measure => simp [intOf]; omega
          · rw [hfk] at hf
            clear hfk
            go_wp2_with fail
            have ek : IntKind.u64.wrap (k : Int) = k := IntWalk.u64_in _ (by omega)
            have ek1 : IntKind.u64.wrap ((k : Int) + 1) = k + 1 := IntWalk.u64_in _ (by omega)
            go_still_tail 6, (by kernel_rfl)
            change wpList _ _ _ _ _ w5.drew
            have hboxd : Box w5.drew w2.heap.size S n L N R := hbox5
            have hbwd : Below w.heap.size w w5.drew := hbw5.drew
            have hcutd : ∀ w' : World, (∀ gg, w2.heap.size + 1 ≤ gg → gg < w5.drew.heap.size → w'.heap[gg]? = w5.drew.heap[gg]?) → Own w' (w2.heap.size + 1) v'' [] := hcut
            clear c0 c1 c2 c3 c4 f0 f1 f2 f3 f4 hsc0 hf hown5 hbw5 hbox5 hcut ek ek1
            generalize w5.drew = w6 at *
            go_wp2_with fail
            refine (came_low S n L N n k R _ (by omega) (by omega) (by omega) (by omega)).mono ?_
            rintro e w7 ⟨rfl, hb7⟩
            have hbox7 := hboxd.below hb7
            have hbw7 := hbwd.trans (hb7.mono hbwd.size)
            obtain ⟨c0, c1, c2, c3, c4, f0, f1, f2, f3, f4⟩ := hbox7.cells
            rw [show n - min n n = 0 from by omega]
            go_wp2_with fail
            go_roundw
            case rel => exact ⟨k + 1, S, L, N, R, [], by go_num, by omega, below_set5 hbw7 hB _ _ _ _ _, by simpa using hbox7.set, (hcutd w7 (fun gg _ hgg => hb7.block gg hgg)).set5 (by omega) _ _ _ _ _, by omega, by omega, by simp; omega, by simp, by simp, .inl rfl⟩
            case measure => simp [intOf]; omega
        · have hkm' : m ≤ k := by omega
          have hl1 : (xs ++ [n]).length = xs.length + 1 := by simp
          obtain ⟨g, o, cap, hv', hg, hcp1, hcp2, hsc⟩ := hown5.cell (by omega)
          have Hl := Lib.hid hl1
          clear hsc hcp1 hcp2 hl1
          subst hv'
          go_wp2_with fail
          go_roundw
          case rel => exact ⟨k + 1, S, L, N, R, xs ++ [n], by go_num, by omega, hbw5, by rw [List.sum_append]; simpa using hbox5, hown5, hS, hS2, by rw [List.sum_append]; simp; omega, by rw [Hl.out]; omega, by
            intro x hx
            rcases List.mem_append.1 hx with h | h
            · exact hxs x h
            · simp at h; omega, .inr (by omega)⟩
          case measure => simp [intOf]; omega
      · have hkm : m ≤ k := by
          rcases hor with h | h
          · subst h; simp at hle; omega
          · exact h
        go_wp2_with fail
        go_roundw
        case rel => exact ⟨k + 1, S, L, N, R, xs, by go_num, by omega, hbw3, hbox3, hown3, hS, hS2, hsum, by omega, hxs, .inr (by omega)⟩
        case measure => simp [intOf]; omega
    · obtain ⟨ao, cap, rfl, hsc⟩ := hown.shape
      have Hsc := Lib.hid hsc
      clear hsc
      go_wp2_with fail
      obtain ⟨wo, rfl⟩ : ∃ wo : World, wo = wr := ⟨_, rfl⟩
      have hxl' : xs.length ≤ 200 := by omega
      go_loopw [79] (fun i wr => DropRel S L N R xs w wo w2.heap.size i wr) (fun i wr => (xs.length - intOf i).toNat)
      case atStart => exact ⟨0, rfl, Nat.zero_le _, hbw, hbox, Nat.le_refl _, fun _ _ _ => rfl⟩
      case round =>
        clear hbox hbw hown
        obtain ⟨j, rfl, hj, hbw, hbox, hsz, hkeep⟩ := hrel
        obtain ⟨c0, c1, c2, c3, c4, f0, f1, f2, f3, f4⟩ := hbox.cells
        by_cases hjl : j < xs.length
        · obtain ⟨g, o, rfl, hg, hgl, hcg⟩ := Hsc.out j hjl
          have hc : wr.cell? ⟨g, o + j, none⟩ = some (.int .u64 (xs.getD j 0)) := by rw [World.cell?_of_block (w := wo) (hkeep g hg hgl)]; exact hcg
          have hdrop : xs.drop j = xs.getD j 0 :: xs.drop (j + 1) := by
            rw [List.drop_eq_getElem_cons hjl]; simp [List.getElem?_eq_getElem hjl]
          have hx1 := hxs (xs.getD j 0) (by simp [List.getElem?_eq_getElem hjl])
          have hrest := sum_nonneg (xs.drop (j + 1)) (fun x hx => hxs x (List.mem_of_mem_drop hx))
          have hall : (xs.drop j).sum = xs.getD j 0 + (xs.drop (j + 1)).sum := by rw [hdrop, List.sum_cons]
          have hle : (xs.drop (j + 1)).sum ≤ 1000000000 := by
            have h1 := sum_le (xs.drop (j + 1)) (fun x hx => hxs x (List.mem_of_mem_drop hx))
            rw [List.length_drop] at h1
            omega
          rw [hall] at hbox c1
          clear hall hdrop hcg
          generalize xs.getD j 0 = x at *
          generalize hd : (xs.drop (j + 1)).sum = rest at *
          have Hd := Lib.hid hd
          clear hd
          obtain ⟨hx1, hx2⟩ := hx1
          go_wp2_with fail
          refine (drop_any S (x + rest) L N x R _ (by omega) (by omega) (by omega)).mono ?_
          rintro e w3 ⟨rfl, hb3⟩
          have hbox3 := hbox.below hb3
          have hbw3 := hbw.trans (hb3.mono hbw.size)
          clear c0 c1 c2 c3 c4 f0 f1 f2 f3 f4 hbox hc
          obtain ⟨c0, c1, c2, c3, c4, f0, f1, f2, f3, f4⟩ := hbox3.cells
          rw [show x + rest - min (x + rest) x = rest from by omega]
          go_wp2_with fail
          go_roundw
          case rel => exact ⟨j + 1, by go_num, by omega, below_set5 hbw3 hB _ _ _ _ _, by rw [Hd.out]; exact hbox3.set,
            Nat.le_trans hsz (Nat.le_trans hb3.size (below_set5 (Below.refl 0 w3) (Nat.zero_le _) _ _ _ _ _).size), fun gg h1 h2 => by
              rw [keep_set5 _ (by omega), hb3.block gg (by omega)]; exact hkeep gg h1 h2⟩
          case measure => simp [intOf]; omega
        · obtain rfl : j = xs.length := by omega
          rw [List.drop_length, List.sum_nil] at hbox c1
          go_wp2_with fail
          have hsz2 : w2.heap.size < wr.heap.size := (Array.getElem?_eq_some_iff.1 hbox).1
          have t1 : decide ((2400 : Int) ≤ S) = true := decide_eq_true hS
          have Hs1 := Lib.hid hS
          have Hs2 := Lib.hid hS2
          go_region_held3 (fun w' => w'.cell? ⟨w2.heap.size, 0, none⟩ = some (.int .u64 S) ∧ w'.cell? ⟨w2.heap.size, 1, none⟩ = some (.int .u64 0) ∧ w'.cell? ⟨w2.heap.size, 2, none⟩ = some (.int .u64 L) ∧ w'.cell? ⟨w2.heap.size, 3, none⟩ = some (.int .u64 N) ∧ w'.cell? ⟨w2.heap.size, 4, none⟩ = some (.bool R) ∧ w2.heap.size < w'.heap.size)
            (first | go_keep | (refine keep5 hbp ?_; assumption))
            (first | (go_at_call 11; refine (room_zero S L N R _ (by have := Hs1.out; omega) Hs2.out).mono ?_; rintro e w4 ⟨rfl, hbp⟩))
          go_wp2
          go_ret
          exact ⟨rfl, hbw.drew.trans (hbp.mono hbw.drew.size)⟩
end Go.Proofs.Ythfoipodgnfecaa
