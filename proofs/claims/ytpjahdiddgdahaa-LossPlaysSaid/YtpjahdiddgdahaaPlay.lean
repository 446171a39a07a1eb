/- LossPlays: the code's pieces by their paths; the frame written out; a loop by the rounds that are left; regions. -/
import Derived.Test.YtpjahdiddgdahaaTell
import Derived.Test.YtpjahdiddgdahaaActs
import Derived.Test.YtpjahdiddgdahaaLast
import Derived.Test.YtpjahdiddgdahaaNext
import Derived.Test.YtpjahdiddgdahaaRgs
import Derived.LoopN
namespace Go.Proofs.Ytpjahdiddgdahaa
open Go.RowKit
set_option linter.unusedVariables false

/-- A step down in the code: 0 and 1 a sequence's halves, 2 a block's, 3 a loop's, 4 and 5 a test's. -/
def stp : Code → Nat → Code
  | .seq a _, 0 => a
  | .seq _ b, 1 => b
  | .block _ c, 2 => c
  | .loop c, 3 => c
  | .cond _ a _, 4 => a
  | .cond _ _ b, 5 => b
  | c, _ => c
noncomputable def pieceAt (p : List Nat) : Code := p.foldl stp (Try.f5.body.getD .skip)

/-- The frame written out. -/
def lit (g : Nat → Value) : Act := ⟨#[g 0, g 1, g 2, g 3, g 4, g 5, g 6, g 7, g 8, g 9, g 10, g 11, g 12, g 13, g 14, g 15, g 16, g 17, g 18, g 19, g 20, g 21, g 22, g 23, g 24, g 25, g 26, g 27, g 28, g 29, g 30, g 31, g 32, g 33, g 34, g 35, g 36, g 37, g 38, g 39, g 40, g 41, g 42, g 43, g 44, g 45, g 46, g 47, g 48, g 49, g 50, g 51, g 52, g 53, g 54, g 55, g 56, g 57, g 58, g 59, g 60, g 61, g 62, g 63, g 64, g 65, g 66, g 67, g 68, g 69, g 70, g 71, g 72, g 73, g 74, g 75, g 76, g 77, g 78, g 79, g 80, g 81, g 82, g 83, g 84, g 85, g 86, g 87, g 88, g 89, g 90, g 91, g 92, g 93, g 94, g 95, g 96, g 97, g 98, g 99, g 100, g 101, g 102, g 103, g 104, g 105, g 106, g 107, g 108, g 109, g 110, g 111, g 112, g 113, g 114, g 115, g 116, g 117, g 118, g 119, g 120, g 121, g 122, g 123, g 124, g 125, g 126, g 127, g 128, g 129, g 130, g 131, g 132, g 133, g 134, g 135, g 136, g 137, g 138, g 139, g 140, g 141, g 142, g 143, g 144, g 145, g 146, g 147, g 148, g 149, g 150, g 151, g 152, g 153, g 154, g 155, g 156, g 157, g 158, g 159, g 160, g 161, g 162, g 163, g 164, g 165, g 166, g 167, g 168, g 169, g 170, g 171, g 172, g 173, g 174, g 175, g 176, g 177, g 178, g 179, g 180, g 181, g 182, g 183, g 184, g 185, g 186, g 187, g 188, g 189, g 190, g 191, g 192, g 193, g 194, g 195, g 196, g 197, g 198, g 199, g 200, g 201, g 202, g 203, g 204, g 205, g 206, g 207, g 208, g 209, g 210, g 211, g 212, g 213, g 214, g 215, g 216, g 217, g 218, g 219, g 220, g 221, g 222, g 223, g 224, g 225, g 226, g 227, g 228, g 229, g 230, g 231, g 232, g 233, g 234, g 235, g 236, g 237, g 238, g 239, g 240, g 241, g 242, g 243, g 244, g 245, g 246, g 247, g 248, g 249, g 250, g 251, g 252, g 253, g 254, g 255, g 256, g 257, g 258, g 259, g 260, g 261, g 262, g 263, g 264, g 265, g 266, g 267, g 268, g 269, g 270, g 271, g 272, g 273, g 274, g 275, g 276, g 277, g 278, g 279, g 280, g 281, g 282, g 283, g 284, g 285, g 286, g 287, g 288, g 289, g 290, g 291, g 292, g 293, g 294, g 295, g 296, g 297, g 298, g 299, g 300, g 301, g 302, g 303, g 304, g 305, g 306, g 307, g 308, g 309, g 310, g 311, g 312, g 313, g 314, g 315, g 316, g 317, g 318, g 319, g 320, g 321, g 322, g 323, g 324, g 325, g 326, g 327, g 328, g 329, g 330, g 331, g 332, g 333, g 334, g 335, g 336, g 337, g 338, g 339, g 340, g 341, g 342, g 343, g 344, g 345, g 346, g 347, g 348, g 349, g 350, g 351, g 352, g 353, g 354, g 355, g 356, g 357, g 358, g 359, g 360, g 361, g 362, g 363, g 364, g 365, g 366, g 367, g 368, g 369, g 370, g 371, g 372, g 373, g 374, g 375, g 376, g 377, g 378, g 379, g 380, g 381, g 382, g 383, g 384, g 385, g 386, g 387, g 388, g 389, g 390, g 391, g 392, g 393, g 394, g 395, g 396, g 397, g 398, g 399, g 400, g 401, g 402, g 403, g 404, g 405, g 406, g 407, g 408, g 409, g 410, g 411, g 412, g 413, g 414, g 415, g 416, g 417, g 418, g 419, g 420, g 421, g 422, g 423, g 424, g 425, g 426, g 427, g 428, g 429, g 430, g 431, g 432, g 433, g 434, g 435, g 436, g 437, g 438, g 439, g 440, g 441, g 442, g 443, g 444, g 445, g 446, g 447, g 448, g 449, g 450, g 451, g 452, g 453, g 454, g 455, g 456, g 457, g 458, g 459, g 460, g 461, g 462, g 463, g 464, g 465, g 466, g 467, g 468, g 469, g 470, g 471, g 472, g 473, g 474, g 475, g 476, g 477, g 478, g 479, g 480, g 481, g 482, g 483, g 484, g 485, g 486, g 487, g 488, g 489, g 490, g 491, g 492], []⟩

set_option maxRecDepth 1000000 in
set_option maxHeartbeats 4000000 in
theorem lit_toList (g : Nat → Value) : (lit g).tmps.toList = (List.range 493).map g := by rfl

theorem act_lit (a : Act) (hs : a.tmps.size = 493) (hd : a.defers = []) : ∃ g : Nat → Value, (∀ i, a.eval (.tmp i) = g i) ∧ a = lit g := by
  refine ⟨fun i => a.eval (.tmp i), fun _ => rfl, ?_⟩
  obtain ⟨t, d⟩ := a
  simp only at hs hd
  subst hd
  have h : t = (lit fun i => Act.eval ⟨t, []⟩ (.tmp i)).tmps := by
    apply Array.toList_inj.1
    rw [lit_toList]
    apply List.ext_getElem?
    intro i
    by_cases hi : i < 493
    · have h2 : i < t.toList.length := by simpa [hs] using hi
      simp [hi, Act.eval, hs]
    · have h2 : t.toList.length ≤ i := by simp [hs]; omega
      simp [hi]
      omega
  have e : ∀ g, lit g = ⟨(lit g).tmps, []⟩ := fun g => rfl
  rw [e, ← h]

/-- A loop by the number of rounds that are left. -/
theorem wp_loop_k {P : Program} {Q : Exit → Act → World → Prop} {c : Code} (I : Nat → Act → World → Prop)
    (round : ∀ m a w, I m a w → c.wp P (Exit.then (fun a' w' => ∃ m', m = m' + 1 ∧ I m' a' w') Q) a w) {m : Nat} {a : Act} {w : World} (h : I m a w) : (Code.loop c).wp P Q a w := by
  refine wp_loop_rounds (m + 1) ?_
  induction m generalizing a w with
  | zero => exact Code.wp_mono (fun e a w q => by cases e <;> first | exact q | (obtain ⟨m', hm, -⟩ := q; omega)) (round 0 a w h)
  | succ m ih =>
    refine Code.wp_mono (fun e a w q => ?_) (round (m + 1) a w h)
    cases e <;> first
      | exact q
      | (obtain ⟨m', hm, hi⟩ := q
         obtain rfl : m = m' := by omega
         exact ih hi)
theorem inBlock_exit {id : Nat} {K : Act → World → Prop} {Q : Exit → Act → World → Prop} {a : Act} {w : World} (h : K a w) : Exit.inBlock id (Exit.then K Q) (.exit id) a w := by
  show (if id = id then K a w else Exit.then K Q (.exit id) a w)
  rw [if_pos rfl]
  exact h
end Go.Proofs.Ytpjahdiddgdahaa
