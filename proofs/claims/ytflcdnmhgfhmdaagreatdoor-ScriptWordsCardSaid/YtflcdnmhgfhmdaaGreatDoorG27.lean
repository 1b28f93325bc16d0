/-
  Texts of this proof, one behind the other: WordsFa.
-/
import Derived.Test.YtflcdnmhgfhmdaaGreatDoorCards
import Derived.ProofKit
set_option linter.unusedVariables false
set_option linter.unusedSimpArgs false
/-
  Closed facts of the row: what the law's function comes to, by a search that keeps what it has seen in the bits of a number.
-/
namespace Go.Proofs.YtflcdnmhgfhmdaaGreatDoor.sf
open Go Go.RowKit

set_option maxRecDepth 100000
def closM (P : Program) : Nat → List FuncId → List FuncId → Nat → List FuncId
  | 0, _, seen, _ => seen.reverse
  | _, [], seen, _ => seen.reverse
  | n + 1, f :: todo, seen, m => if m.testBit f then closM P n todo seen m else closM P n ((P.funcs[f]?).elim [] P.leadsTo ++ todo) (f :: seen) (m ||| 1 <<< f)
theorem bit_cons (m : Nat) (f : FuncId) (seen : List FuncId) (h : ∀ g : Nat, m.testBit g = seen.contains g) (g : Nat) : (m ||| 1 <<< f).testBit g = (f :: seen).contains g := by
  rw [Nat.testBit_or, h g, Nat.one_shiftLeft, List.contains_cons, Bool.or_comm, Nat.testBit_two_pow]
  by_cases e : f = g
  · subst e
    rw [decide_eq_true rfl, beq_self_eq_true]
  · have e2 : (g == f) = false := beq_eq_false_iff_ne.2 (fun k => e k.symm)
    rw [decide_eq_false e, e2]
theorem closM_eq (P : Program) (n : Nat) : ∀ (todo seen : List FuncId) (m : Nat), (∀ f : Nat, m.testBit f = seen.contains f) → closM P n todo seen m = P.closureVia n todo seen := by
  induction n with
  | zero => intro todo seen m _; rw [closM, Program.closureVia]
  | succ n ih =>
    intro todo seen m h
    cases todo with
    | nil =>
      rw [closM, Program.closureVia]
      · exact fun e => by cases e
      · exact fun e => by cases e
    | cons f todo =>
      rw [closM, Program.closureVia, h f]
      split
      · exact ih _ _ _ h
      · exact ih _ _ _ (bit_cons m f seen h)
theorem closure_eq (P : Program) (f : FuncId) (n : Nat) (hn : 1 + (P.funcs.toList.map fun g => (P.leadsTo g).length + 1).sum = n) (L : List FuncId) (h : closM P n [f] [] 0 = L) : P.closure f = L := by
  rw [← h, closM_eq P n [f] [] 0 (by simp), ← hn]
  rfl
def clL : List FuncId := [3, 4, 7, 26, 27, 28, 58, 107, 165, 97, 163, 241, 162, 239, 320, 240, 322, 401, 235, 321, 392, 398, 456, 393, 451, 394, 452, 453, 395, 454, 455, 486, 396, 397, 399, 400, 103, 169, 242, 177, 179, 269, 279, 188, 277, 267, 268, 178, 96, 161, 59, 108, 139, 98, 109, 180, 270, 273, 8, 29, 60, 113, 114, 187, 61, 115, 62, 116, 189, 190, 191, 278, 181, 271, 182, 272, 110, 183, 111, 184, 274, 185, 275, 351, 125, 197, 283, 118, 192, 280, 198, 99, 112, 186, 276, 352, 353, 422, 354, 5, 6, 9, 11, 31, 64, 63, 65, 67, 117, 66, 69, 119, 193, 68, 32, 70, 120, 194, 281, 282, 71, 121, 195, 122, 123, 17, 50, 95, 157, 158, 234, 236, 159, 160, 237, 238, 318, 319, 196, 124, 10, 30, 14, 40, 80, 140, 81, 141, 41, 42, 13, 33, 44, 34, 37, 35, 36, 72, 126, 127, 101, 166, 243, 323, 167, 168, 244, 245, 324, 402, 403, 457, 487, 246, 247, 325, 404, 128, 199, 202, 289, 315, 390, 291, 201, 288, 290, 357, 425, 426, 466, 467, 468, 293, 358, 292, 200, 284, 285, 355, 423, 424, 465, 496, 286, 287, 356, 129, 172, 252, 329, 407, 330, 331, 332, 253, 333, 334, 335, 408, 462, 492, 254, 336, 337, 130, 203, 265, 250, 173, 249, 326, 349, 256, 342, 411, 412, 340, 226, 420, 421, 204, 294, 359, 427, 469, 472, 500, 470, 497, 498, 499, 471, 473, 502, 503, 504, 501, 474, 505, 506, 522, 534, 535, 542, 543, 508, 524, 536, 507, 523, 406, 225, 131, 205, 106, 176, 266, 350, 255, 338, 339, 409, 410, 327, 405, 458, 459, 488, 460, 489, 514, 529, 515, 490, 516, 530, 538, 517, 531, 539, 532, 540, 541, 491, 518, 519, 533, 520, 461, 142, 341, 257, 343, 414, 413, 415, 344, 416, 463, 493, 521, 494, 345, 417, 105, 175, 262, 347, 263, 305, 348, 264, 206, 295, 360, 428, 384, 448, 361, 429, 363, 364, 362, 430, 296, 365, 100, 164, 367, 366, 73, 132, 207, 297, 248, 133, 209, 210, 211, 208, 298, 134, 212, 299, 368, 431, 432, 300, 213, 214, 215, 302, 301, 369, 216, 303, 370, 304, 56, 102, 372, 371, 433, 373, 217, 218, 219, 306, 307, 374, 434, 435, 475, 440, 476, 378, 437, 438, 439, 478, 258, 346, 418, 419, 464, 495, 310, 379, 441, 380, 443, 442, 381, 382, 444, 445, 479, 480, 511, 512, 513, 528, 481, 484, 482, 483, 446, 447, 485, 509, 525, 526, 527, 537, 477, 510, 308, 74, 135, 136, 220, 221, 222, 223, 309, 312, 383, 376, 377, 436, 375, 311, 313, 385, 386, 314, 387, 449, 388, 450, 389, 38, 39, 75, 137, 90, 145, 89, 224, 149, 232, 138, 76, 77, 79, 78, 12, 15, 16, 43, 82, 83, 45, 84, 143, 85, 86, 87, 144, 227, 228, 316, 391, 88, 91, 146, 229, 230, 231, 317, 92, 93, 147, 148, 150, 151, 152, 233, 49, 94, 153, 154, 155, 156, 46, 47, 48, 18, 19, 20, 51, 21, 52, 22, 53, 54, 23, 24, 55, 25, 57, 104, 170, 171, 251, 328, 174, 259, 260, 261]
theorem fu : 1 + (Tryz.pinned.checked.prog.funcs.toList.map fun g => (Tryz.pinned.checked.prog.leadsTo g).length + 1).sum = 2049 := by kernel_rfl
theorem cm : closM Tryz.pinned.checked.prog 2049 [3] [] 0 = clL := by kernel_rfl
theorem cl : Tryz.pinned.checked.prog.closure 3 = clL := closure_eq _ _ _ fu _ cm
theorem b10 : (Rows.scriptWordsRow.inPlace == clL.filterMap fun g => (Tryz.pinned.checked.prog.funcs[g]?).bind fun fn => if fn.ours || fn.body.isNone || fn.name == "runtime.NumGoroutine" then some fn.name else none) = true := by kernel_rfl
theorem a10 : (Rows.scriptWordsRow.inPlace == Tryz.pinned.checked.prog.inPlace 3) = true := by
  unfold Program.inPlace
  rw [cl]
  exact b10
theorem b11 : (clL.any fun g => (Tryz.pinned.checked.prog.funcs[g]?).any fun fn => match fn.body with | some c => c.unfollowed | none => entryCalls fn) = true := by kernel_rfl
theorem unf : Tryz.pinned.checked.prog.unfollowed 3 = true := by
  unfold Program.unfollowed
  rw [cl]
  exact b11
theorem a11 : (Rows.scriptWordsRow.unfollowed == Tryz.pinned.checked.prog.unfollowed 3) = true := by rw [unf]; rfl
theorem a12 : (Rows.scriptWordsRow.recurses == Tryz.pinned.checked.prog.recurses 3) = true := by
  unfold Program.recurses
  rw [unf]
  rfl
theorem b13 : (Rows.scriptWordsRow.named == ((((clL.flatMap fun g => ((Tryz.pinned.checked.prog.funcs[g]?).bind (·.body)).elim [] Code.globalsNamed).eraseDups).filterMap (fun g => (Tryz.pinned.checked.prog.globals[g]?).map (·.name)) ++ clL.filterMap fun g => (Tryz.pinned.checked.prog.funcs[g]?).bind fun fn => if fn.body.isNone then entryReads.lookup fn.name else none).eraseDups)) = true := by kernel_rfl
theorem a13 : (Rows.scriptWordsRow.named == Tryz.pinned.checked.prog.varsNamed 3) = true := by
  unfold Program.varsNamed
  rw [cl]
  exact b13
end Go.Proofs.YtflcdnmhgfhmdaaGreatDoor.sf
