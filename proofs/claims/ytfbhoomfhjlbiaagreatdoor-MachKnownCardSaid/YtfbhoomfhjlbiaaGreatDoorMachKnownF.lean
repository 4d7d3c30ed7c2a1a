/- What the row says of the program: the functions that it reaches, named once. -/
import Derived.Test.YtfbhoomfhjlbiaaGreatDoorCards
import Derived.Test.YtfbhoomfhjlbiaaGreatDoorTie
import Derived.Deep.DeepHandedRow
import Derived.JoinedOf
import Derived.SevenTiedAt
namespace Go.Proofs.YtfbhoomfhjlbiaaGreatDoor.machKnown
open Go
set_option linter.unusedVariables false
set_option maxRecDepth 100000
theorem reach : Tryz.pinned.checked.prog.closure 3 = [3, 7, 9, 30, 80, 29, 78, 124, 158, 159, 202, 160, 203, 255, 204, 161, 205, 125, 162, 206, 243, 299, 207, 208, 163, 209, 210, 211, 212, 213, 256, 309, 258, 153, 195, 194, 196, 198, 251, 197, 200, 254, 308, 252, 306, 253, 307, 356, 245, 244, 199, 257, 310, 357, 376, 377, 311, 358, 378, 359, 360, 106, 152, 193, 247, 248, 302, 301, 303, 249, 250, 304, 305, 354, 355, 379, 361, 214, 215, 216, 217, 218, 79, 126, 164, 127, 42, 219, 13, 220, 221, 223, 44, 43, 90, 136, 12, 41, 222, 224, 259, 261, 312, 260, 225, 166, 165, 51, 101, 148, 88, 102, 149, 103, 150, 8, 22, 53, 54, 33, 57, 107, 108, 154, 85, 21, 55, 56, 105, 151, 192, 246, 300, 58, 109, 59, 60, 23, 61, 110, 111, 63, 62, 112, 113, 114, 64, 115, 65, 24, 25, 26, 66, 116, 117, 94, 142, 181, 182, 229, 183, 36, 86, 39, 89, 45, 67, 35, 69, 68, 118, 119, 155, 201, 28, 27, 70, 120, 121, 75, 156, 157, 71, 77, 72, 73, 74, 83, 130, 122, 76, 123, 10, 11, 34, 37, 38, 87, 40, 15, 46, 91, 137, 176, 177, 92, 138, 178, 50, 95, 141, 99, 146, 179, 227, 180, 228, 147, 264, 319, 320, 265, 321, 143, 49, 100, 47, 96, 139, 93, 140, 48, 97, 98, 144, 184, 230, 267, 266, 231, 268, 270, 323, 271, 272, 269, 322, 186, 185, 187, 189, 188, 190, 232, 273, 325, 364, 386, 324, 363, 384, 392, 385, 393, 240, 284, 337, 372, 387, 373, 388, 338, 339, 274, 275, 233, 234, 191, 235, 276, 328, 327, 365, 329, 366, 330, 367, 326, 331, 236, 277, 332, 333, 334, 368, 369, 370, 371, 237, 278, 238, 279, 280, 239, 281, 282, 283, 335, 336, 241, 285, 340, 286, 341, 242, 287, 342, 343, 288, 344, 289, 290, 345, 291, 346, 374, 389, 292, 293, 347, 294, 295, 348, 349, 375, 390, 391, 394, 395, 350, 352, 16, 52, 104, 351, 296, 297, 353, 298, 145, 32, 31, 81, 128, 129, 167, 84, 131, 168, 133, 169, 226, 262, 263, 313, 314, 315, 362, 380, 381, 382, 383, 316, 317, 318, 132, 134, 170, 171, 135, 172, 173, 174, 175, 82] := by kernel_rfl
theorem unf : Tryz.pinned.checked.prog.unfollowed 3 = true := by unfold Program.unfollowed; rw [reach]; kernel_rfl
theorem inPl : Tryz.pinned.checked.prog.inPlace 3 = Rows.machKnownRow.inPlace := by unfold Program.inPlace; rw [reach]; kernel_rfl
theorem recu : Tryz.pinned.checked.prog.recurses 3 = true := by unfold Program.recurses; rw [unf]; rfl
theorem nam : Tryz.pinned.checked.prog.varsNamed 3 = Rows.machKnownRow.named := by unfold Program.varsNamed; rw [reach]; kernel_rfl
theorem gos : Tryz.pinned.checked.prog.goes 3 = false := by unfold Program.goes; rw [reach, unf]; kernel_rfl
theorem fnamed : Tryz.pinned.checked.prog.funcNamed Rows.machKnownRow.func = some 3 := by kernel_rfl
theorem goesBy : false = Rows.machKnownRow.goesBy Tryz.pinned.checked.prog := by
  have h : Rows.machKnownRow.start = .entering := rfl
  unfold OpenClaim.goesBy Program.goesAt Program.goesFrom
  rw [fnamed, Option.any_some, gos, h]
  first | rfl | simp
theorem joined : joinedFacts Tryz.pinned.checked.prog 3 Tryz.f3 (OpenSpec.ofChange Rows.machKnownSpec).bare Rows.machKnownRow = true := by
  unfold joinedFacts
  rw [unf, inPl, recu, nam]
  kernel_rfl
theorem wfT : Rows.machKnownRow.wfByText (OpenSpec.ofChange Rows.machKnownSpec) = true := by kernel_rfl
theorem looks0 : true = Tryz.pinned.checked.prog.looks [] := by kernel_rfl
theorem inst : Tryz.f3.isInstance Tryz.pinned.checked.prog Rows.machKnownRow.origin Rows.machKnownRow.targs := of_decide_eq_true (by kernel_rfl)
theorem wrap : Tryz.f3.isWrapper Tryz.pinned.checked.prog Rows.machKnownRow.wrapper Rows.machKnownRow.mainSum := by unfold Func.isWrapper; first | (rw [if_pos (by decide +kernel)]; kernel_rfl) | (rw [if_neg (by decide +kernel)]; exact ⟨rfl, rfl⟩)
end Go.Proofs.YtfbhoomfhjlbiaaGreatDoor.machKnown
