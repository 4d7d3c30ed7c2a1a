/- What the row says of the program: the functions that it reaches, named once. -/
import Derived.Test.YtjnagmdbkkccpaaGreatDoorCards
import Derived.Test.YtjnagmdbkkccpaaGreatDoorTie
import Derived.Deep.DeepHandedRow
import Derived.JoinedOf
import Derived.SevenTiedAt
namespace Go.Proofs.YtjnagmdbkkccpaaGreatDoor.taleKnown
open Go
set_option linter.unusedVariables false
set_option maxRecDepth 100000
theorem reach : Tryz.pinned.checked.prog.closure 3 = [3, 4, 5, 8, 16, 44, 7, 15, 41, 69, 70, 98, 42, 71, 43, 72, 99, 143, 100, 101, 102, 144, 9, 17, 45, 18, 19, 46, 47, 74, 106, 105, 107, 109, 146, 108, 111, 148, 183, 147, 182, 211, 212, 110, 75, 112, 149, 184, 213, 214, 113, 150, 185, 151, 152, 40, 68, 62, 87, 88, 124, 123, 125, 89, 90, 126, 127, 157, 158, 186, 153, 73, 24, 53, 54, 81, 103, 145, 181, 104, 29, 56, 31, 59, 82, 33, 58, 117, 154, 12, 14, 48, 49, 76, 63, 91, 10, 20, 21, 51, 50, 77, 114, 79, 78, 115, 80, 116, 22, 23, 52, 25, 55, 26, 27, 11, 28, 30, 32, 57, 13, 35, 34, 37, 36, 60, 83, 118, 84, 119, 155, 61, 85, 120, 86, 122, 141, 180, 121, 156, 159, 188, 189, 224, 190, 225, 265, 226, 191, 227, 187, 215, 216, 217, 246, 268, 284, 262, 222, 264, 160, 192, 228, 229, 193, 230, 231, 232, 233, 234, 266, 235, 236, 237, 238, 239, 218, 263, 223, 219, 220, 196, 221, 38, 39, 64, 65, 92, 128, 129, 161, 194, 162, 210, 240, 198, 241, 242, 244, 252, 272, 285, 243, 245, 267, 195, 93, 130, 163, 131, 94, 132, 164, 165, 166, 197, 247, 248, 269, 249, 133, 167, 134, 136, 135, 168, 169, 199, 250, 66, 95, 96, 137, 138, 170, 171, 172, 200, 173, 67, 97, 139, 174, 201, 251, 270, 271, 202, 253, 273, 178, 204, 256, 208, 260, 274, 286, 275, 287, 261, 300, 332, 333, 301, 334, 257, 177, 209, 175, 205, 254, 203, 255, 176, 206, 207, 258, 276, 288, 303, 302, 289, 304, 306, 307, 305, 335, 278, 277, 279, 281, 280, 282, 290, 308, 309, 291, 292, 283, 293, 310, 338, 337, 361, 339, 362, 340, 363, 336, 341, 294, 311, 342, 343, 344, 364, 365, 366, 367, 295, 312, 296, 313, 314, 297, 315, 316, 317, 345, 346, 298, 318, 347, 319, 348, 299, 320, 349, 350, 321, 351, 322, 323, 324, 352, 325, 326, 353, 327, 328, 354, 355, 368, 370, 371, 373, 374, 356, 358, 359, 369, 372, 357, 329, 330, 360, 331, 259, 140, 179, 142, 6] := by kernel_rfl
theorem unf : Tryz.pinned.checked.prog.unfollowed 3 = true := by unfold Program.unfollowed; rw [reach]; kernel_rfl
theorem inPl : Tryz.pinned.checked.prog.inPlace 3 = Rows.taleKnownRow.inPlace := by unfold Program.inPlace; rw [reach]; kernel_rfl
theorem recu : Tryz.pinned.checked.prog.recurses 3 = true := by unfold Program.recurses; rw [unf]; rfl
theorem nam : Tryz.pinned.checked.prog.varsNamed 3 = Rows.taleKnownRow.named := by unfold Program.varsNamed; rw [reach]; kernel_rfl
theorem gos : Tryz.pinned.checked.prog.goes 3 = false := by unfold Program.goes; rw [reach, unf]; kernel_rfl
theorem fnamed : Tryz.pinned.checked.prog.funcNamed Rows.taleKnownRow.func = some 3 := by kernel_rfl
theorem goesBy : false = Rows.taleKnownRow.goesBy Tryz.pinned.checked.prog := by
  have h : Rows.taleKnownRow.start = .entering := rfl
  unfold OpenClaim.goesBy Program.goesAt Program.goesFrom
  rw [fnamed, Option.any_some, gos, h]
  first | rfl | simp
theorem joined : joinedFacts Tryz.pinned.checked.prog 3 Tryz.f3 (OpenSpec.ofChange Rows.taleKnownSpec).bare Rows.taleKnownRow = true := by
  unfold joinedFacts
  rw [unf, inPl, recu, nam]
  kernel_rfl
theorem wfT : Rows.taleKnownRow.wfByText (OpenSpec.ofChange Rows.taleKnownSpec) = true := by kernel_rfl
theorem looks0 : true = Tryz.pinned.checked.prog.looks [] := by kernel_rfl
theorem inst : Tryz.f3.isInstance Tryz.pinned.checked.prog Rows.taleKnownRow.origin Rows.taleKnownRow.targs := of_decide_eq_true (by kernel_rfl)
theorem wrap : Tryz.f3.isWrapper Tryz.pinned.checked.prog Rows.taleKnownRow.wrapper Rows.taleKnownRow.mainSum := by unfold Func.isWrapper; first | (rw [if_pos (by decide +kernel)]; kernel_rfl) | (rw [if_neg (by decide +kernel)]; exact ⟨rfl, rfl⟩)
end Go.Proofs.YtjnagmdbkkccpaaGreatDoor.taleKnown
