/- What the row says of the program: the functions that it reaches, named once. -/
import Derived.Test.YtdkfimmhgpeimaaGreatDoorCards
import Derived.Test.YtdkfimmhgpeimaaGreatDoorLeav
import Derived.JoinedOf
namespace Go.Proofs.YtdkfimmhgpeimaaGreatDoor.queryKnown
open Go
set_option linter.unusedVariables false
set_option maxRecDepth 100000
theorem reach : Tryz.pinned.checked.prog.closure 8 = [8, 26, 28, 47, 99, 100, 68, 75, 146, 211, 133, 147, 212, 148, 213, 57, 103, 170, 234, 291, 290, 292, 294, 359, 293, 296, 361, 413, 281, 350, 360, 412, 302, 274, 348, 452, 276, 275, 295, 171, 235, 130, 25, 101, 102, 169, 225, 215, 277, 349, 153, 216, 233, 286, 287, 355, 354, 356, 288, 289, 357, 358, 410, 411, 104, 172, 105, 106, 48, 107, 173, 174, 109, 108, 175, 176, 177, 110, 178, 111, 49, 50, 33, 30, 79, 54, 124, 187, 239, 240, 298, 241, 299, 362, 300, 242, 301, 188, 243, 303, 304, 244, 305, 306, 307, 308, 309, 351, 404, 364, 363, 405, 449, 462, 463, 353, 406, 450, 407, 408, 451, 409, 310, 311, 312, 313, 314, 125, 189, 245, 190, 66, 315, 17, 316, 317, 319, 67, 135, 199, 16, 65, 318, 320, 365, 367, 414, 366, 321, 247, 246, 51, 112, 179, 180, 139, 205, 262, 263, 325, 264, 60, 131, 63, 134, 69, 113, 59, 115, 114, 181, 182, 236, 297, 78, 52, 116, 183, 184, 121, 237, 238, 117, 123, 118, 119, 120, 128, 193, 185, 122, 186, 34, 29, 15, 58, 61, 62, 132, 64, 32, 19, 70, 136, 200, 257, 258, 137, 201, 259, 74, 140, 204, 144, 209, 260, 323, 261, 324, 210, 370, 421, 422, 371, 423, 206, 73, 145, 71, 141, 202, 138, 203, 72, 142, 143, 207, 265, 326, 373, 372, 327, 374, 158, 220, 376, 377, 375, 424, 267, 266, 268, 270, 269, 271, 328, 283, 94, 162, 226, 93, 161, 223, 280, 224, 282, 336, 91, 160, 166, 232, 222, 279, 96, 98, 378, 379, 329, 330, 272, 331, 380, 427, 426, 454, 428, 455, 429, 456, 425, 430, 332, 381, 431, 432, 433, 457, 458, 459, 460, 333, 382, 334, 383, 384, 335, 385, 386, 387, 434, 435, 337, 388, 436, 389, 437, 338, 390, 438, 439, 391, 440, 392, 393, 402, 394, 441, 339, 168, 395, 396, 442, 397, 398, 443, 444, 461, 468, 469, 470, 471, 445, 447, 20, 76, 149, 446, 399, 400, 448, 401, 208, 80, 150, 81, 151, 214, 273, 340, 341, 346, 403, 342, 347, 343, 344, 345, 31, 24, 35, 23] := by kernel_rfl
theorem unf : Tryz.pinned.checked.prog.unfollowed 8 = true := by unfold Program.unfollowed; rw [reach]; kernel_rfl
theorem inPl : Tryz.pinned.checked.prog.inPlace 8 = Rows.queryKnownRow.inPlace := by unfold Program.inPlace; rw [reach]; kernel_rfl
theorem recu : Tryz.pinned.checked.prog.recurses 8 = true := by unfold Program.recurses; rw [unf]; rfl
theorem nam : Tryz.pinned.checked.prog.varsNamed 8 = Rows.queryKnownRow.named := by unfold Program.varsNamed; rw [reach]; kernel_rfl
theorem gos : Tryz.pinned.checked.prog.goes 8 = true := by unfold Program.goes; rw [reach, unf]; kernel_rfl
theorem fnamed : Tryz.pinned.checked.prog.funcNamed Rows.queryKnownRow.func = some 8 := by kernel_rfl
theorem goesBy : true = Rows.queryKnownRow.goesBy Tryz.pinned.checked.prog := by
  unfold OpenClaim.goesBy Program.goesAt Program.goesFrom
  rw [fnamed, Option.any_some, gos, Bool.true_or]
def row0 : OpenClaim := { Rows.queryKnownRow with leaving := false }
theorem joined : joinedFacts Tryz.pinned.checked.prog 8 Tryz.f8 (OpenSpec.ofChange Rows.queryKnownSpec).bare row0 = true := by
  unfold joinedFacts
  rw [unf, inPl, recu, nam]
  kernel_rfl
theorem wf0 : Rows.queryKnownRow.wf (OpenSpec.ofChange Rows.queryKnownSpec) = true := by kernel_rfl
theorem wfT : Rows.queryKnownRow.wfByText (OpenSpec.ofChange Rows.queryKnownSpec) = true := by kernel_rfl
theorem looks0 : true = Tryz.pinned.checked.prog.looks [] := by kernel_rfl
theorem inst : Tryz.f8.isInstance Tryz.pinned.checked.prog row0.origin row0.targs := of_decide_eq_true (by kernel_rfl)
theorem wrap : Tryz.f8.isWrapper Tryz.pinned.checked.prog row0.wrapper row0.mainSum := by unfold Func.isWrapper; first | (rw [if_pos (by decide +kernel)]; kernel_rfl) | (rw [if_neg (by decide +kernel)]; exact ⟨rfl, rfl⟩)
end Go.Proofs.YtdkfimmhgpeimaaGreatDoor.queryKnown
