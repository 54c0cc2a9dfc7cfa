/- The closed facts of the row, a theorem each: in one declaration they outgrow the memory that a build has. -/
import Derived.Test.YthbiiccblcoogaaGreatDoorRows
import Derived.JoinedOf
import Derived.Stop.Joined
import Derived.KernelRfl
set_option linter.unusedVariables false
set_option linter.unusedSimpArgs false
namespace Go.Proofs.YthbiiccblcoogaaGreatDoor

theorem and_i {a b : Bool} (h : a = true) (k : b = true) : (a && b) = true := by rw [h, k]; rfl

def reach : List FuncId := [3, 4, 5, 12, 13, 26, 51, 80, 27, 32, 64, 65, 66, 107, 167, 250, 187, 278, 280, 188, 118, 182, 276, 183, 184, 185, 277, 315, 76, 121, 380, 411, 37, 279, 361, 39, 53, 55, 92, 29, 52, 81, 82, 123, 195, 124, 83, 125, 84, 126, 196, 85, 114, 86, 87, 127, 130, 204, 129, 203, 128, 197, 291, 332, 237, 227, 245, 324, 385, 312, 379, 311, 293, 292, 322, 221, 294, 295, 369, 296, 138, 370, 297, 198, 200, 301, 372, 403, 402, 404, 406, 440, 405, 408, 442, 459, 441, 458, 463, 464, 407, 77, 122, 191, 192, 287, 286, 288, 193, 194, 289, 290, 367, 368, 373, 409, 443, 444, 410, 445, 199, 222, 302, 298, 299, 300, 371, 224, 309, 310, 378, 304, 374, 201, 141, 223, 225, 202, 143, 226, 131, 205, 206, 207, 303, 136, 219, 220, 132, 178, 270, 351, 391, 422, 395, 423, 429, 424, 452, 425, 447, 448, 426, 453, 454, 461, 427, 428, 430, 431, 271, 272, 352, 396, 432, 433, 455, 434, 435, 456, 457, 462, 436, 437, 438, 439, 353, 354, 208, 305, 209, 306, 375, 376, 377, 358, 210, 179, 273, 355, 397, 356, 398, 399, 175, 266, 346, 265, 344, 389, 345, 390, 413, 419, 451, 414, 446, 415, 416, 449, 450, 460, 417, 418, 420, 421, 174, 264, 357, 213, 307, 359, 360, 400, 133, 112, 146, 115, 180, 274, 181, 275, 134, 211, 212, 63, 88, 135, 214, 216, 217, 215, 218, 308, 90, 71, 89, 137, 139, 140, 142, 91, 144, 145, 158, 228, 229, 28, 54, 14, 30, 56, 93, 57, 96, 148, 160, 239, 240, 238, 316, 317, 327, 337, 381, 318, 319, 320, 382, 147, 383, 163, 243, 244, 162, 242, 164, 246, 325, 326, 247, 248, 249, 328, 329, 386, 331, 330, 387, 230, 165, 31, 61, 104, 105, 159, 106, 161, 241, 323, 321, 384, 166, 62, 94, 95, 59, 98, 151, 232, 233, 314, 234, 231, 313, 100, 33, 153, 99, 152, 235, 58, 97, 149, 150, 60, 101, 154, 102, 155, 103, 157, 156, 236, 6, 15, 16, 8, 20, 7, 17, 18, 34, 67, 108, 168, 169, 251, 333, 334, 170, 252, 253, 255, 254, 335, 109, 171, 256, 336, 172, 259, 258, 257, 68, 69, 110, 111, 113, 173, 260, 261, 338, 388, 412, 120, 189, 281, 362, 363, 190, 282, 364, 283, 284, 366, 401, 365, 285, 262, 263, 339, 340, 343, 341, 342, 176, 267, 347, 392, 177, 268, 269, 348, 349, 393, 350, 394, 70, 72, 116, 117, 19, 9, 21, 35, 73, 36, 74, 119, 186, 75, 22, 38, 10, 23, 40, 43, 42, 46, 41, 45, 44, 78, 79, 24, 47, 49, 48, 25, 50, 11]
theorem reached : Tryz.prog.closure 3 = reach := by kernel_rfl
theorem unfollowed3 : Tryz.prog.unfollowed 3 = true := by
  unfold Program.unfollowed
  rw [reached]
  kernel_rfl
theorem fact0 : (Rows.feedRefusesRow.wf (OpenSpec.ofChange Rows.feedRefusesSpec)) = true := by kernel_rfl
theorem fact1 : (laidOutB Tryz.prog) = true := by kernel_rfl
theorem fact2 : (mapsRowed Tryz.prog) = true := by kernel_rfl
theorem fact3 : (Tryz.f3.params.all (Tryz.prog.readableRec ·)) = true := by kernel_rfl
theorem fact4 : (namedTie Tryz.prog Rows.feedRefusesRow.named Rows.feedRefusesSpec.vars) = true := by kernel_rfl
theorem fact5 : ((Rows.feedRefusesRow.stops == [])) = true := by kernel_rfl
theorem fact6 : ((Tryz.prog.stops == [])) = true := by kernel_rfl
theorem fact7 : ((Rows.feedRefusesRow.knobs == [])) = true := by kernel_rfl
theorem fact8 : ((Tryz.prog.stopKnobs == [])) = true := by kernel_rfl
theorem fact9 : ((Rows.feedRefusesRow.inPlace == Tryz.prog.inPlace 3)) = true := by
  unfold Program.inPlace
  rw [reached]
  kernel_rfl
theorem fact10 : ((Rows.feedRefusesRow.unfollowed == Tryz.prog.unfollowed 3)) = true := by
  rw [unfollowed3]
  rfl
theorem fact11 : ((Rows.feedRefusesRow.recurses == Tryz.prog.recurses 3)) = true := by
  unfold Program.recurses
  rw [unfollowed3]
  rfl
theorem fact12 : ((Rows.feedRefusesRow.named == Tryz.prog.varsNamed 3)) = true := by
  unfold Program.varsNamed
  rw [reached]
  kernel_rfl
theorem fact13 : ((Rows.feedRefusesRow.maps == (Tryz.f3.params.toList ++ Rows.feedRefusesSpec.plain.varTypes Tryz.prog).any (Tryz.prog.mapsRec ·))) = true := by kernel_rfl
theorem fact14 : ((Rows.feedRefusesRow.ifaces == (Tryz.f3.params.toList ++ Rows.feedRefusesSpec.plain.varTypes Tryz.prog).any (Tryz.prog.ifacesRec ·))) = true := by kernel_rfl
theorem fact15 : ((Rows.feedRefusesRow.mapsOut == Tryz.prog.mapsAmong Tryz.f3.resultTypes.toList)) = true := by kernel_rfl
theorem fact16 : ((Rows.feedRefusesRow.loops == (Tryz.f3.params.toList ++ Rows.feedRefusesSpec.plain.varTypes Tryz.prog).any (Tryz.prog.loopsFrom ·))) = true := by kernel_rfl
theorem fact17 : ((Rows.feedRefusesRow.wideKeys == (Tryz.f3.params.toList ++ Rows.feedRefusesSpec.plain.varTypes Tryz.prog ++ Tryz.f3.resultTypes.toList).any (Tryz.prog.wideKeysFrom ·))) = true := by kernel_rfl
theorem fact18 : (Rows.feedRefusesSpec.vars.all (Tryz.prog.varReadable ·)) = true := by kernel_rfl
theorem fact19 : (Tryz.f3.resultTypes.all (fun t => Tryz.prog.readableRec t && decide (t < Tryz.prog.types.size))) = true := by kernel_rfl
theorem fact20 : ((Rows.feedRefusesRow.ifacesOut == Tryz.f3.resultTypes.toList.any (Tryz.prog.ifacesRec ·))) = true := by kernel_rfl
theorem fact21 : ((Rows.feedRefusesRow.loopsOut == Tryz.f3.resultTypes.toList.any (Tryz.prog.loopsFrom ·))) = true := by kernel_rfl
theorem fact22 : ((Rows.feedRefusesRow.plainKeys == Tryz.prog.plainKeys)) = true := by kernel_rfl
theorem fact23 : (Rows.feedRefusesRow.shortTexts.isNone) = true := by kernel_rfl
theorem fact24 : (Tryz.prog.stopsHeard) = true := by kernel_rfl
theorem fact25 : (Tryz.prog.mayEnter) = true := by kernel_rfl
theorem fact26 : ((Rows.feedRefusesRow.lifted == Tryz.prog.liftsFinal)) = true := by kernel_rfl
theorem fact27 : ((Tryz.prog.make == some Rows.feedRefusesRow.make)) = true := by kernel_rfl
theorem fact28 : ((Rows.feedRefusesRow.kinds == (if Rows.feedRefusesRow.domain.isEmpty then [] else Tryz.f3.params.toList.map fun t => match Tryz.prog.underlying t with | some (.int k) => some k | _ => none))) = true := by kernel_rfl
theorem fact29 : ((Rows.feedRefusesRow.pinned == Rows.feedRefusesRow.pinnedBy)) = true := by kernel_rfl
theorem fact30 : ((Rows.feedRefusesRow.veiled == (Tryz.f3.params.toList ++ Rows.feedRefusesSpec.plain.varTypes Tryz.prog ++ Tryz.f3.resultTypes.toList).any (Tryz.prog.veiledRec ·))) = true := by kernel_rfl
theorem fact31 : (Rows.feedRefusesRow.veiledFits Tryz.prog Tryz.f3.params.toList (Tryz.f3.params.toList ++ Rows.feedRefusesSpec.plain.varTypes Tryz.prog ++ Tryz.f3.resultTypes.toList)) = true := by kernel_rfl

set_option maxRecDepth 100000 in
theorem facts : joinedFacts Tryz.prog 3 Tryz.f3 Rows.feedRefusesSpec Rows.feedRefusesRow = true := by
  unfold joinedFacts
  exact and_i (and_i (and_i (and_i (and_i (and_i (and_i (and_i (and_i (and_i (and_i (and_i (and_i (and_i (and_i (and_i (and_i (and_i (and_i (and_i (and_i (and_i (and_i (and_i (and_i (and_i (and_i (and_i (and_i (and_i (and_i fact0 fact1) fact2) fact3) fact4) fact5) fact6) fact7) fact8) fact9) fact10) fact11) fact12) fact13) fact14) fact15) fact16) fact17) fact18) fact19) fact20) fact21) fact22) fact23) fact24) fact25) fact26) fact27) fact28) fact29) fact30) fact31
#print axioms facts
end Go.Proofs.YthbiiccblcoogaaGreatDoor
