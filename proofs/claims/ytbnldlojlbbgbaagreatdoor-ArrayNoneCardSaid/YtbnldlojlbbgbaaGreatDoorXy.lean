/- The row's closed facts. -/
import Derived.Test.YtbnldlojlbbgbaaGreatDoorRows
import Derived.JoinedOf
import Derived.SevenTiedAt
import Derived.KernelRfl
set_option linter.unusedVariables false
set_option linter.unusedSimpArgs false

namespace Go.Proofs.YtbnldlojlbbgbaaGreatDoor
set_option linter.unusedVariables false
set_option maxRecDepth 100000
def clo : List Nat := [3, 4, 12, 23, 24, 47, 58, 48, 81, 83, 115, 82, 114, 49, 84, 51, 88, 87, 116, 150, 57, 50, 85, 86, 56, 91, 25, 52, 53, 26, 27, 54, 89, 117, 151, 192, 193, 152, 194, 195, 196, 197, 198, 199, 252, 297, 118, 153, 158, 202, 161, 201, 162, 154, 200, 155, 157, 159, 203, 253, 156, 254, 298, 255, 256, 299, 324, 337, 343, 348, 349, 325, 338, 344, 339, 340, 346, 350, 351, 352, 353, 280, 356, 357, 354, 355, 358, 359, 360, 361, 345, 341, 205, 204, 257, 160, 206, 258, 207, 259, 260, 300, 90, 119, 120, 121, 163, 208, 122, 164, 209, 210, 55, 28, 29, 59, 30, 60, 31, 61, 5, 14, 36, 40, 72, 33, 75, 76, 108, 141, 142, 177, 178, 227, 279, 226, 270, 276, 311, 271, 306, 272, 307, 308, 273, 309, 310, 327, 274, 275, 277, 278, 79, 143, 179, 100, 129, 130, 41, 67, 104, 135, 136, 171, 170, 137, 172, 173, 174, 221, 262, 63, 95, 97, 127, 96, 98, 99, 128, 263, 264, 303, 326, 222, 138, 139, 175, 223, 265, 224, 225, 266, 304, 134, 267, 268, 269, 305, 176, 167, 220, 64, 37, 73, 38, 66, 103, 74, 77, 109, 145, 146, 182, 183, 232, 285, 233, 234, 147, 184, 185, 235, 286, 287, 320, 335, 336, 342, 347, 288, 186, 187, 236, 289, 321, 290, 237, 291, 322, 140, 323, 188, 238, 189, 239, 292, 240, 144, 180, 228, 181, 229, 281, 312, 313, 314, 315, 316, 328, 329, 330, 331, 332, 318, 230, 282, 317, 319, 333, 334, 231, 284, 283, 110, 148, 190, 241, 293, 242, 294, 243, 295, 244, 245, 296, 246, 191, 247, 248, 249, 250, 251, 78, 111, 112, 92, 123, 165, 211, 212, 213, 214, 215, 261, 301, 302, 166, 216, 217, 218, 219, 124, 80, 113, 149, 126, 62, 93, 125, 131, 94, 70, 107, 69, 39, 32, 35, 71, 8, 15, 42, 16, 19, 20, 43, 44, 45, 22, 46, 21, 7, 17, 18, 13, 34, 65, 101, 102, 132, 133, 168, 169, 68, 105, 106, 6, 10, 9, 11]
theorem clo_is : Tryz.prog.closure 3 = clo := by kernel_rfl
theorem k_wf : Rows.arrayNoneRow.wf (OpenSpec.ofChange Rows.arrayNoneSpec) = true := by kernel_rfl
theorem k_lo : laidOutB Tryz.prog = true := by kernel_rfl
theorem k_mr : mapsRowed Tryz.prog = true := by kernel_rfl
theorem k_rr : Tryz.f3.params.all (Tryz.prog.readableRec ·) = true := by kernel_rfl
theorem k_nt : namedTie Tryz.prog Rows.arrayNoneRow.named Rows.arrayNoneSpec.vars = true := by kernel_rfl
theorem k_st : (Tryz.prog.stops == []) = true := by kernel_rfl
theorem k_sk : (Tryz.prog.stopKnobs == []) = true := by kernel_rfl
theorem k_ip : (Rows.arrayNoneRow.inPlace == clo.filterMap fun g => (Tryz.prog.funcs[g]?).bind fun fn => if fn.ours || fn.body.isNone || fn.name == "runtime.NumGoroutine" then some fn.name else Option.none) = true := by kernel_rfl
theorem k_uf : (clo.any fun g => (Tryz.prog.funcs[g]?).any fun fn => match fn.body with | some c => c.unfollowed | Option.none => entryCalls fn) = true := by kernel_rfl
theorem k_vn : (Rows.arrayNoneRow.named == (((clo.flatMap fun g => ((Tryz.prog.funcs[g]?).bind (·.body)).elim [] Code.globalsNamed).eraseDups).filterMap (fun g => (Tryz.prog.globals[g]?).map (·.name)) ++ clo.filterMap fun g => (Tryz.prog.funcs[g]?).bind fun fn => if fn.body.isNone then entryReads.lookup fn.name else Option.none).eraseDups) = true := by kernel_rfl
theorem k_wt : Rows.arrayNoneRow.wfByText (OpenSpec.ofChange Rows.arrayNoneSpec) = true := by kernel_rfl
theorem k_mi : Tryz.prog.mainIs = some (true, "291aad06e3341f257dee0b3699a703cf5ded0476ab2246d3220319107e140432".toList) := by kernel_rfl
theorem k_lk : true = Tryz.prog.looks [] := by kernel_rfl
theorem k_gb : false = Rows.arrayNoneRow.goesBy Tryz.prog := by kernel_rfl
theorem k_sh : Tryz.prog.stopsHeard = true := by kernel_rfl
theorem k_me : Tryz.prog.mayEnter = true := by kernel_rfl
theorem k_lf : (Rows.arrayNoneRow.lifted == Tryz.prog.liftsFinal) = true := by kernel_rfl
theorem k_pk : (Rows.arrayNoneRow.plainKeys == Tryz.prog.plainKeys) = true := by kernel_rfl
theorem k_vf : Rows.arrayNoneRow.veiledFits Tryz.prog Tryz.f3.params.toList (Tryz.f3.params.toList ++ Rows.arrayNoneSpec.plain.varTypes Tryz.prog ++ Tryz.f3.resultTypes.toList) = true := by kernel_rfl
theorem k_pb : (Rows.arrayNoneRow.pinned == Rows.arrayNoneRow.pinnedBy) = true := by kernel_rfl
end Go.Proofs.YtbnldlojlbbgbaaGreatDoor
