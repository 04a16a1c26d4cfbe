/- The row's closed facts. -/
import Derived.Test.YtpillpddioldbaaGreatDoorRows
import Derived.JoinedOf
import Derived.SevenTiedAt
import Derived.KernelRfl
set_option linter.unusedVariables false
set_option linter.unusedSimpArgs false

namespace Go.Proofs.YtpillpddioldbaaGreatDoor
set_option linter.unusedVariables false
set_option maxRecDepth 100000
def clo : List Nat := [3, 4, 6, 13, 14, 36, 47, 37, 88, 53, 107, 89, 140, 38, 90, 40, 94, 93, 141, 185, 46, 39, 91, 92, 45, 97, 15, 41, 42, 16, 43, 95, 142, 186, 246, 247, 187, 248, 249, 250, 251, 252, 253, 297, 326, 143, 188, 193, 256, 196, 255, 197, 189, 254, 190, 192, 194, 257, 298, 191, 299, 327, 300, 301, 328, 340, 343, 349, 353, 354, 341, 344, 350, 345, 346, 352, 355, 356, 357, 358, 275, 361, 362, 359, 360, 363, 364, 365, 366, 351, 347, 259, 258, 287, 195, 260, 302, 261, 303, 304, 329, 96, 144, 145, 146, 198, 262, 147, 199, 263, 264, 44, 17, 18, 48, 7, 19, 8, 20, 21, 49, 22, 23, 24, 50, 98, 99, 148, 149, 201, 274, 200, 265, 271, 310, 266, 305, 267, 306, 307, 268, 308, 309, 330, 269, 270, 272, 273, 28, 100, 150, 51, 101, 102, 11, 33, 71, 72, 122, 121, 73, 123, 124, 125, 171, 237, 30, 63, 65, 115, 64, 66, 67, 116, 238, 239, 294, 325, 172, 74, 75, 126, 173, 240, 174, 175, 241, 295, 169, 242, 243, 244, 296, 127, 128, 176, 25, 26, 52, 104, 105, 153, 154, 206, 280, 207, 208, 106, 155, 156, 209, 281, 282, 319, 338, 339, 342, 348, 283, 157, 158, 210, 284, 320, 285, 211, 286, 321, 170, 322, 159, 212, 160, 213, 288, 214, 103, 151, 202, 152, 203, 276, 311, 312, 313, 314, 315, 331, 332, 333, 334, 335, 317, 204, 277, 316, 318, 336, 337, 205, 279, 278, 54, 108, 161, 215, 289, 216, 290, 217, 291, 218, 219, 292, 220, 162, 221, 222, 223, 224, 225, 27, 55, 57, 60, 111, 164, 226, 227, 228, 229, 230, 293, 323, 324, 165, 231, 232, 233, 234, 112, 56, 109, 163, 114, 29, 61, 113, 166, 62, 58, 110, 59, 10, 32, 69, 117, 118, 167, 168, 235, 236, 70, 119, 120, 31, 68, 5, 12, 34, 76, 129, 177, 130, 131, 132, 133, 77, 135, 136, 78, 134, 178, 137, 179, 245, 183, 180, 138, 181, 182, 35, 79, 84, 80, 82, 81, 139, 184, 83, 85, 86, 87, 9]
theorem clo_is : Tryz.prog.closure 3 = clo := by kernel_rfl
theorem k_wf : Rows.txnLocksRow.wf (OpenSpec.ofChange Rows.txnLocksSpec) = true := by kernel_rfl
theorem k_lo : laidOutB Tryz.prog = true := by kernel_rfl
theorem k_mr : mapsRowed Tryz.prog = true := by kernel_rfl
theorem k_rr : Tryz.f3.params.all (Tryz.prog.readableRec ·) = true := by kernel_rfl
theorem k_nt : namedTie Tryz.prog Rows.txnLocksRow.named Rows.txnLocksSpec.vars = true := by kernel_rfl
theorem k_st : (Tryz.prog.stops == []) = true := by kernel_rfl
theorem k_sk : (Tryz.prog.stopKnobs == []) = true := by kernel_rfl
theorem k_ip : (Rows.txnLocksRow.inPlace == clo.filterMap fun g => (Tryz.prog.funcs[g]?).bind fun fn => if fn.ours || fn.body.isNone || fn.name == "runtime.NumGoroutine" then some fn.name else Option.none) = true := by kernel_rfl
theorem k_uf : (clo.any fun g => (Tryz.prog.funcs[g]?).any fun fn => match fn.body with | some c => c.unfollowed | Option.none => entryCalls fn) = true := by kernel_rfl
theorem k_vn : (Rows.txnLocksRow.named == (((clo.flatMap fun g => ((Tryz.prog.funcs[g]?).bind (·.body)).elim [] Code.globalsNamed).eraseDups).filterMap (fun g => (Tryz.prog.globals[g]?).map (·.name)) ++ clo.filterMap fun g => (Tryz.prog.funcs[g]?).bind fun fn => if fn.body.isNone then entryReads.lookup fn.name else Option.none).eraseDups) = true := by kernel_rfl
theorem k_wt : Rows.txnLocksRow.wfByText (OpenSpec.ofChange Rows.txnLocksSpec) = true := by kernel_rfl
theorem k_mi : Tryz.prog.mainIs = some (true, "e8dc2976ebbc5c7e5c2c8641b706a4c0861a2905910314a3bb988ce130924a0d".toList) := by kernel_rfl
theorem k_lk : true = Tryz.prog.looks [] := by kernel_rfl
theorem k_gb : false = Rows.txnLocksRow.goesBy Tryz.prog := by kernel_rfl
theorem k_sh : Tryz.prog.stopsHeard = true := by kernel_rfl
theorem k_me : Tryz.prog.mayEnter = true := by kernel_rfl
theorem k_lf : (Rows.txnLocksRow.lifted == Tryz.prog.liftsFinal) = true := by kernel_rfl
theorem k_pk : (Rows.txnLocksRow.plainKeys == Tryz.prog.plainKeys) = true := by kernel_rfl
theorem k_vf : Rows.txnLocksRow.veiledFits Tryz.prog Tryz.f3.params.toList (Tryz.f3.params.toList ++ Rows.txnLocksSpec.plain.varTypes Tryz.prog ++ Tryz.f3.resultTypes.toList) = true := by kernel_rfl
theorem k_pb : (Rows.txnLocksRow.pinned == Rows.txnLocksRow.pinnedBy) = true := by kernel_rfl
end Go.Proofs.YtpillpddioldbaaGreatDoor
