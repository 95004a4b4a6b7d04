/- The program's tables: its types, the functions' entries, the slots that live behind each region. Written by wip/eng/eg.py. -/
import Derived.Test.YtjpeblicfhfniaaDoorProg
import Derived.Test.YtjpeblicfhfniaaDoorEngY
namespace Go.Proofs.YtjpeblicfhfniaaDoor.EngTabP
open Go.Proofs.YtjpeblicfhfniaaDoor.Eng
set_option maxRecDepth 100000
theorem mixed : Tryd.prog.follows .mixedOrders = true := by rfl
theorem ty2 : TyOk Tryd.prog (.int .i64) 2 := .int Tryd.underlying2 (.mk (n := 8) (by kernel_rfl) (by decide) (by decide))
theorem ty4 : TyOk Tryd.prog (.bool) 4 := .bool Tryd.underlying4 (.mk (n := 1) (by kernel_rfl) (by decide) (by decide))
theorem ty9 : TyOk Tryd.prog (.str) 9 := .str Tryd.underlying9 (.mk (n := 16) (by kernel_rfl) (by decide) (by decide))
theorem ty3 : TyOk Tryd.prog (.int .i64) 3 := .int Tryd.underlying3 (.mk (n := 8) (by kernel_rfl) (by decide) (by decide))
theorem ty5 : TyOk Tryd.prog (.int .u8) 5 := .int Tryd.underlying5 (.mk (n := 1) (by kernel_rfl) (by decide) (by decide))
theorem ty22 : TyOk Tryd.prog (.sl (.str)) 22 := .sl Tryd.underlying22 ty9 (.mk (n := 24) (by kernel_rfl) (by decide) (by decide))
theorem ty29 : TyOk Tryd.prog (.pair (.int .i64) (.pair (.int .i64) (.pair (.str) (.pair (.str) (.pair (.int .i64) (.pair (.int .i64) (.pair (.str) (.unit)))))))) 29 := .struct Tryd.underlying29 (.cons rfl ty2 (.cons rfl ty2 (.cons rfl ty9 (.cons rfl ty9 (.cons rfl ty2 (.cons rfl ty2 (.cons rfl ty9 (.nil)))))))) (.mk (n := 80) (by kernel_rfl) (by decide) (by decide))
theorem ty21 : TyOk Tryd.prog (.int .i32) 21 := .int Tryd.underlying21 (.mk (n := 4) (by kernel_rfl) (by decide) (by decide))
theorem ty42 : TyOk Tryd.prog (.pair (.int .i64) (.pair (.str) (.unit))) 42 := .struct Tryd.underlying42 (.cons rfl ty2 (.cons rfl ty9 (.nil))) (.mk (n := 24) (by kernel_rfl) (by decide) (by decide))
theorem ty48 : TyOk Tryd.prog (.mp (.str) (.pair (.int .i64) (.pair (.str) (.unit)))) 48 := .mp Tryd.underlying48 ty9 ty42 (.mk (n := 8) (by kernel_rfl) (by decide) (by decide))
theorem ty54 : TyOk Tryd.prog (.arr 256 (.bool)) 54 := .arr Tryd.underlying54 ty4 (.mk (n := 256) (by kernel_rfl) (by decide) (by decide))
theorem ty58 : TyOk Tryd.prog (.ptr (.arr 256 (.bool))) 58 := .ptr Tryd.underlying58 ty54 (.mk (n := 8) (by kernel_rfl) (by decide) (by decide))
def tab : Tab := Tab.of [(2, .int .i64), (4, .bool), (9, .str), (3, .int .i64), (5, .int .u8), (22, .sl (.str)), (29, .pair (.int .i64) (.pair (.int .i64) (.pair (.str) (.pair (.str) (.pair (.int .i64) (.pair (.int .i64) (.pair (.str) (.unit)))))))), (21, .int .i32), (42, .pair (.int .i64) (.pair (.str) (.unit))), (48, .mp (.str) (.pair (.int .i64) (.pair (.str) (.unit)))), (54, .arr 256 (.bool)), (58, .ptr (.arr 256 (.bool)))] []
theorem tabOk : TabOk Tryd.prog tab := .of (by
  simp only [List.mem_cons, List.not_mem_nil, or_false, forall_eq_or_imp, forall_eq]
  exact ⟨ty2, ty4, ty9, ty3, ty5, ty22, ty29, ty21, ty42, ty48, ty54, ty58⟩)
/-! 4: loop.example/s01595/laws.FnExactParseLine, params [9], results [4], calls [10, 11, 12], alloc assign binOp.gtr binOp.neq call call.len extract load move pick store unOp -/
theorem en4 : Enters Tryd.prog 4 := .mk Tryd.func4 (by rfl) rfl
def lv4 := tblN [(0, [0]), (1, [0, 9]), (2, [2]), (3, [0, 3, 4]), (4, [3, 4, 5, 6]), (5, [28]), (6, [2]), (7, [2])]
def hd4 := tbl1 []
/-! 10: loop.example/s01595/spec.ParseLine, params [9], results [29, 2], calls [13, 18, 19, 20], alloc assign binOp.add binOp.eql binOp.gtr binOp.lss binOp.neq build call call.len extract fieldAddr index indexAddr load move pick store unOp -/
theorem en10 : Enters Tryd.prog 10 := .mk Tryd.func10 (by rfl) rfl
def lv10 := tblN [(0, [0, 2]), (1, [0, 2, 16]), (2, [2, 3]), (3, [0, 2, 4]), (4, [0, 2, 4, 21]), (5, [0, 2, 4]), (6, [0, 2, 4, 33]), (7, [2, 3]), (8, [2, 5]), (9, [2, 5, 6, 7]), (10, [2, 5, 6, 7, 53]), (11, [2, 3]), (12, [2, 5, 7, 8]), (13, [2, 5, 7, 8, 9]), (14, [2, 5, 7, 8, 9, 60]), (15, [2, 5, 7, 8, 9]), (16, [2, 5, 7, 8, 9, 10]), (17, [2, 5, 7, 8, 9, 10, 11, 12]), (18, [2, 5, 7, 8, 9, 10, 11, 12, 13]), (19, [2, 5, 7, 8, 9, 10, 11, 12, 13, 77]), (20, [2, 5, 7, 8, 9, 10, 11, 12, 13, 77, 78]), (21, [2, 5, 7, 8, 9, 11, 13]), (22, [2, 5, 7, 8, 9, 13]), (23, [2, 5, 7, 8, 9, 10, 11, 12, 13, 77, 87]), (24, [2, 5, 7, 8, 9, 11, 13]), (25, [2, 5, 7, 8, 9, 13]), (26, [2, 5, 7, 8, 9, 10, 11, 12, 13, 77, 96]), (27, [2, 5, 7, 8, 9, 11, 13]), (28, [2, 5, 7, 8, 9, 13]), (29, [2, 5, 7, 8, 9, 10, 13, 77, 105]), (30, [2, 5, 7, 8, 9, 13]), (31, [2, 5, 7, 8, 9, 10, 13, 77, 109]), (32, [2, 5, 7, 8, 9, 13]), (33, [2, 5, 7, 8, 9, 10, 13, 77, 113]), (34, [2, 5, 7, 8, 9, 10, 13]), (35, [2, 5, 7, 8, 9, 13]), (36, [2, 5, 7, 8, 9, 10, 13, 77, 120]), (37, [2, 5, 7, 8, 9, 10, 13]), (38, [2, 5, 7, 8, 9, 13]), (39, [2, 5, 7, 8, 9, 10, 13, 127]), (40, [2, 5, 7, 8, 9, 10, 130]), (41, [2, 5, 7, 8, 9, 10, 13]), (42, [2, 5, 7, 8, 9, 10, 13]), (43, [2, 5, 7, 8, 9, 13]), (44, [2, 5, 7, 8, 9, 139]), (45, [2, 3]), (46, [2, 3])]
def hd10 := tbl1 []
/-! 11: loop.example/s01595/impl.ParseLine, params [9], results [29, 2], calls [15, 21, 22, 23], alloc assign binOp.add binOp.eql binOp.gtr binOp.lss binOp.neq binOp.sub build call call.len extract fieldAddr index indexAddr load move next pick range slice store unOp -/
theorem en11 : Enters Tryd.prog 11 := .mk Tryd.func11 (by rfl) rfl
def lv11 := tblN [(0, [0, 2]), (1, [0, 2, 14]), (2, [2, 3]), (3, [0, 2, 17]), (4, [0, 2, 17, 18, 19]), (5, [0, 2, 5, 17]), (6, [0, 2, 17, 26]), (7, [2, 3]), (8, [2, 6]), (9, [2, 6, 7, 8]), (10, [2, 6, 7, 8, 47]), (11, [2, 3]), (12, [2, 6, 7, 8, 9]), (13, [2, 7, 8, 9, 53, 54, 55]), (14, [2, 7, 8, 9, 53, 54, 55, 56]), (15, [2, 7, 8, 9, 10, 11, 53, 54, 55]), (16, [2, 7, 8, 9, 10, 11, 53, 54, 55, 61]), (17, [2, 8, 9]), (18, [2, 7, 8, 9, 11, 53, 54, 55, 65]), (19, [2, 7, 8, 9, 11, 53, 54, 55, 65, 66]), (20, [2, 7, 8, 9, 53, 54, 55]), (21, [2, 7, 8, 9, 11, 53, 54, 55, 65, 74]), (22, [2, 7, 8, 9, 53, 54, 55]), (23, [2, 7, 8, 9, 11, 53, 54, 55, 65, 82]), (24, [2, 7, 8, 9, 53, 54, 55]), (25, [2, 7, 8, 9, 11, 53, 54, 55, 65, 90]), (26, [2, 7, 8, 9, 53, 54, 55]), (27, [2, 7, 8, 9, 11, 53, 54, 55, 65, 94]), (28, [2, 7, 8, 9, 53, 54, 55]), (29, [2, 7, 8, 9, 11, 53, 54, 55, 65, 98]), (30, [2, 7, 8, 9, 11, 53, 54, 55]), (31, [2, 7, 8, 9, 53, 54, 55]), (32, [2, 7, 8, 9, 11, 53, 54, 55, 65, 105]), (33, [2, 7, 8, 9, 11, 53, 54, 55]), (34, [2, 7, 8, 9, 53, 54, 55]), (35, [2, 7, 8, 9, 11, 53, 54, 55, 112]), (36, [2, 7, 8, 9, 11, 53, 54, 55]), (37, [2, 7, 8, 9, 11, 53, 54, 55, 117]), (38, [2, 7, 8, 9, 11, 53, 54, 55]), (39, [2, 7, 8, 9, 53, 54, 55]), (40, [2, 7, 8, 9, 53, 54, 55, 124]), (41, [2, 7, 8, 9, 53, 54, 55]), (42, [2, 9, 127]), (43, [2, 3]), (44, [2, 3])]
def hd11 := tbl1 []
/-! 12: loop.example/s01595/laws.eqCommand, params [29, 29], results [4], calls [], assign binOp.neq box fieldAddr load -/
theorem en12 : Enters Tryd.prog 12 := .mk Tryd.func12 (by rfl) rfl
def lv12 := tblN [(0, [2, 3]), (1, [2, 3, 9]), (2, [4]), (3, [2, 3, 14]), (4, [4]), (5, [2, 3, 19]), (6, [4]), (7, [2, 3, 24]), (8, [4]), (9, [2, 3, 29]), (10, [4]), (11, [2, 3, 34]), (12, [4]), (13, [39]), (14, [4]), (15, [4])]
def hd12 := tbl1 []
/-! 18: loop.example/s01595/spec.l6Word, params [9], results [2, 9], calls [], assign binOp.eql move -/
theorem en18 : Enters Tryd.prog 18 := .mk Tryd.func18 (by rfl) rfl
def lv18 := tblN [(0, [0]), (1, [4]), (2, [4, 5]), (3, [2, 3]), (4, [4, 7]), (5, [2, 3]), (6, [4, 9]), (7, [2, 3]), (8, [4, 11]), (9, [2, 3]), (10, [4, 13]), (11, [2, 3]), (12, [4, 15]), (13, [2, 3]), (14, [4, 17]), (15, [2, 3]), (16, [4, 19]), (17, [2, 3]), (18, [4, 21]), (19, [2, 3]), (20, [4, 23]), (21, [2, 3]), (22, [4, 25]), (23, [2, 3]), (24, [4, 27]), (25, [2, 3]), (26, [29]), (27, [2, 3]), (28, [2, 3])]
def hd18 := tbl1 []
/-! 19: loop.example/s01595/spec.l6Number, params [9], results [2, 4], calls [], assign binOp.add binOp.eql binOp.gtr binOp.lss binOp.mul binOp.sub call.len convert index move pick -/
theorem en19 : Enters Tryd.prog 19 := .mk Tryd.func19 (by rfl) rfl
def lv19 := tblN [(0, [0]), (1, [0, 23]), (2, [2, 3]), (3, [0, 4]), (4, [0, 4, 5]), (5, [0, 4, 5, 27]), (6, [0, 4, 5]), (7, [0, 4, 5, 39]), (8, [2, 3]), (9, [0, 4, 5]), (10, [2, 3])]
def hd19 := tbl1 []
/-! 20: loop.example/s01595/spec.l6MaskOK, params [9], results [4], calls [], assign binOp.add binOp.gtr binOp.lss binOp.neq call.len index move pick -/
theorem en20 : Enters Tryd.prog 20 := .mk Tryd.func20 (by rfl) rfl
def lv20 := tblN [(0, [0]), (1, [0, 11]), (2, [2]), (3, [0, 3]), (4, [0, 3, 15]), (5, [0, 3]), (6, [0, 3, 27]), (7, [2]), (8, [2])]
def hd20 := tbl1 []
/-! 21: loop.example/s01595/impl.wordOf, params [9], results [42, 4], calls [], alloc assign build extract insert load lookup makeMap move store -/
theorem en21 : Enters Tryd.prog 21 := .mk Tryd.func21 (by rfl) rfl
def lv21 := tblN [(0, [0, 2]), (1, [0, 2, 4]), (2, [2, 5, 6]), (3, [2, 3])]
def hd21 := tbl1 []
/-! 22: loop.example/s01595/impl.decimal, params [9], results [2, 4], calls [], assign binOp.add binOp.eql binOp.gtr binOp.lss binOp.mul binOp.sub call.len convert extract index move next pick range -/
theorem en22 : Enters Tryd.prog 22 := .mk Tryd.func22 (by rfl) rfl
def lv22 := tblN [(0, [0]), (1, [0, 24]), (2, [2, 3]), (3, [0, 4]), (4, [4, 26]), (5, [4, 26, 27, 28]), (6, [4, 6, 26]), (7, [4, 6, 26, 35]), (8, [2, 3]), (9, [4, 26]), (10, [2, 3])]
def hd22 := tbl1 []
/-! 23: loop.example/s01595/impl.goodMask, params [9], results [4], calls [26], assign binOp.eql binOp.geq binOp.leq call call.len move pick -/
theorem en23 : Enters Tryd.prog 23 := .mk Tryd.func23 (by rfl) rfl
def lv23 := tblN [(0, [0]), (1, [0, 4]), (2, [2]), (3, [2])]
def hd23 := tbl1 []
/-! 26: strings.Trim, params [9, 9], results [9], calls [30, 31, 32, 33, 34, 35, 36], alloc assign binOp.eql binOp.lss call call.len extract index move pick store -/
theorem en26 : Enters Tryd.prog 26 := .mk Tryd.func26 (by rfl) rfl
def ot26_4 : OT := .alt 0 (.alt 1 (.alt 2 (.alt 3 (.alt 4 (.alt 5 (.alt 6 (.alt 7 (.leaf) (.nil)) (.nil)) (.nil)) (.nil)) (.alt 4 (.alt 3 (.alt 5 (.alt 6 (.alt 7 (.leaf) (.nil)) (.nil)) (.nil)) (.alt 5 (.alt 3 (.alt 6 (.alt 7 (.leaf) (.nil)) (.nil)) (.nil)) (.nil))) (.nil))) (.alt 4 (.alt 2 (.alt 3 (.alt 5 (.alt 6 (.alt 7 (.leaf) (.nil)) (.nil)) (.nil)) (.alt 5 (.alt 3 (.alt 6 (.alt 7 (.leaf) (.nil)) (.nil)) (.nil)) (.nil))) (.alt 5 (.alt 2 (.alt 3 (.alt 6 (.alt 7 (.leaf) (.nil)) (.nil)) (.nil)) (.nil)) (.nil))) (.nil))) (.alt 4 (.alt 1 (.alt 2 (.alt 3 (.alt 5 (.alt 6 (.alt 7 (.leaf) (.nil)) (.nil)) (.nil)) (.alt 5 (.alt 3 (.alt 6 (.alt 7 (.leaf) (.nil)) (.nil)) (.nil)) (.nil))) (.alt 5 (.alt 2 (.alt 3 (.alt 6 (.alt 7 (.leaf) (.nil)) (.nil)) (.nil)) (.nil)) (.nil))) (.alt 5 (.alt 1 (.alt 2 (.alt 3 (.alt 6 (.alt 7 (.leaf) (.nil)) (.nil)) (.nil)) (.nil)) (.nil)) (.nil))) (.nil))) (.alt 1 (.alt 0 (.alt 2 (.alt 3 (.alt 4 (.alt 5 (.alt 6 (.alt 7 (.leaf) (.nil)) (.nil)) (.nil)) (.nil)) (.alt 4 (.alt 3 (.alt 5 (.alt 6 (.alt 7 (.leaf) (.nil)) (.nil)) (.nil)) (.alt 5 (.alt 3 (.alt 6 (.alt 7 (.leaf) (.nil)) (.nil)) (.nil)) (.nil))) (.nil))) (.alt 4 (.alt 2 (.alt 3 (.alt 5 (.alt 6 (.alt 7 (.leaf) (.nil)) (.nil)) (.nil)) (.alt 5 (.alt 3 (.alt 6 (.alt 7 (.leaf) (.nil)) (.nil)) (.nil)) (.nil))) (.alt 5 (.alt 2 (.alt 3 (.alt 6 (.alt 7 (.leaf) (.nil)) (.nil)) (.nil)) (.nil)) (.nil))) (.nil))) (.alt 2 (.alt 0 (.alt 3 (.alt 4 (.alt 5 (.alt 6 (.alt 7 (.leaf) (.nil)) (.nil)) (.nil)) (.nil)) (.alt 4 (.alt 3 (.alt 5 (.alt 6 (.alt 7 (.leaf) (.nil)) (.nil)) (.nil)) (.alt 5 (.alt 3 (.alt 6 (.alt 7 (.leaf) (.nil)) (.nil)) (.nil)) (.nil))) (.nil))) (.alt 4 (.alt 0 (.alt 3 (.alt 5 (.alt 6 (.alt 7 (.leaf) (.nil)) (.nil)) (.nil)) (.alt 5 (.alt 3 (.alt 6 (.alt 7 (.leaf) (.nil)) (.nil)) (.nil)) (.nil))) (.alt 5 (.alt 0 (.alt 3 (.alt 6 (.alt 7 (.leaf) (.nil)) (.nil)) (.nil)) (.nil)) (.nil))) (.nil))) (.alt 4 (.alt 0 (.alt 2 (.alt 3 (.alt 5 (.alt 6 (.alt 7 (.leaf) (.nil)) (.nil)) (.nil)) (.alt 5 (.alt 3 (.alt 6 (.alt 7 (.leaf) (.nil)) (.nil)) (.nil)) (.nil))) (.alt 5 (.alt 2 (.alt 3 (.alt 6 (.alt 7 (.leaf) (.nil)) (.nil)) (.nil)) (.nil)) (.nil))) (.alt 2 (.alt 0 (.alt 3 (.alt 5 (.alt 6 (.alt 7 (.leaf) (.nil)) (.nil)) (.nil)) (.alt 5 (.alt 3 (.alt 6 (.alt 7 (.leaf) (.nil)) (.nil)) (.nil)) (.nil))) (.alt 5 (.alt 0 (.alt 3 (.alt 6 (.alt 7 (.leaf) (.nil)) (.nil)) (.nil)) (.nil)) (.nil))) (.alt 5 (.alt 0 (.alt 2 (.alt 3 (.alt 6 (.alt 7 (.leaf) (.nil)) (.nil)) (.nil)) (.nil)) (.alt 2 (.alt 0 (.alt 3 (.alt 6 (.alt 7 (.leaf) (.nil)) (.nil)) (.nil)) (.nil)) (.nil))) (.nil)))) (.nil)))) (.alt 4 (.alt 0 (.alt 1 (.alt 2 (.alt 3 (.alt 5 (.alt 6 (.alt 7 (.leaf) (.nil)) (.nil)) (.nil)) (.alt 5 (.alt 3 (.alt 6 (.alt 7 (.leaf) (.nil)) (.nil)) (.nil)) (.nil))) (.alt 5 (.alt 2 (.alt 3 (.alt 6 (.alt 7 (.leaf) (.nil)) (.nil)) (.nil)) (.nil)) (.nil))) (.alt 5 (.alt 1 (.alt 2 (.alt 3 (.alt 6 (.alt 7 (.leaf) (.nil)) (.nil)) (.nil)) (.nil)) (.nil)) (.nil))) (.alt 1 (.alt 0 (.alt 2 (.alt 3 (.alt 5 (.alt 6 (.alt 7 (.leaf) (.nil)) (.nil)) (.nil)) (.alt 5 (.alt 3 (.alt 6 (.alt 7 (.leaf) (.nil)) (.nil)) (.nil)) (.nil))) (.alt 5 (.alt 2 (.alt 3 (.alt 6 (.alt 7 (.leaf) (.nil)) (.nil)) (.nil)) (.nil)) (.nil))) (.alt 2 (.alt 0 (.alt 3 (.alt 5 (.alt 6 (.alt 7 (.leaf) (.nil)) (.nil)) (.nil)) (.alt 5 (.alt 3 (.alt 6 (.alt 7 (.leaf) (.nil)) (.nil)) (.nil)) (.nil))) (.alt 5 (.alt 0 (.alt 3 (.alt 6 (.alt 7 (.leaf) (.nil)) (.nil)) (.nil)) (.nil)) (.nil))) (.alt 5 (.alt 0 (.alt 2 (.alt 3 (.alt 6 (.alt 7 (.leaf) (.nil)) (.nil)) (.nil)) (.nil)) (.alt 2 (.alt 0 (.alt 3 (.alt 6 (.alt 7 (.leaf) (.nil)) (.nil)) (.nil)) (.nil)) (.nil))) (.nil)))) (.alt 5 (.alt 0 (.alt 1 (.alt 2 (.alt 3 (.alt 6 (.alt 7 (.leaf) (.nil)) (.nil)) (.nil)) (.nil)) (.nil)) (.alt 1 (.alt 0 (.alt 2 (.alt 3 (.alt 6 (.alt 7 (.leaf) (.nil)) (.nil)) (.nil)) (.nil)) (.alt 2 (.alt 0 (.alt 3 (.alt 6 (.alt 7 (.leaf) (.nil)) (.nil)) (.nil)) (.nil)) (.nil))) (.nil))) (.nil)))) (.nil)))
def lv26 := tblN [(0, [0, 1]), (1, [0, 1, 12]), (2, [4]), (3, [0, 1, 21]), (4, [4]), (5, [0, 1, 5, 6]), (6, [0, 1, 5, 34]), (7, [4]), (8, [4])]
def hd26 := tbl1 [(4, 0)]
/-! 30: strings.trimLeftByte, params [9, 5], results [9], calls [], assign binOp.eql binOp.gtr call.len index move pick slice -/
theorem en30 : Enters Tryd.prog 30 := .mk Tryd.func30 (by rfl) rfl
def lv30 := tblN [(0, [0, 1]), (1, [0, 1, 13]), (2, [0, 1]), (3, [4])]
def hd30 := tbl1 []
/-! 31: strings.trimRightByte, params [9, 5], results [9], calls [], assign binOp.eql binOp.gtr binOp.sub call.len index move pick slice -/
theorem en31 : Enters Tryd.prog 31 := .mk Tryd.func31 (by rfl) rfl
def lv31 := tblN [(0, [0, 1]), (1, [0, 1, 16]), (2, [0, 1]), (3, [4])]
def hd31 := tbl1 []
/-! 32: strings.makeASCIISet, params [9], results [54, 4], calls [], alloc assign binOp.add binOp.geq binOp.lss call.len index indexAddr load move store -/
theorem en32 : Enters Tryd.prog 32 := .mk Tryd.func32 (by rfl) rfl
def lv32 := tblN [(0, [0, 2]), (1, [0, 2, 4]), (2, [0, 2, 4, 9]), (3, [0, 2, 4]), (4, [0, 2, 4, 5]), (5, [0, 2, 4, 5, 16]), (6, [2, 3]), (7, [0, 2, 4]), (8, [2, 3])]
def hd32 := tbl1 []
/-! 33: strings.trimLeftASCII, params [9, 58], results [9], calls [41], assign binOp.gtr call call.len index move slice unOp -/
theorem en33 : Enters Tryd.prog 33 := .mk Tryd.func33 (by rfl) rfl
def lv33 := tblN [(0, [0, 1]), (1, [0, 1, 7]), (2, [0, 1, 12]), (3, [0, 1]), (4, [4])]
def hd33 := tbl1 []
/-! 34: strings.trimRightASCII, params [9, 58], results [9], calls [41], assign binOp.gtr binOp.sub call call.len index move slice unOp -/
theorem en34 : Enters Tryd.prog 34 := .mk Tryd.func34 (by rfl) rfl
def lv34 := tblN [(0, [0, 1]), (1, [0, 1, 7]), (2, [0, 1, 15]), (3, [0, 1]), (4, [4])]
def hd34 := tbl1 []
/-! 41: (*strings.asciiSet).contains, params [58, 5], results [4], calls [], assign indexAddr load move nilCheck -/
theorem en41 : Enters Tryd.prog 41 := .mk Tryd.func41 (by rfl) rfl
def lv41 := tblN [(0, [0, 1]), (1, [4])]
def hd41 := tbl1 []
end Go.Proofs.YtjpeblicfhfniaaDoor.EngTabP
