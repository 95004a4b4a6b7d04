/- The program's tables: its types, the functions' entries, the slots that live behind each region. Written by wip/eng/eg.py. -/
import Derived.Test.YtegbadccjidfjaaDoorProg
import Derived.Test.YtegbadccjidfjaaDoorEn4
namespace Go.Proofs.YtegbadccjidfjaaDoor.EngTab
open Go.Proofs.YtegbadccjidfjaaDoor.Eng
set_option maxRecDepth 100000
theorem mixed : Tryd.prog.follows .mixedOrders = true := by rfl
theorem ty3 : TyOk Tryd.prog (.int .i64) 3 := .int Tryd.underlying3 (.mk (n := 8) (by kernel_rfl) (by decide) (by decide))
theorem ty4 : TyOk Tryd.prog (.bool) 4 := .bool Tryd.underlying4 (.mk (n := 1) (by kernel_rfl) (by decide) (by decide))
theorem ty2 : TyOk Tryd.prog (.int .i64) 2 := .int Tryd.underlying2 (.mk (n := 8) (by kernel_rfl) (by decide) (by decide))
theorem ty145 : TyOk Tryd.prog (.pair (.int .i64) (.pair (.int .i64) (.pair (.int .i64) (.unit)))) 145 := .struct Tryd.underlying145 (.cons rfl ty2 (.cons rfl ty2 (.cons rfl ty2 (.nil)))) (.mk (n := 24) (by kernel_rfl) (by decide) (by decide))
theorem ty22 : TyOk Tryd.prog (.sl (.pair (.int .i64) (.pair (.int .i64) (.pair (.int .i64) (.unit))))) 22 := .sl Tryd.underlying22 ty145 (.mk (n := 24) (by kernel_rfl) (by decide) (by decide))
theorem ty24 : TyOk Tryd.prog (.pair (.int .i64) (.pair (.sl (.pair (.int .i64) (.pair (.int .i64) (.pair (.int .i64) (.unit))))) (.unit))) 24 := .struct Tryd.underlying24 (.cons rfl ty2 (.cons rfl ty22 (.nil))) (.mk (n := 32) (by kernel_rfl) (by decide) (by decide))
theorem ty81 : TyOk Tryd.prog (.pair (.int .i64) (.pair (.int .i64) (.pair (.int .i64) (.unit)))) 81 := .struct Tryd.underlying81 (.cons rfl ty2 (.cons rfl ty2 (.cons rfl ty2 (.nil)))) (.mk (n := 24) (by kernel_rfl) (by decide) (by decide))
theorem ty29 : TyOk Tryd.prog (.sl (.pair (.int .i64) (.pair (.int .i64) (.pair (.int .i64) (.unit))))) 29 := .sl Tryd.underlying29 ty81 (.mk (n := 24) (by kernel_rfl) (by decide) (by decide))
theorem ty5 : TyOk Tryd.prog (.int .u8) 5 := .int Tryd.underlying5 (.mk (n := 1) (by kernel_rfl) (by decide) (by decide))
theorem ty26 : TyOk Tryd.prog (.sl (.int .u8)) 26 := .sl Tryd.underlying26 ty5 (.mk (n := 24) (by kernel_rfl) (by decide) (by decide))
theorem ty141 : TyOk Tryd.prog (.int .u64) 141 := .int Tryd.underlying141 (.mk (n := 8) (by kernel_rfl) (by decide) (by decide))
theorem ty142 : TyOk Tryd.prog (.int .u32) 142 := .int Tryd.underlying142 (.mk (n := 4) (by kernel_rfl) (by decide) (by decide))
theorem ty31 : TyOk Tryd.prog (.pair (.int .i64) (.pair (.sl (.pair (.int .i64) (.pair (.int .i64) (.pair (.int .i64) (.unit))))) (.unit))) 31 := .struct Tryd.underlying31 (.cons rfl ty2 (.cons rfl ty29 (.nil))) (.mk (n := 32) (by kernel_rfl) (by decide) (by decide))
theorem ty84 : TyOk Tryd.prog (.any) 84 := .any Tryd.underlying84 (.mk (n := 16) (by kernel_rfl) (by decide) (by decide))
theorem ty106 : TyOk Tryd.prog (.any) 106 := .any Tryd.underlying106 (.mk (n := 16) (by kernel_rfl) (by decide) (by decide))
theorem ty149 : TyOk Tryd.prog (.pair (.int .i64) (.pair (.any) (.unit))) 149 := .struct Tryd.underlying149 (.cons rfl ty3 (.cons rfl ty84 (.nil))) (.mk (n := 24) (by kernel_rfl) (by decide) (by decide))
theorem ty147 : TyOk Tryd.prog (.ptr (.pair (.int .i64) (.pair (.any) (.unit)))) 147 := .ptr Tryd.underlying147 ty149 (.mk (n := 8) (by kernel_rfl) (by decide) (by decide))
theorem ty151 : TyOk Tryd.prog (.arr 128 (.int .u8)) 151 := .arr Tryd.underlying151 ty5 (.mk (n := 128) (by kernel_rfl) (by decide) (by decide))
theorem ty88 : TyOk Tryd.prog (.pair (.int .i64) (.pair (.int .i64) (.unit))) 88 := .struct Tryd.underlying88 (.cons rfl ty2 (.cons rfl ty3 (.nil))) (.mk (n := 16) (by kernel_rfl) (by decide) (by decide))
theorem ty90 : TyOk Tryd.prog (.pair (.pair (.int .i64) (.pair (.int .i64) (.unit))) (.pair (.pair (.int .i64) (.pair (.sl (.pair (.int .i64) (.pair (.int .i64) (.pair (.int .i64) (.unit))))) (.unit))) (.unit))) 90 := .struct Tryd.underlying90 (.cons rfl ty88 (.cons rfl ty31 (.nil))) (.mk (n := 48) (by kernel_rfl) (by decide) (by decide))
theorem ty9 : TyOk Tryd.prog (.str) 9 := .str Tryd.underlying9 (.mk (n := 16) (by kernel_rfl) (by decide) (by decide))
theorem ty97 : TyOk Tryd.prog (.pair (.int .i64) (.pair (.int .i64) (.unit))) 97 := .struct Tryd.underlying97 (.cons rfl ty2 (.cons rfl ty2 (.nil))) (.mk (n := 16) (by kernel_rfl) (by decide) (by decide))
theorem ty43 : TyOk Tryd.prog (.sl (.pair (.int .i64) (.pair (.int .i64) (.unit)))) 43 := .sl Tryd.underlying43 ty97 (.mk (n := 24) (by kernel_rfl) (by decide) (by decide))
theorem ty45 : TyOk Tryd.prog (.pair (.int .i64) (.pair (.int .i64) (.pair (.int .i64) (.pair (.int .i64) (.pair (.sl (.pair (.int .i64) (.pair (.int .i64) (.unit)))) (.unit)))))) 45 := .struct Tryd.underlying45 (.cons rfl ty2 (.cons rfl ty2 (.cons rfl ty2 (.cons rfl ty2 (.cons rfl ty43 (.nil)))))) (.mk (n := 56) (by kernel_rfl) (by decide) (by decide))
theorem ty100 : TyOk Tryd.prog (.pair (.pair (.int .i64) (.pair (.int .i64) (.unit))) (.pair (.pair (.int .i64) (.pair (.int .i64) (.pair (.int .i64) (.pair (.int .i64) (.pair (.sl (.pair (.int .i64) (.pair (.int .i64) (.unit)))) (.unit)))))) (.unit))) 100 := .struct Tryd.underlying100 (.cons rfl ty88 (.cons rfl ty45 (.nil))) (.mk (n := 72) (by kernel_rfl) (by decide) (by decide))
theorem ty159 : TyOk Tryd.prog (.pair (.int .i64) (.pair (.int .i64) (.unit))) 159 := .struct Tryd.underlying159 (.cons rfl ty2 (.cons rfl ty2 (.nil))) (.mk (n := 16) (by kernel_rfl) (by decide) (by decide))
theorem ty38 : TyOk Tryd.prog (.sl (.pair (.int .i64) (.pair (.int .i64) (.unit)))) 38 := .sl Tryd.underlying38 ty159 (.mk (n := 24) (by kernel_rfl) (by decide) (by decide))
theorem ty40 : TyOk Tryd.prog (.pair (.int .i64) (.pair (.int .i64) (.pair (.int .i64) (.pair (.int .i64) (.pair (.sl (.pair (.int .i64) (.pair (.int .i64) (.unit)))) (.unit)))))) 40 := .struct Tryd.underlying40 (.cons rfl ty2 (.cons rfl ty2 (.cons rfl ty2 (.cons rfl ty2 (.cons rfl ty38 (.nil)))))) (.mk (n := 56) (by kernel_rfl) (by decide) (by decide))
theorem ty114 : TyOk Tryd.prog (.pair (.str) (.pair (.str) (.pair (.int .i64) (.unit)))) 114 := .struct Tryd.underlying114 (.cons rfl ty9 (.cons rfl ty9 (.cons rfl ty2 (.nil)))) (.mk (n := 40) (by kernel_rfl) (by decide) (by decide))
theorem ty61 : TyOk Tryd.prog (.sl (.pair (.str) (.pair (.str) (.pair (.int .i64) (.unit))))) 61 := .sl Tryd.underlying61 ty114 (.mk (n := 24) (by kernel_rfl) (by decide) (by decide))
theorem ty122 : TyOk Tryd.prog (.pair (.pair (.int .i64) (.pair (.int .i64) (.unit))) (.pair (.sl (.pair (.str) (.pair (.str) (.pair (.int .i64) (.unit))))) (.unit))) 122 := .struct Tryd.underlying122 (.cons rfl ty88 (.cons rfl ty61 (.nil))) (.mk (n := 40) (by kernel_rfl) (by decide) (by decide))
theorem ty124 : TyOk Tryd.prog (.pair (.pair (.pair (.int .i64) (.pair (.int .i64) (.unit))) (.pair (.sl (.pair (.str) (.pair (.str) (.pair (.int .i64) (.unit))))) (.unit))) (.unit)) 124 := .struct Tryd.underlying124 (.cons rfl ty122 (.nil)) (.mk (n := 40) (by kernel_rfl) (by decide) (by decide))
theorem ty125 : TyOk Tryd.prog (.pair (.pair (.pair (.int .i64) (.pair (.int .i64) (.unit))) (.pair (.sl (.pair (.str) (.pair (.str) (.pair (.int .i64) (.unit))))) (.unit))) (.unit)) 125 := .struct Tryd.underlying125 (.cons rfl ty122 (.nil)) (.mk (n := 40) (by kernel_rfl) (by decide) (by decide))
theorem ty164 : TyOk Tryd.prog (.pair (.str) (.pair (.str) (.pair (.int .i64) (.unit)))) 164 := .struct Tryd.underlying164 (.cons rfl ty9 (.cons rfl ty9 (.cons rfl ty2 (.nil)))) (.mk (n := 40) (by kernel_rfl) (by decide) (by decide))
theorem ty56 : TyOk Tryd.prog (.sl (.pair (.str) (.pair (.str) (.pair (.int .i64) (.unit))))) 56 := .sl Tryd.underlying56 ty164 (.mk (n := 24) (by kernel_rfl) (by decide) (by decide))
theorem ty58 : TyOk Tryd.prog (.pair (.int .i64) (.pair (.sl (.pair (.str) (.pair (.str) (.pair (.int .i64) (.unit))))) (.unit))) 58 := .struct Tryd.underlying58 (.cons rfl ty2 (.cons rfl ty56 (.nil))) (.mk (n := 32) (by kernel_rfl) (by decide) (by decide))
theorem ty63 : TyOk Tryd.prog (.pair (.int .i64) (.pair (.sl (.pair (.str) (.pair (.str) (.pair (.int .i64) (.unit))))) (.unit))) 63 := .struct Tryd.underlying63 (.cons rfl ty2 (.cons rfl ty61 (.nil))) (.mk (n := 32) (by kernel_rfl) (by decide) (by decide))
def tab : Tab := Tab.of [(3, .int .i64), (4, .bool), (2, .int .i64), (145, .pair (.int .i64) (.pair (.int .i64) (.pair (.int .i64) (.unit)))), (22, .sl (.pair (.int .i64) (.pair (.int .i64) (.pair (.int .i64) (.unit))))), (24, .pair (.int .i64) (.pair (.sl (.pair (.int .i64) (.pair (.int .i64) (.pair (.int .i64) (.unit))))) (.unit))), (81, .pair (.int .i64) (.pair (.int .i64) (.pair (.int .i64) (.unit)))), (29, .sl (.pair (.int .i64) (.pair (.int .i64) (.pair (.int .i64) (.unit))))), (5, .int .u8), (26, .sl (.int .u8)), (141, .int .u64), (142, .int .u32), (31, .pair (.int .i64) (.pair (.sl (.pair (.int .i64) (.pair (.int .i64) (.pair (.int .i64) (.unit))))) (.unit))), (84, .any), (106, .any), (149, .pair (.int .i64) (.pair (.any) (.unit))), (147, .ptr (.pair (.int .i64) (.pair (.any) (.unit)))), (151, .arr 128 (.int .u8)), (88, .pair (.int .i64) (.pair (.int .i64) (.unit))), (90, .pair (.pair (.int .i64) (.pair (.int .i64) (.unit))) (.pair (.pair (.int .i64) (.pair (.sl (.pair (.int .i64) (.pair (.int .i64) (.pair (.int .i64) (.unit))))) (.unit))) (.unit))), (9, .str), (97, .pair (.int .i64) (.pair (.int .i64) (.unit))), (43, .sl (.pair (.int .i64) (.pair (.int .i64) (.unit)))), (45, .pair (.int .i64) (.pair (.int .i64) (.pair (.int .i64) (.pair (.int .i64) (.pair (.sl (.pair (.int .i64) (.pair (.int .i64) (.unit)))) (.unit)))))), (100, .pair (.pair (.int .i64) (.pair (.int .i64) (.unit))) (.pair (.pair (.int .i64) (.pair (.int .i64) (.pair (.int .i64) (.pair (.int .i64) (.pair (.sl (.pair (.int .i64) (.pair (.int .i64) (.unit)))) (.unit)))))) (.unit))), (159, .pair (.int .i64) (.pair (.int .i64) (.unit))), (38, .sl (.pair (.int .i64) (.pair (.int .i64) (.unit)))), (40, .pair (.int .i64) (.pair (.int .i64) (.pair (.int .i64) (.pair (.int .i64) (.pair (.sl (.pair (.int .i64) (.pair (.int .i64) (.unit)))) (.unit)))))), (114, .pair (.str) (.pair (.str) (.pair (.int .i64) (.unit)))), (61, .sl (.pair (.str) (.pair (.str) (.pair (.int .i64) (.unit))))), (122, .pair (.pair (.int .i64) (.pair (.int .i64) (.unit))) (.pair (.sl (.pair (.str) (.pair (.str) (.pair (.int .i64) (.unit))))) (.unit))), (124, .pair (.pair (.pair (.int .i64) (.pair (.int .i64) (.unit))) (.pair (.sl (.pair (.str) (.pair (.str) (.pair (.int .i64) (.unit))))) (.unit))) (.unit)), (125, .pair (.pair (.pair (.int .i64) (.pair (.int .i64) (.unit))) (.pair (.sl (.pair (.str) (.pair (.str) (.pair (.int .i64) (.unit))))) (.unit))) (.unit)), (164, .pair (.str) (.pair (.str) (.pair (.int .i64) (.unit)))), (56, .sl (.pair (.str) (.pair (.str) (.pair (.int .i64) (.unit))))), (58, .pair (.int .i64) (.pair (.sl (.pair (.str) (.pair (.str) (.pair (.int .i64) (.unit))))) (.unit))), (63, .pair (.int .i64) (.pair (.sl (.pair (.str) (.pair (.str) (.pair (.int .i64) (.unit))))) (.unit)))] []
theorem tabOk : TabOk Tryd.prog tab := .of (by
  simp only [List.mem_cons, List.not_mem_nil, or_false, forall_eq_or_imp, forall_eq]
  exact ⟨ty3, ty4, ty2, ty145, ty22, ty24, ty81, ty29, ty5, ty26, ty141, ty142, ty31, ty84, ty106, ty149, ty147, ty151, ty88, ty90, ty9, ty97, ty43, ty45, ty100, ty159, ty38, ty40, ty114, ty61, ty122, ty124, ty125, ty164, ty56, ty58, ty63⟩)
/-! 3: loop.example/s01595/laws.FnExactEncodeTable, params [24], results [4], calls [11, 12, 13, 14, 15, 16, 17, 18, 19], alloc assign binOp.lss binOp.neq box call extract load move pick store unOp -/
theorem en3 : Enters Tryd.prog 3 := .mk Tryd.func3 (by rfl) rfl
def ot3_10 : OT := .alt 0 (.alt 1 (.alt 2 (.alt 3 (.alt 4 (.leaf) (.nil)) (.nil)) (.nil)) (.nil)) (.alt 1 (.alt 0 (.alt 2 (.alt 3 (.alt 4 (.leaf) (.nil)) (.nil)) (.nil)) (.alt 2 (.alt 0 (.alt 3 (.alt 4 (.leaf) (.nil)) (.nil)) (.nil)) (.nil))) (.nil))
def lv3 := tblN [(0, [1]), (1, [1, 3]), (2, [1, 3]), (3, [1, 18]), (4, [2]), (5, [1, 4, 5]), (6, [1, 4, 5, 6]), (7, [1, 4, 5, 6, 7, 8]), (8, [1, 4, 5, 6, 7, 8, 40]), (9, [2]), (10, [1, 4, 5, 6, 7, 8, 45]), (11, [2]), (12, [1, 4, 5, 6, 7, 8, 9]), (13, [1, 4, 5, 7, 8, 9]), (14, [1, 4, 5, 7, 61]), (15, [2]), (16, [1, 4, 5, 7, 10]), (17, [1, 4, 5, 7, 10]), (18, [1, 4, 5, 7, 10, 11]), (19, [1, 4, 5, 10, 11]), (20, [1, 4, 5, 10, 11, 69]), (21, [2]), (22, [1, 4, 5, 72]), (23, [2]), (24, [4, 5, 12, 13]), (25, [87]), (26, [2]), (27, [2])]
def hd3 := tbl1 [(10, 0)]
/-! 4: loop.example/s01595/laws.FnExactEncodeSuper, params [40], results [4], calls [15, 18, 19, 20, 21, 22, 23, 24, 25], alloc assign binOp.lss binOp.neq box call extract load move pick store unOp -/
theorem en4 : Enters Tryd.prog 4 := .mk Tryd.func4 (by rfl) rfl
def ot4_10 : OT := .alt 0 (.alt 1 (.alt 2 (.alt 3 (.alt 4 (.leaf) (.nil)) (.nil)) (.nil)) (.nil)) (.alt 1 (.alt 0 (.alt 2 (.alt 3 (.alt 4 (.leaf) (.nil)) (.nil)) (.nil)) (.alt 2 (.alt 0 (.alt 3 (.alt 4 (.leaf) (.nil)) (.nil)) (.nil)) (.nil))) (.nil))
def lv4 := tblN [(0, [1]), (1, [1, 3]), (2, [1, 3]), (3, [1, 18]), (4, [2]), (5, [1, 4, 5]), (6, [1, 4, 5, 6]), (7, [1, 4, 5, 6, 7, 8]), (8, [1, 4, 5, 6, 7, 8, 40]), (9, [2]), (10, [1, 4, 5, 6, 7, 8, 45]), (11, [2]), (12, [1, 4, 5, 6, 7, 8, 9]), (13, [1, 4, 5, 7, 8, 9]), (14, [1, 4, 5, 7, 61]), (15, [2]), (16, [1, 4, 5, 7, 10]), (17, [1, 4, 5, 7, 10]), (18, [1, 4, 5, 7, 10, 11]), (19, [1, 4, 5, 10, 11]), (20, [1, 4, 5, 10, 11, 69]), (21, [2]), (22, [1, 4, 5, 72]), (23, [2]), (24, [4, 5, 12, 13]), (25, [87]), (26, [2]), (27, [2])]
def hd4 := tbl1 [(10, 0)]
/-! 5: loop.example/s01595/laws.FnExactDecodeTable, params [26], results [4], calls [15, 16, 17, 18, 26, 27, 28, 29], alloc assign binOp.gtr binOp.lss binOp.neq call call.len extract load move pick store unOp -/
theorem en5 : Enters Tryd.prog 5 := .mk Tryd.func5 (by rfl) rfl
def lv5 := tblN [(0, [0]), (1, [0, 15]), (2, [2]), (3, [0, 3, 4]), (4, [0, 3, 4, 5]), (5, [0, 3, 4, 5, 6, 7]), (6, [0, 3, 4, 5, 6, 7, 37]), (7, [2]), (8, [0, 3, 4, 5, 6, 7, 42]), (9, [2]), (10, [0, 3, 4, 5, 6, 7, 8]), (11, [0, 3, 4, 6, 7, 8]), (12, [0, 3, 4, 6, 58]), (13, [2]), (14, [0, 3, 4, 6, 9]), (15, [0, 3, 4, 6, 9]), (16, [0, 3, 4, 6, 9, 10]), (17, [0, 3, 4, 9, 10]), (18, [0, 3, 4, 9, 10, 66]), (19, [2]), (20, [0, 3, 4, 69]), (21, [2]), (22, [3, 4, 11, 12]), (23, [84]), (24, [2]), (25, [2])]
def hd5 := tbl1 []
/-! 6: loop.example/s01595/laws.FnExactDecodeSuper, params [26], results [4], calls [15, 18, 24, 25, 27, 30, 31, 32], alloc assign binOp.gtr binOp.lss binOp.neq call call.len extract load move pick store unOp -/
theorem en6 : Enters Tryd.prog 6 := .mk Tryd.func6 (by rfl) rfl
def lv6 := tblN [(0, [0]), (1, [0, 15]), (2, [2]), (3, [0, 3, 4]), (4, [0, 3, 4, 5]), (5, [0, 3, 4, 5, 6, 7]), (6, [0, 3, 4, 5, 6, 7, 37]), (7, [2]), (8, [0, 3, 4, 5, 6, 7, 42]), (9, [2]), (10, [0, 3, 4, 5, 6, 7, 8]), (11, [0, 3, 4, 6, 7, 8]), (12, [0, 3, 4, 6, 58]), (13, [2]), (14, [0, 3, 4, 6, 9]), (15, [0, 3, 4, 6, 9]), (16, [0, 3, 4, 6, 9, 10]), (17, [0, 3, 4, 9, 10]), (18, [0, 3, 4, 9, 10, 66]), (19, [2]), (20, [0, 3, 4, 69]), (21, [2]), (22, [3, 4, 11, 12]), (23, [84]), (24, [2]), (25, [2])]
def hd6 := tbl1 []
/-! 7: loop.example/s01595/laws.FnExactEncodeNode, params [58], results [4], calls [15, 18, 19, 33, 34, 35, 36, 37, 38], alloc assign binOp.lss binOp.neq box call extract load move pick store unOp -/
theorem en7 : Enters Tryd.prog 7 := .mk Tryd.func7 (by rfl) rfl
def ot7_10 : OT := .alt 0 (.alt 1 (.alt 2 (.alt 3 (.alt 4 (.leaf) (.nil)) (.nil)) (.nil)) (.nil)) (.alt 1 (.alt 0 (.alt 2 (.alt 3 (.alt 4 (.leaf) (.nil)) (.nil)) (.nil)) (.alt 2 (.alt 0 (.alt 3 (.alt 4 (.leaf) (.nil)) (.nil)) (.nil)) (.nil))) (.nil))
def lv7 := tblN [(0, [1]), (1, [1, 3]), (2, [1, 3]), (3, [1, 18]), (4, [2]), (5, [1, 4, 5]), (6, [1, 4, 5, 6]), (7, [1, 4, 5, 6, 7, 8]), (8, [1, 4, 5, 6, 7, 8, 40]), (9, [2]), (10, [1, 4, 5, 6, 7, 8, 45]), (11, [2]), (12, [1, 4, 5, 6, 7, 8, 9]), (13, [1, 4, 5, 7, 8, 9]), (14, [1, 4, 5, 7, 61]), (15, [2]), (16, [1, 4, 5, 7, 10]), (17, [1, 4, 5, 7, 10]), (18, [1, 4, 5, 7, 10, 11]), (19, [1, 4, 5, 10, 11]), (20, [1, 4, 5, 10, 11, 69]), (21, [2]), (22, [1, 4, 5, 72]), (23, [2]), (24, [4, 5, 12, 13]), (25, [87]), (26, [2]), (27, [2])]
def hd7 := tbl1 [(10, 0)]
/-! 8: loop.example/s01595/laws.FnExactDecodeNode, params [26], results [4], calls [15, 18, 27, 37, 38, 39, 40, 41], alloc assign binOp.gtr binOp.lss binOp.neq call call.len extract load move pick store unOp -/
theorem en8 : Enters Tryd.prog 8 := .mk Tryd.func8 (by rfl) rfl
def lv8 := tblN [(0, [0]), (1, [0, 15]), (2, [2]), (3, [0, 3, 4]), (4, [0, 3, 4, 5]), (5, [0, 3, 4, 5, 6, 7]), (6, [0, 3, 4, 5, 6, 7, 37]), (7, [2]), (8, [0, 3, 4, 5, 6, 7, 42]), (9, [2]), (10, [0, 3, 4, 5, 6, 7, 8]), (11, [0, 3, 4, 6, 7, 8]), (12, [0, 3, 4, 6, 58]), (13, [2]), (14, [0, 3, 4, 6, 9]), (15, [0, 3, 4, 6, 9]), (16, [0, 3, 4, 6, 9, 10]), (17, [0, 3, 4, 9, 10]), (18, [0, 3, 4, 9, 10, 66]), (19, [2]), (20, [0, 3, 4, 69]), (21, [2]), (22, [3, 4, 11, 12]), (23, [84]), (24, [2]), (25, [2])]
def hd8 := tbl1 []
/-! 11: loop.example/s01595/laws.szTable, params [24, 3], results [3], calls [49], assign binOp.lss box call fieldAddr load move -/
theorem en11 : Enters Tryd.prog 11 := .mk Tryd.func11 (by rfl) rfl
def lv11 := tblN [(0, [1, 2]), (1, [1]), (2, [1, 10]), (3, [4]), (4, [4])]
def hd11 := tbl1 []
/-! 12: loop.example/s01595/spec.EncodeTable, params [31], results [26, 2], calls [50, 51, 52], assign binOp.add binOp.geq binOp.gtr binOp.lss binOp.neq box buildSlice call call.len convert fieldAddr indexAddr load move pick unOp -/
theorem en12 : Enters Tryd.prog 12 := .mk Tryd.func12 (by rfl) rfl
def lv12 := tblN [(0, [1]), (1, [1, 30]), (2, [2, 3]), (3, [1, 4]), (4, [1, 4, 5]), (5, [1, 4, 5, 43]), (6, [1, 4, 5]), (7, [1, 4, 5]), (8, [1, 4, 5]), (9, [1, 4, 5]), (10, [2, 3])]
def hd12 := tbl1 []
/-! 13: loop.example/s01595/laws.toTable, params [24], results [31], calls [53], alloc box call fieldAddr load store -/
theorem en13 : Enters Tryd.prog 13 := .mk Tryd.func13 (by rfl) rfl
def lv13 := tblN [(0, [1, 2]), (1, [1, 2, 3]), (2, [1, 2, 3]), (3, [2, 3]), (4, [2])]
def hd13 := tbl1 []
/-! 14: loop.example/s01595/impl.EncodeTable, params [31], results [26, 2], calls [54, 55], assign box build call call.len extract fieldAddr load makeInterface move -/
theorem en14 : Enters Tryd.prog 14 := .mk Tryd.func14 (by rfl) rfl
def lv14 := tblN [(0, [1]), (1, [4, 5]), (2, [2, 3])]
def hd14 := tbl1 []
/-! 15: loop.example/s01595/laws.eqByteS, params [26, 26], results [4], calls [], assign binOp.add binOp.lss binOp.neq call.len indexAddr load move -/
theorem en15 : Enters Tryd.prog 15 := .mk Tryd.func15 (by rfl) rfl
def lv15 := tblN [(0, [0, 1]), (1, [0, 1, 10]), (2, [4]), (3, [0, 1, 5]), (4, [0, 1, 5, 14]), (5, [0, 1, 5]), (6, [0, 1, 5, 25]), (7, [4]), (8, [4])]
def hd15 := tbl1 [(6, 9)]
/-! 16: loop.example/s01595/laws.eqTable, params [31, 31], results [4], calls [56], assign binOp.neq box call fieldAddr load unOp -/
theorem en16 : Enters Tryd.prog 16 := .mk Tryd.func16 (by rfl) rfl
def lv16 := tblN [(0, [2, 3]), (1, [2, 3, 9]), (2, [4]), (3, [15]), (4, [4]), (5, [4])]
def hd16 := tbl1 []
/-! 17: loop.example/s01595/laws.markTable, params [31, 3], results [3], calls [57], assign box call fieldAddr load move -/
theorem en17 : Enters Tryd.prog 17 := .mk Tryd.func17 (by rfl) rfl
def lv17 := tblN [(0, [1, 2]), (1, [1]), (2, [4])]
def hd17 := tbl1 []
/-! 18: loop.example/s01595/laws.markByteS, params [26, 3], results [3], calls [], assign binOp.add binOp.lss call.len convert indexAddr move store -/
theorem en18 : Enters Tryd.prog 18 := .mk Tryd.func18 (by rfl) rfl
def lv18 := tblN [(0, [0, 1]), (1, [0, 1, 5]), (2, [0, 1, 5, 9]), (3, [0, 1, 5]), (4, [0, 1, 5]), (5, [0, 1, 5]), (6, [4])]
def hd18 := tbl1 []
/-! 19: loop.example/s01595/laws.heldByteS, params [26, 3], results [3], calls [], assign binOp.add binOp.lss binOp.neq call.len convert indexAddr load move -/
theorem en19 : Enters Tryd.prog 19 := .mk Tryd.func19 (by rfl) rfl
def lv19 := tblN [(0, [0, 1]), (1, [0, 1, 5]), (2, [0, 1, 5, 9]), (3, [0, 1, 5]), (4, [0, 1, 5, 18]), (5, [4]), (6, [0, 1, 5]), (7, [4])]
def hd19 := tbl1 []
/-! 20: loop.example/s01595/laws.szSuper, params [40, 3], results [3], calls [58], assign binOp.lss box call fieldAddr load move -/
theorem en20 : Enters Tryd.prog 20 := .mk Tryd.func20 (by rfl) rfl
def lv20 := tblN [(0, [1, 2]), (1, [1]), (2, [1, 10]), (3, [4]), (4, [4])]
def hd20 := tbl1 []
/-! 21: loop.example/s01595/spec.EncodeSuper, params [45], results [26, 2], calls [51, 52, 59], assign binOp.add binOp.lss box buildSlice call call.len convert fieldAddr indexAddr load move unOp -/
theorem en21 : Enters Tryd.prog 21 := .mk Tryd.func21 (by rfl) rfl
def lv21 := tblN [(0, [1]), (1, [1, 8]), (2, [2, 3]), (3, [1, 4]), (4, [1, 4]), (5, [1, 4]), (6, [1, 4]), (7, [1, 4, 5]), (8, [1, 4, 5, 33]), (9, [1, 4, 5]), (10, [1, 4, 5]), (11, [1, 4, 5]), (12, [2, 3])]
def hd21 := tbl1 []
/-! 22: loop.example/s01595/laws.toSuper, params [40], results [45], calls [60], alloc box call fieldAddr load store -/
theorem en22 : Enters Tryd.prog 22 := .mk Tryd.func22 (by rfl) rfl
def lv22 := tblN [(0, [1, 2]), (1, [1, 2, 3]), (2, [1, 2, 3]), (3, [1, 2, 3]), (4, [1, 2, 3]), (5, [1, 2, 3]), (6, [2, 3]), (7, [2])]
def hd22 := tbl1 []
/-! 23: loop.example/s01595/impl.EncodeSuper, params [45], results [26, 2], calls [54, 55], assign box build call call.len extract fieldAddr load makeInterface move -/
theorem en23 : Enters Tryd.prog 23 := .mk Tryd.func23 (by rfl) rfl
def lv23 := tblN [(0, [1]), (1, [4, 5]), (2, [2, 3])]
def hd23 := tbl1 []
/-! 24: loop.example/s01595/laws.eqSuper, params [45, 45], results [4], calls [61], assign binOp.neq box call fieldAddr load unOp -/
theorem en24 : Enters Tryd.prog 24 := .mk Tryd.func24 (by rfl) rfl
def lv24 := tblN [(0, [2, 3]), (1, [2, 3, 9]), (2, [4]), (3, [2, 3, 14]), (4, [4]), (5, [2, 3, 19]), (6, [4]), (7, [2, 3, 24]), (8, [4]), (9, [30]), (10, [4]), (11, [4])]
def hd24 := tbl1 []
/-! 25: loop.example/s01595/laws.markSuper, params [45, 3], results [3], calls [62], assign box call fieldAddr load move -/
theorem en25 : Enters Tryd.prog 25 := .mk Tryd.func25 (by rfl) rfl
def lv25 := tblN [(0, [1, 2]), (1, [1]), (2, [4])]
def hd25 := tbl1 []
/-! 26: loop.example/s01595/spec.DecodeTable, params [26], results [31, 2], calls [12, 63, 64, 65], alloc assign binOp.add binOp.lss binOp.mul binOp.neq build buildSlice call call.append convert extract fieldAddr indexAddr load move pick store unOp -/
theorem en26 : Enters Tryd.prog 26 := .mk Tryd.func26 (by rfl) rfl
def ot26_9 : OT := .now 0 (.now 2 (.now 3 (.now 5 (.now 6 (.now 7 (.now 9 (.now 10 (.now 11 (.alt 1 (.alt 4 (.alt 8 (.alt 12 (.alt 13 (.alt 14 (.alt 15 (.now 16 (.alt 17 (.leaf) (.nil))) (.nil)) (.nil)) (.nil)) (.nil)) (.nil)) (.nil)) (.alt 4 (.alt 1 (.alt 8 (.alt 12 (.alt 13 (.alt 14 (.alt 15 (.now 16 (.alt 17 (.leaf) (.nil))) (.nil)) (.nil)) (.nil)) (.nil)) (.nil)) (.alt 8 (.alt 1 (.alt 12 (.alt 13 (.alt 14 (.alt 15 (.now 16 (.alt 17 (.leaf) (.nil))) (.nil)) (.nil)) (.nil)) (.nil)) (.alt 12 (.alt 1 (.alt 13 (.alt 14 (.alt 15 (.now 16 (.alt 17 (.leaf) (.nil))) (.nil)) (.nil)) (.nil)) (.alt 13 (.alt 1 (.alt 14 (.alt 15 (.now 16 (.alt 17 (.leaf) (.nil))) (.nil)) (.nil)) (.alt 14 (.alt 1 (.alt 15 (.now 16 (.alt 17 (.leaf) (.nil))) (.nil)) (.nil)) (.nil))) (.nil))) (.nil))) (.nil))) (.nil)))))))))))
def lv26 := tblN [(0, [0, 2]), (1, [0, 2, 4]), (2, [0, 2, 4, 13]), (3, [2, 3]), (4, [0, 2, 5]), (5, [0, 2, 5, 6]), (6, [0, 2, 5, 6, 28]), (7, [0, 2, 5, 6]), (8, [0, 2, 5, 6, 7]), (9, [0, 2, 5, 6]), (10, [0, 2, 5, 8, 9]), (11, [2, 5, 63]), (12, [2, 3]), (13, [2, 3])]
def hd26 := tbl1 [(9, 0)]
/-! 27: loop.example/s01595/laws.toByteS, params [26], results [26], calls [], assign binOp.add binOp.lss call.len indexAddr load makeSlice move store -/
theorem en27 : Enters Tryd.prog 27 := .mk Tryd.func27 (by rfl) rfl
def lv27 := tblN [(0, [0]), (1, [0, 3]), (2, [0, 3, 4]), (3, [0, 3, 4, 11]), (4, [0, 3, 4]), (5, [0, 3, 4]), (6, [2])]
def hd27 := tbl1 []
/-! 28: loop.example/s01595/impl.DecodeTable, params [26], results [31, 2], calls [55, 66], alloc assign binOp.neq build call extract fieldAddr load move store typeAssert -/
theorem en28 : Enters Tryd.prog 28 := .mk Tryd.func28 (by rfl) rfl
def lv28 := tblN [(0, [0, 2]), (1, [2, 4, 5]), (2, [2, 4, 5, 14]), (3, [2, 3]), (4, [2, 6, 7]), (5, [2, 6, 23]), (6, [2, 3]), (7, [2, 3])]
def hd28 := tbl1 []
/-! 29: loop.example/s01595/laws.heldTable, params [31, 3], results [3], calls [67], assign binOp.lss box call fieldAddr load move -/
theorem en29 : Enters Tryd.prog 29 := .mk Tryd.func29 (by rfl) rfl
def lv29 := tblN [(0, [1, 2]), (1, [1]), (2, [1, 10]), (3, [4]), (4, [4])]
def hd29 := tbl1 []
/-! 30: loop.example/s01595/spec.DecodeSuper, params [26], results [45, 2], calls [21, 63, 64, 65], alloc assign binOp.add binOp.lss binOp.mul binOp.neq build buildSlice call call.append convert extract fieldAddr indexAddr load move pick store unOp -/
theorem en30 : Enters Tryd.prog 30 := .mk Tryd.func30 (by rfl) rfl
def ot30_8 : OT := .now 0 (.now 2 (.now 3 (.now 4 (.now 5 (.now 7 (.now 8 (.now 9 (.now 10 (.alt 1 (.alt 6 (.alt 11 (.alt 12 (.alt 13 (.alt 14 (.now 15 (.alt 16 (.leaf) (.nil))) (.nil)) (.nil)) (.nil)) (.nil)) (.nil)) (.alt 6 (.alt 1 (.alt 11 (.alt 12 (.alt 13 (.alt 14 (.now 15 (.alt 16 (.leaf) (.nil))) (.nil)) (.nil)) (.nil)) (.nil)) (.alt 11 (.alt 1 (.alt 12 (.alt 13 (.alt 14 (.now 15 (.alt 16 (.leaf) (.nil))) (.nil)) (.nil)) (.nil)) (.alt 12 (.alt 1 (.alt 13 (.alt 14 (.now 15 (.alt 16 (.leaf) (.nil))) (.nil)) (.nil)) (.alt 13 (.alt 1 (.alt 14 (.now 15 (.alt 16 (.leaf) (.nil))) (.nil)) (.nil)) (.nil))) (.nil))) (.nil))) (.nil)))))))))))
def lv30 := tblN [(0, [0, 2]), (1, [0, 2, 4]), (2, [0, 2, 4, 12]), (3, [2, 3]), (4, [0, 2, 5]), (5, [0, 2, 5, 6]), (6, [0, 2, 5, 6, 33]), (7, [0, 2, 5, 6]), (8, [0, 2, 5, 6]), (9, [0, 2, 5, 7, 8]), (10, [2, 5, 64]), (11, [2, 3]), (12, [2, 3])]
def hd30 := tbl1 [(8, 0)]
/-! 31: loop.example/s01595/impl.DecodeSuper, params [26], results [45, 2], calls [55, 66], alloc assign binOp.neq build call extract fieldAddr load move store typeAssert -/
theorem en31 : Enters Tryd.prog 31 := .mk Tryd.func31 (by rfl) rfl
def lv31 := tblN [(0, [0, 2]), (1, [2, 4, 5]), (2, [2, 4, 5, 14]), (3, [2, 3]), (4, [2, 6, 7]), (5, [2, 6, 23]), (6, [2, 3]), (7, [2, 3])]
def hd31 := tbl1 []
/-! 32: loop.example/s01595/laws.heldSuper, params [45, 3], results [3], calls [68], assign binOp.lss box call fieldAddr load move -/
theorem en32 : Enters Tryd.prog 32 := .mk Tryd.func32 (by rfl) rfl
def lv32 := tblN [(0, [1, 2]), (1, [1]), (2, [1, 10]), (3, [4]), (4, [4])]
def hd32 := tbl1 []
/-! 33: loop.example/s01595/laws.szNode, params [58, 3], results [3], calls [69], assign binOp.lss box call fieldAddr load move -/
theorem en33 : Enters Tryd.prog 33 := .mk Tryd.func33 (by rfl) rfl
def lv33 := tblN [(0, [1, 2]), (1, [1]), (2, [1, 10]), (3, [4]), (4, [4])]
def hd33 := tbl1 []
/-! 34: loop.example/s01595/spec.EncodeNode, params [63], results [26, 2], calls [51, 52, 70, 71], alloc assign binOp.add binOp.eql binOp.lss box buildSlice call call.len convert fieldAddr indexAddr load move store unOp -/
theorem en34 : Enters Tryd.prog 34 := .mk Tryd.func34 (by rfl) rfl
def lv34 := tblN [(0, [1]), (1, [1, 9]), (2, [2, 3]), (3, [1, 4]), (4, [1, 4, 5]), (5, [1, 4, 5, 22]), (6, [1, 4, 5]), (7, [1, 4, 5, 6]), (8, [1, 4, 5, 6]), (9, [1, 4, 5, 6, 36]), (10, [1, 4, 5]), (11, [1, 4, 5]), (12, [1, 4, 5]), (13, [1, 4, 5]), (14, [2, 3])]
def hd34 := tbl1 []
/-! 35: loop.example/s01595/laws.toNode, params [58], results [63], calls [72], alloc box call fieldAddr load store -/
theorem en35 : Enters Tryd.prog 35 := .mk Tryd.func35 (by rfl) rfl
def lv35 := tblN [(0, [1, 2]), (1, [1, 2, 3]), (2, [1, 2, 3]), (3, [2, 3]), (4, [2])]
def hd35 := tbl1 []
/-! 36: loop.example/s01595/impl.EncodeNode, params [63], results [26, 2], calls [54, 55, 73], assign binOp.eql box call extract load move -/
theorem en36 : Enters Tryd.prog 36 := .mk Tryd.func36 (by rfl) rfl
def lv36 := tblN [(0, [1]), (1, [4]), (2, [4, 10]), (3, [2, 3]), (4, [5, 6]), (5, [2, 3])]
def hd36 := tbl1 []
/-! 37: loop.example/s01595/laws.eqNode, params [63, 63], results [4], calls [74], assign binOp.neq box call fieldAddr load unOp -/
theorem en37 : Enters Tryd.prog 37 := .mk Tryd.func37 (by rfl) rfl
def lv37 := tblN [(0, [2, 3]), (1, [2, 3, 9]), (2, [4]), (3, [15]), (4, [4]), (5, [4])]
def hd37 := tbl1 []
/-! 38: loop.example/s01595/laws.markNode, params [63, 3], results [3], calls [75], assign box call fieldAddr load move -/
theorem en38 : Enters Tryd.prog 38 := .mk Tryd.func38 (by rfl) rfl
def lv38 := tblN [(0, [1, 2]), (1, [1]), (2, [4])]
def hd38 := tbl1 []
/-! 39: loop.example/s01595/spec.DecodeNode, params [26], results [63, 2], calls [34, 63, 64, 65, 76], alloc assign binOp.add binOp.eql binOp.lss binOp.mul binOp.neq build buildSlice call call.append convert extract fieldAddr indexAddr load move pick store unOp -/
theorem en39 : Enters Tryd.prog 39 := .mk Tryd.func39 (by rfl) rfl
def lv39 := tblN [(0, [0, 2]), (1, [0, 2, 4]), (2, [0, 2, 4, 14]), (3, [2, 3]), (4, [0, 2, 5]), (5, [0, 2, 5, 6]), (6, [0, 2, 5, 6, 31]), (7, [0, 2, 5, 6]), (8, [0, 2, 5, 6, 7]), (9, [0, 2, 5, 6, 7, 8]), (10, [0, 2, 5, 6, 7, 8, 43]), (11, [0, 2, 5, 6, 8]), (12, [0, 2, 5, 6, 8]), (13, [0, 2, 5, 6]), (14, [0, 2, 5, 9, 10]), (15, [2, 5, 72]), (16, [2, 3]), (17, [2, 3])]
def hd39 := tbl1 []
/-! 40: loop.example/s01595/impl.DecodeNode, params [26], results [63, 2], calls [55, 66], alloc assign binOp.neq build call extract fieldAddr load move store typeAssert -/
theorem en40 : Enters Tryd.prog 40 := .mk Tryd.func40 (by rfl) rfl
def lv40 := tblN [(0, [0, 2]), (1, [2, 4, 5]), (2, [2, 4, 5, 14]), (3, [2, 3]), (4, [2, 18]), (5, [2, 18, 20, 21]), (6, [2, 6]), (7, [2, 3]), (8, [2, 31, 32]), (9, [2, 7]), (10, [2, 3]), (11, [2, 3])]
def hd40 := tbl1 []
/-! 41: loop.example/s01595/laws.heldNode, params [63, 3], results [3], calls [77], assign binOp.lss box call fieldAddr load move -/
theorem en41 : Enters Tryd.prog 41 := .mk Tryd.func41 (by rfl) rfl
def lv41 := tblN [(0, [1, 2]), (1, [1]), (2, [1, 10]), (3, [4]), (4, [4])]
def hd41 := tbl1 []
/-! 49: loop.example/s01595/laws.szRunS, params [22, 3], results [3], calls [], assign binOp.lss binOp.sub call.len move -/
theorem en49 : Enters Tryd.prog 49 := .mk Tryd.func49 (by rfl) rfl
def lv49 := tblN [(0, [0, 1]), (1, [1]), (2, [1, 10]), (3, [4]), (4, [4])]
def hd49 := tbl1 []
/-! 50: loop.example/s01595/spec.l2RunsOK, params [29, 2], results [4], calls [], alloc assign binOp.add binOp.eql binOp.gtr binOp.lss binOp.sub call.len fieldAddr indexAddr load move pick store -/
theorem en50 : Enters Tryd.prog 50 := .mk Tryd.func50 (by rfl) rfl
def lv50 := tblN [(0, [0, 1]), (1, [0, 1, 5]), (2, [0, 1, 5, 11]), (3, [0, 1, 5]), (4, [0, 1, 5, 6]), (5, [0, 1, 5, 6, 56]), (6, [4]), (7, [0, 1, 5, 6, 58]), (8, [0, 1, 5, 6, 7]), (9, [0, 1, 5, 88]), (10, [4]), (11, [4])]
def hd50 := tbl1 []
/-! 51: loop.example/s01595/spec.l2Num, params [26, 2, 3], results [26], calls [], assign binOp.add binOp.lss binOp.mul binOp.shr buildSlice call.append convert move -/
theorem en51 : Enters Tryd.prog 51 := .mk Tryd.func51 (by rfl) rfl
def lv51 := tblN [(0, [0, 1, 2]), (1, [0, 1, 2, 7]), (2, [0, 1, 2, 7, 10]), (3, [0, 1, 2, 7]), (4, [0, 1, 2, 7]), (5, [6])]
def hd51 := tbl1 []
/-! 52: loop.example/s01595/spec.l2Seal, params [26], results [26], calls [51, 90], assign binOp.lss buildSlice call call.append call.len convert move -/
theorem en52 : Enters Tryd.prog 52 := .mk Tryd.func52 (by rfl) rfl
def lv52 := tblN [(0, [0]), (1, [0, 5]), (2, [0]), (3, [2])]
def hd52 := tbl1 []
/-! 53: loop.example/s01595/laws.toRunS, params [22], results [29], calls [91], assign binOp.add binOp.lss call call.len indexAddr load makeSlice move store -/
theorem en53 : Enters Tryd.prog 53 := .mk Tryd.func53 (by rfl) rfl
def lv53 := tblN [(0, [0]), (1, [0, 3]), (2, [0, 3, 4]), (3, [0, 3, 4, 11]), (4, [0, 3, 4]), (5, [0, 3, 4]), (6, [2])]
def hd53 := tbl1 []
/-! 54: loop.example/s01595/impl.encode, params [106], results [26, 84], calls [92, 93], alloc assign box build call call?('app', 'invoke', [('app', 'tmp', [('num', 12)]), ('str', 'loop.example/s01595/impl.lay')]) call?('app', 'invoke', [('app', 'tmp', [('num', 5)]), ('str', 'loop.example/s01595/impl.sound')]) convert load makeInterface move slice store unOp -/
theorem en54 : Enters Tryd.prog 54 := .mk Tryd.func54 (by rfl) rfl
def ot54_2 : OT := .now 4 (.alt 0 (.alt 1 (.alt 2 (.alt 3 (.now 5 (.leaf)) (.nil)) (.nil)) (.nil)) (.nil))
def ot54_4 : OT := .alt 0 (.alt 1 (.alt 2 (.alt 3 (.alt 4 (.leaf) (.nil)) (.nil)) (.nil)) (.nil)) (.alt 1 (.alt 0 (.alt 2 (.alt 3 (.alt 4 (.leaf) (.nil)) (.nil)) (.nil)) (.alt 2 (.alt 0 (.alt 3 (.alt 4 (.leaf) (.nil)) (.nil)) (.alt 3 (.alt 0 (.alt 4 (.leaf) (.nil)) (.nil)) (.nil))) (.nil))) (.nil))
def lv54 := tblN [(0, [0]), (1, [0, 7]), (2, [2, 3]), (3, [4]), (4, [4]), (5, [2, 3])]
def hd54 := tbl1 [(2, 0), (4, 0)]
/-! 56: loop.example/s01595/laws.eqRunS, params [29, 29], results [4], calls [96], assign binOp.add binOp.lss binOp.neq call call.len indexAddr load move unOp -/
theorem en56 : Enters Tryd.prog 56 := .mk Tryd.func56 (by rfl) rfl
def lv56 := tblN [(0, [0, 1]), (1, [0, 1, 10]), (2, [4]), (3, [0, 1, 5]), (4, [0, 1, 5, 14]), (5, [0, 1, 5]), (6, [0, 1, 5, 26]), (7, [4]), (8, [4])]
def hd56 := tbl1 [(6, 8)]
/-! 57: loop.example/s01595/laws.markRunS, params [29, 3], results [3], calls [], assign binOp.add binOp.lss call.len fieldAddr indexAddr move store -/
theorem en57 : Enters Tryd.prog 57 := .mk Tryd.func57 (by rfl) rfl
def lv57 := tblN [(0, [0, 1]), (1, [0, 1, 5]), (2, [0, 1, 5, 9]), (3, [0, 1, 5]), (4, [0, 1, 5]), (5, [0, 1, 5]), (6, [0, 1, 5]), (7, [0, 1, 5]), (8, [0, 1, 5]), (9, [0, 1, 5]), (10, [4])]
def hd57 := tbl1 []
/-! 58: loop.example/s01595/laws.szRootS, params [38, 3], results [3], calls [], assign binOp.lss binOp.sub call.len move -/
theorem en58 : Enters Tryd.prog 58 := .mk Tryd.func58 (by rfl) rfl
def lv58 := tblN [(0, [0, 1]), (1, [1]), (2, [1, 10]), (3, [4]), (4, [4])]
def hd58 := tbl1 []
/-! 59: loop.example/s01595/spec.l2SuperOK, params [45], results [4], calls [78], alloc assign binOp.add binOp.geq binOp.gtr binOp.lss binOp.sub box call call.len fieldAddr indexAddr load move pick store unOp -/
theorem en59 : Enters Tryd.prog 59 := .mk Tryd.func59 (by rfl) rfl
def lv59 := tblN [(0, [1]), (1, [1, 28]), (2, [2]), (3, [1, 50]), (4, [2]), (5, [1, 3]), (6, [1, 3, 55]), (7, [1, 3]), (8, [1, 3, 4]), (9, [1, 3, 100]), (10, [2]), (11, [2])]
def hd59 := tbl1 [(9, 38)]
/-! 60: loop.example/s01595/laws.toRootS, params [38], results [43], calls [97], assign binOp.add binOp.lss call call.len indexAddr load makeSlice move store -/
theorem en60 : Enters Tryd.prog 60 := .mk Tryd.func60 (by rfl) rfl
def lv60 := tblN [(0, [0]), (1, [0, 3]), (2, [0, 3, 4]), (3, [0, 3, 4, 11]), (4, [0, 3, 4]), (5, [0, 3, 4]), (6, [2])]
def hd60 := tbl1 []
/-! 61: loop.example/s01595/laws.eqRootS, params [43, 43], results [4], calls [98], assign binOp.add binOp.lss binOp.neq call call.len indexAddr load move unOp -/
theorem en61 : Enters Tryd.prog 61 := .mk Tryd.func61 (by rfl) rfl
def lv61 := tblN [(0, [0, 1]), (1, [0, 1, 10]), (2, [4]), (3, [0, 1, 5]), (4, [0, 1, 5, 14]), (5, [0, 1, 5]), (6, [0, 1, 5, 26]), (7, [4]), (8, [4])]
def hd61 := tbl1 [(6, 8)]
/-! 62: loop.example/s01595/laws.markRootS, params [43, 3], results [3], calls [], assign binOp.add binOp.lss call.len fieldAddr indexAddr move store -/
theorem en62 : Enters Tryd.prog 62 := .mk Tryd.func62 (by rfl) rfl
def lv62 := tblN [(0, [0, 1]), (1, [0, 1, 5]), (2, [0, 1, 5, 9]), (3, [0, 1, 5]), (4, [0, 1, 5]), (5, [0, 1, 5]), (6, [0, 1, 5]), (7, [0, 1, 5]), (8, [4])]
def hd62 := tbl1 []
/-! 63: loop.example/s01595/spec.l2Sum, params [26], results [2], calls [64, 90], assign binOp.neq call call.len convert move slice -/
theorem en63 : Enters Tryd.prog 63 := .mk Tryd.func63 (by rfl) rfl
def ot63_3 : OT := .now 0 (.now 2 (.alt 1 (.alt 3 (.alt 4 (.alt 5 (.now 6 (.leaf)) (.nil)) (.nil)) (.nil)) (.alt 3 (.alt 1 (.alt 4 (.alt 5 (.now 6 (.leaf)) (.nil)) (.nil)) (.nil)) (.nil))))
def lv63 := tblN [(0, [0]), (1, [0, 5]), (2, [2]), (3, [12]), (4, [2]), (5, [2])]
def hd63 := tbl1 [(3, 0)]
/-! 64: loop.example/s01595/spec.l2At, params [26, 2, 2], results [2], calls [], assign binOp.add binOp.geq binOp.mul binOp.sub convert indexAddr load move -/
theorem en64 : Enters Tryd.prog 64 := .mk Tryd.func64 (by rfl) rfl
def lv64 := tblN [(0, [0, 1, 2]), (1, [0, 1, 2, 7]), (2, [0, 1, 7, 8]), (3, [0, 1, 7, 8, 12]), (4, [0, 1, 7, 8]), (5, [0, 1, 7, 8]), (6, [6])]
def hd64 := tbl1 []
/-! 65: loop.example/s01595/spec.l2Same, params [26, 26], results [4], calls [], assign binOp.eql convert move -/
theorem en65 : Enters Tryd.prog 65 := .mk Tryd.func65 (by rfl) rfl
def lv65 := tblN [(0, [0, 1]), (1, [4])]
def hd65 := tbl1 []
/-! 66: loop.example/s01595/impl.decode, params [26], results [106, 84], calls [54, 93, 99, 100, 101, 102], assign binOp.eql binOp.neq box build call call.len convert extract indexAddr load makeInterface move slice sliceToArrayPointer -/
theorem en66 : Enters Tryd.prog 66 := .mk Tryd.func66 (by rfl) rfl
def ot66_2 : OT := .now 0 (.now 6 (.alt 1 (.alt 2 (.alt 3 (.alt 4 (.alt 5 (.now 7 (.leaf)) (.nil)) (.nil)) (.nil)) (.nil)) (.alt 2 (.alt 1 (.alt 3 (.alt 4 (.alt 5 (.now 7 (.leaf)) (.nil)) (.nil)) (.nil)) (.nil)) (.nil))))
def ot66_3 : OT := .now 0 (.now 1 (.now 3 (.now 4 (.alt 2 (.alt 5 (.alt 6 (.now 7 (.leaf)) (.nil)) (.nil)) (.nil)))))
def ot66_4 : OT := .now 4 (.alt 0 (.alt 1 (.alt 2 (.alt 3 (.now 5 (.leaf)) (.nil)) (.nil)) (.nil)) (.nil))
def ot66_15 : OT := .now 4 (.alt 0 (.alt 1 (.alt 2 (.alt 3 (.now 5 (.leaf)) (.nil)) (.nil)) (.nil)) (.nil))
def ot66_19 : OT := .now 0 (.now 3 (.alt 1 (.alt 2 (.alt 4 (.alt 5 (.alt 6 (.leaf) (.nil)) (.nil)) (.nil)) (.alt 4 (.alt 2 (.alt 5 (.alt 6 (.leaf) (.nil)) (.nil)) (.alt 5 (.alt 2 (.alt 6 (.leaf) (.nil)) (.nil)) (.nil))) (.nil))) (.alt 4 (.alt 1 (.alt 2 (.alt 5 (.alt 6 (.leaf) (.nil)) (.nil)) (.alt 5 (.alt 2 (.alt 6 (.leaf) (.nil)) (.nil)) (.nil))) (.alt 5 (.alt 1 (.alt 2 (.alt 6 (.leaf) (.nil)) (.nil)) (.nil)) (.nil))) (.nil))))
def ot66_20 : OT := .now 4 (.alt 0 (.alt 1 (.alt 2 (.alt 3 (.now 5 (.leaf)) (.nil)) (.nil)) (.nil)) (.nil))
def lv66 := tblN [(0, [0]), (1, [0, 9]), (2, [2, 3]), (3, [0, 23]), (4, [2, 3]), (5, [0, 4]), (6, [0, 4, 30]), (7, [0, 4, 30, 31]), (8, [0, 4, 30, 31]), (9, [0, 4]), (10, [0, 4, 30, 36]), (11, [0, 4]), (12, [0, 4, 40]), (13, [0, 4]), (14, [0, 4, 45]), (15, [2, 3]), (16, [0, 4, 5, 6]), (17, [0, 4, 5, 6, 56]), (18, [2, 3]), (19, [4, 64]), (20, [2, 3]), (21, [2, 3])]
def hd66 := tbl1 [(2, 0), (3, 0), (4, 0), (15, 0), (19, 0), (20, 0)]
/-! 67: loop.example/s01595/laws.heldRunS, params [29, 3], results [3], calls [], assign binOp.add binOp.lss binOp.neq call.len fieldAddr indexAddr load move -/
theorem en67 : Enters Tryd.prog 67 := .mk Tryd.func67 (by rfl) rfl
def lv67 := tblN [(0, [0, 1]), (1, [0, 1, 5]), (2, [0, 1, 5, 9]), (3, [0, 1, 5]), (4, [0, 1, 5, 18]), (5, [4]), (6, [0, 1, 5]), (7, [0, 1, 5, 27]), (8, [4]), (9, [0, 1, 5]), (10, [0, 1, 5, 36]), (11, [4]), (12, [0, 1, 5]), (13, [4])]
def hd67 := tbl1 []
/-! 68: loop.example/s01595/laws.heldRootS, params [43, 3], results [3], calls [], assign binOp.add binOp.lss binOp.neq call.len fieldAddr indexAddr load move -/
theorem en68 : Enters Tryd.prog 68 := .mk Tryd.func68 (by rfl) rfl
def lv68 := tblN [(0, [0, 1]), (1, [0, 1, 5]), (2, [0, 1, 5, 9]), (3, [0, 1, 5]), (4, [0, 1, 5, 18]), (5, [4]), (6, [0, 1, 5]), (7, [0, 1, 5, 27]), (8, [4]), (9, [0, 1, 5]), (10, [4])]
def hd68 := tbl1 []
/-! 69: loop.example/s01595/laws.szEntryS, params [56, 3], results [3], calls [103], assign binOp.add binOp.lss binOp.sub call call.len indexAddr load move -/
theorem en69 : Enters Tryd.prog 69 := .mk Tryd.func69 (by rfl) rfl
def lv69 := tblN [(0, [0, 1]), (1, [0, 1]), (2, [0, 1, 11]), (3, [4]), (4, [0, 1, 5]), (5, [0, 1, 5, 15]), (6, [0, 1, 5]), (7, [0, 1, 5]), (8, [0, 1, 5, 25]), (9, [4]), (10, [4])]
def hd69 := tbl1 []
/-! 70: loop.example/s01595/spec.l2NodeOK, params [63], results [4], calls [], alloc assign binOp.add binOp.eql binOp.geq binOp.gtr binOp.lss binOp.neq binOp.sub box call.len fieldAddr indexAddr load move pick store -/
theorem en70 : Enters Tryd.prog 70 := .mk Tryd.func70 (by rfl) rfl
def lv70 := tblN [(0, [1]), (1, [1, 3]), (2, [1, 3, 29]), (3, [2]), (4, [1, 3, 4]), (5, [1, 3, 4, 32]), (6, [1, 3, 4]), (7, [1, 3, 4, 5]), (8, [1, 3, 4, 5, 59]), (9, [2]), (10, [1, 3, 4, 5, 73]), (11, [2]), (12, [1, 3, 4, 91]), (13, [2]), (14, [2])]
def hd70 := tbl1 [(8, 20)]
/-! 71: loop.example/s01595/spec.l2Text, params [26, 9, 3], results [26], calls [], assign binOp.add binOp.lss buildSlice call.append call.len convert index move -/
theorem en71 : Enters Tryd.prog 71 := .mk Tryd.func71 (by rfl) rfl
def lv71 := tblN [(0, [0, 1, 2]), (1, [0, 1, 2]), (2, [0, 1, 2, 7]), (3, [0, 1, 2, 7, 16]), (4, [0, 1, 2, 7]), (5, [0, 1, 2, 7, 22]), (6, [0, 1, 2, 7]), (7, [0, 1, 2, 7]), (8, [6])]
def hd71 := tbl1 []
/-! 72: loop.example/s01595/laws.toEntryS, params [56], results [61], calls [104], assign binOp.add binOp.lss call call.len indexAddr load makeSlice move store -/
theorem en72 : Enters Tryd.prog 72 := .mk Tryd.func72 (by rfl) rfl
def lv72 := tblN [(0, [0]), (1, [0, 3]), (2, [0, 3, 4]), (3, [0, 3, 4, 11]), (4, [0, 3, 4]), (5, [0, 3, 4]), (6, [2])]
def hd72 := tbl1 []
/-! 73: loop.example/s01595/impl.formOf, params [63], results [106], calls [], alloc assign binOp.eql box build call.len fieldAddr load makeInterface store -/
theorem en73 : Enters Tryd.prog 73 := .mk Tryd.func73 (by rfl) rfl
def lv73 := tblN [(0, [1]), (1, [1, 3]), (2, [3, 14]), (3, [3, 14, 15]), (4, [2]), (5, [3, 20]), (6, [2]), (7, [2])]
def hd73 := tbl1 []
/-! 74: loop.example/s01595/laws.eqEntryS, params [61, 61], results [4], calls [105], assign binOp.add binOp.lss binOp.neq call call.len indexAddr load move unOp -/
theorem en74 : Enters Tryd.prog 74 := .mk Tryd.func74 (by rfl) rfl
def lv74 := tblN [(0, [0, 1]), (1, [0, 1, 10]), (2, [4]), (3, [0, 1, 5]), (4, [0, 1, 5, 14]), (5, [0, 1, 5]), (6, [0, 1, 5, 26]), (7, [4]), (8, [4])]
def hd74 := tbl1 [(6, 8)]
/-! 75: loop.example/s01595/laws.markEntryS, params [61, 3], results [3], calls [106], assign binOp.add binOp.lss call call.len fieldAddr indexAddr move store -/
theorem en75 : Enters Tryd.prog 75 := .mk Tryd.func75 (by rfl) rfl
def lv75 := tblN [(0, [0, 1]), (1, [0, 1, 5]), (2, [0, 1, 5, 9]), (3, [0, 1, 5]), (4, [0, 1, 5]), (5, [0, 1, 5]), (6, [0, 1, 5]), (7, [0, 1, 5]), (8, [0, 1, 5]), (9, [0, 1, 5]), (10, [4])]
def hd75 := tbl1 []
/-! 76: loop.example/s01595/spec.l2Cut, params [26, 2, 2], results [9], calls [], assign binOp.add binOp.gtr convert indexAddr load move slice -/
theorem en76 : Enters Tryd.prog 76 := .mk Tryd.func76 (by rfl) rfl
def lv76 := tblN [(0, [0, 1, 2]), (1, [0, 1, 2, 7]), (2, [0, 1, 2, 7, 15]), (3, [0, 1, 7]), (4, [6])]
def hd76 := tbl1 []
/-! 77: loop.example/s01595/laws.heldEntryS, params [61, 3], results [3], calls [106], assign binOp.add binOp.lss binOp.neq call call.len fieldAddr indexAddr load move -/
theorem en77 : Enters Tryd.prog 77 := .mk Tryd.func77 (by rfl) rfl
def ot77_4 : OT := .now 0 (.now 1 (.now 5 (.alt 2 (.now 3 (.alt 4 (.alt 6 (.alt 7 (.leaf) (.nil)) (.nil)) (.alt 6 (.alt 4 (.alt 7 (.leaf) (.nil)) (.nil)) (.nil)))) (.alt 6 (.alt 2 (.now 3 (.alt 4 (.alt 7 (.leaf) (.nil)) (.nil))) (.nil)) (.nil)))))
def ot77_7 : OT := .now 0 (.now 1 (.now 5 (.alt 2 (.now 3 (.alt 4 (.alt 6 (.alt 7 (.leaf) (.nil)) (.nil)) (.alt 6 (.alt 4 (.alt 7 (.leaf) (.nil)) (.nil)) (.nil)))) (.alt 6 (.alt 2 (.now 3 (.alt 4 (.alt 7 (.leaf) (.nil)) (.nil))) (.nil)) (.nil)))))
def lv77 := tblN [(0, [0, 1]), (1, [0, 1, 5]), (2, [0, 1, 5, 9]), (3, [0, 1, 5]), (4, [0, 1, 5, 19]), (5, [4]), (6, [0, 1, 5]), (7, [0, 1, 5, 29]), (8, [4]), (9, [0, 1, 5]), (10, [0, 1, 5, 38]), (11, [4]), (12, [0, 1, 5]), (13, [4])]
def hd77 := tbl1 [(4, 0), (7, 0)]
/-! 78: loop.example/s01595/spec.l1BlocksOK, params [2], results [4], calls [], assign binOp.geq binOp.leq move pick -/
theorem en78 : Enters Tryd.prog 78 := .mk Tryd.func78 (by rfl) rfl
def lv78 := tblN [(0, [0]), (1, [2])]
def hd78 := tbl1 []
/-! 90: loop.example/s01595/spec.Crc32, params [26], results [142], calls [], assign binOp.add binOp.and binOp.eql binOp.lss binOp.shr binOp.xor call.len convert indexAddr load move -/
theorem en90 : Enters Tryd.prog 90 := .mk Tryd.func90 (by rfl) rfl
def lv90 := tblN [(0, [0]), (1, [0, 3]), (2, [0, 3, 4]), (3, [0, 3, 4, 10]), (4, [0, 3, 4]), (5, [0, 3, 4]), (6, [0, 3, 4, 5]), (7, [0, 3, 4, 5, 21]), (8, [0, 3, 4, 5]), (9, [0, 3, 4, 5, 6]), (10, [0, 3, 4, 5, 6]), (11, [0, 3, 4, 5, 29]), (12, [0, 3, 4, 5]), (13, [2])]
def hd90 := tbl1 []
/-! 91: loop.example/s01595/laws.toRun, params [145], results [81], calls [], alloc box fieldAddr load store -/
theorem en91 : Enters Tryd.prog 91 := .mk Tryd.func91 (by rfl) rfl
def lv91 := tblN [(0, [1, 2]), (1, [1, 2, 3]), (2, [1, 2, 3]), (3, [1, 2, 3]), (4, [2, 3]), (5, [2])]
def hd91 := tbl1 []
/-! 92: loop.example/s01595/impl.number, params [26, 2, 3], results [], calls [], assign binOp.add binOp.lss binOp.mul binOp.shr convert indexAddr move store -/
theorem en92 : Enters Tryd.prog 92 := .mk Tryd.func92 (by rfl) rfl
def lv92 := tblN [(0, [0, 1, 7, 8]), (1, [0, 1, 7, 8, 9]), (2, [0, 1, 6, 7, 8]), (3, [0, 1, 7, 8]), (4, [0, 1, 7, 8])]
def hd92 := tbl1 []
/-! 93: loop.example/s01595/impl.Crc32, params [26], results [142], calls [], assign binOp.add binOp.and binOp.eql binOp.lss binOp.shr binOp.xor call.len convert indexAddr load move unOp -/
theorem en93 : Enters Tryd.prog 93 := .mk Tryd.func93 (by rfl) rfl
def lv93 := tblN [(0, [0]), (1, [0, 3]), (2, [3, 6, 7, 8]), (3, [3, 6, 7, 8, 9]), (4, [3, 5, 6, 7, 8]), (5, [3, 6, 7, 8]), (6, [3, 6, 7, 8, 16]), (7, [3, 6, 7, 8, 16, 17]), (8, [3, 6, 7, 8, 16, 20]), (9, [3, 6, 7, 8, 16]), (10, [3, 6, 7, 8, 16]), (11, [3, 6, 7, 8, 16]), (12, [3, 6, 7, 8]), (13, [2])]
def hd93 := tbl1 []
/-! 96: loop.example/s01595/laws.eqRun, params [81, 81], results [4], calls [], assign binOp.neq box fieldAddr load -/
theorem en96 : Enters Tryd.prog 96 := .mk Tryd.func96 (by rfl) rfl
def lv96 := tblN [(0, [2, 3]), (1, [2, 3, 9]), (2, [4]), (3, [2, 3, 14]), (4, [4]), (5, [19]), (6, [4]), (7, [4])]
def hd96 := tbl1 []
/-! 97: loop.example/s01595/laws.toRoot, params [159], results [97], calls [], alloc box fieldAddr load store -/
theorem en97 : Enters Tryd.prog 97 := .mk Tryd.func97 (by rfl) rfl
def lv97 := tblN [(0, [1, 2]), (1, [1, 2, 3]), (2, [1, 2, 3]), (3, [2, 3]), (4, [2])]
def hd97 := tbl1 []
/-! 98: loop.example/s01595/laws.eqRoot, params [97, 97], results [4], calls [], assign binOp.neq box fieldAddr load -/
theorem en98 : Enters Tryd.prog 98 := .mk Tryd.func98 (by rfl) rfl
def lv98 := tblN [(0, [2, 3]), (1, [2, 3, 9]), (2, [4]), (3, [14]), (4, [4]), (5, [4])]
def hd98 := tbl1 []
/-! 99: loop.example/s01595/impl.numberAt, params [26, 3], results [2], calls [], assign binOp.add binOp.lss binOp.mul binOp.or binOp.shl convert indexAddr load move -/
theorem en99 : Enters Tryd.prog 99 := .mk Tryd.func99 (by rfl) rfl
def lv99 := tblN [(0, [0, 1]), (1, [0, 1, 5]), (2, [0, 5, 7, 8]), (3, [0, 5, 7, 8, 9]), (4, [0, 5, 6, 7, 8]), (5, [0, 5, 7, 8]), (6, [0, 5, 7, 8]), (7, [4])]
def hd99 := tbl1 []
/-! 100: loop.example/s01595/impl.readNode, params [26], results [106], calls [99, 116], alloc assign binOp.add binOp.eql binOp.gtr binOp.lss binOp.mul build buildSlice call call.append convert extract fieldAddr indexAddr load makeInterface move slice store unOp -/
theorem en100 : Enters Tryd.prog 100 := .mk Tryd.func100 (by rfl) rfl
def lv100 := tblN [(0, [0]), (1, [0, 3]), (2, [0, 3, 15]), (3, [2]), (4, [0, 3, 4]), (5, [0, 4, 23, 24]), (6, [0, 4, 23, 24, 25]), (7, [0, 4, 5, 23, 24]), (8, [0, 4, 6, 23, 24]), (9, [0, 4, 6, 7, 8, 23, 24]), (10, [0, 4, 6, 7, 23, 24, 38]), (11, [2]), (12, [0, 4, 6, 9, 23, 24]), (13, [0, 4, 6, 9, 23, 24, 44]), (14, [0, 4, 9, 23, 24]), (15, [0, 4, 8, 9, 23, 24]), (16, [0, 4, 9, 23, 24, 57]), (17, [2]), (18, [0, 4, 23, 24]), (19, [0, 4, 23, 24]), (20, [4, 68]), (21, [2]), (22, [2])]
def hd100 := tbl1 []
/-! 101: loop.example/s01595/impl.readTable, params [26], results [106], calls [99], alloc assign binOp.add binOp.gtr binOp.lss binOp.mul build buildSlice call call.append convert fieldAddr indexAddr load makeInterface move slice store -/
theorem en101 : Enters Tryd.prog 101 := .mk Tryd.func101 (by rfl) rfl
def ot101_9 : OT := .now 0 (.now 1 (.now 3 (.now 5 (.now 6 (.now 8 (.now 9 (.alt 2 (.alt 4 (.alt 7 (.alt 10 (.alt 11 (.alt 12 (.alt 13 (.now 14 (.now 15 (.alt 16 (.leaf) (.nil)))) (.nil)) (.nil)) (.nil)) (.nil)) (.nil)) (.nil)) (.alt 4 (.alt 2 (.alt 7 (.alt 10 (.alt 11 (.alt 12 (.alt 13 (.now 14 (.now 15 (.alt 16 (.leaf) (.nil)))) (.nil)) (.nil)) (.nil)) (.nil)) (.nil)) (.alt 7 (.alt 2 (.alt 10 (.alt 11 (.alt 12 (.alt 13 (.now 14 (.now 15 (.alt 16 (.leaf) (.nil)))) (.nil)) (.nil)) (.nil)) (.nil)) (.alt 10 (.alt 2 (.alt 11 (.alt 12 (.alt 13 (.now 14 (.now 15 (.alt 16 (.leaf) (.nil)))) (.nil)) (.nil)) (.nil)) (.alt 11 (.alt 2 (.alt 12 (.alt 13 (.now 14 (.now 15 (.alt 16 (.leaf) (.nil)))) (.nil)) (.nil)) (.alt 12 (.alt 2 (.alt 13 (.now 14 (.now 15 (.alt 16 (.leaf) (.nil)))) (.nil)) (.nil)) (.nil))) (.nil))) (.nil))) (.nil))) (.nil)))))))))
def lv101 := tblN [(0, [0]), (1, [0, 3]), (2, [0, 3, 12]), (3, [2]), (4, [0, 3, 4]), (5, [0, 4, 20, 21]), (6, [0, 4, 20, 21, 22]), (7, [0, 4, 5, 20, 21]), (8, [0, 4, 6, 20, 21]), (9, [0, 4, 20, 21]), (10, [0, 4, 20, 21]), (11, [2])]
def hd101 := tbl1 [(9, 0)]
/-! 102: loop.example/s01595/impl.readSuper, params [26], results [106], calls [99], alloc assign binOp.add binOp.gtr binOp.lss binOp.mul build buildSlice call call.append convert fieldAddr indexAddr load makeInterface move slice store -/
theorem en102 : Enters Tryd.prog 102 := .mk Tryd.func102 (by rfl) rfl
def ot102_4 : OT := .now 0 (.now 1 (.now 3 (.now 4 (.now 6 (.now 7 (.now 9 (.now 10 (.alt 2 (.alt 5 (.alt 8 (.alt 11 (.alt 12 (.alt 13 (.alt 14 (.leaf) (.nil)) (.nil)) (.alt 13 (.alt 12 (.alt 14 (.leaf) (.nil)) (.nil)) (.nil))) (.alt 13 (.alt 11 (.alt 12 (.alt 14 (.leaf) (.nil)) (.nil)) (.nil)) (.nil))) (.alt 13 (.alt 8 (.alt 11 (.alt 12 (.alt 14 (.leaf) (.nil)) (.nil)) (.nil)) (.nil)) (.nil))) (.alt 13 (.alt 5 (.alt 8 (.alt 11 (.alt 12 (.alt 14 (.leaf) (.nil)) (.nil)) (.nil)) (.nil)) (.nil)) (.nil))) (.alt 13 (.alt 2 (.alt 5 (.alt 8 (.alt 11 (.alt 12 (.alt 14 (.leaf) (.nil)) (.nil)) (.nil)) (.nil)) (.nil)) (.nil)) (.nil))))))))))
def ot102_9 : OT := .now 0 (.now 2 (.now 4 (.now 5 (.alt 1 (.alt 3 (.alt 6 (.alt 7 (.alt 8 (.alt 9 (.now 10 (.alt 11 (.leaf) (.nil))) (.nil)) (.nil)) (.nil)) (.nil)) (.nil)) (.alt 3 (.alt 1 (.alt 6 (.alt 7 (.alt 8 (.alt 9 (.now 10 (.alt 11 (.leaf) (.nil))) (.nil)) (.nil)) (.nil)) (.nil)) (.alt 6 (.alt 1 (.alt 7 (.alt 8 (.alt 9 (.now 10 (.alt 11 (.leaf) (.nil))) (.nil)) (.nil)) (.nil)) (.alt 7 (.alt 1 (.alt 8 (.alt 9 (.now 10 (.alt 11 (.leaf) (.nil))) (.nil)) (.nil)) (.alt 8 (.alt 1 (.alt 9 (.now 10 (.alt 11 (.leaf) (.nil))) (.nil)) (.nil)) (.nil))) (.nil))) (.nil))) (.nil))))))
def lv102 := tblN [(0, [0]), (1, [0, 3]), (2, [0, 3, 12]), (3, [2]), (4, [0, 3, 4]), (5, [0, 3, 4, 26, 27]), (6, [0, 3, 4, 26, 27, 28]), (7, [0, 3, 4, 5, 26, 27]), (8, [0, 3, 4, 6, 26, 27]), (9, [0, 3, 4, 26, 27]), (10, [0, 3, 4, 26, 27]), (11, [2])]
def hd102 := tbl1 [(4, 0), (9, 0)]
/-! 103: loop.example/s01595/laws.szEntry, params [164, 3], results [3], calls [], assign binOp.lss binOp.sub box call.len fieldAddr load move -/
theorem en103 : Enters Tryd.prog 103 := .mk Tryd.func103 (by rfl) rfl
def lv103 := tblN [(0, [1, 2]), (1, [1, 2]), (2, [1, 2, 11]), (3, [4]), (4, [1]), (5, [1, 18]), (6, [4]), (7, [4])]
def hd103 := tbl1 []
/-! 104: loop.example/s01595/laws.toEntry, params [164], results [114], calls [], alloc box fieldAddr load store -/
theorem en104 : Enters Tryd.prog 104 := .mk Tryd.func104 (by rfl) rfl
def lv104 := tblN [(0, [1, 2]), (1, [1, 2, 3]), (2, [1, 2, 3]), (3, [1, 2, 3]), (4, [2, 3]), (5, [2])]
def hd104 := tbl1 []
/-! 105: loop.example/s01595/laws.eqEntry, params [114, 114], results [4], calls [], assign binOp.neq box fieldAddr load -/
theorem en105 : Enters Tryd.prog 105 := .mk Tryd.func105 (by rfl) rfl
def lv105 := tblN [(0, [2, 3]), (1, [2, 3, 9]), (2, [4]), (3, [2, 3, 14]), (4, [4]), (5, [19]), (6, [4]), (7, [4])]
def hd105 := tbl1 []
/-! 106: loop.example/s01595/laws.markText, params [3], results [9], calls [], assign binOp.add binOp.gtr binOp.leq binOp.quo binOp.rem buildSlice convert move -/
theorem en106 : Enters Tryd.prog 106 := .mk Tryd.func106 (by rfl) rfl
def lv106 := tblN [(0, [0]), (1, [0, 5]), (2, [2]), (3, [0, 3]), (4, [0, 3, 7]), (5, [0, 3]), (6, [0, 3]), (7, [2])]
def hd106 := tbl1 []
/-! 116: loop.example/s01595/impl.text, params [26, 3], results [9, 4], calls [], assign binOp.add binOp.gtr convert indexAddr load move slice -/
theorem en116 : Enters Tryd.prog 116 := .mk Tryd.func116 (by rfl) rfl
def lv116 := tblN [(0, [0, 1]), (1, [0, 1, 6]), (2, [0, 6, 13]), (3, [4, 5]), (4, [4, 5])]
def hd116 := tbl1 []
/-! 141: (loop.example/s01595/impl.header).begin, params [88], results [151], calls [], alloc box build convert fieldAddr load store -/
theorem en141 : Enters Tryd.prog 141 := .mk Tryd.func141 (by rfl) rfl
def lv141 := tblN [(0, [1, 2]), (1, [2])]
def hd141 := tbl1 []
/-! 142: (loop.example/s01595/impl.tableForm).lay, params [90], results [151], calls [92, 141], alloc assign binOp.add binOp.lss binOp.mul box call call.len fieldAddr indexAddr load move slice store -/
theorem en142 : Enters Tryd.prog 142 := .mk Tryd.func142 (by rfl) rfl
def lv142 := tblN [(0, [1, 2]), (1, [1, 2, 3]), (2, [1, 2, 3]), (3, [2, 3, 16, 17, 18]), (4, [2, 3, 16, 17, 18, 19]), (5, [2, 3, 4, 5, 16, 17, 18]), (6, [2, 3, 4, 5, 16, 17, 18]), (7, [2, 3, 4, 5, 16, 17, 18]), (8, [2, 3, 16, 17, 18]), (9, [2, 3, 16, 17, 18]), (10, [2])]
def hd142 := tbl1 [(2, 4), (6, 6), (7, 6), (8, 6)]
/-! 143: (loop.example/s01595/impl.tableForm).sound, params [90], results [4], calls [144], assign binOp.geq binOp.leq binOp.lss binOp.neq box call call.len fieldAddr load move pick -/
theorem en143 : Enters Tryd.prog 143 := .mk Tryd.func143 (by rfl) rfl
def lv143 := tblN [(0, [1]), (1, [1, 18]), (2, [2]), (3, [2])]
def hd143 := tbl1 []
/-! 144: loop.example/s01595/impl.inOrder, params [29], results [4], calls [], alloc assign binOp.add binOp.eql binOp.gtr binOp.lss binOp.sub call.len fieldAddr indexAddr load move pick store -/
theorem en144 : Enters Tryd.prog 144 := .mk Tryd.func144 (by rfl) rfl
def lv144 := tblN [(0, [0]), (1, [0, 6, 7, 8]), (2, [0, 6, 7, 8, 9]), (3, [0, 3, 4, 6, 7, 8]), (4, [0, 3, 4, 6, 7, 8, 38]), (5, [2]), (6, [0, 3, 4, 6, 7, 8, 46]), (7, [2]), (8, [0, 3, 4, 6, 7, 8, 48]), (9, [0, 3, 4, 5, 6, 7, 8]), (10, [0, 6, 7, 8, 82]), (11, [2]), (12, [0, 6, 7, 8]), (13, [2])]
def hd144 := tbl1 [(9, 14), (10, 21)]
/-! 145: (loop.example/s01595/impl.superForm).lay, params [100], results [151], calls [92, 141], alloc assign binOp.add binOp.lss binOp.mul box call call.len fieldAddr indexAddr load move slice store -/
theorem en145 : Enters Tryd.prog 145 := .mk Tryd.func145 (by rfl) rfl
def lv145 := tblN [(0, [1, 2]), (1, [1, 2, 3]), (2, [1, 2, 3]), (3, [1, 2, 3]), (4, [1, 2, 3]), (5, [1, 2, 3]), (6, [2, 3, 31, 32, 33]), (7, [2, 3, 31, 32, 33, 34]), (8, [2, 3, 4, 5, 31, 32, 33]), (9, [2, 3, 4, 5, 31, 32, 33]), (10, [2, 3, 31, 32, 33]), (11, [2, 3, 31, 32, 33]), (12, [2])]
def hd145 := tbl1 [(2, 4), (3, 4), (4, 4), (5, 4), (9, 6), (10, 6)]
/-! 146: (loop.example/s01595/impl.superForm).sound, params [100], results [4], calls [], alloc assign binOp.add binOp.geq binOp.gtr binOp.lss binOp.sub box call.len fieldAddr indexAddr load move pick store -/
theorem en146 : Enters Tryd.prog 146 := .mk Tryd.func146 (by rfl) rfl
def lv146 := tblN [(0, [1]), (1, [3]), (2, [3, 25]), (3, [2]), (4, [3, 45]), (5, [2]), (6, [3, 55]), (7, [2]), (8, [3, 57, 58, 59]), (9, [3, 57, 58, 59, 60]), (10, [3, 4, 5, 57, 58, 59]), (11, [3, 57, 58, 59, 101]), (12, [2]), (13, [3, 57, 58, 59]), (14, [2])]
def hd146 := tbl1 [(11, 38)]
/-! 147: (loop.example/s01595/impl.leafForm).lay, params [124], results [151], calls [141], alloc assign binOp.add binOp.lss binOp.mul box call call.copy call.len convert fieldAddr indexAddr load move slice store -/
theorem en147 : Enters Tryd.prog 147 := .mk Tryd.func147 (by rfl) rfl
def lv147 := tblN [(0, [1, 2]), (1, [1, 2, 3]), (2, [2, 3, 13, 14, 15]), (3, [2, 3, 13, 14, 15, 16]), (4, [2, 3, 4, 5, 13, 14, 15]), (5, [2, 3, 5, 6, 13, 14, 15]), (6, [2, 3, 5, 6, 13, 14, 15]), (7, [2, 3, 5, 6, 13, 14, 15]), (8, [2, 3, 5, 6, 13, 14, 15]), (9, [2, 3, 13, 14, 15]), (10, [2, 3, 13, 14, 15]), (11, [2])]
def hd147 := tbl1 [(7, 5), (9, 5)]
/-! 148: (loop.example/s01595/impl.leafForm).sound, params [124], results [4], calls [149], alloc assign binOp.add binOp.gtr binOp.lss binOp.neq box call call.len fieldAddr indexAddr load move pick store -/
theorem en148 : Enters Tryd.prog 148 := .mk Tryd.func148 (by rfl) rfl
def lv148 := tblN [(0, [1]), (1, [1, 9]), (2, [2]), (3, [1, 12, 13, 14]), (4, [1, 12, 13, 14, 15]), (5, [1, 4, 12, 13, 14]), (6, [1, 12, 13, 14, 26]), (7, [2]), (8, [1, 12, 13, 14]), (9, [2])]
def hd148 := tbl1 []
/-! 149: loop.example/s01595/impl.ascending, params [61], results [4], calls [], alloc assign binOp.add binOp.geq binOp.gtr binOp.lss binOp.sub call.len fieldAddr indexAddr load move pick store -/
theorem en149 : Enters Tryd.prog 149 := .mk Tryd.func149 (by rfl) rfl
def lv149 := tblN [(0, [0]), (1, [0, 5, 6, 7]), (2, [0, 5, 6, 7, 8]), (3, [0, 3, 4, 5, 6, 7]), (4, [0, 5, 6, 7, 30]), (5, [2]), (6, [0, 5, 6, 7]), (7, [2])]
def hd149 := tbl1 [(4, 19)]
/-! 150: (loop.example/s01595/impl.innerForm).lay, params [125], results [151], calls [92, 141], alloc assign binOp.add binOp.lss binOp.mul box call call.copy call.len convert fieldAddr indexAddr load move slice store -/
theorem en150 : Enters Tryd.prog 150 := .mk Tryd.func150 (by rfl) rfl
def lv150 := tblN [(0, [1, 2]), (1, [1, 2, 3]), (2, [2, 3, 13, 14, 15]), (3, [2, 3, 13, 14, 15, 16]), (4, [2, 3, 4, 5, 13, 14, 15]), (5, [2, 3, 5, 6, 13, 14, 15]), (6, [2, 3, 5, 6, 13, 14, 15]), (7, [2, 3, 5, 6, 13, 14, 15]), (8, [2, 3, 13, 14, 15]), (9, [2, 3, 13, 14, 15]), (10, [2])]
def hd150 := tbl1 [(7, 5), (8, 5)]
/-! 151: (loop.example/s01595/impl.innerForm).sound, params [125], results [4], calls [149], alloc assign binOp.add binOp.geq binOp.gtr binOp.lss binOp.neq box call call.len fieldAddr indexAddr load move pick store -/
theorem en151 : Enters Tryd.prog 151 := .mk Tryd.func151 (by rfl) rfl
def lv151 := tblN [(0, [1]), (1, [1, 16]), (2, [2]), (3, [1, 19, 20, 21]), (4, [1, 19, 20, 21, 22]), (5, [1, 4, 19, 20, 21]), (6, [1, 19, 20, 21, 37]), (7, [2]), (8, [1, 19, 20, 21]), (9, [2])]
def hd151 := tbl1 []
/-! 153: (*loop.example/s01595/impl.misplaced).Unwrap, params [147], results [84], calls [], assign fieldAddr load move nilCheck -/
theorem en153 : Enters Tryd.prog 153 := .mk Tryd.func153 (by rfl) rfl
def lv153 := tblN [(0, [0]), (1, [2])]
def hd153 := tbl1 []
end Go.Proofs.YtegbadccjidfjaaDoor.EngTab
