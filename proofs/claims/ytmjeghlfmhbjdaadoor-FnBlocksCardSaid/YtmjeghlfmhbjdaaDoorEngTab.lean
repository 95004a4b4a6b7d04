/- The program's tables: its types, the functions' entries, the slots that live behind each region. Written by wip/eng/eg.py. -/
import Derived.Test.YtmjeghlfmhbjdaaDoorProg
import Derived.Test.YtmjeghlfmhbjdaaDoorEn4
namespace Go.Proofs.YtmjeghlfmhbjdaaDoor.EngTab
open Go.Proofs.YtmjeghlfmhbjdaaDoor.Eng
set_option maxRecDepth 100000
theorem mixed : Tryd.prog.follows .mixedOrders = true := by rfl
theorem ty2 : TyOk Tryd.prog (.int .i64) 2 := .int Tryd.underlying2 (.mk (n := 8) (by kernel_rfl) (by decide) (by decide))
theorem ty3 : TyOk Tryd.prog (.int .i64) 3 := .int Tryd.underlying3 (.mk (n := 8) (by kernel_rfl) (by decide) (by decide))
theorem ty4 : TyOk Tryd.prog (.bool) 4 := .bool Tryd.underlying4 (.mk (n := 1) (by kernel_rfl) (by decide) (by decide))
theorem ty5 : TyOk Tryd.prog (.int .u8) 5 := .int Tryd.underlying5 (.mk (n := 1) (by kernel_rfl) (by decide) (by decide))
theorem ty9 : TyOk Tryd.prog (.str) 9 := .str Tryd.underlying9 (.mk (n := 16) (by kernel_rfl) (by decide) (by decide))
theorem ty22 : TyOk Tryd.prog (.sl (.int .u8)) 22 := .sl Tryd.underlying22 ty5 (.mk (n := 24) (by kernel_rfl) (by decide) (by decide))
theorem ty52 : TyOk Tryd.prog (.pair (.str) (.pair (.str) (.pair (.int .i64) (.unit)))) 52 := .struct Tryd.underlying52 (.cons rfl ty9 (.cons rfl ty9 (.cons rfl ty2 (.nil)))) (.mk (n := 40) (by kernel_rfl) (by decide) (by decide))
theorem ty23 : TyOk Tryd.prog (.sl (.pair (.str) (.pair (.str) (.pair (.int .i64) (.unit))))) 23 := .sl Tryd.underlying23 ty52 (.mk (n := 24) (by kernel_rfl) (by decide) (by decide))
theorem ty25 : TyOk Tryd.prog (.pair (.int .i64) (.pair (.sl (.pair (.str) (.pair (.str) (.pair (.int .i64) (.unit))))) (.unit))) 25 := .struct Tryd.underlying25 (.cons rfl ty2 (.cons rfl ty23 (.nil))) (.mk (n := 32) (by kernel_rfl) (by decide) (by decide))
theorem ty80 : TyOk Tryd.prog (.pair (.int .i64) (.pair (.int .i64) (.pair (.int .i64) (.unit)))) 80 := .struct Tryd.underlying80 (.cons rfl ty2 (.cons rfl ty2 (.cons rfl ty2 (.nil)))) (.mk (n := 24) (by kernel_rfl) (by decide) (by decide))
theorem ty32 : TyOk Tryd.prog (.sl (.pair (.int .i64) (.pair (.int .i64) (.pair (.int .i64) (.unit))))) 32 := .sl Tryd.underlying32 ty80 (.mk (n := 24) (by kernel_rfl) (by decide) (by decide))
theorem ty34 : TyOk Tryd.prog (.pair (.int .i64) (.pair (.sl (.pair (.int .i64) (.pair (.int .i64) (.pair (.int .i64) (.unit))))) (.unit))) 34 := .struct Tryd.underlying34 (.cons rfl ty2 (.cons rfl ty32 (.nil))) (.mk (n := 32) (by kernel_rfl) (by decide) (by decide))
theorem ty46 : TyOk Tryd.prog (.pair (.int .i64) (.pair (.int .i64) (.unit))) 46 := .struct Tryd.underlying46 (.cons rfl ty2 (.cons rfl ty2 (.nil))) (.mk (n := 16) (by kernel_rfl) (by decide) (by decide))
theorem ty39 : TyOk Tryd.prog (.sl (.pair (.int .i64) (.pair (.int .i64) (.unit)))) 39 := .sl Tryd.underlying39 ty46 (.mk (n := 24) (by kernel_rfl) (by decide) (by decide))
theorem ty41 : TyOk Tryd.prog (.pair (.int .i64) (.pair (.int .i64) (.pair (.int .i64) (.pair (.int .i64) (.pair (.sl (.pair (.int .i64) (.pair (.int .i64) (.unit)))) (.unit)))))) 41 := .struct Tryd.underlying41 (.cons rfl ty2 (.cons rfl ty2 (.cons rfl ty2 (.cons rfl ty2 (.cons rfl ty39 (.nil)))))) (.mk (n := 56) (by kernel_rfl) (by decide) (by decide))
theorem ty47 : TyOk Tryd.prog (.int .u64) 47 := .int Tryd.underlying47 (.mk (n := 8) (by kernel_rfl) (by decide) (by decide))
theorem ty54 : TyOk Tryd.prog (.int .u64) 54 := .int Tryd.underlying54 (.mk (n := 8) (by kernel_rfl) (by decide) (by decide))
theorem ty56 : TyOk Tryd.prog (.pair (.sl (.int .u8)) (.pair (.int .i64) (.pair (.int .u64) (.unit)))) 56 := .struct Tryd.underlying56 (.cons rfl ty22 (.cons rfl ty2 (.cons rfl ty54 (.nil)))) (.mk (n := 40) (by kernel_rfl) (by decide) (by decide))
theorem ty59 : TyOk Tryd.prog (.ptr (.pair (.sl (.int .u8)) (.pair (.int .i64) (.pair (.int .u64) (.unit))))) 59 := .ptr Tryd.underlying59 ty56 (.mk (n := 8) (by kernel_rfl) (by decide) (by decide))
theorem ty63 : TyOk Tryd.prog (.any) 63 := .any Tryd.underlying63 (.mk (n := 16) (by kernel_rfl) (by decide) (by decide))
theorem ty66 : TyOk Tryd.prog (.any) 66 := .any Tryd.underlying66 (.mk (n := 16) (by kernel_rfl) (by decide) (by decide))
theorem ty73 : TyOk Tryd.prog (.pair (.int .i64) (.pair (.int .i64) (.unit))) 73 := .struct Tryd.underlying73 (.cons rfl ty2 (.cons rfl ty3 (.nil))) (.mk (n := 16) (by kernel_rfl) (by decide) (by decide))
theorem ty75 : TyOk Tryd.prog (.pair (.pair (.int .i64) (.pair (.int .i64) (.unit))) (.pair (.sl (.pair (.str) (.pair (.str) (.pair (.int .i64) (.unit))))) (.unit))) 75 := .struct Tryd.underlying75 (.cons rfl ty73 (.cons rfl ty23 (.nil))) (.mk (n := 40) (by kernel_rfl) (by decide) (by decide))
theorem ty77 : TyOk Tryd.prog (.pair (.pair (.pair (.int .i64) (.pair (.int .i64) (.unit))) (.pair (.sl (.pair (.str) (.pair (.str) (.pair (.int .i64) (.unit))))) (.unit))) (.unit)) 77 := .struct Tryd.underlying77 (.cons rfl ty75 (.nil)) (.mk (n := 40) (by kernel_rfl) (by decide) (by decide))
theorem ty78 : TyOk Tryd.prog (.pair (.pair (.pair (.int .i64) (.pair (.int .i64) (.unit))) (.pair (.sl (.pair (.str) (.pair (.str) (.pair (.int .i64) (.unit))))) (.unit))) (.unit)) 78 := .struct Tryd.underlying78 (.cons rfl ty75 (.nil)) (.mk (n := 40) (by kernel_rfl) (by decide) (by decide))
theorem ty83 : TyOk Tryd.prog (.pair (.pair (.int .i64) (.pair (.int .i64) (.unit))) (.pair (.pair (.int .i64) (.pair (.sl (.pair (.int .i64) (.pair (.int .i64) (.pair (.int .i64) (.unit))))) (.unit))) (.unit))) 83 := .struct Tryd.underlying83 (.cons rfl ty73 (.cons rfl ty34 (.nil))) (.mk (n := 48) (by kernel_rfl) (by decide) (by decide))
theorem ty87 : TyOk Tryd.prog (.pair (.pair (.int .i64) (.pair (.int .i64) (.unit))) (.pair (.pair (.int .i64) (.pair (.int .i64) (.pair (.int .i64) (.pair (.int .i64) (.pair (.sl (.pair (.int .i64) (.pair (.int .i64) (.unit)))) (.unit)))))) (.unit))) 87 := .struct Tryd.underlying87 (.cons rfl ty73 (.cons rfl ty41 (.nil))) (.mk (n := 72) (by kernel_rfl) (by decide) (by decide))
theorem ty89 : TyOk Tryd.prog (.int .u32) 89 := .int Tryd.underlying89 (.mk (n := 4) (by kernel_rfl) (by decide) (by decide))
theorem ty98 : TyOk Tryd.prog (.pair (.int .i64) (.pair (.any) (.unit))) 98 := .struct Tryd.underlying98 (.cons rfl ty3 (.cons rfl ty66 (.nil))) (.mk (n := 24) (by kernel_rfl) (by decide) (by decide))
theorem ty96 : TyOk Tryd.prog (.ptr (.pair (.int .i64) (.pair (.any) (.unit)))) 96 := .ptr Tryd.underlying96 ty98 (.mk (n := 8) (by kernel_rfl) (by decide) (by decide))
theorem ty100 : TyOk Tryd.prog (.arr 128 (.int .u8)) 100 := .arr Tryd.underlying100 ty5 (.mk (n := 128) (by kernel_rfl) (by decide) (by decide))
theorem ty20 : TyOk Tryd.prog (.any) 20 := .any Tryd.underlying20 (.mk (n := 16) (by kernel_rfl) (by decide) (by decide))
theorem ty104 : TyOk Tryd.prog (.ptr (.ptr (.pair (.int .i64) (.pair (.any) (.unit))))) 104 := .ptr Tryd.underlying104 ty96 (.mk (n := 8) (by kernel_rfl) (by decide) (by decide))
def tab : Tab := Tab.of [(2, .int .i64), (3, .int .i64), (4, .bool), (5, .int .u8), (9, .str), (22, .sl (.int .u8)), (52, .pair (.str) (.pair (.str) (.pair (.int .i64) (.unit)))), (23, .sl (.pair (.str) (.pair (.str) (.pair (.int .i64) (.unit))))), (25, .pair (.int .i64) (.pair (.sl (.pair (.str) (.pair (.str) (.pair (.int .i64) (.unit))))) (.unit))), (80, .pair (.int .i64) (.pair (.int .i64) (.pair (.int .i64) (.unit)))), (32, .sl (.pair (.int .i64) (.pair (.int .i64) (.pair (.int .i64) (.unit))))), (34, .pair (.int .i64) (.pair (.sl (.pair (.int .i64) (.pair (.int .i64) (.pair (.int .i64) (.unit))))) (.unit))), (46, .pair (.int .i64) (.pair (.int .i64) (.unit))), (39, .sl (.pair (.int .i64) (.pair (.int .i64) (.unit)))), (41, .pair (.int .i64) (.pair (.int .i64) (.pair (.int .i64) (.pair (.int .i64) (.pair (.sl (.pair (.int .i64) (.pair (.int .i64) (.unit)))) (.unit)))))), (47, .int .u64), (54, .int .u64), (56, .pair (.sl (.int .u8)) (.pair (.int .i64) (.pair (.int .u64) (.unit)))), (59, .ptr (.pair (.sl (.int .u8)) (.pair (.int .i64) (.pair (.int .u64) (.unit))))), (63, .any), (66, .any), (73, .pair (.int .i64) (.pair (.int .i64) (.unit))), (75, .pair (.pair (.int .i64) (.pair (.int .i64) (.unit))) (.pair (.sl (.pair (.str) (.pair (.str) (.pair (.int .i64) (.unit))))) (.unit))), (77, .pair (.pair (.pair (.int .i64) (.pair (.int .i64) (.unit))) (.pair (.sl (.pair (.str) (.pair (.str) (.pair (.int .i64) (.unit))))) (.unit))) (.unit)), (78, .pair (.pair (.pair (.int .i64) (.pair (.int .i64) (.unit))) (.pair (.sl (.pair (.str) (.pair (.str) (.pair (.int .i64) (.unit))))) (.unit))) (.unit)), (83, .pair (.pair (.int .i64) (.pair (.int .i64) (.unit))) (.pair (.pair (.int .i64) (.pair (.sl (.pair (.int .i64) (.pair (.int .i64) (.pair (.int .i64) (.unit))))) (.unit))) (.unit))), (87, .pair (.pair (.int .i64) (.pair (.int .i64) (.unit))) (.pair (.pair (.int .i64) (.pair (.int .i64) (.pair (.int .i64) (.pair (.int .i64) (.pair (.sl (.pair (.int .i64) (.pair (.int .i64) (.unit)))) (.unit)))))) (.unit))), (89, .int .u32), (98, .pair (.int .i64) (.pair (.any) (.unit))), (96, .ptr (.pair (.int .i64) (.pair (.any) (.unit)))), (100, .arr 128 (.int .u8)), (20, .any), (104, .ptr (.ptr (.pair (.int .i64) (.pair (.any) (.unit)))))] []
theorem tabOk : TabOk Tryd.prog tab := .of (by
 simp only [List.mem_cons, List.not_mem_nil, or_false, forall_eq_or_imp, forall_eq]
 exact ⟨ty2, ty3, ty4, ty5, ty9, ty22, ty52, ty23, ty25, ty80, ty32, ty34, ty46, ty39, ty41, ty47, ty54, ty56, ty59, ty63, ty66, ty73, ty75, ty77, ty78, ty83, ty87, ty89, ty98, ty96, ty100, ty20, ty104⟩)
/-! 3: loop.example/s01595/laws.FnBlocks, params [22, 22], results [4], calls [4, 5, 6, 7, 8, 9, 10, 11, 12, 13, 14, 15, 16, 17, 18], alloc assign binOp.add binOp.eql binOp.gtr binOp.lss binOp.mul binOp.neq binOp.rem binOp.shl binOp.xor call call.len convert extract fieldAddr indexAddr load move pick store unOp -/
theorem en3 : Enters Tryd.prog 3 := .mk Tryd.func3 (by rfl) rfl
def lv3 := tblN [(0, [0, 1]), (1, [0, 1, 39]), (2, [4]), (3, [0, 1, 5, 6]), (4, [0, 1, 5, 6, 7, 8]), (5, [0, 1, 5, 6, 7, 8, 52]), (6, [0, 1, 5, 6, 7, 8, 9, 10]), (7, [0, 1, 6, 7, 82]), (8, [4]), (9, [0, 1, 6, 7, 84]), (10, [4]), (11, [0, 1, 6, 7, 11, 12]), (12, [0, 1, 6, 7, 11, 12, 13, 14]), (13, [0, 1, 6, 7, 11, 12, 13, 14, 15, 16]), (14, [0, 1, 6, 7, 13, 138]), (15, [4]), (16, [0, 1, 6, 7, 13, 17, 18]), (17, [0, 1, 6, 7, 13, 17, 18, 19, 20]), (18, [0, 1, 6, 7, 13, 17, 18, 19, 20, 151]), (19, [0, 1, 6, 7, 13, 17, 18, 19, 20, 21, 22]), (20, [1, 6, 7, 13, 17, 18, 19, 21, 212]), (21, [4]), (22, [1, 6, 7, 13, 17, 18, 19, 21, 23]), (23, [1, 6, 7, 13, 17, 18, 19, 21, 23, 217]), (24, [1, 6, 7, 13, 17, 18, 19, 21, 23]), (25, [1, 6, 7, 13, 17, 18, 19, 21, 23, 230]), (26, [4]), (27, [1, 6, 7, 13, 18, 19, 232]), (28, [4]), (29, [1, 6, 7, 13, 18, 19, 24]), (30, [1, 6, 7, 13, 18, 19, 24, 240]), (31, [1, 6, 7, 13, 18, 19, 24]), (32, [1, 6, 7, 13, 18, 19, 24, 25]), (33, [1, 6, 7, 13, 18, 19, 24, 25, 26]), (34, [1, 6, 7, 13, 18, 19, 24, 25, 26, 27]), (35, [1, 6, 7, 13, 18, 19, 24, 25, 26, 27]), (36, [1, 6, 7, 13, 18, 19, 24, 25, 26, 29]), (37, [1, 6, 7, 13, 18, 19, 24, 25, 26, 277]), (38, [4]), (39, [1, 6, 7, 13, 18, 19, 24, 25, 26, 279]), (40, [1, 6, 7, 13, 18, 19, 24, 25, 26, 30]), (41, [1, 6, 7, 13, 18, 19, 24, 25, 26, 30]), (42, [1, 6, 7, 13, 18, 19, 24, 25, 26, 29]), (43, [1, 6, 7, 13, 18, 19, 24, 25, 26, 297]), (44, [4]), (45, [1, 6, 7, 13, 18, 19, 24, 25, 26, 299]), (46, [1, 6, 7, 13, 18, 19, 24, 25, 26, 31]), (47, [1, 6, 7, 13, 18, 19, 24, 31]), (48, [1, 6, 7, 13, 18, 19, 24, 29]), (49, [1, 6, 7, 13, 18, 19, 24, 317]), (50, [4]), (51, [4])]
def hd3 := tbl1 [(7, 0), (14, 0), (20, 0), (25, 11)]
/-! 4: loop.example/s01595/spec.DecodeNode, params [22], results [25, 2], calls [19, 20, 21, 22, 23], alloc assign binOp.add binOp.eql binOp.lss binOp.mul binOp.neq build buildSlice call call.append convert extract fieldAddr indexAddr load move pick store unOp -/
theorem en4 : Enters Tryd.prog 4 := .mk Tryd.func4 (by rfl) rfl
def lv4 := tblN [(0, [0, 2]), (1, [0, 2, 4]), (2, [0, 2, 4, 14]), (3, [2, 3]), (4, [0, 2, 5]), (5, [0, 2, 5, 6]), (6, [0, 2, 5, 6, 31]), (7, [0, 2, 5, 6]), (8, [0, 2, 5, 6, 7]), (9, [0, 2, 5, 6, 7, 8]), (10, [0, 2, 5, 6, 7, 8, 43]), (11, [0, 2, 5, 6, 8]), (12, [0, 2, 5, 6, 8]), (13, [0, 2, 5, 6]), (14, [0, 2, 5, 9, 10]), (15, [2, 5, 72]), (16, [2, 3]), (17, [2, 3])]
def hd4 := tbl1 []
/-! 5: loop.example/s01595/spec.DrawDecodeNode, params [22], results [22], calls [22, 24, 25, 26, 27], alloc assign binOp.eql call extract move store -/
theorem en5 : Enters Tryd.prog 5 := .mk Tryd.func5 (by rfl) rfl
def lv5 := tblN [(0, [0]), (1, [3]), (2, [3, 4]), (3, [3, 4, 14]), (4, [2]), (5, [2])]
def hd5 := tbl1 []
/-! 6: loop.example/s01595/impl.EncodeNode, params [25], results [22, 2], calls [28, 29, 30], assign binOp.eql box call extract load move -/
theorem en6 : Enters Tryd.prog 6 := .mk Tryd.func6 (by rfl) rfl
def lv6 := tblN [(0, [1]), (1, [4]), (2, [4, 10]), (3, [2, 3]), (4, [5, 6]), (5, [2, 3])]
def hd6 := tbl1 []
/-! 7: loop.example/s01595/impl.DecodeNode, params [22], results [25, 2], calls [30, 31], alloc assign binOp.neq build call extract fieldAddr load move store typeAssert -/
theorem en7 : Enters Tryd.prog 7 := .mk Tryd.func7 (by rfl) rfl
def lv7 := tblN [(0, [0, 2]), (1, [2, 4, 5]), (2, [2, 4, 5, 14]), (3, [2, 3]), (4, [2, 18]), (5, [2, 18, 20, 21]), (6, [2, 6]), (7, [2, 3]), (8, [2, 31, 32]), (9, [2, 7]), (10, [2, 3]), (11, [2, 3])]
def hd7 := tbl1 []
/-! 8: loop.example/s01595/laws.lEntries, params [25, 25], results [4], calls [], assign binOp.add binOp.lss binOp.neq box call.len fieldAddr indexAddr load move pick -/
theorem en8 : Enters Tryd.prog 8 := .mk Tryd.func8 (by rfl) rfl
def lv8 := tblN [(0, [2, 3]), (1, [2, 3, 19]), (2, [4]), (3, [2, 3, 5]), (4, [2, 3, 5, 24]), (5, [2, 3, 5]), (6, [2, 3, 5, 37]), (7, [4]), (8, [4])]
def hd8 := tbl1 [(6, 11)]
/-! 9: loop.example/s01595/spec.DecodeTable, params [22], results [34, 2], calls [19, 21, 23, 32], alloc assign binOp.add binOp.lss binOp.mul binOp.neq build buildSlice call call.append convert extract fieldAddr indexAddr load move pick store unOp -/
theorem en9 : Enters Tryd.prog 9 := .mk Tryd.func9 (by rfl) rfl
def ot9_9 : OT := .now 0 (.now 2 (.now 3 (.now 5 (.now 6 (.now 7 (.now 9 (.now 10 (.now 11 (.alt 1 (.srt (.alt 4 (.srt (.alt 8 (.srt (.alt 12 (.srt (.alt 13 (.srt (.alt 14 (.srt (.alt 15 (.srt (.now 16 (.alt 17 (.srt (.leaf)) (.nil)))) (.nil))) (.nil))) (.nil))) (.nil))) (.nil))) (.nil))) (.alt 4 (.srt (.alt 1 (.srt (.alt 8 (.srt (.alt 12 (.srt (.alt 13 (.srt (.alt 14 (.srt (.alt 15 (.srt (.now 16 (.alt 17 (.srt (.leaf)) (.nil)))) (.nil))) (.nil))) (.nil))) (.nil))) (.nil))) (.alt 8 (.srt (.alt 1 (.srt (.alt 12 (.srt (.alt 13 (.srt (.alt 14 (.srt (.alt 15 (.srt (.now 16 (.alt 17 (.srt (.leaf)) (.nil)))) (.nil))) (.nil))) (.nil))) (.nil))) (.alt 12 (.srt (.alt 1 (.srt (.alt 13 (.srt (.alt 14 (.srt (.alt 15 (.srt (.now 16 (.alt 17 (.srt (.leaf)) (.nil)))) (.nil))) (.nil))) (.nil))) (.alt 13 (.srt (.alt 1 (.srt (.alt 14 (.srt (.alt 15 (.srt (.now 16 (.alt 17 (.srt (.leaf)) (.nil)))) (.nil))) (.nil))) (.alt 14 (.srt (.alt 1 (.srt (.alt 15 (.srt (.now 16 (.alt 17 (.srt (.leaf)) (.nil)))) (.nil))) (.nil))) (.nil)))) (.nil)))) (.nil)))) (.nil)))) (.nil)))))))))))
def lv9 := tblN [(0, [0, 2]), (1, [0, 2, 4]), (2, [0, 2, 4, 13]), (3, [2, 3]), (4, [0, 2, 5]), (5, [0, 2, 5, 6]), (6, [0, 2, 5, 6, 28]), (7, [0, 2, 5, 6]), (8, [0, 2, 5, 6, 7]), (9, [0, 2, 5, 6]), (10, [0, 2, 5, 8, 9]), (11, [2, 5, 63]), (12, [2, 3]), (13, [2, 3])]
def hd9 := tbl1 [(9, 0)]
/-! 10: loop.example/s01595/spec.DrawDecodeTable, params [22], results [22], calls [24, 26, 27, 32, 33], alloc assign binOp.eql call extract move store -/
theorem en10 : Enters Tryd.prog 10 := .mk Tryd.func10 (by rfl) rfl
def lv10 := tblN [(0, [0]), (1, [3]), (2, [3, 4]), (3, [3, 4, 14]), (4, [2]), (5, [2])]
def hd10 := tbl1 []
/-! 11: loop.example/s01595/impl.EncodeTable, params [34], results [22, 2], calls [29, 30], assign box build call call.len extract fieldAddr load makeInterface move -/
theorem en11 : Enters Tryd.prog 11 := .mk Tryd.func11 (by rfl) rfl
def lv11 := tblN [(0, [1]), (1, [4, 5]), (2, [2, 3])]
def hd11 := tbl1 []
/-! 12: loop.example/s01595/impl.DecodeTable, params [22], results [34, 2], calls [30, 31], alloc assign binOp.neq build call extract fieldAddr load move store typeAssert -/
theorem en12 : Enters Tryd.prog 12 := .mk Tryd.func12 (by rfl) rfl
def lv12 := tblN [(0, [0, 2]), (1, [2, 4, 5]), (2, [2, 4, 5, 14]), (3, [2, 3]), (4, [2, 6, 7]), (5, [2, 6, 23]), (6, [2, 3]), (7, [2, 3])]
def hd12 := tbl1 []
/-! 13: loop.example/s01595/laws.lRuns, params [32, 32], results [4], calls [], assign binOp.add binOp.lss binOp.neq call.len indexAddr load move -/
theorem en13 : Enters Tryd.prog 13 := .mk Tryd.func13 (by rfl) rfl
def lv13 := tblN [(0, [0, 1]), (1, [0, 1, 10]), (2, [4]), (3, [0, 1, 5]), (4, [0, 1, 5, 14]), (5, [0, 1, 5]), (6, [0, 1, 5, 25]), (7, [4]), (8, [4])]
def hd13 := tbl1 [(6, 9)]
/-! 14: loop.example/s01595/spec.DecodeSuper, params [22], results [41, 2], calls [19, 21, 23, 34], alloc assign binOp.add binOp.lss binOp.mul binOp.neq build buildSlice call call.append convert extract fieldAddr indexAddr load move pick store unOp -/
theorem en14 : Enters Tryd.prog 14 := .mk Tryd.func14 (by rfl) rfl
def ot14_8 : OT := .now 0 (.now 2 (.now 3 (.now 4 (.now 5 (.now 7 (.now 8 (.now 9 (.now 10 (.alt 1 (.srt (.alt 6 (.srt (.alt 11 (.srt (.alt 12 (.srt (.alt 13 (.srt (.alt 14 (.srt (.now 15 (.alt 16 (.srt (.leaf)) (.nil)))) (.nil))) (.nil))) (.nil))) (.nil))) (.nil))) (.alt 6 (.srt (.alt 1 (.srt (.alt 11 (.srt (.alt 12 (.srt (.alt 13 (.srt (.alt 14 (.srt (.now 15 (.alt 16 (.srt (.leaf)) (.nil)))) (.nil))) (.nil))) (.nil))) (.nil))) (.alt 11 (.srt (.alt 1 (.srt (.alt 12 (.srt (.alt 13 (.srt (.alt 14 (.srt (.now 15 (.alt 16 (.srt (.leaf)) (.nil)))) (.nil))) (.nil))) (.nil))) (.alt 12 (.srt (.alt 1 (.srt (.alt 13 (.srt (.alt 14 (.srt (.now 15 (.alt 16 (.srt (.leaf)) (.nil)))) (.nil))) (.nil))) (.alt 13 (.srt (.alt 1 (.srt (.alt 14 (.srt (.now 15 (.alt 16 (.srt (.leaf)) (.nil)))) (.nil))) (.nil))) (.nil)))) (.nil)))) (.nil)))) (.nil)))))))))))
def lv14 := tblN [(0, [0, 2]), (1, [0, 2, 4]), (2, [0, 2, 4, 12]), (3, [2, 3]), (4, [0, 2, 5]), (5, [0, 2, 5, 6]), (6, [0, 2, 5, 6, 33]), (7, [0, 2, 5, 6]), (8, [0, 2, 5, 6]), (9, [0, 2, 5, 7, 8]), (10, [2, 5, 64]), (11, [2, 3]), (12, [2, 3])]
def hd14 := tbl1 [(8, 0)]
/-! 15: loop.example/s01595/spec.DrawDecodeSuper, params [22], results [22], calls [24, 26, 27, 34, 35], alloc assign binOp.eql call extract move store -/
theorem en15 : Enters Tryd.prog 15 := .mk Tryd.func15 (by rfl) rfl
def lv15 := tblN [(0, [0]), (1, [3]), (2, [3, 4]), (3, [3, 4, 14]), (4, [2]), (5, [2])]
def hd15 := tbl1 []
/-! 16: loop.example/s01595/impl.EncodeSuper, params [41], results [22, 2], calls [29, 30], assign box build call call.len extract fieldAddr load makeInterface move -/
theorem en16 : Enters Tryd.prog 16 := .mk Tryd.func16 (by rfl) rfl
def lv16 := tblN [(0, [1]), (1, [4, 5]), (2, [2, 3])]
def hd16 := tbl1 []
/-! 17: loop.example/s01595/impl.DecodeSuper, params [22], results [41, 2], calls [30, 31], alloc assign binOp.neq build call extract fieldAddr load move store typeAssert -/
theorem en17 : Enters Tryd.prog 17 := .mk Tryd.func17 (by rfl) rfl
def lv17 := tblN [(0, [0, 2]), (1, [2, 4, 5]), (2, [2, 4, 5, 14]), (3, [2, 3]), (4, [2, 6, 7]), (5, [2, 6, 23]), (6, [2, 3]), (7, [2, 3])]
def hd17 := tbl1 []
/-! 18: loop.example/s01595/laws.fCopyBytes, params [22], results [22], calls [], assign binOp.add binOp.lss buildSlice call.append call.len indexAddr load move -/
theorem en18 : Enters Tryd.prog 18 := .mk Tryd.func18 (by rfl) rfl
def lv18 := tblN [(0, [0]), (1, [0, 3]), (2, [0, 3, 4]), (3, [0, 3, 4, 9]), (4, [0, 3, 4]), (5, [0, 3, 4]), (6, [2])]
def hd18 := tbl1 []
/-! 19: loop.example/s01595/spec.l2Sum, params [22], results [2], calls [21, 36], assign binOp.neq call call.len convert move slice -/
theorem en19 : Enters Tryd.prog 19 := .mk Tryd.func19 (by rfl) rfl
def ot19_3 : OT := .now 0 (.now 2 (.alt 1 (.srt (.alt 3 (.srt (.alt 4 (.srt (.alt 5 (.srt (.now 6 (.leaf))) (.nil))) (.nil))) (.nil))) (.alt 3 (.srt (.alt 1 (.srt (.alt 4 (.srt (.alt 5 (.srt (.now 6 (.leaf))) (.nil))) (.nil))) (.nil))) (.nil))))
def lv19 := tblN [(0, [0]), (1, [0, 5]), (2, [2]), (3, [12]), (4, [2]), (5, [2])]
def hd19 := tbl1 [(3, 0)]
/-! 20: loop.example/s01595/spec.l2Cut, params [22, 2, 2], results [9], calls [], assign binOp.add binOp.gtr convert indexAddr load move slice -/
theorem en20 : Enters Tryd.prog 20 := .mk Tryd.func20 (by rfl) rfl
def lv20 := tblN [(0, [0, 1, 2]), (1, [0, 1, 2, 7]), (2, [0, 1, 2, 7, 15]), (3, [0, 1, 7]), (4, [6])]
def hd20 := tbl1 []
/-! 21: loop.example/s01595/spec.l2At, params [22, 2, 2], results [2], calls [], assign binOp.add binOp.geq binOp.mul binOp.sub convert indexAddr load move -/
theorem en21 : Enters Tryd.prog 21 := .mk Tryd.func21 (by rfl) rfl
def lv21 := tblN [(0, [0, 1, 2]), (1, [0, 1, 2, 7]), (2, [0, 1, 7, 8]), (3, [0, 1, 7, 8, 12]), (4, [0, 1, 7, 8]), (5, [0, 1, 7, 8]), (6, [6])]
def hd21 := tbl1 []
/-! 22: loop.example/s01595/spec.EncodeNode, params [25], results [22, 2], calls [37, 38, 39, 40], alloc assign binOp.add binOp.eql binOp.lss box buildSlice call call.len convert fieldAddr indexAddr load move store unOp -/
theorem en22 : Enters Tryd.prog 22 := .mk Tryd.func22 (by rfl) rfl
def lv22 := tblN [(0, [1]), (1, [1, 9]), (2, [2, 3]), (3, [1, 4]), (4, [1, 4, 5]), (5, [1, 4, 5, 22]), (6, [1, 4, 5]), (7, [1, 4, 5, 6]), (8, [1, 4, 5, 6]), (9, [1, 4, 5, 6, 36]), (10, [1, 4, 5]), (11, [1, 4, 5]), (12, [1, 4, 5]), (13, [1, 4, 5]), (14, [2, 3])]
def hd22 := tbl1 []
/-! 23: loop.example/s01595/spec.l2Same, params [22, 22], results [4], calls [], assign binOp.eql convert move -/
theorem en23 : Enters Tryd.prog 23 := .mk Tryd.func23 (by rfl) rfl
def lv23 := tblN [(0, [0, 1]), (1, [4])]
def hd23 := tbl1 []
/-! 24: loop.example/s01595/spec.l1Begin, params [22], results [56], calls [], alloc assign binOp.add binOp.lss binOp.mul binOp.xor build call.len convert fieldAddr indexAddr load move store -/
theorem en24 : Enters Tryd.prog 24 := .mk Tryd.func24 (by rfl) rfl
def lv24 := tblN [(0, [0, 2]), (1, [0, 2, 3]), (2, [0, 2, 3]), (3, [0, 2, 3, 4]), (4, [0, 2, 3, 4, 11]), (5, [0, 2, 3, 4]), (6, [0, 2, 3, 4]), (7, [2])]
def hd24 := tbl1 [(6, 10)]
/-! 25: loop.example/s01595/spec.l2DrawNode, params [59], results [25], calls [26, 41], alloc assign binOp.add binOp.eql binOp.gtr binOp.leq binOp.lss binOp.sub build buildSlice call call.append call.len convert fieldAddr indexAddr load move pick store -/
theorem en25 : Enters Tryd.prog 25 := .mk Tryd.func25 (by rfl) rfl
def lv25 := tblN [(0, [0, 2]), (1, [0, 2, 3]), (2, [0, 2, 3, 4]), (3, [0, 2, 3, 4, 20]), (4, [0, 2, 3, 4]), (5, [0, 2, 3, 4, 5]), (6, [0, 2, 3, 4, 5, 26]), (7, [0, 2, 3, 4, 5]), (8, [0, 2, 3, 4, 5, 6]), (9, [0, 2, 3, 4, 5, 6, 45]), (10, [0, 2, 3, 4, 5, 6, 7]), (11, [0, 2, 3, 4, 5, 6, 7, 55]), (12, [0, 2, 3, 4, 5, 6]), (13, [0, 2, 3, 4, 5, 6, 66]), (14, [0, 2, 3, 4, 5, 6]), (15, [0, 2, 3, 4, 5, 6]), (16, [0, 2, 3, 4, 5]), (17, [2, 3, 88]), (18, [2, 3]), (19, [2])]
def hd25 := tbl1 [(9, 14)]
/-! 26: loop.example/s01595/spec.l1Next, params [59, 2], results [2], calls [], assign binOp.add binOp.leq binOp.lss binOp.mul binOp.rem binOp.shr binOp.xor call.len convert fieldAddr indexAddr load move nilCheck store -/
theorem en26 : Enters Tryd.prog 26 := .mk Tryd.func26 (by rfl) rfl
def lv26 := tblN [(0, [0, 1]), (1, [0, 1, 7]), (2, [4]), (3, [0, 1]), (4, [0, 1, 5]), (5, [0, 1, 5, 31]), (6, [0, 1, 5]), (7, [1, 5]), (8, [4])]
def hd26 := tbl1 [(5, 10), (6, 14)]
/-! 27: loop.example/s01595/spec.l2Spoil, params [59, 22], results [22], calls [26, 40, 42], assign binOp.eql binOp.geq binOp.neq binOp.shl binOp.sub binOp.xor buildSlice call call.append call.len convert indexAddr load move slice store -/
theorem en27 : Enters Tryd.prog 27 := .mk Tryd.func27 (by rfl) rfl
def ot27_13 : OT := .now 0 (.now 1 (.now 2 (.now 3 (.now 6 (.alt 4 (.srt (.alt 5 (.srt (.alt 7 (.srt (.alt 8 (.srt (.now 9 (.now 10 (.alt 11 (.srt (.alt 12 (.srt (.leaf)) (.nil))) (.nil))))) (.nil))) (.nil))) (.alt 7 (.srt (.alt 5 (.srt (.alt 8 (.srt (.now 9 (.now 10 (.alt 11 (.srt (.alt 12 (.srt (.leaf)) (.nil))) (.nil))))) (.nil))) (.alt 8 (.srt (.now 9 (.alt 5 (.srt (.now 10 (.alt 11 (.srt (.alt 12 (.srt (.leaf)) (.nil))) (.nil)))) (.nil)))) (.nil)))) (.nil)))) (.alt 7 (.srt (.alt 4 (.srt (.alt 5 (.srt (.alt 8 (.srt (.now 9 (.now 10 (.alt 11 (.srt (.alt 12 (.srt (.leaf)) (.nil))) (.nil))))) (.nil))) (.alt 8 (.srt (.now 9 (.alt 5 (.srt (.now 10 (.alt 11 (.srt (.alt 12 (.srt (.leaf)) (.nil))) (.nil)))) (.nil)))) (.nil)))) (.alt 8 (.srt (.now 9 (.alt 4 (.srt (.alt 5 (.srt (.now 10 (.alt 11 (.srt (.alt 12 (.srt (.leaf)) (.nil))) (.nil)))) (.nil))) (.nil)))) (.nil)))) (.nil)))))))
def lv27 := tblN [(0, [0, 1]), (1, [0, 5]), (2, [0, 5, 6]), (3, [0, 5, 6, 13]), (4, [4]), (5, [0, 5, 6, 20]), (6, [4]), (7, [0, 5, 6, 26]), (8, [4]), (9, [0, 5, 6, 7]), (10, [0, 5, 6, 7, 32]), (11, [0, 5, 6, 7]), (12, [0, 5, 6, 7, 37]), (13, [5, 6]), (14, [5, 6]), (15, [5, 57]), (16, [4]), (17, [4])]
def hd27 := tbl1 [(13, 0)]
/-! 28: loop.example/s01595/impl.formOf, params [25], results [63], calls [], alloc assign binOp.eql box build call.len fieldAddr load makeInterface store -/
theorem en28 : Enters Tryd.prog 28 := .mk Tryd.func28 (by rfl) rfl
def lv28 := tblN [(0, [1]), (1, [1, 3]), (2, [3, 14]), (3, [3, 14, 15]), (4, [2]), (5, [3, 20]), (6, [2]), (7, [2])]
def hd28 := tbl1 []
/-! 29: loop.example/s01595/impl.encode, params [63], results [22, 66], calls [43, 44], alloc assign box build call call?('app', 'invoke', [('app', 'tmp', [('num', 12)]), ('str', 'loop.example/s01595/impl.lay')]) call?('app', 'invoke', [('app', 'tmp', [('num', 5)]), ('str', 'loop.example/s01595/impl.sound')]) convert load makeInterface move slice store unOp -/
theorem en29 : Enters Tryd.prog 29 := .mk Tryd.func29 (by rfl) rfl
def ot29_2 : OT := .now 4 (.alt 0 (.srt (.alt 1 (.srt (.alt 2 (.srt (.alt 3 (.srt (.now 5 (.leaf))) (.nil))) (.nil))) (.nil))) (.nil))
def ot29_4 : OT := .alt 0 (.srt (.alt 1 (.srt (.alt 2 (.srt (.alt 3 (.srt (.alt 4 (.srt (.leaf)) (.nil))) (.nil))) (.nil))) (.nil))) (.alt 1 (.srt (.alt 0 (.srt (.alt 2 (.srt (.alt 3 (.srt (.alt 4 (.srt (.leaf)) (.nil))) (.nil))) (.nil))) (.alt 2 (.srt (.alt 0 (.srt (.alt 3 (.srt (.alt 4 (.srt (.leaf)) (.nil))) (.nil))) (.alt 3 (.srt (.alt 0 (.srt (.alt 4 (.srt (.leaf)) (.nil))) (.nil))) (.nil)))) (.nil)))) (.nil))
def lv29 := tblN [(0, [0]), (1, [0, 7]), (2, [2, 3]), (3, [4]), (4, [4]), (5, [2, 3])]
def hd29 := tbl1 [(2, 0), (4, 0)]
/-! 30: loop.example/s01595/impl.codeOf, params [66], results [2], calls [45, 46], alloc assign binOp.eql binOp.lss call fieldAddr load makeInterface move nilCheck pick -/
theorem en30 : Enters Tryd.prog 30 := .mk Tryd.func30 (by rfl) rfl
def lv30 := tblN [(0, [0]), (1, [0, 5]), (2, [2]), (3, [0, 3]), (4, [0, 15]), (5, [2]), (6, [0, 18]), (7, [2]), (8, [21]), (9, [2]), (10, [2])]
def hd30 := tbl1 []
/-! 31: loop.example/s01595/impl.decode, params [22], results [63, 66], calls [29, 44, 47, 48, 49, 50], assign binOp.eql binOp.neq box build call call.len convert extract indexAddr load makeInterface move slice sliceToArrayPointer -/
theorem en31 : Enters Tryd.prog 31 := .mk Tryd.func31 (by rfl) rfl
def ot31_2 : OT := .now 0 (.now 6 (.alt 1 (.srt (.alt 2 (.srt (.alt 3 (.srt (.alt 4 (.srt (.alt 5 (.srt (.now 7 (.leaf))) (.nil))) (.nil))) (.nil))) (.nil))) (.alt 2 (.srt (.alt 1 (.srt (.alt 3 (.srt (.alt 4 (.srt (.alt 5 (.srt (.now 7 (.leaf))) (.nil))) (.nil))) (.nil))) (.nil))) (.nil))))
def ot31_3 : OT := .now 0 (.now 1 (.now 3 (.now 4 (.alt 2 (.srt (.alt 5 (.srt (.alt 6 (.srt (.now 7 (.leaf))) (.nil))) (.nil))) (.nil)))))
def ot31_4 : OT := .now 4 (.alt 0 (.srt (.alt 1 (.srt (.alt 2 (.srt (.alt 3 (.srt (.now 5 (.leaf))) (.nil))) (.nil))) (.nil))) (.nil))
def ot31_15 : OT := .now 4 (.alt 0 (.srt (.alt 1 (.srt (.alt 2 (.srt (.alt 3 (.srt (.now 5 (.leaf))) (.nil))) (.nil))) (.nil))) (.nil))
def ot31_19 : OT := .now 0 (.now 3 (.alt 1 (.srt (.alt 2 (.srt (.alt 4 (.srt (.alt 5 (.srt (.alt 6 (.srt (.leaf)) (.nil))) (.nil))) (.nil))) (.alt 4 (.srt (.alt 2 (.srt (.alt 5 (.srt (.alt 6 (.srt (.leaf)) (.nil))) (.nil))) (.alt 5 (.srt (.alt 2 (.srt (.alt 6 (.srt (.leaf)) (.nil))) (.nil))) (.nil)))) (.nil)))) (.alt 4 (.srt (.alt 1 (.srt (.alt 2 (.srt (.alt 5 (.srt (.alt 6 (.srt (.leaf)) (.nil))) (.nil))) (.alt 5 (.srt (.alt 2 (.srt (.alt 6 (.srt (.leaf)) (.nil))) (.nil))) (.nil)))) (.alt 5 (.srt (.alt 1 (.srt (.alt 2 (.srt (.alt 6 (.srt (.leaf)) (.nil))) (.nil))) (.nil))) (.nil)))) (.nil))))
def ot31_20 : OT := .now 4 (.alt 0 (.srt (.alt 1 (.srt (.alt 2 (.srt (.alt 3 (.srt (.now 5 (.leaf))) (.nil))) (.nil))) (.nil))) (.nil))
def lv31 := tblN [(0, [0]), (1, [0, 9]), (2, [2, 3]), (3, [0, 23]), (4, [2, 3]), (5, [0, 4]), (6, [0, 4, 30]), (7, [0, 4, 30, 31]), (8, [0, 4, 30, 31]), (9, [0, 4]), (10, [0, 4, 30, 36]), (11, [0, 4]), (12, [0, 4, 40]), (13, [0, 4]), (14, [0, 4, 45]), (15, [2, 3]), (16, [0, 4, 5, 6]), (17, [0, 4, 5, 6, 56]), (18, [2, 3]), (19, [4, 64]), (20, [2, 3]), (21, [2, 3])]
def hd31 := tbl1 [(2, 0), (3, 0), (4, 0), (15, 0), (19, 0), (20, 0)]
/-! 32: loop.example/s01595/spec.EncodeTable, params [34], results [22, 2], calls [39, 40, 51], assign binOp.add binOp.geq binOp.gtr binOp.lss binOp.neq box buildSlice call call.len convert fieldAddr indexAddr load move pick unOp -/
theorem en32 : Enters Tryd.prog 32 := .mk Tryd.func32 (by rfl) rfl
def lv32 := tblN [(0, [1]), (1, [1, 30]), (2, [2, 3]), (3, [1, 4]), (4, [1, 4, 5]), (5, [1, 4, 5, 43]), (6, [1, 4, 5]), (7, [1, 4, 5]), (8, [1, 4, 5]), (9, [1, 4, 5]), (10, [2, 3])]
def hd32 := tbl1 []
/-! 33: loop.example/s01595/spec.l2DrawTable, params [59], results [34], calls [26, 52], alloc binOp.add binOp.eql build call fieldAddr load move store -/
theorem en33 : Enters Tryd.prog 33 := .mk Tryd.func33 (by rfl) rfl
def lv33 := tblN [(0, [0, 2]), (1, [0, 2, 3]), (2, [0, 2, 3, 9]), (3, [2, 3]), (4, [2])]
def hd33 := tbl1 []
/-! 34: loop.example/s01595/spec.EncodeSuper, params [41], results [22, 2], calls [39, 40, 53], assign binOp.add binOp.lss box buildSlice call call.len convert fieldAddr indexAddr load move unOp -/
theorem en34 : Enters Tryd.prog 34 := .mk Tryd.func34 (by rfl) rfl
def lv34 := tblN [(0, [1]), (1, [1, 8]), (2, [2, 3]), (3, [1, 4]), (4, [1, 4]), (5, [1, 4]), (6, [1, 4]), (7, [1, 4, 5]), (8, [1, 4, 5, 33]), (9, [1, 4, 5]), (10, [1, 4, 5]), (11, [1, 4, 5]), (12, [2, 3])]
def hd34 := tbl1 []
/-! 35: loop.example/s01595/spec.l2DrawSuper, params [59], results [41], calls [26, 54], alloc assign binOp.add binOp.eql binOp.lss binOp.sub build buildSlice call call.append fieldAddr load move store -/
theorem en35 : Enters Tryd.prog 35 := .mk Tryd.func35 (by rfl) rfl
def lv35 := tblN [(0, [0, 2]), (1, [0, 2, 3]), (2, [0, 2, 3, 14]), (3, [0, 2, 3]), (4, [0, 2, 3]), (5, [0, 2, 3, 4]), (6, [0, 2, 3, 4, 31]), (7, [0, 2, 3, 4]), (8, [0, 2, 3, 4, 5]), (9, [0, 2, 3, 4, 5, 34]), (10, [0, 2, 3, 4, 5]), (11, [0, 2, 3, 4, 5]), (12, [0, 2, 3, 4, 5]), (13, [0, 2, 3, 4, 5]), (14, [2, 3, 64]), (15, [2, 3]), (16, [2])]
def hd35 := tbl1 [(11, 0), (12, 0)]
/-! 36: loop.example/s01595/spec.Crc32, params [22], results [89], calls [], assign binOp.add binOp.and binOp.eql binOp.lss binOp.shr binOp.xor call.len convert indexAddr load move -/
theorem en36 : Enters Tryd.prog 36 := .mk Tryd.func36 (by rfl) rfl
def lv36 := tblN [(0, [0]), (1, [0, 3]), (2, [0, 3, 4]), (3, [0, 3, 4, 10]), (4, [0, 3, 4]), (5, [0, 3, 4]), (6, [0, 3, 4, 5]), (7, [0, 3, 4, 5, 21]), (8, [0, 3, 4, 5]), (9, [0, 3, 4, 5, 6]), (10, [0, 3, 4, 5, 6]), (11, [0, 3, 4, 5, 29]), (12, [0, 3, 4, 5]), (13, [2])]
def hd36 := tbl1 []
/-! 37: loop.example/s01595/spec.l2NodeOK, params [25], results [4], calls [], alloc assign binOp.add binOp.eql binOp.geq binOp.gtr binOp.lss binOp.neq binOp.sub box call.len fieldAddr indexAddr load move pick store -/
theorem en37 : Enters Tryd.prog 37 := .mk Tryd.func37 (by rfl) rfl
def lv37 := tblN [(0, [1]), (1, [1, 3]), (2, [1, 3, 29]), (3, [2]), (4, [1, 3, 4]), (5, [1, 3, 4, 32]), (6, [1, 3, 4]), (7, [1, 3, 4, 5]), (8, [1, 3, 4, 5, 59]), (9, [2]), (10, [1, 3, 4, 5, 73]), (11, [2]), (12, [1, 3, 4, 91]), (13, [2]), (14, [2])]
def hd37 := tbl1 [(8, 20)]
/-! 38: loop.example/s01595/spec.l2Text, params [22, 9, 3], results [22], calls [], assign binOp.add binOp.lss buildSlice call.append call.len convert index move -/
theorem en38 : Enters Tryd.prog 38 := .mk Tryd.func38 (by rfl) rfl
def lv38 := tblN [(0, [0, 1, 2]), (1, [0, 1, 2]), (2, [0, 1, 2, 7]), (3, [0, 1, 2, 7, 16]), (4, [0, 1, 2, 7]), (5, [0, 1, 2, 7, 22]), (6, [0, 1, 2, 7]), (7, [0, 1, 2, 7]), (8, [6])]
def hd38 := tbl1 []
/-! 39: loop.example/s01595/spec.l2Num, params [22, 2, 3], results [22], calls [], assign binOp.add binOp.lss binOp.mul binOp.shr buildSlice call.append convert move -/
theorem en39 : Enters Tryd.prog 39 := .mk Tryd.func39 (by rfl) rfl
def lv39 := tblN [(0, [0, 1, 2]), (1, [0, 1, 2, 7]), (2, [0, 1, 2, 7, 10]), (3, [0, 1, 2, 7]), (4, [0, 1, 2, 7]), (5, [6])]
def hd39 := tbl1 []
/-! 40: loop.example/s01595/spec.l2Seal, params [22], results [22], calls [36, 39], assign binOp.lss buildSlice call call.append call.len convert move -/
theorem en40 : Enters Tryd.prog 40 := .mk Tryd.func40 (by rfl) rfl
def lv40 := tblN [(0, [0]), (1, [0, 5]), (2, [0]), (3, [2])]
def hd40 := tbl1 []
/-! 41: loop.example/s01595/spec.l2DrawText, params [59, 2], results [9], calls [26], assign binOp.add binOp.gtr binOp.lss binOp.rem buildSlice call convert move pick -/
theorem en41 : Enters Tryd.prog 41 := .mk Tryd.func41 (by rfl) rfl
def lv41 := tblN [(0, [0, 1]), (1, [0, 5]), (2, [0, 5, 18]), (3, [0, 5]), (4, [0, 5, 6]), (5, [0, 5, 6, 7]), (6, [0, 5, 6, 7, 23]), (7, [0, 5, 6, 7]), (8, [0, 5, 6, 7]), (9, [4])]
def hd41 := tbl1 []
/-! 42: loop.example/s01595/spec.l1Copy, params [22], results [22], calls [], assign binOp.add binOp.lss buildSlice call.append call.len indexAddr load move -/
theorem en42 : Enters Tryd.prog 42 := .mk Tryd.func42 (by rfl) rfl
def lv42 := tblN [(0, [0]), (1, [0, 3]), (2, [0, 3, 4]), (3, [0, 3, 4, 9]), (4, [0, 3, 4]), (5, [0, 3, 4]), (6, [2])]
def hd42 := tbl1 []
/-! 43: loop.example/s01595/impl.number, params [22, 2, 3], results [], calls [], assign binOp.add binOp.lss binOp.mul binOp.shr convert indexAddr move store -/
theorem en43 : Enters Tryd.prog 43 := .mk Tryd.func43 (by rfl) rfl
def lv43 := tblN [(0, [0, 1, 7, 8]), (1, [0, 1, 7, 8, 9]), (2, [0, 1, 6, 7, 8]), (3, [0, 1, 7, 8]), (4, [0, 1, 7, 8])]
def hd43 := tbl1 []
/-! 44: loop.example/s01595/impl.Crc32, params [22], results [89], calls [], assign binOp.add binOp.and binOp.eql binOp.lss binOp.shr binOp.xor call.len convert indexAddr load move unOp -/
theorem en44 : Enters Tryd.prog 44 := .mk Tryd.func44 (by rfl) rfl
def lv44 := tblN [(0, [0]), (1, [0, 3]), (2, [3, 6, 7, 8]), (3, [3, 6, 7, 8, 9]), (4, [3, 5, 6, 7, 8]), (5, [3, 6, 7, 8]), (6, [3, 6, 7, 8, 16]), (7, [3, 6, 7, 8, 16, 17]), (8, [3, 6, 7, 8, 16, 20]), (9, [3, 6, 7, 8, 16]), (10, [3, 6, 7, 8, 16]), (11, [3, 6, 7, 8, 16]), (12, [3, 6, 7, 8]), (13, [2])]
def hd44 := tbl1 []
/-! 47: loop.example/s01595/impl.numberAt, params [22, 3], results [2], calls [], assign binOp.add binOp.lss binOp.mul binOp.or binOp.shl convert indexAddr load move -/
theorem en47 : Enters Tryd.prog 47 := .mk Tryd.func47 (by rfl) rfl
def lv47 := tblN [(0, [0, 1]), (1, [0, 1, 5]), (2, [0, 5, 7, 8]), (3, [0, 5, 7, 8, 9]), (4, [0, 5, 6, 7, 8]), (5, [0, 5, 7, 8]), (6, [0, 5, 7, 8]), (7, [4])]
def hd47 := tbl1 []
/-! 48: loop.example/s01595/impl.readNode, params [22], results [63], calls [47, 61], alloc assign binOp.add binOp.eql binOp.gtr binOp.lss binOp.mul build buildSlice call call.append convert extract fieldAddr indexAddr load makeInterface move slice store unOp -/
theorem en48 : Enters Tryd.prog 48 := .mk Tryd.func48 (by rfl) rfl
def lv48 := tblN [(0, [0]), (1, [0, 3]), (2, [0, 3, 15]), (3, [2]), (4, [0, 3, 4]), (5, [0, 4, 23, 24]), (6, [0, 4, 23, 24, 25]), (7, [0, 4, 5, 23, 24]), (8, [0, 4, 6, 23, 24]), (9, [0, 4, 6, 7, 8, 23, 24]), (10, [0, 4, 6, 7, 23, 24, 38]), (11, [2]), (12, [0, 4, 6, 9, 23, 24]), (13, [0, 4, 6, 9, 23, 24, 44]), (14, [0, 4, 9, 23, 24]), (15, [0, 4, 8, 9, 23, 24]), (16, [0, 4, 9, 23, 24, 57]), (17, [2]), (18, [0, 4, 23, 24]), (19, [0, 4, 23, 24]), (20, [4, 68]), (21, [2]), (22, [2])]
def hd48 := tbl1 []
/-! 49: loop.example/s01595/impl.readTable, params [22], results [63], calls [47], alloc assign binOp.add binOp.gtr binOp.lss binOp.mul build buildSlice call call.append convert fieldAddr indexAddr load makeInterface move slice store -/
theorem en49 : Enters Tryd.prog 49 := .mk Tryd.func49 (by rfl) rfl
def ot49_9 : OT := .now 0 (.now 1 (.now 3 (.now 5 (.now 6 (.now 8 (.now 9 (.alt 2 (.srt (.alt 4 (.srt (.alt 7 (.srt (.alt 10 (.srt (.alt 11 (.srt (.alt 12 (.srt (.alt 13 (.srt (.now 14 (.now 15 (.alt 16 (.srt (.leaf)) (.nil))))) (.nil))) (.nil))) (.nil))) (.nil))) (.nil))) (.nil))) (.alt 4 (.srt (.alt 2 (.srt (.alt 7 (.srt (.alt 10 (.srt (.alt 11 (.srt (.alt 12 (.srt (.alt 13 (.srt (.now 14 (.now 15 (.alt 16 (.srt (.leaf)) (.nil))))) (.nil))) (.nil))) (.nil))) (.nil))) (.nil))) (.alt 7 (.srt (.alt 2 (.srt (.alt 10 (.srt (.alt 11 (.srt (.alt 12 (.srt (.alt 13 (.srt (.now 14 (.now 15 (.alt 16 (.srt (.leaf)) (.nil))))) (.nil))) (.nil))) (.nil))) (.nil))) (.alt 10 (.srt (.alt 2 (.srt (.alt 11 (.srt (.alt 12 (.srt (.alt 13 (.srt (.now 14 (.now 15 (.alt 16 (.srt (.leaf)) (.nil))))) (.nil))) (.nil))) (.nil))) (.alt 11 (.srt (.alt 2 (.srt (.alt 12 (.srt (.alt 13 (.srt (.now 14 (.now 15 (.alt 16 (.srt (.leaf)) (.nil))))) (.nil))) (.nil))) (.alt 12 (.srt (.alt 2 (.srt (.alt 13 (.srt (.now 14 (.now 15 (.alt 16 (.srt (.leaf)) (.nil))))) (.nil))) (.nil))) (.nil)))) (.nil)))) (.nil)))) (.nil)))) (.nil)))))))))
def lv49 := tblN [(0, [0]), (1, [0, 3]), (2, [0, 3, 12]), (3, [2]), (4, [0, 3, 4]), (5, [0, 4, 20, 21]), (6, [0, 4, 20, 21, 22]), (7, [0, 4, 5, 20, 21]), (8, [0, 4, 6, 20, 21]), (9, [0, 4, 20, 21]), (10, [0, 4, 20, 21]), (11, [2])]
def hd49 := tbl1 [(9, 0)]
/-! 50: loop.example/s01595/impl.readSuper, params [22], results [63], calls [47], alloc assign binOp.add binOp.gtr binOp.lss binOp.mul build buildSlice call call.append convert fieldAddr indexAddr load makeInterface move slice store -/
theorem en50 : Enters Tryd.prog 50 := .mk Tryd.func50 (by rfl) rfl
def ot50_4 : OT := .now 0 (.now 1 (.now 3 (.now 4 (.now 6 (.now 7 (.now 9 (.now 10 (.alt 2 (.srt (.alt 5 (.srt (.alt 8 (.srt (.alt 11 (.srt (.alt 12 (.srt (.alt 13 (.srt (.alt 14 (.srt (.leaf)) (.nil))) (.nil))) (.alt 13 (.srt (.alt 12 (.srt (.alt 14 (.srt (.leaf)) (.nil))) (.nil))) (.nil)))) (.alt 13 (.srt (.alt 11 (.srt (.alt 12 (.srt (.alt 14 (.srt (.leaf)) (.nil))) (.nil))) (.nil))) (.nil)))) (.alt 13 (.srt (.alt 8 (.srt (.alt 11 (.srt (.alt 12 (.srt (.alt 14 (.srt (.leaf)) (.nil))) (.nil))) (.nil))) (.nil))) (.nil)))) (.alt 13 (.srt (.alt 5 (.srt (.alt 8 (.srt (.alt 11 (.srt (.alt 12 (.srt (.alt 14 (.srt (.leaf)) (.nil))) (.nil))) (.nil))) (.nil))) (.nil))) (.nil)))) (.alt 13 (.srt (.alt 2 (.srt (.alt 5 (.srt (.alt 8 (.srt (.alt 11 (.srt (.alt 12 (.srt (.alt 14 (.srt (.leaf)) (.nil))) (.nil))) (.nil))) (.nil))) (.nil))) (.nil))) (.nil))))))))))
def ot50_9 : OT := .now 0 (.now 2 (.now 4 (.now 5 (.alt 1 (.srt (.alt 3 (.srt (.alt 6 (.srt (.alt 7 (.srt (.alt 8 (.srt (.alt 9 (.srt (.now 10 (.alt 11 (.srt (.leaf)) (.nil)))) (.nil))) (.nil))) (.nil))) (.nil))) (.nil))) (.alt 3 (.srt (.alt 1 (.srt (.alt 6 (.srt (.alt 7 (.srt (.alt 8 (.srt (.alt 9 (.srt (.now 10 (.alt 11 (.srt (.leaf)) (.nil)))) (.nil))) (.nil))) (.nil))) (.nil))) (.alt 6 (.srt (.alt 1 (.srt (.alt 7 (.srt (.alt 8 (.srt (.alt 9 (.srt (.now 10 (.alt 11 (.srt (.leaf)) (.nil)))) (.nil))) (.nil))) (.nil))) (.alt 7 (.srt (.alt 1 (.srt (.alt 8 (.srt (.alt 9 (.srt (.now 10 (.alt 11 (.srt (.leaf)) (.nil)))) (.nil))) (.nil))) (.alt 8 (.srt (.alt 1 (.srt (.alt 9 (.srt (.now 10 (.alt 11 (.srt (.leaf)) (.nil)))) (.nil))) (.nil))) (.nil)))) (.nil)))) (.nil)))) (.nil))))))
def lv50 := tblN [(0, [0]), (1, [0, 3]), (2, [0, 3, 12]), (3, [2]), (4, [0, 3, 4]), (5, [0, 3, 4, 26, 27]), (6, [0, 3, 4, 26, 27, 28]), (7, [0, 3, 4, 5, 26, 27]), (8, [0, 3, 4, 6, 26, 27]), (9, [0, 3, 4, 26, 27]), (10, [0, 3, 4, 26, 27]), (11, [2])]
def hd50 := tbl1 [(4, 0), (9, 0)]
/-! 51: loop.example/s01595/spec.l2RunsOK, params [32, 2], results [4], calls [], alloc assign binOp.add binOp.eql binOp.gtr binOp.lss binOp.sub call.len fieldAddr indexAddr load move pick store -/
theorem en51 : Enters Tryd.prog 51 := .mk Tryd.func51 (by rfl) rfl
def lv51 := tblN [(0, [0, 1]), (1, [0, 1, 5]), (2, [0, 1, 5, 11]), (3, [0, 1, 5]), (4, [0, 1, 5, 6]), (5, [0, 1, 5, 6, 56]), (6, [4]), (7, [0, 1, 5, 6, 58]), (8, [0, 1, 5, 6, 7]), (9, [0, 1, 5, 88]), (10, [4]), (11, [4])]
def hd51 := tbl1 []
/-! 52: loop.example/s01595/spec.l2DrawRuns, params [59, 2, 2], results [32], calls [26], alloc assign binOp.add binOp.eql binOp.gtr binOp.lss binOp.rem binOp.sub build buildSlice call call.append call.len fieldAddr indexAddr load move pick store -/
theorem en52 : Enters Tryd.prog 52 := .mk Tryd.func52 (by rfl) rfl
def lv52 := tblN [(0, [0, 1, 2]), (1, [0, 1, 2, 7]), (2, [0, 1, 2, 7, 8]), (3, [0, 2, 7, 8, 9]), (4, [0, 2, 7, 8, 9, 10]), (5, [0, 2, 7, 8, 9, 10, 22]), (6, [0, 2, 7, 8, 9, 10]), (7, [0, 2, 7, 8, 9, 10, 11]), (8, [0, 2, 7, 8, 9, 10, 11, 35]), (9, [0, 2, 7, 8, 9, 10, 11]), (10, [0, 2, 7, 9, 10, 11, 73]), (11, [0, 2, 7, 9, 10, 11]), (12, [0, 2, 7, 9, 10, 11, 85]), (13, [0, 2, 7, 9, 10, 11]), (14, [0, 2, 7, 8, 9, 10]), (15, [6])]
def hd52 := tbl1 [(10, 34), (14, 0)]
/-! 53: loop.example/s01595/spec.l2SuperOK, params [41], results [4], calls [62], alloc assign binOp.add binOp.geq binOp.gtr binOp.lss binOp.sub box call call.len fieldAddr indexAddr load move pick store unOp -/
theorem en53 : Enters Tryd.prog 53 := .mk Tryd.func53 (by rfl) rfl
def lv53 := tblN [(0, [1]), (1, [1, 28]), (2, [2]), (3, [1, 50]), (4, [2]), (5, [1, 3]), (6, [1, 3, 55]), (7, [1, 3]), (8, [1, 3, 4]), (9, [1, 3, 100]), (10, [2]), (11, [2])]
def hd53 := tbl1 [(9, 38)]
/-! 54: loop.example/s01595/spec.l1DrawBlocks, params [59], results [2], calls [26], assign binOp.add binOp.eql binOp.lss call move -/
theorem en54 : Enters Tryd.prog 54 := .mk Tryd.func54 (by rfl) rfl
def lv54 := tblN [(0, [0]), (1, [0, 3]), (2, [0, 3, 7]), (3, [2]), (4, [0, 3, 9]), (5, [2]), (6, [0, 11]), (7, [2]), (8, [2])]
def hd54 := tbl1 []
/-! 61: loop.example/s01595/impl.text, params [22, 3], results [9, 4], calls [], assign binOp.add binOp.gtr convert indexAddr load move slice -/
theorem en61 : Enters Tryd.prog 61 := .mk Tryd.func61 (by rfl) rfl
def lv61 := tblN [(0, [0, 1]), (1, [0, 1, 6]), (2, [0, 6, 13]), (3, [4, 5]), (4, [4, 5])]
def hd61 := tbl1 []
/-! 62: loop.example/s01595/spec.l1BlocksOK, params [2], results [4], calls [], assign binOp.geq binOp.leq move pick -/
theorem en62 : Enters Tryd.prog 62 := .mk Tryd.func62 (by rfl) rfl
def lv62 := tblN [(0, [0]), (1, [2])]
def hd62 := tbl1 []
/-! 82: (loop.example/s01595/impl.header).begin, params [73], results [100], calls [], alloc box build convert fieldAddr load store -/
theorem en82 : Enters Tryd.prog 82 := .mk Tryd.func82 (by rfl) rfl
def lv82 := tblN [(0, [1, 2]), (1, [2])]
def hd82 := tbl1 []
/-! 83: (loop.example/s01595/impl.leafForm).lay, params [77], results [100], calls [82], alloc assign binOp.add binOp.lss binOp.mul box call call.copy call.len convert fieldAddr indexAddr load move slice store -/
theorem en83 : Enters Tryd.prog 83 := .mk Tryd.func83 (by rfl) rfl
def lv83 := tblN [(0, [1, 2]), (1, [1, 2, 3]), (2, [2, 3, 13, 14, 15]), (3, [2, 3, 13, 14, 15, 16]), (4, [2, 3, 4, 5, 13, 14, 15]), (5, [2, 3, 5, 6, 13, 14, 15]), (6, [2, 3, 5, 6, 13, 14, 15]), (7, [2, 3, 5, 6, 13, 14, 15]), (8, [2, 3, 5, 6, 13, 14, 15]), (9, [2, 3, 13, 14, 15]), (10, [2, 3, 13, 14, 15]), (11, [2])]
def hd83 := tbl1 [(7, 5), (9, 5)]
/-! 84: (loop.example/s01595/impl.leafForm).sound, params [77], results [4], calls [85], alloc assign binOp.add binOp.gtr binOp.lss binOp.neq box call call.len fieldAddr indexAddr load move pick store -/
theorem en84 : Enters Tryd.prog 84 := .mk Tryd.func84 (by rfl) rfl
def lv84 := tblN [(0, [1]), (1, [1, 9]), (2, [2]), (3, [1, 12, 13, 14]), (4, [1, 12, 13, 14, 15]), (5, [1, 4, 12, 13, 14]), (6, [1, 12, 13, 14, 26]), (7, [2]), (8, [1, 12, 13, 14]), (9, [2])]
def hd84 := tbl1 []
/-! 85: loop.example/s01595/impl.ascending, params [23], results [4], calls [], alloc assign binOp.add binOp.geq binOp.gtr binOp.lss binOp.sub call.len fieldAddr indexAddr load move pick store -/
theorem en85 : Enters Tryd.prog 85 := .mk Tryd.func85 (by rfl) rfl
def lv85 := tblN [(0, [0]), (1, [0, 5, 6, 7]), (2, [0, 5, 6, 7, 8]), (3, [0, 3, 4, 5, 6, 7]), (4, [0, 5, 6, 7, 30]), (5, [2]), (6, [0, 5, 6, 7]), (7, [2])]
def hd85 := tbl1 [(4, 19)]
/-! 86: (loop.example/s01595/impl.innerForm).lay, params [78], results [100], calls [43, 82], alloc assign binOp.add binOp.lss binOp.mul box call call.copy call.len convert fieldAddr indexAddr load move slice store -/
theorem en86 : Enters Tryd.prog 86 := .mk Tryd.func86 (by rfl) rfl
def lv86 := tblN [(0, [1, 2]), (1, [1, 2, 3]), (2, [2, 3, 13, 14, 15]), (3, [2, 3, 13, 14, 15, 16]), (4, [2, 3, 4, 5, 13, 14, 15]), (5, [2, 3, 5, 6, 13, 14, 15]), (6, [2, 3, 5, 6, 13, 14, 15]), (7, [2, 3, 5, 6, 13, 14, 15]), (8, [2, 3, 13, 14, 15]), (9, [2, 3, 13, 14, 15]), (10, [2])]
def hd86 := tbl1 [(7, 5), (8, 5)]
/-! 87: (loop.example/s01595/impl.innerForm).sound, params [78], results [4], calls [85], alloc assign binOp.add binOp.geq binOp.gtr binOp.lss binOp.neq box call call.len fieldAddr indexAddr load move pick store -/
theorem en87 : Enters Tryd.prog 87 := .mk Tryd.func87 (by rfl) rfl
def lv87 := tblN [(0, [1]), (1, [1, 16]), (2, [2]), (3, [1, 19, 20, 21]), (4, [1, 19, 20, 21, 22]), (5, [1, 4, 19, 20, 21]), (6, [1, 19, 20, 21, 37]), (7, [2]), (8, [1, 19, 20, 21]), (9, [2])]
def hd87 := tbl1 []
/-! 88: (loop.example/s01595/impl.tableForm).lay, params [83], results [100], calls [43, 82], alloc assign binOp.add binOp.lss binOp.mul box call call.len fieldAddr indexAddr load move slice store -/
theorem en88 : Enters Tryd.prog 88 := .mk Tryd.func88 (by rfl) rfl
def lv88 := tblN [(0, [1, 2]), (1, [1, 2, 3]), (2, [1, 2, 3]), (3, [2, 3, 16, 17, 18]), (4, [2, 3, 16, 17, 18, 19]), (5, [2, 3, 4, 5, 16, 17, 18]), (6, [2, 3, 4, 5, 16, 17, 18]), (7, [2, 3, 4, 5, 16, 17, 18]), (8, [2, 3, 16, 17, 18]), (9, [2, 3, 16, 17, 18]), (10, [2])]
def hd88 := tbl1 [(2, 4), (6, 6), (7, 6), (8, 6)]
/-! 89: (loop.example/s01595/impl.tableForm).sound, params [83], results [4], calls [90], assign binOp.geq binOp.leq binOp.lss binOp.neq box call call.len fieldAddr load move pick -/
theorem en89 : Enters Tryd.prog 89 := .mk Tryd.func89 (by rfl) rfl
def lv89 := tblN [(0, [1]), (1, [1, 18]), (2, [2]), (3, [2])]
def hd89 := tbl1 []
/-! 90: loop.example/s01595/impl.inOrder, params [32], results [4], calls [], alloc assign binOp.add binOp.eql binOp.gtr binOp.lss binOp.sub call.len fieldAddr indexAddr load move pick store -/
theorem en90 : Enters Tryd.prog 90 := .mk Tryd.func90 (by rfl) rfl
def lv90 := tblN [(0, [0]), (1, [0, 6, 7, 8]), (2, [0, 6, 7, 8, 9]), (3, [0, 3, 4, 6, 7, 8]), (4, [0, 3, 4, 6, 7, 8, 38]), (5, [2]), (6, [0, 3, 4, 6, 7, 8, 46]), (7, [2]), (8, [0, 3, 4, 6, 7, 8, 48]), (9, [0, 3, 4, 5, 6, 7, 8]), (10, [0, 6, 7, 8, 82]), (11, [2]), (12, [0, 6, 7, 8]), (13, [2])]
def hd90 := tbl1 [(9, 14), (10, 21)]
/-! 91: (loop.example/s01595/impl.superForm).lay, params [87], results [100], calls [43, 82], alloc assign binOp.add binOp.lss binOp.mul box call call.len fieldAddr indexAddr load move slice store -/
theorem en91 : Enters Tryd.prog 91 := .mk Tryd.func91 (by rfl) rfl
def lv91 := tblN [(0, [1, 2]), (1, [1, 2, 3]), (2, [1, 2, 3]), (3, [1, 2, 3]), (4, [1, 2, 3]), (5, [1, 2, 3]), (6, [2, 3, 31, 32, 33]), (7, [2, 3, 31, 32, 33, 34]), (8, [2, 3, 4, 5, 31, 32, 33]), (9, [2, 3, 4, 5, 31, 32, 33]), (10, [2, 3, 31, 32, 33]), (11, [2, 3, 31, 32, 33]), (12, [2])]
def hd91 := tbl1 [(2, 4), (3, 4), (4, 4), (5, 4), (9, 6), (10, 6)]
/-! 92: (loop.example/s01595/impl.superForm).sound, params [87], results [4], calls [], alloc assign binOp.add binOp.geq binOp.gtr binOp.lss binOp.sub box call.len fieldAddr indexAddr load move pick store -/
theorem en92 : Enters Tryd.prog 92 := .mk Tryd.func92 (by rfl) rfl
def lv92 := tblN [(0, [1]), (1, [3]), (2, [3, 25]), (3, [2]), (4, [3, 45]), (5, [2]), (6, [3, 55]), (7, [2]), (8, [3, 57, 58, 59]), (9, [3, 57, 58, 59, 60]), (10, [3, 4, 5, 57, 58, 59]), (11, [3, 57, 58, 59, 101]), (12, [2]), (13, [3, 57, 58, 59]), (14, [2])]
def hd92 := tbl1 [(11, 38)]
/-! 94: (*loop.example/s01595/impl.misplaced).Unwrap, params [96], results [66], calls [], assign fieldAddr load move nilCheck -/
theorem en94 : Enters Tryd.prog 94 := .mk Tryd.func94 (by rfl) rfl
def lv94 := tblN [(0, [0]), (1, [2])]
def hd94 := tbl1 []
end Go.Proofs.YtmjeghlfmhbjdaaDoor.EngTab
