/- The program's tables: its types, the functions' entries, the slots that live behind each region. Written by wip/eng/eg.py. -/
import Derived.Test.YtjpeblicfhfniaaDoorProg
import Derived.Test.YtjpeblicfhfniaaDoorEngY
namespace Go.Proofs.YtjpeblicfhfniaaDoor.EngTab
open Go.Proofs.YtjpeblicfhfniaaDoor.Eng
set_option maxRecDepth 100000
theorem mixed : Tryd.prog.follows .mixedOrders = true := by rfl
theorem ty3 : TyOk Tryd.prog (.int .i64) 3 := .int Tryd.underlying3 (.mk (n := 8) (by kernel_rfl) (by decide) (by decide))
theorem ty4 : TyOk Tryd.prog (.bool) 4 := .bool Tryd.underlying4 (.mk (n := 1) (by kernel_rfl) (by decide) (by decide))
theorem ty5 : TyOk Tryd.prog (.int .u8) 5 := .int Tryd.underlying5 (.mk (n := 1) (by kernel_rfl) (by decide) (by decide))
theorem ty9 : TyOk Tryd.prog (.str) 9 := .str Tryd.underlying9 (.mk (n := 16) (by kernel_rfl) (by decide) (by decide))
theorem ty22 : TyOk Tryd.prog (.sl (.str)) 22 := .sl Tryd.underlying22 ty9 (.mk (n := 24) (by kernel_rfl) (by decide) (by decide))
theorem ty2 : TyOk Tryd.prog (.int .i64) 2 := .int Tryd.underlying2 (.mk (n := 8) (by kernel_rfl) (by decide) (by decide))
theorem ty21 : TyOk Tryd.prog (.int .i32) 21 := .int Tryd.underlying21 (.mk (n := 4) (by kernel_rfl) (by decide) (by decide))
theorem ty47 : TyOk Tryd.prog (.sl (.int .u8)) 47 := .sl Tryd.underlying47 ty5 (.mk (n := 24) (by kernel_rfl) (by decide) (by decide))
def tab : Tab := Tab.of [(3, .int .i64), (4, .bool), (5, .int .u8), (9, .str), (22, .sl (.str)), (2, .int .i64), (21, .int .i32), (47, .sl (.int .u8))] []
theorem tabOk : TabOk Tryd.prog tab := .of (by
  simp only [List.mem_cons, List.not_mem_nil, or_false, forall_eq_or_imp, forall_eq]
  exact ⟨ty3, ty4, ty5, ty9, ty22, ty2, ty21, ty47⟩)
/-! 3: loop.example/s01595/laws.FnExactSplitPath, params [9], results [4], calls [5, 6, 7, 8, 9], assign binOp.gtr binOp.lss binOp.neq call call.len extract move pick unOp -/
theorem en3 : Enters Tryd.prog 3 := .mk Tryd.func3 (by rfl) rfl
def lv3 := tblN [(0, [0]), (1, [0, 13]), (2, [2]), (3, [0, 3, 4]), (4, [0, 3, 4, 5, 6]), (5, [0, 3, 4, 5, 32]), (6, [2]), (7, [0, 3, 4, 5, 7]), (8, [0, 3, 4, 5, 7]), (9, [0, 3, 4, 5, 7, 8]), (10, [0, 3, 4, 7, 8]), (11, [0, 3, 4, 7, 8, 40]), (12, [2]), (13, [0, 3, 4, 43]), (14, [2]), (15, [3, 4, 9, 10]), (16, [57]), (17, [2]), (18, [2])]
def hd3 := tbl1 []
/-! 5: loop.example/s01595/spec.SplitPath, params [9], results [22, 2], calls [13, 14], assign binOp.add binOp.eql binOp.gtr binOp.lss binOp.neq call call.len index indexAddr load move pick slice -/
theorem en5 : Enters Tryd.prog 5 := .mk Tryd.func5 (by rfl) rfl
def lv5 := tblN [(0, [0]), (1, [0, 9]), (2, [2, 3]), (3, [0, 17]), (4, [2, 3]), (5, [0, 19]), (6, [2, 3]), (7, [4]), (8, [4, 5]), (9, [4, 5, 26]), (10, [4, 5]), (11, [4, 5, 6]), (12, [4, 5, 6, 35]), (13, [2, 3]), (14, [4, 39]), (15, [2, 3]), (16, [2, 3])]
def hd5 := tbl1 []
/-! 6: loop.example/s01595/impl.SplitPath, params [9], results [22, 2], calls [15, 16], assign binOp.add binOp.eql binOp.gtr binOp.lss binOp.neq call call.len index indexAddr load move pick slice -/
theorem en6 : Enters Tryd.prog 6 := .mk Tryd.func6 (by rfl) rfl
def lv6 := tblN [(0, [0]), (1, [0, 10]), (2, [2, 3]), (3, [0, 17]), (4, [2, 3]), (5, [0, 19]), (6, [2, 3]), (7, [4]), (8, [4, 23, 24, 25]), (9, [4, 23, 24, 25, 26]), (10, [4, 6, 23, 24, 25]), (11, [4, 7, 23, 24, 25]), (12, [4, 7, 23, 24, 25, 32]), (13, [2, 3]), (14, [4, 23, 24, 25]), (15, [4, 37]), (16, [2, 3]), (17, [2, 3])]
def hd6 := tbl1 []
/-! 7: loop.example/s01595/laws.eqStringS, params [22, 22], results [4], calls [], assign binOp.add binOp.lss binOp.neq call.len indexAddr load move -/
theorem en7 : Enters Tryd.prog 7 := .mk Tryd.func7 (by rfl) rfl
def lv7 := tblN [(0, [0, 1]), (1, [0, 1, 10]), (2, [4]), (3, [0, 1, 5]), (4, [0, 1, 5, 14]), (5, [0, 1, 5]), (6, [0, 1, 5, 25]), (7, [4]), (8, [4])]
def hd7 := tbl1 [(6, 9)]
/-! 8: loop.example/s01595/laws.markStringS, params [22, 3], results [3], calls [17], assign binOp.add binOp.lss call call.len indexAddr move store -/
theorem en8 : Enters Tryd.prog 8 := .mk Tryd.func8 (by rfl) rfl
def lv8 := tblN [(0, [0, 1]), (1, [0, 1, 5]), (2, [0, 1, 5, 9]), (3, [0, 1, 5]), (4, [0, 1, 5]), (5, [0, 1, 5]), (6, [4])]
def hd8 := tbl1 []
/-! 9: loop.example/s01595/laws.heldStringS, params [22, 3], results [3], calls [17], assign binOp.add binOp.lss binOp.neq call call.len indexAddr load move -/
theorem en9 : Enters Tryd.prog 9 := .mk Tryd.func9 (by rfl) rfl
def ot9_4 : OT := .alt 0 (.alt 1 (.alt 2 (.alt 3 (.alt 4 (.alt 5 (.alt 6 (.leaf) (.nil)) (.nil)) (.nil)) (.alt 4 (.alt 3 (.alt 5 (.alt 6 (.leaf) (.nil)) (.nil)) (.alt 5 (.alt 3 (.alt 6 (.leaf) (.nil)) (.nil)) (.nil))) (.nil))) (.alt 4 (.alt 2 (.alt 3 (.alt 5 (.alt 6 (.leaf) (.nil)) (.nil)) (.alt 5 (.alt 3 (.alt 6 (.leaf) (.nil)) (.nil)) (.nil))) (.alt 5 (.alt 2 (.alt 3 (.alt 6 (.leaf) (.nil)) (.nil)) (.nil)) (.nil))) (.nil))) (.alt 4 (.alt 1 (.alt 2 (.alt 3 (.alt 5 (.alt 6 (.leaf) (.nil)) (.nil)) (.alt 5 (.alt 3 (.alt 6 (.leaf) (.nil)) (.nil)) (.nil))) (.alt 5 (.alt 2 (.alt 3 (.alt 6 (.leaf) (.nil)) (.nil)) (.nil)) (.nil))) (.alt 5 (.alt 1 (.alt 2 (.alt 3 (.alt 6 (.leaf) (.nil)) (.nil)) (.nil)) (.nil)) (.nil))) (.nil))) (.alt 1 (.alt 0 (.alt 2 (.alt 3 (.alt 4 (.alt 5 (.alt 6 (.leaf) (.nil)) (.nil)) (.nil)) (.alt 4 (.alt 3 (.alt 5 (.alt 6 (.leaf) (.nil)) (.nil)) (.alt 5 (.alt 3 (.alt 6 (.leaf) (.nil)) (.nil)) (.nil))) (.nil))) (.alt 4 (.alt 2 (.alt 3 (.alt 5 (.alt 6 (.leaf) (.nil)) (.nil)) (.alt 5 (.alt 3 (.alt 6 (.leaf) (.nil)) (.nil)) (.nil))) (.alt 5 (.alt 2 (.alt 3 (.alt 6 (.leaf) (.nil)) (.nil)) (.nil)) (.nil))) (.nil))) (.alt 4 (.alt 0 (.alt 2 (.alt 3 (.alt 5 (.alt 6 (.leaf) (.nil)) (.nil)) (.alt 5 (.alt 3 (.alt 6 (.leaf) (.nil)) (.nil)) (.nil))) (.alt 5 (.alt 2 (.alt 3 (.alt 6 (.leaf) (.nil)) (.nil)) (.nil)) (.nil))) (.alt 5 (.alt 0 (.alt 2 (.alt 3 (.alt 6 (.leaf) (.nil)) (.nil)) (.nil)) (.nil)) (.nil))) (.nil))) (.alt 4 (.alt 0 (.alt 1 (.alt 2 (.alt 3 (.alt 5 (.alt 6 (.leaf) (.nil)) (.nil)) (.alt 5 (.alt 3 (.alt 6 (.leaf) (.nil)) (.nil)) (.nil))) (.alt 5 (.alt 2 (.alt 3 (.alt 6 (.leaf) (.nil)) (.nil)) (.nil)) (.nil))) (.alt 5 (.alt 1 (.alt 2 (.alt 3 (.alt 6 (.leaf) (.nil)) (.nil)) (.nil)) (.nil)) (.nil))) (.alt 1 (.alt 0 (.alt 2 (.alt 3 (.alt 5 (.alt 6 (.leaf) (.nil)) (.nil)) (.alt 5 (.alt 3 (.alt 6 (.leaf) (.nil)) (.nil)) (.nil))) (.alt 5 (.alt 2 (.alt 3 (.alt 6 (.leaf) (.nil)) (.nil)) (.nil)) (.nil))) (.alt 5 (.alt 0 (.alt 2 (.alt 3 (.alt 6 (.leaf) (.nil)) (.nil)) (.nil)) (.nil)) (.nil))) (.alt 5 (.alt 0 (.alt 1 (.alt 2 (.alt 3 (.alt 6 (.leaf) (.nil)) (.nil)) (.nil)) (.nil)) (.alt 1 (.alt 0 (.alt 2 (.alt 3 (.alt 6 (.leaf) (.nil)) (.nil)) (.nil)) (.nil)) (.nil))) (.nil)))) (.nil)))
def lv9 := tblN [(0, [0, 1]), (1, [0, 1, 5]), (2, [0, 1, 5, 9]), (3, [0, 1, 5]), (4, [0, 1, 5, 18]), (5, [4]), (6, [0, 1, 5]), (7, [4])]
def hd9 := tbl1 [(4, 0)]
/-! 13: loop.example/s01595/spec.l6Cut, params [9, 5], results [22], calls [], assign binOp.add binOp.eql binOp.lss buildSlice call.append call.len index move slice -/
theorem en13 : Enters Tryd.prog 13 := .mk Tryd.func13 (by rfl) rfl
def lv13 := tblN [(0, [0, 1]), (1, [0, 1, 5]), (2, [0, 1, 5, 6]), (3, [0, 1, 5, 6, 7]), (4, [0, 1, 5, 6, 7, 12]), (5, [0, 1, 5, 6, 7]), (6, [0, 1, 5, 6, 7, 19]), (7, [0, 1, 5, 7]), (8, [0, 1, 5, 6, 7]), (9, [4])]
def hd13 := tbl1 []
/-! 14: loop.example/s01595/spec.l6NameCode, params [9], results [2], calls [24], assign binOp.add binOp.eql binOp.gtr binOp.lss call call.len index move unOp -/
theorem en14 : Enters Tryd.prog 14 := .mk Tryd.func14 (by rfl) rfl
def lv14 := tblN [(0, [0]), (1, [0, 5]), (2, [2]), (3, [0, 3]), (4, [0, 3, 9]), (5, [0, 3]), (6, [0, 3, 16]), (7, [2]), (8, [19]), (9, [2]), (10, [2])]
def hd14 := tbl1 []
/-! 15: strings.Split, params [9, 9], results [22], calls [25], assign call move -/
theorem en15 : Enters Tryd.prog 15 := .mk Tryd.func15 (by rfl) rfl
def lv15 := tblN [(0, [0, 1]), (1, [4])]
def hd15 := tbl1 []
/-! 16: loop.example/s01595/impl.goodName, params [9], results [2], calls [], assign binOp.eql binOp.gtr binOp.lss call.len extract move next pick range -/
theorem en16 : Enters Tryd.prog 16 := .mk Tryd.func16 (by rfl) rfl
def lv16 := tblN [(0, [0]), (1, [0, 6]), (2, [2]), (3, [0, 8]), (4, [0, 8, 9, 10]), (5, [0, 4, 8]), (6, [0, 8, 17]), (7, [2]), (8, [20]), (9, [2]), (10, [2])]
def hd16 := tbl1 []
/-! 17: loop.example/s01595/laws.markText, params [3], results [9], calls [], assign binOp.add binOp.gtr binOp.leq binOp.quo binOp.rem buildSlice convert move -/
theorem en17 : Enters Tryd.prog 17 := .mk Tryd.func17 (by rfl) rfl
def lv17 := tblN [(0, [0]), (1, [0, 5]), (2, [2]), (3, [0, 3]), (4, [0, 3, 7]), (5, [0, 3]), (6, [0, 3]), (7, [2])]
def hd17 := tbl1 []
/-! 24: loop.example/s01595/spec.l6NameByte, params [5], results [4], calls [], assign binOp.geq binOp.leq binOp.neq move pick -/
theorem en24 : Enters Tryd.prog 24 := .mk Tryd.func24 (by rfl) rfl
def lv24 := tblN [(0, [0]), (1, [2])]
def hd24 := tbl1 []
/-! 25: strings.genSplit, params [9, 9, 3, 3], results [22], calls [27, 28, 29], assign binOp.add binOp.eql binOp.lss binOp.sub call call.len call.min indexAddr makeSlice move slice store -/
theorem en25 : Enters Tryd.prog 25 := .mk Tryd.func25 (by rfl) rfl
def lv25 := tblN [(0, [0, 1, 2, 3]), (1, [0, 1, 2, 3, 13]), (2, [8]), (3, [0, 1, 2, 3, 15]), (4, [8]), (5, [0, 1, 2, 3, 20]), (6, [0, 1, 2, 3]), (7, [0, 1, 2, 3]), (8, [0, 1, 2, 3, 9]), (9, [0, 1, 2, 3, 9]), (10, [0, 1, 2, 3, 9, 10]), (11, [0, 1, 2, 3, 9, 10, 36]), (12, [0, 1, 2, 3, 9, 10, 11]), (13, [0, 1, 2, 3, 9, 10, 11, 41]), (14, [0, 1, 2, 3, 9, 10, 11]), (15, [0, 1, 2, 3, 9, 10]), (16, [0, 1, 2, 3, 9, 10]), (17, [9, 10]), (18, [8])]
def hd25 := tbl1 []
/-! 28: strings.Count, params [9, 9], results [3], calls [29, 37, 39], assign binOp.add binOp.eql call call.len index move slice -/
theorem en28 : Enters Tryd.prog 28 := .mk Tryd.func28 (by rfl) rfl
def lv28 := tblN [(0, [0, 1]), (1, [0, 1, 9]), (2, [4]), (3, [0, 1, 15]), (4, [4]), (5, [0, 1, 5]), (6, [0, 1, 5, 6]), (7, [0, 1, 5, 6, 24]), (8, [4]), (9, [0, 1, 5, 6]), (10, [0, 1, 5])]
def hd28 := tbl1 []
/-! 29: strings.Index, params [9, 9], results [3], calls [40], assign call move -/
theorem en29 : Enters Tryd.prog 29 := .mk Tryd.func29 (by rfl) rfl
def lv29 := tblN [(0, [0, 1]), (1, [4])]
def hd29 := tbl1 []
end Go.Proofs.YtjpeblicfhfniaaDoor.EngTab
