/- The facts about the types of the program, out of facts.py. -/
import Derived.Test.YtjmoeebaehjmnaaGreatProg
import Derived.KernelRfl
import Derived.Test.YtjmoeebaehjmnaaGreatLibB
import Derived.Test.YtjmoeebaehjmnaaGreatEqs
set_option linter.unusedVariables false
set_option linter.unusedSimpArgs false
set_option maxRecDepth 100000
namespace Go.Ax
open Go Go.Proofs
@[go_sem] theorem und_2 : Tryz.prog.underlying 2 = some (.int .i64) := by kernel_rfl
@[go_sem] theorem info_2 : (Tryz.prog.info? 2).isSome = true := by kernel_rfl
@[go_sem] theorem cells_2 : Tryz.prog.cellsOf 2 = 1 := by kernel_rfl
@[go_sem] theorem agg_2 : isAggT Tryz.prog 2 = false := by kernel_rfl
@[go_sem] theorem flat_2 : flatTy Tryz.prog 2 = true := by kernel_rfl
@[go_sem] theorem zeroT_2 : zeroT Tryz.prog 2 = some [.d (.v (.int .i64 0))] := by kernel_rfl
@[go_sem] theorem zeroD_2 : zeroD Tryz.prog 2 = some [.v (.int .i64 0)] := by kernel_rfl
@[go_sem] theorem zrow_2 : zrow Tryz.prog 2 = [.v (.int .i64 0)] := by kernel_rfl
@[go_sem] theorem und_3 : Tryz.prog.underlying 3 = some (.int .i64) := by kernel_rfl
@[go_sem] theorem info_3 : (Tryz.prog.info? 3).isSome = true := by kernel_rfl
@[go_sem] theorem cells_3 : Tryz.prog.cellsOf 3 = 1 := by kernel_rfl
@[go_sem] theorem agg_3 : isAggT Tryz.prog 3 = false := by kernel_rfl
@[go_sem] theorem flat_3 : flatTy Tryz.prog 3 = true := by kernel_rfl
@[go_sem] theorem zeroT_3 : zeroT Tryz.prog 3 = some [.d (.v (.int .i64 0))] := by kernel_rfl
@[go_sem] theorem zeroD_3 : zeroD Tryz.prog 3 = some [.v (.int .i64 0)] := by kernel_rfl
@[go_sem] theorem zrow_3 : zrow Tryz.prog 3 = [.v (.int .i64 0)] := by kernel_rfl
@[go_sem] theorem und_4 : Tryz.prog.underlying 4 = some (.bool) := by kernel_rfl
@[go_sem] theorem info_4 : (Tryz.prog.info? 4).isSome = true := by kernel_rfl
@[go_sem] theorem cells_4 : Tryz.prog.cellsOf 4 = 1 := by kernel_rfl
@[go_sem] theorem agg_4 : isAggT Tryz.prog 4 = false := by kernel_rfl
@[go_sem] theorem flat_4 : flatTy Tryz.prog 4 = true := by kernel_rfl
@[go_sem] theorem zeroT_4 : zeroT Tryz.prog 4 = some [.d (.v (.bool false))] := by kernel_rfl
@[go_sem] theorem zeroD_4 : zeroD Tryz.prog 4 = some [.v (.bool false)] := by kernel_rfl
@[go_sem] theorem zrow_4 : zrow Tryz.prog 4 = [.v (.bool false)] := by kernel_rfl
@[go_sem] theorem und_12 : Tryz.prog.underlying 12 = some (.int .u64) := by kernel_rfl
@[go_sem] theorem info_12 : (Tryz.prog.info? 12).isSome = true := by kernel_rfl
@[go_sem] theorem cells_12 : Tryz.prog.cellsOf 12 = 1 := by kernel_rfl
@[go_sem] theorem agg_12 : isAggT Tryz.prog 12 = false := by kernel_rfl
@[go_sem] theorem flat_12 : flatTy Tryz.prog 12 = true := by kernel_rfl
@[go_sem] theorem zeroT_12 : zeroT Tryz.prog 12 = some [.d (.v (.int .u64 0))] := by kernel_rfl
@[go_sem] theorem zeroD_12 : zeroD Tryz.prog 12 = some [.v (.int .u64 0)] := by kernel_rfl
@[go_sem] theorem zrow_12 : zrow Tryz.prog 12 = [.v (.int .u64 0)] := by kernel_rfl
@[go_sem] theorem und_22 : Tryz.prog.underlying 22 = some (.slice 84) := by kernel_rfl
@[go_sem] theorem info_22 : (Tryz.prog.info? 22).isSome = true := by kernel_rfl
@[go_sem] theorem cells_22 : Tryz.prog.cellsOf 22 = 1 := by kernel_rfl
@[go_sem] theorem agg_22 : isAggT Tryz.prog 22 = false := by kernel_rfl
@[go_sem] theorem flat_22 : flatTy Tryz.prog 22 = false := by kernel_rfl
@[go_sem] theorem zeroT_22 : zeroT Tryz.prog 22 = some [.own 0 []] := by kernel_rfl
@[go_sem] theorem zeroD_22 : zeroD Tryz.prog 22 = some [.l []] := by kernel_rfl
@[go_sem] theorem zrow_22 : zrow Tryz.prog 22 = [.l []] := by kernel_rfl
@[go_sem] theorem stride_22 : strideT Tryz.prog 22 = 4 := by kernel_rfl
@[go_sem] theorem elem_22 : elemT Tryz.prog 22 = some (84, 4, 32, [.v (.int .i64 0), .v (.int .i64 0), .v (.int .i64 0), .v (.int .i64 0)]) := by kernel_rfl
@[go_sem] theorem und_23 : Tryz.prog.underlying 23 = some (.struct #[⟨"Insts", 22, 0, false, "", "", 0⟩, ⟨"Skin", 2, 1, false, "", "", 24⟩, ⟨"Times", 3, 2, false, "", "", 32⟩, ⟨"Port", 2, 3, false, "", "", 40⟩, ⟨"Bid", 2, 4, false, "", "", 48⟩, ⟨"LotSize", 2, 5, false, "", "", 56⟩, ⟨"HedgeMin", 2, 6, false, "", "", 64⟩]) := by kernel_rfl
@[go_sem] theorem info_23 : (Tryz.prog.info? 23).isSome = true := by kernel_rfl
@[go_sem] theorem cells_23 : Tryz.prog.cellsOf 23 = 7 := by kernel_rfl
@[go_sem] theorem agg_23 : isAggT Tryz.prog 23 = true := by kernel_rfl
@[go_sem] theorem flat_23 : flatTy Tryz.prog 23 = false := by kernel_rfl
@[go_sem] theorem zeroT_23 : zeroT Tryz.prog 23 = some [.own 0 [], .d (.v (.int .i64 0)), .d (.v (.int .i64 0)), .d (.v (.int .i64 0)), .d (.v (.int .i64 0)), .d (.v (.int .i64 0)), .d (.v (.int .i64 0))] := by kernel_rfl
@[go_sem] theorem zeroD_23 : zeroD Tryz.prog 23 = some [.l [], .v (.int .i64 0), .v (.int .i64 0), .v (.int .i64 0), .v (.int .i64 0), .v (.int .i64 0), .v (.int .i64 0)] := by kernel_rfl
@[go_sem] theorem zrow_23 : zrow Tryz.prog 23 = [.l [], .v (.int .i64 0), .v (.int .i64 0), .v (.int .i64 0), .v (.int .i64 0), .v (.int .i64 0), .v (.int .i64 0)] := by kernel_rfl
@[go_sem] theorem places_23 : placesT Tryz.prog 23 = some [(0, 1), (1, 1), (2, 1), (3, 1), (4, 1), (5, 1), (6, 1)] := by kernel_rfl
@[go_sem] theorem und_24 : Tryz.prog.underlying 24 = some (.struct #[⟨"Insts", 22, 0, false, "", "", 0⟩, ⟨"Skin", 2, 1, false, "", "", 24⟩, ⟨"Times", 3, 2, false, "", "", 32⟩, ⟨"Port", 2, 3, false, "", "", 40⟩, ⟨"Bid", 2, 4, false, "", "", 48⟩, ⟨"LotSize", 2, 5, false, "", "", 56⟩, ⟨"HedgeMin", 2, 6, false, "", "", 64⟩]) := by kernel_rfl
@[go_sem] theorem info_24 : (Tryz.prog.info? 24).isSome = true := by kernel_rfl
@[go_sem] theorem cells_24 : Tryz.prog.cellsOf 24 = 7 := by kernel_rfl
@[go_sem] theorem agg_24 : isAggT Tryz.prog 24 = true := by kernel_rfl
@[go_sem] theorem flat_24 : flatTy Tryz.prog 24 = false := by kernel_rfl
@[go_sem] theorem zeroT_24 : zeroT Tryz.prog 24 = some [.own 0 [], .d (.v (.int .i64 0)), .d (.v (.int .i64 0)), .d (.v (.int .i64 0)), .d (.v (.int .i64 0)), .d (.v (.int .i64 0)), .d (.v (.int .i64 0))] := by kernel_rfl
@[go_sem] theorem zeroD_24 : zeroD Tryz.prog 24 = some [.l [], .v (.int .i64 0), .v (.int .i64 0), .v (.int .i64 0), .v (.int .i64 0), .v (.int .i64 0), .v (.int .i64 0)] := by kernel_rfl
@[go_sem] theorem zrow_24 : zrow Tryz.prog 24 = [.l [], .v (.int .i64 0), .v (.int .i64 0), .v (.int .i64 0), .v (.int .i64 0), .v (.int .i64 0), .v (.int .i64 0)] := by kernel_rfl
@[go_sem] theorem places_24 : placesT Tryz.prog 24 = some [(0, 1), (1, 1), (2, 1), (3, 1), (4, 1), (5, 1), (6, 1)] := by kernel_rfl
@[go_sem] theorem und_25 : Tryz.prog.underlying 25 = some (.slice 86) := by kernel_rfl
@[go_sem] theorem info_25 : (Tryz.prog.info? 25).isSome = true := by kernel_rfl
@[go_sem] theorem cells_25 : Tryz.prog.cellsOf 25 = 1 := by kernel_rfl
@[go_sem] theorem agg_25 : isAggT Tryz.prog 25 = false := by kernel_rfl
@[go_sem] theorem flat_25 : flatTy Tryz.prog 25 = false := by kernel_rfl
@[go_sem] theorem zeroT_25 : zeroT Tryz.prog 25 = some [.own 0 []] := by kernel_rfl
@[go_sem] theorem zeroD_25 : zeroD Tryz.prog 25 = some [.l []] := by kernel_rfl
@[go_sem] theorem zrow_25 : zrow Tryz.prog 25 = [.l []] := by kernel_rfl
@[go_sem] theorem stride_25 : strideT Tryz.prog 25 = 2 := by kernel_rfl
@[go_sem] theorem elem_25 : elemT Tryz.prog 25 = some (86, 2, 16, [.v (.int .i64 0), .v (.int .i64 0)]) := by kernel_rfl
@[go_sem] theorem und_26 : Tryz.prog.underlying 26 = some (.slice 61) := by kernel_rfl
@[go_sem] theorem info_26 : (Tryz.prog.info? 26).isSome = true := by kernel_rfl
@[go_sem] theorem cells_26 : Tryz.prog.cellsOf 26 = 1 := by kernel_rfl
@[go_sem] theorem agg_26 : isAggT Tryz.prog 26 = false := by kernel_rfl
@[go_sem] theorem flat_26 : flatTy Tryz.prog 26 = false := by kernel_rfl
@[go_sem] theorem zeroT_26 : zeroT Tryz.prog 26 = some [.own 0 []] := by kernel_rfl
@[go_sem] theorem zeroD_26 : zeroD Tryz.prog 26 = some [.l []] := by kernel_rfl
@[go_sem] theorem zrow_26 : zrow Tryz.prog 26 = [.l []] := by kernel_rfl
@[go_sem] theorem stride_26 : strideT Tryz.prog 26 = 4 := by kernel_rfl
@[go_sem] theorem elem_26 : elemT Tryz.prog 26 = some (61, 4, 32, [.v (.int .i64 0), .v (.int .i64 0), .v (.int .i64 0), .v (.int .i64 0)]) := by kernel_rfl
@[go_sem] theorem und_27 : Tryz.prog.underlying 27 = some (.slice 70) := by kernel_rfl
@[go_sem] theorem info_27 : (Tryz.prog.info? 27).isSome = true := by kernel_rfl
@[go_sem] theorem cells_27 : Tryz.prog.cellsOf 27 = 1 := by kernel_rfl
@[go_sem] theorem agg_27 : isAggT Tryz.prog 27 = false := by kernel_rfl
@[go_sem] theorem flat_27 : flatTy Tryz.prog 27 = false := by kernel_rfl
@[go_sem] theorem zeroT_27 : zeroT Tryz.prog 27 = some [.own 0 []] := by kernel_rfl
@[go_sem] theorem zeroD_27 : zeroD Tryz.prog 27 = some [.l []] := by kernel_rfl
@[go_sem] theorem zrow_27 : zrow Tryz.prog 27 = [.l []] := by kernel_rfl
@[go_sem] theorem stride_27 : strideT Tryz.prog 27 = 3 := by kernel_rfl
@[go_sem] theorem elem_27 : elemT Tryz.prog 27 = some (70, 3, 24, [.v (.int .i64 0), .v (.int .i64 0), .v (.int .i64 0)]) := by kernel_rfl
@[go_sem] theorem und_28 : Tryz.prog.underlying 28 = some (.slice 88) := by kernel_rfl
@[go_sem] theorem info_28 : (Tryz.prog.info? 28).isSome = true := by kernel_rfl
@[go_sem] theorem cells_28 : Tryz.prog.cellsOf 28 = 1 := by kernel_rfl
@[go_sem] theorem agg_28 : isAggT Tryz.prog 28 = false := by kernel_rfl
@[go_sem] theorem flat_28 : flatTy Tryz.prog 28 = false := by kernel_rfl
@[go_sem] theorem zeroT_28 : zeroT Tryz.prog 28 = some [.own 0 []] := by kernel_rfl
@[go_sem] theorem zeroD_28 : zeroD Tryz.prog 28 = some [.l []] := by kernel_rfl
@[go_sem] theorem zrow_28 : zrow Tryz.prog 28 = [.l []] := by kernel_rfl
@[go_sem] theorem stride_28 : strideT Tryz.prog 28 = 3 := by kernel_rfl
@[go_sem] theorem elem_28 : elemT Tryz.prog 28 = some (88, 3, 24, [.v (.int .i64 0), .v (.int .i64 0), .v (.int .i64 0)]) := by kernel_rfl
@[go_sem] theorem und_29 : Tryz.prog.underlying 29 = some (.slice 2) := by kernel_rfl
@[go_sem] theorem info_29 : (Tryz.prog.info? 29).isSome = true := by kernel_rfl
@[go_sem] theorem cells_29 : Tryz.prog.cellsOf 29 = 1 := by kernel_rfl
@[go_sem] theorem agg_29 : isAggT Tryz.prog 29 = false := by kernel_rfl
@[go_sem] theorem flat_29 : flatTy Tryz.prog 29 = false := by kernel_rfl
@[go_sem] theorem zeroT_29 : zeroT Tryz.prog 29 = some [.own 0 []] := by kernel_rfl
@[go_sem] theorem zeroD_29 : zeroD Tryz.prog 29 = some [.l []] := by kernel_rfl
@[go_sem] theorem zrow_29 : zrow Tryz.prog 29 = [.l []] := by kernel_rfl
@[go_sem] theorem stride_29 : strideT Tryz.prog 29 = 1 := by kernel_rfl
@[go_sem] theorem elem_29 : elemT Tryz.prog 29 = some (2, 1, 8, [.v (.int .i64 0)]) := by kernel_rfl
@[go_sem] theorem und_30 : Tryz.prog.underlying 30 = some (.slice 156) := by kernel_rfl
@[go_sem] theorem info_30 : (Tryz.prog.info? 30).isSome = true := by kernel_rfl
@[go_sem] theorem cells_30 : Tryz.prog.cellsOf 30 = 1 := by kernel_rfl
@[go_sem] theorem agg_30 : isAggT Tryz.prog 30 = false := by kernel_rfl
@[go_sem] theorem flat_30 : flatTy Tryz.prog 30 = false := by kernel_rfl
@[go_sem] theorem zeroT_30 : zeroT Tryz.prog 30 = some [.own 0 []] := by kernel_rfl
@[go_sem] theorem zeroD_30 : zeroD Tryz.prog 30 = some [.l []] := by kernel_rfl
@[go_sem] theorem zrow_30 : zrow Tryz.prog 30 = [.l []] := by kernel_rfl
@[go_sem] theorem stride_30 : strideT Tryz.prog 30 = 6 := by kernel_rfl
@[go_sem] theorem elem_30 : elemT Tryz.prog 30 = some (156, 6, 48, [.v (.int .i64 0), .v (.int .i64 0), .v (.int .i64 0), .v (.int .i64 0), .v (.int .i64 0), .v (.int .i64 0)]) := by kernel_rfl
@[go_sem] theorem und_31 : Tryz.prog.underlying 31 = some (.struct #[⟨"Members", 25, 0, false, "", "", 0⟩, ⟨"Accs", 26, 1, false, "", "", 24⟩, ⟨"Rows", 27, 2, false, "", "", 48⟩, ⟨"Stock", 28, 3, false, "", "", 72⟩, ⟨"Prices", 29, 4, false, "", "", 96⟩, ⟨"Orders", 30, 5, false, "", "", 120⟩]) := by kernel_rfl
@[go_sem] theorem info_31 : (Tryz.prog.info? 31).isSome = true := by kernel_rfl
@[go_sem] theorem cells_31 : Tryz.prog.cellsOf 31 = 6 := by kernel_rfl
@[go_sem] theorem agg_31 : isAggT Tryz.prog 31 = true := by kernel_rfl
@[go_sem] theorem flat_31 : flatTy Tryz.prog 31 = false := by kernel_rfl
@[go_sem] theorem zeroT_31 : zeroT Tryz.prog 31 = some [.own 0 [], .own 0 [], .own 0 [], .own 0 [], .own 0 [], .own 0 []] := by kernel_rfl
@[go_sem] theorem zeroD_31 : zeroD Tryz.prog 31 = some [.l [], .l [], .l [], .l [], .l [], .l []] := by kernel_rfl
@[go_sem] theorem zrow_31 : zrow Tryz.prog 31 = [.l [], .l [], .l [], .l [], .l [], .l []] := by kernel_rfl
@[go_sem] theorem places_31 : placesT Tryz.prog 31 = some [(0, 1), (1, 1), (2, 1), (3, 1), (4, 1), (5, 1)] := by kernel_rfl
@[go_sem] theorem und_32 : Tryz.prog.underlying 32 = some (.struct #[⟨"Members", 25, 0, false, "", "", 0⟩, ⟨"Accs", 26, 1, false, "", "", 24⟩, ⟨"Rows", 27, 2, false, "", "", 48⟩, ⟨"Stock", 28, 3, false, "", "", 72⟩, ⟨"Prices", 29, 4, false, "", "", 96⟩, ⟨"Orders", 30, 5, false, "", "", 120⟩]) := by kernel_rfl
@[go_sem] theorem info_32 : (Tryz.prog.info? 32).isSome = true := by kernel_rfl
@[go_sem] theorem cells_32 : Tryz.prog.cellsOf 32 = 6 := by kernel_rfl
@[go_sem] theorem agg_32 : isAggT Tryz.prog 32 = true := by kernel_rfl
@[go_sem] theorem flat_32 : flatTy Tryz.prog 32 = false := by kernel_rfl
@[go_sem] theorem zeroT_32 : zeroT Tryz.prog 32 = some [.own 0 [], .own 0 [], .own 0 [], .own 0 [], .own 0 [], .own 0 []] := by kernel_rfl
@[go_sem] theorem zeroD_32 : zeroD Tryz.prog 32 = some [.l [], .l [], .l [], .l [], .l [], .l []] := by kernel_rfl
@[go_sem] theorem zrow_32 : zrow Tryz.prog 32 = [.l [], .l [], .l [], .l [], .l [], .l []] := by kernel_rfl
@[go_sem] theorem places_32 : placesT Tryz.prog 32 = some [(0, 1), (1, 1), (2, 1), (3, 1), (4, 1), (5, 1)] := by kernel_rfl
@[go_sem] theorem und_35 : Tryz.prog.underlying 35 = some (.slice 175) := by kernel_rfl
@[go_sem] theorem info_35 : (Tryz.prog.info? 35).isSome = true := by kernel_rfl
@[go_sem] theorem cells_35 : Tryz.prog.cellsOf 35 = 1 := by kernel_rfl
@[go_sem] theorem agg_35 : isAggT Tryz.prog 35 = false := by kernel_rfl
@[go_sem] theorem flat_35 : flatTy Tryz.prog 35 = false := by kernel_rfl
@[go_sem] theorem zeroT_35 : zeroT Tryz.prog 35 = some [.own 0 []] := by kernel_rfl
@[go_sem] theorem zeroD_35 : zeroD Tryz.prog 35 = some [.l []] := by kernel_rfl
@[go_sem] theorem zrow_35 : zrow Tryz.prog 35 = [.l []] := by kernel_rfl
@[go_sem] theorem stride_35 : strideT Tryz.prog 35 = 4 := by kernel_rfl
@[go_sem] theorem elem_35 : elemT Tryz.prog 35 = some (175, 4, 32, [.v (.int .i64 0), .v (.int .i64 0), .v (.int .i64 0), .v (.int .i64 0)]) := by kernel_rfl
@[go_sem] theorem und_36 : Tryz.prog.underlying 36 = some (.slice 50) := by kernel_rfl
@[go_sem] theorem info_36 : (Tryz.prog.info? 36).isSome = true := by kernel_rfl
@[go_sem] theorem cells_36 : Tryz.prog.cellsOf 36 = 1 := by kernel_rfl
@[go_sem] theorem agg_36 : isAggT Tryz.prog 36 = false := by kernel_rfl
@[go_sem] theorem flat_36 : flatTy Tryz.prog 36 = false := by kernel_rfl
@[go_sem] theorem zeroT_36 : zeroT Tryz.prog 36 = some [.own 0 []] := by kernel_rfl
@[go_sem] theorem zeroD_36 : zeroD Tryz.prog 36 = some [.l []] := by kernel_rfl
@[go_sem] theorem zrow_36 : zrow Tryz.prog 36 = [.l []] := by kernel_rfl
@[go_sem] theorem stride_36 : strideT Tryz.prog 36 = 6 := by kernel_rfl
@[go_sem] theorem elem_36 : elemT Tryz.prog 36 = some (50, 6, 64, [.v (.int .i64 0), .l [], .v (.int .i64 0), .v (.int .i64 0), .v (.int .i64 0), .v (.int .i64 0)]) := by kernel_rfl
@[go_sem] theorem und_37 : Tryz.prog.underlying 37 = some (.slice 53) := by kernel_rfl
@[go_sem] theorem info_37 : (Tryz.prog.info? 37).isSome = true := by kernel_rfl
@[go_sem] theorem cells_37 : Tryz.prog.cellsOf 37 = 1 := by kernel_rfl
@[go_sem] theorem agg_37 : isAggT Tryz.prog 37 = false := by kernel_rfl
@[go_sem] theorem flat_37 : flatTy Tryz.prog 37 = false := by kernel_rfl
@[go_sem] theorem zeroT_37 : zeroT Tryz.prog 37 = some [.own 0 []] := by kernel_rfl
@[go_sem] theorem zeroD_37 : zeroD Tryz.prog 37 = some [.l []] := by kernel_rfl
@[go_sem] theorem zrow_37 : zrow Tryz.prog 37 = [.l []] := by kernel_rfl
@[go_sem] theorem stride_37 : strideT Tryz.prog 37 = 4 := by kernel_rfl
@[go_sem] theorem elem_37 : elemT Tryz.prog 37 = some (53, 4, 32, [.v (.int .i64 0), .v (.int .i64 0), .v (.int .i64 0), .v (.int .i64 0)]) := by kernel_rfl
@[go_sem] theorem und_38 : Tryz.prog.underlying 38 = some (.slice 3) := by kernel_rfl
@[go_sem] theorem info_38 : (Tryz.prog.info? 38).isSome = true := by kernel_rfl
@[go_sem] theorem cells_38 : Tryz.prog.cellsOf 38 = 1 := by kernel_rfl
@[go_sem] theorem agg_38 : isAggT Tryz.prog 38 = false := by kernel_rfl
@[go_sem] theorem flat_38 : flatTy Tryz.prog 38 = false := by kernel_rfl
@[go_sem] theorem zeroT_38 : zeroT Tryz.prog 38 = some [.own 0 []] := by kernel_rfl
@[go_sem] theorem zeroD_38 : zeroD Tryz.prog 38 = some [.l []] := by kernel_rfl
@[go_sem] theorem zrow_38 : zrow Tryz.prog 38 = [.l []] := by kernel_rfl
@[go_sem] theorem stride_38 : strideT Tryz.prog 38 = 1 := by kernel_rfl
@[go_sem] theorem elem_38 : elemT Tryz.prog 38 = some (3, 1, 8, [.v (.int .i64 0)]) := by kernel_rfl
@[go_sem] theorem und_39 : Tryz.prog.underlying 39 = some (.slice 180) := by kernel_rfl
@[go_sem] theorem info_39 : (Tryz.prog.info? 39).isSome = true := by kernel_rfl
@[go_sem] theorem cells_39 : Tryz.prog.cellsOf 39 = 1 := by kernel_rfl
@[go_sem] theorem agg_39 : isAggT Tryz.prog 39 = false := by kernel_rfl
@[go_sem] theorem flat_39 : flatTy Tryz.prog 39 = false := by kernel_rfl
@[go_sem] theorem zeroT_39 : zeroT Tryz.prog 39 = some [.own 0 []] := by kernel_rfl
@[go_sem] theorem zeroD_39 : zeroD Tryz.prog 39 = some [.l []] := by kernel_rfl
@[go_sem] theorem zrow_39 : zrow Tryz.prog 39 = [.l []] := by kernel_rfl
@[go_sem] theorem stride_39 : strideT Tryz.prog 39 = 2 := by kernel_rfl
@[go_sem] theorem elem_39 : elemT Tryz.prog 39 = some (180, 2, 16, [.v (.int .i64 0), .v (.int .i64 0)]) := by kernel_rfl
@[go_sem] theorem und_40 : Tryz.prog.underlying 40 = some (.slice 182) := by kernel_rfl
@[go_sem] theorem info_40 : (Tryz.prog.info? 40).isSome = true := by kernel_rfl
@[go_sem] theorem cells_40 : Tryz.prog.cellsOf 40 = 1 := by kernel_rfl
@[go_sem] theorem agg_40 : isAggT Tryz.prog 40 = false := by kernel_rfl
@[go_sem] theorem flat_40 : flatTy Tryz.prog 40 = false := by kernel_rfl
@[go_sem] theorem zeroT_40 : zeroT Tryz.prog 40 = some [.own 0 []] := by kernel_rfl
@[go_sem] theorem zeroD_40 : zeroD Tryz.prog 40 = some [.l []] := by kernel_rfl
@[go_sem] theorem zrow_40 : zrow Tryz.prog 40 = [.l []] := by kernel_rfl
@[go_sem] theorem stride_40 : strideT Tryz.prog 40 = 2 := by kernel_rfl
@[go_sem] theorem elem_40 : elemT Tryz.prog 40 = some (182, 2, 16, [.v (.int .i64 0), .v (.int .i64 0)]) := by kernel_rfl
@[go_sem] theorem und_41 : Tryz.prog.underlying 41 = some (.struct #[⟨"Member", 3, 0, false, "", "", 0⟩, ⟨"Phase", 3, 1, false, "", "", 8⟩, ⟨"End", 2, 2, false, "", "", 16⟩, ⟨"Rounds", 3, 3, false, "", "", 24⟩, ⟨"Hedges", 35, 4, false, "", "", 32⟩, ⟨"Lots", 36, 5, false, "", "", 56⟩, ⟨"Bids", 37, 6, false, "", "", 80⟩, ⟨"Must", 38, 7, false, "", "", 104⟩, ⟨"Deeds", 39, 8, false, "", "", 128⟩, ⟨"Gains", 40, 9, false, "", "", 152⟩]) := by kernel_rfl
@[go_sem] theorem info_41 : (Tryz.prog.info? 41).isSome = true := by kernel_rfl
@[go_sem] theorem cells_41 : Tryz.prog.cellsOf 41 = 10 := by kernel_rfl
@[go_sem] theorem agg_41 : isAggT Tryz.prog 41 = true := by kernel_rfl
@[go_sem] theorem flat_41 : flatTy Tryz.prog 41 = false := by kernel_rfl
@[go_sem] theorem zeroT_41 : zeroT Tryz.prog 41 = some [.d (.v (.int .i64 0)), .d (.v (.int .i64 0)), .d (.v (.int .i64 0)), .d (.v (.int .i64 0)), .own 0 [], .own 0 [], .own 0 [], .own 0 [], .own 0 [], .own 0 []] := by kernel_rfl
@[go_sem] theorem zeroD_41 : zeroD Tryz.prog 41 = some [.v (.int .i64 0), .v (.int .i64 0), .v (.int .i64 0), .v (.int .i64 0), .l [], .l [], .l [], .l [], .l [], .l []] := by kernel_rfl
@[go_sem] theorem zrow_41 : zrow Tryz.prog 41 = [.v (.int .i64 0), .v (.int .i64 0), .v (.int .i64 0), .v (.int .i64 0), .l [], .l [], .l [], .l [], .l [], .l []] := by kernel_rfl
@[go_sem] theorem places_41 : placesT Tryz.prog 41 = some [(0, 1), (1, 1), (2, 1), (3, 1), (4, 1), (5, 1), (6, 1), (7, 1), (8, 1), (9, 1)] := by kernel_rfl
@[go_sem] theorem und_42 : Tryz.prog.underlying 42 = some (.struct #[⟨"Member", 3, 0, false, "", "", 0⟩, ⟨"Phase", 3, 1, false, "", "", 8⟩, ⟨"End", 2, 2, false, "", "", 16⟩, ⟨"Rounds", 3, 3, false, "", "", 24⟩, ⟨"Hedges", 35, 4, false, "", "", 32⟩, ⟨"Lots", 36, 5, false, "", "", 56⟩, ⟨"Bids", 37, 6, false, "", "", 80⟩, ⟨"Must", 38, 7, false, "", "", 104⟩, ⟨"Deeds", 39, 8, false, "", "", 128⟩, ⟨"Gains", 40, 9, false, "", "", 152⟩]) := by kernel_rfl
@[go_sem] theorem info_42 : (Tryz.prog.info? 42).isSome = true := by kernel_rfl
@[go_sem] theorem cells_42 : Tryz.prog.cellsOf 42 = 10 := by kernel_rfl
@[go_sem] theorem agg_42 : isAggT Tryz.prog 42 = true := by kernel_rfl
@[go_sem] theorem flat_42 : flatTy Tryz.prog 42 = false := by kernel_rfl
@[go_sem] theorem zeroT_42 : zeroT Tryz.prog 42 = some [.d (.v (.int .i64 0)), .d (.v (.int .i64 0)), .d (.v (.int .i64 0)), .d (.v (.int .i64 0)), .own 0 [], .own 0 [], .own 0 [], .own 0 [], .own 0 [], .own 0 []] := by kernel_rfl
@[go_sem] theorem zeroD_42 : zeroD Tryz.prog 42 = some [.v (.int .i64 0), .v (.int .i64 0), .v (.int .i64 0), .v (.int .i64 0), .l [], .l [], .l [], .l [], .l [], .l []] := by kernel_rfl
@[go_sem] theorem zrow_42 : zrow Tryz.prog 42 = [.v (.int .i64 0), .v (.int .i64 0), .v (.int .i64 0), .v (.int .i64 0), .l [], .l [], .l [], .l [], .l [], .l []] := by kernel_rfl
@[go_sem] theorem places_42 : placesT Tryz.prog 42 = some [(0, 1), (1, 1), (2, 1), (3, 1), (4, 1), (5, 1), (6, 1), (7, 1), (8, 1), (9, 1)] := by kernel_rfl
@[go_sem] theorem und_43 : Tryz.prog.underlying 43 = some (.slice 240) := by kernel_rfl
@[go_sem] theorem info_43 : (Tryz.prog.info? 43).isSome = true := by kernel_rfl
@[go_sem] theorem cells_43 : Tryz.prog.cellsOf 43 = 1 := by kernel_rfl
@[go_sem] theorem agg_43 : isAggT Tryz.prog 43 = false := by kernel_rfl
@[go_sem] theorem flat_43 : flatTy Tryz.prog 43 = false := by kernel_rfl
@[go_sem] theorem zeroT_43 : zeroT Tryz.prog 43 = some [.own 0 []] := by kernel_rfl
@[go_sem] theorem zeroD_43 : zeroD Tryz.prog 43 = some [.l []] := by kernel_rfl
@[go_sem] theorem zrow_43 : zrow Tryz.prog 43 = [.l []] := by kernel_rfl
@[go_sem] theorem stride_43 : strideT Tryz.prog 43 = 5 := by kernel_rfl
@[go_sem] theorem elem_43 : elemT Tryz.prog 43 = some (240, 5, 40, [.v (.int .i64 0), .v (.int .i64 0), .v (.int .i64 0), .v (.int .i64 0), .v (.int .i64 0)]) := by kernel_rfl
@[go_sem] theorem und_44 : Tryz.prog.underlying 44 = some (.struct #[⟨"Member", 3, 0, false, "", "", 0⟩, ⟨"Loss", 2, 1, false, "", "", 8⟩, ⟨"Tiers", 43, 2, false, "", "", 16⟩, ⟨"Short", 2, 3, false, "", "", 40⟩]) := by kernel_rfl
@[go_sem] theorem info_44 : (Tryz.prog.info? 44).isSome = true := by kernel_rfl
@[go_sem] theorem cells_44 : Tryz.prog.cellsOf 44 = 4 := by kernel_rfl
@[go_sem] theorem agg_44 : isAggT Tryz.prog 44 = true := by kernel_rfl
@[go_sem] theorem flat_44 : flatTy Tryz.prog 44 = false := by kernel_rfl
@[go_sem] theorem zeroT_44 : zeroT Tryz.prog 44 = some [.d (.v (.int .i64 0)), .d (.v (.int .i64 0)), .own 0 [], .d (.v (.int .i64 0))] := by kernel_rfl
@[go_sem] theorem zeroD_44 : zeroD Tryz.prog 44 = some [.v (.int .i64 0), .v (.int .i64 0), .l [], .v (.int .i64 0)] := by kernel_rfl
@[go_sem] theorem zrow_44 : zrow Tryz.prog 44 = [.v (.int .i64 0), .v (.int .i64 0), .l [], .v (.int .i64 0)] := by kernel_rfl
@[go_sem] theorem places_44 : placesT Tryz.prog 44 = some [(0, 1), (1, 1), (2, 1), (3, 1)] := by kernel_rfl
@[go_sem] theorem und_45 : Tryz.prog.underlying 45 = some (.struct #[⟨"Member", 3, 0, false, "", "", 0⟩, ⟨"Loss", 2, 1, false, "", "", 8⟩, ⟨"Tiers", 43, 2, false, "", "", 16⟩, ⟨"Short", 2, 3, false, "", "", 40⟩]) := by kernel_rfl
@[go_sem] theorem info_45 : (Tryz.prog.info? 45).isSome = true := by kernel_rfl
@[go_sem] theorem cells_45 : Tryz.prog.cellsOf 45 = 4 := by kernel_rfl
@[go_sem] theorem agg_45 : isAggT Tryz.prog 45 = true := by kernel_rfl
@[go_sem] theorem flat_45 : flatTy Tryz.prog 45 = false := by kernel_rfl
@[go_sem] theorem zeroT_45 : zeroT Tryz.prog 45 = some [.d (.v (.int .i64 0)), .d (.v (.int .i64 0)), .own 0 [], .d (.v (.int .i64 0))] := by kernel_rfl
@[go_sem] theorem zeroD_45 : zeroD Tryz.prog 45 = some [.v (.int .i64 0), .v (.int .i64 0), .l [], .v (.int .i64 0)] := by kernel_rfl
@[go_sem] theorem zrow_45 : zrow Tryz.prog 45 = [.v (.int .i64 0), .v (.int .i64 0), .l [], .v (.int .i64 0)] := by kernel_rfl
@[go_sem] theorem places_45 : placesT Tryz.prog 45 = some [(0, 1), (1, 1), (2, 1), (3, 1)] := by kernel_rfl
@[go_sem] theorem und_46 : Tryz.prog.underlying 46 = some (.struct #[⟨"Now", 2, 0, false, "", "", 0⟩, ⟨"Next", 2, 1, false, "", "", 8⟩, ⟨"Book", 32, 2, false, "", "", 16⟩, ⟨"Case", 42, 8, false, "", "", 160⟩, ⟨"Last", 45, 18, false, "", "", 336⟩]) := by kernel_rfl
@[go_sem] theorem info_46 : (Tryz.prog.info? 46).isSome = true := by kernel_rfl
@[go_sem] theorem cells_46 : Tryz.prog.cellsOf 46 = 22 := by kernel_rfl
@[go_sem] theorem agg_46 : isAggT Tryz.prog 46 = true := by kernel_rfl
@[go_sem] theorem flat_46 : flatTy Tryz.prog 46 = false := by kernel_rfl
@[go_sem] theorem zeroT_46 : zeroT Tryz.prog 46 = some [.d (.v (.int .i64 0)), .d (.v (.int .i64 0)), .own 0 [], .own 0 [], .own 0 [], .own 0 [], .own 0 [], .own 0 [], .d (.v (.int .i64 0)), .d (.v (.int .i64 0)), .d (.v (.int .i64 0)), .d (.v (.int .i64 0)), .own 0 [], .own 0 [], .own 0 [], .own 0 [], .own 0 [], .own 0 [], .d (.v (.int .i64 0)), .d (.v (.int .i64 0)), .own 0 [], .d (.v (.int .i64 0))] := by kernel_rfl
@[go_sem] theorem zeroD_46 : zeroD Tryz.prog 46 = some [.v (.int .i64 0), .v (.int .i64 0), .l [], .l [], .l [], .l [], .l [], .l [], .v (.int .i64 0), .v (.int .i64 0), .v (.int .i64 0), .v (.int .i64 0), .l [], .l [], .l [], .l [], .l [], .l [], .v (.int .i64 0), .v (.int .i64 0), .l [], .v (.int .i64 0)] := by kernel_rfl
@[go_sem] theorem zrow_46 : zrow Tryz.prog 46 = [.v (.int .i64 0), .v (.int .i64 0), .l [], .l [], .l [], .l [], .l [], .l [], .v (.int .i64 0), .v (.int .i64 0), .v (.int .i64 0), .v (.int .i64 0), .l [], .l [], .l [], .l [], .l [], .l [], .v (.int .i64 0), .v (.int .i64 0), .l [], .v (.int .i64 0)] := by kernel_rfl
@[go_sem] theorem places_46 : placesT Tryz.prog 46 = some [(0, 1), (1, 1), (2, 6), (8, 10), (18, 4)] := by kernel_rfl
@[go_sem] theorem und_47 : Tryz.prog.underlying 47 = some (.struct #[⟨"Now", 2, 0, false, "", "", 0⟩, ⟨"Next", 2, 1, false, "", "", 8⟩, ⟨"Book", 32, 2, false, "", "", 16⟩, ⟨"Case", 42, 8, false, "", "", 160⟩, ⟨"Last", 45, 18, false, "", "", 336⟩]) := by kernel_rfl
@[go_sem] theorem info_47 : (Tryz.prog.info? 47).isSome = true := by kernel_rfl
@[go_sem] theorem cells_47 : Tryz.prog.cellsOf 47 = 22 := by kernel_rfl
@[go_sem] theorem agg_47 : isAggT Tryz.prog 47 = true := by kernel_rfl
@[go_sem] theorem flat_47 : flatTy Tryz.prog 47 = false := by kernel_rfl
@[go_sem] theorem zeroT_47 : zeroT Tryz.prog 47 = some [.d (.v (.int .i64 0)), .d (.v (.int .i64 0)), .own 0 [], .own 0 [], .own 0 [], .own 0 [], .own 0 [], .own 0 [], .d (.v (.int .i64 0)), .d (.v (.int .i64 0)), .d (.v (.int .i64 0)), .d (.v (.int .i64 0)), .own 0 [], .own 0 [], .own 0 [], .own 0 [], .own 0 [], .own 0 [], .d (.v (.int .i64 0)), .d (.v (.int .i64 0)), .own 0 [], .d (.v (.int .i64 0))] := by kernel_rfl
@[go_sem] theorem zeroD_47 : zeroD Tryz.prog 47 = some [.v (.int .i64 0), .v (.int .i64 0), .l [], .l [], .l [], .l [], .l [], .l [], .v (.int .i64 0), .v (.int .i64 0), .v (.int .i64 0), .v (.int .i64 0), .l [], .l [], .l [], .l [], .l [], .l [], .v (.int .i64 0), .v (.int .i64 0), .l [], .v (.int .i64 0)] := by kernel_rfl
@[go_sem] theorem zrow_47 : zrow Tryz.prog 47 = [.v (.int .i64 0), .v (.int .i64 0), .l [], .l [], .l [], .l [], .l [], .l [], .v (.int .i64 0), .v (.int .i64 0), .v (.int .i64 0), .v (.int .i64 0), .l [], .l [], .l [], .l [], .l [], .l [], .v (.int .i64 0), .v (.int .i64 0), .l [], .v (.int .i64 0)] := by kernel_rfl
@[go_sem] theorem places_47 : placesT Tryz.prog 47 = some [(0, 1), (1, 1), (2, 6), (8, 10), (18, 4)] := by kernel_rfl
@[go_sem] theorem und_48 : Tryz.prog.underlying 48 = some (.slice 125) := by kernel_rfl
@[go_sem] theorem info_48 : (Tryz.prog.info? 48).isSome = true := by kernel_rfl
@[go_sem] theorem cells_48 : Tryz.prog.cellsOf 48 = 1 := by kernel_rfl
@[go_sem] theorem agg_48 : isAggT Tryz.prog 48 = false := by kernel_rfl
@[go_sem] theorem flat_48 : flatTy Tryz.prog 48 = false := by kernel_rfl
@[go_sem] theorem zeroT_48 : zeroT Tryz.prog 48 = some [.own 0 []] := by kernel_rfl
@[go_sem] theorem zeroD_48 : zeroD Tryz.prog 48 = some [.l []] := by kernel_rfl
@[go_sem] theorem zrow_48 : zrow Tryz.prog 48 = [.l []] := by kernel_rfl
@[go_sem] theorem stride_48 : strideT Tryz.prog 48 = 2 := by kernel_rfl
@[go_sem] theorem elem_48 : elemT Tryz.prog 48 = some (125, 2, 16, [.v (.int .i64 0), .v (.int .i64 0)]) := by kernel_rfl
@[go_sem] theorem und_49 : Tryz.prog.underlying 49 = some (.struct #[⟨"Id", 2, 0, false, "", "", 0⟩, ⟨"Legs", 48, 1, false, "", "", 8⟩, ⟨"Ref", 2, 2, false, "", "", 32⟩, ⟨"State", 3, 3, false, "", "", 40⟩, ⟨"Winner", 3, 4, false, "", "", 48⟩, ⟨"Price", 2, 5, false, "", "", 56⟩]) := by kernel_rfl
@[go_sem] theorem info_49 : (Tryz.prog.info? 49).isSome = true := by kernel_rfl
@[go_sem] theorem cells_49 : Tryz.prog.cellsOf 49 = 6 := by kernel_rfl
@[go_sem] theorem agg_49 : isAggT Tryz.prog 49 = true := by kernel_rfl
@[go_sem] theorem flat_49 : flatTy Tryz.prog 49 = false := by kernel_rfl
@[go_sem] theorem zeroT_49 : zeroT Tryz.prog 49 = some [.d (.v (.int .i64 0)), .own 0 [], .d (.v (.int .i64 0)), .d (.v (.int .i64 0)), .d (.v (.int .i64 0)), .d (.v (.int .i64 0))] := by kernel_rfl
@[go_sem] theorem zeroD_49 : zeroD Tryz.prog 49 = some [.v (.int .i64 0), .l [], .v (.int .i64 0), .v (.int .i64 0), .v (.int .i64 0), .v (.int .i64 0)] := by kernel_rfl
@[go_sem] theorem zrow_49 : zrow Tryz.prog 49 = [.v (.int .i64 0), .l [], .v (.int .i64 0), .v (.int .i64 0), .v (.int .i64 0), .v (.int .i64 0)] := by kernel_rfl
@[go_sem] theorem places_49 : placesT Tryz.prog 49 = some [(0, 1), (1, 1), (2, 1), (3, 1), (4, 1), (5, 1)] := by kernel_rfl
@[go_sem] theorem und_50 : Tryz.prog.underlying 50 = some (.struct #[⟨"Id", 2, 0, false, "", "", 0⟩, ⟨"Legs", 48, 1, false, "", "", 8⟩, ⟨"Ref", 2, 2, false, "", "", 32⟩, ⟨"State", 3, 3, false, "", "", 40⟩, ⟨"Winner", 3, 4, false, "", "", 48⟩, ⟨"Price", 2, 5, false, "", "", 56⟩]) := by kernel_rfl
@[go_sem] theorem info_50 : (Tryz.prog.info? 50).isSome = true := by kernel_rfl
@[go_sem] theorem cells_50 : Tryz.prog.cellsOf 50 = 6 := by kernel_rfl
@[go_sem] theorem agg_50 : isAggT Tryz.prog 50 = true := by kernel_rfl
@[go_sem] theorem flat_50 : flatTy Tryz.prog 50 = false := by kernel_rfl
@[go_sem] theorem zeroT_50 : zeroT Tryz.prog 50 = some [.d (.v (.int .i64 0)), .own 0 [], .d (.v (.int .i64 0)), .d (.v (.int .i64 0)), .d (.v (.int .i64 0)), .d (.v (.int .i64 0))] := by kernel_rfl
@[go_sem] theorem zeroD_50 : zeroD Tryz.prog 50 = some [.v (.int .i64 0), .l [], .v (.int .i64 0), .v (.int .i64 0), .v (.int .i64 0), .v (.int .i64 0)] := by kernel_rfl
@[go_sem] theorem zrow_50 : zrow Tryz.prog 50 = [.v (.int .i64 0), .l [], .v (.int .i64 0), .v (.int .i64 0), .v (.int .i64 0), .v (.int .i64 0)] := by kernel_rfl
@[go_sem] theorem places_50 : placesT Tryz.prog 50 = some [(0, 1), (1, 1), (2, 1), (3, 1), (4, 1), (5, 1)] := by kernel_rfl
@[go_sem] theorem und_52 : Tryz.prog.underlying 52 = some (.struct #[⟨"Seq", 2, 0, false, "", "", 0⟩, ⟨"Lot", 2, 1, false, "", "", 8⟩, ⟨"Member", 3, 2, false, "", "", 16⟩, ⟨"Price", 2, 3, false, "", "", 24⟩]) := by kernel_rfl
@[go_sem] theorem info_52 : (Tryz.prog.info? 52).isSome = true := by kernel_rfl
@[go_sem] theorem cells_52 : Tryz.prog.cellsOf 52 = 4 := by kernel_rfl
@[go_sem] theorem agg_52 : isAggT Tryz.prog 52 = true := by kernel_rfl
@[go_sem] theorem flat_52 : flatTy Tryz.prog 52 = true := by kernel_rfl
@[go_sem] theorem zeroT_52 : zeroT Tryz.prog 52 = some [.d (.v (.int .i64 0)), .d (.v (.int .i64 0)), .d (.v (.int .i64 0)), .d (.v (.int .i64 0))] := by kernel_rfl
@[go_sem] theorem zeroD_52 : zeroD Tryz.prog 52 = some [.v (.int .i64 0), .v (.int .i64 0), .v (.int .i64 0), .v (.int .i64 0)] := by kernel_rfl
@[go_sem] theorem zrow_52 : zrow Tryz.prog 52 = [.v (.int .i64 0), .v (.int .i64 0), .v (.int .i64 0), .v (.int .i64 0)] := by kernel_rfl
@[go_sem] theorem eq_52 (op : BinOp) (x0 y0 : Int) (x1 y1 : Int) (x2 y2 : Int) (x3 y3 : Int) (K : Go.Ax.T → Prop) : eqAgg Tryz.prog op 52 [.v (.int .i64 x0), .v (.int .i64 x1), .v (.int .i64 x2), .v (.int .i64 x3)] [.v (.int .i64 y0), .v (.int .i64 y1), .v (.int .i64 y2), .v (.int .i64 y3)] K = match op with | .eql => K (.one (.v (.bool (x0 == y0 && (x1 == y1 && (x2 == y2 && x3 == y3)))))) | .neq => K (.one (.v (.bool (!(x0 == y0 && (x1 == y1 && (x2 == y2 && x3 == y3))))))) | _ => False :=
  eqAgg_deep und_52 (by kernel_rfl) (ks := [.int .i64, .int .i64, .int .i64, .int .i64]) (by kernel_rfl) (xs := [.int .i64 x0, .int .i64 x1, .int .i64 x2, .int .i64 x3]) (ys := [.int .i64 y0, .int .i64 y1, .int .i64 y2, .int .i64 y3]) (by kernel_rfl) (by kernel_rfl) op K
@[go_sem] theorem places_52 : placesT Tryz.prog 52 = some [(0, 1), (1, 1), (2, 1), (3, 1)] := by kernel_rfl
@[go_sem] theorem und_53 : Tryz.prog.underlying 53 = some (.struct #[⟨"Seq", 2, 0, false, "", "", 0⟩, ⟨"Lot", 2, 1, false, "", "", 8⟩, ⟨"Member", 3, 2, false, "", "", 16⟩, ⟨"Price", 2, 3, false, "", "", 24⟩]) := by kernel_rfl
@[go_sem] theorem info_53 : (Tryz.prog.info? 53).isSome = true := by kernel_rfl
@[go_sem] theorem cells_53 : Tryz.prog.cellsOf 53 = 4 := by kernel_rfl
@[go_sem] theorem agg_53 : isAggT Tryz.prog 53 = true := by kernel_rfl
@[go_sem] theorem flat_53 : flatTy Tryz.prog 53 = true := by kernel_rfl
@[go_sem] theorem zeroT_53 : zeroT Tryz.prog 53 = some [.d (.v (.int .i64 0)), .d (.v (.int .i64 0)), .d (.v (.int .i64 0)), .d (.v (.int .i64 0))] := by kernel_rfl
@[go_sem] theorem zeroD_53 : zeroD Tryz.prog 53 = some [.v (.int .i64 0), .v (.int .i64 0), .v (.int .i64 0), .v (.int .i64 0)] := by kernel_rfl
@[go_sem] theorem zrow_53 : zrow Tryz.prog 53 = [.v (.int .i64 0), .v (.int .i64 0), .v (.int .i64 0), .v (.int .i64 0)] := by kernel_rfl
@[go_sem] theorem eq_53 (op : BinOp) (x0 y0 : Int) (x1 y1 : Int) (x2 y2 : Int) (x3 y3 : Int) (K : Go.Ax.T → Prop) : eqAgg Tryz.prog op 53 [.v (.int .i64 x0), .v (.int .i64 x1), .v (.int .i64 x2), .v (.int .i64 x3)] [.v (.int .i64 y0), .v (.int .i64 y1), .v (.int .i64 y2), .v (.int .i64 y3)] K = match op with | .eql => K (.one (.v (.bool (x0 == y0 && (x1 == y1 && (x2 == y2 && x3 == y3)))))) | .neq => K (.one (.v (.bool (!(x0 == y0 && (x1 == y1 && (x2 == y2 && x3 == y3))))))) | _ => False :=
  eqAgg_deep und_53 (by kernel_rfl) (ks := [.int .i64, .int .i64, .int .i64, .int .i64]) (by kernel_rfl) (xs := [.int .i64 x0, .int .i64 x1, .int .i64 x2, .int .i64 x3]) (ys := [.int .i64 y0, .int .i64 y1, .int .i64 y2, .int .i64 y3]) (by kernel_rfl) (by kernel_rfl) op K
@[go_sem] theorem places_53 : placesT Tryz.prog 53 = some [(0, 1), (1, 1), (2, 1), (3, 1)] := by kernel_rfl
@[go_sem] theorem und_57 : Tryz.prog.underlying 57 = some (.int .i64) := by kernel_rfl
@[go_sem] theorem info_57 : (Tryz.prog.info? 57).isSome = true := by kernel_rfl
@[go_sem] theorem cells_57 : Tryz.prog.cellsOf 57 = 1 := by kernel_rfl
@[go_sem] theorem agg_57 : isAggT Tryz.prog 57 = false := by kernel_rfl
@[go_sem] theorem flat_57 : flatTy Tryz.prog 57 = true := by kernel_rfl
@[go_sem] theorem zeroT_57 : zeroT Tryz.prog 57 = some [.d (.v (.int .i64 0))] := by kernel_rfl
@[go_sem] theorem zeroD_57 : zeroD Tryz.prog 57 = some [.v (.int .i64 0)] := by kernel_rfl
@[go_sem] theorem zrow_57 : zrow Tryz.prog 57 = [.v (.int .i64 0)] := by kernel_rfl
@[go_sem] theorem und_60 : Tryz.prog.underlying 60 = some (.struct #[⟨"Id", 3, 0, false, "", "", 0⟩, ⟨"Member", 3, 1, false, "", "", 8⟩, ⟨"Kind", 3, 2, false, "", "", 16⟩, ⟨"Limit", 2, 3, false, "", "", 24⟩]) := by kernel_rfl
@[go_sem] theorem info_60 : (Tryz.prog.info? 60).isSome = true := by kernel_rfl
@[go_sem] theorem cells_60 : Tryz.prog.cellsOf 60 = 4 := by kernel_rfl
@[go_sem] theorem agg_60 : isAggT Tryz.prog 60 = true := by kernel_rfl
@[go_sem] theorem flat_60 : flatTy Tryz.prog 60 = true := by kernel_rfl
@[go_sem] theorem zeroT_60 : zeroT Tryz.prog 60 = some [.d (.v (.int .i64 0)), .d (.v (.int .i64 0)), .d (.v (.int .i64 0)), .d (.v (.int .i64 0))] := by kernel_rfl
@[go_sem] theorem zeroD_60 : zeroD Tryz.prog 60 = some [.v (.int .i64 0), .v (.int .i64 0), .v (.int .i64 0), .v (.int .i64 0)] := by kernel_rfl
@[go_sem] theorem zrow_60 : zrow Tryz.prog 60 = [.v (.int .i64 0), .v (.int .i64 0), .v (.int .i64 0), .v (.int .i64 0)] := by kernel_rfl
@[go_sem] theorem eq_60 (op : BinOp) (x0 y0 : Int) (x1 y1 : Int) (x2 y2 : Int) (x3 y3 : Int) (K : Go.Ax.T → Prop) : eqAgg Tryz.prog op 60 [.v (.int .i64 x0), .v (.int .i64 x1), .v (.int .i64 x2), .v (.int .i64 x3)] [.v (.int .i64 y0), .v (.int .i64 y1), .v (.int .i64 y2), .v (.int .i64 y3)] K = match op with | .eql => K (.one (.v (.bool (x0 == y0 && (x1 == y1 && (x2 == y2 && x3 == y3)))))) | .neq => K (.one (.v (.bool (!(x0 == y0 && (x1 == y1 && (x2 == y2 && x3 == y3))))))) | _ => False :=
  eqAgg_deep und_60 (by kernel_rfl) (ks := [.int .i64, .int .i64, .int .i64, .int .i64]) (by kernel_rfl) (xs := [.int .i64 x0, .int .i64 x1, .int .i64 x2, .int .i64 x3]) (ys := [.int .i64 y0, .int .i64 y1, .int .i64 y2, .int .i64 y3]) (by kernel_rfl) (by kernel_rfl) op K
@[go_sem] theorem places_60 : placesT Tryz.prog 60 = some [(0, 1), (1, 1), (2, 1), (3, 1)] := by kernel_rfl
@[go_sem] theorem und_61 : Tryz.prog.underlying 61 = some (.struct #[⟨"Id", 3, 0, false, "", "", 0⟩, ⟨"Member", 3, 1, false, "", "", 8⟩, ⟨"Kind", 3, 2, false, "", "", 16⟩, ⟨"Limit", 2, 3, false, "", "", 24⟩]) := by kernel_rfl
@[go_sem] theorem info_61 : (Tryz.prog.info? 61).isSome = true := by kernel_rfl
@[go_sem] theorem cells_61 : Tryz.prog.cellsOf 61 = 4 := by kernel_rfl
@[go_sem] theorem agg_61 : isAggT Tryz.prog 61 = true := by kernel_rfl
@[go_sem] theorem flat_61 : flatTy Tryz.prog 61 = true := by kernel_rfl
@[go_sem] theorem zeroT_61 : zeroT Tryz.prog 61 = some [.d (.v (.int .i64 0)), .d (.v (.int .i64 0)), .d (.v (.int .i64 0)), .d (.v (.int .i64 0))] := by kernel_rfl
@[go_sem] theorem zeroD_61 : zeroD Tryz.prog 61 = some [.v (.int .i64 0), .v (.int .i64 0), .v (.int .i64 0), .v (.int .i64 0)] := by kernel_rfl
@[go_sem] theorem zrow_61 : zrow Tryz.prog 61 = [.v (.int .i64 0), .v (.int .i64 0), .v (.int .i64 0), .v (.int .i64 0)] := by kernel_rfl
@[go_sem] theorem eq_61 (op : BinOp) (x0 y0 : Int) (x1 y1 : Int) (x2 y2 : Int) (x3 y3 : Int) (K : Go.Ax.T → Prop) : eqAgg Tryz.prog op 61 [.v (.int .i64 x0), .v (.int .i64 x1), .v (.int .i64 x2), .v (.int .i64 x3)] [.v (.int .i64 y0), .v (.int .i64 y1), .v (.int .i64 y2), .v (.int .i64 y3)] K = match op with | .eql => K (.one (.v (.bool (x0 == y0 && (x1 == y1 && (x2 == y2 && x3 == y3)))))) | .neq => K (.one (.v (.bool (!(x0 == y0 && (x1 == y1 && (x2 == y2 && x3 == y3))))))) | _ => False :=
  eqAgg_deep und_61 (by kernel_rfl) (ks := [.int .i64, .int .i64, .int .i64, .int .i64]) (by kernel_rfl) (xs := [.int .i64 x0, .int .i64 x1, .int .i64 x2, .int .i64 x3]) (ys := [.int .i64 y0, .int .i64 y1, .int .i64 y2, .int .i64 y3]) (by kernel_rfl) (by kernel_rfl) op K
@[go_sem] theorem places_61 : placesT Tryz.prog 61 = some [(0, 1), (1, 1), (2, 1), (3, 1)] := by kernel_rfl
@[go_sem] theorem und_69 : Tryz.prog.underlying 69 = some (.struct #[⟨"Kind", 3, 0, false, "", "", 0⟩, ⟨"N", 3, 1, false, "", "", 8⟩, ⟨"Sum", 2, 2, false, "", "", 16⟩]) := by kernel_rfl
@[go_sem] theorem info_69 : (Tryz.prog.info? 69).isSome = true := by kernel_rfl
@[go_sem] theorem cells_69 : Tryz.prog.cellsOf 69 = 3 := by kernel_rfl
@[go_sem] theorem agg_69 : isAggT Tryz.prog 69 = true := by kernel_rfl
@[go_sem] theorem flat_69 : flatTy Tryz.prog 69 = true := by kernel_rfl
@[go_sem] theorem zeroT_69 : zeroT Tryz.prog 69 = some [.d (.v (.int .i64 0)), .d (.v (.int .i64 0)), .d (.v (.int .i64 0))] := by kernel_rfl
@[go_sem] theorem zeroD_69 : zeroD Tryz.prog 69 = some [.v (.int .i64 0), .v (.int .i64 0), .v (.int .i64 0)] := by kernel_rfl
@[go_sem] theorem zrow_69 : zrow Tryz.prog 69 = [.v (.int .i64 0), .v (.int .i64 0), .v (.int .i64 0)] := by kernel_rfl
@[go_sem] theorem eq_69 (op : BinOp) (x0 y0 : Int) (x1 y1 : Int) (x2 y2 : Int) (K : Go.Ax.T → Prop) : eqAgg Tryz.prog op 69 [.v (.int .i64 x0), .v (.int .i64 x1), .v (.int .i64 x2)] [.v (.int .i64 y0), .v (.int .i64 y1), .v (.int .i64 y2)] K = match op with | .eql => K (.one (.v (.bool (x0 == y0 && (x1 == y1 && x2 == y2))))) | .neq => K (.one (.v (.bool (!(x0 == y0 && (x1 == y1 && x2 == y2)))))) | _ => False :=
  eqAgg_deep und_69 (by kernel_rfl) (ks := [.int .i64, .int .i64, .int .i64]) (by kernel_rfl) (xs := [.int .i64 x0, .int .i64 x1, .int .i64 x2]) (ys := [.int .i64 y0, .int .i64 y1, .int .i64 y2]) (by kernel_rfl) (by kernel_rfl) op K
@[go_sem] theorem places_69 : placesT Tryz.prog 69 = some [(0, 1), (1, 1), (2, 1)] := by kernel_rfl
@[go_sem] theorem und_70 : Tryz.prog.underlying 70 = some (.struct #[⟨"Kind", 3, 0, false, "", "", 0⟩, ⟨"N", 3, 1, false, "", "", 8⟩, ⟨"Sum", 2, 2, false, "", "", 16⟩]) := by kernel_rfl
@[go_sem] theorem info_70 : (Tryz.prog.info? 70).isSome = true := by kernel_rfl
@[go_sem] theorem cells_70 : Tryz.prog.cellsOf 70 = 3 := by kernel_rfl
@[go_sem] theorem agg_70 : isAggT Tryz.prog 70 = true := by kernel_rfl
@[go_sem] theorem flat_70 : flatTy Tryz.prog 70 = true := by kernel_rfl
@[go_sem] theorem zeroT_70 : zeroT Tryz.prog 70 = some [.d (.v (.int .i64 0)), .d (.v (.int .i64 0)), .d (.v (.int .i64 0))] := by kernel_rfl
@[go_sem] theorem zeroD_70 : zeroD Tryz.prog 70 = some [.v (.int .i64 0), .v (.int .i64 0), .v (.int .i64 0)] := by kernel_rfl
@[go_sem] theorem zrow_70 : zrow Tryz.prog 70 = [.v (.int .i64 0), .v (.int .i64 0), .v (.int .i64 0)] := by kernel_rfl
@[go_sem] theorem eq_70 (op : BinOp) (x0 y0 : Int) (x1 y1 : Int) (x2 y2 : Int) (K : Go.Ax.T → Prop) : eqAgg Tryz.prog op 70 [.v (.int .i64 x0), .v (.int .i64 x1), .v (.int .i64 x2)] [.v (.int .i64 y0), .v (.int .i64 y1), .v (.int .i64 y2)] K = match op with | .eql => K (.one (.v (.bool (x0 == y0 && (x1 == y1 && x2 == y2))))) | .neq => K (.one (.v (.bool (!(x0 == y0 && (x1 == y1 && x2 == y2)))))) | _ => False :=
  eqAgg_deep und_70 (by kernel_rfl) (ks := [.int .i64, .int .i64, .int .i64]) (by kernel_rfl) (xs := [.int .i64 x0, .int .i64 x1, .int .i64 x2]) (ys := [.int .i64 y0, .int .i64 y1, .int .i64 y2]) (by kernel_rfl) (by kernel_rfl) op K
@[go_sem] theorem places_70 : placesT Tryz.prog 70 = some [(0, 1), (1, 1), (2, 1)] := by kernel_rfl
@[go_sem] theorem und_83 : Tryz.prog.underlying 83 = some (.struct #[⟨"Bucket", 3, 0, false, "", "", 0⟩, ⟨"Price", 2, 1, false, "", "", 8⟩, ⟨"Rate", 2, 2, false, "", "", 16⟩, ⟨"Slip", 2, 3, false, "", "", 24⟩]) := by kernel_rfl
@[go_sem] theorem info_83 : (Tryz.prog.info? 83).isSome = true := by kernel_rfl
@[go_sem] theorem cells_83 : Tryz.prog.cellsOf 83 = 4 := by kernel_rfl
@[go_sem] theorem agg_83 : isAggT Tryz.prog 83 = true := by kernel_rfl
@[go_sem] theorem flat_83 : flatTy Tryz.prog 83 = true := by kernel_rfl
@[go_sem] theorem zeroT_83 : zeroT Tryz.prog 83 = some [.d (.v (.int .i64 0)), .d (.v (.int .i64 0)), .d (.v (.int .i64 0)), .d (.v (.int .i64 0))] := by kernel_rfl
@[go_sem] theorem zeroD_83 : zeroD Tryz.prog 83 = some [.v (.int .i64 0), .v (.int .i64 0), .v (.int .i64 0), .v (.int .i64 0)] := by kernel_rfl
@[go_sem] theorem zrow_83 : zrow Tryz.prog 83 = [.v (.int .i64 0), .v (.int .i64 0), .v (.int .i64 0), .v (.int .i64 0)] := by kernel_rfl
@[go_sem] theorem eq_83 (op : BinOp) (x0 y0 : Int) (x1 y1 : Int) (x2 y2 : Int) (x3 y3 : Int) (K : Go.Ax.T → Prop) : eqAgg Tryz.prog op 83 [.v (.int .i64 x0), .v (.int .i64 x1), .v (.int .i64 x2), .v (.int .i64 x3)] [.v (.int .i64 y0), .v (.int .i64 y1), .v (.int .i64 y2), .v (.int .i64 y3)] K = match op with | .eql => K (.one (.v (.bool (x0 == y0 && (x1 == y1 && (x2 == y2 && x3 == y3)))))) | .neq => K (.one (.v (.bool (!(x0 == y0 && (x1 == y1 && (x2 == y2 && x3 == y3))))))) | _ => False :=
  eqAgg_deep und_83 (by kernel_rfl) (ks := [.int .i64, .int .i64, .int .i64, .int .i64]) (by kernel_rfl) (xs := [.int .i64 x0, .int .i64 x1, .int .i64 x2, .int .i64 x3]) (ys := [.int .i64 y0, .int .i64 y1, .int .i64 y2, .int .i64 y3]) (by kernel_rfl) (by kernel_rfl) op K
@[go_sem] theorem places_83 : placesT Tryz.prog 83 = some [(0, 1), (1, 1), (2, 1), (3, 1)] := by kernel_rfl
@[go_sem] theorem und_84 : Tryz.prog.underlying 84 = some (.struct #[⟨"Bucket", 3, 0, false, "", "", 0⟩, ⟨"Price", 2, 1, false, "", "", 8⟩, ⟨"Rate", 2, 2, false, "", "", 16⟩, ⟨"Slip", 2, 3, false, "", "", 24⟩]) := by kernel_rfl
@[go_sem] theorem info_84 : (Tryz.prog.info? 84).isSome = true := by kernel_rfl
@[go_sem] theorem cells_84 : Tryz.prog.cellsOf 84 = 4 := by kernel_rfl
@[go_sem] theorem agg_84 : isAggT Tryz.prog 84 = true := by kernel_rfl
@[go_sem] theorem flat_84 : flatTy Tryz.prog 84 = true := by kernel_rfl
@[go_sem] theorem zeroT_84 : zeroT Tryz.prog 84 = some [.d (.v (.int .i64 0)), .d (.v (.int .i64 0)), .d (.v (.int .i64 0)), .d (.v (.int .i64 0))] := by kernel_rfl
@[go_sem] theorem zeroD_84 : zeroD Tryz.prog 84 = some [.v (.int .i64 0), .v (.int .i64 0), .v (.int .i64 0), .v (.int .i64 0)] := by kernel_rfl
@[go_sem] theorem zrow_84 : zrow Tryz.prog 84 = [.v (.int .i64 0), .v (.int .i64 0), .v (.int .i64 0), .v (.int .i64 0)] := by kernel_rfl
@[go_sem] theorem eq_84 (op : BinOp) (x0 y0 : Int) (x1 y1 : Int) (x2 y2 : Int) (x3 y3 : Int) (K : Go.Ax.T → Prop) : eqAgg Tryz.prog op 84 [.v (.int .i64 x0), .v (.int .i64 x1), .v (.int .i64 x2), .v (.int .i64 x3)] [.v (.int .i64 y0), .v (.int .i64 y1), .v (.int .i64 y2), .v (.int .i64 y3)] K = match op with | .eql => K (.one (.v (.bool (x0 == y0 && (x1 == y1 && (x2 == y2 && x3 == y3)))))) | .neq => K (.one (.v (.bool (!(x0 == y0 && (x1 == y1 && (x2 == y2 && x3 == y3))))))) | _ => False :=
  eqAgg_deep und_84 (by kernel_rfl) (ks := [.int .i64, .int .i64, .int .i64, .int .i64]) (by kernel_rfl) (xs := [.int .i64 x0, .int .i64 x1, .int .i64 x2, .int .i64 x3]) (ys := [.int .i64 y0, .int .i64 y1, .int .i64 y2, .int .i64 y3]) (by kernel_rfl) (by kernel_rfl) op K
@[go_sem] theorem places_84 : placesT Tryz.prog 84 = some [(0, 1), (1, 1), (2, 1), (3, 1)] := by kernel_rfl
@[go_sem] theorem und_85 : Tryz.prog.underlying 85 = some (.struct #[⟨"Id", 3, 0, false, "", "", 0⟩, ⟨"Status", 3, 1, false, "", "", 8⟩]) := by kernel_rfl
@[go_sem] theorem info_85 : (Tryz.prog.info? 85).isSome = true := by kernel_rfl
@[go_sem] theorem cells_85 : Tryz.prog.cellsOf 85 = 2 := by kernel_rfl
@[go_sem] theorem agg_85 : isAggT Tryz.prog 85 = true := by kernel_rfl
@[go_sem] theorem flat_85 : flatTy Tryz.prog 85 = true := by kernel_rfl
@[go_sem] theorem zeroT_85 : zeroT Tryz.prog 85 = some [.d (.v (.int .i64 0)), .d (.v (.int .i64 0))] := by kernel_rfl
@[go_sem] theorem zeroD_85 : zeroD Tryz.prog 85 = some [.v (.int .i64 0), .v (.int .i64 0)] := by kernel_rfl
@[go_sem] theorem zrow_85 : zrow Tryz.prog 85 = [.v (.int .i64 0), .v (.int .i64 0)] := by kernel_rfl
@[go_sem] theorem eq_85 (op : BinOp) (x0 y0 : Int) (x1 y1 : Int) (K : Go.Ax.T → Prop) : eqAgg Tryz.prog op 85 [.v (.int .i64 x0), .v (.int .i64 x1)] [.v (.int .i64 y0), .v (.int .i64 y1)] K = match op with | .eql => K (.one (.v (.bool (x0 == y0 && x1 == y1)))) | .neq => K (.one (.v (.bool (!(x0 == y0 && x1 == y1))))) | _ => False :=
  eqAgg_deep und_85 (by kernel_rfl) (ks := [.int .i64, .int .i64]) (by kernel_rfl) (xs := [.int .i64 x0, .int .i64 x1]) (ys := [.int .i64 y0, .int .i64 y1]) (by kernel_rfl) (by kernel_rfl) op K
@[go_sem] theorem places_85 : placesT Tryz.prog 85 = some [(0, 1), (1, 1)] := by kernel_rfl
@[go_sem] theorem und_86 : Tryz.prog.underlying 86 = some (.struct #[⟨"Id", 3, 0, false, "", "", 0⟩, ⟨"Status", 3, 1, false, "", "", 8⟩]) := by kernel_rfl
@[go_sem] theorem info_86 : (Tryz.prog.info? 86).isSome = true := by kernel_rfl
@[go_sem] theorem cells_86 : Tryz.prog.cellsOf 86 = 2 := by kernel_rfl
@[go_sem] theorem agg_86 : isAggT Tryz.prog 86 = true := by kernel_rfl
@[go_sem] theorem flat_86 : flatTy Tryz.prog 86 = true := by kernel_rfl
@[go_sem] theorem zeroT_86 : zeroT Tryz.prog 86 = some [.d (.v (.int .i64 0)), .d (.v (.int .i64 0))] := by kernel_rfl
@[go_sem] theorem zeroD_86 : zeroD Tryz.prog 86 = some [.v (.int .i64 0), .v (.int .i64 0)] := by kernel_rfl
@[go_sem] theorem zrow_86 : zrow Tryz.prog 86 = [.v (.int .i64 0), .v (.int .i64 0)] := by kernel_rfl
@[go_sem] theorem eq_86 (op : BinOp) (x0 y0 : Int) (x1 y1 : Int) (K : Go.Ax.T → Prop) : eqAgg Tryz.prog op 86 [.v (.int .i64 x0), .v (.int .i64 x1)] [.v (.int .i64 y0), .v (.int .i64 y1)] K = match op with | .eql => K (.one (.v (.bool (x0 == y0 && x1 == y1)))) | .neq => K (.one (.v (.bool (!(x0 == y0 && x1 == y1))))) | _ => False :=
  eqAgg_deep und_86 (by kernel_rfl) (ks := [.int .i64, .int .i64]) (by kernel_rfl) (xs := [.int .i64 x0, .int .i64 x1]) (ys := [.int .i64 y0, .int .i64 y1]) (by kernel_rfl) (by kernel_rfl) op K
@[go_sem] theorem places_86 : placesT Tryz.prog 86 = some [(0, 1), (1, 1)] := by kernel_rfl
@[go_sem] theorem und_87 : Tryz.prog.underlying 87 = some (.struct #[⟨"Acc", 3, 0, false, "", "", 0⟩, ⟨"Inst", 3, 1, false, "", "", 8⟩, ⟨"Q", 2, 2, false, "", "", 16⟩]) := by kernel_rfl
@[go_sem] theorem info_87 : (Tryz.prog.info? 87).isSome = true := by kernel_rfl
@[go_sem] theorem cells_87 : Tryz.prog.cellsOf 87 = 3 := by kernel_rfl
@[go_sem] theorem agg_87 : isAggT Tryz.prog 87 = true := by kernel_rfl
@[go_sem] theorem flat_87 : flatTy Tryz.prog 87 = true := by kernel_rfl
@[go_sem] theorem zeroT_87 : zeroT Tryz.prog 87 = some [.d (.v (.int .i64 0)), .d (.v (.int .i64 0)), .d (.v (.int .i64 0))] := by kernel_rfl
@[go_sem] theorem zeroD_87 : zeroD Tryz.prog 87 = some [.v (.int .i64 0), .v (.int .i64 0), .v (.int .i64 0)] := by kernel_rfl
@[go_sem] theorem zrow_87 : zrow Tryz.prog 87 = [.v (.int .i64 0), .v (.int .i64 0), .v (.int .i64 0)] := by kernel_rfl
@[go_sem] theorem eq_87 (op : BinOp) (x0 y0 : Int) (x1 y1 : Int) (x2 y2 : Int) (K : Go.Ax.T → Prop) : eqAgg Tryz.prog op 87 [.v (.int .i64 x0), .v (.int .i64 x1), .v (.int .i64 x2)] [.v (.int .i64 y0), .v (.int .i64 y1), .v (.int .i64 y2)] K = match op with | .eql => K (.one (.v (.bool (x0 == y0 && (x1 == y1 && x2 == y2))))) | .neq => K (.one (.v (.bool (!(x0 == y0 && (x1 == y1 && x2 == y2)))))) | _ => False :=
  eqAgg_deep und_87 (by kernel_rfl) (ks := [.int .i64, .int .i64, .int .i64]) (by kernel_rfl) (xs := [.int .i64 x0, .int .i64 x1, .int .i64 x2]) (ys := [.int .i64 y0, .int .i64 y1, .int .i64 y2]) (by kernel_rfl) (by kernel_rfl) op K
@[go_sem] theorem places_87 : placesT Tryz.prog 87 = some [(0, 1), (1, 1), (2, 1)] := by kernel_rfl
@[go_sem] theorem und_88 : Tryz.prog.underlying 88 = some (.struct #[⟨"Acc", 3, 0, false, "", "", 0⟩, ⟨"Inst", 3, 1, false, "", "", 8⟩, ⟨"Q", 2, 2, false, "", "", 16⟩]) := by kernel_rfl
@[go_sem] theorem info_88 : (Tryz.prog.info? 88).isSome = true := by kernel_rfl
@[go_sem] theorem cells_88 : Tryz.prog.cellsOf 88 = 3 := by kernel_rfl
@[go_sem] theorem agg_88 : isAggT Tryz.prog 88 = true := by kernel_rfl
@[go_sem] theorem flat_88 : flatTy Tryz.prog 88 = true := by kernel_rfl
@[go_sem] theorem zeroT_88 : zeroT Tryz.prog 88 = some [.d (.v (.int .i64 0)), .d (.v (.int .i64 0)), .d (.v (.int .i64 0))] := by kernel_rfl
@[go_sem] theorem zeroD_88 : zeroD Tryz.prog 88 = some [.v (.int .i64 0), .v (.int .i64 0), .v (.int .i64 0)] := by kernel_rfl
@[go_sem] theorem zrow_88 : zrow Tryz.prog 88 = [.v (.int .i64 0), .v (.int .i64 0), .v (.int .i64 0)] := by kernel_rfl
@[go_sem] theorem eq_88 (op : BinOp) (x0 y0 : Int) (x1 y1 : Int) (x2 y2 : Int) (K : Go.Ax.T → Prop) : eqAgg Tryz.prog op 88 [.v (.int .i64 x0), .v (.int .i64 x1), .v (.int .i64 x2)] [.v (.int .i64 y0), .v (.int .i64 y1), .v (.int .i64 y2)] K = match op with | .eql => K (.one (.v (.bool (x0 == y0 && (x1 == y1 && x2 == y2))))) | .neq => K (.one (.v (.bool (!(x0 == y0 && (x1 == y1 && x2 == y2)))))) | _ => False :=
  eqAgg_deep und_88 (by kernel_rfl) (ks := [.int .i64, .int .i64, .int .i64]) (by kernel_rfl) (xs := [.int .i64 x0, .int .i64 x1, .int .i64 x2]) (ys := [.int .i64 y0, .int .i64 y1, .int .i64 y2]) (by kernel_rfl) (by kernel_rfl) op K
@[go_sem] theorem places_88 : placesT Tryz.prog 88 = some [(0, 1), (1, 1), (2, 1)] := by kernel_rfl
@[go_sem] theorem und_95 : Tryz.prog.underlying 95 = some (.int .u64) := by kernel_rfl
@[go_sem] theorem info_95 : (Tryz.prog.info? 95).isSome = true := by kernel_rfl
@[go_sem] theorem cells_95 : Tryz.prog.cellsOf 95 = 1 := by kernel_rfl
@[go_sem] theorem agg_95 : isAggT Tryz.prog 95 = false := by kernel_rfl
@[go_sem] theorem flat_95 : flatTy Tryz.prog 95 = true := by kernel_rfl
@[go_sem] theorem zeroT_95 : zeroT Tryz.prog 95 = some [.d (.v (.int .u64 0))] := by kernel_rfl
@[go_sem] theorem zeroD_95 : zeroD Tryz.prog 95 = some [.v (.int .u64 0)] := by kernel_rfl
@[go_sem] theorem zrow_95 : zrow Tryz.prog 95 = [.v (.int .u64 0)] := by kernel_rfl
@[go_sem] theorem und_96 : Tryz.prog.underlying 96 = some (.struct #[⟨"Hi", 2, 0, false, "", "", 0⟩, ⟨"Lo", 95, 1, false, "", "", 8⟩]) := by kernel_rfl
@[go_sem] theorem info_96 : (Tryz.prog.info? 96).isSome = true := by kernel_rfl
@[go_sem] theorem cells_96 : Tryz.prog.cellsOf 96 = 2 := by kernel_rfl
@[go_sem] theorem agg_96 : isAggT Tryz.prog 96 = true := by kernel_rfl
@[go_sem] theorem flat_96 : flatTy Tryz.prog 96 = true := by kernel_rfl
@[go_sem] theorem zeroT_96 : zeroT Tryz.prog 96 = some [.d (.v (.int .i64 0)), .d (.v (.int .u64 0))] := by kernel_rfl
@[go_sem] theorem zeroD_96 : zeroD Tryz.prog 96 = some [.v (.int .i64 0), .v (.int .u64 0)] := by kernel_rfl
@[go_sem] theorem zrow_96 : zrow Tryz.prog 96 = [.v (.int .i64 0), .v (.int .u64 0)] := by kernel_rfl
@[go_sem] theorem eq_96 (op : BinOp) (x0 y0 : Int) (x1 y1 : Int) (K : Go.Ax.T → Prop) : eqAgg Tryz.prog op 96 [.v (.int .i64 x0), .v (.int .u64 x1)] [.v (.int .i64 y0), .v (.int .u64 y1)] K = match op with | .eql => K (.one (.v (.bool (x0 == y0 && x1 == y1)))) | .neq => K (.one (.v (.bool (!(x0 == y0 && x1 == y1))))) | _ => False :=
  eqAgg_deep und_96 (by kernel_rfl) (ks := [.int .i64, .int .u64]) (by kernel_rfl) (xs := [.int .i64 x0, .int .u64 x1]) (ys := [.int .i64 y0, .int .u64 y1]) (by kernel_rfl) (by kernel_rfl) op K
@[go_sem] theorem places_96 : placesT Tryz.prog 96 = some [(0, 1), (1, 1)] := by kernel_rfl
@[go_sem] theorem und_97 : Tryz.prog.underlying 97 = some (.struct #[⟨"Hi", 2, 0, false, "", "", 0⟩, ⟨"Lo", 95, 1, false, "", "", 8⟩]) := by kernel_rfl
@[go_sem] theorem info_97 : (Tryz.prog.info? 97).isSome = true := by kernel_rfl
@[go_sem] theorem cells_97 : Tryz.prog.cellsOf 97 = 2 := by kernel_rfl
@[go_sem] theorem agg_97 : isAggT Tryz.prog 97 = true := by kernel_rfl
@[go_sem] theorem flat_97 : flatTy Tryz.prog 97 = true := by kernel_rfl
@[go_sem] theorem zeroT_97 : zeroT Tryz.prog 97 = some [.d (.v (.int .i64 0)), .d (.v (.int .u64 0))] := by kernel_rfl
@[go_sem] theorem zeroD_97 : zeroD Tryz.prog 97 = some [.v (.int .i64 0), .v (.int .u64 0)] := by kernel_rfl
@[go_sem] theorem zrow_97 : zrow Tryz.prog 97 = [.v (.int .i64 0), .v (.int .u64 0)] := by kernel_rfl
@[go_sem] theorem eq_97 (op : BinOp) (x0 y0 : Int) (x1 y1 : Int) (K : Go.Ax.T → Prop) : eqAgg Tryz.prog op 97 [.v (.int .i64 x0), .v (.int .u64 x1)] [.v (.int .i64 y0), .v (.int .u64 y1)] K = match op with | .eql => K (.one (.v (.bool (x0 == y0 && x1 == y1)))) | .neq => K (.one (.v (.bool (!(x0 == y0 && x1 == y1))))) | _ => False :=
  eqAgg_deep und_97 (by kernel_rfl) (ks := [.int .i64, .int .u64]) (by kernel_rfl) (xs := [.int .i64 x0, .int .u64 x1]) (ys := [.int .i64 y0, .int .u64 y1]) (by kernel_rfl) (by kernel_rfl) op K
@[go_sem] theorem places_97 : placesT Tryz.prog 97 = some [(0, 1), (1, 1)] := by kernel_rfl
@[go_sem] theorem und_110 : Tryz.prog.underlying 110 = some (.slice 95) := by kernel_rfl
@[go_sem] theorem info_110 : (Tryz.prog.info? 110).isSome = true := by kernel_rfl
@[go_sem] theorem cells_110 : Tryz.prog.cellsOf 110 = 1 := by kernel_rfl
@[go_sem] theorem agg_110 : isAggT Tryz.prog 110 = false := by kernel_rfl
@[go_sem] theorem flat_110 : flatTy Tryz.prog 110 = false := by kernel_rfl
@[go_sem] theorem zeroT_110 : zeroT Tryz.prog 110 = some [.own 0 []] := by kernel_rfl
@[go_sem] theorem zeroD_110 : zeroD Tryz.prog 110 = some [.l []] := by kernel_rfl
@[go_sem] theorem zrow_110 : zrow Tryz.prog 110 = [.l []] := by kernel_rfl
@[go_sem] theorem stride_110 : strideT Tryz.prog 110 = 1 := by kernel_rfl
@[go_sem] theorem elem_110 : elemT Tryz.prog 110 = some (95, 1, 8, [.v (.int .u64 0)]) := by kernel_rfl
@[go_sem] theorem und_111 : Tryz.prog.underlying 111 = some (.struct #[⟨"Neg", 4, 0, false, "", "", 0⟩, ⟨"D", 110, 1, false, "", "", 8⟩]) := by kernel_rfl
@[go_sem] theorem info_111 : (Tryz.prog.info? 111).isSome = true := by kernel_rfl
@[go_sem] theorem cells_111 : Tryz.prog.cellsOf 111 = 2 := by kernel_rfl
@[go_sem] theorem agg_111 : isAggT Tryz.prog 111 = true := by kernel_rfl
@[go_sem] theorem flat_111 : flatTy Tryz.prog 111 = false := by kernel_rfl
@[go_sem] theorem zeroT_111 : zeroT Tryz.prog 111 = some [.d (.v (.bool false)), .own 0 []] := by kernel_rfl
@[go_sem] theorem zeroD_111 : zeroD Tryz.prog 111 = some [.v (.bool false), .l []] := by kernel_rfl
@[go_sem] theorem zrow_111 : zrow Tryz.prog 111 = [.v (.bool false), .l []] := by kernel_rfl
@[go_sem] theorem places_111 : placesT Tryz.prog 111 = some [(0, 1), (1, 1)] := by kernel_rfl
@[go_sem] theorem und_112 : Tryz.prog.underlying 112 = some (.struct #[⟨"Neg", 4, 0, false, "", "", 0⟩, ⟨"D", 110, 1, false, "", "", 8⟩]) := by kernel_rfl
@[go_sem] theorem info_112 : (Tryz.prog.info? 112).isSome = true := by kernel_rfl
@[go_sem] theorem cells_112 : Tryz.prog.cellsOf 112 = 2 := by kernel_rfl
@[go_sem] theorem agg_112 : isAggT Tryz.prog 112 = true := by kernel_rfl
@[go_sem] theorem flat_112 : flatTy Tryz.prog 112 = false := by kernel_rfl
@[go_sem] theorem zeroT_112 : zeroT Tryz.prog 112 = some [.d (.v (.bool false)), .own 0 []] := by kernel_rfl
@[go_sem] theorem zeroD_112 : zeroD Tryz.prog 112 = some [.v (.bool false), .l []] := by kernel_rfl
@[go_sem] theorem zrow_112 : zrow Tryz.prog 112 = [.v (.bool false), .l []] := by kernel_rfl
@[go_sem] theorem places_112 : placesT Tryz.prog 112 = some [(0, 1), (1, 1)] := by kernel_rfl
@[go_sem] theorem und_123 : Tryz.prog.underlying 123 = some (.slice 4) := by kernel_rfl
@[go_sem] theorem info_123 : (Tryz.prog.info? 123).isSome = true := by kernel_rfl
@[go_sem] theorem cells_123 : Tryz.prog.cellsOf 123 = 1 := by kernel_rfl
@[go_sem] theorem agg_123 : isAggT Tryz.prog 123 = false := by kernel_rfl
@[go_sem] theorem flat_123 : flatTy Tryz.prog 123 = false := by kernel_rfl
@[go_sem] theorem zeroT_123 : zeroT Tryz.prog 123 = some [.own 0 []] := by kernel_rfl
@[go_sem] theorem zeroD_123 : zeroD Tryz.prog 123 = some [.l []] := by kernel_rfl
@[go_sem] theorem zrow_123 : zrow Tryz.prog 123 = [.l []] := by kernel_rfl
@[go_sem] theorem stride_123 : strideT Tryz.prog 123 = 1 := by kernel_rfl
@[go_sem] theorem elem_123 : elemT Tryz.prog 123 = some (4, 1, 1, [.v (.bool false)]) := by kernel_rfl
@[go_sem] theorem und_124 : Tryz.prog.underlying 124 = some (.struct #[⟨"Inst", 3, 0, false, "", "", 0⟩, ⟨"Q", 2, 1, false, "", "", 8⟩]) := by kernel_rfl
@[go_sem] theorem info_124 : (Tryz.prog.info? 124).isSome = true := by kernel_rfl
@[go_sem] theorem cells_124 : Tryz.prog.cellsOf 124 = 2 := by kernel_rfl
@[go_sem] theorem agg_124 : isAggT Tryz.prog 124 = true := by kernel_rfl
@[go_sem] theorem flat_124 : flatTy Tryz.prog 124 = true := by kernel_rfl
@[go_sem] theorem zeroT_124 : zeroT Tryz.prog 124 = some [.d (.v (.int .i64 0)), .d (.v (.int .i64 0))] := by kernel_rfl
@[go_sem] theorem zeroD_124 : zeroD Tryz.prog 124 = some [.v (.int .i64 0), .v (.int .i64 0)] := by kernel_rfl
@[go_sem] theorem zrow_124 : zrow Tryz.prog 124 = [.v (.int .i64 0), .v (.int .i64 0)] := by kernel_rfl
@[go_sem] theorem eq_124 (op : BinOp) (x0 y0 : Int) (x1 y1 : Int) (K : Go.Ax.T → Prop) : eqAgg Tryz.prog op 124 [.v (.int .i64 x0), .v (.int .i64 x1)] [.v (.int .i64 y0), .v (.int .i64 y1)] K = match op with | .eql => K (.one (.v (.bool (x0 == y0 && x1 == y1)))) | .neq => K (.one (.v (.bool (!(x0 == y0 && x1 == y1))))) | _ => False :=
  eqAgg_deep und_124 (by kernel_rfl) (ks := [.int .i64, .int .i64]) (by kernel_rfl) (xs := [.int .i64 x0, .int .i64 x1]) (ys := [.int .i64 y0, .int .i64 y1]) (by kernel_rfl) (by kernel_rfl) op K
@[go_sem] theorem places_124 : placesT Tryz.prog 124 = some [(0, 1), (1, 1)] := by kernel_rfl
@[go_sem] theorem und_125 : Tryz.prog.underlying 125 = some (.struct #[⟨"Inst", 3, 0, false, "", "", 0⟩, ⟨"Q", 2, 1, false, "", "", 8⟩]) := by kernel_rfl
@[go_sem] theorem info_125 : (Tryz.prog.info? 125).isSome = true := by kernel_rfl
@[go_sem] theorem cells_125 : Tryz.prog.cellsOf 125 = 2 := by kernel_rfl
@[go_sem] theorem agg_125 : isAggT Tryz.prog 125 = true := by kernel_rfl
@[go_sem] theorem flat_125 : flatTy Tryz.prog 125 = true := by kernel_rfl
@[go_sem] theorem zeroT_125 : zeroT Tryz.prog 125 = some [.d (.v (.int .i64 0)), .d (.v (.int .i64 0))] := by kernel_rfl
@[go_sem] theorem zeroD_125 : zeroD Tryz.prog 125 = some [.v (.int .i64 0), .v (.int .i64 0)] := by kernel_rfl
@[go_sem] theorem zrow_125 : zrow Tryz.prog 125 = [.v (.int .i64 0), .v (.int .i64 0)] := by kernel_rfl
@[go_sem] theorem eq_125 (op : BinOp) (x0 y0 : Int) (x1 y1 : Int) (K : Go.Ax.T → Prop) : eqAgg Tryz.prog op 125 [.v (.int .i64 x0), .v (.int .i64 x1)] [.v (.int .i64 y0), .v (.int .i64 y1)] K = match op with | .eql => K (.one (.v (.bool (x0 == y0 && x1 == y1)))) | .neq => K (.one (.v (.bool (!(x0 == y0 && x1 == y1))))) | _ => False :=
  eqAgg_deep und_125 (by kernel_rfl) (ks := [.int .i64, .int .i64]) (by kernel_rfl) (xs := [.int .i64 x0, .int .i64 x1]) (ys := [.int .i64 y0, .int .i64 y1]) (by kernel_rfl) (by kernel_rfl) op K
@[go_sem] theorem places_125 : placesT Tryz.prog 125 = some [(0, 1), (1, 1)] := by kernel_rfl
@[go_sem] theorem und_142 : Tryz.prog.underlying 142 = some (.slice 198) := by kernel_rfl
@[go_sem] theorem info_142 : (Tryz.prog.info? 142).isSome = true := by kernel_rfl
@[go_sem] theorem cells_142 : Tryz.prog.cellsOf 142 = 1 := by kernel_rfl
@[go_sem] theorem agg_142 : isAggT Tryz.prog 142 = false := by kernel_rfl
@[go_sem] theorem flat_142 : flatTy Tryz.prog 142 = false := by kernel_rfl
@[go_sem] theorem zeroT_142 : zeroT Tryz.prog 142 = some [.own 0 []] := by kernel_rfl
@[go_sem] theorem zeroD_142 : zeroD Tryz.prog 142 = some [.l []] := by kernel_rfl
@[go_sem] theorem zrow_142 : zrow Tryz.prog 142 = [.l []] := by kernel_rfl
@[go_sem] theorem stride_142 : strideT Tryz.prog 142 = 3 := by kernel_rfl
@[go_sem] theorem elem_142 : elemT Tryz.prog 142 = some (198, 3, 24, [.v (.int .i64 0), .v (.int .i64 0), .v (.int .i64 0)]) := by kernel_rfl
@[go_sem] theorem und_155 : Tryz.prog.underlying 155 = some (.struct #[⟨"Id", 2, 0, false, "", "", 0⟩, ⟨"Acc", 3, 1, false, "", "", 8⟩, ⟨"Inst", 3, 2, false, "", "", 16⟩, ⟨"Side", 3, 3, false, "", "", 24⟩, ⟨"Q", 2, 4, false, "", "", 32⟩, ⟨"P", 2, 5, false, "", "", 40⟩]) := by kernel_rfl
@[go_sem] theorem info_155 : (Tryz.prog.info? 155).isSome = true := by kernel_rfl
@[go_sem] theorem cells_155 : Tryz.prog.cellsOf 155 = 6 := by kernel_rfl
@[go_sem] theorem agg_155 : isAggT Tryz.prog 155 = true := by kernel_rfl
@[go_sem] theorem flat_155 : flatTy Tryz.prog 155 = true := by kernel_rfl
@[go_sem] theorem zeroT_155 : zeroT Tryz.prog 155 = some [.d (.v (.int .i64 0)), .d (.v (.int .i64 0)), .d (.v (.int .i64 0)), .d (.v (.int .i64 0)), .d (.v (.int .i64 0)), .d (.v (.int .i64 0))] := by kernel_rfl
@[go_sem] theorem zeroD_155 : zeroD Tryz.prog 155 = some [.v (.int .i64 0), .v (.int .i64 0), .v (.int .i64 0), .v (.int .i64 0), .v (.int .i64 0), .v (.int .i64 0)] := by kernel_rfl
@[go_sem] theorem zrow_155 : zrow Tryz.prog 155 = [.v (.int .i64 0), .v (.int .i64 0), .v (.int .i64 0), .v (.int .i64 0), .v (.int .i64 0), .v (.int .i64 0)] := by kernel_rfl
@[go_sem] theorem eq_155 (op : BinOp) (x0 y0 : Int) (x1 y1 : Int) (x2 y2 : Int) (x3 y3 : Int) (x4 y4 : Int) (x5 y5 : Int) (K : Go.Ax.T → Prop) : eqAgg Tryz.prog op 155 [.v (.int .i64 x0), .v (.int .i64 x1), .v (.int .i64 x2), .v (.int .i64 x3), .v (.int .i64 x4), .v (.int .i64 x5)] [.v (.int .i64 y0), .v (.int .i64 y1), .v (.int .i64 y2), .v (.int .i64 y3), .v (.int .i64 y4), .v (.int .i64 y5)] K = match op with | .eql => K (.one (.v (.bool (x0 == y0 && (x1 == y1 && (x2 == y2 && (x3 == y3 && (x4 == y4 && x5 == y5)))))))) | .neq => K (.one (.v (.bool (!(x0 == y0 && (x1 == y1 && (x2 == y2 && (x3 == y3 && (x4 == y4 && x5 == y5))))))))) | _ => False :=
  eqAgg_deep und_155 (by kernel_rfl) (ks := [.int .i64, .int .i64, .int .i64, .int .i64, .int .i64, .int .i64]) (by kernel_rfl) (xs := [.int .i64 x0, .int .i64 x1, .int .i64 x2, .int .i64 x3, .int .i64 x4, .int .i64 x5]) (ys := [.int .i64 y0, .int .i64 y1, .int .i64 y2, .int .i64 y3, .int .i64 y4, .int .i64 y5]) (by kernel_rfl) (by kernel_rfl) op K
@[go_sem] theorem places_155 : placesT Tryz.prog 155 = some [(0, 1), (1, 1), (2, 1), (3, 1), (4, 1), (5, 1)] := by kernel_rfl
@[go_sem] theorem und_156 : Tryz.prog.underlying 156 = some (.struct #[⟨"Id", 2, 0, false, "", "", 0⟩, ⟨"Acc", 3, 1, false, "", "", 8⟩, ⟨"Inst", 3, 2, false, "", "", 16⟩, ⟨"Side", 3, 3, false, "", "", 24⟩, ⟨"Q", 2, 4, false, "", "", 32⟩, ⟨"P", 2, 5, false, "", "", 40⟩]) := by kernel_rfl
@[go_sem] theorem info_156 : (Tryz.prog.info? 156).isSome = true := by kernel_rfl
@[go_sem] theorem cells_156 : Tryz.prog.cellsOf 156 = 6 := by kernel_rfl
@[go_sem] theorem agg_156 : isAggT Tryz.prog 156 = true := by kernel_rfl
@[go_sem] theorem flat_156 : flatTy Tryz.prog 156 = true := by kernel_rfl
@[go_sem] theorem zeroT_156 : zeroT Tryz.prog 156 = some [.d (.v (.int .i64 0)), .d (.v (.int .i64 0)), .d (.v (.int .i64 0)), .d (.v (.int .i64 0)), .d (.v (.int .i64 0)), .d (.v (.int .i64 0))] := by kernel_rfl
@[go_sem] theorem zeroD_156 : zeroD Tryz.prog 156 = some [.v (.int .i64 0), .v (.int .i64 0), .v (.int .i64 0), .v (.int .i64 0), .v (.int .i64 0), .v (.int .i64 0)] := by kernel_rfl
@[go_sem] theorem zrow_156 : zrow Tryz.prog 156 = [.v (.int .i64 0), .v (.int .i64 0), .v (.int .i64 0), .v (.int .i64 0), .v (.int .i64 0), .v (.int .i64 0)] := by kernel_rfl
@[go_sem] theorem eq_156 (op : BinOp) (x0 y0 : Int) (x1 y1 : Int) (x2 y2 : Int) (x3 y3 : Int) (x4 y4 : Int) (x5 y5 : Int) (K : Go.Ax.T → Prop) : eqAgg Tryz.prog op 156 [.v (.int .i64 x0), .v (.int .i64 x1), .v (.int .i64 x2), .v (.int .i64 x3), .v (.int .i64 x4), .v (.int .i64 x5)] [.v (.int .i64 y0), .v (.int .i64 y1), .v (.int .i64 y2), .v (.int .i64 y3), .v (.int .i64 y4), .v (.int .i64 y5)] K = match op with | .eql => K (.one (.v (.bool (x0 == y0 && (x1 == y1 && (x2 == y2 && (x3 == y3 && (x4 == y4 && x5 == y5)))))))) | .neq => K (.one (.v (.bool (!(x0 == y0 && (x1 == y1 && (x2 == y2 && (x3 == y3 && (x4 == y4 && x5 == y5))))))))) | _ => False :=
  eqAgg_deep und_156 (by kernel_rfl) (ks := [.int .i64, .int .i64, .int .i64, .int .i64, .int .i64, .int .i64]) (by kernel_rfl) (xs := [.int .i64 x0, .int .i64 x1, .int .i64 x2, .int .i64 x3, .int .i64 x4, .int .i64 x5]) (ys := [.int .i64 y0, .int .i64 y1, .int .i64 y2, .int .i64 y3, .int .i64 y4, .int .i64 y5]) (by kernel_rfl) (by kernel_rfl) op K
@[go_sem] theorem places_156 : placesT Tryz.prog 156 = some [(0, 1), (1, 1), (2, 1), (3, 1), (4, 1), (5, 1)] := by kernel_rfl
@[go_sem] theorem und_174 : Tryz.prog.underlying 174 = some (.struct #[⟨"Id", 2, 0, false, "", "", 0⟩, ⟨"Inst", 3, 1, false, "", "", 8⟩, ⟨"Side", 3, 2, false, "", "", 16⟩, ⟨"Q", 2, 3, false, "", "", 24⟩]) := by kernel_rfl
@[go_sem] theorem info_174 : (Tryz.prog.info? 174).isSome = true := by kernel_rfl
@[go_sem] theorem cells_174 : Tryz.prog.cellsOf 174 = 4 := by kernel_rfl
@[go_sem] theorem agg_174 : isAggT Tryz.prog 174 = true := by kernel_rfl
@[go_sem] theorem flat_174 : flatTy Tryz.prog 174 = true := by kernel_rfl
@[go_sem] theorem zeroT_174 : zeroT Tryz.prog 174 = some [.d (.v (.int .i64 0)), .d (.v (.int .i64 0)), .d (.v (.int .i64 0)), .d (.v (.int .i64 0))] := by kernel_rfl
@[go_sem] theorem zeroD_174 : zeroD Tryz.prog 174 = some [.v (.int .i64 0), .v (.int .i64 0), .v (.int .i64 0), .v (.int .i64 0)] := by kernel_rfl
@[go_sem] theorem zrow_174 : zrow Tryz.prog 174 = [.v (.int .i64 0), .v (.int .i64 0), .v (.int .i64 0), .v (.int .i64 0)] := by kernel_rfl
@[go_sem] theorem eq_174 (op : BinOp) (x0 y0 : Int) (x1 y1 : Int) (x2 y2 : Int) (x3 y3 : Int) (K : Go.Ax.T → Prop) : eqAgg Tryz.prog op 174 [.v (.int .i64 x0), .v (.int .i64 x1), .v (.int .i64 x2), .v (.int .i64 x3)] [.v (.int .i64 y0), .v (.int .i64 y1), .v (.int .i64 y2), .v (.int .i64 y3)] K = match op with | .eql => K (.one (.v (.bool (x0 == y0 && (x1 == y1 && (x2 == y2 && x3 == y3)))))) | .neq => K (.one (.v (.bool (!(x0 == y0 && (x1 == y1 && (x2 == y2 && x3 == y3))))))) | _ => False :=
  eqAgg_deep und_174 (by kernel_rfl) (ks := [.int .i64, .int .i64, .int .i64, .int .i64]) (by kernel_rfl) (xs := [.int .i64 x0, .int .i64 x1, .int .i64 x2, .int .i64 x3]) (ys := [.int .i64 y0, .int .i64 y1, .int .i64 y2, .int .i64 y3]) (by kernel_rfl) (by kernel_rfl) op K
@[go_sem] theorem places_174 : placesT Tryz.prog 174 = some [(0, 1), (1, 1), (2, 1), (3, 1)] := by kernel_rfl
@[go_sem] theorem und_175 : Tryz.prog.underlying 175 = some (.struct #[⟨"Id", 2, 0, false, "", "", 0⟩, ⟨"Inst", 3, 1, false, "", "", 8⟩, ⟨"Side", 3, 2, false, "", "", 16⟩, ⟨"Q", 2, 3, false, "", "", 24⟩]) := by kernel_rfl
@[go_sem] theorem info_175 : (Tryz.prog.info? 175).isSome = true := by kernel_rfl
@[go_sem] theorem cells_175 : Tryz.prog.cellsOf 175 = 4 := by kernel_rfl
@[go_sem] theorem agg_175 : isAggT Tryz.prog 175 = true := by kernel_rfl
@[go_sem] theorem flat_175 : flatTy Tryz.prog 175 = true := by kernel_rfl
@[go_sem] theorem zeroT_175 : zeroT Tryz.prog 175 = some [.d (.v (.int .i64 0)), .d (.v (.int .i64 0)), .d (.v (.int .i64 0)), .d (.v (.int .i64 0))] := by kernel_rfl
@[go_sem] theorem zeroD_175 : zeroD Tryz.prog 175 = some [.v (.int .i64 0), .v (.int .i64 0), .v (.int .i64 0), .v (.int .i64 0)] := by kernel_rfl
@[go_sem] theorem zrow_175 : zrow Tryz.prog 175 = [.v (.int .i64 0), .v (.int .i64 0), .v (.int .i64 0), .v (.int .i64 0)] := by kernel_rfl
@[go_sem] theorem eq_175 (op : BinOp) (x0 y0 : Int) (x1 y1 : Int) (x2 y2 : Int) (x3 y3 : Int) (K : Go.Ax.T → Prop) : eqAgg Tryz.prog op 175 [.v (.int .i64 x0), .v (.int .i64 x1), .v (.int .i64 x2), .v (.int .i64 x3)] [.v (.int .i64 y0), .v (.int .i64 y1), .v (.int .i64 y2), .v (.int .i64 y3)] K = match op with | .eql => K (.one (.v (.bool (x0 == y0 && (x1 == y1 && (x2 == y2 && x3 == y3)))))) | .neq => K (.one (.v (.bool (!(x0 == y0 && (x1 == y1 && (x2 == y2 && x3 == y3))))))) | _ => False :=
  eqAgg_deep und_175 (by kernel_rfl) (ks := [.int .i64, .int .i64, .int .i64, .int .i64]) (by kernel_rfl) (xs := [.int .i64 x0, .int .i64 x1, .int .i64 x2, .int .i64 x3]) (ys := [.int .i64 y0, .int .i64 y1, .int .i64 y2, .int .i64 y3]) (by kernel_rfl) (by kernel_rfl) op K
@[go_sem] theorem places_175 : placesT Tryz.prog 175 = some [(0, 1), (1, 1), (2, 1), (3, 1)] := by kernel_rfl
@[go_sem] theorem und_179 : Tryz.prog.underlying 179 = some (.struct #[⟨"Member", 3, 0, false, "", "", 0⟩, ⟨"Class", 3, 1, false, "", "", 8⟩]) := by kernel_rfl
@[go_sem] theorem info_179 : (Tryz.prog.info? 179).isSome = true := by kernel_rfl
@[go_sem] theorem cells_179 : Tryz.prog.cellsOf 179 = 2 := by kernel_rfl
@[go_sem] theorem agg_179 : isAggT Tryz.prog 179 = true := by kernel_rfl
@[go_sem] theorem flat_179 : flatTy Tryz.prog 179 = true := by kernel_rfl
@[go_sem] theorem zeroT_179 : zeroT Tryz.prog 179 = some [.d (.v (.int .i64 0)), .d (.v (.int .i64 0))] := by kernel_rfl
@[go_sem] theorem zeroD_179 : zeroD Tryz.prog 179 = some [.v (.int .i64 0), .v (.int .i64 0)] := by kernel_rfl
@[go_sem] theorem zrow_179 : zrow Tryz.prog 179 = [.v (.int .i64 0), .v (.int .i64 0)] := by kernel_rfl
@[go_sem] theorem eq_179 (op : BinOp) (x0 y0 : Int) (x1 y1 : Int) (K : Go.Ax.T → Prop) : eqAgg Tryz.prog op 179 [.v (.int .i64 x0), .v (.int .i64 x1)] [.v (.int .i64 y0), .v (.int .i64 y1)] K = match op with | .eql => K (.one (.v (.bool (x0 == y0 && x1 == y1)))) | .neq => K (.one (.v (.bool (!(x0 == y0 && x1 == y1))))) | _ => False :=
  eqAgg_deep und_179 (by kernel_rfl) (ks := [.int .i64, .int .i64]) (by kernel_rfl) (xs := [.int .i64 x0, .int .i64 x1]) (ys := [.int .i64 y0, .int .i64 y1]) (by kernel_rfl) (by kernel_rfl) op K
@[go_sem] theorem places_179 : placesT Tryz.prog 179 = some [(0, 1), (1, 1)] := by kernel_rfl
@[go_sem] theorem und_180 : Tryz.prog.underlying 180 = some (.struct #[⟨"Member", 3, 0, false, "", "", 0⟩, ⟨"Class", 3, 1, false, "", "", 8⟩]) := by kernel_rfl
@[go_sem] theorem info_180 : (Tryz.prog.info? 180).isSome = true := by kernel_rfl
@[go_sem] theorem cells_180 : Tryz.prog.cellsOf 180 = 2 := by kernel_rfl
@[go_sem] theorem agg_180 : isAggT Tryz.prog 180 = true := by kernel_rfl
@[go_sem] theorem flat_180 : flatTy Tryz.prog 180 = true := by kernel_rfl
@[go_sem] theorem zeroT_180 : zeroT Tryz.prog 180 = some [.d (.v (.int .i64 0)), .d (.v (.int .i64 0))] := by kernel_rfl
@[go_sem] theorem zeroD_180 : zeroD Tryz.prog 180 = some [.v (.int .i64 0), .v (.int .i64 0)] := by kernel_rfl
@[go_sem] theorem zrow_180 : zrow Tryz.prog 180 = [.v (.int .i64 0), .v (.int .i64 0)] := by kernel_rfl
@[go_sem] theorem eq_180 (op : BinOp) (x0 y0 : Int) (x1 y1 : Int) (K : Go.Ax.T → Prop) : eqAgg Tryz.prog op 180 [.v (.int .i64 x0), .v (.int .i64 x1)] [.v (.int .i64 y0), .v (.int .i64 y1)] K = match op with | .eql => K (.one (.v (.bool (x0 == y0 && x1 == y1)))) | .neq => K (.one (.v (.bool (!(x0 == y0 && x1 == y1))))) | _ => False :=
  eqAgg_deep und_180 (by kernel_rfl) (ks := [.int .i64, .int .i64]) (by kernel_rfl) (xs := [.int .i64 x0, .int .i64 x1]) (ys := [.int .i64 y0, .int .i64 y1]) (by kernel_rfl) (by kernel_rfl) op K
@[go_sem] theorem places_180 : placesT Tryz.prog 180 = some [(0, 1), (1, 1)] := by kernel_rfl
@[go_sem] theorem und_181 : Tryz.prog.underlying 181 = some (.struct #[⟨"Acc", 3, 0, false, "", "", 0⟩, ⟨"X", 2, 1, false, "", "", 8⟩]) := by kernel_rfl
@[go_sem] theorem info_181 : (Tryz.prog.info? 181).isSome = true := by kernel_rfl
@[go_sem] theorem cells_181 : Tryz.prog.cellsOf 181 = 2 := by kernel_rfl
@[go_sem] theorem agg_181 : isAggT Tryz.prog 181 = true := by kernel_rfl
@[go_sem] theorem flat_181 : flatTy Tryz.prog 181 = true := by kernel_rfl
@[go_sem] theorem zeroT_181 : zeroT Tryz.prog 181 = some [.d (.v (.int .i64 0)), .d (.v (.int .i64 0))] := by kernel_rfl
@[go_sem] theorem zeroD_181 : zeroD Tryz.prog 181 = some [.v (.int .i64 0), .v (.int .i64 0)] := by kernel_rfl
@[go_sem] theorem zrow_181 : zrow Tryz.prog 181 = [.v (.int .i64 0), .v (.int .i64 0)] := by kernel_rfl
@[go_sem] theorem eq_181 (op : BinOp) (x0 y0 : Int) (x1 y1 : Int) (K : Go.Ax.T → Prop) : eqAgg Tryz.prog op 181 [.v (.int .i64 x0), .v (.int .i64 x1)] [.v (.int .i64 y0), .v (.int .i64 y1)] K = match op with | .eql => K (.one (.v (.bool (x0 == y0 && x1 == y1)))) | .neq => K (.one (.v (.bool (!(x0 == y0 && x1 == y1))))) | _ => False :=
  eqAgg_deep und_181 (by kernel_rfl) (ks := [.int .i64, .int .i64]) (by kernel_rfl) (xs := [.int .i64 x0, .int .i64 x1]) (ys := [.int .i64 y0, .int .i64 y1]) (by kernel_rfl) (by kernel_rfl) op K
@[go_sem] theorem places_181 : placesT Tryz.prog 181 = some [(0, 1), (1, 1)] := by kernel_rfl
@[go_sem] theorem und_182 : Tryz.prog.underlying 182 = some (.struct #[⟨"Acc", 3, 0, false, "", "", 0⟩, ⟨"X", 2, 1, false, "", "", 8⟩]) := by kernel_rfl
@[go_sem] theorem info_182 : (Tryz.prog.info? 182).isSome = true := by kernel_rfl
@[go_sem] theorem cells_182 : Tryz.prog.cellsOf 182 = 2 := by kernel_rfl
@[go_sem] theorem agg_182 : isAggT Tryz.prog 182 = true := by kernel_rfl
@[go_sem] theorem flat_182 : flatTy Tryz.prog 182 = true := by kernel_rfl
@[go_sem] theorem zeroT_182 : zeroT Tryz.prog 182 = some [.d (.v (.int .i64 0)), .d (.v (.int .i64 0))] := by kernel_rfl
@[go_sem] theorem zeroD_182 : zeroD Tryz.prog 182 = some [.v (.int .i64 0), .v (.int .i64 0)] := by kernel_rfl
@[go_sem] theorem zrow_182 : zrow Tryz.prog 182 = [.v (.int .i64 0), .v (.int .i64 0)] := by kernel_rfl
@[go_sem] theorem eq_182 (op : BinOp) (x0 y0 : Int) (x1 y1 : Int) (K : Go.Ax.T → Prop) : eqAgg Tryz.prog op 182 [.v (.int .i64 x0), .v (.int .i64 x1)] [.v (.int .i64 y0), .v (.int .i64 y1)] K = match op with | .eql => K (.one (.v (.bool (x0 == y0 && x1 == y1)))) | .neq => K (.one (.v (.bool (!(x0 == y0 && x1 == y1))))) | _ => False :=
  eqAgg_deep und_182 (by kernel_rfl) (ks := [.int .i64, .int .i64]) (by kernel_rfl) (xs := [.int .i64 x0, .int .i64 x1]) (ys := [.int .i64 y0, .int .i64 y1]) (by kernel_rfl) (by kernel_rfl) op K
@[go_sem] theorem places_182 : placesT Tryz.prog 182 = some [(0, 1), (1, 1)] := by kernel_rfl
@[go_sem] theorem und_186 : Tryz.prog.underlying 186 = some (.int .u64) := by kernel_rfl
@[go_sem] theorem info_186 : (Tryz.prog.info? 186).isSome = true := by kernel_rfl
@[go_sem] theorem cells_186 : Tryz.prog.cellsOf 186 = 1 := by kernel_rfl
@[go_sem] theorem agg_186 : isAggT Tryz.prog 186 = false := by kernel_rfl
@[go_sem] theorem flat_186 : flatTy Tryz.prog 186 = true := by kernel_rfl
@[go_sem] theorem zeroT_186 : zeroT Tryz.prog 186 = some [.d (.v (.int .u64 0))] := by kernel_rfl
@[go_sem] theorem zeroD_186 : zeroD Tryz.prog 186 = some [.v (.int .u64 0)] := by kernel_rfl
@[go_sem] theorem zrow_186 : zrow Tryz.prog 186 = [.v (.int .u64 0)] := by kernel_rfl
@[go_sem] theorem und_193 : Tryz.prog.underlying 193 = some (.slice 97) := by kernel_rfl
@[go_sem] theorem info_193 : (Tryz.prog.info? 193).isSome = true := by kernel_rfl
@[go_sem] theorem cells_193 : Tryz.prog.cellsOf 193 = 1 := by kernel_rfl
@[go_sem] theorem agg_193 : isAggT Tryz.prog 193 = false := by kernel_rfl
@[go_sem] theorem flat_193 : flatTy Tryz.prog 193 = false := by kernel_rfl
@[go_sem] theorem zeroT_193 : zeroT Tryz.prog 193 = some [.own 0 []] := by kernel_rfl
@[go_sem] theorem zeroD_193 : zeroD Tryz.prog 193 = some [.l []] := by kernel_rfl
@[go_sem] theorem zrow_193 : zrow Tryz.prog 193 = [.l []] := by kernel_rfl
@[go_sem] theorem stride_193 : strideT Tryz.prog 193 = 2 := by kernel_rfl
@[go_sem] theorem elem_193 : elemT Tryz.prog 193 = some (97, 2, 16, [.v (.int .i64 0), .v (.int .u64 0)]) := by kernel_rfl
@[go_sem] theorem und_197 : Tryz.prog.underlying 197 = some (.struct #[⟨"Inst", 3, 0, false, "", "", 0⟩, ⟨"Buy", 2, 1, false, "", "", 8⟩, ⟨"Sell", 2, 2, false, "", "", 16⟩]) := by kernel_rfl
@[go_sem] theorem info_197 : (Tryz.prog.info? 197).isSome = true := by kernel_rfl
@[go_sem] theorem cells_197 : Tryz.prog.cellsOf 197 = 3 := by kernel_rfl
@[go_sem] theorem agg_197 : isAggT Tryz.prog 197 = true := by kernel_rfl
@[go_sem] theorem flat_197 : flatTy Tryz.prog 197 = true := by kernel_rfl
@[go_sem] theorem zeroT_197 : zeroT Tryz.prog 197 = some [.d (.v (.int .i64 0)), .d (.v (.int .i64 0)), .d (.v (.int .i64 0))] := by kernel_rfl
@[go_sem] theorem zeroD_197 : zeroD Tryz.prog 197 = some [.v (.int .i64 0), .v (.int .i64 0), .v (.int .i64 0)] := by kernel_rfl
@[go_sem] theorem zrow_197 : zrow Tryz.prog 197 = [.v (.int .i64 0), .v (.int .i64 0), .v (.int .i64 0)] := by kernel_rfl
@[go_sem] theorem eq_197 (op : BinOp) (x0 y0 : Int) (x1 y1 : Int) (x2 y2 : Int) (K : Go.Ax.T → Prop) : eqAgg Tryz.prog op 197 [.v (.int .i64 x0), .v (.int .i64 x1), .v (.int .i64 x2)] [.v (.int .i64 y0), .v (.int .i64 y1), .v (.int .i64 y2)] K = match op with | .eql => K (.one (.v (.bool (x0 == y0 && (x1 == y1 && x2 == y2))))) | .neq => K (.one (.v (.bool (!(x0 == y0 && (x1 == y1 && x2 == y2)))))) | _ => False :=
  eqAgg_deep und_197 (by kernel_rfl) (ks := [.int .i64, .int .i64, .int .i64]) (by kernel_rfl) (xs := [.int .i64 x0, .int .i64 x1, .int .i64 x2]) (ys := [.int .i64 y0, .int .i64 y1, .int .i64 y2]) (by kernel_rfl) (by kernel_rfl) op K
@[go_sem] theorem places_197 : placesT Tryz.prog 197 = some [(0, 1), (1, 1), (2, 1)] := by kernel_rfl
@[go_sem] theorem und_198 : Tryz.prog.underlying 198 = some (.struct #[⟨"Inst", 3, 0, false, "", "", 0⟩, ⟨"Buy", 2, 1, false, "", "", 8⟩, ⟨"Sell", 2, 2, false, "", "", 16⟩]) := by kernel_rfl
@[go_sem] theorem info_198 : (Tryz.prog.info? 198).isSome = true := by kernel_rfl
@[go_sem] theorem cells_198 : Tryz.prog.cellsOf 198 = 3 := by kernel_rfl
@[go_sem] theorem agg_198 : isAggT Tryz.prog 198 = true := by kernel_rfl
@[go_sem] theorem flat_198 : flatTy Tryz.prog 198 = true := by kernel_rfl
@[go_sem] theorem zeroT_198 : zeroT Tryz.prog 198 = some [.d (.v (.int .i64 0)), .d (.v (.int .i64 0)), .d (.v (.int .i64 0))] := by kernel_rfl
@[go_sem] theorem zeroD_198 : zeroD Tryz.prog 198 = some [.v (.int .i64 0), .v (.int .i64 0), .v (.int .i64 0)] := by kernel_rfl
@[go_sem] theorem zrow_198 : zrow Tryz.prog 198 = [.v (.int .i64 0), .v (.int .i64 0), .v (.int .i64 0)] := by kernel_rfl
@[go_sem] theorem eq_198 (op : BinOp) (x0 y0 : Int) (x1 y1 : Int) (x2 y2 : Int) (K : Go.Ax.T → Prop) : eqAgg Tryz.prog op 198 [.v (.int .i64 x0), .v (.int .i64 x1), .v (.int .i64 x2)] [.v (.int .i64 y0), .v (.int .i64 y1), .v (.int .i64 y2)] K = match op with | .eql => K (.one (.v (.bool (x0 == y0 && (x1 == y1 && x2 == y2))))) | .neq => K (.one (.v (.bool (!(x0 == y0 && (x1 == y1 && x2 == y2)))))) | _ => False :=
  eqAgg_deep und_198 (by kernel_rfl) (ks := [.int .i64, .int .i64, .int .i64]) (by kernel_rfl) (xs := [.int .i64 x0, .int .i64 x1, .int .i64 x2]) (ys := [.int .i64 y0, .int .i64 y1, .int .i64 y2]) (by kernel_rfl) (by kernel_rfl) op K
@[go_sem] theorem places_198 : placesT Tryz.prog 198 = some [(0, 1), (1, 1), (2, 1)] := by kernel_rfl
@[go_sem] theorem und_210 : Tryz.prog.underlying 210 = some (.array 13 4) := by kernel_rfl
@[go_sem] theorem info_210 : (Tryz.prog.info? 210).isSome = true := by kernel_rfl
@[go_sem] theorem cells_210 : Tryz.prog.cellsOf 210 = 13 := by kernel_rfl
@[go_sem] theorem agg_210 : isAggT Tryz.prog 210 = true := by kernel_rfl
@[go_sem] theorem flat_210 : flatTy Tryz.prog 210 = true := by kernel_rfl
@[go_sem] theorem zeroT_210 : zeroT Tryz.prog 210 = some [.d (.v (.bool false)), .d (.v (.bool false)), .d (.v (.bool false)), .d (.v (.bool false)), .d (.v (.bool false)), .d (.v (.bool false)), .d (.v (.bool false)), .d (.v (.bool false)), .d (.v (.bool false)), .d (.v (.bool false)), .d (.v (.bool false)), .d (.v (.bool false)), .d (.v (.bool false))] := by kernel_rfl
@[go_sem] theorem zeroD_210 : zeroD Tryz.prog 210 = some [.v (.bool false), .v (.bool false), .v (.bool false), .v (.bool false), .v (.bool false), .v (.bool false), .v (.bool false), .v (.bool false), .v (.bool false), .v (.bool false), .v (.bool false), .v (.bool false), .v (.bool false)] := by kernel_rfl
@[go_sem] theorem zrow_210 : zrow Tryz.prog 210 = [.v (.bool false), .v (.bool false), .v (.bool false), .v (.bool false), .v (.bool false), .v (.bool false), .v (.bool false), .v (.bool false), .v (.bool false), .v (.bool false), .v (.bool false), .v (.bool false), .v (.bool false)] := by kernel_rfl
@[go_sem] theorem places_210 : placesT Tryz.prog 210 = none := by kernel_rfl
@[go_sem] theorem arr_210 : arrT Tryz.prog 210 = some 1 := by kernel_rfl
@[go_sem] theorem und_226 : Tryz.prog.underlying 226 = some (.array 0 16) := by kernel_rfl
@[go_sem] theorem info_226 : (Tryz.prog.info? 226).isSome = true := by kernel_rfl
@[go_sem] theorem cells_226 : Tryz.prog.cellsOf 226 = 0 := by kernel_rfl
@[go_sem] theorem agg_226 : isAggT Tryz.prog 226 = true := by kernel_rfl
@[go_sem] theorem flat_226 : flatTy Tryz.prog 226 = true := by kernel_rfl
@[go_sem] theorem zeroT_226 : zeroT Tryz.prog 226 = some [] := by kernel_rfl
@[go_sem] theorem zeroD_226 : zeroD Tryz.prog 226 = some [] := by kernel_rfl
@[go_sem] theorem zrow_226 : zrow Tryz.prog 226 = [] := by kernel_rfl
@[go_sem] theorem places_226 : placesT Tryz.prog 226 = none := by kernel_rfl
@[go_sem] theorem arr_226 : arrT Tryz.prog 226 = some 1 := by kernel_rfl
@[go_sem] theorem und_231 : Tryz.prog.underlying 231 = some (.int .u8) := by kernel_rfl
@[go_sem] theorem info_231 : (Tryz.prog.info? 231).isSome = true := by kernel_rfl
@[go_sem] theorem cells_231 : Tryz.prog.cellsOf 231 = 1 := by kernel_rfl
@[go_sem] theorem agg_231 : isAggT Tryz.prog 231 = false := by kernel_rfl
@[go_sem] theorem flat_231 : flatTy Tryz.prog 231 = true := by kernel_rfl
@[go_sem] theorem zeroT_231 : zeroT Tryz.prog 231 = some [.d (.v (.int .u8 0))] := by kernel_rfl
@[go_sem] theorem zeroD_231 : zeroD Tryz.prog 231 = some [.v (.int .u8 0)] := by kernel_rfl
@[go_sem] theorem zrow_231 : zrow Tryz.prog 231 = [.v (.int .u8 0)] := by kernel_rfl
@[go_sem] theorem und_232 : Tryz.prog.underlying 232 = some (.int .u8) := by kernel_rfl
@[go_sem] theorem info_232 : (Tryz.prog.info? 232).isSome = true := by kernel_rfl
@[go_sem] theorem cells_232 : Tryz.prog.cellsOf 232 = 1 := by kernel_rfl
@[go_sem] theorem agg_232 : isAggT Tryz.prog 232 = false := by kernel_rfl
@[go_sem] theorem flat_232 : flatTy Tryz.prog 232 = true := by kernel_rfl
@[go_sem] theorem zeroT_232 : zeroT Tryz.prog 232 = some [.d (.v (.int .u8 0))] := by kernel_rfl
@[go_sem] theorem zeroD_232 : zeroD Tryz.prog 232 = some [.v (.int .u8 0)] := by kernel_rfl
@[go_sem] theorem zrow_232 : zrow Tryz.prog 232 = [.v (.int .u8 0)] := by kernel_rfl
@[go_sem] theorem und_237 : Tryz.prog.underlying 237 = some (.struct #[⟨"Size_", 12, 0, false, "", "", 0⟩, ⟨"PtrBytes", 12, 1, false, "", "", 8⟩, ⟨"Hash", 230, 2, false, "", "", 16⟩, ⟨"TFlag", 231, 3, false, "", "", 20⟩, ⟨"Align_", 5, 4, false, "", "", 21⟩, ⟨"FieldAlign_", 5, 5, false, "", "", 22⟩, ⟨"Kind_", 232, 6, false, "", "", 23⟩, ⟨"Equal", 233, 7, false, "", "", 24⟩, ⟨"GCData", 234, 8, false, "", "", 32⟩, ⟨"Str", 235, 9, false, "", "", 40⟩, ⟨"PtrToThis", 236, 10, false, "", "", 44⟩]) := by kernel_rfl
@[go_sem] theorem info_237 : (Tryz.prog.info? 237).isSome = true := by kernel_rfl
@[go_sem] theorem cells_237 : Tryz.prog.cellsOf 237 = 11 := by kernel_rfl
@[go_sem] theorem agg_237 : isAggT Tryz.prog 237 = true := by kernel_rfl
@[go_sem] theorem flat_237 : flatTy Tryz.prog 237 = false := by kernel_rfl
@[go_sem] theorem und_238 : Tryz.prog.underlying 238 = some (.struct #[⟨"Size_", 12, 0, false, "", "", 0⟩, ⟨"PtrBytes", 12, 1, false, "", "", 8⟩, ⟨"Hash", 230, 2, false, "", "", 16⟩, ⟨"TFlag", 231, 3, false, "", "", 20⟩, ⟨"Align_", 5, 4, false, "", "", 21⟩, ⟨"FieldAlign_", 5, 5, false, "", "", 22⟩, ⟨"Kind_", 232, 6, false, "", "", 23⟩, ⟨"Equal", 233, 7, false, "", "", 24⟩, ⟨"GCData", 234, 8, false, "", "", 32⟩, ⟨"Str", 235, 9, false, "", "", 40⟩, ⟨"PtrToThis", 236, 10, false, "", "", 44⟩]) := by kernel_rfl
@[go_sem] theorem info_238 : (Tryz.prog.info? 238).isSome = true := by kernel_rfl
@[go_sem] theorem cells_238 : Tryz.prog.cellsOf 238 = 11 := by kernel_rfl
@[go_sem] theorem agg_238 : isAggT Tryz.prog 238 = true := by kernel_rfl
@[go_sem] theorem flat_238 : flatTy Tryz.prog 238 = false := by kernel_rfl
@[go_sem] theorem und_239 : Tryz.prog.underlying 239 = some (.struct #[⟨"Step", 3, 0, false, "", "", 0⟩, ⟨"Kind", 3, 1, false, "", "", 8⟩, ⟨"N", 3, 2, false, "", "", 16⟩, ⟨"Cap", 2, 3, false, "", "", 24⟩, ⟨"Charge", 2, 4, false, "", "", 32⟩]) := by kernel_rfl
@[go_sem] theorem info_239 : (Tryz.prog.info? 239).isSome = true := by kernel_rfl
@[go_sem] theorem cells_239 : Tryz.prog.cellsOf 239 = 5 := by kernel_rfl
@[go_sem] theorem agg_239 : isAggT Tryz.prog 239 = true := by kernel_rfl
@[go_sem] theorem flat_239 : flatTy Tryz.prog 239 = true := by kernel_rfl
@[go_sem] theorem zeroT_239 : zeroT Tryz.prog 239 = some [.d (.v (.int .i64 0)), .d (.v (.int .i64 0)), .d (.v (.int .i64 0)), .d (.v (.int .i64 0)), .d (.v (.int .i64 0))] := by kernel_rfl
@[go_sem] theorem zeroD_239 : zeroD Tryz.prog 239 = some [.v (.int .i64 0), .v (.int .i64 0), .v (.int .i64 0), .v (.int .i64 0), .v (.int .i64 0)] := by kernel_rfl
@[go_sem] theorem zrow_239 : zrow Tryz.prog 239 = [.v (.int .i64 0), .v (.int .i64 0), .v (.int .i64 0), .v (.int .i64 0), .v (.int .i64 0)] := by kernel_rfl
@[go_sem] theorem eq_239 (op : BinOp) (x0 y0 : Int) (x1 y1 : Int) (x2 y2 : Int) (x3 y3 : Int) (x4 y4 : Int) (K : Go.Ax.T → Prop) : eqAgg Tryz.prog op 239 [.v (.int .i64 x0), .v (.int .i64 x1), .v (.int .i64 x2), .v (.int .i64 x3), .v (.int .i64 x4)] [.v (.int .i64 y0), .v (.int .i64 y1), .v (.int .i64 y2), .v (.int .i64 y3), .v (.int .i64 y4)] K = match op with | .eql => K (.one (.v (.bool (x0 == y0 && (x1 == y1 && (x2 == y2 && (x3 == y3 && x4 == y4))))))) | .neq => K (.one (.v (.bool (!(x0 == y0 && (x1 == y1 && (x2 == y2 && (x3 == y3 && x4 == y4)))))))) | _ => False :=
  eqAgg_deep und_239 (by kernel_rfl) (ks := [.int .i64, .int .i64, .int .i64, .int .i64, .int .i64]) (by kernel_rfl) (xs := [.int .i64 x0, .int .i64 x1, .int .i64 x2, .int .i64 x3, .int .i64 x4]) (ys := [.int .i64 y0, .int .i64 y1, .int .i64 y2, .int .i64 y3, .int .i64 y4]) (by kernel_rfl) (by kernel_rfl) op K
@[go_sem] theorem places_239 : placesT Tryz.prog 239 = some [(0, 1), (1, 1), (2, 1), (3, 1), (4, 1)] := by kernel_rfl
@[go_sem] theorem und_240 : Tryz.prog.underlying 240 = some (.struct #[⟨"Step", 3, 0, false, "", "", 0⟩, ⟨"Kind", 3, 1, false, "", "", 8⟩, ⟨"N", 3, 2, false, "", "", 16⟩, ⟨"Cap", 2, 3, false, "", "", 24⟩, ⟨"Charge", 2, 4, false, "", "", 32⟩]) := by kernel_rfl
@[go_sem] theorem info_240 : (Tryz.prog.info? 240).isSome = true := by kernel_rfl
@[go_sem] theorem cells_240 : Tryz.prog.cellsOf 240 = 5 := by kernel_rfl
@[go_sem] theorem agg_240 : isAggT Tryz.prog 240 = true := by kernel_rfl
@[go_sem] theorem flat_240 : flatTy Tryz.prog 240 = true := by kernel_rfl
@[go_sem] theorem zeroT_240 : zeroT Tryz.prog 240 = some [.d (.v (.int .i64 0)), .d (.v (.int .i64 0)), .d (.v (.int .i64 0)), .d (.v (.int .i64 0)), .d (.v (.int .i64 0))] := by kernel_rfl
@[go_sem] theorem zeroD_240 : zeroD Tryz.prog 240 = some [.v (.int .i64 0), .v (.int .i64 0), .v (.int .i64 0), .v (.int .i64 0), .v (.int .i64 0)] := by kernel_rfl
@[go_sem] theorem zrow_240 : zrow Tryz.prog 240 = [.v (.int .i64 0), .v (.int .i64 0), .v (.int .i64 0), .v (.int .i64 0), .v (.int .i64 0)] := by kernel_rfl
@[go_sem] theorem eq_240 (op : BinOp) (x0 y0 : Int) (x1 y1 : Int) (x2 y2 : Int) (x3 y3 : Int) (x4 y4 : Int) (K : Go.Ax.T → Prop) : eqAgg Tryz.prog op 240 [.v (.int .i64 x0), .v (.int .i64 x1), .v (.int .i64 x2), .v (.int .i64 x3), .v (.int .i64 x4)] [.v (.int .i64 y0), .v (.int .i64 y1), .v (.int .i64 y2), .v (.int .i64 y3), .v (.int .i64 y4)] K = match op with | .eql => K (.one (.v (.bool (x0 == y0 && (x1 == y1 && (x2 == y2 && (x3 == y3 && x4 == y4))))))) | .neq => K (.one (.v (.bool (!(x0 == y0 && (x1 == y1 && (x2 == y2 && (x3 == y3 && x4 == y4)))))))) | _ => False :=
  eqAgg_deep und_240 (by kernel_rfl) (ks := [.int .i64, .int .i64, .int .i64, .int .i64, .int .i64]) (by kernel_rfl) (xs := [.int .i64 x0, .int .i64 x1, .int .i64 x2, .int .i64 x3, .int .i64 x4]) (ys := [.int .i64 y0, .int .i64 y1, .int .i64 y2, .int .i64 y3, .int .i64 y4]) (by kernel_rfl) (by kernel_rfl) op K
@[go_sem] theorem places_240 : placesT Tryz.prog 240 = some [(0, 1), (1, 1), (2, 1), (3, 1), (4, 1)] := by kernel_rfl
@[go_sem] theorem flat_0 : flatTy Tryz.prog 0 = true := by kernel_rfl
@[go_sem] theorem info_0 : (Tryz.prog.info? 0).isSome = true := by kernel_rfl
@[go_sem] theorem flat_55 : flatTy Tryz.prog 55 = false := by kernel_rfl
@[go_sem] theorem info_55 : (Tryz.prog.info? 55).isSome = true := by kernel_rfl
@[go_sem] theorem flat_58 : flatTy Tryz.prog 58 = false := by kernel_rfl
@[go_sem] theorem info_58 : (Tryz.prog.info? 58).isSome = true := by kernel_rfl
@[go_sem] theorem flat_62 : flatTy Tryz.prog 62 = true := by kernel_rfl
@[go_sem] theorem info_62 : (Tryz.prog.info? 62).isSome = true := by kernel_rfl
@[go_sem] theorem flat_64 : flatTy Tryz.prog 64 = false := by kernel_rfl
@[go_sem] theorem info_64 : (Tryz.prog.info? 64).isSome = true := by kernel_rfl
@[go_sem] theorem flat_73 : flatTy Tryz.prog 73 = false := by kernel_rfl
@[go_sem] theorem info_73 : (Tryz.prog.info? 73).isSome = true := by kernel_rfl
@[go_sem] theorem flat_75 : flatTy Tryz.prog 75 = false := by kernel_rfl
@[go_sem] theorem info_75 : (Tryz.prog.info? 75).isSome = true := by kernel_rfl
@[go_sem] theorem flat_90 : flatTy Tryz.prog 90 = false := by kernel_rfl
@[go_sem] theorem info_90 : (Tryz.prog.info? 90).isSome = true := by kernel_rfl
@[go_sem] theorem flat_98 : flatTy Tryz.prog 98 = true := by kernel_rfl
@[go_sem] theorem info_98 : (Tryz.prog.info? 98).isSome = true := by kernel_rfl
@[go_sem] theorem flat_113 : flatTy Tryz.prog 113 = false := by kernel_rfl
@[go_sem] theorem info_113 : (Tryz.prog.info? 113).isSome = true := by kernel_rfl
@[go_sem] theorem flat_129 : flatTy Tryz.prog 129 = false := by kernel_rfl
@[go_sem] theorem info_129 : (Tryz.prog.info? 129).isSome = true := by kernel_rfl
@[go_sem] theorem flat_136 : flatTy Tryz.prog 136 = true := by kernel_rfl
@[go_sem] theorem info_136 : (Tryz.prog.info? 136).isSome = true := by kernel_rfl
@[go_sem] theorem flat_138 : flatTy Tryz.prog 138 = true := by kernel_rfl
@[go_sem] theorem info_138 : (Tryz.prog.info? 138).isSome = true := by kernel_rfl
@[go_sem] theorem flat_146 : flatTy Tryz.prog 146 = false := by kernel_rfl
@[go_sem] theorem info_146 : (Tryz.prog.info? 146).isSome = true := by kernel_rfl
@[go_sem] theorem flat_187 : flatTy Tryz.prog 187 = true := by kernel_rfl
@[go_sem] theorem info_187 : (Tryz.prog.info? 187).isSome = true := by kernel_rfl
@[go_sem] theorem mixed : Tryz.prog.follows .mixedOrders = true := by kernel_rfl
end Go.Ax
