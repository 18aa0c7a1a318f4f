import Derived.Test.YtfmeiapglpphpaaDoorProg
import Derived.Test.YtfmeiapglpphpaaDoorLE
set_option linter.defProp false
namespace Go.Proofs.YtfmeiapglpphpaaDoor.T
open Go Go.VL Go.Proofs
theorem fact_ok2 : okT Tryd.prog 2 = true := by kernel_rfl
theorem fact_cells2 : Program.cellsOf Tryd.prog 2 = 1 := by kernel_rfl
theorem fact_bytes2 : Program.bytesOf Tryd.prog 2 = 8 := by kernel_rfl
theorem fact_agg2 : aggT Tryd.prog 2 = false := by kernel_rfl
theorem fact_und2 : (Program.underlying Tryd.prog 2).isSome = true := by kernel_rfl
theorem fact_int2 : intT Tryd.prog 2 = some .i64 := by kernel_rfl
theorem fact_zok2 : zeroOK Tryd.prog 2 = true := by kernel_rfl
theorem fact_zero2 : zeroT Tryd.prog 2 = some (.int .i64 0) := by kernel_rfl
theorem fact_ok3 : okT Tryd.prog 3 = true := by kernel_rfl
theorem fact_cells3 : Program.cellsOf Tryd.prog 3 = 1 := by kernel_rfl
theorem fact_bytes3 : Program.bytesOf Tryd.prog 3 = 8 := by kernel_rfl
theorem fact_agg3 : aggT Tryd.prog 3 = false := by kernel_rfl
theorem fact_und3 : (Program.underlying Tryd.prog 3).isSome = true := by kernel_rfl
theorem fact_int3 : intT Tryd.prog 3 = some .i64 := by kernel_rfl
theorem fact_zok3 : zeroOK Tryd.prog 3 = true := by kernel_rfl
theorem fact_zero3 : zeroT Tryd.prog 3 = some (.int .i64 0) := by kernel_rfl
theorem fact_ok4 : okT Tryd.prog 4 = true := by kernel_rfl
theorem fact_cells4 : Program.cellsOf Tryd.prog 4 = 1 := by kernel_rfl
theorem fact_bytes4 : Program.bytesOf Tryd.prog 4 = 1 := by kernel_rfl
theorem fact_agg4 : aggT Tryd.prog 4 = false := by kernel_rfl
theorem fact_und4 : (Program.underlying Tryd.prog 4).isSome = true := by kernel_rfl
theorem fact_int4 : intT Tryd.prog 4 = none := by kernel_rfl
theorem fact_bool4 : isBoolT Tryd.prog 4 = true := by kernel_rfl
theorem fact_zok4 : zeroOK Tryd.prog 4 = true := by kernel_rfl
theorem fact_zero4 : zeroT Tryd.prog 4 = some (.bool false) := by kernel_rfl
theorem fact_ok5 : okT Tryd.prog 5 = true := by kernel_rfl
theorem fact_cells5 : Program.cellsOf Tryd.prog 5 = 1 := by kernel_rfl
theorem fact_bytes5 : Program.bytesOf Tryd.prog 5 = 1 := by kernel_rfl
theorem fact_agg5 : aggT Tryd.prog 5 = false := by kernel_rfl
theorem fact_und5 : (Program.underlying Tryd.prog 5).isSome = true := by kernel_rfl
theorem fact_int5 : intT Tryd.prog 5 = some .u8 := by kernel_rfl
theorem fact_zok5 : zeroOK Tryd.prog 5 = true := by kernel_rfl
theorem fact_zero5 : zeroT Tryd.prog 5 = some (.int .u8 0) := by kernel_rfl
theorem fact_ok9 : okT Tryd.prog 9 = true := by kernel_rfl
theorem fact_cells9 : Program.cellsOf Tryd.prog 9 = 1 := by kernel_rfl
theorem fact_bytes9 : Program.bytesOf Tryd.prog 9 = 16 := by kernel_rfl
theorem fact_agg9 : aggT Tryd.prog 9 = false := by kernel_rfl
theorem fact_und9 : (Program.underlying Tryd.prog 9).isSome = true := by kernel_rfl
theorem fact_int9 : intT Tryd.prog 9 = none := by kernel_rfl
theorem fact_str9 : strT Tryd.prog 9 = true := by kernel_rfl
theorem fact_zok9 : zeroOK Tryd.prog 9 = true := by kernel_rfl
theorem fact_zero9 : zeroT Tryd.prog 9 = some (.string ⟨#[]⟩) := by kernel_rfl
theorem fact_ok12 : okT Tryd.prog 12 = true := by kernel_rfl
theorem fact_cells12 : Program.cellsOf Tryd.prog 12 = 1 := by kernel_rfl
theorem fact_bytes12 : Program.bytesOf Tryd.prog 12 = 8 := by kernel_rfl
theorem fact_agg12 : aggT Tryd.prog 12 = false := by kernel_rfl
theorem fact_und12 : (Program.underlying Tryd.prog 12).isSome = true := by kernel_rfl
theorem fact_int12 : intT Tryd.prog 12 = some .u64 := by kernel_rfl
theorem fact_zok12 : zeroOK Tryd.prog 12 = true := by kernel_rfl
theorem fact_zero12 : zeroT Tryd.prog 12 = some (.int .u64 0) := by kernel_rfl
theorem fact_ok21 : okT Tryd.prog 21 = true := by kernel_rfl
theorem fact_cells21 : Program.cellsOf Tryd.prog 21 = 1 := by kernel_rfl
theorem fact_bytes21 : Program.bytesOf Tryd.prog 21 = 4 := by kernel_rfl
theorem fact_agg21 : aggT Tryd.prog 21 = false := by kernel_rfl
theorem fact_und21 : (Program.underlying Tryd.prog 21).isSome = true := by kernel_rfl
theorem fact_int21 : intT Tryd.prog 21 = some .i32 := by kernel_rfl
theorem fact_zok21 : zeroOK Tryd.prog 21 = true := by kernel_rfl
theorem fact_zero21 : zeroT Tryd.prog 21 = some (.int .i32 0) := by kernel_rfl
theorem fact_ok22 : okT Tryd.prog 22 = true := by kernel_rfl
theorem fact_cells22 : Program.cellsOf Tryd.prog 22 = 1 := by kernel_rfl
theorem fact_bytes22 : Program.bytesOf Tryd.prog 22 = 24 := by kernel_rfl
theorem fact_agg22 : aggT Tryd.prog 22 = false := by kernel_rfl
theorem fact_und22 : (Program.underlying Tryd.prog 22).isSome = true := by kernel_rfl
theorem fact_int22 : intT Tryd.prog 22 = none := by kernel_rfl
theorem fact_el22 : elT Tryd.prog 22 = some 38 := by kernel_rfl
theorem fact_sl22 : sliceT Tryd.prog 22 = true := by kernel_rfl
theorem fact_zok22 : zeroOK Tryd.prog 22 = true := by kernel_rfl
theorem fact_zero22 : zeroT Tryd.prog 22 = some (.slice none 0 0) := by kernel_rfl
theorem fact_ok23 : okT Tryd.prog 23 = true := by kernel_rfl
theorem fact_cells23 : Program.cellsOf Tryd.prog 23 = 1 := by kernel_rfl
theorem fact_bytes23 : Program.bytesOf Tryd.prog 23 = 24 := by kernel_rfl
theorem fact_agg23 : aggT Tryd.prog 23 = false := by kernel_rfl
theorem fact_und23 : (Program.underlying Tryd.prog 23).isSome = true := by kernel_rfl
theorem fact_int23 : intT Tryd.prog 23 = none := by kernel_rfl
theorem fact_el23 : elT Tryd.prog 23 = some 38 := by kernel_rfl
theorem fact_sl23 : sliceT Tryd.prog 23 = true := by kernel_rfl
theorem fact_zok23 : zeroOK Tryd.prog 23 = true := by kernel_rfl
theorem fact_zero23 : zeroT Tryd.prog 23 = some (.slice none 0 0) := by kernel_rfl
theorem fact_ok24 : okT Tryd.prog 24 = true := by kernel_rfl
theorem fact_cells24 : Program.cellsOf Tryd.prog 24 = 5 := by kernel_rfl
theorem fact_bytes24 : Program.bytesOf Tryd.prog 24 = 56 := by kernel_rfl
theorem fact_agg24 : aggT Tryd.prog 24 = true := by kernel_rfl
theorem fact_und24 : (Program.underlying Tryd.prog 24).isSome = true := by kernel_rfl
theorem fact_int24 : intT Tryd.prog 24 = none := by kernel_rfl
theorem fact_zok24 : zeroOK Tryd.prog 24 = true := by kernel_rfl
theorem fact_zero24 : zeroT Tryd.prog 24 = some (.agg #[.int .i64 0, .int .i64 0, .int .i64 0, .int .i64 0, .slice none 0 0]) := by kernel_rfl
theorem fact_fok24 : fieldsOK Tryd.prog 24 = true := by kernel_rfl
theorem fact_f0_24 : fieldTO Tryd.prog 24 0 = some (3, 0) := by kernel_rfl
theorem fact_f1_24 : fieldTO Tryd.prog 24 1 = some (2, 1) := by kernel_rfl
theorem fact_f2_24 : fieldTO Tryd.prog 24 2 = some (3, 2) := by kernel_rfl
theorem fact_f3_24 : fieldTO Tryd.prog 24 3 = some (2, 3) := by kernel_rfl
theorem fact_f4_24 : fieldTO Tryd.prog 24 4 = some (23, 4) := by kernel_rfl
theorem fact_ok25 : okT Tryd.prog 25 = true := by kernel_rfl
theorem fact_cells25 : Program.cellsOf Tryd.prog 25 = 5 := by kernel_rfl
theorem fact_bytes25 : Program.bytesOf Tryd.prog 25 = 56 := by kernel_rfl
theorem fact_agg25 : aggT Tryd.prog 25 = true := by kernel_rfl
theorem fact_und25 : (Program.underlying Tryd.prog 25).isSome = true := by kernel_rfl
theorem fact_int25 : intT Tryd.prog 25 = none := by kernel_rfl
theorem fact_zok25 : zeroOK Tryd.prog 25 = true := by kernel_rfl
theorem fact_zero25 : zeroT Tryd.prog 25 = some (.agg #[.int .i64 0, .int .i64 0, .int .i64 0, .int .i64 0, .slice none 0 0]) := by kernel_rfl
theorem fact_fok25 : fieldsOK Tryd.prog 25 = true := by kernel_rfl
theorem fact_f0_25 : fieldTO Tryd.prog 25 0 = some (3, 0) := by kernel_rfl
theorem fact_f1_25 : fieldTO Tryd.prog 25 1 = some (2, 1) := by kernel_rfl
theorem fact_f2_25 : fieldTO Tryd.prog 25 2 = some (3, 2) := by kernel_rfl
theorem fact_f3_25 : fieldTO Tryd.prog 25 3 = some (2, 3) := by kernel_rfl
theorem fact_f4_25 : fieldTO Tryd.prog 25 4 = some (23, 4) := by kernel_rfl
theorem fact_ok27 : okT Tryd.prog 27 = true := by kernel_rfl
theorem fact_cells27 : Program.cellsOf Tryd.prog 27 = 1 := by kernel_rfl
theorem fact_bytes27 : Program.bytesOf Tryd.prog 27 = 24 := by kernel_rfl
theorem fact_agg27 : aggT Tryd.prog 27 = false := by kernel_rfl
theorem fact_und27 : (Program.underlying Tryd.prog 27).isSome = true := by kernel_rfl
theorem fact_int27 : intT Tryd.prog 27 = none := by kernel_rfl
theorem fact_el27 : elT Tryd.prog 27 = some 5 := by kernel_rfl
theorem fact_sl27 : sliceT Tryd.prog 27 = true := by kernel_rfl
theorem fact_zok27 : zeroOK Tryd.prog 27 = true := by kernel_rfl
theorem fact_zero27 : zeroT Tryd.prog 27 = some (.slice none 0 0) := by kernel_rfl
theorem fact_ok28 : okT Tryd.prog 28 = true := by kernel_rfl
theorem fact_cells28 : Program.cellsOf Tryd.prog 28 = 1 := by kernel_rfl
theorem fact_bytes28 : Program.bytesOf Tryd.prog 28 = 8 := by kernel_rfl
theorem fact_agg28 : aggT Tryd.prog 28 = false := by kernel_rfl
theorem fact_und28 : (Program.underlying Tryd.prog 28).isSome = true := by kernel_rfl
theorem fact_int28 : intT Tryd.prog 28 = some .i64 := by kernel_rfl
theorem fact_zok28 : zeroOK Tryd.prog 28 = true := by kernel_rfl
theorem fact_zero28 : zeroT Tryd.prog 28 = some (.int .i64 0) := by kernel_rfl
theorem fact_ok38 : okT Tryd.prog 38 = true := by kernel_rfl
theorem fact_cells38 : Program.cellsOf Tryd.prog 38 = 1 := by kernel_rfl
theorem fact_bytes38 : Program.bytesOf Tryd.prog 38 = 2 := by kernel_rfl
theorem fact_agg38 : aggT Tryd.prog 38 = false := by kernel_rfl
theorem fact_und38 : (Program.underlying Tryd.prog 38).isSome = true := by kernel_rfl
theorem fact_int38 : intT Tryd.prog 38 = some .i16 := by kernel_rfl
theorem fact_zok38 : zeroOK Tryd.prog 38 = true := by kernel_rfl
theorem fact_zero38 : zeroT Tryd.prog 38 = some (.int .i16 0) := by kernel_rfl
theorem fact_ok42 : okT Tryd.prog 42 = true := by kernel_rfl
theorem fact_cells42 : Program.cellsOf Tryd.prog 42 = 4 := by kernel_rfl
theorem fact_bytes42 : Program.bytesOf Tryd.prog 42 = 32 := by kernel_rfl
theorem fact_agg42 : aggT Tryd.prog 42 = true := by kernel_rfl
theorem fact_und42 : (Program.underlying Tryd.prog 42).isSome = true := by kernel_rfl
theorem fact_int42 : intT Tryd.prog 42 = none := by kernel_rfl
theorem fact_zok42 : zeroOK Tryd.prog 42 = true := by kernel_rfl
theorem fact_zero42 : zeroT Tryd.prog 42 = some (.agg #[.int .i64 0, .int .i64 0, .int .i64 0, .bool false]) := by kernel_rfl
theorem fact_fok42 : fieldsOK Tryd.prog 42 = true := by kernel_rfl
theorem fact_f0_42 : fieldTO Tryd.prog 42 0 = some (3, 0) := by kernel_rfl
theorem fact_f1_42 : fieldTO Tryd.prog 42 1 = some (3, 1) := by kernel_rfl
theorem fact_f2_42 : fieldTO Tryd.prog 42 2 = some (3, 2) := by kernel_rfl
theorem fact_f3_42 : fieldTO Tryd.prog 42 3 = some (4, 3) := by kernel_rfl
theorem fact_ok43 : okT Tryd.prog 43 = true := by kernel_rfl
theorem fact_cells43 : Program.cellsOf Tryd.prog 43 = 4 := by kernel_rfl
theorem fact_bytes43 : Program.bytesOf Tryd.prog 43 = 32 := by kernel_rfl
theorem fact_agg43 : aggT Tryd.prog 43 = true := by kernel_rfl
theorem fact_und43 : (Program.underlying Tryd.prog 43).isSome = true := by kernel_rfl
theorem fact_int43 : intT Tryd.prog 43 = none := by kernel_rfl
theorem fact_zok43 : zeroOK Tryd.prog 43 = true := by kernel_rfl
theorem fact_zero43 : zeroT Tryd.prog 43 = some (.agg #[.int .i64 0, .int .i64 0, .int .i64 0, .bool false]) := by kernel_rfl
theorem fact_fok43 : fieldsOK Tryd.prog 43 = true := by kernel_rfl
theorem fact_f0_43 : fieldTO Tryd.prog 43 0 = some (3, 0) := by kernel_rfl
theorem fact_f1_43 : fieldTO Tryd.prog 43 1 = some (3, 1) := by kernel_rfl
theorem fact_f2_43 : fieldTO Tryd.prog 43 2 = some (3, 2) := by kernel_rfl
theorem fact_f3_43 : fieldTO Tryd.prog 43 3 = some (4, 3) := by kernel_rfl
theorem fact_ok44 : okT Tryd.prog 44 = true := by kernel_rfl
theorem fact_cells44 : Program.cellsOf Tryd.prog 44 = 36 := by kernel_rfl
theorem fact_bytes44 : Program.bytesOf Tryd.prog 44 = 288 := by kernel_rfl
theorem fact_agg44 : aggT Tryd.prog 44 = true := by kernel_rfl
theorem fact_und44 : (Program.underlying Tryd.prog 44).isSome = true := by kernel_rfl
theorem fact_int44 : intT Tryd.prog 44 = none := by kernel_rfl
theorem fact_arr44 : arrT Tryd.prog 44 = some (9, 43) := by kernel_rfl
theorem fact_zok44 : zeroOK Tryd.prog 44 = true := by kernel_rfl
theorem fact_zero44 : zeroT Tryd.prog 44 = some (.agg #[.int .i64 0, .int .i64 0, .int .i64 0, .bool false, .int .i64 0, .int .i64 0, .int .i64 0, .bool false, .int .i64 0, .int .i64 0, .int .i64 0, .bool false, .int .i64 0, .int .i64 0, .int .i64 0, .bool false, .int .i64 0, .int .i64 0, .int .i64 0, .bool false, .int .i64 0, .int .i64 0, .int .i64 0, .bool false, .int .i64 0, .int .i64 0, .int .i64 0, .bool false, .int .i64 0, .int .i64 0, .int .i64 0, .bool false, .int .i64 0, .int .i64 0, .int .i64 0, .bool false]) := by kernel_rfl
theorem fact_fok44 : fieldsOK Tryd.prog 44 = true := by kernel_rfl
theorem fact_ok45 : okT Tryd.prog 45 = true := by kernel_rfl
theorem fact_cells45 : Program.cellsOf Tryd.prog 45 = 2 := by kernel_rfl
theorem fact_bytes45 : Program.bytesOf Tryd.prog 45 = 16 := by kernel_rfl
theorem fact_agg45 : aggT Tryd.prog 45 = true := by kernel_rfl
theorem fact_und45 : (Program.underlying Tryd.prog 45).isSome = true := by kernel_rfl
theorem fact_int45 : intT Tryd.prog 45 = none := by kernel_rfl
theorem fact_zok45 : zeroOK Tryd.prog 45 = true := by kernel_rfl
theorem fact_zero45 : zeroT Tryd.prog 45 = some (.agg #[.int .i64 0, .int .i64 0]) := by kernel_rfl
theorem fact_fok45 : fieldsOK Tryd.prog 45 = true := by kernel_rfl
theorem fact_f0_45 : fieldTO Tryd.prog 45 0 = some (3, 0) := by kernel_rfl
theorem fact_f1_45 : fieldTO Tryd.prog 45 1 = some (2, 1) := by kernel_rfl
theorem fact_ok46 : okT Tryd.prog 46 = true := by kernel_rfl
theorem fact_cells46 : Program.cellsOf Tryd.prog 46 = 2 := by kernel_rfl
theorem fact_bytes46 : Program.bytesOf Tryd.prog 46 = 16 := by kernel_rfl
theorem fact_agg46 : aggT Tryd.prog 46 = true := by kernel_rfl
theorem fact_und46 : (Program.underlying Tryd.prog 46).isSome = true := by kernel_rfl
theorem fact_int46 : intT Tryd.prog 46 = none := by kernel_rfl
theorem fact_zok46 : zeroOK Tryd.prog 46 = true := by kernel_rfl
theorem fact_zero46 : zeroT Tryd.prog 46 = some (.agg #[.int .i64 0, .int .i64 0]) := by kernel_rfl
theorem fact_fok46 : fieldsOK Tryd.prog 46 = true := by kernel_rfl
theorem fact_f0_46 : fieldTO Tryd.prog 46 0 = some (3, 0) := by kernel_rfl
theorem fact_f1_46 : fieldTO Tryd.prog 46 1 = some (2, 1) := by kernel_rfl
theorem fact_ok47 : okT Tryd.prog 47 = true := by kernel_rfl
theorem fact_cells47 : Program.cellsOf Tryd.prog 47 = 1 := by kernel_rfl
theorem fact_bytes47 : Program.bytesOf Tryd.prog 47 = 24 := by kernel_rfl
theorem fact_agg47 : aggT Tryd.prog 47 = false := by kernel_rfl
theorem fact_und47 : (Program.underlying Tryd.prog 47).isSome = true := by kernel_rfl
theorem fact_int47 : intT Tryd.prog 47 = none := by kernel_rfl
theorem fact_el47 : elT Tryd.prog 47 = some 46 := by kernel_rfl
theorem fact_sl47 : sliceT Tryd.prog 47 = true := by kernel_rfl
theorem fact_zok47 : zeroOK Tryd.prog 47 = true := by kernel_rfl
theorem fact_zero47 : zeroT Tryd.prog 47 = some (.slice none 0 0) := by kernel_rfl
theorem fact_ok52 : okT Tryd.prog 52 = true := by kernel_rfl
theorem fact_cells52 : Program.cellsOf Tryd.prog 52 = 1 := by kernel_rfl
theorem fact_bytes52 : Program.bytesOf Tryd.prog 52 = 24 := by kernel_rfl
theorem fact_agg52 : aggT Tryd.prog 52 = false := by kernel_rfl
theorem fact_und52 : (Program.underlying Tryd.prog 52).isSome = true := by kernel_rfl
theorem fact_int52 : intT Tryd.prog 52 = none := by kernel_rfl
theorem fact_el52 : elT Tryd.prog 52 = some 2 := by kernel_rfl
theorem fact_sl52 : sliceT Tryd.prog 52 = true := by kernel_rfl
theorem fact_zok52 : zeroOK Tryd.prog 52 = true := by kernel_rfl
theorem fact_zero52 : zeroT Tryd.prog 52 = some (.slice none 0 0) := by kernel_rfl
theorem fact_ok68 : okT Tryd.prog 68 = true := by kernel_rfl
theorem fact_cells68 : Program.cellsOf Tryd.prog 68 = 1 := by kernel_rfl
theorem fact_bytes68 : Program.bytesOf Tryd.prog 68 = 8 := by kernel_rfl
theorem fact_agg68 : aggT Tryd.prog 68 = false := by kernel_rfl
theorem fact_und68 : (Program.underlying Tryd.prog 68).isSome = true := by kernel_rfl
theorem fact_int68 : intT Tryd.prog 68 = some .u64 := by kernel_rfl
theorem fact_zok68 : zeroOK Tryd.prog 68 = true := by kernel_rfl
theorem fact_zero68 : zeroT Tryd.prog 68 = some (.int .u64 0) := by kernel_rfl
theorem fact_ok77 : okT Tryd.prog 77 = true := by kernel_rfl
theorem fact_cells77 : Program.cellsOf Tryd.prog 77 = 1 := by kernel_rfl
theorem fact_bytes77 : Program.bytesOf Tryd.prog 77 = 4 := by kernel_rfl
theorem fact_agg77 : aggT Tryd.prog 77 = false := by kernel_rfl
theorem fact_und77 : (Program.underlying Tryd.prog 77).isSome = true := by kernel_rfl
theorem fact_int77 : intT Tryd.prog 77 = some .u32 := by kernel_rfl
theorem fact_zok77 : zeroOK Tryd.prog 77 = true := by kernel_rfl
theorem fact_zero77 : zeroT Tryd.prog 77 = some (.int .u32 0) := by kernel_rfl
theorem cal3 : callable Tryd.prog 3 = true := by kernel_rfl
theorem cal4 : callable Tryd.prog 4 = true := by kernel_rfl
theorem cal5 : callable Tryd.prog 5 = true := by kernel_rfl
theorem cal6 : callable Tryd.prog 6 = true := by kernel_rfl
theorem cal7 : callable Tryd.prog 7 = true := by kernel_rfl
theorem cal8 : callable Tryd.prog 8 = true := by kernel_rfl
theorem cal9 : callable Tryd.prog 9 = true := by kernel_rfl
theorem cal10 : callable Tryd.prog 10 = true := by kernel_rfl
theorem cal11 : callable Tryd.prog 11 = true := by kernel_rfl
theorem cal12 : callable Tryd.prog 12 = true := by kernel_rfl
theorem cal13 : callable Tryd.prog 13 = true := by kernel_rfl
theorem cal14 : callable Tryd.prog 14 = true := by kernel_rfl
theorem cal15 : callable Tryd.prog 15 = true := by kernel_rfl
theorem cal16 : callable Tryd.prog 16 = true := by kernel_rfl
theorem cal17 : callable Tryd.prog 17 = true := by kernel_rfl
theorem cal18 : callable Tryd.prog 18 = true := by kernel_rfl
theorem cal19 : callable Tryd.prog 19 = true := by kernel_rfl
theorem cal20 : callable Tryd.prog 20 = true := by kernel_rfl
theorem cal21 : callable Tryd.prog 21 = true := by kernel_rfl
theorem cal22 : callable Tryd.prog 22 = true := by kernel_rfl
theorem cal23 : callable Tryd.prog 23 = true := by kernel_rfl
theorem cal24 : callable Tryd.prog 24 = true := by kernel_rfl
theorem cal25 : callable Tryd.prog 25 = true := by kernel_rfl
theorem cal26 : callable Tryd.prog 26 = true := by kernel_rfl
theorem cal27 : callable Tryd.prog 27 = true := by kernel_rfl
theorem cal28 : callable Tryd.prog 28 = true := by kernel_rfl
theorem cal29 : callable Tryd.prog 29 = true := by kernel_rfl
theorem cal30 : callable Tryd.prog 30 = true := by kernel_rfl
theorem cal31 : callable Tryd.prog 31 = true := by kernel_rfl
theorem cal32 : callable Tryd.prog 32 = true := by kernel_rfl
theorem cal33 : callable Tryd.prog 33 = true := by kernel_rfl
theorem cal34 : callable Tryd.prog 34 = true := by kernel_rfl
theorem cal35 : callable Tryd.prog 35 = true := by kernel_rfl
theorem cal36 : callable Tryd.prog 36 = true := by kernel_rfl
theorem cal37 : callable Tryd.prog 37 = true := by kernel_rfl
theorem cal38 : callable Tryd.prog 38 = true := by kernel_rfl
theorem cal39 : callable Tryd.prog 39 = true := by kernel_rfl
theorem cal40 : callable Tryd.prog 40 = true := by kernel_rfl
theorem cal41 : callable Tryd.prog 41 = true := by kernel_rfl
theorem cal42 : callable Tryd.prog 42 = true := by kernel_rfl
theorem cal62 : callable Tryd.prog 62 = true := by kernel_rfl
theorem mixed : Tryd.prog.follows .mixedOrders = true := by kernel_rfl
def factsT2 := (And.intro (And.intro (And.intro fact_ok2 fact_cells2) (And.intro fact_bytes2 fact_agg2)) (And.intro (And.intro fact_und2 fact_int2) (And.intro fact_zok2 fact_zero2)))
def factsT3 := (And.intro (And.intro (And.intro fact_ok3 fact_cells3) (And.intro fact_bytes3 fact_agg3)) (And.intro (And.intro fact_und3 fact_int3) (And.intro fact_zok3 fact_zero3)))
def factsT4 := (And.intro (And.intro (And.intro fact_ok4 fact_cells4) (And.intro fact_bytes4 fact_agg4)) (And.intro (And.intro fact_und4 fact_int4) (And.intro fact_bool4 (And.intro fact_zok4 fact_zero4))))
def factsT5 := (And.intro (And.intro (And.intro fact_ok5 fact_cells5) (And.intro fact_bytes5 fact_agg5)) (And.intro (And.intro fact_und5 fact_int5) (And.intro fact_zok5 fact_zero5)))
def factsT9 := (And.intro (And.intro (And.intro fact_ok9 fact_cells9) (And.intro fact_bytes9 fact_agg9)) (And.intro (And.intro fact_und9 fact_int9) (And.intro fact_str9 (And.intro fact_zok9 fact_zero9))))
def factsT12 := (And.intro (And.intro (And.intro fact_ok12 fact_cells12) (And.intro fact_bytes12 fact_agg12)) (And.intro (And.intro fact_und12 fact_int12) (And.intro fact_zok12 fact_zero12)))
def factsT21 := (And.intro (And.intro (And.intro fact_ok21 fact_cells21) (And.intro fact_bytes21 fact_agg21)) (And.intro (And.intro fact_und21 fact_int21) (And.intro fact_zok21 fact_zero21)))
def factsT22 := (And.intro (And.intro (And.intro fact_ok22 fact_cells22) (And.intro fact_bytes22 (And.intro fact_agg22 fact_und22))) (And.intro (And.intro fact_int22 fact_el22) (And.intro fact_sl22 (And.intro fact_zok22 fact_zero22))))
def factsT23 := (And.intro (And.intro (And.intro fact_ok23 fact_cells23) (And.intro fact_bytes23 (And.intro fact_agg23 fact_und23))) (And.intro (And.intro fact_int23 fact_el23) (And.intro fact_sl23 (And.intro fact_zok23 fact_zero23))))
def factsT24 := (And.intro (And.intro (And.intro fact_ok24 (And.intro fact_cells24 fact_bytes24)) (And.intro (And.intro fact_agg24 fact_und24) (And.intro fact_int24 fact_zok24))) (And.intro (And.intro fact_zero24 (And.intro fact_fok24 fact_f0_24)) (And.intro (And.intro fact_f1_24 fact_f2_24) (And.intro fact_f3_24 fact_f4_24))))
def factsT25 := (And.intro (And.intro (And.intro fact_ok25 (And.intro fact_cells25 fact_bytes25)) (And.intro (And.intro fact_agg25 fact_und25) (And.intro fact_int25 fact_zok25))) (And.intro (And.intro fact_zero25 (And.intro fact_fok25 fact_f0_25)) (And.intro (And.intro fact_f1_25 fact_f2_25) (And.intro fact_f3_25 fact_f4_25))))
def factsT27 := (And.intro (And.intro (And.intro fact_ok27 fact_cells27) (And.intro fact_bytes27 (And.intro fact_agg27 fact_und27))) (And.intro (And.intro fact_int27 fact_el27) (And.intro fact_sl27 (And.intro fact_zok27 fact_zero27))))
def factsT28 := (And.intro (And.intro (And.intro fact_ok28 fact_cells28) (And.intro fact_bytes28 fact_agg28)) (And.intro (And.intro fact_und28 fact_int28) (And.intro fact_zok28 fact_zero28)))
def factsT38 := (And.intro (And.intro (And.intro fact_ok38 fact_cells38) (And.intro fact_bytes38 fact_agg38)) (And.intro (And.intro fact_und38 fact_int38) (And.intro fact_zok38 fact_zero38)))
def factsT42 := (And.intro (And.intro (And.intro fact_ok42 (And.intro fact_cells42 fact_bytes42)) (And.intro fact_agg42 (And.intro fact_und42 fact_int42))) (And.intro (And.intro fact_zok42 (And.intro fact_zero42 fact_fok42)) (And.intro (And.intro fact_f0_42 fact_f1_42) (And.intro fact_f2_42 fact_f3_42))))
def factsT43 := (And.intro (And.intro (And.intro fact_ok43 (And.intro fact_cells43 fact_bytes43)) (And.intro fact_agg43 (And.intro fact_und43 fact_int43))) (And.intro (And.intro fact_zok43 (And.intro fact_zero43 fact_fok43)) (And.intro (And.intro fact_f0_43 fact_f1_43) (And.intro fact_f2_43 fact_f3_43))))
def factsT44 := (And.intro (And.intro (And.intro fact_ok44 fact_cells44) (And.intro fact_bytes44 (And.intro fact_agg44 fact_und44))) (And.intro (And.intro fact_int44 fact_arr44) (And.intro fact_zok44 (And.intro fact_zero44 fact_fok44))))
def factsT45 := (And.intro (And.intro (And.intro fact_ok45 fact_cells45) (And.intro fact_bytes45 (And.intro fact_agg45 fact_und45))) (And.intro (And.intro fact_int45 (And.intro fact_zok45 fact_zero45)) (And.intro fact_fok45 (And.intro fact_f0_45 fact_f1_45))))
def factsT46 := (And.intro (And.intro (And.intro fact_ok46 fact_cells46) (And.intro fact_bytes46 (And.intro fact_agg46 fact_und46))) (And.intro (And.intro fact_int46 (And.intro fact_zok46 fact_zero46)) (And.intro fact_fok46 (And.intro fact_f0_46 fact_f1_46))))
def factsT47 := (And.intro (And.intro (And.intro fact_ok47 fact_cells47) (And.intro fact_bytes47 (And.intro fact_agg47 fact_und47))) (And.intro (And.intro fact_int47 fact_el47) (And.intro fact_sl47 (And.intro fact_zok47 fact_zero47))))
def factsT52 := (And.intro (And.intro (And.intro fact_ok52 fact_cells52) (And.intro fact_bytes52 (And.intro fact_agg52 fact_und52))) (And.intro (And.intro fact_int52 fact_el52) (And.intro fact_sl52 (And.intro fact_zok52 fact_zero52))))
def factsT68 := (And.intro (And.intro (And.intro fact_ok68 fact_cells68) (And.intro fact_bytes68 fact_agg68)) (And.intro (And.intro fact_und68 fact_int68) (And.intro fact_zok68 fact_zero68)))
def factsT77 := (And.intro (And.intro (And.intro fact_ok77 fact_cells77) (And.intro fact_bytes77 fact_agg77)) (And.intro (And.intro fact_und77 fact_int77) (And.intro fact_zok77 fact_zero77)))
attribute [go_sem] factsT2 factsT3 factsT4 factsT5 factsT9 factsT12 factsT21 factsT22 factsT23 factsT24 factsT25 factsT27 factsT28 factsT38 factsT42 factsT43 factsT44 factsT45 factsT46 factsT47 factsT52 factsT68 factsT77
end Go.Proofs.YtfmeiapglpphpaaDoor.T
