import Derived.Test.YtpkampecmlpfmaaProg
import Derived.Test.YtpkampecmlpfmaaLE
set_option linter.defProp false
namespace Go.Proofs.Ytpkampecmlpfmaa.T
open Go Go.VL Go.Proofs
theorem fact_ok2 : okT Try.prog 2 = true := by kernel_rfl
theorem fact_cells2 : Program.cellsOf Try.prog 2 = 1 := by kernel_rfl
theorem fact_bytes2 : Program.bytesOf Try.prog 2 = 8 := by kernel_rfl
theorem fact_agg2 : aggT Try.prog 2 = false := by kernel_rfl
theorem fact_und2 : (Program.underlying Try.prog 2).isSome = true := by kernel_rfl
theorem fact_int2 : intT Try.prog 2 = some .i64 := by kernel_rfl
theorem fact_zok2 : zeroOK Try.prog 2 = true := by kernel_rfl
theorem fact_zero2 : zeroT Try.prog 2 = some (.int .i64 0) := by kernel_rfl
theorem fact_ok3 : okT Try.prog 3 = true := by kernel_rfl
theorem fact_cells3 : Program.cellsOf Try.prog 3 = 1 := by kernel_rfl
theorem fact_bytes3 : Program.bytesOf Try.prog 3 = 8 := by kernel_rfl
theorem fact_agg3 : aggT Try.prog 3 = false := by kernel_rfl
theorem fact_und3 : (Program.underlying Try.prog 3).isSome = true := by kernel_rfl
theorem fact_int3 : intT Try.prog 3 = some .i64 := by kernel_rfl
theorem fact_zok3 : zeroOK Try.prog 3 = true := by kernel_rfl
theorem fact_zero3 : zeroT Try.prog 3 = some (.int .i64 0) := by kernel_rfl
theorem fact_ok4 : okT Try.prog 4 = true := by kernel_rfl
theorem fact_cells4 : Program.cellsOf Try.prog 4 = 1 := by kernel_rfl
theorem fact_bytes4 : Program.bytesOf Try.prog 4 = 1 := by kernel_rfl
theorem fact_agg4 : aggT Try.prog 4 = false := by kernel_rfl
theorem fact_und4 : (Program.underlying Try.prog 4).isSome = true := by kernel_rfl
theorem fact_int4 : intT Try.prog 4 = none := by kernel_rfl
theorem fact_bool4 : isBoolT Try.prog 4 = true := by kernel_rfl
theorem fact_zok4 : zeroOK Try.prog 4 = true := by kernel_rfl
theorem fact_zero4 : zeroT Try.prog 4 = some (.bool false) := by kernel_rfl
theorem fact_ok5 : okT Try.prog 5 = true := by kernel_rfl
theorem fact_cells5 : Program.cellsOf Try.prog 5 = 1 := by kernel_rfl
theorem fact_bytes5 : Program.bytesOf Try.prog 5 = 1 := by kernel_rfl
theorem fact_agg5 : aggT Try.prog 5 = false := by kernel_rfl
theorem fact_und5 : (Program.underlying Try.prog 5).isSome = true := by kernel_rfl
theorem fact_int5 : intT Try.prog 5 = some .u8 := by kernel_rfl
theorem fact_zok5 : zeroOK Try.prog 5 = true := by kernel_rfl
theorem fact_zero5 : zeroT Try.prog 5 = some (.int .u8 0) := by kernel_rfl
theorem fact_ok9 : okT Try.prog 9 = true := by kernel_rfl
theorem fact_cells9 : Program.cellsOf Try.prog 9 = 1 := by kernel_rfl
theorem fact_bytes9 : Program.bytesOf Try.prog 9 = 16 := by kernel_rfl
theorem fact_agg9 : aggT Try.prog 9 = false := by kernel_rfl
theorem fact_und9 : (Program.underlying Try.prog 9).isSome = true := by kernel_rfl
theorem fact_int9 : intT Try.prog 9 = none := by kernel_rfl
theorem fact_str9 : strT Try.prog 9 = true := by kernel_rfl
theorem fact_zok9 : zeroOK Try.prog 9 = true := by kernel_rfl
theorem fact_zero9 : zeroT Try.prog 9 = some (.string ⟨#[]⟩) := by kernel_rfl
theorem fact_ok12 : okT Try.prog 12 = true := by kernel_rfl
theorem fact_cells12 : Program.cellsOf Try.prog 12 = 1 := by kernel_rfl
theorem fact_bytes12 : Program.bytesOf Try.prog 12 = 8 := by kernel_rfl
theorem fact_agg12 : aggT Try.prog 12 = false := by kernel_rfl
theorem fact_und12 : (Program.underlying Try.prog 12).isSome = true := by kernel_rfl
theorem fact_int12 : intT Try.prog 12 = some .u64 := by kernel_rfl
theorem fact_zok12 : zeroOK Try.prog 12 = true := by kernel_rfl
theorem fact_zero12 : zeroT Try.prog 12 = some (.int .u64 0) := by kernel_rfl
theorem fact_ok21 : okT Try.prog 21 = true := by kernel_rfl
theorem fact_cells21 : Program.cellsOf Try.prog 21 = 1 := by kernel_rfl
theorem fact_bytes21 : Program.bytesOf Try.prog 21 = 4 := by kernel_rfl
theorem fact_agg21 : aggT Try.prog 21 = false := by kernel_rfl
theorem fact_und21 : (Program.underlying Try.prog 21).isSome = true := by kernel_rfl
theorem fact_int21 : intT Try.prog 21 = some .i32 := by kernel_rfl
theorem fact_zok21 : zeroOK Try.prog 21 = true := by kernel_rfl
theorem fact_zero21 : zeroT Try.prog 21 = some (.int .i32 0) := by kernel_rfl
theorem fact_ok22 : okT Try.prog 22 = true := by kernel_rfl
theorem fact_cells22 : Program.cellsOf Try.prog 22 = 1 := by kernel_rfl
theorem fact_bytes22 : Program.bytesOf Try.prog 22 = 24 := by kernel_rfl
theorem fact_agg22 : aggT Try.prog 22 = false := by kernel_rfl
theorem fact_und22 : (Program.underlying Try.prog 22).isSome = true := by kernel_rfl
theorem fact_int22 : intT Try.prog 22 = none := by kernel_rfl
theorem fact_el22 : elT Try.prog 22 = some 23 := by kernel_rfl
theorem fact_sl22 : sliceT Try.prog 22 = true := by kernel_rfl
theorem fact_zok22 : zeroOK Try.prog 22 = true := by kernel_rfl
theorem fact_zero22 : zeroT Try.prog 22 = some (.slice none 0 0) := by kernel_rfl
theorem fact_ok23 : okT Try.prog 23 = true := by kernel_rfl
theorem fact_cells23 : Program.cellsOf Try.prog 23 = 1 := by kernel_rfl
theorem fact_bytes23 : Program.bytesOf Try.prog 23 = 2 := by kernel_rfl
theorem fact_agg23 : aggT Try.prog 23 = false := by kernel_rfl
theorem fact_und23 : (Program.underlying Try.prog 23).isSome = true := by kernel_rfl
theorem fact_int23 : intT Try.prog 23 = some .i16 := by kernel_rfl
theorem fact_zok23 : zeroOK Try.prog 23 = true := by kernel_rfl
theorem fact_zero23 : zeroT Try.prog 23 = some (.int .i16 0) := by kernel_rfl
theorem fact_ok25 : okT Try.prog 25 = true := by kernel_rfl
theorem fact_cells25 : Program.cellsOf Try.prog 25 = 1 := by kernel_rfl
theorem fact_bytes25 : Program.bytesOf Try.prog 25 = 8 := by kernel_rfl
theorem fact_agg25 : aggT Try.prog 25 = false := by kernel_rfl
theorem fact_und25 : (Program.underlying Try.prog 25).isSome = true := by kernel_rfl
theorem fact_int25 : intT Try.prog 25 = some .i64 := by kernel_rfl
theorem fact_zok25 : zeroOK Try.prog 25 = true := by kernel_rfl
theorem fact_zero25 : zeroT Try.prog 25 = some (.int .i64 0) := by kernel_rfl
theorem fact_ok36 : okT Try.prog 36 = true := by kernel_rfl
theorem fact_cells36 : Program.cellsOf Try.prog 36 = 1 := by kernel_rfl
theorem fact_bytes36 : Program.bytesOf Try.prog 36 = 24 := by kernel_rfl
theorem fact_agg36 : aggT Try.prog 36 = false := by kernel_rfl
theorem fact_und36 : (Program.underlying Try.prog 36).isSome = true := by kernel_rfl
theorem fact_int36 : intT Try.prog 36 = none := by kernel_rfl
theorem fact_el36 : elT Try.prog 36 = some 3 := by kernel_rfl
theorem fact_sl36 : sliceT Try.prog 36 = true := by kernel_rfl
theorem fact_zok36 : zeroOK Try.prog 36 = true := by kernel_rfl
theorem fact_zero36 : zeroT Try.prog 36 = some (.slice none 0 0) := by kernel_rfl
theorem fact_ok40 : okT Try.prog 40 = true := by kernel_rfl
theorem fact_cells40 : Program.cellsOf Try.prog 40 = 1 := by kernel_rfl
theorem fact_bytes40 : Program.bytesOf Try.prog 40 = 8 := by kernel_rfl
theorem fact_agg40 : aggT Try.prog 40 = false := by kernel_rfl
theorem fact_und40 : (Program.underlying Try.prog 40).isSome = true := by kernel_rfl
theorem fact_int40 : intT Try.prog 40 = none := by kernel_rfl
theorem fact_map40 : mapT Try.prog 40 = some (23, 4) := by kernel_rfl
theorem fact_ok42 : okT Try.prog 42 = true := by kernel_rfl
theorem fact_cells42 : Program.cellsOf Try.prog 42 = 1 := by kernel_rfl
theorem fact_bytes42 : Program.bytesOf Try.prog 42 = 24 := by kernel_rfl
theorem fact_agg42 : aggT Try.prog 42 = false := by kernel_rfl
theorem fact_und42 : (Program.underlying Try.prog 42).isSome = true := by kernel_rfl
theorem fact_int42 : intT Try.prog 42 = none := by kernel_rfl
theorem fact_el42 : elT Try.prog 42 = some 2 := by kernel_rfl
theorem fact_sl42 : sliceT Try.prog 42 = true := by kernel_rfl
theorem fact_zok42 : zeroOK Try.prog 42 = true := by kernel_rfl
theorem fact_zero42 : zeroT Try.prog 42 = some (.slice none 0 0) := by kernel_rfl
theorem fact_ok43 : okT Try.prog 43 = true := by kernel_rfl
theorem fact_cells43 : Program.cellsOf Try.prog 43 = 1 := by kernel_rfl
theorem fact_bytes43 : Program.bytesOf Try.prog 43 = 24 := by kernel_rfl
theorem fact_agg43 : aggT Try.prog 43 = false := by kernel_rfl
theorem fact_und43 : (Program.underlying Try.prog 43).isSome = true := by kernel_rfl
theorem fact_int43 : intT Try.prog 43 = none := by kernel_rfl
theorem fact_el43 : elT Try.prog 43 = some 46 := by kernel_rfl
theorem fact_sl43 : sliceT Try.prog 43 = true := by kernel_rfl
theorem fact_zok43 : zeroOK Try.prog 43 = true := by kernel_rfl
theorem fact_zero43 : zeroT Try.prog 43 = some (.slice none 0 0) := by kernel_rfl
theorem fact_ok44 : okT Try.prog 44 = true := by kernel_rfl
theorem fact_cells44 : Program.cellsOf Try.prog 44 = 3 := by kernel_rfl
theorem fact_bytes44 : Program.bytesOf Try.prog 44 = 56 := by kernel_rfl
theorem fact_agg44 : aggT Try.prog 44 = true := by kernel_rfl
theorem fact_und44 : (Program.underlying Try.prog 44).isSome = true := by kernel_rfl
theorem fact_int44 : intT Try.prog 44 = none := by kernel_rfl
theorem fact_zok44 : zeroOK Try.prog 44 = true := by kernel_rfl
theorem fact_zero44 : zeroT Try.prog 44 = some (.agg #[.int .i64 0, .slice none 0 0, .slice none 0 0]) := by kernel_rfl
theorem fact_fok44 : fieldsOK Try.prog 44 = true := by kernel_rfl
theorem fact_f0_44 : fieldTO Try.prog 44 0 = some (3, 0) := by kernel_rfl
theorem fact_f1_44 : fieldTO Try.prog 44 1 = some (42, 1) := by kernel_rfl
theorem fact_f2_44 : fieldTO Try.prog 44 2 = some (43, 2) := by kernel_rfl
theorem fact_ok45 : okT Try.prog 45 = true := by kernel_rfl
theorem fact_cells45 : Program.cellsOf Try.prog 45 = 3 := by kernel_rfl
theorem fact_bytes45 : Program.bytesOf Try.prog 45 = 56 := by kernel_rfl
theorem fact_agg45 : aggT Try.prog 45 = true := by kernel_rfl
theorem fact_und45 : (Program.underlying Try.prog 45).isSome = true := by kernel_rfl
theorem fact_int45 : intT Try.prog 45 = none := by kernel_rfl
theorem fact_zok45 : zeroOK Try.prog 45 = true := by kernel_rfl
theorem fact_zero45 : zeroT Try.prog 45 = some (.agg #[.int .i64 0, .slice none 0 0, .slice none 0 0]) := by kernel_rfl
theorem fact_fok45 : fieldsOK Try.prog 45 = true := by kernel_rfl
theorem fact_f0_45 : fieldTO Try.prog 45 0 = some (3, 0) := by kernel_rfl
theorem fact_f1_45 : fieldTO Try.prog 45 1 = some (42, 1) := by kernel_rfl
theorem fact_f2_45 : fieldTO Try.prog 45 2 = some (43, 2) := by kernel_rfl
theorem fact_ok46 : okT Try.prog 46 = true := by kernel_rfl
theorem fact_cells46 : Program.cellsOf Try.prog 46 = 1 := by kernel_rfl
theorem fact_bytes46 : Program.bytesOf Try.prog 46 = 24 := by kernel_rfl
theorem fact_agg46 : aggT Try.prog 46 = false := by kernel_rfl
theorem fact_und46 : (Program.underlying Try.prog 46).isSome = true := by kernel_rfl
theorem fact_int46 : intT Try.prog 46 = none := by kernel_rfl
theorem fact_el46 : elT Try.prog 46 = some 23 := by kernel_rfl
theorem fact_sl46 : sliceT Try.prog 46 = true := by kernel_rfl
theorem fact_zok46 : zeroOK Try.prog 46 = true := by kernel_rfl
theorem fact_zero46 : zeroT Try.prog 46 = some (.slice none 0 0) := by kernel_rfl
theorem fact_ok59 : okT Try.prog 59 = true := by kernel_rfl
theorem fact_cells59 : Program.cellsOf Try.prog 59 = 1 := by kernel_rfl
theorem fact_bytes59 : Program.bytesOf Try.prog 59 = 24 := by kernel_rfl
theorem fact_agg59 : aggT Try.prog 59 = false := by kernel_rfl
theorem fact_und59 : (Program.underlying Try.prog 59).isSome = true := by kernel_rfl
theorem fact_int59 : intT Try.prog 59 = none := by kernel_rfl
theorem fact_el59 : elT Try.prog 59 = some 65 := by kernel_rfl
theorem fact_sl59 : sliceT Try.prog 59 = true := by kernel_rfl
theorem fact_zok59 : zeroOK Try.prog 59 = true := by kernel_rfl
theorem fact_zero59 : zeroT Try.prog 59 = some (.slice none 0 0) := by kernel_rfl
theorem fact_ok62 : okT Try.prog 62 = true := by kernel_rfl
theorem fact_cells62 : Program.cellsOf Try.prog 62 = 1 := by kernel_rfl
theorem fact_bytes62 : Program.bytesOf Try.prog 62 = 8 := by kernel_rfl
theorem fact_agg62 : aggT Try.prog 62 = false := by kernel_rfl
theorem fact_und62 : (Program.underlying Try.prog 62).isSome = true := by kernel_rfl
theorem fact_int62 : intT Try.prog 62 = none := by kernel_rfl
theorem fact_map62 : mapT Try.prog 62 = some (2, 23) := by kernel_rfl
theorem fact_ok63 : okT Try.prog 63 = true := by kernel_rfl
theorem fact_cells63 : Program.cellsOf Try.prog 63 = 1 := by kernel_rfl
theorem fact_bytes63 : Program.bytesOf Try.prog 63 = 8 := by kernel_rfl
theorem fact_agg63 : aggT Try.prog 63 = false := by kernel_rfl
theorem fact_und63 : (Program.underlying Try.prog 63).isSome = true := by kernel_rfl
theorem fact_int63 : intT Try.prog 63 = none := by kernel_rfl
theorem fact_map63 : mapT Try.prog 63 = some (2, 3) := by kernel_rfl
theorem fact_ok64 : okT Try.prog 64 = true := by kernel_rfl
theorem fact_cells64 : Program.cellsOf Try.prog 64 = 3 := by kernel_rfl
theorem fact_bytes64 : Program.bytesOf Try.prog 64 = 24 := by kernel_rfl
theorem fact_agg64 : aggT Try.prog 64 = true := by kernel_rfl
theorem fact_und64 : (Program.underlying Try.prog 64).isSome = true := by kernel_rfl
theorem fact_int64 : intT Try.prog 64 = none := by kernel_rfl
theorem fact_zok64 : zeroOK Try.prog 64 = true := by kernel_rfl
theorem fact_zero64 : zeroT Try.prog 64 = some (.agg #[.int .i64 0, .int .i64 0, .int .i16 0]) := by kernel_rfl
theorem fact_fok64 : fieldsOK Try.prog 64 = true := by kernel_rfl
theorem fact_f0_64 : fieldTO Try.prog 64 0 = some (3, 0) := by kernel_rfl
theorem fact_f1_64 : fieldTO Try.prog 64 1 = some (2, 1) := by kernel_rfl
theorem fact_f2_64 : fieldTO Try.prog 64 2 = some (23, 2) := by kernel_rfl
theorem fact_ok65 : okT Try.prog 65 = true := by kernel_rfl
theorem fact_cells65 : Program.cellsOf Try.prog 65 = 3 := by kernel_rfl
theorem fact_bytes65 : Program.bytesOf Try.prog 65 = 24 := by kernel_rfl
theorem fact_agg65 : aggT Try.prog 65 = true := by kernel_rfl
theorem fact_und65 : (Program.underlying Try.prog 65).isSome = true := by kernel_rfl
theorem fact_int65 : intT Try.prog 65 = none := by kernel_rfl
theorem fact_zok65 : zeroOK Try.prog 65 = true := by kernel_rfl
theorem fact_zero65 : zeroT Try.prog 65 = some (.agg #[.int .i64 0, .int .i64 0, .int .i16 0]) := by kernel_rfl
theorem fact_fok65 : fieldsOK Try.prog 65 = true := by kernel_rfl
theorem fact_f0_65 : fieldTO Try.prog 65 0 = some (3, 0) := by kernel_rfl
theorem fact_f1_65 : fieldTO Try.prog 65 1 = some (2, 1) := by kernel_rfl
theorem fact_f2_65 : fieldTO Try.prog 65 2 = some (23, 2) := by kernel_rfl
theorem fact_ok71 : okT Try.prog 71 = true := by kernel_rfl
theorem fact_cells71 : Program.cellsOf Try.prog 71 = 1 := by kernel_rfl
theorem fact_bytes71 : Program.bytesOf Try.prog 71 = 24 := by kernel_rfl
theorem fact_agg71 : aggT Try.prog 71 = false := by kernel_rfl
theorem fact_und71 : (Program.underlying Try.prog 71).isSome = true := by kernel_rfl
theorem fact_int71 : intT Try.prog 71 = none := by kernel_rfl
theorem fact_el71 : elT Try.prog 71 = some 22 := by kernel_rfl
theorem fact_sl71 : sliceT Try.prog 71 = true := by kernel_rfl
theorem fact_zok71 : zeroOK Try.prog 71 = true := by kernel_rfl
theorem fact_zero71 : zeroT Try.prog 71 = some (.slice none 0 0) := by kernel_rfl
theorem fact_ok72 : okT Try.prog 72 = true := by kernel_rfl
theorem fact_cells72 : Program.cellsOf Try.prog 72 = 2 := by kernel_rfl
theorem fact_bytes72 : Program.bytesOf Try.prog 72 = 32 := by kernel_rfl
theorem fact_agg72 : aggT Try.prog 72 = true := by kernel_rfl
theorem fact_und72 : (Program.underlying Try.prog 72).isSome = true := by kernel_rfl
theorem fact_int72 : intT Try.prog 72 = none := by kernel_rfl
theorem fact_zok72 : zeroOK Try.prog 72 = true := by kernel_rfl
theorem fact_zero72 : zeroT Try.prog 72 = some (.agg #[.int .i64 0, .slice none 0 0]) := by kernel_rfl
theorem fact_fok72 : fieldsOK Try.prog 72 = true := by kernel_rfl
theorem fact_f0_72 : fieldTO Try.prog 72 0 = some (2, 0) := by kernel_rfl
theorem fact_f1_72 : fieldTO Try.prog 72 1 = some (71, 1) := by kernel_rfl
theorem fact_ok73 : okT Try.prog 73 = true := by kernel_rfl
theorem fact_cells73 : Program.cellsOf Try.prog 73 = 2 := by kernel_rfl
theorem fact_bytes73 : Program.bytesOf Try.prog 73 = 32 := by kernel_rfl
theorem fact_agg73 : aggT Try.prog 73 = true := by kernel_rfl
theorem fact_und73 : (Program.underlying Try.prog 73).isSome = true := by kernel_rfl
theorem fact_int73 : intT Try.prog 73 = none := by kernel_rfl
theorem fact_zok73 : zeroOK Try.prog 73 = true := by kernel_rfl
theorem fact_zero73 : zeroT Try.prog 73 = some (.agg #[.int .i64 0, .slice none 0 0]) := by kernel_rfl
theorem fact_fok73 : fieldsOK Try.prog 73 = true := by kernel_rfl
theorem fact_f0_73 : fieldTO Try.prog 73 0 = some (2, 0) := by kernel_rfl
theorem fact_f1_73 : fieldTO Try.prog 73 1 = some (71, 1) := by kernel_rfl
theorem fact_ok74 : okT Try.prog 74 = true := by kernel_rfl
theorem fact_cells74 : Program.cellsOf Try.prog 74 = 1 := by kernel_rfl
theorem fact_bytes74 : Program.bytesOf Try.prog 74 = 24 := by kernel_rfl
theorem fact_agg74 : aggT Try.prog 74 = false := by kernel_rfl
theorem fact_und74 : (Program.underlying Try.prog 74).isSome = true := by kernel_rfl
theorem fact_int74 : intT Try.prog 74 = none := by kernel_rfl
theorem fact_el74 : elT Try.prog 74 = some 5 := by kernel_rfl
theorem fact_sl74 : sliceT Try.prog 74 = true := by kernel_rfl
theorem fact_zok74 : zeroOK Try.prog 74 = true := by kernel_rfl
theorem fact_zero74 : zeroT Try.prog 74 = some (.slice none 0 0) := by kernel_rfl
theorem fact_ok92 : okT Try.prog 92 = true := by kernel_rfl
theorem fact_cells92 : Program.cellsOf Try.prog 92 = 1 := by kernel_rfl
theorem fact_bytes92 : Program.bytesOf Try.prog 92 = 24 := by kernel_rfl
theorem fact_agg92 : aggT Try.prog 92 = false := by kernel_rfl
theorem fact_und92 : (Program.underlying Try.prog 92).isSome = true := by kernel_rfl
theorem fact_int92 : intT Try.prog 92 = none := by kernel_rfl
theorem fact_el92 : elT Try.prog 92 = some 40 := by kernel_rfl
theorem fact_sl92 : sliceT Try.prog 92 = true := by kernel_rfl
theorem fact_zok92 : zeroOK Try.prog 92 = true := by kernel_rfl
theorem fact_zero92 : zeroT Try.prog 92 = some (.slice none 0 0) := by kernel_rfl
theorem fact_ok95 : okT Try.prog 95 = true := by kernel_rfl
theorem fact_cells95 : Program.cellsOf Try.prog 95 = 1 := by kernel_rfl
theorem fact_bytes95 : Program.bytesOf Try.prog 95 = 8 := by kernel_rfl
theorem fact_agg95 : aggT Try.prog 95 = false := by kernel_rfl
theorem fact_und95 : (Program.underlying Try.prog 95).isSome = true := by kernel_rfl
theorem fact_int95 : intT Try.prog 95 = none := by kernel_rfl
theorem fact_map95 : mapT Try.prog 95 = some (23, 3) := by kernel_rfl
theorem fact_ok97 : okT Try.prog 97 = true := by kernel_rfl
theorem fact_cells97 : Program.cellsOf Try.prog 97 = 1 := by kernel_rfl
theorem fact_bytes97 : Program.bytesOf Try.prog 97 = 8 := by kernel_rfl
theorem fact_agg97 : aggT Try.prog 97 = false := by kernel_rfl
theorem fact_und97 : (Program.underlying Try.prog 97).isSome = true := by kernel_rfl
theorem fact_int97 : intT Try.prog 97 = some .u64 := by kernel_rfl
theorem fact_zok97 : zeroOK Try.prog 97 = true := by kernel_rfl
theorem fact_zero97 : zeroT Try.prog 97 = some (.int .u64 0) := by kernel_rfl
theorem fact_ok98 : okT Try.prog 98 = true := by kernel_rfl
theorem fact_cells98 : Program.cellsOf Try.prog 98 = 3 := by kernel_rfl
theorem fact_bytes98 : Program.bytesOf Try.prog 98 = 40 := by kernel_rfl
theorem fact_agg98 : aggT Try.prog 98 = true := by kernel_rfl
theorem fact_und98 : (Program.underlying Try.prog 98).isSome = true := by kernel_rfl
theorem fact_int98 : intT Try.prog 98 = none := by kernel_rfl
theorem fact_zok98 : zeroOK Try.prog 98 = true := by kernel_rfl
theorem fact_zero98 : zeroT Try.prog 98 = some (.agg #[.int .u64 0, .int .i64 0, .slice none 0 0]) := by kernel_rfl
theorem fact_fok98 : fieldsOK Try.prog 98 = true := by kernel_rfl
theorem fact_f0_98 : fieldTO Try.prog 98 0 = some (97, 0) := by kernel_rfl
theorem fact_f1_98 : fieldTO Try.prog 98 1 = some (3, 1) := by kernel_rfl
theorem fact_f2_98 : fieldTO Try.prog 98 2 = some (43, 2) := by kernel_rfl
theorem fact_ok99 : okT Try.prog 99 = true := by kernel_rfl
theorem fact_cells99 : Program.cellsOf Try.prog 99 = 3 := by kernel_rfl
theorem fact_bytes99 : Program.bytesOf Try.prog 99 = 40 := by kernel_rfl
theorem fact_agg99 : aggT Try.prog 99 = true := by kernel_rfl
theorem fact_und99 : (Program.underlying Try.prog 99).isSome = true := by kernel_rfl
theorem fact_int99 : intT Try.prog 99 = none := by kernel_rfl
theorem fact_zok99 : zeroOK Try.prog 99 = true := by kernel_rfl
theorem fact_zero99 : zeroT Try.prog 99 = some (.agg #[.int .u64 0, .int .i64 0, .slice none 0 0]) := by kernel_rfl
theorem fact_fok99 : fieldsOK Try.prog 99 = true := by kernel_rfl
theorem fact_f0_99 : fieldTO Try.prog 99 0 = some (97, 0) := by kernel_rfl
theorem fact_f1_99 : fieldTO Try.prog 99 1 = some (3, 1) := by kernel_rfl
theorem fact_f2_99 : fieldTO Try.prog 99 2 = some (43, 2) := by kernel_rfl
theorem fact_ok115 : okT Try.prog 115 = true := by kernel_rfl
theorem fact_cells115 : Program.cellsOf Try.prog 115 = 6 := by kernel_rfl
theorem fact_bytes115 : Program.bytesOf Try.prog 115 = 80 := by kernel_rfl
theorem fact_agg115 : aggT Try.prog 115 = true := by kernel_rfl
theorem fact_und115 : (Program.underlying Try.prog 115).isSome = true := by kernel_rfl
theorem fact_int115 : intT Try.prog 115 = none := by kernel_rfl
theorem fact_arr115 : arrT Try.prog 115 = some (2, 99) := by kernel_rfl
theorem fact_zok115 : zeroOK Try.prog 115 = true := by kernel_rfl
theorem fact_zero115 : zeroT Try.prog 115 = some (.agg #[.int .u64 0, .int .i64 0, .slice none 0 0, .int .u64 0, .int .i64 0, .slice none 0 0]) := by kernel_rfl
theorem fact_fok115 : fieldsOK Try.prog 115 = true := by kernel_rfl
theorem fact_ok142 : okT Try.prog 142 = true := by kernel_rfl
theorem fact_cells142 : Program.cellsOf Try.prog 142 = 1 := by kernel_rfl
theorem fact_bytes142 : Program.bytesOf Try.prog 142 = 8 := by kernel_rfl
theorem fact_agg142 : aggT Try.prog 142 = false := by kernel_rfl
theorem fact_und142 : (Program.underlying Try.prog 142).isSome = true := by kernel_rfl
theorem fact_int142 : intT Try.prog 142 = some .u64 := by kernel_rfl
theorem fact_zok142 : zeroOK Try.prog 142 = true := by kernel_rfl
theorem fact_zero142 : zeroT Try.prog 142 = some (.int .u64 0) := by kernel_rfl
theorem fact_ok150 : okT Try.prog 150 = true := by kernel_rfl
theorem fact_cells150 : Program.cellsOf Try.prog 150 = 1 := by kernel_rfl
theorem fact_bytes150 : Program.bytesOf Try.prog 150 = 16 := by kernel_rfl
theorem fact_agg150 : aggT Try.prog 150 = false := by kernel_rfl
theorem fact_und150 : (Program.underlying Try.prog 150).isSome = true := by kernel_rfl
theorem fact_int150 : intT Try.prog 150 = none := by kernel_rfl
theorem fact_ok151 : okT Try.prog 151 = true := by kernel_rfl
theorem fact_cells151 : Program.cellsOf Try.prog 151 = 1 := by kernel_rfl
theorem fact_bytes151 : Program.bytesOf Try.prog 151 = 8 := by kernel_rfl
theorem fact_agg151 : aggT Try.prog 151 = false := by kernel_rfl
theorem fact_und151 : (Program.underlying Try.prog 151).isSome = true := by kernel_rfl
theorem fact_int151 : intT Try.prog 151 = none := by kernel_rfl
theorem fact_flt151 : fltT Try.prog 151 = some .f64 := by kernel_rfl
theorem fact_ok178 : okT Try.prog 178 = true := by kernel_rfl
theorem fact_cells178 : Program.cellsOf Try.prog 178 = 1 := by kernel_rfl
theorem fact_bytes178 : Program.bytesOf Try.prog 178 = 8 := by kernel_rfl
theorem fact_agg178 : aggT Try.prog 178 = false := by kernel_rfl
theorem fact_und178 : (Program.underlying Try.prog 178).isSome = true := by kernel_rfl
theorem fact_int178 : intT Try.prog 178 = some .i64 := by kernel_rfl
theorem fact_zok178 : zeroOK Try.prog 178 = true := by kernel_rfl
theorem fact_zero178 : zeroT Try.prog 178 = some (.int .i64 0) := by kernel_rfl
theorem fact_ok186 : okT Try.prog 186 = true := by kernel_rfl
theorem fact_cells186 : Program.cellsOf Try.prog 186 = 1 := by kernel_rfl
theorem fact_bytes186 : Program.bytesOf Try.prog 186 = 4 := by kernel_rfl
theorem fact_agg186 : aggT Try.prog 186 = false := by kernel_rfl
theorem fact_und186 : (Program.underlying Try.prog 186).isSome = true := by kernel_rfl
theorem fact_int186 : intT Try.prog 186 = some .u32 := by kernel_rfl
theorem fact_zok186 : zeroOK Try.prog 186 = true := by kernel_rfl
theorem fact_zero186 : zeroT Try.prog 186 = some (.int .u32 0) := by kernel_rfl
theorem fact_ok197 : okT Try.prog 197 = true := by kernel_rfl
theorem fact_cells197 : Program.cellsOf Try.prog 197 = 1 := by kernel_rfl
theorem fact_bytes197 : Program.bytesOf Try.prog 197 = 8 := by kernel_rfl
theorem fact_agg197 : aggT Try.prog 197 = false := by kernel_rfl
theorem fact_und197 : (Program.underlying Try.prog 197).isSome = true := by kernel_rfl
theorem fact_int197 : intT Try.prog 197 = some .u64 := by kernel_rfl
theorem fact_zok197 : zeroOK Try.prog 197 = true := by kernel_rfl
theorem fact_zero197 : zeroT Try.prog 197 = some (.int .u64 0) := by kernel_rfl
theorem cal3 : callable Try.prog 3 = true := by kernel_rfl
theorem cal4 : callable Try.prog 4 = true := by kernel_rfl
theorem cal5 : callable Try.prog 5 = true := by kernel_rfl
theorem cal6 : callable Try.prog 6 = true := by kernel_rfl
theorem cal7 : callable Try.prog 7 = true := by kernel_rfl
theorem cal8 : callable Try.prog 8 = true := by kernel_rfl
theorem cal9 : callable Try.prog 9 = true := by kernel_rfl
theorem cal10 : callable Try.prog 10 = true := by kernel_rfl
theorem cal11 : callable Try.prog 11 = true := by kernel_rfl
theorem cal12 : callable Try.prog 12 = true := by kernel_rfl
theorem cal13 : callable Try.prog 13 = true := by kernel_rfl
theorem cal14 : callable Try.prog 14 = true := by kernel_rfl
theorem cal15 : callable Try.prog 15 = true := by kernel_rfl
theorem cal16 : callable Try.prog 16 = true := by kernel_rfl
theorem cal17 : callable Try.prog 17 = true := by kernel_rfl
theorem cal18 : callable Try.prog 18 = true := by kernel_rfl
theorem cal19 : callable Try.prog 19 = true := by kernel_rfl
theorem cal20 : callable Try.prog 20 = true := by kernel_rfl
theorem cal21 : callable Try.prog 21 = true := by kernel_rfl
theorem cal22 : callable Try.prog 22 = true := by kernel_rfl
theorem cal23 : callable Try.prog 23 = true := by kernel_rfl
theorem cal24 : callable Try.prog 24 = true := by kernel_rfl
theorem cal25 : callable Try.prog 25 = true := by kernel_rfl
theorem cal26 : callable Try.prog 26 = true := by kernel_rfl
theorem cal27 : callable Try.prog 27 = true := by kernel_rfl
theorem cal28 : callable Try.prog 28 = true := by kernel_rfl
theorem cal29 : callable Try.prog 29 = true := by kernel_rfl
theorem cal30 : callable Try.prog 30 = true := by kernel_rfl
theorem cal31 : callable Try.prog 31 = true := by kernel_rfl
theorem cal32 : callable Try.prog 32 = true := by kernel_rfl
theorem cal33 : callable Try.prog 33 = true := by kernel_rfl
theorem cal34 : callable Try.prog 34 = true := by kernel_rfl
theorem cal35 : callable Try.prog 35 = true := by kernel_rfl
theorem cal36 : callable Try.prog 36 = true := by kernel_rfl
theorem cal37 : callable Try.prog 37 = true := by kernel_rfl
theorem cal38 : callable Try.prog 38 = true := by kernel_rfl
theorem cal39 : callable Try.prog 39 = true := by kernel_rfl
theorem cal40 : callable Try.prog 40 = true := by kernel_rfl
theorem cal41 : callable Try.prog 41 = true := by kernel_rfl
theorem cal42 : callable Try.prog 42 = true := by kernel_rfl
theorem cal43 : callable Try.prog 43 = true := by kernel_rfl
theorem cal44 : callable Try.prog 44 = true := by kernel_rfl
theorem cal45 : callable Try.prog 45 = true := by kernel_rfl
theorem cal46 : callable Try.prog 46 = true := by kernel_rfl
theorem cal47 : callable Try.prog 47 = true := by kernel_rfl
theorem cal48 : callable Try.prog 48 = true := by kernel_rfl
theorem cal49 : callable Try.prog 49 = true := by kernel_rfl
theorem cal50 : callable Try.prog 50 = true := by kernel_rfl
theorem cal51 : callable Try.prog 51 = true := by kernel_rfl
theorem cal52 : callable Try.prog 52 = true := by kernel_rfl
theorem cal53 : callable Try.prog 53 = true := by kernel_rfl
theorem cal54 : callable Try.prog 54 = true := by kernel_rfl
theorem cal55 : callable Try.prog 55 = true := by kernel_rfl
theorem cal56 : callable Try.prog 56 = true := by kernel_rfl
theorem cal57 : callable Try.prog 57 = true := by kernel_rfl
theorem cal58 : callable Try.prog 58 = true := by kernel_rfl
theorem cal59 : callable Try.prog 59 = true := by kernel_rfl
theorem cal60 : callable Try.prog 60 = true := by kernel_rfl
theorem cal61 : callable Try.prog 61 = true := by kernel_rfl
theorem cal62 : callable Try.prog 62 = true := by kernel_rfl
theorem cal63 : callable Try.prog 63 = true := by kernel_rfl
theorem cal64 : callable Try.prog 64 = true := by kernel_rfl
theorem cal65 : callable Try.prog 65 = true := by kernel_rfl
theorem cal66 : callable Try.prog 66 = true := by kernel_rfl
theorem cal67 : callable Try.prog 67 = true := by kernel_rfl
theorem cal68 : callable Try.prog 68 = true := by kernel_rfl
theorem cal69 : callable Try.prog 69 = true := by kernel_rfl
theorem cal70 : callable Try.prog 70 = true := by kernel_rfl
theorem cal71 : callable Try.prog 71 = true := by kernel_rfl
theorem cal72 : callable Try.prog 72 = true := by kernel_rfl
theorem cal73 : callable Try.prog 73 = true := by kernel_rfl
theorem cal74 : callable Try.prog 74 = true := by kernel_rfl
theorem cal75 : callable Try.prog 75 = true := by kernel_rfl
theorem cal76 : callable Try.prog 76 = true := by kernel_rfl
theorem cal77 : callable Try.prog 77 = true := by kernel_rfl
theorem cal78 : callable Try.prog 78 = true := by kernel_rfl
theorem cal79 : callable Try.prog 79 = true := by kernel_rfl
theorem cal80 : callable Try.prog 80 = true := by kernel_rfl
theorem cal81 : callable Try.prog 81 = true := by kernel_rfl
theorem cal82 : callable Try.prog 82 = true := by kernel_rfl
theorem cal83 : callable Try.prog 83 = true := by kernel_rfl
theorem cal84 : callable Try.prog 84 = true := by kernel_rfl
theorem cal85 : callable Try.prog 85 = true := by kernel_rfl
theorem cal86 : callable Try.prog 86 = true := by kernel_rfl
theorem cal87 : callable Try.prog 87 = true := by kernel_rfl
theorem cal88 : callable Try.prog 88 = true := by kernel_rfl
theorem cal89 : callable Try.prog 89 = true := by kernel_rfl
theorem cal90 : callable Try.prog 90 = true := by kernel_rfl
theorem cal91 : callable Try.prog 91 = true := by kernel_rfl
theorem cal92 : callable Try.prog 92 = true := by kernel_rfl
theorem cal93 : callable Try.prog 93 = true := by kernel_rfl
theorem cal94 : callable Try.prog 94 = true := by kernel_rfl
theorem cal95 : callable Try.prog 95 = true := by kernel_rfl
theorem cal96 : callable Try.prog 96 = true := by kernel_rfl
theorem cal97 : callable Try.prog 97 = true := by kernel_rfl
theorem cal98 : callable Try.prog 98 = true := by kernel_rfl
theorem cal99 : callable Try.prog 99 = true := by kernel_rfl
theorem cal100 : callable Try.prog 100 = true := by kernel_rfl
theorem cal101 : callable Try.prog 101 = true := by kernel_rfl
theorem cal102 : callable Try.prog 102 = true := by kernel_rfl
theorem cal103 : callable Try.prog 103 = true := by kernel_rfl
theorem cal104 : callable Try.prog 104 = true := by kernel_rfl
theorem cal105 : callable Try.prog 105 = true := by kernel_rfl
theorem cal106 : callable Try.prog 106 = true := by kernel_rfl
theorem cal107 : callable Try.prog 107 = true := by kernel_rfl
theorem cal108 : callable Try.prog 108 = true := by kernel_rfl
theorem cal109 : callable Try.prog 109 = true := by kernel_rfl
theorem cal110 : callable Try.prog 110 = true := by kernel_rfl
theorem cal111 : callable Try.prog 111 = true := by kernel_rfl
theorem cal112 : callable Try.prog 112 = true := by kernel_rfl
theorem cal113 : callable Try.prog 113 = true := by kernel_rfl
theorem cal114 : callable Try.prog 114 = true := by kernel_rfl
theorem cal115 : callable Try.prog 115 = true := by kernel_rfl
theorem cal116 : callable Try.prog 116 = true := by kernel_rfl
theorem cal117 : callable Try.prog 117 = true := by kernel_rfl
theorem cal118 : callable Try.prog 118 = true := by kernel_rfl
theorem cal119 : callable Try.prog 119 = true := by kernel_rfl
theorem cal120 : callable Try.prog 120 = true := by kernel_rfl
theorem cal121 : callable Try.prog 121 = true := by kernel_rfl
theorem cal122 : callable Try.prog 122 = true := by kernel_rfl
theorem cal123 : callable Try.prog 123 = true := by kernel_rfl
theorem cal124 : callable Try.prog 124 = true := by kernel_rfl
theorem cal125 : callable Try.prog 125 = true := by kernel_rfl
theorem cal126 : callable Try.prog 126 = true := by kernel_rfl
theorem cal127 : callable Try.prog 127 = true := by kernel_rfl
theorem cal128 : callable Try.prog 128 = true := by kernel_rfl
theorem cal129 : callable Try.prog 129 = true := by kernel_rfl
theorem cal130 : callable Try.prog 130 = true := by kernel_rfl
theorem cal131 : callable Try.prog 131 = true := by kernel_rfl
theorem cal132 : callable Try.prog 132 = true := by kernel_rfl
theorem cal133 : callable Try.prog 133 = true := by kernel_rfl
theorem cal134 : callable Try.prog 134 = true := by kernel_rfl
theorem cal135 : callable Try.prog 135 = true := by kernel_rfl
theorem cal136 : callable Try.prog 136 = true := by kernel_rfl
theorem cal137 : callable Try.prog 137 = true := by kernel_rfl
theorem cal138 : callable Try.prog 138 = true := by kernel_rfl
theorem cal139 : callable Try.prog 139 = true := by kernel_rfl
theorem cal140 : callable Try.prog 140 = true := by kernel_rfl
theorem cal141 : callable Try.prog 141 = true := by kernel_rfl
theorem cal142 : callable Try.prog 142 = true := by kernel_rfl
theorem cal143 : callable Try.prog 143 = true := by kernel_rfl
theorem cal144 : callable Try.prog 144 = true := by kernel_rfl
theorem cal145 : callable Try.prog 145 = true := by kernel_rfl
theorem cal146 : callable Try.prog 146 = true := by kernel_rfl
theorem cal147 : callable Try.prog 147 = true := by kernel_rfl
theorem cal148 : callable Try.prog 148 = true := by kernel_rfl
theorem cal149 : callable Try.prog 149 = true := by kernel_rfl
theorem cal150 : callable Try.prog 150 = true := by kernel_rfl
theorem cal151 : callable Try.prog 151 = true := by kernel_rfl
theorem cal152 : callable Try.prog 152 = true := by kernel_rfl
theorem cal153 : callable Try.prog 153 = true := by kernel_rfl
theorem cal154 : callable Try.prog 154 = true := by kernel_rfl
theorem cal155 : callable Try.prog 155 = true := by kernel_rfl
theorem cal156 : callable Try.prog 156 = true := by kernel_rfl
theorem cal157 : callable Try.prog 157 = true := by kernel_rfl
theorem cal158 : callable Try.prog 158 = true := by kernel_rfl
theorem cal159 : callable Try.prog 159 = true := by kernel_rfl
theorem cal160 : callable Try.prog 160 = true := by kernel_rfl
theorem cal161 : callable Try.prog 161 = true := by kernel_rfl
theorem cal162 : callable Try.prog 162 = true := by kernel_rfl
theorem cal163 : callable Try.prog 163 = true := by kernel_rfl
theorem cal164 : callable Try.prog 164 = true := by kernel_rfl
theorem cal165 : callable Try.prog 165 = true := by kernel_rfl
theorem cal166 : callable Try.prog 166 = true := by kernel_rfl
theorem cal167 : callable Try.prog 167 = true := by kernel_rfl
theorem cal168 : callable Try.prog 168 = true := by kernel_rfl
theorem cal169 : callable Try.prog 169 = true := by kernel_rfl
theorem cal170 : callable Try.prog 170 = true := by kernel_rfl
theorem cal171 : callable Try.prog 171 = true := by kernel_rfl
theorem cal172 : callable Try.prog 172 = true := by kernel_rfl
theorem cal173 : callable Try.prog 173 = true := by kernel_rfl
theorem cal174 : callable Try.prog 174 = true := by kernel_rfl
theorem cal175 : callable Try.prog 175 = true := by kernel_rfl
theorem cal176 : callable Try.prog 176 = true := by kernel_rfl
theorem cal177 : callable Try.prog 177 = true := by kernel_rfl
theorem cal178 : callable Try.prog 178 = true := by kernel_rfl
theorem cal179 : callable Try.prog 179 = true := by kernel_rfl
theorem cal180 : callable Try.prog 180 = true := by kernel_rfl
theorem cal181 : callable Try.prog 181 = true := by kernel_rfl
theorem cal182 : callable Try.prog 182 = true := by kernel_rfl
theorem cal183 : callable Try.prog 183 = true := by kernel_rfl
theorem cal184 : callable Try.prog 184 = true := by kernel_rfl
theorem cal185 : callable Try.prog 185 = true := by kernel_rfl
theorem cal186 : callable Try.prog 186 = true := by kernel_rfl
theorem cal187 : callable Try.prog 187 = true := by kernel_rfl
theorem cal188 : callable Try.prog 188 = true := by kernel_rfl
theorem cal189 : callable Try.prog 189 = true := by kernel_rfl
theorem cal190 : callable Try.prog 190 = true := by kernel_rfl
theorem cal191 : callable Try.prog 191 = true := by kernel_rfl
theorem cal192 : callable Try.prog 192 = true := by kernel_rfl
theorem cal193 : callable Try.prog 193 = true := by kernel_rfl
theorem cal194 : callable Try.prog 194 = true := by kernel_rfl
theorem mixed : Try.prog.follows .mixedOrders = true := by kernel_rfl
def factsT2 := (And.intro (And.intro (And.intro fact_ok2 fact_cells2) (And.intro fact_bytes2 fact_agg2)) (And.intro (And.intro fact_und2 fact_int2) (And.intro fact_zok2 fact_zero2)))
def factsT3 := (And.intro (And.intro (And.intro fact_ok3 fact_cells3) (And.intro fact_bytes3 fact_agg3)) (And.intro (And.intro fact_und3 fact_int3) (And.intro fact_zok3 fact_zero3)))
def factsT4 := (And.intro (And.intro (And.intro fact_ok4 fact_cells4) (And.intro fact_bytes4 fact_agg4)) (And.intro (And.intro fact_und4 fact_int4) (And.intro fact_bool4 (And.intro fact_zok4 fact_zero4))))
def factsT5 := (And.intro (And.intro (And.intro fact_ok5 fact_cells5) (And.intro fact_bytes5 fact_agg5)) (And.intro (And.intro fact_und5 fact_int5) (And.intro fact_zok5 fact_zero5)))
def factsT9 := (And.intro (And.intro (And.intro fact_ok9 fact_cells9) (And.intro fact_bytes9 fact_agg9)) (And.intro (And.intro fact_und9 fact_int9) (And.intro fact_str9 (And.intro fact_zok9 fact_zero9))))
def factsT12 := (And.intro (And.intro (And.intro fact_ok12 fact_cells12) (And.intro fact_bytes12 fact_agg12)) (And.intro (And.intro fact_und12 fact_int12) (And.intro fact_zok12 fact_zero12)))
def factsT21 := (And.intro (And.intro (And.intro fact_ok21 fact_cells21) (And.intro fact_bytes21 fact_agg21)) (And.intro (And.intro fact_und21 fact_int21) (And.intro fact_zok21 fact_zero21)))
def factsT22 := (And.intro (And.intro (And.intro fact_ok22 fact_cells22) (And.intro fact_bytes22 (And.intro fact_agg22 fact_und22))) (And.intro (And.intro fact_int22 fact_el22) (And.intro fact_sl22 (And.intro fact_zok22 fact_zero22))))
def factsT23 := (And.intro (And.intro (And.intro fact_ok23 fact_cells23) (And.intro fact_bytes23 fact_agg23)) (And.intro (And.intro fact_und23 fact_int23) (And.intro fact_zok23 fact_zero23)))
def factsT25 := (And.intro (And.intro (And.intro fact_ok25 fact_cells25) (And.intro fact_bytes25 fact_agg25)) (And.intro (And.intro fact_und25 fact_int25) (And.intro fact_zok25 fact_zero25)))
def factsT36 := (And.intro (And.intro (And.intro fact_ok36 fact_cells36) (And.intro fact_bytes36 (And.intro fact_agg36 fact_und36))) (And.intro (And.intro fact_int36 fact_el36) (And.intro fact_sl36 (And.intro fact_zok36 fact_zero36))))
def factsT40 := (And.intro (And.intro fact_ok40 (And.intro fact_cells40 fact_bytes40)) (And.intro (And.intro fact_agg40 fact_und40) (And.intro fact_int40 fact_map40)))
def factsT42 := (And.intro (And.intro (And.intro fact_ok42 fact_cells42) (And.intro fact_bytes42 (And.intro fact_agg42 fact_und42))) (And.intro (And.intro fact_int42 fact_el42) (And.intro fact_sl42 (And.intro fact_zok42 fact_zero42))))
def factsT43 := (And.intro (And.intro (And.intro fact_ok43 fact_cells43) (And.intro fact_bytes43 (And.intro fact_agg43 fact_und43))) (And.intro (And.intro fact_int43 fact_el43) (And.intro fact_sl43 (And.intro fact_zok43 fact_zero43))))
def factsT44 := (And.intro (And.intro (And.intro fact_ok44 (And.intro fact_cells44 fact_bytes44)) (And.intro fact_agg44 (And.intro fact_und44 fact_int44))) (And.intro (And.intro fact_zok44 (And.intro fact_zero44 fact_fok44)) (And.intro fact_f0_44 (And.intro fact_f1_44 fact_f2_44))))
def factsT45 := (And.intro (And.intro (And.intro fact_ok45 (And.intro fact_cells45 fact_bytes45)) (And.intro fact_agg45 (And.intro fact_und45 fact_int45))) (And.intro (And.intro fact_zok45 (And.intro fact_zero45 fact_fok45)) (And.intro fact_f0_45 (And.intro fact_f1_45 fact_f2_45))))
def factsT46 := (And.intro (And.intro (And.intro fact_ok46 fact_cells46) (And.intro fact_bytes46 (And.intro fact_agg46 fact_und46))) (And.intro (And.intro fact_int46 fact_el46) (And.intro fact_sl46 (And.intro fact_zok46 fact_zero46))))
def factsT59 := (And.intro (And.intro (And.intro fact_ok59 fact_cells59) (And.intro fact_bytes59 (And.intro fact_agg59 fact_und59))) (And.intro (And.intro fact_int59 fact_el59) (And.intro fact_sl59 (And.intro fact_zok59 fact_zero59))))
def factsT62 := (And.intro (And.intro fact_ok62 (And.intro fact_cells62 fact_bytes62)) (And.intro (And.intro fact_agg62 fact_und62) (And.intro fact_int62 fact_map62)))
def factsT63 := (And.intro (And.intro fact_ok63 (And.intro fact_cells63 fact_bytes63)) (And.intro (And.intro fact_agg63 fact_und63) (And.intro fact_int63 fact_map63)))
def factsT64 := (And.intro (And.intro (And.intro fact_ok64 (And.intro fact_cells64 fact_bytes64)) (And.intro fact_agg64 (And.intro fact_und64 fact_int64))) (And.intro (And.intro fact_zok64 (And.intro fact_zero64 fact_fok64)) (And.intro fact_f0_64 (And.intro fact_f1_64 fact_f2_64))))
def factsT65 := (And.intro (And.intro (And.intro fact_ok65 (And.intro fact_cells65 fact_bytes65)) (And.intro fact_agg65 (And.intro fact_und65 fact_int65))) (And.intro (And.intro fact_zok65 (And.intro fact_zero65 fact_fok65)) (And.intro fact_f0_65 (And.intro fact_f1_65 fact_f2_65))))
def factsT71 := (And.intro (And.intro (And.intro fact_ok71 fact_cells71) (And.intro fact_bytes71 (And.intro fact_agg71 fact_und71))) (And.intro (And.intro fact_int71 fact_el71) (And.intro fact_sl71 (And.intro fact_zok71 fact_zero71))))
def factsT72 := (And.intro (And.intro (And.intro fact_ok72 fact_cells72) (And.intro fact_bytes72 (And.intro fact_agg72 fact_und72))) (And.intro (And.intro fact_int72 (And.intro fact_zok72 fact_zero72)) (And.intro fact_fok72 (And.intro fact_f0_72 fact_f1_72))))
def factsT73 := (And.intro (And.intro (And.intro fact_ok73 fact_cells73) (And.intro fact_bytes73 (And.intro fact_agg73 fact_und73))) (And.intro (And.intro fact_int73 (And.intro fact_zok73 fact_zero73)) (And.intro fact_fok73 (And.intro fact_f0_73 fact_f1_73))))
def factsT74 := (And.intro (And.intro (And.intro fact_ok74 fact_cells74) (And.intro fact_bytes74 (And.intro fact_agg74 fact_und74))) (And.intro (And.intro fact_int74 fact_el74) (And.intro fact_sl74 (And.intro fact_zok74 fact_zero74))))
def factsT92 := (And.intro (And.intro (And.intro fact_ok92 fact_cells92) (And.intro fact_bytes92 (And.intro fact_agg92 fact_und92))) (And.intro (And.intro fact_int92 fact_el92) (And.intro fact_sl92 (And.intro fact_zok92 fact_zero92))))
def factsT95 := (And.intro (And.intro fact_ok95 (And.intro fact_cells95 fact_bytes95)) (And.intro (And.intro fact_agg95 fact_und95) (And.intro fact_int95 fact_map95)))
def factsT97 := (And.intro (And.intro (And.intro fact_ok97 fact_cells97) (And.intro fact_bytes97 fact_agg97)) (And.intro (And.intro fact_und97 fact_int97) (And.intro fact_zok97 fact_zero97)))
def factsT98 := (And.intro (And.intro (And.intro fact_ok98 (And.intro fact_cells98 fact_bytes98)) (And.intro fact_agg98 (And.intro fact_und98 fact_int98))) (And.intro (And.intro fact_zok98 (And.intro fact_zero98 fact_fok98)) (And.intro fact_f0_98 (And.intro fact_f1_98 fact_f2_98))))
def factsT99 := (And.intro (And.intro (And.intro fact_ok99 (And.intro fact_cells99 fact_bytes99)) (And.intro fact_agg99 (And.intro fact_und99 fact_int99))) (And.intro (And.intro fact_zok99 (And.intro fact_zero99 fact_fok99)) (And.intro fact_f0_99 (And.intro fact_f1_99 fact_f2_99))))
def factsT115 := (And.intro (And.intro (And.intro fact_ok115 fact_cells115) (And.intro fact_bytes115 (And.intro fact_agg115 fact_und115))) (And.intro (And.intro fact_int115 fact_arr115) (And.intro fact_zok115 (And.intro fact_zero115 fact_fok115))))
def factsT142 := (And.intro (And.intro (And.intro fact_ok142 fact_cells142) (And.intro fact_bytes142 fact_agg142)) (And.intro (And.intro fact_und142 fact_int142) (And.intro fact_zok142 fact_zero142)))
def factsT150 := (And.intro (And.intro fact_ok150 (And.intro fact_cells150 fact_bytes150)) (And.intro fact_agg150 (And.intro fact_und150 fact_int150)))
def factsT151 := (And.intro (And.intro fact_ok151 (And.intro fact_cells151 fact_bytes151)) (And.intro (And.intro fact_agg151 fact_und151) (And.intro fact_int151 fact_flt151)))
def factsT178 := (And.intro (And.intro (And.intro fact_ok178 fact_cells178) (And.intro fact_bytes178 fact_agg178)) (And.intro (And.intro fact_und178 fact_int178) (And.intro fact_zok178 fact_zero178)))
def factsT186 := (And.intro (And.intro (And.intro fact_ok186 fact_cells186) (And.intro fact_bytes186 fact_agg186)) (And.intro (And.intro fact_und186 fact_int186) (And.intro fact_zok186 fact_zero186)))
def factsT197 := (And.intro (And.intro (And.intro fact_ok197 fact_cells197) (And.intro fact_bytes197 fact_agg197)) (And.intro (And.intro fact_und197 fact_int197) (And.intro fact_zok197 fact_zero197)))
attribute [go_sem] factsT2 factsT3 factsT4 factsT5 factsT9 factsT12 factsT21 factsT22 factsT23 factsT25 factsT36 factsT40 factsT42 factsT43 factsT44 factsT45 factsT46 factsT59 factsT62 factsT63 factsT64 factsT65 factsT71 factsT72 factsT73 factsT74 factsT92 factsT95 factsT97 factsT98 factsT99 factsT115 factsT142 factsT150 factsT151 factsT178 factsT186 factsT197
end Go.Proofs.Ytpkampecmlpfmaa.T
