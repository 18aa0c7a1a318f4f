import Derived.Test.YtfmeiapglpphpaaProg
import Derived.Test.YtfmeiapglpphpaaLE
set_option linter.defProp false
namespace Go.Proofs.Ytfmeiapglpphpaa.T
open Go Go.VL Go.Proofs
theorem fact_ok2 : okT Try.prog 2 = true := by kernel_rfl
theorem fact_cells2 : Program.cellsOf Try.prog 2 = 1 := by kernel_rfl
theorem fact_bytes2 : Program.bytesOf Try.prog 2 = 8 := by kernel_rfl
theorem fact_agg2 : aggT Try.prog 2 = false := by kernel_rfl
theorem fact_und2 : (Program.underlying Try.prog 2).isSome = true := by kernel_rfl
theorem fact_int2 : intT Try.prog 2 = some .i64 := by kernel_rfl
theorem fact_zok2 : zeroOK Try.prog 2 = true := by kernel_rfl
theorem fact_zero2 : zeroT Try.prog 2 = some (.int .i64 0) := by kernel_rfl
theorem fact_ok3 : okT Try.prog 3 = true := by kernel_rfl
theorem fact_cells3 : Program.cellsOf Try.prog 3 = 1 := by kernel_rfl
theorem fact_bytes3 : Program.bytesOf Try.prog 3 = 8 := by kernel_rfl
theorem fact_agg3 : aggT Try.prog 3 = false := by kernel_rfl
theorem fact_und3 : (Program.underlying Try.prog 3).isSome = true := by kernel_rfl
theorem fact_int3 : intT Try.prog 3 = some .i64 := by kernel_rfl
theorem fact_zok3 : zeroOK Try.prog 3 = true := by kernel_rfl
theorem fact_zero3 : zeroT Try.prog 3 = some (.int .i64 0) := by kernel_rfl
theorem fact_ok4 : okT Try.prog 4 = true := by kernel_rfl
theorem fact_cells4 : Program.cellsOf Try.prog 4 = 1 := by kernel_rfl
theorem fact_bytes4 : Program.bytesOf Try.prog 4 = 1 := by kernel_rfl
theorem fact_agg4 : aggT Try.prog 4 = false := by kernel_rfl
theorem fact_und4 : (Program.underlying Try.prog 4).isSome = true := by kernel_rfl
theorem fact_int4 : intT Try.prog 4 = none := by kernel_rfl
theorem fact_bool4 : isBoolT Try.prog 4 = true := by kernel_rfl
theorem fact_zok4 : zeroOK Try.prog 4 = true := by kernel_rfl
theorem fact_zero4 : zeroT Try.prog 4 = some (.bool false) := by kernel_rfl
theorem fact_ok5 : okT Try.prog 5 = true := by kernel_rfl
theorem fact_cells5 : Program.cellsOf Try.prog 5 = 1 := by kernel_rfl
theorem fact_bytes5 : Program.bytesOf Try.prog 5 = 1 := by kernel_rfl
theorem fact_agg5 : aggT Try.prog 5 = false := by kernel_rfl
theorem fact_und5 : (Program.underlying Try.prog 5).isSome = true := by kernel_rfl
theorem fact_int5 : intT Try.prog 5 = some .u8 := by kernel_rfl
theorem fact_zok5 : zeroOK Try.prog 5 = true := by kernel_rfl
theorem fact_zero5 : zeroT Try.prog 5 = some (.int .u8 0) := by kernel_rfl
theorem fact_ok9 : okT Try.prog 9 = true := by kernel_rfl
theorem fact_cells9 : Program.cellsOf Try.prog 9 = 1 := by kernel_rfl
theorem fact_bytes9 : Program.bytesOf Try.prog 9 = 16 := by kernel_rfl
theorem fact_agg9 : aggT Try.prog 9 = false := by kernel_rfl
theorem fact_und9 : (Program.underlying Try.prog 9).isSome = true := by kernel_rfl
theorem fact_int9 : intT Try.prog 9 = none := by kernel_rfl
theorem fact_str9 : strT Try.prog 9 = true := by kernel_rfl
theorem fact_zok9 : zeroOK Try.prog 9 = true := by kernel_rfl
theorem fact_zero9 : zeroT Try.prog 9 = some (.string ⟨#[]⟩) := by kernel_rfl
theorem fact_ok12 : okT Try.prog 12 = true := by kernel_rfl
theorem fact_cells12 : Program.cellsOf Try.prog 12 = 1 := by kernel_rfl
theorem fact_bytes12 : Program.bytesOf Try.prog 12 = 8 := by kernel_rfl
theorem fact_agg12 : aggT Try.prog 12 = false := by kernel_rfl
theorem fact_und12 : (Program.underlying Try.prog 12).isSome = true := by kernel_rfl
theorem fact_int12 : intT Try.prog 12 = some .u64 := by kernel_rfl
theorem fact_zok12 : zeroOK Try.prog 12 = true := by kernel_rfl
theorem fact_zero12 : zeroT Try.prog 12 = some (.int .u64 0) := by kernel_rfl
theorem fact_ok21 : okT Try.prog 21 = true := by kernel_rfl
theorem fact_cells21 : Program.cellsOf Try.prog 21 = 1 := by kernel_rfl
theorem fact_bytes21 : Program.bytesOf Try.prog 21 = 4 := by kernel_rfl
theorem fact_agg21 : aggT Try.prog 21 = false := by kernel_rfl
theorem fact_und21 : (Program.underlying Try.prog 21).isSome = true := by kernel_rfl
theorem fact_int21 : intT Try.prog 21 = some .i32 := by kernel_rfl
theorem fact_zok21 : zeroOK Try.prog 21 = true := by kernel_rfl
theorem fact_zero21 : zeroT Try.prog 21 = some (.int .i32 0) := by kernel_rfl
theorem fact_ok22 : okT Try.prog 22 = true := by kernel_rfl
theorem fact_cells22 : Program.cellsOf Try.prog 22 = 1 := by kernel_rfl
theorem fact_bytes22 : Program.bytesOf Try.prog 22 = 24 := by kernel_rfl
theorem fact_agg22 : aggT Try.prog 22 = false := by kernel_rfl
theorem fact_und22 : (Program.underlying Try.prog 22).isSome = true := by kernel_rfl
theorem fact_int22 : intT Try.prog 22 = none := by kernel_rfl
theorem fact_el22 : elT Try.prog 22 = some 5 := by kernel_rfl
theorem fact_sl22 : sliceT Try.prog 22 = true := by kernel_rfl
theorem fact_zok22 : zeroOK Try.prog 22 = true := by kernel_rfl
theorem fact_zero22 : zeroT Try.prog 22 = some (.slice none 0 0) := by kernel_rfl
theorem fact_ok23 : okT Try.prog 23 = true := by kernel_rfl
theorem fact_cells23 : Program.cellsOf Try.prog 23 = 1 := by kernel_rfl
theorem fact_bytes23 : Program.bytesOf Try.prog 23 = 24 := by kernel_rfl
theorem fact_agg23 : aggT Try.prog 23 = false := by kernel_rfl
theorem fact_und23 : (Program.underlying Try.prog 23).isSome = true := by kernel_rfl
theorem fact_int23 : intT Try.prog 23 = none := by kernel_rfl
theorem fact_el23 : elT Try.prog 23 = some 2 := by kernel_rfl
theorem fact_sl23 : sliceT Try.prog 23 = true := by kernel_rfl
theorem fact_zok23 : zeroOK Try.prog 23 = true := by kernel_rfl
theorem fact_zero23 : zeroT Try.prog 23 = some (.slice none 0 0) := by kernel_rfl
theorem fact_ok25 : okT Try.prog 25 = true := by kernel_rfl
theorem fact_cells25 : Program.cellsOf Try.prog 25 = 1 := by kernel_rfl
theorem fact_bytes25 : Program.bytesOf Try.prog 25 = 8 := by kernel_rfl
theorem fact_agg25 : aggT Try.prog 25 = false := by kernel_rfl
theorem fact_und25 : (Program.underlying Try.prog 25).isSome = true := by kernel_rfl
theorem fact_int25 : intT Try.prog 25 = some .i64 := by kernel_rfl
theorem fact_zok25 : zeroOK Try.prog 25 = true := by kernel_rfl
theorem fact_zero25 : zeroT Try.prog 25 = some (.int .i64 0) := by kernel_rfl
theorem fact_ok36 : okT Try.prog 36 = true := by kernel_rfl
theorem fact_cells36 : Program.cellsOf Try.prog 36 = 1 := by kernel_rfl
theorem fact_bytes36 : Program.bytesOf Try.prog 36 = 4 := by kernel_rfl
theorem fact_agg36 : aggT Try.prog 36 = false := by kernel_rfl
theorem fact_und36 : (Program.underlying Try.prog 36).isSome = true := by kernel_rfl
theorem fact_int36 : intT Try.prog 36 = some .u32 := by kernel_rfl
theorem fact_zok36 : zeroOK Try.prog 36 = true := by kernel_rfl
theorem fact_zero36 : zeroT Try.prog 36 = some (.int .u32 0) := by kernel_rfl
theorem fact_ok39 : okT Try.prog 39 = true := by kernel_rfl
theorem fact_cells39 : Program.cellsOf Try.prog 39 = 1 := by kernel_rfl
theorem fact_bytes39 : Program.bytesOf Try.prog 39 = 24 := by kernel_rfl
theorem fact_agg39 : aggT Try.prog 39 = false := by kernel_rfl
theorem fact_und39 : (Program.underlying Try.prog 39).isSome = true := by kernel_rfl
theorem fact_int39 : intT Try.prog 39 = none := by kernel_rfl
theorem fact_el39 : elT Try.prog 39 = some 22 := by kernel_rfl
theorem fact_sl39 : sliceT Try.prog 39 = true := by kernel_rfl
theorem fact_zok39 : zeroOK Try.prog 39 = true := by kernel_rfl
theorem fact_zero39 : zeroT Try.prog 39 = some (.slice none 0 0) := by kernel_rfl
theorem fact_ok46 : okT Try.prog 46 = true := by kernel_rfl
theorem fact_cells46 : Program.cellsOf Try.prog 46 = 1 := by kernel_rfl
theorem fact_bytes46 : Program.bytesOf Try.prog 46 = 24 := by kernel_rfl
theorem fact_agg46 : aggT Try.prog 46 = false := by kernel_rfl
theorem fact_und46 : (Program.underlying Try.prog 46).isSome = true := by kernel_rfl
theorem fact_int46 : intT Try.prog 46 = none := by kernel_rfl
theorem fact_el46 : elT Try.prog 46 = some 48 := by kernel_rfl
theorem fact_sl46 : sliceT Try.prog 46 = true := by kernel_rfl
theorem fact_zok46 : zeroOK Try.prog 46 = true := by kernel_rfl
theorem fact_zero46 : zeroT Try.prog 46 = some (.slice none 0 0) := by kernel_rfl
theorem fact_ok47 : okT Try.prog 47 = true := by kernel_rfl
theorem fact_cells47 : Program.cellsOf Try.prog 47 = 1 := by kernel_rfl
theorem fact_bytes47 : Program.bytesOf Try.prog 47 = 24 := by kernel_rfl
theorem fact_agg47 : aggT Try.prog 47 = false := by kernel_rfl
theorem fact_und47 : (Program.underlying Try.prog 47).isSome = true := by kernel_rfl
theorem fact_int47 : intT Try.prog 47 = none := by kernel_rfl
theorem fact_el47 : elT Try.prog 47 = some 48 := by kernel_rfl
theorem fact_sl47 : sliceT Try.prog 47 = true := by kernel_rfl
theorem fact_zok47 : zeroOK Try.prog 47 = true := by kernel_rfl
theorem fact_zero47 : zeroT Try.prog 47 = some (.slice none 0 0) := by kernel_rfl
theorem fact_ok48 : okT Try.prog 48 = true := by kernel_rfl
theorem fact_cells48 : Program.cellsOf Try.prog 48 = 1 := by kernel_rfl
theorem fact_bytes48 : Program.bytesOf Try.prog 48 = 2 := by kernel_rfl
theorem fact_agg48 : aggT Try.prog 48 = false := by kernel_rfl
theorem fact_und48 : (Program.underlying Try.prog 48).isSome = true := by kernel_rfl
theorem fact_int48 : intT Try.prog 48 = some .i16 := by kernel_rfl
theorem fact_zok48 : zeroOK Try.prog 48 = true := by kernel_rfl
theorem fact_zero48 : zeroT Try.prog 48 = some (.int .i16 0) := by kernel_rfl
theorem fact_ok68 : okT Try.prog 68 = true := by kernel_rfl
theorem fact_cells68 : Program.cellsOf Try.prog 68 = 1 := by kernel_rfl
theorem fact_bytes68 : Program.bytesOf Try.prog 68 = 24 := by kernel_rfl
theorem fact_agg68 : aggT Try.prog 68 = false := by kernel_rfl
theorem fact_und68 : (Program.underlying Try.prog 68).isSome = true := by kernel_rfl
theorem fact_int68 : intT Try.prog 68 = none := by kernel_rfl
theorem fact_el68 : elT Try.prog 68 = some 46 := by kernel_rfl
theorem fact_sl68 : sliceT Try.prog 68 = true := by kernel_rfl
theorem fact_zok68 : zeroOK Try.prog 68 = true := by kernel_rfl
theorem fact_zero68 : zeroT Try.prog 68 = some (.slice none 0 0) := by kernel_rfl
theorem fact_ok69 : okT Try.prog 69 = true := by kernel_rfl
theorem fact_cells69 : Program.cellsOf Try.prog 69 = 2 := by kernel_rfl
theorem fact_bytes69 : Program.bytesOf Try.prog 69 = 32 := by kernel_rfl
theorem fact_agg69 : aggT Try.prog 69 = true := by kernel_rfl
theorem fact_und69 : (Program.underlying Try.prog 69).isSome = true := by kernel_rfl
theorem fact_int69 : intT Try.prog 69 = none := by kernel_rfl
theorem fact_zok69 : zeroOK Try.prog 69 = true := by kernel_rfl
theorem fact_zero69 : zeroT Try.prog 69 = some (.agg #[.int .i64 0, .slice none 0 0]) := by kernel_rfl
theorem fact_fok69 : fieldsOK Try.prog 69 = true := by kernel_rfl
theorem fact_f0_69 : fieldTO Try.prog 69 0 = some (2, 0) := by kernel_rfl
theorem fact_f1_69 : fieldTO Try.prog 69 1 = some (68, 1) := by kernel_rfl
theorem fact_ok70 : okT Try.prog 70 = true := by kernel_rfl
theorem fact_cells70 : Program.cellsOf Try.prog 70 = 2 := by kernel_rfl
theorem fact_bytes70 : Program.bytesOf Try.prog 70 = 32 := by kernel_rfl
theorem fact_agg70 : aggT Try.prog 70 = true := by kernel_rfl
theorem fact_und70 : (Program.underlying Try.prog 70).isSome = true := by kernel_rfl
theorem fact_int70 : intT Try.prog 70 = none := by kernel_rfl
theorem fact_zok70 : zeroOK Try.prog 70 = true := by kernel_rfl
theorem fact_zero70 : zeroT Try.prog 70 = some (.agg #[.int .i64 0, .slice none 0 0]) := by kernel_rfl
theorem fact_fok70 : fieldsOK Try.prog 70 = true := by kernel_rfl
theorem fact_f0_70 : fieldTO Try.prog 70 0 = some (2, 0) := by kernel_rfl
theorem fact_f1_70 : fieldTO Try.prog 70 1 = some (68, 1) := by kernel_rfl
theorem fact_ok81 : okT Try.prog 81 = true := by kernel_rfl
theorem fact_cells81 : Program.cellsOf Try.prog 81 = 1 := by kernel_rfl
theorem fact_bytes81 : Program.bytesOf Try.prog 81 = 24 := by kernel_rfl
theorem fact_agg81 : aggT Try.prog 81 = false := by kernel_rfl
theorem fact_und81 : (Program.underlying Try.prog 81).isSome = true := by kernel_rfl
theorem fact_int81 : intT Try.prog 81 = none := by kernel_rfl
theorem fact_el81 : elT Try.prog 81 = some 47 := by kernel_rfl
theorem fact_sl81 : sliceT Try.prog 81 = true := by kernel_rfl
theorem fact_zok81 : zeroOK Try.prog 81 = true := by kernel_rfl
theorem fact_zero81 : zeroT Try.prog 81 = some (.slice none 0 0) := by kernel_rfl
theorem fact_ok89 : okT Try.prog 89 = true := by kernel_rfl
theorem fact_cells89 : Program.cellsOf Try.prog 89 = 1 := by kernel_rfl
theorem fact_bytes89 : Program.bytesOf Try.prog 89 = 24 := by kernel_rfl
theorem fact_agg89 : aggT Try.prog 89 = false := by kernel_rfl
theorem fact_und89 : (Program.underlying Try.prog 89).isSome = true := by kernel_rfl
theorem fact_int89 : intT Try.prog 89 = none := by kernel_rfl
theorem fact_el89 : elT Try.prog 89 = some 23 := by kernel_rfl
theorem fact_sl89 : sliceT Try.prog 89 = true := by kernel_rfl
theorem fact_zok89 : zeroOK Try.prog 89 = true := by kernel_rfl
theorem fact_zero89 : zeroT Try.prog 89 = some (.slice none 0 0) := by kernel_rfl
theorem fact_ok97 : okT Try.prog 97 = true := by kernel_rfl
theorem fact_cells97 : Program.cellsOf Try.prog 97 = 1 := by kernel_rfl
theorem fact_bytes97 : Program.bytesOf Try.prog 97 = 24 := by kernel_rfl
theorem fact_agg97 : aggT Try.prog 97 = false := by kernel_rfl
theorem fact_und97 : (Program.underlying Try.prog 97).isSome = true := by kernel_rfl
theorem fact_int97 : intT Try.prog 97 = none := by kernel_rfl
theorem fact_el97 : elT Try.prog 97 = some 114 := by kernel_rfl
theorem fact_sl97 : sliceT Try.prog 97 = true := by kernel_rfl
theorem fact_zok97 : zeroOK Try.prog 97 = true := by kernel_rfl
theorem fact_zero97 : zeroT Try.prog 97 = some (.slice none 0 0) := by kernel_rfl
theorem fact_ok98 : okT Try.prog 98 = true := by kernel_rfl
theorem fact_cells98 : Program.cellsOf Try.prog 98 = 3 := by kernel_rfl
theorem fact_bytes98 : Program.bytesOf Try.prog 98 = 56 := by kernel_rfl
theorem fact_agg98 : aggT Try.prog 98 = true := by kernel_rfl
theorem fact_und98 : (Program.underlying Try.prog 98).isSome = true := by kernel_rfl
theorem fact_int98 : intT Try.prog 98 = none := by kernel_rfl
theorem fact_zok98 : zeroOK Try.prog 98 = true := by kernel_rfl
theorem fact_zero98 : zeroT Try.prog 98 = some (.agg #[.int .i64 0, .slice none 0 0, .slice none 0 0]) := by kernel_rfl
theorem fact_fok98 : fieldsOK Try.prog 98 = true := by kernel_rfl
theorem fact_f0_98 : fieldTO Try.prog 98 0 = some (3, 0) := by kernel_rfl
theorem fact_f1_98 : fieldTO Try.prog 98 1 = some (23, 1) := by kernel_rfl
theorem fact_f2_98 : fieldTO Try.prog 98 2 = some (81, 2) := by kernel_rfl
theorem fact_ok99 : okT Try.prog 99 = true := by kernel_rfl
theorem fact_cells99 : Program.cellsOf Try.prog 99 = 3 := by kernel_rfl
theorem fact_bytes99 : Program.bytesOf Try.prog 99 = 56 := by kernel_rfl
theorem fact_agg99 : aggT Try.prog 99 = true := by kernel_rfl
theorem fact_und99 : (Program.underlying Try.prog 99).isSome = true := by kernel_rfl
theorem fact_int99 : intT Try.prog 99 = none := by kernel_rfl
theorem fact_zok99 : zeroOK Try.prog 99 = true := by kernel_rfl
theorem fact_zero99 : zeroT Try.prog 99 = some (.agg #[.int .i64 0, .slice none 0 0, .slice none 0 0]) := by kernel_rfl
theorem fact_fok99 : fieldsOK Try.prog 99 = true := by kernel_rfl
theorem fact_f0_99 : fieldTO Try.prog 99 0 = some (3, 0) := by kernel_rfl
theorem fact_f1_99 : fieldTO Try.prog 99 1 = some (23, 1) := by kernel_rfl
theorem fact_f2_99 : fieldTO Try.prog 99 2 = some (81, 2) := by kernel_rfl
theorem fact_ok113 : okT Try.prog 113 = true := by kernel_rfl
theorem fact_cells113 : Program.cellsOf Try.prog 113 = 2 := by kernel_rfl
theorem fact_bytes113 : Program.bytesOf Try.prog 113 = 32 := by kernel_rfl
theorem fact_agg113 : aggT Try.prog 113 = true := by kernel_rfl
theorem fact_und113 : (Program.underlying Try.prog 113).isSome = true := by kernel_rfl
theorem fact_int113 : intT Try.prog 113 = none := by kernel_rfl
theorem fact_zok113 : zeroOK Try.prog 113 = true := by kernel_rfl
theorem fact_zero113 : zeroT Try.prog 113 = some (.agg #[.bool false, .slice none 0 0]) := by kernel_rfl
theorem fact_fok113 : fieldsOK Try.prog 113 = true := by kernel_rfl
theorem fact_f0_113 : fieldTO Try.prog 113 0 = some (4, 0) := by kernel_rfl
theorem fact_f1_113 : fieldTO Try.prog 113 1 = some (22, 1) := by kernel_rfl
theorem fact_ok114 : okT Try.prog 114 = true := by kernel_rfl
theorem fact_cells114 : Program.cellsOf Try.prog 114 = 2 := by kernel_rfl
theorem fact_bytes114 : Program.bytesOf Try.prog 114 = 32 := by kernel_rfl
theorem fact_agg114 : aggT Try.prog 114 = true := by kernel_rfl
theorem fact_und114 : (Program.underlying Try.prog 114).isSome = true := by kernel_rfl
theorem fact_int114 : intT Try.prog 114 = none := by kernel_rfl
theorem fact_zok114 : zeroOK Try.prog 114 = true := by kernel_rfl
theorem fact_zero114 : zeroT Try.prog 114 = some (.agg #[.bool false, .slice none 0 0]) := by kernel_rfl
theorem fact_fok114 : fieldsOK Try.prog 114 = true := by kernel_rfl
theorem fact_f0_114 : fieldTO Try.prog 114 0 = some (4, 0) := by kernel_rfl
theorem fact_f1_114 : fieldTO Try.prog 114 1 = some (22, 1) := by kernel_rfl
theorem fact_ok119 : okT Try.prog 119 = true := by kernel_rfl
theorem fact_cells119 : Program.cellsOf Try.prog 119 = 1 := by kernel_rfl
theorem fact_bytes119 : Program.bytesOf Try.prog 119 = 8 := by kernel_rfl
theorem fact_agg119 : aggT Try.prog 119 = false := by kernel_rfl
theorem fact_und119 : (Program.underlying Try.prog 119).isSome = true := by kernel_rfl
theorem fact_int119 : intT Try.prog 119 = some .u64 := by kernel_rfl
theorem fact_zok119 : zeroOK Try.prog 119 = true := by kernel_rfl
theorem fact_zero119 : zeroT Try.prog 119 = some (.int .u64 0) := by kernel_rfl
theorem fact_ok120 : okT Try.prog 120 = true := by kernel_rfl
theorem fact_cells120 : Program.cellsOf Try.prog 120 = 1 := by kernel_rfl
theorem fact_bytes120 : Program.bytesOf Try.prog 120 = 8 := by kernel_rfl
theorem fact_agg120 : aggT Try.prog 120 = false := by kernel_rfl
theorem fact_und120 : (Program.underlying Try.prog 120).isSome = true := by kernel_rfl
theorem fact_int120 : intT Try.prog 120 = some .u64 := by kernel_rfl
theorem fact_zok120 : zeroOK Try.prog 120 = true := by kernel_rfl
theorem fact_zero120 : zeroT Try.prog 120 = some (.int .u64 0) := by kernel_rfl
theorem fact_ok128 : okT Try.prog 128 = true := by kernel_rfl
theorem fact_cells128 : Program.cellsOf Try.prog 128 = 1 := by kernel_rfl
theorem fact_bytes128 : Program.bytesOf Try.prog 128 = 16 := by kernel_rfl
theorem fact_agg128 : aggT Try.prog 128 = false := by kernel_rfl
theorem fact_und128 : (Program.underlying Try.prog 128).isSome = true := by kernel_rfl
theorem fact_int128 : intT Try.prog 128 = none := by kernel_rfl
theorem fact_ok129 : okT Try.prog 129 = true := by kernel_rfl
theorem fact_cells129 : Program.cellsOf Try.prog 129 = 1 := by kernel_rfl
theorem fact_bytes129 : Program.bytesOf Try.prog 129 = 8 := by kernel_rfl
theorem fact_agg129 : aggT Try.prog 129 = false := by kernel_rfl
theorem fact_und129 : (Program.underlying Try.prog 129).isSome = true := by kernel_rfl
theorem fact_int129 : intT Try.prog 129 = none := by kernel_rfl
theorem fact_flt129 : fltT Try.prog 129 = some .f64 := by kernel_rfl
theorem fact_ok131 : okT Try.prog 131 = true := by kernel_rfl
theorem fact_cells131 : Program.cellsOf Try.prog 131 = 1 := by kernel_rfl
theorem fact_bytes131 : Program.bytesOf Try.prog 131 = 24 := by kernel_rfl
theorem fact_agg131 : aggT Try.prog 131 = false := by kernel_rfl
theorem fact_und131 : (Program.underlying Try.prog 131).isSome = true := by kernel_rfl
theorem fact_int131 : intT Try.prog 131 = none := by kernel_rfl
theorem fact_el131 : elT Try.prog 131 = some 3 := by kernel_rfl
theorem fact_sl131 : sliceT Try.prog 131 = true := by kernel_rfl
theorem fact_zok131 : zeroOK Try.prog 131 = true := by kernel_rfl
theorem fact_zero131 : zeroT Try.prog 131 = some (.slice none 0 0) := by kernel_rfl
theorem fact_ok143 : okT Try.prog 143 = true := by kernel_rfl
theorem fact_cells143 : Program.cellsOf Try.prog 143 = 3 := by kernel_rfl
theorem fact_bytes143 : Program.bytesOf Try.prog 143 = 24 := by kernel_rfl
theorem fact_agg143 : aggT Try.prog 143 = true := by kernel_rfl
theorem fact_und143 : (Program.underlying Try.prog 143).isSome = true := by kernel_rfl
theorem fact_int143 : intT Try.prog 143 = none := by kernel_rfl
theorem fact_zok143 : zeroOK Try.prog 143 = true := by kernel_rfl
theorem fact_zero143 : zeroT Try.prog 143 = some (.agg #[.int .i64 0, .int .i64 0, .int .i64 0]) := by kernel_rfl
theorem fact_fok143 : fieldsOK Try.prog 143 = true := by kernel_rfl
theorem fact_f0_143 : fieldTO Try.prog 143 0 = some (2, 0) := by kernel_rfl
theorem fact_f1_143 : fieldTO Try.prog 143 1 = some (2, 1) := by kernel_rfl
theorem fact_f2_143 : fieldTO Try.prog 143 2 = some (2, 2) := by kernel_rfl
theorem fact_ok144 : okT Try.prog 144 = true := by kernel_rfl
theorem fact_cells144 : Program.cellsOf Try.prog 144 = 3 := by kernel_rfl
theorem fact_bytes144 : Program.bytesOf Try.prog 144 = 24 := by kernel_rfl
theorem fact_agg144 : aggT Try.prog 144 = true := by kernel_rfl
theorem fact_und144 : (Program.underlying Try.prog 144).isSome = true := by kernel_rfl
theorem fact_int144 : intT Try.prog 144 = none := by kernel_rfl
theorem fact_zok144 : zeroOK Try.prog 144 = true := by kernel_rfl
theorem fact_zero144 : zeroT Try.prog 144 = some (.agg #[.int .i64 0, .int .i64 0, .int .i64 0]) := by kernel_rfl
theorem fact_fok144 : fieldsOK Try.prog 144 = true := by kernel_rfl
theorem fact_f0_144 : fieldTO Try.prog 144 0 = some (2, 0) := by kernel_rfl
theorem fact_f1_144 : fieldTO Try.prog 144 1 = some (2, 1) := by kernel_rfl
theorem fact_f2_144 : fieldTO Try.prog 144 2 = some (2, 2) := by kernel_rfl
theorem fact_ok151 : okT Try.prog 151 = true := by kernel_rfl
theorem fact_cells151 : Program.cellsOf Try.prog 151 = 1 := by kernel_rfl
theorem fact_bytes151 : Program.bytesOf Try.prog 151 = 24 := by kernel_rfl
theorem fact_agg151 : aggT Try.prog 151 = false := by kernel_rfl
theorem fact_und151 : (Program.underlying Try.prog 151).isSome = true := by kernel_rfl
theorem fact_int151 : intT Try.prog 151 = none := by kernel_rfl
theorem fact_el151 : elT Try.prog 151 = some 144 := by kernel_rfl
theorem fact_sl151 : sliceT Try.prog 151 = true := by kernel_rfl
theorem fact_zok151 : zeroOK Try.prog 151 = true := by kernel_rfl
theorem fact_zero151 : zeroT Try.prog 151 = some (.slice none 0 0) := by kernel_rfl
theorem fact_ok155 : okT Try.prog 155 = true := by kernel_rfl
theorem fact_cells155 : Program.cellsOf Try.prog 155 = 8 := by kernel_rfl
theorem fact_bytes155 : Program.bytesOf Try.prog 155 = 128 := by kernel_rfl
theorem fact_agg155 : aggT Try.prog 155 = true := by kernel_rfl
theorem fact_und155 : (Program.underlying Try.prog 155).isSome = true := by kernel_rfl
theorem fact_int155 : intT Try.prog 155 = none := by kernel_rfl
theorem fact_zok155 : zeroOK Try.prog 155 = true := by kernel_rfl
theorem fact_zero155 : zeroT Try.prog 155 = some (.agg #[.int .i64 0, .slice none 0 0, .slice none 0 0, .int .i64 0, .slice none 0 0, .int .i64 0, .slice none 0 0, .int .i64 0]) := by kernel_rfl
theorem fact_fok155 : fieldsOK Try.prog 155 = true := by kernel_rfl
theorem fact_f0_155 : fieldTO Try.prog 155 0 = some (99, 0) := by kernel_rfl
theorem fact_f1_155 : fieldTO Try.prog 155 1 = some (70, 3) := by kernel_rfl
theorem fact_f2_155 : fieldTO Try.prog 155 2 = some (70, 5) := by kernel_rfl
theorem fact_f3_155 : fieldTO Try.prog 155 3 = some (3, 7) := by kernel_rfl
theorem fact_ok156 : okT Try.prog 156 = true := by kernel_rfl
theorem fact_cells156 : Program.cellsOf Try.prog 156 = 8 := by kernel_rfl
theorem fact_bytes156 : Program.bytesOf Try.prog 156 = 128 := by kernel_rfl
theorem fact_agg156 : aggT Try.prog 156 = true := by kernel_rfl
theorem fact_und156 : (Program.underlying Try.prog 156).isSome = true := by kernel_rfl
theorem fact_int156 : intT Try.prog 156 = none := by kernel_rfl
theorem fact_zok156 : zeroOK Try.prog 156 = true := by kernel_rfl
theorem fact_zero156 : zeroT Try.prog 156 = some (.agg #[.int .i64 0, .slice none 0 0, .slice none 0 0, .int .i64 0, .slice none 0 0, .int .i64 0, .slice none 0 0, .int .i64 0]) := by kernel_rfl
theorem fact_fok156 : fieldsOK Try.prog 156 = true := by kernel_rfl
theorem fact_f0_156 : fieldTO Try.prog 156 0 = some (99, 0) := by kernel_rfl
theorem fact_f1_156 : fieldTO Try.prog 156 1 = some (70, 3) := by kernel_rfl
theorem fact_f2_156 : fieldTO Try.prog 156 2 = some (70, 5) := by kernel_rfl
theorem fact_f3_156 : fieldTO Try.prog 156 3 = some (3, 7) := by kernel_rfl
theorem fact_ok176 : okT Try.prog 176 = true := by kernel_rfl
theorem fact_cells176 : Program.cellsOf Try.prog 176 = 1 := by kernel_rfl
theorem fact_bytes176 : Program.bytesOf Try.prog 176 = 8 := by kernel_rfl
theorem fact_agg176 : aggT Try.prog 176 = false := by kernel_rfl
theorem fact_und176 : (Program.underlying Try.prog 176).isSome = true := by kernel_rfl
theorem fact_int176 : intT Try.prog 176 = none := by kernel_rfl
theorem fact_ok188 : okT Try.prog 188 = true := by kernel_rfl
theorem fact_cells188 : Program.cellsOf Try.prog 188 = 4 := by kernel_rfl
theorem fact_bytes188 : Program.bytesOf Try.prog 188 = 64 := by kernel_rfl
theorem fact_agg188 : aggT Try.prog 188 = true := by kernel_rfl
theorem fact_und188 : (Program.underlying Try.prog 188).isSome = true := by kernel_rfl
theorem fact_int188 : intT Try.prog 188 = none := by kernel_rfl
theorem fact_arr188 : arrT Try.prog 188 = some (2, 70) := by kernel_rfl
theorem fact_zok188 : zeroOK Try.prog 188 = true := by kernel_rfl
theorem fact_zero188 : zeroT Try.prog 188 = some (.agg #[.int .i64 0, .slice none 0 0, .int .i64 0, .slice none 0 0]) := by kernel_rfl
theorem fact_fok188 : fieldsOK Try.prog 188 = true := by kernel_rfl
theorem cal3 : callable Try.prog 3 = true := by kernel_rfl
theorem cal4 : callable Try.prog 4 = true := by kernel_rfl
theorem cal5 : callable Try.prog 5 = true := by kernel_rfl
theorem cal6 : callable Try.prog 6 = true := by kernel_rfl
theorem cal7 : callable Try.prog 7 = true := by kernel_rfl
theorem cal8 : callable Try.prog 8 = true := by kernel_rfl
theorem cal9 : callable Try.prog 9 = true := by kernel_rfl
theorem cal10 : callable Try.prog 10 = true := by kernel_rfl
theorem cal11 : callable Try.prog 11 = true := by kernel_rfl
theorem cal12 : callable Try.prog 12 = true := by kernel_rfl
theorem cal13 : callable Try.prog 13 = true := by kernel_rfl
theorem cal14 : callable Try.prog 14 = true := by kernel_rfl
theorem cal15 : callable Try.prog 15 = true := by kernel_rfl
theorem cal16 : callable Try.prog 16 = true := by kernel_rfl
theorem cal17 : callable Try.prog 17 = true := by kernel_rfl
theorem cal18 : callable Try.prog 18 = true := by kernel_rfl
theorem cal19 : callable Try.prog 19 = true := by kernel_rfl
theorem cal20 : callable Try.prog 20 = true := by kernel_rfl
theorem cal21 : callable Try.prog 21 = true := by kernel_rfl
theorem cal22 : callable Try.prog 22 = true := by kernel_rfl
theorem cal23 : callable Try.prog 23 = true := by kernel_rfl
theorem cal24 : callable Try.prog 24 = true := by kernel_rfl
theorem cal25 : callable Try.prog 25 = true := by kernel_rfl
theorem cal26 : callable Try.prog 26 = true := by kernel_rfl
theorem cal27 : callable Try.prog 27 = true := by kernel_rfl
theorem cal28 : callable Try.prog 28 = true := by kernel_rfl
theorem cal29 : callable Try.prog 29 = true := by kernel_rfl
theorem cal30 : callable Try.prog 30 = true := by kernel_rfl
theorem cal31 : callable Try.prog 31 = true := by kernel_rfl
theorem cal32 : callable Try.prog 32 = true := by kernel_rfl
theorem cal33 : callable Try.prog 33 = true := by kernel_rfl
theorem cal34 : callable Try.prog 34 = true := by kernel_rfl
theorem cal35 : callable Try.prog 35 = true := by kernel_rfl
theorem cal36 : callable Try.prog 36 = true := by kernel_rfl
theorem cal37 : callable Try.prog 37 = true := by kernel_rfl
theorem cal38 : callable Try.prog 38 = true := by kernel_rfl
theorem cal39 : callable Try.prog 39 = true := by kernel_rfl
theorem cal40 : callable Try.prog 40 = true := by kernel_rfl
theorem cal41 : callable Try.prog 41 = true := by kernel_rfl
theorem cal42 : callable Try.prog 42 = true := by kernel_rfl
theorem cal43 : callable Try.prog 43 = true := by kernel_rfl
theorem cal44 : callable Try.prog 44 = true := by kernel_rfl
theorem cal45 : callable Try.prog 45 = true := by kernel_rfl
theorem cal46 : callable Try.prog 46 = true := by kernel_rfl
theorem cal47 : callable Try.prog 47 = true := by kernel_rfl
theorem cal48 : callable Try.prog 48 = true := by kernel_rfl
theorem cal49 : callable Try.prog 49 = true := by kernel_rfl
theorem cal50 : callable Try.prog 50 = true := by kernel_rfl
theorem cal51 : callable Try.prog 51 = true := by kernel_rfl
theorem cal52 : callable Try.prog 52 = true := by kernel_rfl
theorem cal53 : callable Try.prog 53 = true := by kernel_rfl
theorem cal54 : callable Try.prog 54 = true := by kernel_rfl
theorem cal55 : callable Try.prog 55 = true := by kernel_rfl
theorem cal56 : callable Try.prog 56 = true := by kernel_rfl
theorem cal57 : callable Try.prog 57 = true := by kernel_rfl
theorem cal58 : callable Try.prog 58 = true := by kernel_rfl
theorem cal59 : callable Try.prog 59 = true := by kernel_rfl
theorem cal60 : callable Try.prog 60 = true := by kernel_rfl
theorem cal61 : callable Try.prog 61 = true := by kernel_rfl
theorem cal62 : callable Try.prog 62 = true := by kernel_rfl
theorem cal63 : callable Try.prog 63 = true := by kernel_rfl
theorem cal64 : callable Try.prog 64 = true := by kernel_rfl
theorem cal65 : callable Try.prog 65 = true := by kernel_rfl
theorem cal66 : callable Try.prog 66 = true := by kernel_rfl
theorem cal67 : callable Try.prog 67 = true := by kernel_rfl
theorem cal68 : callable Try.prog 68 = true := by kernel_rfl
theorem cal69 : callable Try.prog 69 = true := by kernel_rfl
theorem cal70 : callable Try.prog 70 = true := by kernel_rfl
theorem cal71 : callable Try.prog 71 = true := by kernel_rfl
theorem cal72 : callable Try.prog 72 = true := by kernel_rfl
theorem cal73 : callable Try.prog 73 = true := by kernel_rfl
theorem cal74 : callable Try.prog 74 = true := by kernel_rfl
theorem cal75 : callable Try.prog 75 = true := by kernel_rfl
theorem cal76 : callable Try.prog 76 = true := by kernel_rfl
theorem cal77 : callable Try.prog 77 = true := by kernel_rfl
theorem cal78 : callable Try.prog 78 = true := by kernel_rfl
theorem cal79 : callable Try.prog 79 = true := by kernel_rfl
theorem cal80 : callable Try.prog 80 = true := by kernel_rfl
theorem cal81 : callable Try.prog 81 = true := by kernel_rfl
theorem cal82 : callable Try.prog 82 = true := by kernel_rfl
theorem cal83 : callable Try.prog 83 = true := by kernel_rfl
theorem cal84 : callable Try.prog 84 = true := by kernel_rfl
theorem cal85 : callable Try.prog 85 = true := by kernel_rfl
theorem cal86 : callable Try.prog 86 = true := by kernel_rfl
theorem cal87 : callable Try.prog 87 = true := by kernel_rfl
theorem cal88 : callable Try.prog 88 = true := by kernel_rfl
theorem cal89 : callable Try.prog 89 = true := by kernel_rfl
theorem cal90 : callable Try.prog 90 = true := by kernel_rfl
theorem cal91 : callable Try.prog 91 = true := by kernel_rfl
theorem cal92 : callable Try.prog 92 = true := by kernel_rfl
theorem cal93 : callable Try.prog 93 = true := by kernel_rfl
theorem cal94 : callable Try.prog 94 = true := by kernel_rfl
theorem cal95 : callable Try.prog 95 = true := by kernel_rfl
theorem cal96 : callable Try.prog 96 = true := by kernel_rfl
theorem cal97 : callable Try.prog 97 = true := by kernel_rfl
theorem cal98 : callable Try.prog 98 = true := by kernel_rfl
theorem cal99 : callable Try.prog 99 = true := by kernel_rfl
theorem cal100 : callable Try.prog 100 = true := by kernel_rfl
theorem cal101 : callable Try.prog 101 = true := by kernel_rfl
theorem cal102 : callable Try.prog 102 = true := by kernel_rfl
theorem cal103 : callable Try.prog 103 = true := by kernel_rfl
theorem cal104 : callable Try.prog 104 = true := by kernel_rfl
theorem cal105 : callable Try.prog 105 = true := by kernel_rfl
theorem cal106 : callable Try.prog 106 = true := by kernel_rfl
theorem cal107 : callable Try.prog 107 = true := by kernel_rfl
theorem cal108 : callable Try.prog 108 = true := by kernel_rfl
theorem cal109 : callable Try.prog 109 = true := by kernel_rfl
theorem cal110 : callable Try.prog 110 = true := by kernel_rfl
theorem cal111 : callable Try.prog 111 = true := by kernel_rfl
theorem cal112 : callable Try.prog 112 = true := by kernel_rfl
theorem cal113 : callable Try.prog 113 = true := by kernel_rfl
theorem cal114 : callable Try.prog 114 = true := by kernel_rfl
theorem cal115 : callable Try.prog 115 = true := by kernel_rfl
theorem cal116 : callable Try.prog 116 = true := by kernel_rfl
theorem cal117 : callable Try.prog 117 = true := by kernel_rfl
theorem cal118 : callable Try.prog 118 = true := by kernel_rfl
theorem cal119 : callable Try.prog 119 = true := by kernel_rfl
theorem cal120 : callable Try.prog 120 = true := by kernel_rfl
theorem cal121 : callable Try.prog 121 = true := by kernel_rfl
theorem cal122 : callable Try.prog 122 = true := by kernel_rfl
theorem cal123 : callable Try.prog 123 = true := by kernel_rfl
theorem cal124 : callable Try.prog 124 = true := by kernel_rfl
theorem cal125 : callable Try.prog 125 = true := by kernel_rfl
theorem cal126 : callable Try.prog 126 = true := by kernel_rfl
theorem cal127 : callable Try.prog 127 = true := by kernel_rfl
theorem cal128 : callable Try.prog 128 = true := by kernel_rfl
theorem cal129 : callable Try.prog 129 = true := by kernel_rfl
theorem cal130 : callable Try.prog 130 = true := by kernel_rfl
theorem cal131 : callable Try.prog 131 = true := by kernel_rfl
theorem cal132 : callable Try.prog 132 = true := by kernel_rfl
theorem cal133 : callable Try.prog 133 = true := by kernel_rfl
theorem cal134 : callable Try.prog 134 = true := by kernel_rfl
theorem cal135 : callable Try.prog 135 = true := by kernel_rfl
theorem cal136 : callable Try.prog 136 = true := by kernel_rfl
theorem cal137 : callable Try.prog 137 = true := by kernel_rfl
theorem cal138 : callable Try.prog 138 = true := by kernel_rfl
theorem cal139 : callable Try.prog 139 = true := by kernel_rfl
theorem cal140 : callable Try.prog 140 = true := by kernel_rfl
theorem cal141 : callable Try.prog 141 = true := by kernel_rfl
theorem cal142 : callable Try.prog 142 = true := by kernel_rfl
theorem cal143 : callable Try.prog 143 = true := by kernel_rfl
theorem cal144 : callable Try.prog 144 = true := by kernel_rfl
theorem cal145 : callable Try.prog 145 = true := by kernel_rfl
theorem cal146 : callable Try.prog 146 = true := by kernel_rfl
theorem cal147 : callable Try.prog 147 = true := by kernel_rfl
theorem cal148 : callable Try.prog 148 = true := by kernel_rfl
theorem cal149 : callable Try.prog 149 = true := by kernel_rfl
theorem cal150 : callable Try.prog 150 = true := by kernel_rfl
theorem cal151 : callable Try.prog 151 = true := by kernel_rfl
theorem cal152 : callable Try.prog 152 = true := by kernel_rfl
theorem cal153 : callable Try.prog 153 = true := by kernel_rfl
theorem cal154 : callable Try.prog 154 = true := by kernel_rfl
theorem cal155 : callable Try.prog 155 = true := by kernel_rfl
theorem cal156 : callable Try.prog 156 = true := by kernel_rfl
theorem cal157 : callable Try.prog 157 = true := by kernel_rfl
theorem cal158 : callable Try.prog 158 = true := by kernel_rfl
theorem cal159 : callable Try.prog 159 = true := by kernel_rfl
theorem cal160 : callable Try.prog 160 = true := by kernel_rfl
theorem cal161 : callable Try.prog 161 = true := by kernel_rfl
theorem cal162 : callable Try.prog 162 = true := by kernel_rfl
theorem cal163 : callable Try.prog 163 = true := by kernel_rfl
theorem cal164 : callable Try.prog 164 = true := by kernel_rfl
theorem cal165 : callable Try.prog 165 = true := by kernel_rfl
theorem cal166 : callable Try.prog 166 = true := by kernel_rfl
theorem cal167 : callable Try.prog 167 = true := by kernel_rfl
theorem cal168 : callable Try.prog 168 = true := by kernel_rfl
theorem cal169 : callable Try.prog 169 = true := by kernel_rfl
theorem cal170 : callable Try.prog 170 = true := by kernel_rfl
theorem cal171 : callable Try.prog 171 = true := by kernel_rfl
theorem cal172 : callable Try.prog 172 = true := by kernel_rfl
theorem cal173 : callable Try.prog 173 = true := by kernel_rfl
theorem cal174 : callable Try.prog 174 = true := by kernel_rfl
theorem cal175 : callable Try.prog 175 = true := by kernel_rfl
theorem cal176 : callable Try.prog 176 = true := by kernel_rfl
theorem mixed : Try.prog.follows .mixedOrders = true := by kernel_rfl
def factsT2 := (And.intro (And.intro (And.intro fact_ok2 fact_cells2) (And.intro fact_bytes2 fact_agg2)) (And.intro (And.intro fact_und2 fact_int2) (And.intro fact_zok2 fact_zero2)))
def factsT3 := (And.intro (And.intro (And.intro fact_ok3 fact_cells3) (And.intro fact_bytes3 fact_agg3)) (And.intro (And.intro fact_und3 fact_int3) (And.intro fact_zok3 fact_zero3)))
def factsT4 := (And.intro (And.intro (And.intro fact_ok4 fact_cells4) (And.intro fact_bytes4 fact_agg4)) (And.intro (And.intro fact_und4 fact_int4) (And.intro fact_bool4 (And.intro fact_zok4 fact_zero4))))
def factsT5 := (And.intro (And.intro (And.intro fact_ok5 fact_cells5) (And.intro fact_bytes5 fact_agg5)) (And.intro (And.intro fact_und5 fact_int5) (And.intro fact_zok5 fact_zero5)))
def factsT9 := (And.intro (And.intro (And.intro fact_ok9 fact_cells9) (And.intro fact_bytes9 fact_agg9)) (And.intro (And.intro fact_und9 fact_int9) (And.intro fact_str9 (And.intro fact_zok9 fact_zero9))))
def factsT12 := (And.intro (And.intro (And.intro fact_ok12 fact_cells12) (And.intro fact_bytes12 fact_agg12)) (And.intro (And.intro fact_und12 fact_int12) (And.intro fact_zok12 fact_zero12)))
def factsT21 := (And.intro (And.intro (And.intro fact_ok21 fact_cells21) (And.intro fact_bytes21 fact_agg21)) (And.intro (And.intro fact_und21 fact_int21) (And.intro fact_zok21 fact_zero21)))
def factsT22 := (And.intro (And.intro (And.intro fact_ok22 fact_cells22) (And.intro fact_bytes22 (And.intro fact_agg22 fact_und22))) (And.intro (And.intro fact_int22 fact_el22) (And.intro fact_sl22 (And.intro fact_zok22 fact_zero22))))
def factsT23 := (And.intro (And.intro (And.intro fact_ok23 fact_cells23) (And.intro fact_bytes23 (And.intro fact_agg23 fact_und23))) (And.intro (And.intro fact_int23 fact_el23) (And.intro fact_sl23 (And.intro fact_zok23 fact_zero23))))
def factsT25 := (And.intro (And.intro (And.intro fact_ok25 fact_cells25) (And.intro fact_bytes25 fact_agg25)) (And.intro (And.intro fact_und25 fact_int25) (And.intro fact_zok25 fact_zero25)))
def factsT36 := (And.intro (And.intro (And.intro fact_ok36 fact_cells36) (And.intro fact_bytes36 fact_agg36)) (And.intro (And.intro fact_und36 fact_int36) (And.intro fact_zok36 fact_zero36)))
def factsT39 := (And.intro (And.intro (And.intro fact_ok39 fact_cells39) (And.intro fact_bytes39 (And.intro fact_agg39 fact_und39))) (And.intro (And.intro fact_int39 fact_el39) (And.intro fact_sl39 (And.intro fact_zok39 fact_zero39))))
def factsT46 := (And.intro (And.intro (And.intro fact_ok46 fact_cells46) (And.intro fact_bytes46 (And.intro fact_agg46 fact_und46))) (And.intro (And.intro fact_int46 fact_el46) (And.intro fact_sl46 (And.intro fact_zok46 fact_zero46))))
def factsT47 := (And.intro (And.intro (And.intro fact_ok47 fact_cells47) (And.intro fact_bytes47 (And.intro fact_agg47 fact_und47))) (And.intro (And.intro fact_int47 fact_el47) (And.intro fact_sl47 (And.intro fact_zok47 fact_zero47))))
def factsT48 := (And.intro (And.intro (And.intro fact_ok48 fact_cells48) (And.intro fact_bytes48 fact_agg48)) (And.intro (And.intro fact_und48 fact_int48) (And.intro fact_zok48 fact_zero48)))
def factsT68 := (And.intro (And.intro (And.intro fact_ok68 fact_cells68) (And.intro fact_bytes68 (And.intro fact_agg68 fact_und68))) (And.intro (And.intro fact_int68 fact_el68) (And.intro fact_sl68 (And.intro fact_zok68 fact_zero68))))
def factsT69 := (And.intro (And.intro (And.intro fact_ok69 fact_cells69) (And.intro fact_bytes69 (And.intro fact_agg69 fact_und69))) (And.intro (And.intro fact_int69 (And.intro fact_zok69 fact_zero69)) (And.intro fact_fok69 (And.intro fact_f0_69 fact_f1_69))))
def factsT70 := (And.intro (And.intro (And.intro fact_ok70 fact_cells70) (And.intro fact_bytes70 (And.intro fact_agg70 fact_und70))) (And.intro (And.intro fact_int70 (And.intro fact_zok70 fact_zero70)) (And.intro fact_fok70 (And.intro fact_f0_70 fact_f1_70))))
def factsT81 := (And.intro (And.intro (And.intro fact_ok81 fact_cells81) (And.intro fact_bytes81 (And.intro fact_agg81 fact_und81))) (And.intro (And.intro fact_int81 fact_el81) (And.intro fact_sl81 (And.intro fact_zok81 fact_zero81))))
def factsT89 := (And.intro (And.intro (And.intro fact_ok89 fact_cells89) (And.intro fact_bytes89 (And.intro fact_agg89 fact_und89))) (And.intro (And.intro fact_int89 fact_el89) (And.intro fact_sl89 (And.intro fact_zok89 fact_zero89))))
def factsT97 := (And.intro (And.intro (And.intro fact_ok97 fact_cells97) (And.intro fact_bytes97 (And.intro fact_agg97 fact_und97))) (And.intro (And.intro fact_int97 fact_el97) (And.intro fact_sl97 (And.intro fact_zok97 fact_zero97))))
def factsT98 := (And.intro (And.intro (And.intro fact_ok98 (And.intro fact_cells98 fact_bytes98)) (And.intro fact_agg98 (And.intro fact_und98 fact_int98))) (And.intro (And.intro fact_zok98 (And.intro fact_zero98 fact_fok98)) (And.intro fact_f0_98 (And.intro fact_f1_98 fact_f2_98))))
def factsT99 := (And.intro (And.intro (And.intro fact_ok99 (And.intro fact_cells99 fact_bytes99)) (And.intro fact_agg99 (And.intro fact_und99 fact_int99))) (And.intro (And.intro fact_zok99 (And.intro fact_zero99 fact_fok99)) (And.intro fact_f0_99 (And.intro fact_f1_99 fact_f2_99))))
def factsT113 := (And.intro (And.intro (And.intro fact_ok113 fact_cells113) (And.intro fact_bytes113 (And.intro fact_agg113 fact_und113))) (And.intro (And.intro fact_int113 (And.intro fact_zok113 fact_zero113)) (And.intro fact_fok113 (And.intro fact_f0_113 fact_f1_113))))
def factsT114 := (And.intro (And.intro (And.intro fact_ok114 fact_cells114) (And.intro fact_bytes114 (And.intro fact_agg114 fact_und114))) (And.intro (And.intro fact_int114 (And.intro fact_zok114 fact_zero114)) (And.intro fact_fok114 (And.intro fact_f0_114 fact_f1_114))))
def factsT119 := (And.intro (And.intro (And.intro fact_ok119 fact_cells119) (And.intro fact_bytes119 fact_agg119)) (And.intro (And.intro fact_und119 fact_int119) (And.intro fact_zok119 fact_zero119)))
def factsT120 := (And.intro (And.intro (And.intro fact_ok120 fact_cells120) (And.intro fact_bytes120 fact_agg120)) (And.intro (And.intro fact_und120 fact_int120) (And.intro fact_zok120 fact_zero120)))
def factsT128 := (And.intro (And.intro fact_ok128 (And.intro fact_cells128 fact_bytes128)) (And.intro fact_agg128 (And.intro fact_und128 fact_int128)))
def factsT129 := (And.intro (And.intro fact_ok129 (And.intro fact_cells129 fact_bytes129)) (And.intro (And.intro fact_agg129 fact_und129) (And.intro fact_int129 fact_flt129)))
def factsT131 := (And.intro (And.intro (And.intro fact_ok131 fact_cells131) (And.intro fact_bytes131 (And.intro fact_agg131 fact_und131))) (And.intro (And.intro fact_int131 fact_el131) (And.intro fact_sl131 (And.intro fact_zok131 fact_zero131))))
def factsT143 := (And.intro (And.intro (And.intro fact_ok143 (And.intro fact_cells143 fact_bytes143)) (And.intro fact_agg143 (And.intro fact_und143 fact_int143))) (And.intro (And.intro fact_zok143 (And.intro fact_zero143 fact_fok143)) (And.intro fact_f0_143 (And.intro fact_f1_143 fact_f2_143))))
def factsT144 := (And.intro (And.intro (And.intro fact_ok144 (And.intro fact_cells144 fact_bytes144)) (And.intro fact_agg144 (And.intro fact_und144 fact_int144))) (And.intro (And.intro fact_zok144 (And.intro fact_zero144 fact_fok144)) (And.intro fact_f0_144 (And.intro fact_f1_144 fact_f2_144))))
def factsT151 := (And.intro (And.intro (And.intro fact_ok151 fact_cells151) (And.intro fact_bytes151 (And.intro fact_agg151 fact_und151))) (And.intro (And.intro fact_int151 fact_el151) (And.intro fact_sl151 (And.intro fact_zok151 fact_zero151))))
def factsT155 := (And.intro (And.intro (And.intro fact_ok155 (And.intro fact_cells155 fact_bytes155)) (And.intro fact_agg155 (And.intro fact_und155 fact_int155))) (And.intro (And.intro fact_zok155 (And.intro fact_zero155 fact_fok155)) (And.intro (And.intro fact_f0_155 fact_f1_155) (And.intro fact_f2_155 fact_f3_155))))
def factsT156 := (And.intro (And.intro (And.intro fact_ok156 (And.intro fact_cells156 fact_bytes156)) (And.intro fact_agg156 (And.intro fact_und156 fact_int156))) (And.intro (And.intro fact_zok156 (And.intro fact_zero156 fact_fok156)) (And.intro (And.intro fact_f0_156 fact_f1_156) (And.intro fact_f2_156 fact_f3_156))))
def factsT176 := (And.intro (And.intro fact_ok176 (And.intro fact_cells176 fact_bytes176)) (And.intro fact_agg176 (And.intro fact_und176 fact_int176)))
def factsT188 := (And.intro (And.intro (And.intro fact_ok188 fact_cells188) (And.intro fact_bytes188 (And.intro fact_agg188 fact_und188))) (And.intro (And.intro fact_int188 fact_arr188) (And.intro fact_zok188 (And.intro fact_zero188 fact_fok188))))
attribute [go_sem] factsT2 factsT3 factsT4 factsT5 factsT9 factsT12 factsT21 factsT22 factsT23 factsT25 factsT36 factsT39 factsT46 factsT47 factsT48 factsT68 factsT69 factsT70 factsT81 factsT89 factsT97 factsT98 factsT99 factsT113 factsT114 factsT119 factsT120 factsT128 factsT129 factsT131 factsT143 factsT144 factsT151 factsT155 factsT156 factsT176 factsT188
end Go.Proofs.Ytfmeiapglpphpaa.T
