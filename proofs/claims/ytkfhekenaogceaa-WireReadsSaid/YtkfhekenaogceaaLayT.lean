/-
  The seat's types, as the layer asks of them: closed facts, printed by a program of ours.
-/
import Derived.Test.YtkfhekenaogceaaLayL
import Derived.Test.YtkfhekenaogceaaProg
namespace Go.Proofs.Ytkfhekenaogceaa
open Go
theorem tyc0 : tyc Try.prog 0 = some none := by kernel_rfl
theorem tyc1 : tyc Try.prog 1 = some none := by kernel_rfl
theorem zmb1 : zmb Try.prog 1 = some (.cells [(.lit .nilFunc)] 1 1) := by kernel_rfl
theorem tyc2 : tyc Try.prog 2 = some none := by kernel_rfl
theorem zmb2 : zmb Try.prog 2 = some (.cells [(.lit (.int .i64 0))] 1 2) := by kernel_rfl
theorem tyc3 : tyc Try.prog 3 = some none := by kernel_rfl
theorem zmb3 : zmb Try.prog 3 = some (.cells [(.lit (.int .i64 0))] 1 3) := by kernel_rfl
theorem tyc4 : tyc Try.prog 4 = some none := by kernel_rfl
theorem zmb4 : zmb Try.prog 4 = some (.cells [(.lit (.bool false))] 1 4) := by kernel_rfl
theorem tyc5 : tyc Try.prog 5 = some none := by kernel_rfl
theorem zmb5 : zmb Try.prog 5 = some (.cells [(.lit (.int .u8 0))] 1 5) := by kernel_rfl
theorem tyc6 : tyc Try.prog 6 = some none := by kernel_rfl
theorem zmb6 : zmb Try.prog 6 = some (.cells [(.lit (.int .u8 0))] 1 6) := by kernel_rfl
theorem tyc7 : tyc Try.prog 7 = some (some 4) := by kernel_rfl
theorem foff7_0 : foff Try.prog 7 0 = some 0 := by kernel_rfl
theorem fpart7_0 : fpart Try.prog 7 0 = some (0, none) := by kernel_rfl
theorem foff7_1 : foff Try.prog 7 1 = some 1 := by kernel_rfl
theorem fpart7_1 : fpart Try.prog 7 1 = some (1, none) := by kernel_rfl
theorem foff7_2 : foff Try.prog 7 2 = some 2 := by kernel_rfl
theorem fpart7_2 : fpart Try.prog 7 2 = some (2, none) := by kernel_rfl
theorem foff7_3 : foff Try.prog 7 3 = some 3 := by kernel_rfl
theorem fpart7_3 : fpart Try.prog 7 3 = some (3, none) := by kernel_rfl
theorem fe7 : flatEq Try.prog 7 [1, 1, 2, 1] := flatEq_of (by kernel_rfl)
theorem zmb7 : zmb Try.prog 7 = some (.cells [(.lit (.int .i64 0)), (.lit (.int .i64 0)), (.lit (.bool false)), (.lit (.int .u8 0))] 4 7) := by kernel_rfl
theorem bldT7 : bldT Try.prog 7 = some ([(.int .i64 0), (.int .i64 0), (.bool false), (.int .u8 0)], [(0, 1), (1, 1), (2, 1), (3, 1)]) := by kernel_rfl
theorem tyc8 : tyc Try.prog 8 = some (some 4) := by kernel_rfl
theorem foff8_0 : foff Try.prog 8 0 = some 0 := by kernel_rfl
theorem fpart8_0 : fpart Try.prog 8 0 = some (0, none) := by kernel_rfl
theorem foff8_1 : foff Try.prog 8 1 = some 1 := by kernel_rfl
theorem fpart8_1 : fpart Try.prog 8 1 = some (1, none) := by kernel_rfl
theorem foff8_2 : foff Try.prog 8 2 = some 2 := by kernel_rfl
theorem fpart8_2 : fpart Try.prog 8 2 = some (2, none) := by kernel_rfl
theorem foff8_3 : foff Try.prog 8 3 = some 3 := by kernel_rfl
theorem fpart8_3 : fpart Try.prog 8 3 = some (3, none) := by kernel_rfl
theorem fe8 : flatEq Try.prog 8 [1, 1, 2, 1] := flatEq_of (by kernel_rfl)
theorem zmb8 : zmb Try.prog 8 = some (.cells [(.lit (.int .i64 0)), (.lit (.int .i64 0)), (.lit (.bool false)), (.lit (.int .u8 0))] 4 8) := by kernel_rfl
theorem bldT8 : bldT Try.prog 8 = some ([(.int .i64 0), (.int .i64 0), (.bool false), (.int .u8 0)], [(0, 1), (1, 1), (2, 1), (3, 1)]) := by kernel_rfl
theorem tyc9 : tyc Try.prog 9 = some none := by kernel_rfl
theorem zmb9 : zmb Try.prog 9 = some (.cells [(.lit (.string ⟨#[]⟩))] 1 9) := by kernel_rfl
theorem tyc10 : tyc Try.prog 10 = some none := by kernel_rfl
theorem zmb10 : zmb Try.prog 10 = some (.cells [(.lit (.string ⟨#[]⟩))] 1 10) := by kernel_rfl
theorem tyc11 : tyc Try.prog 11 = some none := by kernel_rfl
theorem zmb11 : zmb Try.prog 11 = some (.cells [(.lit (.string ⟨#[]⟩))] 1 11) := by kernel_rfl
theorem tyc12 : tyc Try.prog 12 = some none := by kernel_rfl
theorem zmb12 : zmb Try.prog 12 = some (.cells [(.lit (.int .u64 0))] 1 12) := by kernel_rfl
theorem tyc13 : tyc Try.prog 13 = some (some 2) := by kernel_rfl
theorem foff13_0 : foff Try.prog 13 0 = some 0 := by kernel_rfl
theorem fpart13_0 : fpart Try.prog 13 0 = some (0, none) := by kernel_rfl
theorem foff13_1 : foff Try.prog 13 1 = some 1 := by kernel_rfl
theorem fpart13_1 : fpart Try.prog 13 1 = some (1, none) := by kernel_rfl
theorem zmb13 : zmb Try.prog 13 = some (.cells [(.lit (.string ⟨#[]⟩)), (.lit (.int .u64 0))] 2 13) := by kernel_rfl
theorem bldT13 : bldT Try.prog 13 = some ([(.string ⟨#[]⟩), (.int .u64 0)], [(0, 1), (1, 1)]) := by kernel_rfl
theorem tyc14 : tyc Try.prog 14 = some (some 2) := by kernel_rfl
theorem foff14_0 : foff Try.prog 14 0 = some 0 := by kernel_rfl
theorem fpart14_0 : fpart Try.prog 14 0 = some (0, none) := by kernel_rfl
theorem foff14_1 : foff Try.prog 14 1 = some 1 := by kernel_rfl
theorem fpart14_1 : fpart Try.prog 14 1 = some (1, none) := by kernel_rfl
theorem zmb14 : zmb Try.prog 14 = some (.cells [(.lit (.string ⟨#[]⟩)), (.lit (.int .u64 0))] 2 14) := by kernel_rfl
theorem bldT14 : bldT Try.prog 14 = some ([(.string ⟨#[]⟩), (.int .u64 0)], [(0, 1), (1, 1)]) := by kernel_rfl
theorem tyc15 : tyc Try.prog 15 = some none := by kernel_rfl
theorem zmb15 : zmb Try.prog 15 = some (.cells [(.lit (.pointer none))] 1 15) := by kernel_rfl
theorem tyc16 : tyc Try.prog 16 = some none := by kernel_rfl
theorem zmb16 : zmb Try.prog 16 = some (.cells [(.lit (.pointer none))] 1 16) := by kernel_rfl
theorem tyc17 : tyc Try.prog 17 = some none := by kernel_rfl
theorem zmb17 : zmb Try.prog 17 = some (.cells [(.lit (.pointer none))] 1 17) := by kernel_rfl
theorem tyc18 : tyc Try.prog 18 = some (some 1) := by kernel_rfl
theorem foff18_0 : foff Try.prog 18 0 = some 0 := by kernel_rfl
theorem fpart18_0 : fpart Try.prog 18 0 = some (0, none) := by kernel_rfl
theorem zmb18 : zmb Try.prog 18 = some (.cells [(.lit (.pointer none))] 1 18) := by kernel_rfl
theorem bldT18 : bldT Try.prog 18 = some ([(.pointer none)], [(0, 1)]) := by kernel_rfl
theorem tyc19 : tyc Try.prog 19 = some (some 1) := by kernel_rfl
theorem foff19_0 : foff Try.prog 19 0 = some 0 := by kernel_rfl
theorem fpart19_0 : fpart Try.prog 19 0 = some (0, none) := by kernel_rfl
theorem zmb19 : zmb Try.prog 19 = some (.cells [(.lit (.pointer none))] 1 19) := by kernel_rfl
theorem bldT19 : bldT Try.prog 19 = some ([(.pointer none)], [(0, 1)]) := by kernel_rfl
theorem tyc20 : tyc Try.prog 20 = some none := by kernel_rfl
theorem zmb20 : zmb Try.prog 20 = some (.cells [(.lit .nilIface)] 1 20) := by kernel_rfl
theorem tyc21 : tyc Try.prog 21 = some none := by kernel_rfl
theorem zmb21 : zmb Try.prog 21 = some (.cells [(.lit (.int .i32 0))] 1 21) := by kernel_rfl
theorem tyc22 : tyc Try.prog 22 = some none := by kernel_rfl
theorem elt22 : elt Try.prog 22 = some (none, 1) := by kernel_rfl
theorem mkz22 : mkz Try.prog 22 = some (5, 1, .u8) := by kernel_rfl
theorem apT22 : apT Try.prog 22 = some (5, 1, 1) := by kernel_rfl
theorem elk22 : elk Try.prog 22 = (some .u8) := by kernel_rfl
theorem zmb22 : zmb Try.prog 22 = some (.cells [(.lit (.slice none 0 0))] 1 22) := by kernel_rfl
theorem tyc23 : tyc Try.prog 23 = some none := by kernel_rfl
theorem elt23 : elt Try.prog 23 = some (none, 2) := by kernel_rfl
theorem mkz23 : mkz Try.prog 23 = none := by kernel_rfl
theorem mkc23 : mkc Try.prog 23 = some (33, 2, 16, [(.lit (.int .i64 0)), (.lit (.int .i64 0))]) := by kernel_rfl
theorem apT23 : apT Try.prog 23 = some (33, 2, 16) := by kernel_rfl
theorem elk23 : elk Try.prog 23 = none := by kernel_rfl
theorem zmb23 : zmb Try.prog 23 = some (.cells [(.lit (.slice none 0 0))] 1 23) := by kernel_rfl
theorem tyc24 : tyc Try.prog 24 = some none := by kernel_rfl
theorem zmb24 : zmb Try.prog 24 = some (.cells [(.lit .nilFunc)] 1 24) := by kernel_rfl
theorem tyc25 : tyc Try.prog 25 = some none := by kernel_rfl
theorem mth25_26 : mthOf Try.prog 25 "firebell/wire.fail" = some 26 := by kernel_rfl
theorem mth25_25 : mthOf Try.prog 25 "firebell/wire.get" = some 25 := by kernel_rfl
theorem mth25_27 : mthOf Try.prog 25 "firebell/wire.take" = some 27 := by kernel_rfl
theorem con25 : Try.prog.concrete 25 = true := by kernel_rfl
theorem zmb25 : zmb Try.prog 25 = some (.cells [(.lit (.pointer none))] 1 25) := by kernel_rfl
theorem tyc26 : tyc Try.prog 26 = some none := by kernel_rfl
theorem zmb26 : zmb Try.prog 26 = some (.cells [(.lit .nilFunc)] 1 26) := by kernel_rfl
theorem tyc27 : tyc Try.prog 27 = some none := by kernel_rfl
theorem zmb27 : zmb Try.prog 27 = some (.cells [(.lit (.int .u64 0))] 1 27) := by kernel_rfl
theorem tyc28 : tyc Try.prog 28 = some (some 4) := by kernel_rfl
theorem foff28_0 : foff Try.prog 28 0 = some 0 := by kernel_rfl
theorem fpart28_0 : fpart Try.prog 28 0 = some (0, none) := by kernel_rfl
theorem foff28_1 : foff Try.prog 28 1 = some 1 := by kernel_rfl
theorem fpart28_1 : fpart Try.prog 28 1 = some (1, none) := by kernel_rfl
theorem foff28_2 : foff Try.prog 28 2 = some 2 := by kernel_rfl
theorem fpart28_2 : fpart Try.prog 28 2 = some (2, none) := by kernel_rfl
theorem foff28_3 : foff Try.prog 28 3 = some 3 := by kernel_rfl
theorem fpart28_3 : fpart Try.prog 28 3 = some (3, none) := by kernel_rfl
theorem fe28 : flatEq Try.prog 28 [1, 1, 3, 2] := flatEq_of (by kernel_rfl)
theorem zmb28 : zmb Try.prog 28 = some (.cells [(.lit (.int .u64 0)), (.lit (.int .i64 0)), (.lit (.string ⟨#[]⟩)), (.lit (.bool false))] 4 28) := by kernel_rfl
theorem bldT28 : bldT Try.prog 28 = some ([(.int .u64 0), (.int .i64 0), (.string ⟨#[]⟩), (.bool false)], [(0, 1), (1, 1), (2, 1), (3, 1)]) := by kernel_rfl
theorem tyc29 : tyc Try.prog 29 = some (some 4) := by kernel_rfl
theorem foff29_0 : foff Try.prog 29 0 = some 0 := by kernel_rfl
theorem fpart29_0 : fpart Try.prog 29 0 = some (0, none) := by kernel_rfl
theorem foff29_1 : foff Try.prog 29 1 = some 1 := by kernel_rfl
theorem fpart29_1 : fpart Try.prog 29 1 = some (1, none) := by kernel_rfl
theorem foff29_2 : foff Try.prog 29 2 = some 2 := by kernel_rfl
theorem fpart29_2 : fpart Try.prog 29 2 = some (2, none) := by kernel_rfl
theorem foff29_3 : foff Try.prog 29 3 = some 3 := by kernel_rfl
theorem fpart29_3 : fpart Try.prog 29 3 = some (3, none) := by kernel_rfl
theorem fe29 : flatEq Try.prog 29 [1, 1, 3, 2] := flatEq_of (by kernel_rfl)
theorem zmb29 : zmb Try.prog 29 = some (.cells [(.lit (.int .u64 0)), (.lit (.int .i64 0)), (.lit (.string ⟨#[]⟩)), (.lit (.bool false))] 4 29) := by kernel_rfl
theorem bldT29 : bldT Try.prog 29 = some ([(.int .u64 0), (.int .i64 0), (.string ⟨#[]⟩), (.bool false)], [(0, 1), (1, 1), (2, 1), (3, 1)]) := by kernel_rfl
theorem tyc30 : tyc Try.prog 30 = some none := by kernel_rfl
theorem tyc31 : tyc Try.prog 31 = some none := by kernel_rfl
theorem zmb31 : zmb Try.prog 31 = some (.cells [(.lit .nilFunc)] 1 31) := by kernel_rfl
theorem tyc32 : tyc Try.prog 32 = some (some 2) := by kernel_rfl
theorem foff32_0 : foff Try.prog 32 0 = some 0 := by kernel_rfl
theorem fpart32_0 : fpart Try.prog 32 0 = some (0, none) := by kernel_rfl
theorem foff32_1 : foff Try.prog 32 1 = some 1 := by kernel_rfl
theorem fpart32_1 : fpart Try.prog 32 1 = some (1, none) := by kernel_rfl
theorem fe32 : flatEq Try.prog 32 [1, 1] := flatEq_of (by kernel_rfl)
theorem zmb32 : zmb Try.prog 32 = some (.cells [(.lit (.int .i64 0)), (.lit (.int .i64 0))] 2 32) := by kernel_rfl
theorem bldT32 : bldT Try.prog 32 = some ([(.int .i64 0), (.int .i64 0)], [(0, 1), (1, 1)]) := by kernel_rfl
theorem tyc33 : tyc Try.prog 33 = some (some 2) := by kernel_rfl
theorem foff33_0 : foff Try.prog 33 0 = some 0 := by kernel_rfl
theorem fpart33_0 : fpart Try.prog 33 0 = some (0, none) := by kernel_rfl
theorem foff33_1 : foff Try.prog 33 1 = some 1 := by kernel_rfl
theorem fpart33_1 : fpart Try.prog 33 1 = some (1, none) := by kernel_rfl
theorem fe33 : flatEq Try.prog 33 [1, 1] := flatEq_of (by kernel_rfl)
theorem zmb33 : zmb Try.prog 33 = some (.cells [(.lit (.int .i64 0)), (.lit (.int .i64 0))] 2 33) := by kernel_rfl
theorem bldT33 : bldT Try.prog 33 = some ([(.int .i64 0), (.int .i64 0)], [(0, 1), (1, 1)]) := by kernel_rfl
theorem tyc34 : tyc Try.prog 34 = some none := by kernel_rfl
theorem zmb34 : zmb Try.prog 34 = some (.cells [(.lit .nilFunc)] 1 34) := by kernel_rfl
theorem tyc35 : tyc Try.prog 35 = some none := by kernel_rfl
theorem zmb35 : zmb Try.prog 35 = some (.cells [(.lit .nilFunc)] 1 35) := by kernel_rfl
theorem tyc36 : tyc Try.prog 36 = some none := by kernel_rfl
theorem zmb36 : zmb Try.prog 36 = some (.cells [(.lit .nilFunc)] 1 36) := by kernel_rfl
theorem tyc37 : tyc Try.prog 37 = some none := by kernel_rfl
theorem zmb37 : zmb Try.prog 37 = some (.cells [(.lit .nilFunc)] 1 37) := by kernel_rfl
theorem tyc38 : tyc Try.prog 38 = some none := by kernel_rfl
theorem zmb38 : zmb Try.prog 38 = some (.cells [(.lit .nilFunc)] 1 38) := by kernel_rfl
theorem tyc39 : tyc Try.prog 39 = some none := by kernel_rfl
theorem zmb39 : zmb Try.prog 39 = some (.cells [(.lit (.int .i64 0))] 1 39) := by kernel_rfl
theorem tyc40 : tyc Try.prog 40 = some none := by kernel_rfl
theorem zmb40 : zmb Try.prog 40 = some (.cells [(.lit .nilFunc)] 1 40) := by kernel_rfl
theorem tyc41 : tyc Try.prog 41 = some none := by kernel_rfl
theorem zmb41 : zmb Try.prog 41 = some (.cells [(.lit .nilFunc)] 1 41) := by kernel_rfl
theorem tyc42 : tyc Try.prog 42 = some none := by kernel_rfl
theorem zmb42 : zmb Try.prog 42 = some (.cells [(.lit .nilFunc)] 1 42) := by kernel_rfl
theorem tyc43 : tyc Try.prog 43 = some none := by kernel_rfl
theorem zmb43 : zmb Try.prog 43 = some (.cells [(.lit .nilFunc)] 1 43) := by kernel_rfl
theorem tyc44 : tyc Try.prog 44 = some none := by kernel_rfl
theorem zmb44 : zmb Try.prog 44 = some (.cells [(.lit .nilFunc)] 1 44) := by kernel_rfl
theorem tyc45 : tyc Try.prog 45 = some none := by kernel_rfl
theorem zmb45 : zmb Try.prog 45 = some (.cells [(.lit .nilFunc)] 1 45) := by kernel_rfl
theorem tyc46 : tyc Try.prog 46 = some none := by kernel_rfl
theorem zmb46 : zmb Try.prog 46 = some (.cells [(.lit .nilFunc)] 1 46) := by kernel_rfl
theorem tyc47 : tyc Try.prog 47 = some none := by kernel_rfl
theorem zmb47 : zmb Try.prog 47 = some (.cells [(.lit .nilFunc)] 1 47) := by kernel_rfl
theorem tyc48 : tyc Try.prog 48 = some none := by kernel_rfl
theorem zmb48 : zmb Try.prog 48 = some (.cells [(.lit .nilFunc)] 1 48) := by kernel_rfl
theorem tyc49 : tyc Try.prog 49 = some none := by kernel_rfl
theorem zmb49 : zmb Try.prog 49 = some (.cells [(.lit .nilFunc)] 1 49) := by kernel_rfl
theorem tyc50 : tyc Try.prog 50 = some none := by kernel_rfl
theorem zmb50 : zmb Try.prog 50 = some (.cells [(.lit .nilFunc)] 1 50) := by kernel_rfl
theorem tyc51 : tyc Try.prog 51 = some none := by kernel_rfl
theorem zmb51 : zmb Try.prog 51 = some (.cells [(.lit .nilFunc)] 1 51) := by kernel_rfl
theorem tyc52 : tyc Try.prog 52 = some (some 2) := by kernel_rfl
theorem foff52_0 : foff Try.prog 52 0 = some 0 := by kernel_rfl
theorem fpart52_0 : fpart Try.prog 52 0 = some (0, none) := by kernel_rfl
theorem foff52_1 : foff Try.prog 52 1 = some 1 := by kernel_rfl
theorem fpart52_1 : fpart Try.prog 52 1 = some (1, none) := by kernel_rfl
theorem zmb52 : zmb Try.prog 52 = some (.cells [(.lit (.slice none 0 0)), (.lit (.bool false))] 2 52) := by kernel_rfl
theorem bldT52 : bldT Try.prog 52 = some ([(.slice none 0 0), (.bool false)], [(0, 1), (1, 1)]) := by kernel_rfl
theorem tyc53 : tyc Try.prog 53 = some (some 2) := by kernel_rfl
theorem foff53_0 : foff Try.prog 53 0 = some 0 := by kernel_rfl
theorem fpart53_0 : fpart Try.prog 53 0 = some (0, none) := by kernel_rfl
theorem foff53_1 : foff Try.prog 53 1 = some 1 := by kernel_rfl
theorem fpart53_1 : fpart Try.prog 53 1 = some (1, none) := by kernel_rfl
theorem zmb53 : zmb Try.prog 53 = some (.cells [(.lit (.slice none 0 0)), (.lit (.bool false))] 2 53) := by kernel_rfl
theorem bldT53 : bldT Try.prog 53 = some ([(.slice none 0 0), (.bool false)], [(0, 1), (1, 1)]) := by kernel_rfl
theorem tyc54 : tyc Try.prog 54 = some none := by kernel_rfl
theorem tyc55 : tyc Try.prog 55 = some none := by kernel_rfl
theorem zmb55 : zmb Try.prog 55 = some (.cells [(.lit .nilFunc)] 1 55) := by kernel_rfl
theorem tyc56 : tyc Try.prog 56 = some none := by kernel_rfl
theorem tyc57 : tyc Try.prog 57 = some none := by kernel_rfl
theorem zmb57 : zmb Try.prog 57 = some (.cells [(.lit .nilFunc)] 1 57) := by kernel_rfl
theorem tyc58 : tyc Try.prog 58 = some none := by kernel_rfl
theorem zmb58 : zmb Try.prog 58 = some (.cells [(.lit .nilFunc)] 1 58) := by kernel_rfl
theorem tyc59 : tyc Try.prog 59 = some none := by kernel_rfl
theorem zmb59 : zmb Try.prog 59 = some (.cells [(.lit (.int .u64 0))] 1 59) := by kernel_rfl
theorem tyc60 : tyc Try.prog 60 = some none := by kernel_rfl
theorem zmb60 : zmb Try.prog 60 = some (.cells [(.lit .nilFunc)] 1 60) := by kernel_rfl
theorem tyc61 : tyc Try.prog 61 = some none := by kernel_rfl
theorem zmb61 : zmb Try.prog 61 = some (.cells [(.lit .nilFunc)] 1 61) := by kernel_rfl
theorem tyc62 : tyc Try.prog 62 = some (some 4) := by kernel_rfl
theorem foff62_0 : foff Try.prog 62 0 = some 0 := by kernel_rfl
theorem fpart62_0 : fpart Try.prog 62 0 = some (0, none) := by kernel_rfl
theorem foff62_1 : foff Try.prog 62 1 = some 1 := by kernel_rfl
theorem fpart62_1 : fpart Try.prog 62 1 = some (1, none) := by kernel_rfl
theorem foff62_2 : foff Try.prog 62 2 = some 2 := by kernel_rfl
theorem fpart62_2 : fpart Try.prog 62 2 = some (2, none) := by kernel_rfl
theorem foff62_3 : foff Try.prog 62 3 = some 3 := by kernel_rfl
theorem fpart62_3 : fpart Try.prog 62 3 = some (3, none) := by kernel_rfl
theorem zmb62 : zmb Try.prog 62 = some (.cells [(.lit (.pointer none)), (.lit (.pointer none)), (.lit (.pointer none)), (.lit (.string ⟨#[]⟩))] 4 62) := by kernel_rfl
theorem bldT62 : bldT Try.prog 62 = some ([(.pointer none), (.pointer none), (.pointer none), (.string ⟨#[]⟩)], [(0, 1), (1, 1), (2, 1), (3, 1)]) := by kernel_rfl
theorem tyc63 : tyc Try.prog 63 = some (some 4) := by kernel_rfl
theorem foff63_0 : foff Try.prog 63 0 = some 0 := by kernel_rfl
theorem fpart63_0 : fpart Try.prog 63 0 = some (0, none) := by kernel_rfl
theorem foff63_1 : foff Try.prog 63 1 = some 1 := by kernel_rfl
theorem fpart63_1 : fpart Try.prog 63 1 = some (1, none) := by kernel_rfl
theorem foff63_2 : foff Try.prog 63 2 = some 2 := by kernel_rfl
theorem fpart63_2 : fpart Try.prog 63 2 = some (2, none) := by kernel_rfl
theorem foff63_3 : foff Try.prog 63 3 = some 3 := by kernel_rfl
theorem fpart63_3 : fpart Try.prog 63 3 = some (3, none) := by kernel_rfl
theorem zmb63 : zmb Try.prog 63 = some (.cells [(.lit (.pointer none)), (.lit (.pointer none)), (.lit (.pointer none)), (.lit (.string ⟨#[]⟩))] 4 63) := by kernel_rfl
theorem bldT63 : bldT Try.prog 63 = some ([(.pointer none), (.pointer none), (.pointer none), (.string ⟨#[]⟩)], [(0, 1), (1, 1), (2, 1), (3, 1)]) := by kernel_rfl
theorem tyc64 : tyc Try.prog 64 = some (some 0) := by kernel_rfl
theorem elt64 : elt Try.prog 64 = some ((some 0), 1) := by kernel_rfl
theorem arr164 : arr1 Try.prog 64 = some 0 := by kernel_rfl
theorem zmb64 : zmb Try.prog 64 = some (.cells [] 0 64) := by kernel_rfl
theorem bldT64 : bldT Try.prog 64 = some ([], []) := by kernel_rfl
theorem tyc65 : tyc Try.prog 65 = some (some 0) := by kernel_rfl
theorem fpart65_0 : fpart Try.prog 65 0 = some (0, (some 0)) := by kernel_rfl
theorem zmb65 : zmb Try.prog 65 = some (.cells [] 0 65) := by kernel_rfl
theorem bldT65 : bldT Try.prog 65 = some ([], [(0, 0)]) := by kernel_rfl
theorem tyc66 : tyc Try.prog 66 = some (some 0) := by kernel_rfl
theorem fpart66_0 : fpart Try.prog 66 0 = some (0, (some 0)) := by kernel_rfl
theorem zmb66 : zmb Try.prog 66 = some (.cells [] 0 66) := by kernel_rfl
theorem bldT66 : bldT Try.prog 66 = some ([], [(0, 0)]) := by kernel_rfl
theorem tyc67 : tyc Try.prog 67 = some none := by kernel_rfl
theorem zmb67 : zmb Try.prog 67 = some (.cells [(.lit (.int .u32 0))] 1 67) := by kernel_rfl
theorem tyc68 : tyc Try.prog 68 = some none := by kernel_rfl
theorem zmb68 : zmb Try.prog 68 = some (.cells [(.lit (.int .u8 0))] 1 68) := by kernel_rfl
theorem tyc69 : tyc Try.prog 69 = some none := by kernel_rfl
theorem zmb69 : zmb Try.prog 69 = some (.cells [(.lit (.int .u8 0))] 1 69) := by kernel_rfl
theorem tyc70 : tyc Try.prog 70 = some none := by kernel_rfl
theorem zmb70 : zmb Try.prog 70 = some (.cells [(.lit .nilFunc)] 1 70) := by kernel_rfl
theorem tyc71 : tyc Try.prog 71 = some none := by kernel_rfl
theorem zmb71 : zmb Try.prog 71 = some (.cells [(.lit (.pointer none))] 1 71) := by kernel_rfl
theorem tyc72 : tyc Try.prog 72 = some none := by kernel_rfl
theorem zmb72 : zmb Try.prog 72 = some (.cells [(.lit (.int .i32 0))] 1 72) := by kernel_rfl
theorem tyc73 : tyc Try.prog 73 = some none := by kernel_rfl
theorem zmb73 : zmb Try.prog 73 = some (.cells [(.lit (.int .i32 0))] 1 73) := by kernel_rfl
theorem tyc74 : tyc Try.prog 74 = some (some 11) := by kernel_rfl
theorem foff74_0 : foff Try.prog 74 0 = some 0 := by kernel_rfl
theorem fpart74_0 : fpart Try.prog 74 0 = some (0, none) := by kernel_rfl
theorem foff74_1 : foff Try.prog 74 1 = some 1 := by kernel_rfl
theorem fpart74_1 : fpart Try.prog 74 1 = some (1, none) := by kernel_rfl
theorem foff74_2 : foff Try.prog 74 2 = some 2 := by kernel_rfl
theorem fpart74_2 : fpart Try.prog 74 2 = some (2, none) := by kernel_rfl
theorem foff74_3 : foff Try.prog 74 3 = some 3 := by kernel_rfl
theorem fpart74_3 : fpart Try.prog 74 3 = some (3, none) := by kernel_rfl
theorem foff74_4 : foff Try.prog 74 4 = some 4 := by kernel_rfl
theorem fpart74_4 : fpart Try.prog 74 4 = some (4, none) := by kernel_rfl
theorem foff74_5 : foff Try.prog 74 5 = some 5 := by kernel_rfl
theorem fpart74_5 : fpart Try.prog 74 5 = some (5, none) := by kernel_rfl
theorem foff74_6 : foff Try.prog 74 6 = some 6 := by kernel_rfl
theorem fpart74_6 : fpart Try.prog 74 6 = some (6, none) := by kernel_rfl
theorem foff74_7 : foff Try.prog 74 7 = some 7 := by kernel_rfl
theorem fpart74_7 : fpart Try.prog 74 7 = some (7, none) := by kernel_rfl
theorem foff74_8 : foff Try.prog 74 8 = some 8 := by kernel_rfl
theorem fpart74_8 : fpart Try.prog 74 8 = some (8, none) := by kernel_rfl
theorem foff74_9 : foff Try.prog 74 9 = some 9 := by kernel_rfl
theorem fpart74_9 : fpart Try.prog 74 9 = some (9, none) := by kernel_rfl
theorem foff74_10 : foff Try.prog 74 10 = some 10 := by kernel_rfl
theorem fpart74_10 : fpart Try.prog 74 10 = some (10, none) := by kernel_rfl
theorem zmb74 : zmb Try.prog 74 = some (.cells [(.lit (.int .u64 0)), (.lit (.int .u64 0)), (.lit (.int .u32 0)), (.lit (.int .u8 0)), (.lit (.int .u8 0)), (.lit (.int .u8 0)), (.lit (.int .u8 0)), (.lit .nilFunc), (.lit (.pointer none)), (.lit (.int .i32 0)), (.lit (.int .i32 0))] 11 74) := by kernel_rfl
theorem bldT74 : bldT Try.prog 74 = some ([(.int .u64 0), (.int .u64 0), (.int .u32 0), (.int .u8 0), (.int .u8 0), (.int .u8 0), (.int .u8 0), .nilFunc, (.pointer none), (.int .i32 0), (.int .i32 0)], [(0, 1), (1, 1), (2, 1), (3, 1), (4, 1), (5, 1), (6, 1), (7, 1), (8, 1), (9, 1), (10, 1)]) := by kernel_rfl
theorem tyc75 : tyc Try.prog 75 = some (some 11) := by kernel_rfl
theorem foff75_0 : foff Try.prog 75 0 = some 0 := by kernel_rfl
theorem fpart75_0 : fpart Try.prog 75 0 = some (0, none) := by kernel_rfl
theorem foff75_1 : foff Try.prog 75 1 = some 1 := by kernel_rfl
theorem fpart75_1 : fpart Try.prog 75 1 = some (1, none) := by kernel_rfl
theorem foff75_2 : foff Try.prog 75 2 = some 2 := by kernel_rfl
theorem fpart75_2 : fpart Try.prog 75 2 = some (2, none) := by kernel_rfl
theorem foff75_3 : foff Try.prog 75 3 = some 3 := by kernel_rfl
theorem fpart75_3 : fpart Try.prog 75 3 = some (3, none) := by kernel_rfl
theorem foff75_4 : foff Try.prog 75 4 = some 4 := by kernel_rfl
theorem fpart75_4 : fpart Try.prog 75 4 = some (4, none) := by kernel_rfl
theorem foff75_5 : foff Try.prog 75 5 = some 5 := by kernel_rfl
theorem fpart75_5 : fpart Try.prog 75 5 = some (5, none) := by kernel_rfl
theorem foff75_6 : foff Try.prog 75 6 = some 6 := by kernel_rfl
theorem fpart75_6 : fpart Try.prog 75 6 = some (6, none) := by kernel_rfl
theorem foff75_7 : foff Try.prog 75 7 = some 7 := by kernel_rfl
theorem fpart75_7 : fpart Try.prog 75 7 = some (7, none) := by kernel_rfl
theorem foff75_8 : foff Try.prog 75 8 = some 8 := by kernel_rfl
theorem fpart75_8 : fpart Try.prog 75 8 = some (8, none) := by kernel_rfl
theorem foff75_9 : foff Try.prog 75 9 = some 9 := by kernel_rfl
theorem fpart75_9 : fpart Try.prog 75 9 = some (9, none) := by kernel_rfl
theorem foff75_10 : foff Try.prog 75 10 = some 10 := by kernel_rfl
theorem fpart75_10 : fpart Try.prog 75 10 = some (10, none) := by kernel_rfl
theorem zmb75 : zmb Try.prog 75 = some (.cells [(.lit (.int .u64 0)), (.lit (.int .u64 0)), (.lit (.int .u32 0)), (.lit (.int .u8 0)), (.lit (.int .u8 0)), (.lit (.int .u8 0)), (.lit (.int .u8 0)), (.lit .nilFunc), (.lit (.pointer none)), (.lit (.int .i32 0)), (.lit (.int .i32 0))] 11 75) := by kernel_rfl
theorem bldT75 : bldT Try.prog 75 = some ([(.int .u64 0), (.int .u64 0), (.int .u32 0), (.int .u8 0), (.int .u8 0), (.int .u8 0), (.int .u8 0), .nilFunc, (.pointer none), (.int .i32 0), (.int .i32 0)], [(0, 1), (1, 1), (2, 1), (3, 1), (4, 1), (5, 1), (6, 1), (7, 1), (8, 1), (9, 1), (10, 1)]) := by kernel_rfl
theorem tyc76 : tyc Try.prog 76 = some none := by kernel_rfl
theorem zmb76 : zmb Try.prog 76 = some (.cells [(.lit (.pointer none))] 1 76) := by kernel_rfl
theorem mixed : Try.prog.follows .mixedOrders = true := by kernel_rfl
end Go.Proofs.Ytkfhekenaogceaa
