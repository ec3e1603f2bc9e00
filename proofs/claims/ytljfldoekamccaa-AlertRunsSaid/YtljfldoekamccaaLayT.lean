/-
  The seat's types, as the layer asks of them: closed facts, printed by a program of ours.
-/
import Derived.Test.YtljfldoekamccaaLayL
import Derived.Test.YtljfldoekamccaaProg
namespace Go.Proofs.Ytljfldoekamccaa
open Go
theorem tyc0 : tyc Try.prog 0 = some none := by kernel_rfl
theorem tyc1 : tyc Try.prog 1 = some none := by kernel_rfl
theorem zmb1 : zmb Try.prog 1 = some (.cells [(.lit .nilFunc)] 1 1) := by kernel_rfl
theorem tyc2 : tyc Try.prog 2 = some none := by kernel_rfl
theorem zmb2 : zmb Try.prog 2 = some (.cells [(.lit (.int .i64 0))] 1 2) := by kernel_rfl
theorem tyc3 : tyc Try.prog 3 = some none := by kernel_rfl
theorem zmb3 : zmb Try.prog 3 = some (.cells [(.lit (.int .i64 0))] 1 3) := by kernel_rfl
theorem tyc4 : tyc Try.prog 4 = some none := by kernel_rfl
theorem zmb4 : zmb Try.prog 4 = some (.cells [(.lit (.bool false))] 1 4) := by kernel_rfl
theorem tyc5 : tyc Try.prog 5 = some none := by kernel_rfl
theorem zmb5 : zmb Try.prog 5 = some (.cells [(.lit (.int .u8 0))] 1 5) := by kernel_rfl
theorem tyc6 : tyc Try.prog 6 = some none := by kernel_rfl
theorem zmb6 : zmb Try.prog 6 = some (.cells [(.lit (.int .u8 0))] 1 6) := by kernel_rfl
theorem tyc7 : tyc Try.prog 7 = some (some 4) := by kernel_rfl
theorem foff7_0 : foff Try.prog 7 0 = some 0 := by kernel_rfl
theorem fpart7_0 : fpart Try.prog 7 0 = some (0, none) := by kernel_rfl
theorem foff7_1 : foff Try.prog 7 1 = some 1 := by kernel_rfl
theorem fpart7_1 : fpart Try.prog 7 1 = some (1, none) := by kernel_rfl
theorem foff7_2 : foff Try.prog 7 2 = some 2 := by kernel_rfl
theorem fpart7_2 : fpart Try.prog 7 2 = some (2, none) := by kernel_rfl
theorem foff7_3 : foff Try.prog 7 3 = some 3 := by kernel_rfl
theorem fpart7_3 : fpart Try.prog 7 3 = some (3, none) := by kernel_rfl
theorem fe7 : flatEq Try.prog 7 [1, 1, 2, 1] := flatEq_of (by kernel_rfl)
theorem zmb7 : zmb Try.prog 7 = some (.cells [(.lit (.int .i64 0)), (.lit (.int .i64 0)), (.lit (.bool false)), (.lit (.int .u8 0))] 4 7) := by kernel_rfl
theorem bldT7 : bldT Try.prog 7 = some ([(.int .i64 0), (.int .i64 0), (.bool false), (.int .u8 0)], [(0, 1), (1, 1), (2, 1), (3, 1)]) := by kernel_rfl
theorem tyc8 : tyc Try.prog 8 = some (some 4) := by kernel_rfl
theorem foff8_0 : foff Try.prog 8 0 = some 0 := by kernel_rfl
theorem fpart8_0 : fpart Try.prog 8 0 = some (0, none) := by kernel_rfl
theorem foff8_1 : foff Try.prog 8 1 = some 1 := by kernel_rfl
theorem fpart8_1 : fpart Try.prog 8 1 = some (1, none) := by kernel_rfl
theorem foff8_2 : foff Try.prog 8 2 = some 2 := by kernel_rfl
theorem fpart8_2 : fpart Try.prog 8 2 = some (2, none) := by kernel_rfl
theorem foff8_3 : foff Try.prog 8 3 = some 3 := by kernel_rfl
theorem fpart8_3 : fpart Try.prog 8 3 = some (3, none) := by kernel_rfl
theorem fe8 : flatEq Try.prog 8 [1, 1, 2, 1] := flatEq_of (by kernel_rfl)
theorem zmb8 : zmb Try.prog 8 = some (.cells [(.lit (.int .i64 0)), (.lit (.int .i64 0)), (.lit (.bool false)), (.lit (.int .u8 0))] 4 8) := by kernel_rfl
theorem bldT8 : bldT Try.prog 8 = some ([(.int .i64 0), (.int .i64 0), (.bool false), (.int .u8 0)], [(0, 1), (1, 1), (2, 1), (3, 1)]) := by kernel_rfl
theorem tyc9 : tyc Try.prog 9 = some none := by kernel_rfl
theorem zmb9 : zmb Try.prog 9 = some (.cells [(.lit (.string ⟨#[]⟩))] 1 9) := by kernel_rfl
theorem tyc10 : tyc Try.prog 10 = some none := by kernel_rfl
theorem zmb10 : zmb Try.prog 10 = some (.cells [(.lit (.string ⟨#[]⟩))] 1 10) := by kernel_rfl
theorem tyc11 : tyc Try.prog 11 = some none := by kernel_rfl
theorem zmb11 : zmb Try.prog 11 = some (.cells [(.lit (.string ⟨#[]⟩))] 1 11) := by kernel_rfl
theorem tyc12 : tyc Try.prog 12 = some none := by kernel_rfl
theorem zmb12 : zmb Try.prog 12 = some (.cells [(.lit (.int .u64 0))] 1 12) := by kernel_rfl
theorem tyc13 : tyc Try.prog 13 = some (some 2) := by kernel_rfl
theorem foff13_0 : foff Try.prog 13 0 = some 0 := by kernel_rfl
theorem fpart13_0 : fpart Try.prog 13 0 = some (0, none) := by kernel_rfl
theorem foff13_1 : foff Try.prog 13 1 = some 1 := by kernel_rfl
theorem fpart13_1 : fpart Try.prog 13 1 = some (1, none) := by kernel_rfl
theorem zmb13 : zmb Try.prog 13 = some (.cells [(.lit (.string ⟨#[]⟩)), (.lit (.int .u64 0))] 2 13) := by kernel_rfl
theorem bldT13 : bldT Try.prog 13 = some ([(.string ⟨#[]⟩), (.int .u64 0)], [(0, 1), (1, 1)]) := by kernel_rfl
theorem tyc14 : tyc Try.prog 14 = some (some 2) := by kernel_rfl
theorem foff14_0 : foff Try.prog 14 0 = some 0 := by kernel_rfl
theorem fpart14_0 : fpart Try.prog 14 0 = some (0, none) := by kernel_rfl
theorem foff14_1 : foff Try.prog 14 1 = some 1 := by kernel_rfl
theorem fpart14_1 : fpart Try.prog 14 1 = some (1, none) := by kernel_rfl
theorem zmb14 : zmb Try.prog 14 = some (.cells [(.lit (.string ⟨#[]⟩)), (.lit (.int .u64 0))] 2 14) := by kernel_rfl
theorem bldT14 : bldT Try.prog 14 = some ([(.string ⟨#[]⟩), (.int .u64 0)], [(0, 1), (1, 1)]) := by kernel_rfl
theorem tyc15 : tyc Try.prog 15 = some none := by kernel_rfl
theorem zmb15 : zmb Try.prog 15 = some (.cells [(.lit (.pointer none))] 1 15) := by kernel_rfl
theorem tyc16 : tyc Try.prog 16 = some none := by kernel_rfl
theorem zmb16 : zmb Try.prog 16 = some (.cells [(.lit (.pointer none))] 1 16) := by kernel_rfl
theorem tyc17 : tyc Try.prog 17 = some none := by kernel_rfl
theorem zmb17 : zmb Try.prog 17 = some (.cells [(.lit (.pointer none))] 1 17) := by kernel_rfl
theorem tyc18 : tyc Try.prog 18 = some (some 1) := by kernel_rfl
theorem foff18_0 : foff Try.prog 18 0 = some 0 := by kernel_rfl
theorem fpart18_0 : fpart Try.prog 18 0 = some (0, none) := by kernel_rfl
theorem zmb18 : zmb Try.prog 18 = some (.cells [(.lit (.pointer none))] 1 18) := by kernel_rfl
theorem bldT18 : bldT Try.prog 18 = some ([(.pointer none)], [(0, 1)]) := by kernel_rfl
theorem tyc19 : tyc Try.prog 19 = some (some 1) := by kernel_rfl
theorem foff19_0 : foff Try.prog 19 0 = some 0 := by kernel_rfl
theorem fpart19_0 : fpart Try.prog 19 0 = some (0, none) := by kernel_rfl
theorem zmb19 : zmb Try.prog 19 = some (.cells [(.lit (.pointer none))] 1 19) := by kernel_rfl
theorem bldT19 : bldT Try.prog 19 = some ([(.pointer none)], [(0, 1)]) := by kernel_rfl
theorem tyc20 : tyc Try.prog 20 = some none := by kernel_rfl
theorem zmb20 : zmb Try.prog 20 = some (.cells [(.lit .nilIface)] 1 20) := by kernel_rfl
theorem tyc21 : tyc Try.prog 21 = some none := by kernel_rfl
theorem zmb21 : zmb Try.prog 21 = some (.cells [(.lit (.int .i32 0))] 1 21) := by kernel_rfl
theorem tyc22 : tyc Try.prog 22 = some none := by kernel_rfl
theorem zmb22 : zmb Try.prog 22 = some (.cells [(.lit (.int .u64 0))] 1 22) := by kernel_rfl
theorem tyc23 : tyc Try.prog 23 = some (some 7) := by kernel_rfl
theorem foff23_0 : foff Try.prog 23 0 = some 0 := by kernel_rfl
theorem fpart23_0 : fpart Try.prog 23 0 = some (0, none) := by kernel_rfl
theorem foff23_1 : foff Try.prog 23 1 = some 1 := by kernel_rfl
theorem fpart23_1 : fpart Try.prog 23 1 = some (1, none) := by kernel_rfl
theorem foff23_2 : foff Try.prog 23 2 = some 2 := by kernel_rfl
theorem fpart23_2 : fpart Try.prog 23 2 = some (2, none) := by kernel_rfl
theorem foff23_3 : foff Try.prog 23 3 = some 3 := by kernel_rfl
theorem fpart23_3 : fpart Try.prog 23 3 = some (3, none) := by kernel_rfl
theorem foff23_4 : foff Try.prog 23 4 = some 4 := by kernel_rfl
theorem fpart23_4 : fpart Try.prog 23 4 = some (4, none) := by kernel_rfl
theorem foff23_5 : foff Try.prog 23 5 = some 5 := by kernel_rfl
theorem fpart23_5 : fpart Try.prog 23 5 = some (5, none) := by kernel_rfl
theorem foff23_6 : foff Try.prog 23 6 = some 6 := by kernel_rfl
theorem fpart23_6 : fpart Try.prog 23 6 = some (6, none) := by kernel_rfl
theorem fe23 : flatEq Try.prog 23 [3, 2, 1, 1, 1, 1, 1] := flatEq_of (by kernel_rfl)
theorem zmb23 : zmb Try.prog 23 = some (.cells [(.lit (.string ⟨#[]⟩)), (.lit (.bool false)), (.lit (.int .i64 0)), (.lit (.int .i64 0)), (.lit (.int .u64 0)), (.lit (.int .i64 0)), (.lit (.int .i64 0))] 7 23) := by kernel_rfl
theorem bldT23 : bldT Try.prog 23 = some ([(.string ⟨#[]⟩), (.bool false), (.int .i64 0), (.int .i64 0), (.int .u64 0), (.int .i64 0), (.int .i64 0)], [(0, 1), (1, 1), (2, 1), (3, 1), (4, 1), (5, 1), (6, 1)]) := by kernel_rfl
theorem tyc24 : tyc Try.prog 24 = some (some 7) := by kernel_rfl
theorem foff24_0 : foff Try.prog 24 0 = some 0 := by kernel_rfl
theorem fpart24_0 : fpart Try.prog 24 0 = some (0, none) := by kernel_rfl
theorem foff24_1 : foff Try.prog 24 1 = some 1 := by kernel_rfl
theorem fpart24_1 : fpart Try.prog 24 1 = some (1, none) := by kernel_rfl
theorem foff24_2 : foff Try.prog 24 2 = some 2 := by kernel_rfl
theorem fpart24_2 : fpart Try.prog 24 2 = some (2, none) := by kernel_rfl
theorem foff24_3 : foff Try.prog 24 3 = some 3 := by kernel_rfl
theorem fpart24_3 : fpart Try.prog 24 3 = some (3, none) := by kernel_rfl
theorem foff24_4 : foff Try.prog 24 4 = some 4 := by kernel_rfl
theorem fpart24_4 : fpart Try.prog 24 4 = some (4, none) := by kernel_rfl
theorem foff24_5 : foff Try.prog 24 5 = some 5 := by kernel_rfl
theorem fpart24_5 : fpart Try.prog 24 5 = some (5, none) := by kernel_rfl
theorem foff24_6 : foff Try.prog 24 6 = some 6 := by kernel_rfl
theorem fpart24_6 : fpart Try.prog 24 6 = some (6, none) := by kernel_rfl
theorem fe24 : flatEq Try.prog 24 [3, 2, 1, 1, 1, 1, 1] := flatEq_of (by kernel_rfl)
theorem zmb24 : zmb Try.prog 24 = some (.cells [(.lit (.string ⟨#[]⟩)), (.lit (.bool false)), (.lit (.int .i64 0)), (.lit (.int .i64 0)), (.lit (.int .u64 0)), (.lit (.int .i64 0)), (.lit (.int .i64 0))] 7 24) := by kernel_rfl
theorem bldT24 : bldT Try.prog 24 = some ([(.string ⟨#[]⟩), (.bool false), (.int .i64 0), (.int .i64 0), (.int .u64 0), (.int .i64 0), (.int .i64 0)], [(0, 1), (1, 1), (2, 1), (3, 1), (4, 1), (5, 1), (6, 1)]) := by kernel_rfl
theorem tyc25 : tyc Try.prog 25 = some none := by kernel_rfl
theorem elt25 : elt Try.prog 25 = some (none, 2) := by kernel_rfl
theorem mkz25 : mkz Try.prog 25 = none := by kernel_rfl
theorem mkc25 : mkc Try.prog 25 = some (28, 2, 16, [(.lit (.int .i64 0)), (.lit (.bool false))]) := by kernel_rfl
theorem apT25 : apT Try.prog 25 = some (28, 2, 16) := by kernel_rfl
theorem elk25 : elk Try.prog 25 = none := by kernel_rfl
theorem zmb25 : zmb Try.prog 25 = some (.cells [(.lit (.slice none 0 0))] 1 25) := by kernel_rfl
theorem tyc26 : tyc Try.prog 26 = some none := by kernel_rfl
theorem zmb26 : zmb Try.prog 26 = some (.cells [(.lit .nilFunc)] 1 26) := by kernel_rfl
theorem tyc27 : tyc Try.prog 27 = some (some 2) := by kernel_rfl
theorem foff27_0 : foff Try.prog 27 0 = some 0 := by kernel_rfl
theorem fpart27_0 : fpart Try.prog 27 0 = some (0, none) := by kernel_rfl
theorem foff27_1 : foff Try.prog 27 1 = some 1 := by kernel_rfl
theorem fpart27_1 : fpart Try.prog 27 1 = some (1, none) := by kernel_rfl
theorem fe27 : flatEq Try.prog 27 [1, 2] := flatEq_of (by kernel_rfl)
theorem zmb27 : zmb Try.prog 27 = some (.cells [(.lit (.int .i64 0)), (.lit (.bool false))] 2 27) := by kernel_rfl
theorem bldT27 : bldT Try.prog 27 = some ([(.int .i64 0), (.bool false)], [(0, 1), (1, 1)]) := by kernel_rfl
theorem tyc28 : tyc Try.prog 28 = some (some 2) := by kernel_rfl
theorem foff28_0 : foff Try.prog 28 0 = some 0 := by kernel_rfl
theorem fpart28_0 : fpart Try.prog 28 0 = some (0, none) := by kernel_rfl
theorem foff28_1 : foff Try.prog 28 1 = some 1 := by kernel_rfl
theorem fpart28_1 : fpart Try.prog 28 1 = some (1, none) := by kernel_rfl
theorem fe28 : flatEq Try.prog 28 [1, 2] := flatEq_of (by kernel_rfl)
theorem zmb28 : zmb Try.prog 28 = some (.cells [(.lit (.int .i64 0)), (.lit (.bool false))] 2 28) := by kernel_rfl
theorem bldT28 : bldT Try.prog 28 = some ([(.int .i64 0), (.bool false)], [(0, 1), (1, 1)]) := by kernel_rfl
theorem tyc29 : tyc Try.prog 29 = some none := by kernel_rfl
theorem elt29 : elt Try.prog 29 = some (none, 1) := by kernel_rfl
theorem mkz29 : mkz Try.prog 29 = some (3, 8, .i64) := by kernel_rfl
theorem apT29 : apT Try.prog 29 = some (3, 1, 8) := by kernel_rfl
theorem elk29 : elk Try.prog 29 = (some .i64) := by kernel_rfl
theorem zmb29 : zmb Try.prog 29 = some (.cells [(.lit (.slice none 0 0))] 1 29) := by kernel_rfl
theorem tyc30 : tyc Try.prog 30 = some none := by kernel_rfl
theorem zmb30 : zmb Try.prog 30 = some (.cells [(.lit .nilFunc)] 1 30) := by kernel_rfl
theorem tyc31 : tyc Try.prog 31 = some (some 4) := by kernel_rfl
theorem foff31_0 : foff Try.prog 31 0 = some 0 := by kernel_rfl
theorem fpart31_0 : fpart Try.prog 31 0 = some (0, none) := by kernel_rfl
theorem foff31_1 : foff Try.prog 31 1 = some 1 := by kernel_rfl
theorem fpart31_1 : fpart Try.prog 31 1 = some (1, none) := by kernel_rfl
theorem foff31_2 : foff Try.prog 31 2 = some 2 := by kernel_rfl
theorem fpart31_2 : fpart Try.prog 31 2 = some (2, none) := by kernel_rfl
theorem foff31_3 : foff Try.prog 31 3 = some 3 := by kernel_rfl
theorem fpart31_3 : fpart Try.prog 31 3 = some (3, none) := by kernel_rfl
theorem fe31 : flatEq Try.prog 31 [1, 1, 1, 1] := flatEq_of (by kernel_rfl)
theorem zmb31 : zmb Try.prog 31 = some (.cells [(.lit (.int .i64 0)), (.lit (.int .i64 0)), (.lit (.int .i64 0)), (.lit (.int .u64 0))] 4 31) := by kernel_rfl
theorem bldT31 : bldT Try.prog 31 = some ([(.int .i64 0), (.int .i64 0), (.int .i64 0), (.int .u64 0)], [(0, 1), (1, 1), (2, 1), (3, 1)]) := by kernel_rfl
theorem tyc32 : tyc Try.prog 32 = some (some 4) := by kernel_rfl
theorem foff32_0 : foff Try.prog 32 0 = some 0 := by kernel_rfl
theorem fpart32_0 : fpart Try.prog 32 0 = some (0, none) := by kernel_rfl
theorem foff32_1 : foff Try.prog 32 1 = some 1 := by kernel_rfl
theorem fpart32_1 : fpart Try.prog 32 1 = some (1, none) := by kernel_rfl
theorem foff32_2 : foff Try.prog 32 2 = some 2 := by kernel_rfl
theorem fpart32_2 : fpart Try.prog 32 2 = some (2, none) := by kernel_rfl
theorem foff32_3 : foff Try.prog 32 3 = some 3 := by kernel_rfl
theorem fpart32_3 : fpart Try.prog 32 3 = some (3, none) := by kernel_rfl
theorem fe32 : flatEq Try.prog 32 [1, 1, 1, 1] := flatEq_of (by kernel_rfl)
theorem zmb32 : zmb Try.prog 32 = some (.cells [(.lit (.int .i64 0)), (.lit (.int .i64 0)), (.lit (.int .i64 0)), (.lit (.int .u64 0))] 4 32) := by kernel_rfl
theorem bldT32 : bldT Try.prog 32 = some ([(.int .i64 0), (.int .i64 0), (.int .i64 0), (.int .u64 0)], [(0, 1), (1, 1), (2, 1), (3, 1)]) := by kernel_rfl
theorem tyc33 : tyc Try.prog 33 = some none := by kernel_rfl
theorem tyc34 : tyc Try.prog 34 = some none := by kernel_rfl
theorem zmb34 : zmb Try.prog 34 = some (.cells [(.lit .nilFunc)] 1 34) := by kernel_rfl
theorem tyc35 : tyc Try.prog 35 = some none := by kernel_rfl
theorem zmb35 : zmb Try.prog 35 = some (.cells [(.lit .nilFunc)] 1 35) := by kernel_rfl
theorem tyc36 : tyc Try.prog 36 = some none := by kernel_rfl
theorem zmb36 : zmb Try.prog 36 = some (.cells [(.lit .nilFunc)] 1 36) := by kernel_rfl
theorem tyc37 : tyc Try.prog 37 = some none := by kernel_rfl
theorem zmb37 : zmb Try.prog 37 = some (.cells [(.lit (.int .u16 0))] 1 37) := by kernel_rfl
theorem tyc38 : tyc Try.prog 38 = some none := by kernel_rfl
theorem elt38 : elt Try.prog 38 = some (none, 1) := by kernel_rfl
theorem mkz38 : mkz Try.prog 38 = some (5, 1, .u8) := by kernel_rfl
theorem apT38 : apT Try.prog 38 = some (5, 1, 1) := by kernel_rfl
theorem elk38 : elk Try.prog 38 = (some .u8) := by kernel_rfl
theorem zmb38 : zmb Try.prog 38 = some (.cells [(.lit (.slice none 0 0))] 1 38) := by kernel_rfl
theorem tyc39 : tyc Try.prog 39 = some none := by kernel_rfl
theorem zmb39 : zmb Try.prog 39 = some (.cells [(.lit .nilFunc)] 1 39) := by kernel_rfl
theorem tyc40 : tyc Try.prog 40 = some none := by kernel_rfl
theorem elt40 : elt Try.prog 40 = some (none, 1) := by kernel_rfl
theorem mkz40 : mkz Try.prog 40 = none := by kernel_rfl
theorem mkc40 : mkc Try.prog 40 = some (9, 1, 16, [(.lit (.string ⟨#[]⟩))]) := by kernel_rfl
theorem apT40 : apT Try.prog 40 = some (9, 1, 16) := by kernel_rfl
theorem elk40 : elk Try.prog 40 = none := by kernel_rfl
theorem zmb40 : zmb Try.prog 40 = some (.cells [(.lit (.slice none 0 0))] 1 40) := by kernel_rfl
theorem tyc41 : tyc Try.prog 41 = some none := by kernel_rfl
theorem zmb41 : zmb Try.prog 41 = some (.cells [(.lit .nilFunc)] 1 41) := by kernel_rfl
theorem tyc42 : tyc Try.prog 42 = some none := by kernel_rfl
theorem zmb42 : zmb Try.prog 42 = some (.cells [(.lit .nilFunc)] 1 42) := by kernel_rfl
theorem tyc43 : tyc Try.prog 43 = some none := by kernel_rfl
theorem zmb43 : zmb Try.prog 43 = some (.cells [(.lit .nilFunc)] 1 43) := by kernel_rfl
theorem tyc44 : tyc Try.prog 44 = some none := by kernel_rfl
theorem mth44_35 : mthOf Try.prog 44 "firebell/wire.fail" = some 35 := by kernel_rfl
theorem mth44_36 : mthOf Try.prog 44 "firebell/wire.get" = some 36 := by kernel_rfl
theorem mth44_39 : mthOf Try.prog 44 "firebell/wire.take" = some 39 := by kernel_rfl
theorem con44 : Try.prog.concrete 44 = true := by kernel_rfl
theorem zmb44 : zmb Try.prog 44 = some (.cells [(.lit (.pointer none))] 1 44) := by kernel_rfl
theorem tyc45 : tyc Try.prog 45 = some none := by kernel_rfl
theorem zmb45 : zmb Try.prog 45 = some (.cells [(.lit .nilFunc)] 1 45) := by kernel_rfl
theorem tyc46 : tyc Try.prog 46 = some none := by kernel_rfl
theorem zmb46 : zmb Try.prog 46 = some (.cells [(.lit .nilFunc)] 1 46) := by kernel_rfl
theorem tyc47 : tyc Try.prog 47 = some none := by kernel_rfl
theorem zmb47 : zmb Try.prog 47 = some (.cells [(.lit .nilFunc)] 1 47) := by kernel_rfl
theorem tyc48 : tyc Try.prog 48 = some none := by kernel_rfl
theorem zmb48 : zmb Try.prog 48 = some (.cells [(.lit (.int .i64 0))] 1 48) := by kernel_rfl
theorem tyc49 : tyc Try.prog 49 = some none := by kernel_rfl
theorem zmb49 : zmb Try.prog 49 = some (.cells [(.lit .nilFunc)] 1 49) := by kernel_rfl
theorem tyc50 : tyc Try.prog 50 = some none := by kernel_rfl
theorem tyc51 : tyc Try.prog 51 = some none := by kernel_rfl
theorem zmb51 : zmb Try.prog 51 = some (.cells [(.lit .nilFunc)] 1 51) := by kernel_rfl
theorem tyc52 : tyc Try.prog 52 = some none := by kernel_rfl
theorem zmb52 : zmb Try.prog 52 = some (.cells [(.lit .nilFunc)] 1 52) := by kernel_rfl
theorem tyc53 : tyc Try.prog 53 = some none := by kernel_rfl
theorem zmb53 : zmb Try.prog 53 = some (.cells [(.lit .nilFunc)] 1 53) := by kernel_rfl
theorem tyc54 : tyc Try.prog 54 = some none := by kernel_rfl
theorem zmb54 : zmb Try.prog 54 = some (.cells [(.lit .nilFunc)] 1 54) := by kernel_rfl
theorem tyc55 : tyc Try.prog 55 = some none := by kernel_rfl
theorem zmb55 : zmb Try.prog 55 = some (.cells [(.lit .nilFunc)] 1 55) := by kernel_rfl
theorem tyc56 : tyc Try.prog 56 = some none := by kernel_rfl
theorem zmb56 : zmb Try.prog 56 = some (.cells [(.lit .nilIface)] 1 56) := by kernel_rfl
theorem tyc57 : tyc Try.prog 57 = some none := by kernel_rfl
theorem zmb57 : zmb Try.prog 57 = some (.cells [(.lit .nilIface)] 1 57) := by kernel_rfl
theorem tyc58 : tyc Try.prog 58 = some none := by kernel_rfl
theorem zmb58 : zmb Try.prog 58 = some (.cells [(.lit .nilFunc)] 1 58) := by kernel_rfl
theorem tyc59 : tyc Try.prog 59 = some none := by kernel_rfl
theorem zmb59 : zmb Try.prog 59 = some (.cells [(.lit .nilFunc)] 1 59) := by kernel_rfl
theorem tyc60 : tyc Try.prog 60 = some none := by kernel_rfl
theorem zmb60 : zmb Try.prog 60 = some (.cells [(.lit .nilFunc)] 1 60) := by kernel_rfl
theorem tyc61 : tyc Try.prog 61 = some (some 4) := by kernel_rfl
theorem elt61 : elt Try.prog 61 = some ((some 4), 1) := by kernel_rfl
theorem arr161 : arr1 Try.prog 61 = some 4 := by kernel_rfl
theorem zmb61 : zmb Try.prog 61 = some (.cells [(.lit (.string ⟨#[]⟩)), (.lit (.string ⟨#[]⟩)), (.lit (.string ⟨#[]⟩)), (.lit (.string ⟨#[]⟩))] 4 61) := by kernel_rfl
theorem bldT61 : bldT Try.prog 61 = some ([(.string ⟨#[]⟩), (.string ⟨#[]⟩), (.string ⟨#[]⟩), (.string ⟨#[]⟩)], [(0, 1), (1, 1), (2, 1), (3, 1)]) := by kernel_rfl
theorem tyc62 : tyc Try.prog 62 = some none := by kernel_rfl
theorem zmb62 : zmb Try.prog 62 = some (.cells [(.lit .nilFunc)] 1 62) := by kernel_rfl
theorem tyc63 : tyc Try.prog 63 = some (some 2) := by kernel_rfl
theorem foff63_0 : foff Try.prog 63 0 = some 0 := by kernel_rfl
theorem fpart63_0 : fpart Try.prog 63 0 = some (0, none) := by kernel_rfl
theorem foff63_1 : foff Try.prog 63 1 = some 1 := by kernel_rfl
theorem fpart63_1 : fpart Try.prog 63 1 = some (1, none) := by kernel_rfl
theorem zmb63 : zmb Try.prog 63 = some (.cells [(.lit (.slice none 0 0)), (.lit (.bool false))] 2 63) := by kernel_rfl
theorem bldT63 : bldT Try.prog 63 = some ([(.slice none 0 0), (.bool false)], [(0, 1), (1, 1)]) := by kernel_rfl
theorem tyc64 : tyc Try.prog 64 = some (some 2) := by kernel_rfl
theorem foff64_0 : foff Try.prog 64 0 = some 0 := by kernel_rfl
theorem fpart64_0 : fpart Try.prog 64 0 = some (0, none) := by kernel_rfl
theorem foff64_1 : foff Try.prog 64 1 = some 1 := by kernel_rfl
theorem fpart64_1 : fpart Try.prog 64 1 = some (1, none) := by kernel_rfl
theorem zmb64 : zmb Try.prog 64 = some (.cells [(.lit (.slice none 0 0)), (.lit (.bool false))] 2 64) := by kernel_rfl
theorem bldT64 : bldT Try.prog 64 = some ([(.slice none 0 0), (.bool false)], [(0, 1), (1, 1)]) := by kernel_rfl
theorem tyc65 : tyc Try.prog 65 = some none := by kernel_rfl
theorem zmb65 : zmb Try.prog 65 = some (.cells [(.lit .nilFunc)] 1 65) := by kernel_rfl
theorem tyc66 : tyc Try.prog 66 = some none := by kernel_rfl
theorem zmb66 : zmb Try.prog 66 = some (.cells [(.lit .nilFunc)] 1 66) := by kernel_rfl
theorem tyc67 : tyc Try.prog 67 = some none := by kernel_rfl
theorem zmb67 : zmb Try.prog 67 = some (.cells [(.lit .nilFunc)] 1 67) := by kernel_rfl
theorem tyc68 : tyc Try.prog 68 = some none := by kernel_rfl
theorem zmb68 : zmb Try.prog 68 = some (.cells [(.lit .nilFunc)] 1 68) := by kernel_rfl
theorem tyc69 : tyc Try.prog 69 = some none := by kernel_rfl
theorem elt69 : elt Try.prog 69 = some (none, 1) := by kernel_rfl
theorem mkz69 : mkz Try.prog 69 = some (22, 8, .u64) := by kernel_rfl
theorem apT69 : apT Try.prog 69 = some (22, 1, 8) := by kernel_rfl
theorem elk69 : elk Try.prog 69 = (some .u64) := by kernel_rfl
theorem zmb69 : zmb Try.prog 69 = some (.cells [(.lit (.slice none 0 0))] 1 69) := by kernel_rfl
theorem tyc70 : tyc Try.prog 70 = some none := by kernel_rfl
theorem tyc71 : tyc Try.prog 71 = some none := by kernel_rfl
theorem zmb71 : zmb Try.prog 71 = some (.cells [(.lit .nilFunc)] 1 71) := by kernel_rfl
theorem tyc72 : tyc Try.prog 72 = some none := by kernel_rfl
theorem zmb72 : zmb Try.prog 72 = some (.cells [(.lit .nilFunc)] 1 72) := by kernel_rfl
theorem tyc73 : tyc Try.prog 73 = some (some 1) := by kernel_rfl
theorem foff73_0 : foff Try.prog 73 0 = some 0 := by kernel_rfl
theorem fpart73_0 : fpart Try.prog 73 0 = some (0, none) := by kernel_rfl
theorem fe73 : flatEq Try.prog 73 [1] := flatEq_of (by kernel_rfl)
theorem zmb73 : zmb Try.prog 73 = some (.cells [(.lit (.int .i64 0))] 1 73) := by kernel_rfl
theorem bldT73 : bldT Try.prog 73 = some ([(.int .i64 0)], [(0, 1)]) := by kernel_rfl
theorem tyc74 : tyc Try.prog 74 = some (some 1) := by kernel_rfl
theorem foff74_0 : foff Try.prog 74 0 = some 0 := by kernel_rfl
theorem fpart74_0 : fpart Try.prog 74 0 = some (0, none) := by kernel_rfl
theorem mth74_56 : mthOf Try.prog 74 "firebell/alert.fails" = some 56 := by kernel_rfl
theorem mth74_57 : mthOf Try.prog 74 "firebell/alert.holds" = some 57 := by kernel_rfl
theorem con74 : Try.prog.concrete 74 = true := by kernel_rfl
theorem fe74 : flatEq Try.prog 74 [1] := flatEq_of (by kernel_rfl)
theorem zmb74 : zmb Try.prog 74 = some (.cells [(.lit (.int .i64 0))] 1 74) := by kernel_rfl
theorem bldT74 : bldT Try.prog 74 = some ([(.int .i64 0)], [(0, 1)]) := by kernel_rfl
theorem tyc75 : tyc Try.prog 75 = some (some 4) := by kernel_rfl
theorem foff75_0 : foff Try.prog 75 0 = some 0 := by kernel_rfl
theorem fpart75_0 : fpart Try.prog 75 0 = some (0, (some 4)) := by kernel_rfl
theorem zmb75 : zmb Try.prog 75 = some (.cells [(.lit (.int .i64 0)), (.lit (.int .i64 0)), (.lit (.int .i64 0)), (.lit (.int .u64 0))] 4 75) := by kernel_rfl
theorem bldT75 : bldT Try.prog 75 = some ([(.int .i64 0), (.int .i64 0), (.int .i64 0), (.int .u64 0)], [(0, 4)]) := by kernel_rfl
theorem tyc76 : tyc Try.prog 76 = some (some 4) := by kernel_rfl
theorem foff76_0 : foff Try.prog 76 0 = some 0 := by kernel_rfl
theorem fpart76_0 : fpart Try.prog 76 0 = some (0, (some 4)) := by kernel_rfl
theorem mth76_59 : mthOf Try.prog 76 "firebell/alert.fails" = some 59 := by kernel_rfl
theorem mth76_60 : mthOf Try.prog 76 "firebell/alert.holds" = some 60 := by kernel_rfl
theorem con76 : Try.prog.concrete 76 = true := by kernel_rfl
theorem zmb76 : zmb Try.prog 76 = some (.cells [(.lit (.int .i64 0)), (.lit (.int .i64 0)), (.lit (.int .i64 0)), (.lit (.int .u64 0))] 4 76) := by kernel_rfl
theorem bldT76 : bldT Try.prog 76 = some ([(.int .i64 0), (.int .i64 0), (.int .i64 0), (.int .u64 0)], [(0, 4)]) := by kernel_rfl
theorem tyc77 : tyc Try.prog 77 = some (some 4) := by kernel_rfl
theorem foff77_0 : foff Try.prog 77 0 = some 0 := by kernel_rfl
theorem fpart77_0 : fpart Try.prog 77 0 = some (0, (some 4)) := by kernel_rfl
theorem mth77_61 : mthOf Try.prog 77 "firebell/alert.fails" = some 61 := by kernel_rfl
theorem mth77_62 : mthOf Try.prog 77 "firebell/alert.holds" = some 62 := by kernel_rfl
theorem con77 : Try.prog.concrete 77 = true := by kernel_rfl
theorem zmb77 : zmb Try.prog 77 = some (.cells [(.lit (.int .i64 0)), (.lit (.int .i64 0)), (.lit (.int .i64 0)), (.lit (.int .u64 0))] 4 77) := by kernel_rfl
theorem bldT77 : bldT Try.prog 77 = some ([(.int .i64 0), (.int .i64 0), (.int .i64 0), (.int .u64 0)], [(0, 4)]) := by kernel_rfl
theorem tyc78 : tyc Try.prog 78 = some (some 0) := by kernel_rfl
theorem fe78 : flatEq Try.prog 78 [] := flatEq_of (by kernel_rfl)
theorem zmb78 : zmb Try.prog 78 = some (.cells [] 0 78) := by kernel_rfl
theorem bldT78 : bldT Try.prog 78 = some ([], []) := by kernel_rfl
theorem tyc79 : tyc Try.prog 79 = some (some 0) := by kernel_rfl
theorem mth79_63 : mthOf Try.prog 79 "firebell/alert.fails" = some 63 := by kernel_rfl
theorem mth79_64 : mthOf Try.prog 79 "firebell/alert.holds" = some 64 := by kernel_rfl
theorem con79 : Try.prog.concrete 79 = true := by kernel_rfl
theorem fe79 : flatEq Try.prog 79 [] := flatEq_of (by kernel_rfl)
theorem zmb79 : zmb Try.prog 79 = some (.cells [] 0 79) := by kernel_rfl
theorem bldT79 : bldT Try.prog 79 = some ([], []) := by kernel_rfl
theorem tyc80 : tyc Try.prog 80 = some none := by kernel_rfl
theorem zmb80 : zmb Try.prog 80 = some (.cells [(.lit .nilFunc)] 1 80) := by kernel_rfl
theorem tyc81 : tyc Try.prog 81 = some none := by kernel_rfl
theorem tyc82 : tyc Try.prog 82 = some none := by kernel_rfl
theorem zmb82 : zmb Try.prog 82 = some (.cells [(.lit .nilFunc)] 1 82) := by kernel_rfl
theorem tyc83 : tyc Try.prog 83 = some (some 4) := by kernel_rfl
theorem foff83_0 : foff Try.prog 83 0 = some 0 := by kernel_rfl
theorem fpart83_0 : fpart Try.prog 83 0 = some (0, none) := by kernel_rfl
theorem foff83_1 : foff Try.prog 83 1 = some 1 := by kernel_rfl
theorem fpart83_1 : fpart Try.prog 83 1 = some (1, none) := by kernel_rfl
theorem foff83_2 : foff Try.prog 83 2 = some 2 := by kernel_rfl
theorem fpart83_2 : fpart Try.prog 83 2 = some (2, none) := by kernel_rfl
theorem foff83_3 : foff Try.prog 83 3 = some 3 := by kernel_rfl
theorem fpart83_3 : fpart Try.prog 83 3 = some (3, none) := by kernel_rfl
theorem fe83 : flatEq Try.prog 83 [1, 1, 3, 2] := flatEq_of (by kernel_rfl)
theorem zmb83 : zmb Try.prog 83 = some (.cells [(.lit (.int .u64 0)), (.lit (.int .i64 0)), (.lit (.string ⟨#[]⟩)), (.lit (.bool false))] 4 83) := by kernel_rfl
theorem bldT83 : bldT Try.prog 83 = some ([(.int .u64 0), (.int .i64 0), (.string ⟨#[]⟩), (.bool false)], [(0, 1), (1, 1), (2, 1), (3, 1)]) := by kernel_rfl
theorem tyc84 : tyc Try.prog 84 = some (some 4) := by kernel_rfl
theorem foff84_0 : foff Try.prog 84 0 = some 0 := by kernel_rfl
theorem fpart84_0 : fpart Try.prog 84 0 = some (0, none) := by kernel_rfl
theorem foff84_1 : foff Try.prog 84 1 = some 1 := by kernel_rfl
theorem fpart84_1 : fpart Try.prog 84 1 = some (1, none) := by kernel_rfl
theorem foff84_2 : foff Try.prog 84 2 = some 2 := by kernel_rfl
theorem fpart84_2 : fpart Try.prog 84 2 = some (2, none) := by kernel_rfl
theorem foff84_3 : foff Try.prog 84 3 = some 3 := by kernel_rfl
theorem fpart84_3 : fpart Try.prog 84 3 = some (3, none) := by kernel_rfl
theorem fe84 : flatEq Try.prog 84 [1, 1, 3, 2] := flatEq_of (by kernel_rfl)
theorem zmb84 : zmb Try.prog 84 = some (.cells [(.lit (.int .u64 0)), (.lit (.int .i64 0)), (.lit (.string ⟨#[]⟩)), (.lit (.bool false))] 4 84) := by kernel_rfl
theorem bldT84 : bldT Try.prog 84 = some ([(.int .u64 0), (.int .i64 0), (.string ⟨#[]⟩), (.bool false)], [(0, 1), (1, 1), (2, 1), (3, 1)]) := by kernel_rfl
theorem tyc85 : tyc Try.prog 85 = some none := by kernel_rfl
theorem tyc86 : tyc Try.prog 86 = some none := by kernel_rfl
theorem zmb86 : zmb Try.prog 86 = some (.cells [(.lit .nilFunc)] 1 86) := by kernel_rfl
theorem tyc87 : tyc Try.prog 87 = some (some 2) := by kernel_rfl
theorem foff87_0 : foff Try.prog 87 0 = some 0 := by kernel_rfl
theorem fpart87_0 : fpart Try.prog 87 0 = some (0, none) := by kernel_rfl
theorem foff87_1 : foff Try.prog 87 1 = some 1 := by kernel_rfl
theorem fpart87_1 : fpart Try.prog 87 1 = some (1, none) := by kernel_rfl
theorem fe87 : flatEq Try.prog 87 [1, 1] := flatEq_of (by kernel_rfl)
theorem zmb87 : zmb Try.prog 87 = some (.cells [(.lit (.int .i64 0)), (.lit (.int .i64 0))] 2 87) := by kernel_rfl
theorem bldT87 : bldT Try.prog 87 = some ([(.int .i64 0), (.int .i64 0)], [(0, 1), (1, 1)]) := by kernel_rfl
theorem tyc88 : tyc Try.prog 88 = some (some 2) := by kernel_rfl
theorem foff88_0 : foff Try.prog 88 0 = some 0 := by kernel_rfl
theorem fpart88_0 : fpart Try.prog 88 0 = some (0, none) := by kernel_rfl
theorem foff88_1 : foff Try.prog 88 1 = some 1 := by kernel_rfl
theorem fpart88_1 : fpart Try.prog 88 1 = some (1, none) := by kernel_rfl
theorem fe88 : flatEq Try.prog 88 [1, 1] := flatEq_of (by kernel_rfl)
theorem zmb88 : zmb Try.prog 88 = some (.cells [(.lit (.int .i64 0)), (.lit (.int .i64 0))] 2 88) := by kernel_rfl
theorem bldT88 : bldT Try.prog 88 = some ([(.int .i64 0), (.int .i64 0)], [(0, 1), (1, 1)]) := by kernel_rfl
theorem tyc89 : tyc Try.prog 89 = some none := by kernel_rfl
theorem zmb89 : zmb Try.prog 89 = some (.cells [(.lit .nilFunc)] 1 89) := by kernel_rfl
theorem tyc90 : tyc Try.prog 90 = some none := by kernel_rfl
theorem tyc91 : tyc Try.prog 91 = some none := by kernel_rfl
theorem zmb91 : zmb Try.prog 91 = some (.cells [(.lit .nilFunc)] 1 91) := by kernel_rfl
theorem tyc92 : tyc Try.prog 92 = some none := by kernel_rfl
theorem zmb92 : zmb Try.prog 92 = some (.cells [(.lit (.int .u64 0))] 1 92) := by kernel_rfl
theorem tyc93 : tyc Try.prog 93 = some none := by kernel_rfl
theorem zmb93 : zmb Try.prog 93 = some (.cells [(.lit .nilFunc)] 1 93) := by kernel_rfl
theorem tyc94 : tyc Try.prog 94 = some (some 4) := by kernel_rfl
theorem foff94_0 : foff Try.prog 94 0 = some 0 := by kernel_rfl
theorem fpart94_0 : fpart Try.prog 94 0 = some (0, none) := by kernel_rfl
theorem foff94_1 : foff Try.prog 94 1 = some 1 := by kernel_rfl
theorem fpart94_1 : fpart Try.prog 94 1 = some (1, none) := by kernel_rfl
theorem foff94_2 : foff Try.prog 94 2 = some 2 := by kernel_rfl
theorem fpart94_2 : fpart Try.prog 94 2 = some (2, none) := by kernel_rfl
theorem foff94_3 : foff Try.prog 94 3 = some 3 := by kernel_rfl
theorem fpart94_3 : fpart Try.prog 94 3 = some (3, none) := by kernel_rfl
theorem zmb94 : zmb Try.prog 94 = some (.cells [(.lit (.pointer none)), (.lit (.pointer none)), (.lit (.pointer none)), (.lit (.string ⟨#[]⟩))] 4 94) := by kernel_rfl
theorem bldT94 : bldT Try.prog 94 = some ([(.pointer none), (.pointer none), (.pointer none), (.string ⟨#[]⟩)], [(0, 1), (1, 1), (2, 1), (3, 1)]) := by kernel_rfl
theorem tyc95 : tyc Try.prog 95 = some (some 4) := by kernel_rfl
theorem foff95_0 : foff Try.prog 95 0 = some 0 := by kernel_rfl
theorem fpart95_0 : fpart Try.prog 95 0 = some (0, none) := by kernel_rfl
theorem foff95_1 : foff Try.prog 95 1 = some 1 := by kernel_rfl
theorem fpart95_1 : fpart Try.prog 95 1 = some (1, none) := by kernel_rfl
theorem foff95_2 : foff Try.prog 95 2 = some 2 := by kernel_rfl
theorem fpart95_2 : fpart Try.prog 95 2 = some (2, none) := by kernel_rfl
theorem foff95_3 : foff Try.prog 95 3 = some 3 := by kernel_rfl
theorem fpart95_3 : fpart Try.prog 95 3 = some (3, none) := by kernel_rfl
theorem zmb95 : zmb Try.prog 95 = some (.cells [(.lit (.pointer none)), (.lit (.pointer none)), (.lit (.pointer none)), (.lit (.string ⟨#[]⟩))] 4 95) := by kernel_rfl
theorem bldT95 : bldT Try.prog 95 = some ([(.pointer none), (.pointer none), (.pointer none), (.string ⟨#[]⟩)], [(0, 1), (1, 1), (2, 1), (3, 1)]) := by kernel_rfl
theorem tyc96 : tyc Try.prog 96 = some (some 0) := by kernel_rfl
theorem elt96 : elt Try.prog 96 = some ((some 0), 1) := by kernel_rfl
theorem arr196 : arr1 Try.prog 96 = some 0 := by kernel_rfl
theorem zmb96 : zmb Try.prog 96 = some (.cells [] 0 96) := by kernel_rfl
theorem bldT96 : bldT Try.prog 96 = some ([], []) := by kernel_rfl
theorem tyc97 : tyc Try.prog 97 = some (some 0) := by kernel_rfl
theorem fpart97_0 : fpart Try.prog 97 0 = some (0, (some 0)) := by kernel_rfl
theorem zmb97 : zmb Try.prog 97 = some (.cells [] 0 97) := by kernel_rfl
theorem bldT97 : bldT Try.prog 97 = some ([], [(0, 0)]) := by kernel_rfl
theorem tyc98 : tyc Try.prog 98 = some (some 0) := by kernel_rfl
theorem fpart98_0 : fpart Try.prog 98 0 = some (0, (some 0)) := by kernel_rfl
theorem zmb98 : zmb Try.prog 98 = some (.cells [] 0 98) := by kernel_rfl
theorem bldT98 : bldT Try.prog 98 = some ([], [(0, 0)]) := by kernel_rfl
theorem tyc99 : tyc Try.prog 99 = some none := by kernel_rfl
theorem zmb99 : zmb Try.prog 99 = some (.cells [(.lit (.int .u32 0))] 1 99) := by kernel_rfl
theorem tyc100 : tyc Try.prog 100 = some none := by kernel_rfl
theorem zmb100 : zmb Try.prog 100 = some (.cells [(.lit (.int .u8 0))] 1 100) := by kernel_rfl
theorem tyc101 : tyc Try.prog 101 = some none := by kernel_rfl
theorem zmb101 : zmb Try.prog 101 = some (.cells [(.lit (.int .u8 0))] 1 101) := by kernel_rfl
theorem tyc102 : tyc Try.prog 102 = some none := by kernel_rfl
theorem zmb102 : zmb Try.prog 102 = some (.cells [(.lit .nilFunc)] 1 102) := by kernel_rfl
theorem tyc103 : tyc Try.prog 103 = some none := by kernel_rfl
theorem zmb103 : zmb Try.prog 103 = some (.cells [(.lit (.pointer none))] 1 103) := by kernel_rfl
theorem tyc104 : tyc Try.prog 104 = some none := by kernel_rfl
theorem zmb104 : zmb Try.prog 104 = some (.cells [(.lit (.int .i32 0))] 1 104) := by kernel_rfl
theorem tyc105 : tyc Try.prog 105 = some none := by kernel_rfl
theorem zmb105 : zmb Try.prog 105 = some (.cells [(.lit (.int .i32 0))] 1 105) := by kernel_rfl
theorem tyc106 : tyc Try.prog 106 = some (some 11) := by kernel_rfl
theorem foff106_0 : foff Try.prog 106 0 = some 0 := by kernel_rfl
theorem fpart106_0 : fpart Try.prog 106 0 = some (0, none) := by kernel_rfl
theorem foff106_1 : foff Try.prog 106 1 = some 1 := by kernel_rfl
theorem fpart106_1 : fpart Try.prog 106 1 = some (1, none) := by kernel_rfl
theorem foff106_2 : foff Try.prog 106 2 = some 2 := by kernel_rfl
theorem fpart106_2 : fpart Try.prog 106 2 = some (2, none) := by kernel_rfl
theorem foff106_3 : foff Try.prog 106 3 = some 3 := by kernel_rfl
theorem fpart106_3 : fpart Try.prog 106 3 = some (3, none) := by kernel_rfl
theorem foff106_4 : foff Try.prog 106 4 = some 4 := by kernel_rfl
theorem fpart106_4 : fpart Try.prog 106 4 = some (4, none) := by kernel_rfl
theorem foff106_5 : foff Try.prog 106 5 = some 5 := by kernel_rfl
theorem fpart106_5 : fpart Try.prog 106 5 = some (5, none) := by kernel_rfl
theorem foff106_6 : foff Try.prog 106 6 = some 6 := by kernel_rfl
theorem fpart106_6 : fpart Try.prog 106 6 = some (6, none) := by kernel_rfl
theorem foff106_7 : foff Try.prog 106 7 = some 7 := by kernel_rfl
theorem fpart106_7 : fpart Try.prog 106 7 = some (7, none) := by kernel_rfl
theorem foff106_8 : foff Try.prog 106 8 = some 8 := by kernel_rfl
theorem fpart106_8 : fpart Try.prog 106 8 = some (8, none) := by kernel_rfl
theorem foff106_9 : foff Try.prog 106 9 = some 9 := by kernel_rfl
theorem fpart106_9 : fpart Try.prog 106 9 = some (9, none) := by kernel_rfl
theorem foff106_10 : foff Try.prog 106 10 = some 10 := by kernel_rfl
theorem fpart106_10 : fpart Try.prog 106 10 = some (10, none) := by kernel_rfl
theorem zmb106 : zmb Try.prog 106 = some (.cells [(.lit (.int .u64 0)), (.lit (.int .u64 0)), (.lit (.int .u32 0)), (.lit (.int .u8 0)), (.lit (.int .u8 0)), (.lit (.int .u8 0)), (.lit (.int .u8 0)), (.lit .nilFunc), (.lit (.pointer none)), (.lit (.int .i32 0)), (.lit (.int .i32 0))] 11 106) := by kernel_rfl
theorem bldT106 : bldT Try.prog 106 = some ([(.int .u64 0), (.int .u64 0), (.int .u32 0), (.int .u8 0), (.int .u8 0), (.int .u8 0), (.int .u8 0), .nilFunc, (.pointer none), (.int .i32 0), (.int .i32 0)], [(0, 1), (1, 1), (2, 1), (3, 1), (4, 1), (5, 1), (6, 1), (7, 1), (8, 1), (9, 1), (10, 1)]) := by kernel_rfl
theorem tyc107 : tyc Try.prog 107 = some (some 11) := by kernel_rfl
theorem foff107_0 : foff Try.prog 107 0 = some 0 := by kernel_rfl
theorem fpart107_0 : fpart Try.prog 107 0 = some (0, none) := by kernel_rfl
theorem foff107_1 : foff Try.prog 107 1 = some 1 := by kernel_rfl
theorem fpart107_1 : fpart Try.prog 107 1 = some (1, none) := by kernel_rfl
theorem foff107_2 : foff Try.prog 107 2 = some 2 := by kernel_rfl
theorem fpart107_2 : fpart Try.prog 107 2 = some (2, none) := by kernel_rfl
theorem foff107_3 : foff Try.prog 107 3 = some 3 := by kernel_rfl
theorem fpart107_3 : fpart Try.prog 107 3 = some (3, none) := by kernel_rfl
theorem foff107_4 : foff Try.prog 107 4 = some 4 := by kernel_rfl
theorem fpart107_4 : fpart Try.prog 107 4 = some (4, none) := by kernel_rfl
theorem foff107_5 : foff Try.prog 107 5 = some 5 := by kernel_rfl
theorem fpart107_5 : fpart Try.prog 107 5 = some (5, none) := by kernel_rfl
theorem foff107_6 : foff Try.prog 107 6 = some 6 := by kernel_rfl
theorem fpart107_6 : fpart Try.prog 107 6 = some (6, none) := by kernel_rfl
theorem foff107_7 : foff Try.prog 107 7 = some 7 := by kernel_rfl
theorem fpart107_7 : fpart Try.prog 107 7 = some (7, none) := by kernel_rfl
theorem foff107_8 : foff Try.prog 107 8 = some 8 := by kernel_rfl
theorem fpart107_8 : fpart Try.prog 107 8 = some (8, none) := by kernel_rfl
theorem foff107_9 : foff Try.prog 107 9 = some 9 := by kernel_rfl
theorem fpart107_9 : fpart Try.prog 107 9 = some (9, none) := by kernel_rfl
theorem foff107_10 : foff Try.prog 107 10 = some 10 := by kernel_rfl
theorem fpart107_10 : fpart Try.prog 107 10 = some (10, none) := by kernel_rfl
theorem zmb107 : zmb Try.prog 107 = some (.cells [(.lit (.int .u64 0)), (.lit (.int .u64 0)), (.lit (.int .u32 0)), (.lit (.int .u8 0)), (.lit (.int .u8 0)), (.lit (.int .u8 0)), (.lit (.int .u8 0)), (.lit .nilFunc), (.lit (.pointer none)), (.lit (.int .i32 0)), (.lit (.int .i32 0))] 11 107) := by kernel_rfl
theorem bldT107 : bldT Try.prog 107 = some ([(.int .u64 0), (.int .u64 0), (.int .u32 0), (.int .u8 0), (.int .u8 0), (.int .u8 0), (.int .u8 0), .nilFunc, (.pointer none), (.int .i32 0), (.int .i32 0)], [(0, 1), (1, 1), (2, 1), (3, 1), (4, 1), (5, 1), (6, 1), (7, 1), (8, 1), (9, 1), (10, 1)]) := by kernel_rfl
theorem tyc108 : tyc Try.prog 108 = some none := by kernel_rfl
theorem zmb108 : zmb Try.prog 108 = some (.cells [(.lit .nilFunc)] 1 108) := by kernel_rfl
theorem tyc109 : tyc Try.prog 109 = some none := by kernel_rfl
theorem zmb109 : zmb Try.prog 109 = some (.cells [(.lit (.pointer none))] 1 109) := by kernel_rfl
theorem mixed : Try.prog.follows .mixedOrders = true := by kernel_rfl
end Go.Proofs.Ytljfldoekamccaa
