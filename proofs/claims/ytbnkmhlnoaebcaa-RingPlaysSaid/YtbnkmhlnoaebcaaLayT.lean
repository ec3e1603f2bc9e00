/-
  The seat's types, as the layer asks of them: closed facts, printed by a program of ours.
-/
import Derived.Test.YtbnkmhlnoaebcaaLayL
import Derived.Test.YtbnkmhlnoaebcaaProg
namespace Go.Proofs.Ytbnkmhlnoaebcaa
open Go
theorem tyc0 : tyc Try.prog 0 = some none := by kernel_rfl
theorem tyc1 : tyc Try.prog 1 = some none := by kernel_rfl
theorem zmb1 : zmb Try.prog 1 = some (.cells [(.lit .nilFunc)] 1 1) := by kernel_rfl
theorem tyc2 : tyc Try.prog 2 = some none := by kernel_rfl
theorem zmb2 : zmb Try.prog 2 = some (.cells [(.lit (.int .i64 0))] 1 2) := by kernel_rfl
theorem tyc3 : tyc Try.prog 3 = some none := by kernel_rfl
theorem zmb3 : zmb Try.prog 3 = some (.cells [(.lit (.int .i64 0))] 1 3) := by kernel_rfl
theorem tyc4 : tyc Try.prog 4 = some none := by kernel_rfl
theorem zmb4 : zmb Try.prog 4 = some (.cells [(.lit (.bool false))] 1 4) := by kernel_rfl
theorem tyc5 : tyc Try.prog 5 = some none := by kernel_rfl
theorem zmb5 : zmb Try.prog 5 = some (.cells [(.lit (.int .u8 0))] 1 5) := by kernel_rfl
theorem tyc6 : tyc Try.prog 6 = some none := by kernel_rfl
theorem zmb6 : zmb Try.prog 6 = some (.cells [(.lit (.int .u8 0))] 1 6) := by kernel_rfl
theorem tyc7 : tyc Try.prog 7 = some (some 4) := by kernel_rfl
theorem foff7_0 : foff Try.prog 7 0 = some 0 := by kernel_rfl
theorem fpart7_0 : fpart Try.prog 7 0 = some (0, none) := by kernel_rfl
theorem foff7_1 : foff Try.prog 7 1 = some 1 := by kernel_rfl
theorem fpart7_1 : fpart Try.prog 7 1 = some (1, none) := by kernel_rfl
theorem foff7_2 : foff Try.prog 7 2 = some 2 := by kernel_rfl
theorem fpart7_2 : fpart Try.prog 7 2 = some (2, none) := by kernel_rfl
theorem foff7_3 : foff Try.prog 7 3 = some 3 := by kernel_rfl
theorem fpart7_3 : fpart Try.prog 7 3 = some (3, none) := by kernel_rfl
theorem fe7 : flatEq Try.prog 7 [1, 1, 2, 1] := flatEq_of (by kernel_rfl)
theorem zmb7 : zmb Try.prog 7 = some (.cells [(.lit (.int .i64 0)), (.lit (.int .i64 0)), (.lit (.bool false)), (.lit (.int .u8 0))] 4 7) := by kernel_rfl
theorem bldT7 : bldT Try.prog 7 = some ([(.int .i64 0), (.int .i64 0), (.bool false), (.int .u8 0)], [(0, 1), (1, 1), (2, 1), (3, 1)]) := by kernel_rfl
theorem tyc8 : tyc Try.prog 8 = some (some 4) := by kernel_rfl
theorem foff8_0 : foff Try.prog 8 0 = some 0 := by kernel_rfl
theorem fpart8_0 : fpart Try.prog 8 0 = some (0, none) := by kernel_rfl
theorem foff8_1 : foff Try.prog 8 1 = some 1 := by kernel_rfl
theorem fpart8_1 : fpart Try.prog 8 1 = some (1, none) := by kernel_rfl
theorem foff8_2 : foff Try.prog 8 2 = some 2 := by kernel_rfl
theorem fpart8_2 : fpart Try.prog 8 2 = some (2, none) := by kernel_rfl
theorem foff8_3 : foff Try.prog 8 3 = some 3 := by kernel_rfl
theorem fpart8_3 : fpart Try.prog 8 3 = some (3, none) := by kernel_rfl
theorem fe8 : flatEq Try.prog 8 [1, 1, 2, 1] := flatEq_of (by kernel_rfl)
theorem zmb8 : zmb Try.prog 8 = some (.cells [(.lit (.int .i64 0)), (.lit (.int .i64 0)), (.lit (.bool false)), (.lit (.int .u8 0))] 4 8) := by kernel_rfl
theorem bldT8 : bldT Try.prog 8 = some ([(.int .i64 0), (.int .i64 0), (.bool false), (.int .u8 0)], [(0, 1), (1, 1), (2, 1), (3, 1)]) := by kernel_rfl
theorem tyc9 : tyc Try.prog 9 = some none := by kernel_rfl
theorem zmb9 : zmb Try.prog 9 = some (.cells [(.lit (.string ⟨#[]⟩))] 1 9) := by kernel_rfl
theorem tyc10 : tyc Try.prog 10 = some none := by kernel_rfl
theorem zmb10 : zmb Try.prog 10 = some (.cells [(.lit (.string ⟨#[]⟩))] 1 10) := by kernel_rfl
theorem tyc11 : tyc Try.prog 11 = some none := by kernel_rfl
theorem zmb11 : zmb Try.prog 11 = some (.cells [(.lit (.string ⟨#[]⟩))] 1 11) := by kernel_rfl
theorem tyc12 : tyc Try.prog 12 = some none := by kernel_rfl
theorem zmb12 : zmb Try.prog 12 = some (.cells [(.lit (.int .u64 0))] 1 12) := by kernel_rfl
theorem tyc13 : tyc Try.prog 13 = some (some 2) := by kernel_rfl
theorem foff13_0 : foff Try.prog 13 0 = some 0 := by kernel_rfl
theorem fpart13_0 : fpart Try.prog 13 0 = some (0, none) := by kernel_rfl
theorem foff13_1 : foff Try.prog 13 1 = some 1 := by kernel_rfl
theorem fpart13_1 : fpart Try.prog 13 1 = some (1, none) := by kernel_rfl
theorem zmb13 : zmb Try.prog 13 = some (.cells [(.lit (.string ⟨#[]⟩)), (.lit (.int .u64 0))] 2 13) := by kernel_rfl
theorem bldT13 : bldT Try.prog 13 = some ([(.string ⟨#[]⟩), (.int .u64 0)], [(0, 1), (1, 1)]) := by kernel_rfl
theorem tyc14 : tyc Try.prog 14 = some (some 2) := by kernel_rfl
theorem foff14_0 : foff Try.prog 14 0 = some 0 := by kernel_rfl
theorem fpart14_0 : fpart Try.prog 14 0 = some (0, none) := by kernel_rfl
theorem foff14_1 : foff Try.prog 14 1 = some 1 := by kernel_rfl
theorem fpart14_1 : fpart Try.prog 14 1 = some (1, none) := by kernel_rfl
theorem zmb14 : zmb Try.prog 14 = some (.cells [(.lit (.string ⟨#[]⟩)), (.lit (.int .u64 0))] 2 14) := by kernel_rfl
theorem bldT14 : bldT Try.prog 14 = some ([(.string ⟨#[]⟩), (.int .u64 0)], [(0, 1), (1, 1)]) := by kernel_rfl
theorem tyc15 : tyc Try.prog 15 = some none := by kernel_rfl
theorem zmb15 : zmb Try.prog 15 = some (.cells [(.lit (.pointer none))] 1 15) := by kernel_rfl
theorem tyc16 : tyc Try.prog 16 = some none := by kernel_rfl
theorem zmb16 : zmb Try.prog 16 = some (.cells [(.lit (.pointer none))] 1 16) := by kernel_rfl
theorem tyc17 : tyc Try.prog 17 = some none := by kernel_rfl
theorem zmb17 : zmb Try.prog 17 = some (.cells [(.lit (.pointer none))] 1 17) := by kernel_rfl
theorem tyc18 : tyc Try.prog 18 = some (some 1) := by kernel_rfl
theorem foff18_0 : foff Try.prog 18 0 = some 0 := by kernel_rfl
theorem fpart18_0 : fpart Try.prog 18 0 = some (0, none) := by kernel_rfl
theorem zmb18 : zmb Try.prog 18 = some (.cells [(.lit (.pointer none))] 1 18) := by kernel_rfl
theorem bldT18 : bldT Try.prog 18 = some ([(.pointer none)], [(0, 1)]) := by kernel_rfl
theorem tyc19 : tyc Try.prog 19 = some (some 1) := by kernel_rfl
theorem foff19_0 : foff Try.prog 19 0 = some 0 := by kernel_rfl
theorem fpart19_0 : fpart Try.prog 19 0 = some (0, none) := by kernel_rfl
theorem zmb19 : zmb Try.prog 19 = some (.cells [(.lit (.pointer none))] 1 19) := by kernel_rfl
theorem bldT19 : bldT Try.prog 19 = some ([(.pointer none)], [(0, 1)]) := by kernel_rfl
theorem tyc20 : tyc Try.prog 20 = some none := by kernel_rfl
theorem zmb20 : zmb Try.prog 20 = some (.cells [(.lit .nilIface)] 1 20) := by kernel_rfl
theorem tyc21 : tyc Try.prog 21 = some none := by kernel_rfl
theorem zmb21 : zmb Try.prog 21 = some (.cells [(.lit (.int .i32 0))] 1 21) := by kernel_rfl
theorem tyc22 : tyc Try.prog 22 = some none := by kernel_rfl
theorem zmb22 : zmb Try.prog 22 = some (.cells [(.lit .nilFunc)] 1 22) := by kernel_rfl
theorem tyc23 : tyc Try.prog 23 = some none := by kernel_rfl
theorem zmb23 : zmb Try.prog 23 = some (.cells [(.lit (.int .i64 0))] 1 23) := by kernel_rfl
theorem tyc24 : tyc Try.prog 24 = some none := by kernel_rfl
theorem tyc25 : tyc Try.prog 25 = some none := by kernel_rfl
theorem zmb25 : zmb Try.prog 25 = some (.cells [(.lit .nilFunc)] 1 25) := by kernel_rfl
theorem tyc26 : tyc Try.prog 26 = some none := by kernel_rfl
theorem mth26_30 : mthOf Try.prog 26 "firebell/ring.at" = some 30 := by kernel_rfl
theorem mth26_39 : mthOf Try.prog 26 "firebell/ring.grow" = some 39 := by kernel_rfl
theorem mth26_38 : mthOf Try.prog 26 "firebell/ring.room" = some 38 := by kernel_rfl
theorem con26 : Try.prog.concrete 26 = true := by kernel_rfl
theorem zmb26 : zmb Try.prog 26 = some (.cells [(.lit (.pointer none))] 1 26) := by kernel_rfl
theorem tyc27 : tyc Try.prog 27 = some none := by kernel_rfl
theorem tyc28 : tyc Try.prog 28 = some none := by kernel_rfl
theorem zmb28 : zmb Try.prog 28 = some (.cells [(.lit .nilFunc)] 1 28) := by kernel_rfl
theorem tyc29 : tyc Try.prog 29 = some none := by kernel_rfl
theorem zmb29 : zmb Try.prog 29 = some (.cells [(.lit .nilFunc)] 1 29) := by kernel_rfl
theorem tyc30 : tyc Try.prog 30 = some none := by kernel_rfl
theorem zmb30 : zmb Try.prog 30 = some (.cells [(.lit .nilFunc)] 1 30) := by kernel_rfl
theorem tyc31 : tyc Try.prog 31 = some none := by kernel_rfl
theorem zmb31 : zmb Try.prog 31 = some (.cells [(.lit .nilFunc)] 1 31) := by kernel_rfl
theorem tyc32 : tyc Try.prog 32 = some none := by kernel_rfl
theorem elt32 : elt Try.prog 32 = some (none, 2) := by kernel_rfl
theorem mkz32 : mkz Try.prog 32 = none := by kernel_rfl
theorem mkc32 : mkc Try.prog 32 = some (43, 2, 16, [(.lit (.int .u64 0)), (.lit (.int .u64 0))]) := by kernel_rfl
theorem apT32 : apT Try.prog 32 = some (43, 2, 16) := by kernel_rfl
theorem elk32 : elk Try.prog 32 = none := by kernel_rfl
theorem zmb32 : zmb Try.prog 32 = some (.cells [(.lit (.slice none 0 0))] 1 32) := by kernel_rfl
theorem tyc33 : tyc Try.prog 33 = some none := by kernel_rfl
theorem zmb33 : zmb Try.prog 33 = some (.cells [(.lit .nilFunc)] 1 33) := by kernel_rfl
theorem tyc34 : tyc Try.prog 34 = some none := by kernel_rfl
theorem elt34 : elt Try.prog 34 = some (none, 4) := by kernel_rfl
theorem mkz34 : mkz Try.prog 34 = none := by kernel_rfl
theorem mkc34 : mkc Try.prog 34 = some (45, 4, 32, [(.lit (.int .i64 0)), (.lit (.int .i64 0)), (.lit (.int .u64 0)), (.lit (.int .u64 0))]) := by kernel_rfl
theorem apT34 : apT Try.prog 34 = some (45, 4, 32) := by kernel_rfl
theorem elk34 : elk Try.prog 34 = none := by kernel_rfl
theorem zmb34 : zmb Try.prog 34 = some (.cells [(.lit (.slice none 0 0))] 1 34) := by kernel_rfl
theorem tyc35 : tyc Try.prog 35 = some none := by kernel_rfl
theorem zmb35 : zmb Try.prog 35 = some (.cells [(.lit (.pointer none))] 1 35) := by kernel_rfl
theorem tyc36 : tyc Try.prog 36 = some none := by kernel_rfl
theorem elt36 : elt Try.prog 36 = some (none, 3) := by kernel_rfl
theorem mkz36 : mkz Try.prog 36 = none := by kernel_rfl
theorem mkc36 : mkc Try.prog 36 = some (70, 3, 24, [(.lit (.int .i64 0)), (.lit (.int .u64 0)), (.lit (.int .u64 0))]) := by kernel_rfl
theorem apT36 : apT Try.prog 36 = some (70, 3, 24) := by kernel_rfl
theorem elk36 : elk Try.prog 36 = none := by kernel_rfl
theorem zmb36 : zmb Try.prog 36 = some (.cells [(.lit (.slice none 0 0))] 1 36) := by kernel_rfl
theorem tyc37 : tyc Try.prog 37 = some (some 4) := by kernel_rfl
theorem foff37_0 : foff Try.prog 37 0 = some 0 := by kernel_rfl
theorem fpart37_0 : fpart Try.prog 37 0 = some (0, none) := by kernel_rfl
theorem foff37_1 : foff Try.prog 37 1 = some 1 := by kernel_rfl
theorem fpart37_1 : fpart Try.prog 37 1 = some (1, none) := by kernel_rfl
theorem foff37_2 : foff Try.prog 37 2 = some 2 := by kernel_rfl
theorem fpart37_2 : fpart Try.prog 37 2 = some (2, none) := by kernel_rfl
theorem foff37_3 : foff Try.prog 37 3 = some 3 := by kernel_rfl
theorem fpart37_3 : fpart Try.prog 37 3 = some (3, none) := by kernel_rfl
theorem zmb37 : zmb Try.prog 37 = some (.cells [(.lit (.int .i64 0)), (.lit (.int .i64 0)), (.lit (.int .i64 0)), (.lit (.slice none 0 0))] 4 37) := by kernel_rfl
theorem bldT37 : bldT Try.prog 37 = some ([(.int .i64 0), (.int .i64 0), (.int .i64 0), (.slice none 0 0)], [(0, 1), (1, 1), (2, 1), (3, 1)]) := by kernel_rfl
theorem tyc38 : tyc Try.prog 38 = some (some 4) := by kernel_rfl
theorem foff38_0 : foff Try.prog 38 0 = some 0 := by kernel_rfl
theorem fpart38_0 : fpart Try.prog 38 0 = some (0, none) := by kernel_rfl
theorem foff38_1 : foff Try.prog 38 1 = some 1 := by kernel_rfl
theorem fpart38_1 : fpart Try.prog 38 1 = some (1, none) := by kernel_rfl
theorem foff38_2 : foff Try.prog 38 2 = some 2 := by kernel_rfl
theorem fpart38_2 : fpart Try.prog 38 2 = some (2, none) := by kernel_rfl
theorem foff38_3 : foff Try.prog 38 3 = some 3 := by kernel_rfl
theorem fpart38_3 : fpart Try.prog 38 3 = some (3, none) := by kernel_rfl
theorem zmb38 : zmb Try.prog 38 = some (.cells [(.lit (.int .i64 0)), (.lit (.int .i64 0)), (.lit (.int .i64 0)), (.lit (.slice none 0 0))] 4 38) := by kernel_rfl
theorem bldT38 : bldT Try.prog 38 = some ([(.int .i64 0), (.int .i64 0), (.int .i64 0), (.slice none 0 0)], [(0, 1), (1, 1), (2, 1), (3, 1)]) := by kernel_rfl
theorem tyc39 : tyc Try.prog 39 = some none := by kernel_rfl
theorem zmb39 : zmb Try.prog 39 = some (.cells [(.lit .nilFunc)] 1 39) := by kernel_rfl
theorem tyc40 : tyc Try.prog 40 = some none := by kernel_rfl
theorem zmb40 : zmb Try.prog 40 = some (.cells [(.lit .nilFunc)] 1 40) := by kernel_rfl
theorem tyc41 : tyc Try.prog 41 = some none := by kernel_rfl
theorem zmb41 : zmb Try.prog 41 = some (.cells [(.lit (.int .u64 0))] 1 41) := by kernel_rfl
theorem tyc42 : tyc Try.prog 42 = some (some 2) := by kernel_rfl
theorem foff42_0 : foff Try.prog 42 0 = some 0 := by kernel_rfl
theorem fpart42_0 : fpart Try.prog 42 0 = some (0, none) := by kernel_rfl
theorem foff42_1 : foff Try.prog 42 1 = some 1 := by kernel_rfl
theorem fpart42_1 : fpart Try.prog 42 1 = some (1, none) := by kernel_rfl
theorem fe42 : flatEq Try.prog 42 [1, 1] := flatEq_of (by kernel_rfl)
theorem zmb42 : zmb Try.prog 42 = some (.cells [(.lit (.int .u64 0)), (.lit (.int .u64 0))] 2 42) := by kernel_rfl
theorem bldT42 : bldT Try.prog 42 = some ([(.int .u64 0), (.int .u64 0)], [(0, 1), (1, 1)]) := by kernel_rfl
theorem tyc43 : tyc Try.prog 43 = some (some 2) := by kernel_rfl
theorem foff43_0 : foff Try.prog 43 0 = some 0 := by kernel_rfl
theorem fpart43_0 : fpart Try.prog 43 0 = some (0, none) := by kernel_rfl
theorem foff43_1 : foff Try.prog 43 1 = some 1 := by kernel_rfl
theorem fpart43_1 : fpart Try.prog 43 1 = some (1, none) := by kernel_rfl
theorem fe43 : flatEq Try.prog 43 [1, 1] := flatEq_of (by kernel_rfl)
theorem zmb43 : zmb Try.prog 43 = some (.cells [(.lit (.int .u64 0)), (.lit (.int .u64 0))] 2 43) := by kernel_rfl
theorem bldT43 : bldT Try.prog 43 = some ([(.int .u64 0), (.int .u64 0)], [(0, 1), (1, 1)]) := by kernel_rfl
theorem tyc44 : tyc Try.prog 44 = some (some 4) := by kernel_rfl
theorem foff44_0 : foff Try.prog 44 0 = some 0 := by kernel_rfl
theorem fpart44_0 : fpart Try.prog 44 0 = some (0, none) := by kernel_rfl
theorem foff44_1 : foff Try.prog 44 1 = some 1 := by kernel_rfl
theorem fpart44_1 : fpart Try.prog 44 1 = some (1, none) := by kernel_rfl
theorem foff44_2 : foff Try.prog 44 2 = some 2 := by kernel_rfl
theorem fpart44_2 : fpart Try.prog 44 2 = some (2, (some 2)) := by kernel_rfl
theorem zmb44 : zmb Try.prog 44 = some (.cells [(.lit (.int .i64 0)), (.lit (.int .i64 0)), (.lit (.int .u64 0)), (.lit (.int .u64 0))] 4 44) := by kernel_rfl
theorem bldT44 : bldT Try.prog 44 = some ([(.int .i64 0), (.int .i64 0), (.int .u64 0), (.int .u64 0)], [(0, 1), (1, 1), (2, 2)]) := by kernel_rfl
theorem tyc45 : tyc Try.prog 45 = some (some 4) := by kernel_rfl
theorem foff45_0 : foff Try.prog 45 0 = some 0 := by kernel_rfl
theorem fpart45_0 : fpart Try.prog 45 0 = some (0, none) := by kernel_rfl
theorem foff45_1 : foff Try.prog 45 1 = some 1 := by kernel_rfl
theorem fpart45_1 : fpart Try.prog 45 1 = some (1, none) := by kernel_rfl
theorem foff45_2 : foff Try.prog 45 2 = some 2 := by kernel_rfl
theorem fpart45_2 : fpart Try.prog 45 2 = some (2, (some 2)) := by kernel_rfl
theorem zmb45 : zmb Try.prog 45 = some (.cells [(.lit (.int .i64 0)), (.lit (.int .i64 0)), (.lit (.int .u64 0)), (.lit (.int .u64 0))] 4 45) := by kernel_rfl
theorem bldT45 : bldT Try.prog 45 = some ([(.int .i64 0), (.int .i64 0), (.int .u64 0), (.int .u64 0)], [(0, 1), (1, 1), (2, 2)]) := by kernel_rfl
theorem tyc46 : tyc Try.prog 46 = some none := by kernel_rfl
theorem zmb46 : zmb Try.prog 46 = some (.cells [(.lit .nilFunc)] 1 46) := by kernel_rfl
theorem tyc47 : tyc Try.prog 47 = some none := by kernel_rfl
theorem zmb47 : zmb Try.prog 47 = some (.cells [(.lit .nilFunc)] 1 47) := by kernel_rfl
theorem tyc48 : tyc Try.prog 48 = some none := by kernel_rfl
theorem zmb48 : zmb Try.prog 48 = some (.cells [(.lit .nilFunc)] 1 48) := by kernel_rfl
theorem tyc49 : tyc Try.prog 49 = some none := by kernel_rfl
theorem zmb49 : zmb Try.prog 49 = some (.cells [(.lit .nilFunc)] 1 49) := by kernel_rfl
theorem tyc50 : tyc Try.prog 50 = some none := by kernel_rfl
theorem elt50 : elt Try.prog 50 = some (none, 1) := by kernel_rfl
theorem mkz50 : mkz Try.prog 50 = some (5, 1, .u8) := by kernel_rfl
theorem apT50 : apT Try.prog 50 = some (5, 1, 1) := by kernel_rfl
theorem elk50 : elk Try.prog 50 = (some .u8) := by kernel_rfl
theorem zmb50 : zmb Try.prog 50 = some (.cells [(.lit (.slice none 0 0))] 1 50) := by kernel_rfl
theorem tyc51 : tyc Try.prog 51 = some none := by kernel_rfl
theorem zmb51 : zmb Try.prog 51 = some (.cells [(.lit .nilFunc)] 1 51) := by kernel_rfl
theorem tyc52 : tyc Try.prog 52 = some none := by kernel_rfl
theorem zmb52 : zmb Try.prog 52 = some (.cells [(.lit .nilFunc)] 1 52) := by kernel_rfl
theorem tyc53 : tyc Try.prog 53 = some none := by kernel_rfl
theorem zmb53 : zmb Try.prog 53 = some (.cells [(.lit .nilFunc)] 1 53) := by kernel_rfl
theorem tyc54 : tyc Try.prog 54 = some none := by kernel_rfl
theorem mth54_53 : mthOf Try.prog 54 "firebell/wire.fail" = some 53 := by kernel_rfl
theorem mth54_50 : mthOf Try.prog 54 "firebell/wire.get" = some 50 := by kernel_rfl
theorem mth54_54 : mthOf Try.prog 54 "firebell/wire.take" = some 54 := by kernel_rfl
theorem con54 : Try.prog.concrete 54 = true := by kernel_rfl
theorem zmb54 : zmb Try.prog 54 = some (.cells [(.lit (.pointer none))] 1 54) := by kernel_rfl
theorem tyc55 : tyc Try.prog 55 = some none := by kernel_rfl
theorem zmb55 : zmb Try.prog 55 = some (.cells [(.lit .nilFunc)] 1 55) := by kernel_rfl
theorem tyc56 : tyc Try.prog 56 = some none := by kernel_rfl
theorem tyc57 : tyc Try.prog 57 = some none := by kernel_rfl
theorem zmb57 : zmb Try.prog 57 = some (.cells [(.lit .nilFunc)] 1 57) := by kernel_rfl
theorem tyc58 : tyc Try.prog 58 = some none := by kernel_rfl
theorem zmb58 : zmb Try.prog 58 = some (.cells [(.lit .nilFunc)] 1 58) := by kernel_rfl
theorem tyc59 : tyc Try.prog 59 = some none := by kernel_rfl
theorem zmb59 : zmb Try.prog 59 = some (.cells [(.lit .nilFunc)] 1 59) := by kernel_rfl
theorem tyc60 : tyc Try.prog 60 = some none := by kernel_rfl
theorem zmb60 : zmb Try.prog 60 = some (.cells [(.lit .nilFunc)] 1 60) := by kernel_rfl
theorem tyc61 : tyc Try.prog 61 = some none := by kernel_rfl
theorem zmb61 : zmb Try.prog 61 = some (.cells [(.lit .nilFunc)] 1 61) := by kernel_rfl
theorem tyc62 : tyc Try.prog 62 = some none := by kernel_rfl
theorem zmb62 : zmb Try.prog 62 = some (.cells [(.lit .nilFunc)] 1 62) := by kernel_rfl
theorem tyc63 : tyc Try.prog 63 = some (some 6) := by kernel_rfl
theorem foff63_0 : foff Try.prog 63 0 = some 0 := by kernel_rfl
theorem fpart63_0 : fpart Try.prog 63 0 = some (0, none) := by kernel_rfl
theorem foff63_1 : foff Try.prog 63 1 = some 1 := by kernel_rfl
theorem fpart63_1 : fpart Try.prog 63 1 = some (1, none) := by kernel_rfl
theorem foff63_2 : foff Try.prog 63 2 = some 2 := by kernel_rfl
theorem fpart63_2 : fpart Try.prog 63 2 = some (2, none) := by kernel_rfl
theorem foff63_3 : foff Try.prog 63 3 = some 3 := by kernel_rfl
theorem fpart63_3 : fpart Try.prog 63 3 = some (3, none) := by kernel_rfl
theorem foff63_4 : foff Try.prog 63 4 = some 4 := by kernel_rfl
theorem fpart63_4 : fpart Try.prog 63 4 = some (4, (some 2)) := by kernel_rfl
theorem zmb63 : zmb Try.prog 63 = some (.cells [(.lit (.int .i64 0)), (.lit (.slice none 0 0)), (.lit (.int .i64 0)), (.lit (.int .i64 0)), (.lit (.int .u64 0)), (.lit (.int .u64 0))] 6 63) := by kernel_rfl
theorem bldT63 : bldT Try.prog 63 = some ([(.int .i64 0), (.slice none 0 0), (.int .i64 0), (.int .i64 0), (.int .u64 0), (.int .u64 0)], [(0, 1), (1, 1), (2, 1), (3, 1), (4, 2)]) := by kernel_rfl
theorem tyc64 : tyc Try.prog 64 = some (some 6) := by kernel_rfl
theorem foff64_0 : foff Try.prog 64 0 = some 0 := by kernel_rfl
theorem fpart64_0 : fpart Try.prog 64 0 = some (0, none) := by kernel_rfl
theorem foff64_1 : foff Try.prog 64 1 = some 1 := by kernel_rfl
theorem fpart64_1 : fpart Try.prog 64 1 = some (1, none) := by kernel_rfl
theorem foff64_2 : foff Try.prog 64 2 = some 2 := by kernel_rfl
theorem fpart64_2 : fpart Try.prog 64 2 = some (2, none) := by kernel_rfl
theorem foff64_3 : foff Try.prog 64 3 = some 3 := by kernel_rfl
theorem fpart64_3 : fpart Try.prog 64 3 = some (3, none) := by kernel_rfl
theorem foff64_4 : foff Try.prog 64 4 = some 4 := by kernel_rfl
theorem fpart64_4 : fpart Try.prog 64 4 = some (4, (some 2)) := by kernel_rfl
theorem zmb64 : zmb Try.prog 64 = some (.cells [(.lit (.int .i64 0)), (.lit (.slice none 0 0)), (.lit (.int .i64 0)), (.lit (.int .i64 0)), (.lit (.int .u64 0)), (.lit (.int .u64 0))] 6 64) := by kernel_rfl
theorem bldT64 : bldT Try.prog 64 = some ([(.int .i64 0), (.slice none 0 0), (.int .i64 0), (.int .i64 0), (.int .u64 0), (.int .u64 0)], [(0, 1), (1, 1), (2, 1), (3, 1), (4, 2)]) := by kernel_rfl
theorem tyc65 : tyc Try.prog 65 = some none := by kernel_rfl
theorem zmb65 : zmb Try.prog 65 = some (.cells [(.lit (.pointer none))] 1 65) := by kernel_rfl
theorem tyc66 : tyc Try.prog 66 = some none := by kernel_rfl
theorem zmb66 : zmb Try.prog 66 = some (.cells [(.lit .nilFunc)] 1 66) := by kernel_rfl
theorem tyc67 : tyc Try.prog 67 = some none := by kernel_rfl
theorem zmb67 : zmb Try.prog 67 = some (.cells [(.lit .nilFunc)] 1 67) := by kernel_rfl
theorem tyc68 : tyc Try.prog 68 = some none := by kernel_rfl
theorem zmb68 : zmb Try.prog 68 = some (.cells [(.lit .nilFunc)] 1 68) := by kernel_rfl
theorem tyc69 : tyc Try.prog 69 = some (some 3) := by kernel_rfl
theorem foff69_0 : foff Try.prog 69 0 = some 0 := by kernel_rfl
theorem fpart69_0 : fpart Try.prog 69 0 = some (0, none) := by kernel_rfl
theorem foff69_1 : foff Try.prog 69 1 = some 1 := by kernel_rfl
theorem fpart69_1 : fpart Try.prog 69 1 = some (1, (some 2)) := by kernel_rfl
theorem zmb69 : zmb Try.prog 69 = some (.cells [(.lit (.int .i64 0)), (.lit (.int .u64 0)), (.lit (.int .u64 0))] 3 69) := by kernel_rfl
theorem bldT69 : bldT Try.prog 69 = some ([(.int .i64 0), (.int .u64 0), (.int .u64 0)], [(0, 1), (1, 2)]) := by kernel_rfl
theorem tyc70 : tyc Try.prog 70 = some (some 3) := by kernel_rfl
theorem foff70_0 : foff Try.prog 70 0 = some 0 := by kernel_rfl
theorem fpart70_0 : fpart Try.prog 70 0 = some (0, none) := by kernel_rfl
theorem foff70_1 : foff Try.prog 70 1 = some 1 := by kernel_rfl
theorem fpart70_1 : fpart Try.prog 70 1 = some (1, (some 2)) := by kernel_rfl
theorem zmb70 : zmb Try.prog 70 = some (.cells [(.lit (.int .i64 0)), (.lit (.int .u64 0)), (.lit (.int .u64 0))] 3 70) := by kernel_rfl
theorem bldT70 : bldT Try.prog 70 = some ([(.int .i64 0), (.int .u64 0), (.int .u64 0)], [(0, 1), (1, 2)]) := by kernel_rfl
theorem tyc71 : tyc Try.prog 71 = some none := by kernel_rfl
theorem zmb71 : zmb Try.prog 71 = some (.cells [(.lit .nilFunc)] 1 71) := by kernel_rfl
theorem tyc72 : tyc Try.prog 72 = some none := by kernel_rfl
theorem zmb72 : zmb Try.prog 72 = some (.cells [(.lit .nilFunc)] 1 72) := by kernel_rfl
theorem tyc73 : tyc Try.prog 73 = some none := by kernel_rfl
theorem zmb73 : zmb Try.prog 73 = some (.cells [(.lit .nilFunc)] 1 73) := by kernel_rfl
theorem tyc74 : tyc Try.prog 74 = some none := by kernel_rfl
theorem zmb74 : zmb Try.prog 74 = some (.cells [(.lit .nilFunc)] 1 74) := by kernel_rfl
theorem tyc75 : tyc Try.prog 75 = some none := by kernel_rfl
theorem zmb75 : zmb Try.prog 75 = some (.cells [(.lit .nilFunc)] 1 75) := by kernel_rfl
theorem tyc76 : tyc Try.prog 76 = some none := by kernel_rfl
theorem zmb76 : zmb Try.prog 76 = some (.cells [(.lit .nilFunc)] 1 76) := by kernel_rfl
theorem tyc77 : tyc Try.prog 77 = some (some 2) := by kernel_rfl
theorem foff77_0 : foff Try.prog 77 0 = some 0 := by kernel_rfl
theorem fpart77_0 : fpart Try.prog 77 0 = some (0, none) := by kernel_rfl
theorem foff77_1 : foff Try.prog 77 1 = some 1 := by kernel_rfl
theorem fpart77_1 : fpart Try.prog 77 1 = some (1, none) := by kernel_rfl
theorem zmb77 : zmb Try.prog 77 = some (.cells [(.lit (.slice none 0 0)), (.lit (.bool false))] 2 77) := by kernel_rfl
theorem bldT77 : bldT Try.prog 77 = some ([(.slice none 0 0), (.bool false)], [(0, 1), (1, 1)]) := by kernel_rfl
theorem tyc78 : tyc Try.prog 78 = some (some 2) := by kernel_rfl
theorem foff78_0 : foff Try.prog 78 0 = some 0 := by kernel_rfl
theorem fpart78_0 : fpart Try.prog 78 0 = some (0, none) := by kernel_rfl
theorem foff78_1 : foff Try.prog 78 1 = some 1 := by kernel_rfl
theorem fpart78_1 : fpart Try.prog 78 1 = some (1, none) := by kernel_rfl
theorem zmb78 : zmb Try.prog 78 = some (.cells [(.lit (.slice none 0 0)), (.lit (.bool false))] 2 78) := by kernel_rfl
theorem bldT78 : bldT Try.prog 78 = some ([(.slice none 0 0), (.bool false)], [(0, 1), (1, 1)]) := by kernel_rfl
theorem tyc79 : tyc Try.prog 79 = some none := by kernel_rfl
theorem tyc80 : tyc Try.prog 80 = some none := by kernel_rfl
theorem zmb80 : zmb Try.prog 80 = some (.cells [(.lit .nilFunc)] 1 80) := by kernel_rfl
theorem tyc81 : tyc Try.prog 81 = some none := by kernel_rfl
theorem zmb81 : zmb Try.prog 81 = some (.cells [(.lit .nilFunc)] 1 81) := by kernel_rfl
theorem tyc82 : tyc Try.prog 82 = some none := by kernel_rfl
theorem zmb82 : zmb Try.prog 82 = some (.cells [(.lit .nilFunc)] 1 82) := by kernel_rfl
theorem tyc83 : tyc Try.prog 83 = some none := by kernel_rfl
theorem zmb83 : zmb Try.prog 83 = some (.cells [(.lit .nilFunc)] 1 83) := by kernel_rfl
theorem tyc84 : tyc Try.prog 84 = some none := by kernel_rfl
theorem elt84 : elt Try.prog 84 = some (none, 1) := by kernel_rfl
theorem mkz84 : mkz Try.prog 84 = none := by kernel_rfl
theorem mkc84 : mkc Try.prog 84 = some (65, 1, 8, [(.lit (.pointer none))]) := by kernel_rfl
theorem apT84 : apT Try.prog 84 = some (65, 1, 8) := by kernel_rfl
theorem elk84 : elk Try.prog 84 = none := by kernel_rfl
theorem zmb84 : zmb Try.prog 84 = some (.cells [(.lit (.slice none 0 0))] 1 84) := by kernel_rfl
theorem tyc85 : tyc Try.prog 85 = some none := by kernel_rfl
theorem zmb85 : zmb Try.prog 85 = some (.cells [(.lit .nilFunc)] 1 85) := by kernel_rfl
theorem tyc86 : tyc Try.prog 86 = some none := by kernel_rfl
theorem zmb86 : zmb Try.prog 86 = some (.cells [(.lit .nilFunc)] 1 86) := by kernel_rfl
theorem tyc87 : tyc Try.prog 87 = some none := by kernel_rfl
theorem tyc88 : tyc Try.prog 88 = some none := by kernel_rfl
theorem zmb88 : zmb Try.prog 88 = some (.cells [(.lit .nilFunc)] 1 88) := by kernel_rfl
theorem tyc89 : tyc Try.prog 89 = some (some 4) := by kernel_rfl
theorem foff89_0 : foff Try.prog 89 0 = some 0 := by kernel_rfl
theorem fpart89_0 : fpart Try.prog 89 0 = some (0, none) := by kernel_rfl
theorem foff89_1 : foff Try.prog 89 1 = some 1 := by kernel_rfl
theorem fpart89_1 : fpart Try.prog 89 1 = some (1, none) := by kernel_rfl
theorem foff89_2 : foff Try.prog 89 2 = some 2 := by kernel_rfl
theorem fpart89_2 : fpart Try.prog 89 2 = some (2, none) := by kernel_rfl
theorem foff89_3 : foff Try.prog 89 3 = some 3 := by kernel_rfl
theorem fpart89_3 : fpart Try.prog 89 3 = some (3, none) := by kernel_rfl
theorem fe89 : flatEq Try.prog 89 [1, 1, 3, 2] := flatEq_of (by kernel_rfl)
theorem zmb89 : zmb Try.prog 89 = some (.cells [(.lit (.int .u64 0)), (.lit (.int .i64 0)), (.lit (.string ⟨#[]⟩)), (.lit (.bool false))] 4 89) := by kernel_rfl
theorem bldT89 : bldT Try.prog 89 = some ([(.int .u64 0), (.int .i64 0), (.string ⟨#[]⟩), (.bool false)], [(0, 1), (1, 1), (2, 1), (3, 1)]) := by kernel_rfl
theorem tyc90 : tyc Try.prog 90 = some (some 4) := by kernel_rfl
theorem foff90_0 : foff Try.prog 90 0 = some 0 := by kernel_rfl
theorem fpart90_0 : fpart Try.prog 90 0 = some (0, none) := by kernel_rfl
theorem foff90_1 : foff Try.prog 90 1 = some 1 := by kernel_rfl
theorem fpart90_1 : fpart Try.prog 90 1 = some (1, none) := by kernel_rfl
theorem foff90_2 : foff Try.prog 90 2 = some 2 := by kernel_rfl
theorem fpart90_2 : fpart Try.prog 90 2 = some (2, none) := by kernel_rfl
theorem foff90_3 : foff Try.prog 90 3 = some 3 := by kernel_rfl
theorem fpart90_3 : fpart Try.prog 90 3 = some (3, none) := by kernel_rfl
theorem fe90 : flatEq Try.prog 90 [1, 1, 3, 2] := flatEq_of (by kernel_rfl)
theorem zmb90 : zmb Try.prog 90 = some (.cells [(.lit (.int .u64 0)), (.lit (.int .i64 0)), (.lit (.string ⟨#[]⟩)), (.lit (.bool false))] 4 90) := by kernel_rfl
theorem bldT90 : bldT Try.prog 90 = some ([(.int .u64 0), (.int .i64 0), (.string ⟨#[]⟩), (.bool false)], [(0, 1), (1, 1), (2, 1), (3, 1)]) := by kernel_rfl
theorem tyc91 : tyc Try.prog 91 = some none := by kernel_rfl
theorem tyc92 : tyc Try.prog 92 = some none := by kernel_rfl
theorem zmb92 : zmb Try.prog 92 = some (.cells [(.lit .nilFunc)] 1 92) := by kernel_rfl
theorem tyc93 : tyc Try.prog 93 = some (some 2) := by kernel_rfl
theorem foff93_0 : foff Try.prog 93 0 = some 0 := by kernel_rfl
theorem fpart93_0 : fpart Try.prog 93 0 = some (0, none) := by kernel_rfl
theorem foff93_1 : foff Try.prog 93 1 = some 1 := by kernel_rfl
theorem fpart93_1 : fpart Try.prog 93 1 = some (1, none) := by kernel_rfl
theorem fe93 : flatEq Try.prog 93 [1, 1] := flatEq_of (by kernel_rfl)
theorem zmb93 : zmb Try.prog 93 = some (.cells [(.lit (.int .i64 0)), (.lit (.int .i64 0))] 2 93) := by kernel_rfl
theorem bldT93 : bldT Try.prog 93 = some ([(.int .i64 0), (.int .i64 0)], [(0, 1), (1, 1)]) := by kernel_rfl
theorem tyc94 : tyc Try.prog 94 = some (some 2) := by kernel_rfl
theorem foff94_0 : foff Try.prog 94 0 = some 0 := by kernel_rfl
theorem fpart94_0 : fpart Try.prog 94 0 = some (0, none) := by kernel_rfl
theorem foff94_1 : foff Try.prog 94 1 = some 1 := by kernel_rfl
theorem fpart94_1 : fpart Try.prog 94 1 = some (1, none) := by kernel_rfl
theorem fe94 : flatEq Try.prog 94 [1, 1] := flatEq_of (by kernel_rfl)
theorem zmb94 : zmb Try.prog 94 = some (.cells [(.lit (.int .i64 0)), (.lit (.int .i64 0))] 2 94) := by kernel_rfl
theorem bldT94 : bldT Try.prog 94 = some ([(.int .i64 0), (.int .i64 0)], [(0, 1), (1, 1)]) := by kernel_rfl
theorem tyc95 : tyc Try.prog 95 = some none := by kernel_rfl
theorem zmb95 : zmb Try.prog 95 = some (.cells [(.lit .nilFunc)] 1 95) := by kernel_rfl
theorem tyc96 : tyc Try.prog 96 = some none := by kernel_rfl
theorem tyc97 : tyc Try.prog 97 = some none := by kernel_rfl
theorem zmb97 : zmb Try.prog 97 = some (.cells [(.lit .nilFunc)] 1 97) := by kernel_rfl
theorem tyc98 : tyc Try.prog 98 = some none := by kernel_rfl
theorem zmb98 : zmb Try.prog 98 = some (.cells [(.lit (.int .u64 0))] 1 98) := by kernel_rfl
theorem tyc99 : tyc Try.prog 99 = some none := by kernel_rfl
theorem zmb99 : zmb Try.prog 99 = some (.cells [(.lit .nilFunc)] 1 99) := by kernel_rfl
theorem tyc100 : tyc Try.prog 100 = some (some 4) := by kernel_rfl
theorem foff100_0 : foff Try.prog 100 0 = some 0 := by kernel_rfl
theorem fpart100_0 : fpart Try.prog 100 0 = some (0, none) := by kernel_rfl
theorem foff100_1 : foff Try.prog 100 1 = some 1 := by kernel_rfl
theorem fpart100_1 : fpart Try.prog 100 1 = some (1, none) := by kernel_rfl
theorem foff100_2 : foff Try.prog 100 2 = some 2 := by kernel_rfl
theorem fpart100_2 : fpart Try.prog 100 2 = some (2, none) := by kernel_rfl
theorem foff100_3 : foff Try.prog 100 3 = some 3 := by kernel_rfl
theorem fpart100_3 : fpart Try.prog 100 3 = some (3, none) := by kernel_rfl
theorem zmb100 : zmb Try.prog 100 = some (.cells [(.lit (.pointer none)), (.lit (.pointer none)), (.lit (.pointer none)), (.lit (.string ⟨#[]⟩))] 4 100) := by kernel_rfl
theorem bldT100 : bldT Try.prog 100 = some ([(.pointer none), (.pointer none), (.pointer none), (.string ⟨#[]⟩)], [(0, 1), (1, 1), (2, 1), (3, 1)]) := by kernel_rfl
theorem tyc101 : tyc Try.prog 101 = some (some 4) := by kernel_rfl
theorem foff101_0 : foff Try.prog 101 0 = some 0 := by kernel_rfl
theorem fpart101_0 : fpart Try.prog 101 0 = some (0, none) := by kernel_rfl
theorem foff101_1 : foff Try.prog 101 1 = some 1 := by kernel_rfl
theorem fpart101_1 : fpart Try.prog 101 1 = some (1, none) := by kernel_rfl
theorem foff101_2 : foff Try.prog 101 2 = some 2 := by kernel_rfl
theorem fpart101_2 : fpart Try.prog 101 2 = some (2, none) := by kernel_rfl
theorem foff101_3 : foff Try.prog 101 3 = some 3 := by kernel_rfl
theorem fpart101_3 : fpart Try.prog 101 3 = some (3, none) := by kernel_rfl
theorem zmb101 : zmb Try.prog 101 = some (.cells [(.lit (.pointer none)), (.lit (.pointer none)), (.lit (.pointer none)), (.lit (.string ⟨#[]⟩))] 4 101) := by kernel_rfl
theorem bldT101 : bldT Try.prog 101 = some ([(.pointer none), (.pointer none), (.pointer none), (.string ⟨#[]⟩)], [(0, 1), (1, 1), (2, 1), (3, 1)]) := by kernel_rfl
theorem tyc102 : tyc Try.prog 102 = some (some 0) := by kernel_rfl
theorem elt102 : elt Try.prog 102 = some ((some 0), 1) := by kernel_rfl
theorem arr1102 : arr1 Try.prog 102 = some 0 := by kernel_rfl
theorem zmb102 : zmb Try.prog 102 = some (.cells [] 0 102) := by kernel_rfl
theorem bldT102 : bldT Try.prog 102 = some ([], []) := by kernel_rfl
theorem tyc103 : tyc Try.prog 103 = some (some 0) := by kernel_rfl
theorem fpart103_0 : fpart Try.prog 103 0 = some (0, (some 0)) := by kernel_rfl
theorem zmb103 : zmb Try.prog 103 = some (.cells [] 0 103) := by kernel_rfl
theorem bldT103 : bldT Try.prog 103 = some ([], [(0, 0)]) := by kernel_rfl
theorem tyc104 : tyc Try.prog 104 = some (some 0) := by kernel_rfl
theorem fpart104_0 : fpart Try.prog 104 0 = some (0, (some 0)) := by kernel_rfl
theorem zmb104 : zmb Try.prog 104 = some (.cells [] 0 104) := by kernel_rfl
theorem bldT104 : bldT Try.prog 104 = some ([], [(0, 0)]) := by kernel_rfl
theorem tyc105 : tyc Try.prog 105 = some none := by kernel_rfl
theorem zmb105 : zmb Try.prog 105 = some (.cells [(.lit (.int .u32 0))] 1 105) := by kernel_rfl
theorem tyc106 : tyc Try.prog 106 = some none := by kernel_rfl
theorem zmb106 : zmb Try.prog 106 = some (.cells [(.lit (.int .u8 0))] 1 106) := by kernel_rfl
theorem tyc107 : tyc Try.prog 107 = some none := by kernel_rfl
theorem zmb107 : zmb Try.prog 107 = some (.cells [(.lit (.int .u8 0))] 1 107) := by kernel_rfl
theorem tyc108 : tyc Try.prog 108 = some none := by kernel_rfl
theorem zmb108 : zmb Try.prog 108 = some (.cells [(.lit .nilFunc)] 1 108) := by kernel_rfl
theorem tyc109 : tyc Try.prog 109 = some none := by kernel_rfl
theorem zmb109 : zmb Try.prog 109 = some (.cells [(.lit (.pointer none))] 1 109) := by kernel_rfl
theorem tyc110 : tyc Try.prog 110 = some none := by kernel_rfl
theorem zmb110 : zmb Try.prog 110 = some (.cells [(.lit (.int .i32 0))] 1 110) := by kernel_rfl
theorem tyc111 : tyc Try.prog 111 = some none := by kernel_rfl
theorem zmb111 : zmb Try.prog 111 = some (.cells [(.lit (.int .i32 0))] 1 111) := by kernel_rfl
theorem tyc112 : tyc Try.prog 112 = some (some 11) := by kernel_rfl
theorem foff112_0 : foff Try.prog 112 0 = some 0 := by kernel_rfl
theorem fpart112_0 : fpart Try.prog 112 0 = some (0, none) := by kernel_rfl
theorem foff112_1 : foff Try.prog 112 1 = some 1 := by kernel_rfl
theorem fpart112_1 : fpart Try.prog 112 1 = some (1, none) := by kernel_rfl
theorem foff112_2 : foff Try.prog 112 2 = some 2 := by kernel_rfl
theorem fpart112_2 : fpart Try.prog 112 2 = some (2, none) := by kernel_rfl
theorem foff112_3 : foff Try.prog 112 3 = some 3 := by kernel_rfl
theorem fpart112_3 : fpart Try.prog 112 3 = some (3, none) := by kernel_rfl
theorem foff112_4 : foff Try.prog 112 4 = some 4 := by kernel_rfl
theorem fpart112_4 : fpart Try.prog 112 4 = some (4, none) := by kernel_rfl
theorem foff112_5 : foff Try.prog 112 5 = some 5 := by kernel_rfl
theorem fpart112_5 : fpart Try.prog 112 5 = some (5, none) := by kernel_rfl
theorem foff112_6 : foff Try.prog 112 6 = some 6 := by kernel_rfl
theorem fpart112_6 : fpart Try.prog 112 6 = some (6, none) := by kernel_rfl
theorem foff112_7 : foff Try.prog 112 7 = some 7 := by kernel_rfl
theorem fpart112_7 : fpart Try.prog 112 7 = some (7, none) := by kernel_rfl
theorem foff112_8 : foff Try.prog 112 8 = some 8 := by kernel_rfl
theorem fpart112_8 : fpart Try.prog 112 8 = some (8, none) := by kernel_rfl
theorem foff112_9 : foff Try.prog 112 9 = some 9 := by kernel_rfl
theorem fpart112_9 : fpart Try.prog 112 9 = some (9, none) := by kernel_rfl
theorem foff112_10 : foff Try.prog 112 10 = some 10 := by kernel_rfl
theorem fpart112_10 : fpart Try.prog 112 10 = some (10, none) := by kernel_rfl
theorem zmb112 : zmb Try.prog 112 = some (.cells [(.lit (.int .u64 0)), (.lit (.int .u64 0)), (.lit (.int .u32 0)), (.lit (.int .u8 0)), (.lit (.int .u8 0)), (.lit (.int .u8 0)), (.lit (.int .u8 0)), (.lit .nilFunc), (.lit (.pointer none)), (.lit (.int .i32 0)), (.lit (.int .i32 0))] 11 112) := by kernel_rfl
theorem bldT112 : bldT Try.prog 112 = some ([(.int .u64 0), (.int .u64 0), (.int .u32 0), (.int .u8 0), (.int .u8 0), (.int .u8 0), (.int .u8 0), .nilFunc, (.pointer none), (.int .i32 0), (.int .i32 0)], [(0, 1), (1, 1), (2, 1), (3, 1), (4, 1), (5, 1), (6, 1), (7, 1), (8, 1), (9, 1), (10, 1)]) := by kernel_rfl
theorem tyc113 : tyc Try.prog 113 = some (some 11) := by kernel_rfl
theorem foff113_0 : foff Try.prog 113 0 = some 0 := by kernel_rfl
theorem fpart113_0 : fpart Try.prog 113 0 = some (0, none) := by kernel_rfl
theorem foff113_1 : foff Try.prog 113 1 = some 1 := by kernel_rfl
theorem fpart113_1 : fpart Try.prog 113 1 = some (1, none) := by kernel_rfl
theorem foff113_2 : foff Try.prog 113 2 = some 2 := by kernel_rfl
theorem fpart113_2 : fpart Try.prog 113 2 = some (2, none) := by kernel_rfl
theorem foff113_3 : foff Try.prog 113 3 = some 3 := by kernel_rfl
theorem fpart113_3 : fpart Try.prog 113 3 = some (3, none) := by kernel_rfl
theorem foff113_4 : foff Try.prog 113 4 = some 4 := by kernel_rfl
theorem fpart113_4 : fpart Try.prog 113 4 = some (4, none) := by kernel_rfl
theorem foff113_5 : foff Try.prog 113 5 = some 5 := by kernel_rfl
theorem fpart113_5 : fpart Try.prog 113 5 = some (5, none) := by kernel_rfl
theorem foff113_6 : foff Try.prog 113 6 = some 6 := by kernel_rfl
theorem fpart113_6 : fpart Try.prog 113 6 = some (6, none) := by kernel_rfl
theorem foff113_7 : foff Try.prog 113 7 = some 7 := by kernel_rfl
theorem fpart113_7 : fpart Try.prog 113 7 = some (7, none) := by kernel_rfl
theorem foff113_8 : foff Try.prog 113 8 = some 8 := by kernel_rfl
theorem fpart113_8 : fpart Try.prog 113 8 = some (8, none) := by kernel_rfl
theorem foff113_9 : foff Try.prog 113 9 = some 9 := by kernel_rfl
theorem fpart113_9 : fpart Try.prog 113 9 = some (9, none) := by kernel_rfl
theorem foff113_10 : foff Try.prog 113 10 = some 10 := by kernel_rfl
theorem fpart113_10 : fpart Try.prog 113 10 = some (10, none) := by kernel_rfl
theorem zmb113 : zmb Try.prog 113 = some (.cells [(.lit (.int .u64 0)), (.lit (.int .u64 0)), (.lit (.int .u32 0)), (.lit (.int .u8 0)), (.lit (.int .u8 0)), (.lit (.int .u8 0)), (.lit (.int .u8 0)), (.lit .nilFunc), (.lit (.pointer none)), (.lit (.int .i32 0)), (.lit (.int .i32 0))] 11 113) := by kernel_rfl
theorem bldT113 : bldT Try.prog 113 = some ([(.int .u64 0), (.int .u64 0), (.int .u32 0), (.int .u8 0), (.int .u8 0), (.int .u8 0), (.int .u8 0), .nilFunc, (.pointer none), (.int .i32 0), (.int .i32 0)], [(0, 1), (1, 1), (2, 1), (3, 1), (4, 1), (5, 1), (6, 1), (7, 1), (8, 1), (9, 1), (10, 1)]) := by kernel_rfl
theorem tyc114 : tyc Try.prog 114 = some none := by kernel_rfl
theorem zmb114 : zmb Try.prog 114 = some (.cells [(.lit (.pointer none))] 1 114) := by kernel_rfl
theorem mixed : Try.prog.follows .mixedOrders = true := by kernel_rfl
end Go.Proofs.Ytbnkmhlnoaebcaa
