/-
  The seat's types, as the layer asks of them: closed facts, printed by a program of ours.
-/
import Derived.Test.YtkfodhcljknibaaLayL
import Derived.Test.YtkfodhcljknibaaProg
namespace Go.Proofs.Ytkfodhcljknibaa
open Go
theorem tyc0 : tyc Try.prog 0 = some none := by kernel_rfl
theorem tyc1 : tyc Try.prog 1 = some none := by kernel_rfl
theorem zmb1 : zmb Try.prog 1 = some (.cells [(.lit .nilFunc)] 1 1) := by kernel_rfl
theorem tyc2 : tyc Try.prog 2 = some none := by kernel_rfl
theorem zmb2 : zmb Try.prog 2 = some (.cells [(.lit (.int .i64 0))] 1 2) := by kernel_rfl
theorem tyc3 : tyc Try.prog 3 = some none := by kernel_rfl
theorem zmb3 : zmb Try.prog 3 = some (.cells [(.lit (.int .i64 0))] 1 3) := by kernel_rfl
theorem tyc4 : tyc Try.prog 4 = some none := by kernel_rfl
theorem zmb4 : zmb Try.prog 4 = some (.cells [(.lit (.bool false))] 1 4) := by kernel_rfl
theorem tyc5 : tyc Try.prog 5 = some none := by kernel_rfl
theorem zmb5 : zmb Try.prog 5 = some (.cells [(.lit (.int .u8 0))] 1 5) := by kernel_rfl
theorem tyc6 : tyc Try.prog 6 = some none := by kernel_rfl
theorem zmb6 : zmb Try.prog 6 = some (.cells [(.lit (.int .u8 0))] 1 6) := by kernel_rfl
theorem tyc7 : tyc Try.prog 7 = some (some 4) := by kernel_rfl
theorem foff7_0 : foff Try.prog 7 0 = some 0 := by kernel_rfl
theorem fpart7_0 : fpart Try.prog 7 0 = some (0, none) := by kernel_rfl
theorem foff7_1 : foff Try.prog 7 1 = some 1 := by kernel_rfl
theorem fpart7_1 : fpart Try.prog 7 1 = some (1, none) := by kernel_rfl
theorem foff7_2 : foff Try.prog 7 2 = some 2 := by kernel_rfl
theorem fpart7_2 : fpart Try.prog 7 2 = some (2, none) := by kernel_rfl
theorem foff7_3 : foff Try.prog 7 3 = some 3 := by kernel_rfl
theorem fpart7_3 : fpart Try.prog 7 3 = some (3, none) := by kernel_rfl
theorem fe7 : flatEq Try.prog 7 [1, 1, 2, 1] := flatEq_of (by kernel_rfl)
theorem zmb7 : zmb Try.prog 7 = some (.cells [(.lit (.int .i64 0)), (.lit (.int .i64 0)), (.lit (.bool false)), (.lit (.int .u8 0))] 4 7) := by kernel_rfl
theorem bldT7 : bldT Try.prog 7 = some ([(.int .i64 0), (.int .i64 0), (.bool false), (.int .u8 0)], [(0, 1), (1, 1), (2, 1), (3, 1)]) := by kernel_rfl
theorem tyc8 : tyc Try.prog 8 = some (some 4) := by kernel_rfl
theorem foff8_0 : foff Try.prog 8 0 = some 0 := by kernel_rfl
theorem fpart8_0 : fpart Try.prog 8 0 = some (0, none) := by kernel_rfl
theorem foff8_1 : foff Try.prog 8 1 = some 1 := by kernel_rfl
theorem fpart8_1 : fpart Try.prog 8 1 = some (1, none) := by kernel_rfl
theorem foff8_2 : foff Try.prog 8 2 = some 2 := by kernel_rfl
theorem fpart8_2 : fpart Try.prog 8 2 = some (2, none) := by kernel_rfl
theorem foff8_3 : foff Try.prog 8 3 = some 3 := by kernel_rfl
theorem fpart8_3 : fpart Try.prog 8 3 = some (3, none) := by kernel_rfl
theorem fe8 : flatEq Try.prog 8 [1, 1, 2, 1] := flatEq_of (by kernel_rfl)
theorem zmb8 : zmb Try.prog 8 = some (.cells [(.lit (.int .i64 0)), (.lit (.int .i64 0)), (.lit (.bool false)), (.lit (.int .u8 0))] 4 8) := by kernel_rfl
theorem bldT8 : bldT Try.prog 8 = some ([(.int .i64 0), (.int .i64 0), (.bool false), (.int .u8 0)], [(0, 1), (1, 1), (2, 1), (3, 1)]) := by kernel_rfl
theorem tyc9 : tyc Try.prog 9 = some none := by kernel_rfl
theorem zmb9 : zmb Try.prog 9 = some (.cells [(.lit (.string ⟨#[]⟩))] 1 9) := by kernel_rfl
theorem tyc10 : tyc Try.prog 10 = some none := by kernel_rfl
theorem zmb10 : zmb Try.prog 10 = some (.cells [(.lit (.string ⟨#[]⟩))] 1 10) := by kernel_rfl
theorem tyc11 : tyc Try.prog 11 = some none := by kernel_rfl
theorem zmb11 : zmb Try.prog 11 = some (.cells [(.lit (.string ⟨#[]⟩))] 1 11) := by kernel_rfl
theorem tyc12 : tyc Try.prog 12 = some none := by kernel_rfl
theorem zmb12 : zmb Try.prog 12 = some (.cells [(.lit (.int .u64 0))] 1 12) := by kernel_rfl
theorem tyc13 : tyc Try.prog 13 = some (some 2) := by kernel_rfl
theorem foff13_0 : foff Try.prog 13 0 = some 0 := by kernel_rfl
theorem fpart13_0 : fpart Try.prog 13 0 = some (0, none) := by kernel_rfl
theorem foff13_1 : foff Try.prog 13 1 = some 1 := by kernel_rfl
theorem fpart13_1 : fpart Try.prog 13 1 = some (1, none) := by kernel_rfl
theorem zmb13 : zmb Try.prog 13 = some (.cells [(.lit (.string ⟨#[]⟩)), (.lit (.int .u64 0))] 2 13) := by kernel_rfl
theorem bldT13 : bldT Try.prog 13 = some ([(.string ⟨#[]⟩), (.int .u64 0)], [(0, 1), (1, 1)]) := by kernel_rfl
theorem tyc14 : tyc Try.prog 14 = some (some 2) := by kernel_rfl
theorem foff14_0 : foff Try.prog 14 0 = some 0 := by kernel_rfl
theorem fpart14_0 : fpart Try.prog 14 0 = some (0, none) := by kernel_rfl
theorem foff14_1 : foff Try.prog 14 1 = some 1 := by kernel_rfl
theorem fpart14_1 : fpart Try.prog 14 1 = some (1, none) := by kernel_rfl
theorem zmb14 : zmb Try.prog 14 = some (.cells [(.lit (.string ⟨#[]⟩)), (.lit (.int .u64 0))] 2 14) := by kernel_rfl
theorem bldT14 : bldT Try.prog 14 = some ([(.string ⟨#[]⟩), (.int .u64 0)], [(0, 1), (1, 1)]) := by kernel_rfl
theorem tyc15 : tyc Try.prog 15 = some none := by kernel_rfl
theorem zmb15 : zmb Try.prog 15 = some (.cells [(.lit (.pointer none))] 1 15) := by kernel_rfl
theorem tyc16 : tyc Try.prog 16 = some none := by kernel_rfl
theorem zmb16 : zmb Try.prog 16 = some (.cells [(.lit (.pointer none))] 1 16) := by kernel_rfl
theorem tyc17 : tyc Try.prog 17 = some none := by kernel_rfl
theorem zmb17 : zmb Try.prog 17 = some (.cells [(.lit (.pointer none))] 1 17) := by kernel_rfl
theorem tyc18 : tyc Try.prog 18 = some (some 1) := by kernel_rfl
theorem foff18_0 : foff Try.prog 18 0 = some 0 := by kernel_rfl
theorem fpart18_0 : fpart Try.prog 18 0 = some (0, none) := by kernel_rfl
theorem zmb18 : zmb Try.prog 18 = some (.cells [(.lit (.pointer none))] 1 18) := by kernel_rfl
theorem bldT18 : bldT Try.prog 18 = some ([(.pointer none)], [(0, 1)]) := by kernel_rfl
theorem tyc19 : tyc Try.prog 19 = some (some 1) := by kernel_rfl
theorem foff19_0 : foff Try.prog 19 0 = some 0 := by kernel_rfl
theorem fpart19_0 : fpart Try.prog 19 0 = some (0, none) := by kernel_rfl
theorem zmb19 : zmb Try.prog 19 = some (.cells [(.lit (.pointer none))] 1 19) := by kernel_rfl
theorem bldT19 : bldT Try.prog 19 = some ([(.pointer none)], [(0, 1)]) := by kernel_rfl
theorem tyc20 : tyc Try.prog 20 = some none := by kernel_rfl
theorem zmb20 : zmb Try.prog 20 = some (.cells [(.lit .nilIface)] 1 20) := by kernel_rfl
theorem tyc21 : tyc Try.prog 21 = some none := by kernel_rfl
theorem zmb21 : zmb Try.prog 21 = some (.cells [(.lit (.int .i32 0))] 1 21) := by kernel_rfl
theorem tyc22 : tyc Try.prog 22 = some none := by kernel_rfl
theorem elt22 : elt Try.prog 22 = some (none, 1) := by kernel_rfl
theorem mkz22 : mkz Try.prog 22 = some (5, 1, .u8) := by kernel_rfl
theorem apT22 : apT Try.prog 22 = some (5, 1, 1) := by kernel_rfl
theorem elk22 : elk Try.prog 22 = (some .u8) := by kernel_rfl
theorem zmb22 : zmb Try.prog 22 = some (.cells [(.lit (.slice none 0 0))] 1 22) := by kernel_rfl
theorem tyc23 : tyc Try.prog 23 = some none := by kernel_rfl
theorem zmb23 : zmb Try.prog 23 = some (.cells [(.lit .nilFunc)] 1 23) := by kernel_rfl
theorem tyc24 : tyc Try.prog 24 = some none := by kernel_rfl
theorem zmb24 : zmb Try.prog 24 = some (.cells [(.lit (.int .u64 0))] 1 24) := by kernel_rfl
theorem tyc25 : tyc Try.prog 25 = some none := by kernel_rfl
theorem zmb25 : zmb Try.prog 25 = some (.cells [(.lit (.int .u32 0))] 1 25) := by kernel_rfl
theorem tyc26 : tyc Try.prog 26 = some none := by kernel_rfl
theorem zmb26 : zmb Try.prog 26 = some (.cells [(.lit .nilFunc)] 1 26) := by kernel_rfl
theorem tyc27 : tyc Try.prog 27 = some none := by kernel_rfl
theorem zmb27 : zmb Try.prog 27 = some (.cells [(.lit .nilFunc)] 1 27) := by kernel_rfl
theorem tyc28 : tyc Try.prog 28 = some none := by kernel_rfl
theorem zmb28 : zmb Try.prog 28 = some (.cells [(.lit .nilFunc)] 1 28) := by kernel_rfl
theorem tyc29 : tyc Try.prog 29 = some none := by kernel_rfl
theorem zmb29 : zmb Try.prog 29 = some (.cells [(.lit .nilFunc)] 1 29) := by kernel_rfl
theorem tyc30 : tyc Try.prog 30 = some none := by kernel_rfl
theorem zmb30 : zmb Try.prog 30 = some (.cells [(.lit (.int .i64 0))] 1 30) := by kernel_rfl
theorem tyc31 : tyc Try.prog 31 = some none := by kernel_rfl
theorem tyc32 : tyc Try.prog 32 = some none := by kernel_rfl
theorem zmb32 : zmb Try.prog 32 = some (.cells [(.lit .nilFunc)] 1 32) := by kernel_rfl
theorem tyc33 : tyc Try.prog 33 = some none := by kernel_rfl
theorem elt33 : elt Try.prog 33 = some (none, 1) := by kernel_rfl
theorem mkz33 : mkz Try.prog 33 = none := by kernel_rfl
theorem mkc33 : mkc Try.prog 33 = some (22, 1, 24, [(.lit (.slice none 0 0))]) := by kernel_rfl
theorem apT33 : apT Try.prog 33 = some (22, 1, 24) := by kernel_rfl
theorem elk33 : elk Try.prog 33 = none := by kernel_rfl
theorem zmb33 : zmb Try.prog 33 = some (.cells [(.lit (.slice none 0 0))] 1 33) := by kernel_rfl
theorem tyc34 : tyc Try.prog 34 = some none := by kernel_rfl
theorem tyc35 : tyc Try.prog 35 = some none := by kernel_rfl
theorem zmb35 : zmb Try.prog 35 = some (.cells [(.lit .nilFunc)] 1 35) := by kernel_rfl
theorem tyc36 : tyc Try.prog 36 = some none := by kernel_rfl
theorem zmb36 : zmb Try.prog 36 = some (.cells [(.lit .nilFunc)] 1 36) := by kernel_rfl
theorem tyc37 : tyc Try.prog 37 = some none := by kernel_rfl
theorem tyc38 : tyc Try.prog 38 = some none := by kernel_rfl
theorem zmb38 : zmb Try.prog 38 = some (.cells [(.lit .nilFunc)] 1 38) := by kernel_rfl
theorem tyc39 : tyc Try.prog 39 = some none := by kernel_rfl
theorem zmb39 : zmb Try.prog 39 = some (.cells [(.lit .nilFunc)] 1 39) := by kernel_rfl
theorem tyc40 : tyc Try.prog 40 = some none := by kernel_rfl
theorem zmb40 : zmb Try.prog 40 = some (.cells [(.lit .nilFunc)] 1 40) := by kernel_rfl
theorem tyc41 : tyc Try.prog 41 = some (some 16) := by kernel_rfl
theorem elt41 : elt Try.prog 41 = some ((some 16), 1) := by kernel_rfl
theorem arr141 : arr1 Try.prog 41 = some 16 := by kernel_rfl
theorem zmb41 : zmb Try.prog 41 = some (.zs .u32 [0, 0, 0, 0, 0, 0, 0, 0, 0, 0, 0, 0, 0, 0, 0, 0] 16 41) := by kernel_rfl
theorem bldT41 : bldT Try.prog 41 = some ([(.int .u32 0), (.int .u32 0), (.int .u32 0), (.int .u32 0), (.int .u32 0), (.int .u32 0), (.int .u32 0), (.int .u32 0), (.int .u32 0), (.int .u32 0), (.int .u32 0), (.int .u32 0), (.int .u32 0), (.int .u32 0), (.int .u32 0), (.int .u32 0)], [(0, 1), (1, 1), (2, 1), (3, 1), (4, 1), (5, 1), (6, 1), (7, 1), (8, 1), (9, 1), (10, 1), (11, 1), (12, 1), (13, 1), (14, 1), (15, 1)]) := by kernel_rfl
theorem tyc42 : tyc Try.prog 42 = some none := by kernel_rfl
theorem zmb42 : zmb Try.prog 42 = some (.cells [(.lit .nilFunc)] 1 42) := by kernel_rfl
theorem tyc43 : tyc Try.prog 43 = some none := by kernel_rfl
theorem zmb43 : zmb Try.prog 43 = some (.cells [(.lit .nilFunc)] 1 43) := by kernel_rfl
theorem tyc44 : tyc Try.prog 44 = some none := by kernel_rfl
theorem zmb44 : zmb Try.prog 44 = some (.cells [(.lit (.int .u64 0))] 1 44) := by kernel_rfl
theorem tyc45 : tyc Try.prog 45 = some none := by kernel_rfl
theorem zmb45 : zmb Try.prog 45 = some (.cells [(.lit .nilFunc)] 1 45) := by kernel_rfl
theorem tyc46 : tyc Try.prog 46 = some none := by kernel_rfl
theorem zmb46 : zmb Try.prog 46 = some (.cells [(.lit .nilFunc)] 1 46) := by kernel_rfl
theorem tyc47 : tyc Try.prog 47 = some (some 4) := by kernel_rfl
theorem foff47_0 : foff Try.prog 47 0 = some 0 := by kernel_rfl
theorem fpart47_0 : fpart Try.prog 47 0 = some (0, none) := by kernel_rfl
theorem foff47_1 : foff Try.prog 47 1 = some 1 := by kernel_rfl
theorem fpart47_1 : fpart Try.prog 47 1 = some (1, none) := by kernel_rfl
theorem foff47_2 : foff Try.prog 47 2 = some 2 := by kernel_rfl
theorem fpart47_2 : fpart Try.prog 47 2 = some (2, none) := by kernel_rfl
theorem foff47_3 : foff Try.prog 47 3 = some 3 := by kernel_rfl
theorem fpart47_3 : fpart Try.prog 47 3 = some (3, none) := by kernel_rfl
theorem zmb47 : zmb Try.prog 47 = some (.cells [(.lit (.pointer none)), (.lit (.pointer none)), (.lit (.pointer none)), (.lit (.string ⟨#[]⟩))] 4 47) := by kernel_rfl
theorem bldT47 : bldT Try.prog 47 = some ([(.pointer none), (.pointer none), (.pointer none), (.string ⟨#[]⟩)], [(0, 1), (1, 1), (2, 1), (3, 1)]) := by kernel_rfl
theorem tyc48 : tyc Try.prog 48 = some (some 4) := by kernel_rfl
theorem foff48_0 : foff Try.prog 48 0 = some 0 := by kernel_rfl
theorem fpart48_0 : fpart Try.prog 48 0 = some (0, none) := by kernel_rfl
theorem foff48_1 : foff Try.prog 48 1 = some 1 := by kernel_rfl
theorem fpart48_1 : fpart Try.prog 48 1 = some (1, none) := by kernel_rfl
theorem foff48_2 : foff Try.prog 48 2 = some 2 := by kernel_rfl
theorem fpart48_2 : fpart Try.prog 48 2 = some (2, none) := by kernel_rfl
theorem foff48_3 : foff Try.prog 48 3 = some 3 := by kernel_rfl
theorem fpart48_3 : fpart Try.prog 48 3 = some (3, none) := by kernel_rfl
theorem zmb48 : zmb Try.prog 48 = some (.cells [(.lit (.pointer none)), (.lit (.pointer none)), (.lit (.pointer none)), (.lit (.string ⟨#[]⟩))] 4 48) := by kernel_rfl
theorem bldT48 : bldT Try.prog 48 = some ([(.pointer none), (.pointer none), (.pointer none), (.string ⟨#[]⟩)], [(0, 1), (1, 1), (2, 1), (3, 1)]) := by kernel_rfl
theorem tyc49 : tyc Try.prog 49 = some (some 0) := by kernel_rfl
theorem elt49 : elt Try.prog 49 = some ((some 0), 1) := by kernel_rfl
theorem arr149 : arr1 Try.prog 49 = some 0 := by kernel_rfl
theorem zmb49 : zmb Try.prog 49 = some (.cells [] 0 49) := by kernel_rfl
theorem bldT49 : bldT Try.prog 49 = some ([], []) := by kernel_rfl
theorem tyc50 : tyc Try.prog 50 = some (some 0) := by kernel_rfl
theorem fpart50_0 : fpart Try.prog 50 0 = some (0, (some 0)) := by kernel_rfl
theorem zmb50 : zmb Try.prog 50 = some (.cells [] 0 50) := by kernel_rfl
theorem bldT50 : bldT Try.prog 50 = some ([], [(0, 0)]) := by kernel_rfl
theorem tyc51 : tyc Try.prog 51 = some (some 0) := by kernel_rfl
theorem fpart51_0 : fpart Try.prog 51 0 = some (0, (some 0)) := by kernel_rfl
theorem zmb51 : zmb Try.prog 51 = some (.cells [] 0 51) := by kernel_rfl
theorem bldT51 : bldT Try.prog 51 = some ([], [(0, 0)]) := by kernel_rfl
theorem tyc52 : tyc Try.prog 52 = some none := by kernel_rfl
theorem zmb52 : zmb Try.prog 52 = some (.cells [(.lit .nilFunc)] 1 52) := by kernel_rfl
theorem tyc53 : tyc Try.prog 53 = some none := by kernel_rfl
theorem zmb53 : zmb Try.prog 53 = some (.cells [(.lit (.int .u8 0))] 1 53) := by kernel_rfl
theorem tyc54 : tyc Try.prog 54 = some none := by kernel_rfl
theorem zmb54 : zmb Try.prog 54 = some (.cells [(.lit (.int .u8 0))] 1 54) := by kernel_rfl
theorem tyc55 : tyc Try.prog 55 = some none := by kernel_rfl
theorem zmb55 : zmb Try.prog 55 = some (.cells [(.lit .nilFunc)] 1 55) := by kernel_rfl
theorem tyc56 : tyc Try.prog 56 = some none := by kernel_rfl
theorem zmb56 : zmb Try.prog 56 = some (.cells [(.lit (.pointer none))] 1 56) := by kernel_rfl
theorem tyc57 : tyc Try.prog 57 = some none := by kernel_rfl
theorem zmb57 : zmb Try.prog 57 = some (.cells [(.lit (.int .i32 0))] 1 57) := by kernel_rfl
theorem tyc58 : tyc Try.prog 58 = some none := by kernel_rfl
theorem zmb58 : zmb Try.prog 58 = some (.cells [(.lit (.int .i32 0))] 1 58) := by kernel_rfl
theorem tyc59 : tyc Try.prog 59 = some (some 11) := by kernel_rfl
theorem foff59_0 : foff Try.prog 59 0 = some 0 := by kernel_rfl
theorem fpart59_0 : fpart Try.prog 59 0 = some (0, none) := by kernel_rfl
theorem foff59_1 : foff Try.prog 59 1 = some 1 := by kernel_rfl
theorem fpart59_1 : fpart Try.prog 59 1 = some (1, none) := by kernel_rfl
theorem foff59_2 : foff Try.prog 59 2 = some 2 := by kernel_rfl
theorem fpart59_2 : fpart Try.prog 59 2 = some (2, none) := by kernel_rfl
theorem foff59_3 : foff Try.prog 59 3 = some 3 := by kernel_rfl
theorem fpart59_3 : fpart Try.prog 59 3 = some (3, none) := by kernel_rfl
theorem foff59_4 : foff Try.prog 59 4 = some 4 := by kernel_rfl
theorem fpart59_4 : fpart Try.prog 59 4 = some (4, none) := by kernel_rfl
theorem foff59_5 : foff Try.prog 59 5 = some 5 := by kernel_rfl
theorem fpart59_5 : fpart Try.prog 59 5 = some (5, none) := by kernel_rfl
theorem foff59_6 : foff Try.prog 59 6 = some 6 := by kernel_rfl
theorem fpart59_6 : fpart Try.prog 59 6 = some (6, none) := by kernel_rfl
theorem foff59_7 : foff Try.prog 59 7 = some 7 := by kernel_rfl
theorem fpart59_7 : fpart Try.prog 59 7 = some (7, none) := by kernel_rfl
theorem foff59_8 : foff Try.prog 59 8 = some 8 := by kernel_rfl
theorem fpart59_8 : fpart Try.prog 59 8 = some (8, none) := by kernel_rfl
theorem foff59_9 : foff Try.prog 59 9 = some 9 := by kernel_rfl
theorem fpart59_9 : fpart Try.prog 59 9 = some (9, none) := by kernel_rfl
theorem foff59_10 : foff Try.prog 59 10 = some 10 := by kernel_rfl
theorem fpart59_10 : fpart Try.prog 59 10 = some (10, none) := by kernel_rfl
theorem zmb59 : zmb Try.prog 59 = some (.cells [(.lit (.int .u64 0)), (.lit (.int .u64 0)), (.lit (.int .u32 0)), (.lit (.int .u8 0)), (.lit (.int .u8 0)), (.lit (.int .u8 0)), (.lit (.int .u8 0)), (.lit .nilFunc), (.lit (.pointer none)), (.lit (.int .i32 0)), (.lit (.int .i32 0))] 11 59) := by kernel_rfl
theorem bldT59 : bldT Try.prog 59 = some ([(.int .u64 0), (.int .u64 0), (.int .u32 0), (.int .u8 0), (.int .u8 0), (.int .u8 0), (.int .u8 0), .nilFunc, (.pointer none), (.int .i32 0), (.int .i32 0)], [(0, 1), (1, 1), (2, 1), (3, 1), (4, 1), (5, 1), (6, 1), (7, 1), (8, 1), (9, 1), (10, 1)]) := by kernel_rfl
theorem tyc60 : tyc Try.prog 60 = some (some 11) := by kernel_rfl
theorem foff60_0 : foff Try.prog 60 0 = some 0 := by kernel_rfl
theorem fpart60_0 : fpart Try.prog 60 0 = some (0, none) := by kernel_rfl
theorem foff60_1 : foff Try.prog 60 1 = some 1 := by kernel_rfl
theorem fpart60_1 : fpart Try.prog 60 1 = some (1, none) := by kernel_rfl
theorem foff60_2 : foff Try.prog 60 2 = some 2 := by kernel_rfl
theorem fpart60_2 : fpart Try.prog 60 2 = some (2, none) := by kernel_rfl
theorem foff60_3 : foff Try.prog 60 3 = some 3 := by kernel_rfl
theorem fpart60_3 : fpart Try.prog 60 3 = some (3, none) := by kernel_rfl
theorem foff60_4 : foff Try.prog 60 4 = some 4 := by kernel_rfl
theorem fpart60_4 : fpart Try.prog 60 4 = some (4, none) := by kernel_rfl
theorem foff60_5 : foff Try.prog 60 5 = some 5 := by kernel_rfl
theorem fpart60_5 : fpart Try.prog 60 5 = some (5, none) := by kernel_rfl
theorem foff60_6 : foff Try.prog 60 6 = some 6 := by kernel_rfl
theorem fpart60_6 : fpart Try.prog 60 6 = some (6, none) := by kernel_rfl
theorem foff60_7 : foff Try.prog 60 7 = some 7 := by kernel_rfl
theorem fpart60_7 : fpart Try.prog 60 7 = some (7, none) := by kernel_rfl
theorem foff60_8 : foff Try.prog 60 8 = some 8 := by kernel_rfl
theorem fpart60_8 : fpart Try.prog 60 8 = some (8, none) := by kernel_rfl
theorem foff60_9 : foff Try.prog 60 9 = some 9 := by kernel_rfl
theorem fpart60_9 : fpart Try.prog 60 9 = some (9, none) := by kernel_rfl
theorem foff60_10 : foff Try.prog 60 10 = some 10 := by kernel_rfl
theorem fpart60_10 : fpart Try.prog 60 10 = some (10, none) := by kernel_rfl
theorem zmb60 : zmb Try.prog 60 = some (.cells [(.lit (.int .u64 0)), (.lit (.int .u64 0)), (.lit (.int .u32 0)), (.lit (.int .u8 0)), (.lit (.int .u8 0)), (.lit (.int .u8 0)), (.lit (.int .u8 0)), (.lit .nilFunc), (.lit (.pointer none)), (.lit (.int .i32 0)), (.lit (.int .i32 0))] 11 60) := by kernel_rfl
theorem bldT60 : bldT Try.prog 60 = some ([(.int .u64 0), (.int .u64 0), (.int .u32 0), (.int .u8 0), (.int .u8 0), (.int .u8 0), (.int .u8 0), .nilFunc, (.pointer none), (.int .i32 0), (.int .i32 0)], [(0, 1), (1, 1), (2, 1), (3, 1), (4, 1), (5, 1), (6, 1), (7, 1), (8, 1), (9, 1), (10, 1)]) := by kernel_rfl
theorem tyc61 : tyc Try.prog 61 = some none := by kernel_rfl
theorem zmb61 : zmb Try.prog 61 = some (.cells [(.lit (.pointer none))] 1 61) := by kernel_rfl
theorem mixed : Try.prog.follows .mixedOrders = true := by kernel_rfl
end Go.Proofs.Ytkfodhcljknibaa
