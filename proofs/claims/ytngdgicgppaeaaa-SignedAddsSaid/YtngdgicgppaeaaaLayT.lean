/-
  The seat's types, as the layer asks of them: closed facts, printed by a program of ours.
-/
import Derived.Test.YtngdgicgppaeaaaLayL
import Derived.Test.YtngdgicgppaeaaaProg
namespace Go.Proofs.Ytngdgicgppaeaaa
open Go
theorem tyc0 : tyc Try.prog 0 = some none := by kernel_rfl
theorem tyc1 : tyc Try.prog 1 = some none := by kernel_rfl
theorem zmb1 : zmb Try.prog 1 = some (.cells [(.lit .nilFunc)] 1 1) := by kernel_rfl
theorem tyc2 : tyc Try.prog 2 = some none := by kernel_rfl
theorem zmb2 : zmb Try.prog 2 = some (.cells [(.lit (.int .i64 0))] 1 2) := by kernel_rfl
theorem tyc3 : tyc Try.prog 3 = some none := by kernel_rfl
theorem zmb3 : zmb Try.prog 3 = some (.cells [(.lit (.int .i64 0))] 1 3) := by kernel_rfl
theorem tyc4 : tyc Try.prog 4 = some none := by kernel_rfl
theorem zmb4 : zmb Try.prog 4 = some (.cells [(.lit (.bool false))] 1 4) := by kernel_rfl
theorem tyc5 : tyc Try.prog 5 = some none := by kernel_rfl
theorem zmb5 : zmb Try.prog 5 = some (.cells [(.lit (.int .u8 0))] 1 5) := by kernel_rfl
theorem tyc6 : tyc Try.prog 6 = some none := by kernel_rfl
theorem zmb6 : zmb Try.prog 6 = some (.cells [(.lit (.int .u8 0))] 1 6) := by kernel_rfl
theorem tyc7 : tyc Try.prog 7 = some (some 4) := by kernel_rfl
theorem foff7_0 : foff Try.prog 7 0 = some 0 := by kernel_rfl
theorem fpart7_0 : fpart Try.prog 7 0 = some (0, none) := by kernel_rfl
theorem foff7_1 : foff Try.prog 7 1 = some 1 := by kernel_rfl
theorem fpart7_1 : fpart Try.prog 7 1 = some (1, none) := by kernel_rfl
theorem foff7_2 : foff Try.prog 7 2 = some 2 := by kernel_rfl
theorem fpart7_2 : fpart Try.prog 7 2 = some (2, none) := by kernel_rfl
theorem foff7_3 : foff Try.prog 7 3 = some 3 := by kernel_rfl
theorem fpart7_3 : fpart Try.prog 7 3 = some (3, none) := by kernel_rfl
theorem fe7 : flatEq Try.prog 7 [1, 1, 2, 1] := flatEq_of (by kernel_rfl)
theorem zmb7 : zmb Try.prog 7 = some (.cells [(.lit (.int .i64 0)), (.lit (.int .i64 0)), (.lit (.bool false)), (.lit (.int .u8 0))] 4 7) := by kernel_rfl
theorem bldT7 : bldT Try.prog 7 = some ([(.int .i64 0), (.int .i64 0), (.bool false), (.int .u8 0)], [(0, 1), (1, 1), (2, 1), (3, 1)]) := by kernel_rfl
theorem tyc8 : tyc Try.prog 8 = some (some 4) := by kernel_rfl
theorem foff8_0 : foff Try.prog 8 0 = some 0 := by kernel_rfl
theorem fpart8_0 : fpart Try.prog 8 0 = some (0, none) := by kernel_rfl
theorem foff8_1 : foff Try.prog 8 1 = some 1 := by kernel_rfl
theorem fpart8_1 : fpart Try.prog 8 1 = some (1, none) := by kernel_rfl
theorem foff8_2 : foff Try.prog 8 2 = some 2 := by kernel_rfl
theorem fpart8_2 : fpart Try.prog 8 2 = some (2, none) := by kernel_rfl
theorem foff8_3 : foff Try.prog 8 3 = some 3 := by kernel_rfl
theorem fpart8_3 : fpart Try.prog 8 3 = some (3, none) := by kernel_rfl
theorem fe8 : flatEq Try.prog 8 [1, 1, 2, 1] := flatEq_of (by kernel_rfl)
theorem zmb8 : zmb Try.prog 8 = some (.cells [(.lit (.int .i64 0)), (.lit (.int .i64 0)), (.lit (.bool false)), (.lit (.int .u8 0))] 4 8) := by kernel_rfl
theorem bldT8 : bldT Try.prog 8 = some ([(.int .i64 0), (.int .i64 0), (.bool false), (.int .u8 0)], [(0, 1), (1, 1), (2, 1), (3, 1)]) := by kernel_rfl
theorem tyc9 : tyc Try.prog 9 = some none := by kernel_rfl
theorem zmb9 : zmb Try.prog 9 = some (.cells [(.lit (.string ⟨#[]⟩))] 1 9) := by kernel_rfl
theorem tyc10 : tyc Try.prog 10 = some none := by kernel_rfl
theorem zmb10 : zmb Try.prog 10 = some (.cells [(.lit (.string ⟨#[]⟩))] 1 10) := by kernel_rfl
theorem tyc11 : tyc Try.prog 11 = some none := by kernel_rfl
theorem zmb11 : zmb Try.prog 11 = some (.cells [(.lit (.string ⟨#[]⟩))] 1 11) := by kernel_rfl
theorem tyc12 : tyc Try.prog 12 = some none := by kernel_rfl
theorem zmb12 : zmb Try.prog 12 = some (.cells [(.lit (.int .u64 0))] 1 12) := by kernel_rfl
theorem tyc13 : tyc Try.prog 13 = some (some 2) := by kernel_rfl
theorem foff13_0 : foff Try.prog 13 0 = some 0 := by kernel_rfl
theorem fpart13_0 : fpart Try.prog 13 0 = some (0, none) := by kernel_rfl
theorem foff13_1 : foff Try.prog 13 1 = some 1 := by kernel_rfl
theorem fpart13_1 : fpart Try.prog 13 1 = some (1, none) := by kernel_rfl
theorem zmb13 : zmb Try.prog 13 = some (.cells [(.lit (.string ⟨#[]⟩)), (.lit (.int .u64 0))] 2 13) := by kernel_rfl
theorem bldT13 : bldT Try.prog 13 = some ([(.string ⟨#[]⟩), (.int .u64 0)], [(0, 1), (1, 1)]) := by kernel_rfl
theorem tyc14 : tyc Try.prog 14 = some (some 2) := by kernel_rfl
theorem foff14_0 : foff Try.prog 14 0 = some 0 := by kernel_rfl
theorem fpart14_0 : fpart Try.prog 14 0 = some (0, none) := by kernel_rfl
theorem foff14_1 : foff Try.prog 14 1 = some 1 := by kernel_rfl
theorem fpart14_1 : fpart Try.prog 14 1 = some (1, none) := by kernel_rfl
theorem zmb14 : zmb Try.prog 14 = some (.cells [(.lit (.string ⟨#[]⟩)), (.lit (.int .u64 0))] 2 14) := by kernel_rfl
theorem bldT14 : bldT Try.prog 14 = some ([(.string ⟨#[]⟩), (.int .u64 0)], [(0, 1), (1, 1)]) := by kernel_rfl
theorem tyc15 : tyc Try.prog 15 = some none := by kernel_rfl
theorem zmb15 : zmb Try.prog 15 = some (.cells [(.lit (.pointer none))] 1 15) := by kernel_rfl
theorem tyc16 : tyc Try.prog 16 = some none := by kernel_rfl
theorem zmb16 : zmb Try.prog 16 = some (.cells [(.lit (.pointer none))] 1 16) := by kernel_rfl
theorem tyc17 : tyc Try.prog 17 = some none := by kernel_rfl
theorem zmb17 : zmb Try.prog 17 = some (.cells [(.lit (.pointer none))] 1 17) := by kernel_rfl
theorem tyc18 : tyc Try.prog 18 = some (some 1) := by kernel_rfl
theorem foff18_0 : foff Try.prog 18 0 = some 0 := by kernel_rfl
theorem fpart18_0 : fpart Try.prog 18 0 = some (0, none) := by kernel_rfl
theorem zmb18 : zmb Try.prog 18 = some (.cells [(.lit (.pointer none))] 1 18) := by kernel_rfl
theorem bldT18 : bldT Try.prog 18 = some ([(.pointer none)], [(0, 1)]) := by kernel_rfl
theorem tyc19 : tyc Try.prog 19 = some (some 1) := by kernel_rfl
theorem foff19_0 : foff Try.prog 19 0 = some 0 := by kernel_rfl
theorem fpart19_0 : fpart Try.prog 19 0 = some (0, none) := by kernel_rfl
theorem zmb19 : zmb Try.prog 19 = some (.cells [(.lit (.pointer none))] 1 19) := by kernel_rfl
theorem bldT19 : bldT Try.prog 19 = some ([(.pointer none)], [(0, 1)]) := by kernel_rfl
theorem tyc20 : tyc Try.prog 20 = some none := by kernel_rfl
theorem zmb20 : zmb Try.prog 20 = some (.cells [(.lit .nilIface)] 1 20) := by kernel_rfl
theorem tyc21 : tyc Try.prog 21 = some none := by kernel_rfl
theorem zmb21 : zmb Try.prog 21 = some (.cells [(.lit (.int .i32 0))] 1 21) := by kernel_rfl
theorem tyc22 : tyc Try.prog 22 = some none := by kernel_rfl
theorem zmb22 : zmb Try.prog 22 = some (.cells [(.lit (.int .u64 0))] 1 22) := by kernel_rfl
theorem tyc23 : tyc Try.prog 23 = some (some 2) := by kernel_rfl
theorem foff23_0 : foff Try.prog 23 0 = some 0 := by kernel_rfl
theorem fpart23_0 : fpart Try.prog 23 0 = some (0, none) := by kernel_rfl
theorem foff23_1 : foff Try.prog 23 1 = some 1 := by kernel_rfl
theorem fpart23_1 : fpart Try.prog 23 1 = some (1, none) := by kernel_rfl
theorem fe23 : flatEq Try.prog 23 [1, 1] := flatEq_of (by kernel_rfl)
theorem zmb23 : zmb Try.prog 23 = some (.cells [(.lit (.int .u64 0)), (.lit (.int .u64 0))] 2 23) := by kernel_rfl
theorem bldT23 : bldT Try.prog 23 = some ([(.int .u64 0), (.int .u64 0)], [(0, 1), (1, 1)]) := by kernel_rfl
theorem tyc24 : tyc Try.prog 24 = some (some 2) := by kernel_rfl
theorem foff24_0 : foff Try.prog 24 0 = some 0 := by kernel_rfl
theorem fpart24_0 : fpart Try.prog 24 0 = some (0, none) := by kernel_rfl
theorem foff24_1 : foff Try.prog 24 1 = some 1 := by kernel_rfl
theorem fpart24_1 : fpart Try.prog 24 1 = some (1, none) := by kernel_rfl
theorem fe24 : flatEq Try.prog 24 [1, 1] := flatEq_of (by kernel_rfl)
theorem zmb24 : zmb Try.prog 24 = some (.cells [(.lit (.int .u64 0)), (.lit (.int .u64 0))] 2 24) := by kernel_rfl
theorem bldT24 : bldT Try.prog 24 = some ([(.int .u64 0), (.int .u64 0)], [(0, 1), (1, 1)]) := by kernel_rfl
theorem tyc25 : tyc Try.prog 25 = some (some 3) := by kernel_rfl
theorem foff25_0 : foff Try.prog 25 0 = some 0 := by kernel_rfl
theorem fpart25_0 : fpart Try.prog 25 0 = some (0, none) := by kernel_rfl
theorem foff25_1 : foff Try.prog 25 1 = some 1 := by kernel_rfl
theorem fpart25_1 : fpart Try.prog 25 1 = some (1, (some 2)) := by kernel_rfl
theorem zmb25 : zmb Try.prog 25 = some (.cells [(.lit (.bool false)), (.lit (.int .u64 0)), (.lit (.int .u64 0))] 3 25) := by kernel_rfl
theorem bldT25 : bldT Try.prog 25 = some ([(.bool false), (.int .u64 0), (.int .u64 0)], [(0, 1), (1, 2)]) := by kernel_rfl
theorem tyc26 : tyc Try.prog 26 = some (some 3) := by kernel_rfl
theorem foff26_0 : foff Try.prog 26 0 = some 0 := by kernel_rfl
theorem fpart26_0 : fpart Try.prog 26 0 = some (0, none) := by kernel_rfl
theorem foff26_1 : foff Try.prog 26 1 = some 1 := by kernel_rfl
theorem fpart26_1 : fpart Try.prog 26 1 = some (1, (some 2)) := by kernel_rfl
theorem zmb26 : zmb Try.prog 26 = some (.cells [(.lit (.bool false)), (.lit (.int .u64 0)), (.lit (.int .u64 0))] 3 26) := by kernel_rfl
theorem bldT26 : bldT Try.prog 26 = some ([(.bool false), (.int .u64 0), (.int .u64 0)], [(0, 1), (1, 2)]) := by kernel_rfl
theorem tyc27 : tyc Try.prog 27 = some none := by kernel_rfl
theorem zmb27 : zmb Try.prog 27 = some (.cells [(.lit .nilFunc)] 1 27) := by kernel_rfl
theorem tyc28 : tyc Try.prog 28 = some none := by kernel_rfl
theorem zmb28 : zmb Try.prog 28 = some (.cells [(.lit .nilFunc)] 1 28) := by kernel_rfl
theorem tyc29 : tyc Try.prog 29 = some none := by kernel_rfl
theorem zmb29 : zmb Try.prog 29 = some (.cells [(.lit (.int .i64 0))] 1 29) := by kernel_rfl
theorem tyc30 : tyc Try.prog 30 = some none := by kernel_rfl
theorem tyc31 : tyc Try.prog 31 = some none := by kernel_rfl
theorem zmb31 : zmb Try.prog 31 = some (.cells [(.lit .nilFunc)] 1 31) := by kernel_rfl
theorem tyc32 : tyc Try.prog 32 = some none := by kernel_rfl
theorem zmb32 : zmb Try.prog 32 = some (.cells [(.lit .nilFunc)] 1 32) := by kernel_rfl
theorem tyc33 : tyc Try.prog 33 = some none := by kernel_rfl
theorem zmb33 : zmb Try.prog 33 = some (.cells [(.lit .nilFunc)] 1 33) := by kernel_rfl
theorem tyc34 : tyc Try.prog 34 = some none := by kernel_rfl
theorem zmb34 : zmb Try.prog 34 = some (.cells [(.lit .nilFunc)] 1 34) := by kernel_rfl
theorem tyc35 : tyc Try.prog 35 = some none := by kernel_rfl
theorem tyc36 : tyc Try.prog 36 = some none := by kernel_rfl
theorem zmb36 : zmb Try.prog 36 = some (.cells [(.lit .nilFunc)] 1 36) := by kernel_rfl
theorem tyc37 : tyc Try.prog 37 = some none := by kernel_rfl
theorem elt37 : elt Try.prog 37 = some (none, 1) := by kernel_rfl
theorem mkz37 : mkz Try.prog 37 = none := by kernel_rfl
theorem mkc37 : mkc Try.prog 37 = some (4, 1, 1, [(.lit (.bool false))]) := by kernel_rfl
theorem apT37 : apT Try.prog 37 = some (4, 1, 1) := by kernel_rfl
theorem elk37 : elk Try.prog 37 = none := by kernel_rfl
theorem zmb37 : zmb Try.prog 37 = some (.cells [(.lit (.slice none 0 0))] 1 37) := by kernel_rfl
theorem tyc38 : tyc Try.prog 38 = some none := by kernel_rfl
theorem zmb38 : zmb Try.prog 38 = some (.cells [(.lit .nilFunc)] 1 38) := by kernel_rfl
theorem tyc39 : tyc Try.prog 39 = some (some 2) := by kernel_rfl
theorem foff39_0 : foff Try.prog 39 0 = some 0 := by kernel_rfl
theorem fpart39_0 : fpart Try.prog 39 0 = some (0, none) := by kernel_rfl
theorem foff39_1 : foff Try.prog 39 1 = some 1 := by kernel_rfl
theorem fpart39_1 : fpart Try.prog 39 1 = some (1, none) := by kernel_rfl
theorem zmb39 : zmb Try.prog 39 = some (.cells [(.lit (.slice none 0 0)), (.lit (.slice none 0 0))] 2 39) := by kernel_rfl
theorem bldT39 : bldT Try.prog 39 = some ([(.slice none 0 0), (.slice none 0 0)], [(0, 1), (1, 1)]) := by kernel_rfl
theorem tyc40 : tyc Try.prog 40 = some (some 2) := by kernel_rfl
theorem foff40_0 : foff Try.prog 40 0 = some 0 := by kernel_rfl
theorem fpart40_0 : fpart Try.prog 40 0 = some (0, none) := by kernel_rfl
theorem foff40_1 : foff Try.prog 40 1 = some 1 := by kernel_rfl
theorem fpart40_1 : fpart Try.prog 40 1 = some (1, none) := by kernel_rfl
theorem zmb40 : zmb Try.prog 40 = some (.cells [(.lit (.slice none 0 0)), (.lit (.slice none 0 0))] 2 40) := by kernel_rfl
theorem bldT40 : bldT Try.prog 40 = some ([(.slice none 0 0), (.slice none 0 0)], [(0, 1), (1, 1)]) := by kernel_rfl
theorem tyc41 : tyc Try.prog 41 = some none := by kernel_rfl
theorem zmb41 : zmb Try.prog 41 = some (.cells [(.lit .nilFunc)] 1 41) := by kernel_rfl
theorem tyc42 : tyc Try.prog 42 = some none := by kernel_rfl
theorem tyc43 : tyc Try.prog 43 = some none := by kernel_rfl
theorem zmb43 : zmb Try.prog 43 = some (.cells [(.lit .nilFunc)] 1 43) := by kernel_rfl
theorem tyc44 : tyc Try.prog 44 = some none := by kernel_rfl
theorem zmb44 : zmb Try.prog 44 = some (.cells [(.lit .nilFunc)] 1 44) := by kernel_rfl
theorem tyc45 : tyc Try.prog 45 = some none := by kernel_rfl
theorem zmb45 : zmb Try.prog 45 = some (.cells [(.lit .nilFunc)] 1 45) := by kernel_rfl
theorem tyc46 : tyc Try.prog 46 = some none := by kernel_rfl
theorem zmb46 : zmb Try.prog 46 = some (.cells [(.lit .nilFunc)] 1 46) := by kernel_rfl
theorem tyc47 : tyc Try.prog 47 = some none := by kernel_rfl
theorem zmb47 : zmb Try.prog 47 = some (.cells [(.lit .nilFunc)] 1 47) := by kernel_rfl
theorem tyc48 : tyc Try.prog 48 = some none := by kernel_rfl
theorem zmb48 : zmb Try.prog 48 = some (.cells [(.lit .nilFunc)] 1 48) := by kernel_rfl
theorem tyc49 : tyc Try.prog 49 = some none := by kernel_rfl
theorem zmb49 : zmb Try.prog 49 = some (.cells [(.lit .nilFunc)] 1 49) := by kernel_rfl
theorem tyc50 : tyc Try.prog 50 = some none := by kernel_rfl
theorem zmb50 : zmb Try.prog 50 = some (.cells [(.lit .nilFunc)] 1 50) := by kernel_rfl
theorem tyc51 : tyc Try.prog 51 = some none := by kernel_rfl
theorem zmb51 : zmb Try.prog 51 = some (.cells [(.lit .nilFunc)] 1 51) := by kernel_rfl
theorem tyc52 : tyc Try.prog 52 = some none := by kernel_rfl
theorem zmb52 : zmb Try.prog 52 = some (.cells [(.lit .nilFunc)] 1 52) := by kernel_rfl
theorem tyc53 : tyc Try.prog 53 = some none := by kernel_rfl
theorem zmb53 : zmb Try.prog 53 = some (.cells [(.lit .nilFunc)] 1 53) := by kernel_rfl
theorem tyc54 : tyc Try.prog 54 = some none := by kernel_rfl
theorem tyc55 : tyc Try.prog 55 = some none := by kernel_rfl
theorem zmb55 : zmb Try.prog 55 = some (.cells [(.lit .nilFunc)] 1 55) := by kernel_rfl
theorem tyc56 : tyc Try.prog 56 = some none := by kernel_rfl
theorem zmb56 : zmb Try.prog 56 = some (.cells [(.lit .nilFunc)] 1 56) := by kernel_rfl
theorem tyc57 : tyc Try.prog 57 = some none := by kernel_rfl
theorem tyc58 : tyc Try.prog 58 = some none := by kernel_rfl
theorem zmb58 : zmb Try.prog 58 = some (.cells [(.lit .nilFunc)] 1 58) := by kernel_rfl
theorem tyc59 : tyc Try.prog 59 = some none := by kernel_rfl
theorem zmb59 : zmb Try.prog 59 = some (.cells [(.lit .nilFunc)] 1 59) := by kernel_rfl
theorem tyc60 : tyc Try.prog 60 = some none := by kernel_rfl
theorem zmb60 : zmb Try.prog 60 = some (.cells [(.lit .nilFunc)] 1 60) := by kernel_rfl
theorem tyc61 : tyc Try.prog 61 = some none := by kernel_rfl
theorem zmb61 : zmb Try.prog 61 = some (.cells [(.lit (.int .u64 0))] 1 61) := by kernel_rfl
theorem tyc62 : tyc Try.prog 62 = some none := by kernel_rfl
theorem zmb62 : zmb Try.prog 62 = some (.cells [(.lit .nilFunc)] 1 62) := by kernel_rfl
theorem tyc63 : tyc Try.prog 63 = some none := by kernel_rfl
theorem zmb63 : zmb Try.prog 63 = some (.cells [(.lit .nilFunc)] 1 63) := by kernel_rfl
theorem tyc64 : tyc Try.prog 64 = some none := by kernel_rfl
theorem tyc65 : tyc Try.prog 65 = some none := by kernel_rfl
theorem zmb65 : zmb Try.prog 65 = some (.cells [(.lit .nilFunc)] 1 65) := by kernel_rfl
theorem tyc66 : tyc Try.prog 66 = some none := by kernel_rfl
theorem zmb66 : zmb Try.prog 66 = some (.cells [(.lit .nilFunc)] 1 66) := by kernel_rfl
theorem tyc67 : tyc Try.prog 67 = some none := by kernel_rfl
theorem zmb67 : zmb Try.prog 67 = some (.cells [(.lit .nilFunc)] 1 67) := by kernel_rfl
theorem tyc68 : tyc Try.prog 68 = some none := by kernel_rfl
theorem tyc69 : tyc Try.prog 69 = some none := by kernel_rfl
theorem zmb69 : zmb Try.prog 69 = some (.cells [(.lit .nilFunc)] 1 69) := by kernel_rfl
theorem tyc70 : tyc Try.prog 70 = some none := by kernel_rfl
theorem zmb70 : zmb Try.prog 70 = some (.cells [(.lit .nilFunc)] 1 70) := by kernel_rfl
theorem tyc71 : tyc Try.prog 71 = some none := by kernel_rfl
theorem zmb71 : zmb Try.prog 71 = some (.cells [(.lit .nilFunc)] 1 71) := by kernel_rfl
theorem tyc72 : tyc Try.prog 72 = some none := by kernel_rfl
theorem zmb72 : zmb Try.prog 72 = some (.cells [(.lit .nilFunc)] 1 72) := by kernel_rfl
theorem tyc73 : tyc Try.prog 73 = some (some 39) := by kernel_rfl
theorem elt73 : elt Try.prog 73 = some ((some 39), 1) := by kernel_rfl
theorem arr173 : arr1 Try.prog 73 = some 39 := by kernel_rfl
theorem zmb73 : zmb Try.prog 73 = some (.zs .u8 [0, 0, 0, 0, 0, 0, 0, 0, 0, 0, 0, 0, 0, 0, 0, 0, 0, 0, 0, 0, 0, 0, 0, 0, 0, 0, 0, 0, 0, 0, 0, 0, 0, 0, 0, 0, 0, 0, 0] 39 73) := by kernel_rfl
theorem bldT73 : bldT Try.prog 73 = some ([(.int .u8 0), (.int .u8 0), (.int .u8 0), (.int .u8 0), (.int .u8 0), (.int .u8 0), (.int .u8 0), (.int .u8 0), (.int .u8 0), (.int .u8 0), (.int .u8 0), (.int .u8 0), (.int .u8 0), (.int .u8 0), (.int .u8 0), (.int .u8 0), (.int .u8 0), (.int .u8 0), (.int .u8 0), (.int .u8 0), (.int .u8 0), (.int .u8 0), (.int .u8 0), (.int .u8 0), (.int .u8 0), (.int .u8 0), (.int .u8 0), (.int .u8 0), (.int .u8 0), (.int .u8 0), (.int .u8 0), (.int .u8 0), (.int .u8 0), (.int .u8 0), (.int .u8 0), (.int .u8 0), (.int .u8 0), (.int .u8 0), (.int .u8 0)], [(0, 1), (1, 1), (2, 1), (3, 1), (4, 1), (5, 1), (6, 1), (7, 1), (8, 1), (9, 1), (10, 1), (11, 1), (12, 1), (13, 1), (14, 1), (15, 1), (16, 1), (17, 1), (18, 1), (19, 1), (20, 1), (21, 1), (22, 1), (23, 1), (24, 1), (25, 1), (26, 1), (27, 1), (28, 1), (29, 1), (30, 1), (31, 1), (32, 1), (33, 1), (34, 1), (35, 1), (36, 1), (37, 1), (38, 1)]) := by kernel_rfl
theorem tyc74 : tyc Try.prog 74 = some none := by kernel_rfl
theorem tyc75 : tyc Try.prog 75 = some none := by kernel_rfl
theorem zmb75 : zmb Try.prog 75 = some (.cells [(.lit .nilFunc)] 1 75) := by kernel_rfl
theorem tyc76 : tyc Try.prog 76 = some none := by kernel_rfl
theorem elt76 : elt Try.prog 76 = some (none, 1) := by kernel_rfl
theorem mkz76 : mkz Try.prog 76 = some (5, 1, .u8) := by kernel_rfl
theorem apT76 : apT Try.prog 76 = some (5, 1, 1) := by kernel_rfl
theorem elk76 : elk Try.prog 76 = (some .u8) := by kernel_rfl
theorem zmb76 : zmb Try.prog 76 = some (.cells [(.lit (.slice none 0 0))] 1 76) := by kernel_rfl
theorem tyc77 : tyc Try.prog 77 = some none := by kernel_rfl
theorem zmb77 : zmb Try.prog 77 = some (.cells [(.lit .nilFunc)] 1 77) := by kernel_rfl
theorem tyc78 : tyc Try.prog 78 = some none := by kernel_rfl
theorem zmb78 : zmb Try.prog 78 = some (.cells [(.lit .nilFunc)] 1 78) := by kernel_rfl
theorem tyc79 : tyc Try.prog 79 = some none := by kernel_rfl
theorem tyc80 : tyc Try.prog 80 = some none := by kernel_rfl
theorem zmb80 : zmb Try.prog 80 = some (.cells [(.lit .nilFunc)] 1 80) := by kernel_rfl
theorem tyc81 : tyc Try.prog 81 = some none := by kernel_rfl
theorem elt81 : elt Try.prog 81 = some (none, 1) := by kernel_rfl
theorem mkz81 : mkz Try.prog 81 = some (3, 8, .i64) := by kernel_rfl
theorem apT81 : apT Try.prog 81 = some (3, 1, 8) := by kernel_rfl
theorem elk81 : elk Try.prog 81 = (some .i64) := by kernel_rfl
theorem zmb81 : zmb Try.prog 81 = some (.cells [(.lit (.slice none 0 0))] 1 81) := by kernel_rfl
theorem tyc82 : tyc Try.prog 82 = some none := by kernel_rfl
theorem zmb82 : zmb Try.prog 82 = some (.cells [(.lit .nilFunc)] 1 82) := by kernel_rfl
theorem tyc83 : tyc Try.prog 83 = some none := by kernel_rfl
theorem zmb83 : zmb Try.prog 83 = some (.cells [(.lit .nilFunc)] 1 83) := by kernel_rfl
theorem tyc84 : tyc Try.prog 84 = some none := by kernel_rfl
theorem zmb84 : zmb Try.prog 84 = some (.cells [(.lit .nilFunc)] 1 84) := by kernel_rfl
theorem tyc85 : tyc Try.prog 85 = some none := by kernel_rfl
theorem zmb85 : zmb Try.prog 85 = some (.cells [(.lit .nilIface)] 1 85) := by kernel_rfl
theorem tyc86 : tyc Try.prog 86 = some none := by kernel_rfl
theorem zmb86 : zmb Try.prog 86 = some (.cells [(.lit .nilIface)] 1 86) := by kernel_rfl
theorem tyc87 : tyc Try.prog 87 = some none := by kernel_rfl
theorem zmb87 : zmb Try.prog 87 = some (.cells [(.lit .nilFunc)] 1 87) := by kernel_rfl
theorem tyc88 : tyc Try.prog 88 = some none := by kernel_rfl
theorem zmb88 : zmb Try.prog 88 = some (.cells [(.lit .nilFunc)] 1 88) := by kernel_rfl
theorem tyc89 : tyc Try.prog 89 = some none := by kernel_rfl
theorem zmb89 : zmb Try.prog 89 = some (.cells [(.lit (.pointer none))] 1 89) := by kernel_rfl
theorem tyc90 : tyc Try.prog 90 = some none := by kernel_rfl
theorem zmb90 : zmb Try.prog 90 = some (.cells [(.lit .nilFunc)] 1 90) := by kernel_rfl
theorem tyc91 : tyc Try.prog 91 = some (some 4) := by kernel_rfl
theorem foff91_0 : foff Try.prog 91 0 = some 0 := by kernel_rfl
theorem fpart91_0 : fpart Try.prog 91 0 = some (0, none) := by kernel_rfl
theorem foff91_1 : foff Try.prog 91 1 = some 1 := by kernel_rfl
theorem fpart91_1 : fpart Try.prog 91 1 = some (1, none) := by kernel_rfl
theorem foff91_2 : foff Try.prog 91 2 = some 2 := by kernel_rfl
theorem fpart91_2 : fpart Try.prog 91 2 = some (2, none) := by kernel_rfl
theorem foff91_3 : foff Try.prog 91 3 = some 3 := by kernel_rfl
theorem fpart91_3 : fpart Try.prog 91 3 = some (3, none) := by kernel_rfl
theorem zmb91 : zmb Try.prog 91 = some (.cells [(.lit (.pointer none)), (.lit (.pointer none)), (.lit (.pointer none)), (.lit (.string ⟨#[]⟩))] 4 91) := by kernel_rfl
theorem bldT91 : bldT Try.prog 91 = some ([(.pointer none), (.pointer none), (.pointer none), (.string ⟨#[]⟩)], [(0, 1), (1, 1), (2, 1), (3, 1)]) := by kernel_rfl
theorem tyc92 : tyc Try.prog 92 = some (some 4) := by kernel_rfl
theorem foff92_0 : foff Try.prog 92 0 = some 0 := by kernel_rfl
theorem fpart92_0 : fpart Try.prog 92 0 = some (0, none) := by kernel_rfl
theorem foff92_1 : foff Try.prog 92 1 = some 1 := by kernel_rfl
theorem fpart92_1 : fpart Try.prog 92 1 = some (1, none) := by kernel_rfl
theorem foff92_2 : foff Try.prog 92 2 = some 2 := by kernel_rfl
theorem fpart92_2 : fpart Try.prog 92 2 = some (2, none) := by kernel_rfl
theorem foff92_3 : foff Try.prog 92 3 = some 3 := by kernel_rfl
theorem fpart92_3 : fpart Try.prog 92 3 = some (3, none) := by kernel_rfl
theorem zmb92 : zmb Try.prog 92 = some (.cells [(.lit (.pointer none)), (.lit (.pointer none)), (.lit (.pointer none)), (.lit (.string ⟨#[]⟩))] 4 92) := by kernel_rfl
theorem bldT92 : bldT Try.prog 92 = some ([(.pointer none), (.pointer none), (.pointer none), (.string ⟨#[]⟩)], [(0, 1), (1, 1), (2, 1), (3, 1)]) := by kernel_rfl
theorem tyc93 : tyc Try.prog 93 = some (some 0) := by kernel_rfl
theorem elt93 : elt Try.prog 93 = some ((some 0), 1) := by kernel_rfl
theorem arr193 : arr1 Try.prog 93 = some 0 := by kernel_rfl
theorem zmb93 : zmb Try.prog 93 = some (.cells [] 0 93) := by kernel_rfl
theorem bldT93 : bldT Try.prog 93 = some ([], []) := by kernel_rfl
theorem tyc94 : tyc Try.prog 94 = some (some 0) := by kernel_rfl
theorem fpart94_0 : fpart Try.prog 94 0 = some (0, (some 0)) := by kernel_rfl
theorem zmb94 : zmb Try.prog 94 = some (.cells [] 0 94) := by kernel_rfl
theorem bldT94 : bldT Try.prog 94 = some ([], [(0, 0)]) := by kernel_rfl
theorem tyc95 : tyc Try.prog 95 = some (some 0) := by kernel_rfl
theorem fpart95_0 : fpart Try.prog 95 0 = some (0, (some 0)) := by kernel_rfl
theorem zmb95 : zmb Try.prog 95 = some (.cells [] 0 95) := by kernel_rfl
theorem bldT95 : bldT Try.prog 95 = some ([], [(0, 0)]) := by kernel_rfl
theorem tyc96 : tyc Try.prog 96 = some none := by kernel_rfl
theorem zmb96 : zmb Try.prog 96 = some (.cells [(.lit .nilFunc)] 1 96) := by kernel_rfl
theorem tyc97 : tyc Try.prog 97 = some none := by kernel_rfl
theorem zmb97 : zmb Try.prog 97 = some (.cells [(.lit (.int .u32 0))] 1 97) := by kernel_rfl
theorem tyc98 : tyc Try.prog 98 = some none := by kernel_rfl
theorem zmb98 : zmb Try.prog 98 = some (.cells [(.lit (.int .u8 0))] 1 98) := by kernel_rfl
theorem tyc99 : tyc Try.prog 99 = some none := by kernel_rfl
theorem zmb99 : zmb Try.prog 99 = some (.cells [(.lit (.int .u8 0))] 1 99) := by kernel_rfl
theorem tyc100 : tyc Try.prog 100 = some none := by kernel_rfl
theorem zmb100 : zmb Try.prog 100 = some (.cells [(.lit .nilFunc)] 1 100) := by kernel_rfl
theorem tyc101 : tyc Try.prog 101 = some none := by kernel_rfl
theorem zmb101 : zmb Try.prog 101 = some (.cells [(.lit (.pointer none))] 1 101) := by kernel_rfl
theorem tyc102 : tyc Try.prog 102 = some none := by kernel_rfl
theorem zmb102 : zmb Try.prog 102 = some (.cells [(.lit (.int .i32 0))] 1 102) := by kernel_rfl
theorem tyc103 : tyc Try.prog 103 = some none := by kernel_rfl
theorem zmb103 : zmb Try.prog 103 = some (.cells [(.lit (.int .i32 0))] 1 103) := by kernel_rfl
theorem tyc104 : tyc Try.prog 104 = some (some 11) := by kernel_rfl
theorem foff104_0 : foff Try.prog 104 0 = some 0 := by kernel_rfl
theorem fpart104_0 : fpart Try.prog 104 0 = some (0, none) := by kernel_rfl
theorem foff104_1 : foff Try.prog 104 1 = some 1 := by kernel_rfl
theorem fpart104_1 : fpart Try.prog 104 1 = some (1, none) := by kernel_rfl
theorem foff104_2 : foff Try.prog 104 2 = some 2 := by kernel_rfl
theorem fpart104_2 : fpart Try.prog 104 2 = some (2, none) := by kernel_rfl
theorem foff104_3 : foff Try.prog 104 3 = some 3 := by kernel_rfl
theorem fpart104_3 : fpart Try.prog 104 3 = some (3, none) := by kernel_rfl
theorem foff104_4 : foff Try.prog 104 4 = some 4 := by kernel_rfl
theorem fpart104_4 : fpart Try.prog 104 4 = some (4, none) := by kernel_rfl
theorem foff104_5 : foff Try.prog 104 5 = some 5 := by kernel_rfl
theorem fpart104_5 : fpart Try.prog 104 5 = some (5, none) := by kernel_rfl
theorem foff104_6 : foff Try.prog 104 6 = some 6 := by kernel_rfl
theorem fpart104_6 : fpart Try.prog 104 6 = some (6, none) := by kernel_rfl
theorem foff104_7 : foff Try.prog 104 7 = some 7 := by kernel_rfl
theorem fpart104_7 : fpart Try.prog 104 7 = some (7, none) := by kernel_rfl
theorem foff104_8 : foff Try.prog 104 8 = some 8 := by kernel_rfl
theorem fpart104_8 : fpart Try.prog 104 8 = some (8, none) := by kernel_rfl
theorem foff104_9 : foff Try.prog 104 9 = some 9 := by kernel_rfl
theorem fpart104_9 : fpart Try.prog 104 9 = some (9, none) := by kernel_rfl
theorem foff104_10 : foff Try.prog 104 10 = some 10 := by kernel_rfl
theorem fpart104_10 : fpart Try.prog 104 10 = some (10, none) := by kernel_rfl
theorem zmb104 : zmb Try.prog 104 = some (.cells [(.lit (.int .u64 0)), (.lit (.int .u64 0)), (.lit (.int .u32 0)), (.lit (.int .u8 0)), (.lit (.int .u8 0)), (.lit (.int .u8 0)), (.lit (.int .u8 0)), (.lit .nilFunc), (.lit (.pointer none)), (.lit (.int .i32 0)), (.lit (.int .i32 0))] 11 104) := by kernel_rfl
theorem bldT104 : bldT Try.prog 104 = some ([(.int .u64 0), (.int .u64 0), (.int .u32 0), (.int .u8 0), (.int .u8 0), (.int .u8 0), (.int .u8 0), .nilFunc, (.pointer none), (.int .i32 0), (.int .i32 0)], [(0, 1), (1, 1), (2, 1), (3, 1), (4, 1), (5, 1), (6, 1), (7, 1), (8, 1), (9, 1), (10, 1)]) := by kernel_rfl
theorem tyc105 : tyc Try.prog 105 = some (some 11) := by kernel_rfl
theorem foff105_0 : foff Try.prog 105 0 = some 0 := by kernel_rfl
theorem fpart105_0 : fpart Try.prog 105 0 = some (0, none) := by kernel_rfl
theorem foff105_1 : foff Try.prog 105 1 = some 1 := by kernel_rfl
theorem fpart105_1 : fpart Try.prog 105 1 = some (1, none) := by kernel_rfl
theorem foff105_2 : foff Try.prog 105 2 = some 2 := by kernel_rfl
theorem fpart105_2 : fpart Try.prog 105 2 = some (2, none) := by kernel_rfl
theorem foff105_3 : foff Try.prog 105 3 = some 3 := by kernel_rfl
theorem fpart105_3 : fpart Try.prog 105 3 = some (3, none) := by kernel_rfl
theorem foff105_4 : foff Try.prog 105 4 = some 4 := by kernel_rfl
theorem fpart105_4 : fpart Try.prog 105 4 = some (4, none) := by kernel_rfl
theorem foff105_5 : foff Try.prog 105 5 = some 5 := by kernel_rfl
theorem fpart105_5 : fpart Try.prog 105 5 = some (5, none) := by kernel_rfl
theorem foff105_6 : foff Try.prog 105 6 = some 6 := by kernel_rfl
theorem fpart105_6 : fpart Try.prog 105 6 = some (6, none) := by kernel_rfl
theorem foff105_7 : foff Try.prog 105 7 = some 7 := by kernel_rfl
theorem fpart105_7 : fpart Try.prog 105 7 = some (7, none) := by kernel_rfl
theorem foff105_8 : foff Try.prog 105 8 = some 8 := by kernel_rfl
theorem fpart105_8 : fpart Try.prog 105 8 = some (8, none) := by kernel_rfl
theorem foff105_9 : foff Try.prog 105 9 = some 9 := by kernel_rfl
theorem fpart105_9 : fpart Try.prog 105 9 = some (9, none) := by kernel_rfl
theorem foff105_10 : foff Try.prog 105 10 = some 10 := by kernel_rfl
theorem fpart105_10 : fpart Try.prog 105 10 = some (10, none) := by kernel_rfl
theorem zmb105 : zmb Try.prog 105 = some (.cells [(.lit (.int .u64 0)), (.lit (.int .u64 0)), (.lit (.int .u32 0)), (.lit (.int .u8 0)), (.lit (.int .u8 0)), (.lit (.int .u8 0)), (.lit (.int .u8 0)), (.lit .nilFunc), (.lit (.pointer none)), (.lit (.int .i32 0)), (.lit (.int .i32 0))] 11 105) := by kernel_rfl
theorem bldT105 : bldT Try.prog 105 = some ([(.int .u64 0), (.int .u64 0), (.int .u32 0), (.int .u8 0), (.int .u8 0), (.int .u8 0), (.int .u8 0), .nilFunc, (.pointer none), (.int .i32 0), (.int .i32 0)], [(0, 1), (1, 1), (2, 1), (3, 1), (4, 1), (5, 1), (6, 1), (7, 1), (8, 1), (9, 1), (10, 1)]) := by kernel_rfl
theorem tyc106 : tyc Try.prog 106 = some (some 1) := by kernel_rfl
theorem foff106_0 : foff Try.prog 106 0 = some 0 := by kernel_rfl
theorem fpart106_0 : fpart Try.prog 106 0 = some (0, none) := by kernel_rfl
theorem fe106 : flatEq Try.prog 106 [3] := flatEq_of (by kernel_rfl)
theorem zmb106 : zmb Try.prog 106 = some (.cells [(.lit (.string ⟨#[]⟩))] 1 106) := by kernel_rfl
theorem bldT106 : bldT Try.prog 106 = some ([(.string ⟨#[]⟩)], [(0, 1)]) := by kernel_rfl
theorem tyc107 : tyc Try.prog 107 = some (some 1) := by kernel_rfl
theorem foff107_0 : foff Try.prog 107 0 = some 0 := by kernel_rfl
theorem fpart107_0 : fpart Try.prog 107 0 = some (0, none) := by kernel_rfl
theorem fe107 : flatEq Try.prog 107 [3] := flatEq_of (by kernel_rfl)
theorem zmb107 : zmb Try.prog 107 = some (.cells [(.lit (.string ⟨#[]⟩))] 1 107) := by kernel_rfl
theorem bldT107 : bldT Try.prog 107 = some ([(.string ⟨#[]⟩)], [(0, 1)]) := by kernel_rfl
theorem tyc108 : tyc Try.prog 108 = some none := by kernel_rfl
theorem zmb108 : zmb Try.prog 108 = some (.cells [(.lit (.pointer none))] 1 108) := by kernel_rfl
theorem mixed : Try.prog.follows .mixedOrders = true := by kernel_rfl
end Go.Proofs.Ytngdgicgppaeaaa
