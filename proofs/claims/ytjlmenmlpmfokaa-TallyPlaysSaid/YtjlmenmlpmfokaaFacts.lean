/- The closed facts on this seat: types, functions. No condition. -/
import Derived.Test.YtjlmenmlpmfokaaSxMem
import Derived.Test.YtjlmenmlpmfokaaProg
import Derived.KernelRfl
namespace Go.Proofs.Ytjlmenmlpmfokaa
open Go Sx
set_option maxRecDepth 100000
instance ti2 : HasT Try.prog 2 (.int .i64) 1 8 (.int .i64 0) := ⟨Try.underlying2, by kernel_rfl⟩
instance ti3 : HasT Try.prog 3 (.int .i64) 1 8 (.int .i64 0) := ⟨Try.underlying3, by kernel_rfl⟩
instance ti4 : HasT Try.prog 4 (.bool) 1 1 (.bool false) := ⟨Try.underlying4, by kernel_rfl⟩
instance ti5 : HasT Try.prog 5 (.int .u8) 1 1 (.int .u8 0) := ⟨Try.underlying5, by kernel_rfl⟩
instance ti6 : HasT Try.prog 6 (.int .u8) 1 1 (.int .u8 0) := ⟨Try.underlying6, by kernel_rfl⟩
instance ti7 : HasT Try.prog 7 (.struct #[⟨"x", 2, 0, false, "", "runtime", 0⟩, ⟨"y", 3, 1, false, "", "runtime", 8⟩, ⟨"signed", 4, 2, false, "", "runtime", 16⟩, ⟨"code", 6, 3, false, "", "runtime", 17⟩]) 4 24 (.agg #[.int .i64 0, .int .i64 0, .bool false, .int .u8 0]) := ⟨Try.underlying7, by kernel_rfl⟩
instance ti8 : HasT Try.prog 8 (.struct #[⟨"x", 2, 0, false, "", "runtime", 0⟩, ⟨"y", 3, 1, false, "", "runtime", 8⟩, ⟨"signed", 4, 2, false, "", "runtime", 16⟩, ⟨"code", 6, 3, false, "", "runtime", 17⟩]) 4 24 (.agg #[.int .i64 0, .int .i64 0, .bool false, .int .u8 0]) := ⟨Try.underlying8, by kernel_rfl⟩
instance ti9 : HasT Try.prog 9 (.string) 1 16 (.string ⟨#[]⟩) := ⟨Try.underlying9, by kernel_rfl⟩
instance ti10 : HasT Try.prog 10 (.string) 1 16 (.string ⟨#[]⟩) := ⟨Try.underlying10, by kernel_rfl⟩
instance ti11 : HasT Try.prog 11 (.string) 1 16 (.string ⟨#[]⟩) := ⟨Try.underlying11, by kernel_rfl⟩
instance ti12 : HasT Try.prog 12 (.int .u64) 1 8 (.int .u64 0) := ⟨Try.underlying12, by kernel_rfl⟩
instance ti13 : HasT Try.prog 13 (.struct #[⟨"msg", 9, 0, false, "", "runtime", 0⟩, ⟨"addr", 12, 1, false, "", "runtime", 16⟩]) 2 24 (.agg #[.string ⟨#[]⟩, .int .u64 0]) := ⟨Try.underlying13, by kernel_rfl⟩
instance ti14 : HasT Try.prog 14 (.struct #[⟨"msg", 9, 0, false, "", "runtime", 0⟩, ⟨"addr", 12, 1, false, "", "runtime", 16⟩]) 2 24 (.agg #[.string ⟨#[]⟩, .int .u64 0]) := ⟨Try.underlying14, by kernel_rfl⟩
instance ti15 : HasT Try.prog 15 (.pointer 102) 1 8 (.pointer none) := ⟨Try.underlying15, by kernel_rfl⟩
instance ti16 : HasT Try.prog 16 (.pointer 105) 1 8 (.pointer none) := ⟨Try.underlying16, by kernel_rfl⟩
instance ti17 : HasT Try.prog 17 (.pointer 113) 1 8 (.pointer none) := ⟨Try.underlying17, by kernel_rfl⟩
instance ti18 : HasT Try.prog 18 (.struct #[⟨"typ", 17, 0, false, "", "internal/runtime/maps", 0⟩]) 1 8 (.agg #[.pointer none]) := ⟨Try.underlying18, by kernel_rfl⟩
instance ti19 : HasT Try.prog 19 (.struct #[⟨"typ", 17, 0, false, "", "internal/runtime/maps", 0⟩]) 1 8 (.agg #[.pointer none]) := ⟨Try.underlying19, by kernel_rfl⟩
instance ti21 : HasT Try.prog 21 (.int .i32) 1 4 (.int .i32 0) := ⟨Try.underlying21, by kernel_rfl⟩
instance ti22 : HasT Try.prog 22 (.slice 32) 1 24 (.slice none 0 0) := ⟨Try.underlying22, by kernel_rfl⟩
instance ti24 : HasT Try.prog 24 (.pointer 28) 1 8 (.pointer none) := ⟨Try.underlying24, by kernel_rfl⟩
instance ti25 : HasT Try.prog 25 (.slice 37) 1 24 (.slice none 0 0) := ⟨Try.underlying25, by kernel_rfl⟩
instance ti26 : HasT Try.prog 26 (.slice 45) 1 24 (.slice none 0 0) := ⟨Try.underlying26, by kernel_rfl⟩
instance ti27 : HasT Try.prog 27 (.struct #[⟨"l", 25, 0, false, "", "steelyard/steelyardlaw18", 0⟩, ⟨"came", 26, 1, false, "", "steelyard/steelyardlaw18", 24⟩, ⟨"want", 26, 2, false, "", "steelyard/steelyardlaw18", 48⟩]) 3 72 (.agg #[.slice none 0 0, .slice none 0 0, .slice none 0 0]) := ⟨Try.underlying27, by kernel_rfl⟩
instance ti28 : HasT Try.prog 28 (.struct #[⟨"l", 25, 0, false, "", "steelyard/steelyardlaw18", 0⟩, ⟨"came", 26, 1, false, "", "steelyard/steelyardlaw18", 24⟩, ⟨"want", 26, 2, false, "", "steelyard/steelyardlaw18", 48⟩]) 3 72 (.agg #[.slice none 0 0, .slice none 0 0, .slice none 0 0]) := ⟨Try.underlying28, by kernel_rfl⟩
instance ti30 : HasT Try.prog 30 (.float .f64) 1 8 (.float .f64 0) := ⟨Try.underlying30, by kernel_rfl⟩
instance ti31 : HasT Try.prog 31 (.struct #[⟨"Kind", 3, 0, false, "", "", 0⟩, ⟨"On", 3, 1, false, "", "", 8⟩, ⟨"With", 3, 2, false, "", "", 16⟩, ⟨"N", 3, 3, false, "", "", 24⟩, ⟨"X", 30, 4, false, "", "", 32⟩, ⟨"Joined", 4, 5, false, "", "", 40⟩]) 6 48 (.agg #[.int .i64 0, .int .i64 0, .int .i64 0, .int .i64 0, .float .f64 0, .bool false]) := ⟨Try.underlying31, by kernel_rfl⟩
instance ti32 : HasT Try.prog 32 (.struct #[⟨"Kind", 3, 0, false, "", "", 0⟩, ⟨"On", 3, 1, false, "", "", 8⟩, ⟨"With", 3, 2, false, "", "", 16⟩, ⟨"N", 3, 3, false, "", "", 24⟩, ⟨"X", 30, 4, false, "", "", 32⟩, ⟨"Joined", 4, 5, false, "", "", 40⟩]) 6 48 (.agg #[.int .i64 0, .int .i64 0, .int .i64 0, .int .i64 0, .float .f64 0, .bool false]) := ⟨Try.underlying32, by kernel_rfl⟩
instance ti34 : HasT Try.prog 34 (.pointer 64) 1 8 (.pointer none) := ⟨Try.underlying34, by kernel_rfl⟩
instance ti35 : HasT Try.prog 35 (.pointer 70) 1 8 (.pointer none) := ⟨Try.underlying35, by kernel_rfl⟩
instance ti36 : HasT Try.prog 36 (.struct #[⟨"t", 34, 0, false, "", "steelyard/steelyardlaw18", 0⟩, ⟨"r", 35, 1, false, "", "steelyard/steelyardlaw18", 8⟩]) 2 16 (.agg #[.pointer none, .pointer none]) := ⟨Try.underlying36, by kernel_rfl⟩
instance ti37 : HasT Try.prog 37 (.struct #[⟨"t", 34, 0, false, "", "steelyard/steelyardlaw18", 0⟩, ⟨"r", 35, 1, false, "", "steelyard/steelyardlaw18", 8⟩]) 2 16 (.agg #[.pointer none, .pointer none]) := ⟨Try.underlying37, by kernel_rfl⟩
instance ti39 : HasT Try.prog 39 (.slice 30) 1 24 (.slice none 0 0) := ⟨Try.underlying39, by kernel_rfl⟩
instance ti41 : HasT Try.prog 41 (.int .i64) 1 8 (.int .i64 0) := ⟨Try.underlying41, by kernel_rfl⟩
instance ti45 : HasT Try.prog 45 (.slice 50) 1 24 (.slice none 0 0) := ⟨Try.underlying45, by kernel_rfl⟩
instance ti49 : HasT Try.prog 49 (.struct #[⟨"Value", 30, 0, false, "", "", 0⟩, ⟨"Count", 3, 1, false, "", "", 8⟩]) 2 16 (.agg #[.float .f64 0, .int .i64 0]) := ⟨Try.underlying49, by kernel_rfl⟩
instance ti50 : HasT Try.prog 50 (.struct #[⟨"Value", 30, 0, false, "", "", 0⟩, ⟨"Count", 3, 1, false, "", "", 8⟩]) 2 16 (.agg #[.float .f64 0, .int .i64 0]) := ⟨Try.underlying50, by kernel_rfl⟩
instance ti56 : HasT Try.prog 56 (.int .u64) 1 8 (.int .u64 0) := ⟨Try.underlying56, by kernel_rfl⟩
instance ti62 : HasT Try.prog 62 (.map 56 3) 1 8 (.map none) := ⟨Try.underlying62, by kernel_rfl⟩
instance ti63 : HasT Try.prog 63 (.struct #[⟨"joined", 4, 0, false, "", "steelyard/tally", 0⟩, ⟨"all", 3, 1, false, "", "steelyard/tally", 8⟩, ⟨"counts", 62, 2, false, "", "steelyard/tally", 16⟩]) 3 24 (.agg #[.bool false, .int .i64 0, .map none]) := ⟨Try.underlying63, by kernel_rfl⟩
instance ti64 : HasT Try.prog 64 (.struct #[⟨"joined", 4, 0, false, "", "steelyard/tally", 0⟩, ⟨"all", 3, 1, false, "", "steelyard/tally", 8⟩, ⟨"counts", 62, 2, false, "", "steelyard/tally", 16⟩]) 3 24 (.agg #[.bool false, .int .i64 0, .map none]) := ⟨Try.underlying64, by kernel_rfl⟩
instance ti68 : HasT Try.prog 68 (.slice 73) 1 24 (.slice none 0 0) := ⟨Try.underlying68, by kernel_rfl⟩
instance ti69 : HasT Try.prog 69 (.struct #[⟨"joined", 4, 0, false, "", "steelyard/steelyardref18", 0⟩, ⟨"l", 68, 1, false, "", "steelyard/steelyardref18", 8⟩, ⟨"all", 3, 2, false, "", "steelyard/steelyardref18", 32⟩]) 3 40 (.agg #[.bool false, .slice none 0 0, .int .i64 0]) := ⟨Try.underlying69, by kernel_rfl⟩
instance ti70 : HasT Try.prog 70 (.struct #[⟨"joined", 4, 0, false, "", "steelyard/steelyardref18", 0⟩, ⟨"l", 68, 1, false, "", "steelyard/steelyardref18", 8⟩, ⟨"all", 3, 2, false, "", "steelyard/steelyardref18", 32⟩]) 3 40 (.agg #[.bool false, .slice none 0 0, .int .i64 0]) := ⟨Try.underlying70, by kernel_rfl⟩
instance ti72 : HasT Try.prog 72 (.struct #[⟨"Bits", 56, 0, false, "", "", 0⟩, ⟨"Count", 3, 1, false, "", "", 8⟩]) 2 16 (.agg #[.int .u64 0, .int .i64 0]) := ⟨Try.underlying72, by kernel_rfl⟩
instance ti73 : HasT Try.prog 73 (.struct #[⟨"Bits", 56, 0, false, "", "", 0⟩, ⟨"Count", 3, 1, false, "", "", 8⟩]) 2 16 (.agg #[.int .u64 0, .int .i64 0]) := ⟨Try.underlying73, by kernel_rfl⟩
instance ti79 : HasT Try.prog 79 (.int .u64) 1 8 (.int .u64 0) := ⟨Try.underlying79, by kernel_rfl⟩
instance ti82 : HasT Try.prog 82 (.int .i64) 1 8 (.int .i64 0) := ⟨Try.underlying82, by kernel_rfl⟩
instance ti89 : HasT Try.prog 89 (.int .u32) 1 4 (.int .u32 0) := ⟨Try.underlying89, by kernel_rfl⟩
instance ti91 : HasT Try.prog 91 (.int .u64) 1 8 (.int .u64 0) := ⟨Try.underlying91, by kernel_rfl⟩
instance ti95 : HasT Try.prog 95 (.pointer 3) 1 8 (.pointer none) := ⟨Try.underlying95, by kernel_rfl⟩
instance ti97 : HasT Try.prog 97 (.pointer 91) 1 8 (.pointer none) := ⟨Try.underlying97, by kernel_rfl⟩
instance ti101 : HasT Try.prog 101 (.struct #[⟨"_interface", 17, 0, false, "", "runtime", 0⟩, ⟨"concrete", 17, 1, false, "", "runtime", 8⟩, ⟨"asserted", 17, 2, false, "", "runtime", 16⟩, ⟨"missingMethod", 9, 3, false, "", "runtime", 24⟩]) 4 40 (.agg #[.pointer none, .pointer none, .pointer none, .string ⟨#[]⟩]) := ⟨Try.underlying101, by kernel_rfl⟩
instance ti102 : HasT Try.prog 102 (.struct #[⟨"_interface", 17, 0, false, "", "runtime", 0⟩, ⟨"concrete", 17, 1, false, "", "runtime", 8⟩, ⟨"asserted", 17, 2, false, "", "runtime", 16⟩, ⟨"missingMethod", 9, 3, false, "", "runtime", 24⟩]) 4 40 (.agg #[.pointer none, .pointer none, .pointer none, .string ⟨#[]⟩]) := ⟨Try.underlying102, by kernel_rfl⟩
instance ti103 : HasT Try.prog 103 (.array 0 16) 0 0 (.agg #[]) := ⟨Try.underlying103, by kernel_rfl⟩
instance ti104 : HasT Try.prog 104 (.struct #[⟨"_", 103, 0, false, "", "runtime", 0⟩]) 0 0 (.agg #[]) := ⟨Try.underlying104, by kernel_rfl⟩
instance ti105 : HasT Try.prog 105 (.struct #[⟨"_", 103, 0, false, "", "runtime", 0⟩]) 0 0 (.agg #[]) := ⟨Try.underlying105, by kernel_rfl⟩
instance ti106 : HasT Try.prog 106 (.int .u8) 1 1 (.int .u8 0) := ⟨Try.underlying106, by kernel_rfl⟩
instance ti107 : HasT Try.prog 107 (.int .u8) 1 1 (.int .u8 0) := ⟨Try.underlying107, by kernel_rfl⟩
instance ti109 : HasT Try.prog 109 (.pointer 5) 1 8 (.pointer none) := ⟨Try.underlying109, by kernel_rfl⟩
instance ti110 : HasT Try.prog 110 (.int .i32) 1 4 (.int .i32 0) := ⟨Try.underlying110, by kernel_rfl⟩
instance ti111 : HasT Try.prog 111 (.int .i32) 1 4 (.int .i32 0) := ⟨Try.underlying111, by kernel_rfl⟩
instance ti112 : HasT Try.prog 112 (.struct #[⟨"Size_", 12, 0, false, "", "", 0⟩, ⟨"PtrBytes", 12, 1, false, "", "", 8⟩, ⟨"Hash", 89, 2, false, "", "", 16⟩, ⟨"TFlag", 106, 3, false, "", "", 20⟩, ⟨"Align_", 5, 4, false, "", "", 21⟩, ⟨"FieldAlign_", 5, 5, false, "", "", 22⟩, ⟨"Kind_", 107, 6, false, "", "", 23⟩, ⟨"Equal", 108, 7, false, "", "", 24⟩, ⟨"GCData", 109, 8, false, "", "", 32⟩, ⟨"Str", 110, 9, false, "", "", 40⟩, ⟨"PtrToThis", 111, 10, false, "", "", 44⟩]) 11 48 (.agg #[.int .u64 0, .int .u64 0, .int .u32 0, .int .u8 0, .int .u8 0, .int .u8 0, .int .u8 0, .nilFunc, .pointer none, .int .i32 0, .int .i32 0]) := ⟨Try.underlying112, by kernel_rfl⟩
instance ti113 : HasT Try.prog 113 (.struct #[⟨"Size_", 12, 0, false, "", "", 0⟩, ⟨"PtrBytes", 12, 1, false, "", "", 8⟩, ⟨"Hash", 89, 2, false, "", "", 16⟩, ⟨"TFlag", 106, 3, false, "", "", 20⟩, ⟨"Align_", 5, 4, false, "", "", 21⟩, ⟨"FieldAlign_", 5, 5, false, "", "", 22⟩, ⟨"Kind_", 107, 6, false, "", "", 23⟩, ⟨"Equal", 108, 7, false, "", "", 24⟩, ⟨"GCData", 109, 8, false, "", "", 32⟩, ⟨"Str", 110, 9, false, "", "", 40⟩, ⟨"PtrToThis", 111, 10, false, "", "", 44⟩]) 11 48 (.agg #[.int .u64 0, .int .u64 0, .int .u32 0, .int .u8 0, .int .u8 0, .int .u8 0, .int .u8 0, .nilFunc, .pointer none, .int .i32 0, .int .i32 0]) := ⟨Try.underlying113, by kernel_rfl⟩
instance tf7_0 : HasFld Try.prog 7 0 0 := ⟨fun a w => by kernel_rfl⟩
instance tf7_1 : HasFld Try.prog 7 1 1 := ⟨fun a w => by kernel_rfl⟩
instance tf7_2 : HasFld Try.prog 7 2 2 := ⟨fun a w => by kernel_rfl⟩
instance tf7_3 : HasFld Try.prog 7 3 3 := ⟨fun a w => by kernel_rfl⟩
instance tb7 : HasB Try.prog 7 #[(0, 1), (1, 1), (2, 1), (3, 1)] := ⟨fun w fs h => by rw [und_inj Try.underlying7 h]; kernel_rfl⟩
instance tf8_0 : HasFld Try.prog 8 0 0 := ⟨fun a w => by kernel_rfl⟩
instance tf8_1 : HasFld Try.prog 8 1 1 := ⟨fun a w => by kernel_rfl⟩
instance tf8_2 : HasFld Try.prog 8 2 2 := ⟨fun a w => by kernel_rfl⟩
instance tf8_3 : HasFld Try.prog 8 3 3 := ⟨fun a w => by kernel_rfl⟩
instance tb8 : HasB Try.prog 8 #[(0, 1), (1, 1), (2, 1), (3, 1)] := ⟨fun w fs h => by rw [und_inj Try.underlying8 h]; kernel_rfl⟩
instance tf13_0 : HasFld Try.prog 13 0 0 := ⟨fun a w => by kernel_rfl⟩
instance tf13_1 : HasFld Try.prog 13 1 1 := ⟨fun a w => by kernel_rfl⟩
instance tb13 : HasB Try.prog 13 #[(0, 1), (1, 1)] := ⟨fun w fs h => by rw [und_inj Try.underlying13 h]; kernel_rfl⟩
instance tf14_0 : HasFld Try.prog 14 0 0 := ⟨fun a w => by kernel_rfl⟩
instance tf14_1 : HasFld Try.prog 14 1 1 := ⟨fun a w => by kernel_rfl⟩
instance tb14 : HasB Try.prog 14 #[(0, 1), (1, 1)] := ⟨fun w fs h => by rw [und_inj Try.underlying14 h]; kernel_rfl⟩
instance tf18_0 : HasFld Try.prog 18 0 0 := ⟨fun a w => by kernel_rfl⟩
instance tb18 : HasB Try.prog 18 #[(0, 1)] := ⟨fun w fs h => by rw [und_inj Try.underlying18 h]; kernel_rfl⟩
instance tf19_0 : HasFld Try.prog 19 0 0 := ⟨fun a w => by kernel_rfl⟩
instance tb19 : HasB Try.prog 19 #[(0, 1)] := ⟨fun w fs h => by rw [und_inj Try.underlying19 h]; kernel_rfl⟩
instance tf27_0 : HasFld Try.prog 27 0 0 := ⟨fun a w => by kernel_rfl⟩
instance tf27_1 : HasFld Try.prog 27 1 1 := ⟨fun a w => by kernel_rfl⟩
instance tf27_2 : HasFld Try.prog 27 2 2 := ⟨fun a w => by kernel_rfl⟩
instance tb27 : HasB Try.prog 27 #[(0, 1), (1, 1), (2, 1)] := ⟨fun w fs h => by rw [und_inj Try.underlying27 h]; kernel_rfl⟩
instance tf28_0 : HasFld Try.prog 28 0 0 := ⟨fun a w => by kernel_rfl⟩
instance tf28_1 : HasFld Try.prog 28 1 1 := ⟨fun a w => by kernel_rfl⟩
instance tf28_2 : HasFld Try.prog 28 2 2 := ⟨fun a w => by kernel_rfl⟩
instance tb28 : HasB Try.prog 28 #[(0, 1), (1, 1), (2, 1)] := ⟨fun w fs h => by rw [und_inj Try.underlying28 h]; kernel_rfl⟩
instance tf31_0 : HasFld Try.prog 31 0 0 := ⟨fun a w => by kernel_rfl⟩
instance tf31_1 : HasFld Try.prog 31 1 1 := ⟨fun a w => by kernel_rfl⟩
instance tf31_2 : HasFld Try.prog 31 2 2 := ⟨fun a w => by kernel_rfl⟩
instance tf31_3 : HasFld Try.prog 31 3 3 := ⟨fun a w => by kernel_rfl⟩
instance tf31_4 : HasFld Try.prog 31 4 4 := ⟨fun a w => by kernel_rfl⟩
instance tf31_5 : HasFld Try.prog 31 5 5 := ⟨fun a w => by kernel_rfl⟩
instance tb31 : HasB Try.prog 31 #[(0, 1), (1, 1), (2, 1), (3, 1), (4, 1), (5, 1)] := ⟨fun w fs h => by rw [und_inj Try.underlying31 h]; kernel_rfl⟩
instance tf32_0 : HasFld Try.prog 32 0 0 := ⟨fun a w => by kernel_rfl⟩
instance tf32_1 : HasFld Try.prog 32 1 1 := ⟨fun a w => by kernel_rfl⟩
instance tf32_2 : HasFld Try.prog 32 2 2 := ⟨fun a w => by kernel_rfl⟩
instance tf32_3 : HasFld Try.prog 32 3 3 := ⟨fun a w => by kernel_rfl⟩
instance tf32_4 : HasFld Try.prog 32 4 4 := ⟨fun a w => by kernel_rfl⟩
instance tf32_5 : HasFld Try.prog 32 5 5 := ⟨fun a w => by kernel_rfl⟩
instance tb32 : HasB Try.prog 32 #[(0, 1), (1, 1), (2, 1), (3, 1), (4, 1), (5, 1)] := ⟨fun w fs h => by rw [und_inj Try.underlying32 h]; kernel_rfl⟩
instance tf36_0 : HasFld Try.prog 36 0 0 := ⟨fun a w => by kernel_rfl⟩
instance tf36_1 : HasFld Try.prog 36 1 1 := ⟨fun a w => by kernel_rfl⟩
instance tb36 : HasB Try.prog 36 #[(0, 1), (1, 1)] := ⟨fun w fs h => by rw [und_inj Try.underlying36 h]; kernel_rfl⟩
instance tf37_0 : HasFld Try.prog 37 0 0 := ⟨fun a w => by kernel_rfl⟩
instance tf37_1 : HasFld Try.prog 37 1 1 := ⟨fun a w => by kernel_rfl⟩
instance tb37 : HasB Try.prog 37 #[(0, 1), (1, 1)] := ⟨fun w fs h => by rw [und_inj Try.underlying37 h]; kernel_rfl⟩
instance tf49_0 : HasFld Try.prog 49 0 0 := ⟨fun a w => by kernel_rfl⟩
instance tf49_1 : HasFld Try.prog 49 1 1 := ⟨fun a w => by kernel_rfl⟩
instance tb49 : HasB Try.prog 49 #[(0, 1), (1, 1)] := ⟨fun w fs h => by rw [und_inj Try.underlying49 h]; kernel_rfl⟩
instance tf50_0 : HasFld Try.prog 50 0 0 := ⟨fun a w => by kernel_rfl⟩
instance tf50_1 : HasFld Try.prog 50 1 1 := ⟨fun a w => by kernel_rfl⟩
instance tb50 : HasB Try.prog 50 #[(0, 1), (1, 1)] := ⟨fun w fs h => by rw [und_inj Try.underlying50 h]; kernel_rfl⟩
instance tf63_0 : HasFld Try.prog 63 0 0 := ⟨fun a w => by kernel_rfl⟩
instance tf63_1 : HasFld Try.prog 63 1 1 := ⟨fun a w => by kernel_rfl⟩
instance tf63_2 : HasFld Try.prog 63 2 2 := ⟨fun a w => by kernel_rfl⟩
instance tb63 : HasB Try.prog 63 #[(0, 1), (1, 1), (2, 1)] := ⟨fun w fs h => by rw [und_inj Try.underlying63 h]; kernel_rfl⟩
instance tf64_0 : HasFld Try.prog 64 0 0 := ⟨fun a w => by kernel_rfl⟩
instance tf64_1 : HasFld Try.prog 64 1 1 := ⟨fun a w => by kernel_rfl⟩
instance tf64_2 : HasFld Try.prog 64 2 2 := ⟨fun a w => by kernel_rfl⟩
instance tb64 : HasB Try.prog 64 #[(0, 1), (1, 1), (2, 1)] := ⟨fun w fs h => by rw [und_inj Try.underlying64 h]; kernel_rfl⟩
instance tf69_0 : HasFld Try.prog 69 0 0 := ⟨fun a w => by kernel_rfl⟩
instance tf69_1 : HasFld Try.prog 69 1 1 := ⟨fun a w => by kernel_rfl⟩
instance tf69_2 : HasFld Try.prog 69 2 2 := ⟨fun a w => by kernel_rfl⟩
instance tb69 : HasB Try.prog 69 #[(0, 1), (1, 1), (2, 1)] := ⟨fun w fs h => by rw [und_inj Try.underlying69 h]; kernel_rfl⟩
instance tf70_0 : HasFld Try.prog 70 0 0 := ⟨fun a w => by kernel_rfl⟩
instance tf70_1 : HasFld Try.prog 70 1 1 := ⟨fun a w => by kernel_rfl⟩
instance tf70_2 : HasFld Try.prog 70 2 2 := ⟨fun a w => by kernel_rfl⟩
instance tb70 : HasB Try.prog 70 #[(0, 1), (1, 1), (2, 1)] := ⟨fun w fs h => by rw [und_inj Try.underlying70 h]; kernel_rfl⟩
instance tf72_0 : HasFld Try.prog 72 0 0 := ⟨fun a w => by kernel_rfl⟩
instance tf72_1 : HasFld Try.prog 72 1 1 := ⟨fun a w => by kernel_rfl⟩
instance tb72 : HasB Try.prog 72 #[(0, 1), (1, 1)] := ⟨fun w fs h => by rw [und_inj Try.underlying72 h]; kernel_rfl⟩
instance tf73_0 : HasFld Try.prog 73 0 0 := ⟨fun a w => by kernel_rfl⟩
instance tf73_1 : HasFld Try.prog 73 1 1 := ⟨fun a w => by kernel_rfl⟩
instance tb73 : HasB Try.prog 73 #[(0, 1), (1, 1)] := ⟨fun w fs h => by rw [und_inj Try.underlying73 h]; kernel_rfl⟩
instance tf101_0 : HasFld Try.prog 101 0 0 := ⟨fun a w => by kernel_rfl⟩
instance tf101_1 : HasFld Try.prog 101 1 1 := ⟨fun a w => by kernel_rfl⟩
instance tf101_2 : HasFld Try.prog 101 2 2 := ⟨fun a w => by kernel_rfl⟩
instance tf101_3 : HasFld Try.prog 101 3 3 := ⟨fun a w => by kernel_rfl⟩
instance tb101 : HasB Try.prog 101 #[(0, 1), (1, 1), (2, 1), (3, 1)] := ⟨fun w fs h => by rw [und_inj Try.underlying101 h]; kernel_rfl⟩
instance tf102_0 : HasFld Try.prog 102 0 0 := ⟨fun a w => by kernel_rfl⟩
instance tf102_1 : HasFld Try.prog 102 1 1 := ⟨fun a w => by kernel_rfl⟩
instance tf102_2 : HasFld Try.prog 102 2 2 := ⟨fun a w => by kernel_rfl⟩
instance tf102_3 : HasFld Try.prog 102 3 3 := ⟨fun a w => by kernel_rfl⟩
instance tb102 : HasB Try.prog 102 #[(0, 1), (1, 1), (2, 1), (3, 1)] := ⟨fun w fs h => by rw [und_inj Try.underlying102 h]; kernel_rfl⟩
instance tb104 : HasB Try.prog 104 #[(0, 0)] := ⟨fun w fs h => by rw [und_inj Try.underlying104 h]; kernel_rfl⟩
instance tb105 : HasB Try.prog 105 #[(0, 0)] := ⟨fun w fs h => by rw [und_inj Try.underlying105 h]; kernel_rfl⟩
instance tf112_0 : HasFld Try.prog 112 0 0 := ⟨fun a w => by kernel_rfl⟩
instance tf112_1 : HasFld Try.prog 112 1 1 := ⟨fun a w => by kernel_rfl⟩
instance tf112_2 : HasFld Try.prog 112 2 2 := ⟨fun a w => by kernel_rfl⟩
instance tf112_3 : HasFld Try.prog 112 3 3 := ⟨fun a w => by kernel_rfl⟩
instance tf112_4 : HasFld Try.prog 112 4 4 := ⟨fun a w => by kernel_rfl⟩
instance tf112_5 : HasFld Try.prog 112 5 5 := ⟨fun a w => by kernel_rfl⟩
instance tf112_6 : HasFld Try.prog 112 6 6 := ⟨fun a w => by kernel_rfl⟩
instance tf112_7 : HasFld Try.prog 112 7 7 := ⟨fun a w => by kernel_rfl⟩
instance tf112_8 : HasFld Try.prog 112 8 8 := ⟨fun a w => by kernel_rfl⟩
instance tf112_9 : HasFld Try.prog 112 9 9 := ⟨fun a w => by kernel_rfl⟩
instance tf112_10 : HasFld Try.prog 112 10 10 := ⟨fun a w => by kernel_rfl⟩
instance tb112 : HasB Try.prog 112 #[(0, 1), (1, 1), (2, 1), (3, 1), (4, 1), (5, 1), (6, 1), (7, 1), (8, 1), (9, 1), (10, 1)] := ⟨fun w fs h => by rw [und_inj Try.underlying112 h]; kernel_rfl⟩
instance tf113_0 : HasFld Try.prog 113 0 0 := ⟨fun a w => by kernel_rfl⟩
instance tf113_1 : HasFld Try.prog 113 1 1 := ⟨fun a w => by kernel_rfl⟩
instance tf113_2 : HasFld Try.prog 113 2 2 := ⟨fun a w => by kernel_rfl⟩
instance tf113_3 : HasFld Try.prog 113 3 3 := ⟨fun a w => by kernel_rfl⟩
instance tf113_4 : HasFld Try.prog 113 4 4 := ⟨fun a w => by kernel_rfl⟩
instance tf113_5 : HasFld Try.prog 113 5 5 := ⟨fun a w => by kernel_rfl⟩
instance tf113_6 : HasFld Try.prog 113 6 6 := ⟨fun a w => by kernel_rfl⟩
instance tf113_7 : HasFld Try.prog 113 7 7 := ⟨fun a w => by kernel_rfl⟩
instance tf113_8 : HasFld Try.prog 113 8 8 := ⟨fun a w => by kernel_rfl⟩
instance tf113_9 : HasFld Try.prog 113 9 9 := ⟨fun a w => by kernel_rfl⟩
instance tf113_10 : HasFld Try.prog 113 10 10 := ⟨fun a w => by kernel_rfl⟩
instance tb113 : HasB Try.prog 113 #[(0, 1), (1, 1), (2, 1), (3, 1), (4, 1), (5, 1), (6, 1), (7, 1), (8, 1), (9, 1), (10, 1)] := ⟨fun w fs h => by rw [und_inj Try.underlying113 h]; kernel_rfl⟩
theorem hmix : Try.prog.follows .mixedOrders = true := by kernel_rfl
theorem ext34 (b : Int) (w : World) : (callFunc 34 [(.int .u64 b : Value)].toArray).run Try.prog w = .ok (.value (.float .f64 b.toNat)) w := by kernel_rfl
theorem ext42 (b : Nat) (w : World) : (callFunc 42 [(.float .f64 b : Value)].toArray).run Try.prog w = .ok (.value (.int .u64 (b : Int))) w := by kernel_rfl
theorem hasF2 : HasF Try.prog 2 := ⟨Try.f2, _, Try.func2, rfl, by decide⟩
theorem hasF3 : HasF Try.prog 3 := ⟨Try.f3, _, Try.func3, rfl, by decide⟩
theorem hasF4 : HasF Try.prog 4 := ⟨Try.f4, _, Try.func4, rfl, by decide⟩
theorem hasF5 : HasF Try.prog 5 := ⟨Try.f5, _, Try.func5, rfl, by decide⟩
theorem hasF6 : HasF Try.prog 6 := ⟨Try.f6, _, Try.func6, rfl, by decide⟩
theorem hasF7 : HasF Try.prog 7 := ⟨Try.f7, _, Try.func7, rfl, by decide⟩
theorem hasF8 : HasF Try.prog 8 := ⟨Try.f8, _, Try.func8, rfl, by decide⟩
theorem hasF9 : HasF Try.prog 9 := ⟨Try.f9, _, Try.func9, rfl, by decide⟩
theorem hasF10 : HasF Try.prog 10 := ⟨Try.f10, _, Try.func10, rfl, by decide⟩
theorem hasF11 : HasF Try.prog 11 := ⟨Try.f11, _, Try.func11, rfl, by decide⟩
theorem hasF12 : HasF Try.prog 12 := ⟨Try.f12, _, Try.func12, rfl, by decide⟩
theorem hasF13 : HasF Try.prog 13 := ⟨Try.f13, _, Try.func13, rfl, by decide⟩
theorem hasF14 : HasF Try.prog 14 := ⟨Try.f14, _, Try.func14, rfl, by decide⟩
theorem hasF15 : HasF Try.prog 15 := ⟨Try.f15, _, Try.func15, rfl, by decide⟩
theorem hasF16 : HasF Try.prog 16 := ⟨Try.f16, _, Try.func16, rfl, by decide⟩
theorem hasF17 : HasF Try.prog 17 := ⟨Try.f17, _, Try.func17, rfl, by decide⟩
theorem hasF18 : HasF Try.prog 18 := ⟨Try.f18, _, Try.func18, rfl, by decide⟩
theorem hasF19 : HasF Try.prog 19 := ⟨Try.f19, _, Try.func19, rfl, by decide⟩
theorem hasF20 : HasF Try.prog 20 := ⟨Try.f20, _, Try.func20, rfl, by decide⟩
theorem hasF21 : HasF Try.prog 21 := ⟨Try.f21, _, Try.func21, rfl, by decide⟩
theorem hasF22 : HasF Try.prog 22 := ⟨Try.f22, _, Try.func22, rfl, by decide⟩
theorem hasF23 : HasF Try.prog 23 := ⟨Try.f23, _, Try.func23, rfl, by decide⟩
theorem hasF24 : HasF Try.prog 24 := ⟨Try.f24, _, Try.func24, rfl, by decide⟩
theorem hasF25 : HasF Try.prog 25 := ⟨Try.f25, _, Try.func25, rfl, by decide⟩
theorem hasF26 : HasF Try.prog 26 := ⟨Try.f26, _, Try.func26, rfl, by decide⟩
theorem hasF27 : HasF Try.prog 27 := ⟨Try.f27, _, Try.func27, rfl, by decide⟩
theorem hasF28 : HasF Try.prog 28 := ⟨Try.f28, _, Try.func28, rfl, by decide⟩
theorem hasF29 : HasF Try.prog 29 := ⟨Try.f29, _, Try.func29, rfl, by decide⟩
theorem hasF30 : HasF Try.prog 30 := ⟨Try.f30, _, Try.func30, rfl, by decide⟩
theorem hasF31 : HasF Try.prog 31 := ⟨Try.f31, _, Try.func31, rfl, by decide⟩
theorem hasF32 : HasF Try.prog 32 := ⟨Try.f32, _, Try.func32, rfl, by decide⟩
theorem hasF33 : HasF Try.prog 33 := ⟨Try.f33, _, Try.func33, rfl, by decide⟩
theorem hasF35 : HasF Try.prog 35 := ⟨Try.f35, _, Try.func35, rfl, by decide⟩
theorem hasF36 : HasF Try.prog 36 := ⟨Try.f36, _, Try.func36, rfl, by decide⟩
theorem hasF37 : HasF Try.prog 37 := ⟨Try.f37, _, Try.func37, rfl, by decide⟩
theorem hasF38 : HasF Try.prog 38 := ⟨Try.f38, _, Try.func38, rfl, by decide⟩
theorem hasF39 : HasF Try.prog 39 := ⟨Try.f39, _, Try.func39, rfl, by decide⟩
theorem hasF40 : HasF Try.prog 40 := ⟨Try.f40, _, Try.func40, rfl, by decide⟩
theorem hasF41 : HasF Try.prog 41 := ⟨Try.f41, _, Try.func41, rfl, by decide⟩
theorem hasF43 : HasF Try.prog 43 := ⟨Try.f43, _, Try.func43, rfl, by decide⟩
theorem hasF44 : HasF Try.prog 44 := ⟨Try.f44, _, Try.func44, rfl, by decide⟩
theorem hasF45 : HasF Try.prog 45 := ⟨Try.f45, _, Try.func45, rfl, by decide⟩
theorem hasF46 : HasF Try.prog 46 := ⟨Try.f46, _, Try.func46, rfl, by decide⟩
theorem hasF47 : HasF Try.prog 47 := ⟨Try.f47, _, Try.func47, rfl, by decide⟩
theorem hasF48 : HasF Try.prog 48 := ⟨Try.f48, _, Try.func48, rfl, by decide⟩
theorem hasF49 : HasF Try.prog 49 := ⟨Try.f49, _, Try.func49, rfl, by decide⟩
theorem hasF50 : HasF Try.prog 50 := ⟨Try.f50, _, Try.func50, rfl, by decide⟩
theorem hasF51 : HasF Try.prog 51 := ⟨Try.f51, _, Try.func51, rfl, by decide⟩
theorem hasF52 : HasF Try.prog 52 := ⟨Try.f52, _, Try.func52, rfl, by decide⟩
theorem hasF53 : HasF Try.prog 53 := ⟨Try.f53, _, Try.func53, rfl, by decide⟩
theorem hasF54 : HasF Try.prog 54 := ⟨Try.f54, _, Try.func54, rfl, by decide⟩
theorem hasF55 : HasF Try.prog 55 := ⟨Try.f55, _, Try.func55, rfl, by decide⟩
theorem hasF56 : HasF Try.prog 56 := ⟨Try.f56, _, Try.func56, rfl, by decide⟩
theorem hasF57 : HasF Try.prog 57 := ⟨Try.f57, _, Try.func57, rfl, by decide⟩
theorem hasF58 : HasF Try.prog 58 := ⟨Try.f58, _, Try.func58, rfl, by decide⟩
theorem hasF59 : HasF Try.prog 59 := ⟨Try.f59, _, Try.func59, rfl, by decide⟩
theorem hasF60 : HasF Try.prog 60 := ⟨Try.f60, _, Try.func60, rfl, by decide⟩
theorem hasF61 : HasF Try.prog 61 := ⟨Try.f61, _, Try.func61, rfl, by decide⟩
theorem hasF62 : HasF Try.prog 62 := ⟨Try.f62, _, Try.func62, rfl, by decide⟩
theorem hasF63 : HasF Try.prog 63 := ⟨Try.f63, _, Try.func63, rfl, by decide⟩
theorem hasF64 : HasF Try.prog 64 := ⟨Try.f64, _, Try.func64, rfl, by decide⟩
end Go.Proofs.Ytjlmenmlpmfokaa
