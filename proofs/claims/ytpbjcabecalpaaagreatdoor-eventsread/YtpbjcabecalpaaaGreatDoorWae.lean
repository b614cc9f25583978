/- A part of what the walks of this claim stand on. -/
import Derived.Test.YtpbjcabecalpaaaGreatDoorProg
import Derived.Test.YtpbjcabecalpaaaGreatDoorGab
import Derived.KernelRfl
import Derived.Test.YtpbjcabecalpaaaGreatDoorGac
import Derived.IntWalk
import Derived.Shelf.Strconv.Itoa3
set_option maxRecDepth 2000
set_option linter.unusedVariables false
set_option linter.unusedSimpArgs false
namespace Go.Proofs.YtpbjcabecalpaaaGreatDoor
open Go Go.Abs Go.Proofs
set_option maxRecDepth 20000
namespace TyTab
def i2 : TI := ⟨.int .i64, 1, 8, (.int .i64 fun _ => 0)⟩
theorem ok2 : TOK Tryz.prog 2 i2 := tok Tryz.types_size.symm Tryz.type2 Tryz.underlying2 (by rfl) (fun h => by cases h)
def i3 : TI := ⟨.int .i64, 1, 8, (.int .i64 fun _ => 0)⟩
theorem ok3 : TOK Tryz.prog 3 i3 := tok Tryz.types_size.symm Tryz.type3 Tryz.underlying3 (by rfl) (fun h => by cases h)
def i4 : TI := ⟨.bool, 1, 1, .ff⟩
theorem ok4 : TOK Tryz.prog 4 i4 := tok Tryz.types_size.symm Tryz.type4 Tryz.underlying4 (by rfl) (fun h => by cases h)
def i5 : TI := ⟨.int .u8, 1, 1, (.int .u8 fun _ => 0)⟩
theorem ok5 : TOK Tryz.prog 5 i5 := tok Tryz.types_size.symm Tryz.type5 Tryz.underlying5 (by rfl) (fun h => by cases h)
def i6 : TI := ⟨.int .u8, 1, 1, (.int .u8 fun _ => 0)⟩
theorem ok6 : TOK Tryz.prog 6 i6 := tok Tryz.types_size.symm Tryz.type6 Tryz.underlying6 (by rfl) (fun h => by cases h)
def i8 : TI := ⟨.struct [(0, 2), (1, 3), (2, 4), (3, 6)], 4, 24, (.agg (.cons (.int .i64 fun _ => 0) (.cons (.int .i64 fun _ => 0) (.cons .ff (.cons (.int .u8 fun _ => 0) .nil)))))⟩
theorem ok8 : TOK Tryz.prog 8 i8 := tok Tryz.types_size.symm Tryz.type8 Tryz.underlying8 (by rfl) (fun _ => ⟨by kernel_rfl, by kernel_rfl⟩)
def i9 : TI := ⟨.str, 1, 16, (.str fun _ => ByteArray.empty)⟩
theorem ok9 : TOK Tryz.prog 9 i9 := tok Tryz.types_size.symm Tryz.type9 Tryz.underlying9 (by rfl) (fun h => by cases h)
def i10 : TI := ⟨.str, 1, 16, (.str fun _ => ByteArray.empty)⟩
theorem ok10 : TOK Tryz.prog 10 i10 := tok Tryz.types_size.symm Tryz.type10 Tryz.underlying10 (by rfl) (fun h => by cases h)
def i11 : TI := ⟨.str, 1, 16, (.str fun _ => ByteArray.empty)⟩
theorem ok11 : TOK Tryz.prog 11 i11 := tok Tryz.types_size.symm Tryz.type11 Tryz.underlying11 (by rfl) (fun h => by cases h)
def i15 : TI := ⟨.ptr 233, 1, 8, .nilp⟩
theorem ok15 : TOK Tryz.prog 15 i15 := tok Tryz.types_size.symm Tryz.type15 Tryz.underlying15 (by rfl) (fun h => by cases h)
def i16 : TI := ⟨.ptr 236, 1, 8, .nilp⟩
theorem ok16 : TOK Tryz.prog 16 i16 := tok Tryz.types_size.symm Tryz.type16 Tryz.underlying16 (by rfl) (fun h => by cases h)
def i17 : TI := ⟨.ptr 244, 1, 8, .nilp⟩
theorem ok17 : TOK Tryz.prog 17 i17 := tok Tryz.types_size.symm Tryz.type17 Tryz.underlying17 (by rfl) (fun h => by cases h)
def i20 : TI := ⟨.iface, 1, 16, .nili⟩
theorem ok20 : TOK Tryz.prog 20 i20 := tok Tryz.types_size.symm Tryz.type20 Tryz.underlying20 (by rfl) (fun h => by cases h)
def i21 : TI := ⟨.int .i32, 1, 4, (.int .i32 fun _ => 0)⟩
theorem ok21 : TOK Tryz.prog 21 i21 := tok Tryz.types_size.symm Tryz.type21 Tryz.underlying21 (by rfl) (fun h => by cases h)
def i22 : TI := ⟨.slice 50, 1, 24, .nils⟩
theorem ok22 : TOK Tryz.prog 22 i22 := tok Tryz.types_size.symm Tryz.type22 Tryz.underlying22 (by rfl) (fun h => by cases h)
def i24 : TI := ⟨.struct [(0, 9), (1, 3), (2, 3), (3, 22)], 4, 56, (.agg (.cons (.str fun _ => ByteArray.empty) (.cons (.int .i64 fun _ => 0) (.cons (.int .i64 fun _ => 0) (.cons .nils .nil)))))⟩
theorem ok24 : TOK Tryz.prog 24 i24 := tok Tryz.types_size.symm Tryz.type24 Tryz.underlying24 (by rfl) (fun _ => ⟨by kernel_rfl, by kernel_rfl⟩)
def i25 : TI := ⟨.slice 47, 1, 24, .nils⟩
theorem ok25 : TOK Tryz.prog 25 i25 := tok Tryz.types_size.symm Tryz.type25 Tryz.underlying25 (by rfl) (fun h => by cases h)
def i27 : TI := ⟨.struct [(0, 3), (1, 24), (5, 9), (6, 9), (7, 25), (8, 3)], 9, 128, (.agg (.cons (.int .i64 fun _ => 0) (.cons (.agg (.cons (.str fun _ => ByteArray.empty) (.cons (.int .i64 fun _ => 0) (.cons (.int .i64 fun _ => 0) (.cons .nils .nil))))) (.cons (.str fun _ => ByteArray.empty) (.cons (.str fun _ => ByteArray.empty) (.cons .nils (.cons (.int .i64 fun _ => 0) .nil)))))))⟩
theorem ok27 : TOK Tryz.prog 27 i27 := tok Tryz.types_size.symm Tryz.type27 Tryz.underlying27 (by rfl) (fun _ => ⟨by kernel_rfl, by kernel_rfl⟩)
def i32 : TI := ⟨.func, 1, 8, .nilf⟩
theorem ok32 : TOK Tryz.prog 32 i32 := tok Tryz.types_size.symm Tryz.type32 Tryz.underlying32 (by rfl) (fun h => by cases h)
def i35 : TI := ⟨.slice 27, 1, 24, .nils⟩
theorem ok35 : TOK Tryz.prog 35 i35 := tok Tryz.types_size.symm Tryz.type35 Tryz.underlying35 (by rfl) (fun h => by cases h)
def i36 : TI := ⟨.int .i64, 1, 8, (.int .i64 fun _ => 0)⟩
theorem ok36 : TOK Tryz.prog 36 i36 := tok Tryz.types_size.symm Tryz.type36 Tryz.underlying36 (by rfl) (fun h => by cases h)
def i40 : TI := ⟨.func, 1, 8, .nilf⟩
theorem ok40 : TOK Tryz.prog 40 i40 := tok Tryz.types_size.symm Tryz.type40 Tryz.underlying40 (by rfl) (fun h => by cases h)
def i45 : TI := ⟨.struct [(0, 3), (1, 3), (2, 3)], 3, 24, (.agg (.cons (.int .i64 fun _ => 0) (.cons (.int .i64 fun _ => 0) (.cons (.int .i64 fun _ => 0) .nil))))⟩
theorem ok45 : TOK Tryz.prog 45 i45 := tok Tryz.types_size.symm Tryz.type45 Tryz.underlying45 (by rfl) (fun _ => ⟨by kernel_rfl, by kernel_rfl⟩)
def i47 : TI := ⟨.struct [(0, 9), (1, 45), (4, 45)], 7, 64, (.agg (.cons (.str fun _ => ByteArray.empty) (.cons (.agg (.cons (.int .i64 fun _ => 0) (.cons (.int .i64 fun _ => 0) (.cons (.int .i64 fun _ => 0) .nil)))) (.cons (.agg (.cons (.int .i64 fun _ => 0) (.cons (.int .i64 fun _ => 0) (.cons (.int .i64 fun _ => 0) .nil)))) .nil))))⟩
theorem ok47 : TOK Tryz.prog 47 i47 := tok Tryz.types_size.symm Tryz.type47 Tryz.underlying47 (by rfl) (fun _ => ⟨by kernel_rfl, by kernel_rfl⟩)
def i48 : TI := ⟨.arr 3 4, 3, 3, (.arrB 3 fun _ => List.replicate 3 false)⟩
theorem ok48 : TOK Tryz.prog 48 i48 := tok Tryz.types_size.symm Tryz.type48 Tryz.underlying48 (by rfl) (fun _ => ⟨by kernel_rfl, by kernel_rfl⟩)
def i50 : TI := ⟨.struct [(0, 9), (1, 45), (4, 45), (7, 48)], 10, 72, (.agg (.cons (.str fun _ => ByteArray.empty) (.cons (.agg (.cons (.int .i64 fun _ => 0) (.cons (.int .i64 fun _ => 0) (.cons (.int .i64 fun _ => 0) .nil)))) (.cons (.agg (.cons (.int .i64 fun _ => 0) (.cons (.int .i64 fun _ => 0) (.cons (.int .i64 fun _ => 0) .nil)))) (.cons (.arrB 3 fun _ => List.replicate 3 false) .nil)))))⟩
theorem ok50 : TOK Tryz.prog 50 i50 := tok Tryz.types_size.symm Tryz.type50 Tryz.underlying50 (by rfl) (fun _ => ⟨by kernel_rfl, by kernel_rfl⟩)
def i56 : TI := ⟨.slice 9, 1, 24, .nils⟩
theorem ok56 : TOK Tryz.prog 56 i56 := tok Tryz.types_size.symm Tryz.type56 Tryz.underlying56 (by rfl) (fun h => by cases h)
def i64 : TI := ⟨.func, 1, 8, .nilf⟩
theorem ok64 : TOK Tryz.prog 64 i64 := tok Tryz.types_size.symm Tryz.type64 Tryz.underlying64 (by rfl) (fun h => by cases h)
def i65 : TI := ⟨.func, 1, 8, .nilf⟩
theorem ok65 : TOK Tryz.prog 65 i65 := tok Tryz.types_size.symm Tryz.type65 Tryz.underlying65 (by rfl) (fun h => by cases h)
def i74 : TI := ⟨.func, 1, 8, .nilf⟩
theorem ok74 : TOK Tryz.prog 74 i74 := tok Tryz.types_size.symm Tryz.type74 Tryz.underlying74 (by rfl) (fun h => by cases h)
def i77 : TI := ⟨.int .u64, 1, 8, (.int .u64 fun _ => 0)⟩
theorem ok77 : TOK Tryz.prog 77 i77 := tok Tryz.types_size.symm Tryz.type77 Tryz.underlying77 (by rfl) (fun h => by cases h)
def i79 : TI := ⟨.struct [(0, 77), (1, 77)], 2, 16, (.agg (.cons (.int .u64 fun _ => 0) (.cons (.int .u64 fun _ => 0) .nil)))⟩
theorem ok79 : TOK Tryz.prog 79 i79 := tok Tryz.types_size.symm Tryz.type79 Tryz.underlying79 (by rfl) (fun _ => ⟨by kernel_rfl, by kernel_rfl⟩)
def i81 : TI := ⟨.arr 20 77, 20, 160, (.arrI .u64 20 fun _ => List.replicate 20 0)⟩
theorem ok81 : TOK Tryz.prog 81 i81 := tok Tryz.types_size.symm Tryz.type81 Tryz.underlying81 (by rfl) (fun _ => ⟨by kernel_rfl, by kernel_rfl⟩)
def i82 : TI := ⟨.arr 20 77, 20, 160, (.arrI .u64 20 fun _ => List.replicate 20 0)⟩
theorem ok82 : TOK Tryz.prog 82 i82 := tok Tryz.types_size.symm Tryz.type82 Tryz.underlying82 (by rfl) (fun _ => ⟨by kernel_rfl, by kernel_rfl⟩)
def i89 : TI := ⟨.func, 1, 8, .nilf⟩
theorem ok89 : TOK Tryz.prog 89 i89 := tok Tryz.types_size.symm Tryz.type89 Tryz.underlying89 (by rfl) (fun h => by cases h)
def i92 : TI := ⟨.ptr 95, 1, 8, .nilp⟩
theorem ok92 : TOK Tryz.prog 92 i92 := tok Tryz.types_size.symm Tryz.type92 Tryz.underlying92 (by rfl) (fun h => by cases h)
def i93 : TI := ⟨.slice 5, 1, 24, .nils⟩
theorem ok93 : TOK Tryz.prog 93 i93 := tok Tryz.types_size.symm Tryz.type93 Tryz.underlying93 (by rfl) (fun h => by cases h)
def i95 : TI := ⟨.struct [(0, 92), (1, 93)], 2, 32, (.agg (.cons .nilp (.cons .nils .nil)))⟩
theorem ok95 : TOK Tryz.prog 95 i95 := tok Tryz.types_size.symm Tryz.type95 Tryz.underlying95 (by rfl) (fun _ => ⟨by kernel_rfl, by kernel_rfl⟩)
def i98 : TI := ⟨.iface, 1, 16, .nili⟩
theorem ok98 : TOK Tryz.prog 98 i98 := tok Tryz.types_size.symm Tryz.type98 Tryz.underlying98 (by rfl) (fun h => by cases h)
def i108 : TI := ⟨.slice 45, 1, 24, .nils⟩
theorem ok108 : TOK Tryz.prog 108 i108 := tok Tryz.types_size.symm Tryz.type108 Tryz.underlying108 (by rfl) (fun h => by cases h)
def i117 : TI := ⟨.ptr 5, 1, 8, .nilp⟩
theorem ok117 : TOK Tryz.prog 117 i117 := tok Tryz.types_size.symm Tryz.type117 Tryz.underlying117 (by rfl) (fun h => by cases h)
def i118 : TI := ⟨.arr 3 3, 3, 24, (.arrI .i64 3 fun _ => List.replicate 3 0)⟩
theorem ok118 : TOK Tryz.prog 118 i118 := tok Tryz.types_size.symm Tryz.type118 Tryz.underlying118 (by rfl) (fun _ => ⟨by kernel_rfl, by kernel_rfl⟩)
def i120 : TI := ⟨.arr 3 9, 3, 48, (.arrS 3 fun _ => List.replicate 3 ByteArray.empty)⟩
theorem ok120 : TOK Tryz.prog 120 i120 := tok Tryz.types_size.symm Tryz.type120 Tryz.underlying120 (by rfl) (fun _ => ⟨by kernel_rfl, by kernel_rfl⟩)
def i128 : TI := ⟨.arr 4 3, 4, 32, (.arrI .i64 4 fun _ => List.replicate 4 0)⟩
theorem ok128 : TOK Tryz.prog 128 i128 := tok Tryz.types_size.symm Tryz.type128 Tryz.underlying128 (by rfl) (fun _ => ⟨by kernel_rfl, by kernel_rfl⟩)
def i147 : TI := ⟨.int .i64, 1, 8, (.int .i64 fun _ => 0)⟩
theorem ok147 : TOK Tryz.prog 147 i147 := tok Tryz.types_size.symm Tryz.type147 Tryz.underlying147 (by rfl) (fun h => by cases h)
def i150 : TI := ⟨.ptr 177, 1, 8, .nilp⟩
theorem ok150 : TOK Tryz.prog 150 i150 := tok Tryz.types_size.symm Tryz.type150 Tryz.underlying150 (by rfl) (fun h => by cases h)
def i160 : TI := ⟨.int .u64, 1, 8, (.int .u64 fun _ => 0)⟩
theorem ok160 : TOK Tryz.prog 160 i160 := tok Tryz.types_size.symm Tryz.type160 Tryz.underlying160 (by rfl) (fun h => by cases h)
def i162 : TI := ⟨.arr 24 5, 24, 24, (.arrI .u8 24 fun _ => List.replicate 24 0)⟩
theorem ok162 : TOK Tryz.prog 162 i162 := tok Tryz.types_size.symm Tryz.type162 Tryz.underlying162 (by rfl) (fun _ => ⟨by kernel_rfl, by kernel_rfl⟩)
def i185 : TI := ⟨.slice 3, 1, 24, .nils⟩
theorem ok185 : TOK Tryz.prog 185 i185 := tok Tryz.types_size.symm Tryz.type185 Tryz.underlying185 (by rfl) (fun h => by cases h)
def i191 : TI := ⟨.int .u32, 1, 4, (.int .u32 fun _ => 0)⟩
theorem ok191 : TOK Tryz.prog 191 i191 := tok Tryz.types_size.symm Tryz.type191 Tryz.underlying191 (by rfl) (fun h => by cases h)
def i195 : TI := ⟨.func, 1, 8, .nilf⟩
theorem ok195 : TOK Tryz.prog 195 i195 := tok Tryz.types_size.symm Tryz.type195 Tryz.underlying195 (by rfl) (fun h => by cases h)
def i197 : TI := ⟨.arr 65 5, 65, 65, (.arrI .u8 65 fun _ => List.replicate 65 0)⟩
theorem ok197 : TOK Tryz.prog 197 i197 := tok Tryz.types_size.symm Tryz.type197 Tryz.underlying197 (by rfl) (fun _ => ⟨by kernel_rfl, by kernel_rfl⟩)
def i204 : TI := ⟨.arr 40 5, 40, 40, (.arrI .u8 40 fun _ => List.replicate 40 0)⟩
theorem ok204 : TOK Tryz.prog 204 i204 := tok Tryz.types_size.symm Tryz.type204 Tryz.underlying204 (by rfl) (fun _ => ⟨by kernel_rfl, by kernel_rfl⟩)
def i205 : TI := ⟨.arr 256 5, 256, 256, (.arrI .u8 256 fun _ => List.replicate 256 0)⟩
theorem ok205 : TOK Tryz.prog 205 i205 := tok Tryz.types_size.symm Tryz.type205 Tryz.underlying205 (by rfl) (fun _ => ⟨by kernel_rfl, by kernel_rfl⟩)
def i207 : TI := ⟨.struct [(0, 5), (1, 5)], 2, 2, (.agg (.cons (.int .u8 fun _ => 0) (.cons (.int .u8 fun _ => 0) .nil)))⟩
theorem ok207 : TOK Tryz.prog 207 i207 := tok Tryz.types_size.symm Tryz.type207 Tryz.underlying207 (by rfl) (fun _ => ⟨by kernel_rfl, by kernel_rfl⟩)
def i208 : TI := ⟨.arr 16 207, 32, 32, (.agg (.cons (.agg (.cons (.int .u8 fun _ => 0) (.cons (.int .u8 fun _ => 0) .nil))) (.cons (.agg (.cons (.int .u8 fun _ => 0) (.cons (.int .u8 fun _ => 0) .nil))) (.cons (.agg (.cons (.int .u8 fun _ => 0) (.cons (.int .u8 fun _ => 0) .nil))) (.cons (.agg (.cons (.int .u8 fun _ => 0) (.cons (.int .u8 fun _ => 0) .nil))) (.cons (.agg (.cons (.int .u8 fun _ => 0) (.cons (.int .u8 fun _ => 0) .nil))) (.cons (.agg (.cons (.int .u8 fun _ => 0) (.cons (.int .u8 fun _ => 0) .nil))) (.cons (.agg (.cons (.int .u8 fun _ => 0) (.cons (.int .u8 fun _ => 0) .nil))) (.cons (.agg (.cons (.int .u8 fun _ => 0) (.cons (.int .u8 fun _ => 0) .nil))) (.cons (.agg (.cons (.int .u8 fun _ => 0) (.cons (.int .u8 fun _ => 0) .nil))) (.cons (.agg (.cons (.int .u8 fun _ => 0) (.cons (.int .u8 fun _ => 0) .nil))) (.cons (.agg (.cons (.int .u8 fun _ => 0) (.cons (.int .u8 fun _ => 0) .nil))) (.cons (.agg (.cons (.int .u8 fun _ => 0) (.cons (.int .u8 fun _ => 0) .nil))) (.cons (.agg (.cons (.int .u8 fun _ => 0) (.cons (.int .u8 fun _ => 0) .nil))) (.cons (.agg (.cons (.int .u8 fun _ => 0) (.cons (.int .u8 fun _ => 0) .nil))) (.cons (.agg (.cons (.int .u8 fun _ => 0) (.cons (.int .u8 fun _ => 0) .nil))) (.cons (.agg (.cons (.int .u8 fun _ => 0) (.cons (.int .u8 fun _ => 0) .nil))) .nil)))))))))))))))))⟩
theorem ok208 : TOK Tryz.prog 208 i208 := tok Tryz.types_size.symm Tryz.type208 Tryz.underlying208 (by rfl) (fun _ => ⟨by kernel_rfl, by kernel_rfl⟩)
def i210 : TI := ⟨.ptr 212, 1, 8, .nilp⟩
theorem ok210 : TOK Tryz.prog 210 i210 := tok Tryz.types_size.symm Tryz.type210 Tryz.underlying210 (by rfl) (fun h => by cases h)
def i212 : TI := ⟨.struct [(0, 9)], 1, 16, (.agg (.cons (.str fun _ => ByteArray.empty) .nil))⟩
theorem ok212 : TOK Tryz.prog 212 i212 := tok Tryz.types_size.symm Tryz.type212 Tryz.underlying212 (by rfl) (fun _ => ⟨by kernel_rfl, by kernel_rfl⟩)
def i216 : TI := ⟨.struct [(0, 9), (1, 3), (2, 3)], 3, 32, (.agg (.cons (.str fun _ => ByteArray.empty) (.cons (.int .i64 fun _ => 0) (.cons (.int .i64 fun _ => 0) .nil))))⟩
theorem ok216 : TOK Tryz.prog 216 i216 := tok Tryz.types_size.symm Tryz.type216 Tryz.underlying216 (by rfl) (fun _ => ⟨by kernel_rfl, by kernel_rfl⟩)
def i225 : TI := ⟨.slice 216, 1, 24, .nils⟩
theorem ok225 : TOK Tryz.prog 225 i225 := tok Tryz.types_size.symm Tryz.type225 Tryz.underlying225 (by rfl) (fun h => by cases h)
def i230 : TI := ⟨.arr 32 5, 32, 32, (.arrI .u8 32 fun _ => List.replicate 32 0)⟩
theorem ok230 : TOK Tryz.prog 230 i230 := tok Tryz.types_size.symm Tryz.type230 Tryz.underlying230 (by rfl) (fun _ => ⟨by kernel_rfl, by kernel_rfl⟩)
def i231 : TI := ⟨.arr 64 5, 64, 64, (.arrI .u8 64 fun _ => List.replicate 64 0)⟩
theorem ok231 : TOK Tryz.prog 231 i231 := tok Tryz.types_size.symm Tryz.type231 Tryz.underlying231 (by rfl) (fun _ => ⟨by kernel_rfl, by kernel_rfl⟩)
def i239 : TI := ⟨.int .u8, 1, 1, (.int .u8 fun _ => 0)⟩
theorem ok239 : TOK Tryz.prog 239 i239 := tok Tryz.types_size.symm Tryz.type239 Tryz.underlying239 (by rfl) (fun h => by cases h)
end TyTab
open TyTab in
def tyT : Nat -> Option TI := fun t => (bif bltN t 79 then (bif bltN t 24 then (bif bltN t 10 then (bif bltN t 5 then (bif bltN t 3 then (bif beqN t 2 then some i2 else none) else (bif bltN t 4 then (bif beqN t 3 then some i3 else none) else (bif beqN t 4 then some i4 else none))) else (bif bltN t 8 then (bif bltN t 6 then (bif beqN t 5 then some i5 else none) else (bif beqN t 6 then some i6 else none)) else (bif bltN t 9 then (bif beqN t 8 then some i8 else none) else (bif beqN t 9 then some i9 else none)))) else (bif bltN t 17 then (bif bltN t 15 then (bif bltN t 11 then (bif beqN t 10 then some i10 else none) else (bif beqN t 11 then some i11 else none)) else (bif bltN t 16 then (bif beqN t 15 then some i15 else none) else (bif beqN t 16 then some i16 else none))) else (bif bltN t 21 then (bif bltN t 20 then (bif beqN t 17 then some i17 else none) else (bif beqN t 20 then some i20 else none)) else (bif bltN t 22 then (bif beqN t 21 then some i21 else none) else (bif beqN t 22 then some i22 else none))))) else (bif bltN t 47 then (bif bltN t 35 then (bif bltN t 27 then (bif bltN t 25 then (bif beqN t 24 then some i24 else none) else (bif beqN t 25 then some i25 else none)) else (bif bltN t 32 then (bif beqN t 27 then some i27 else none) else (bif beqN t 32 then some i32 else none))) else (bif bltN t 40 then (bif bltN t 36 then (bif beqN t 35 then some i35 else none) else (bif beqN t 36 then some i36 else none)) else (bif bltN t 45 then (bif beqN t 40 then some i40 else none) else (bif beqN t 45 then some i45 else none)))) else (bif bltN t 64 then (bif bltN t 50 then (bif bltN t 48 then (bif beqN t 47 then some i47 else none) else (bif beqN t 48 then some i48 else none)) else (bif bltN t 56 then (bif beqN t 50 then some i50 else none) else (bif beqN t 56 then some i56 else none))) else (bif bltN t 74 then (bif bltN t 65 then (bif beqN t 64 then some i64 else none) else (bif beqN t 65 then some i65 else none)) else (bif bltN t 77 then (bif beqN t 74 then some i74 else none) else (bif beqN t 77 then some i77 else none)))))) else (bif bltN t 162 then (bif bltN t 108 then (bif bltN t 92 then (bif bltN t 82 then (bif bltN t 81 then (bif beqN t 79 then some i79 else none) else (bif beqN t 81 then some i81 else none)) else (bif bltN t 89 then (bif beqN t 82 then some i82 else none) else (bif beqN t 89 then some i89 else none))) else (bif bltN t 95 then (bif bltN t 93 then (bif beqN t 92 then some i92 else none) else (bif beqN t 93 then some i93 else none)) else (bif bltN t 98 then (bif beqN t 95 then some i95 else none) else (bif beqN t 98 then some i98 else none)))) else (bif bltN t 128 then (bif bltN t 118 then (bif bltN t 117 then (bif beqN t 108 then some i108 else none) else (bif beqN t 117 then some i117 else none)) else (bif bltN t 120 then (bif beqN t 118 then some i118 else none) else (bif beqN t 120 then some i120 else none))) else (bif bltN t 150 then (bif bltN t 147 then (bif beqN t 128 then some i128 else none) else (bif beqN t 147 then some i147 else none)) else (bif bltN t 160 then (bif beqN t 150 then some i150 else none) else (bif beqN t 160 then some i160 else none))))) else (bif bltN t 208 then (bif bltN t 197 then (bif bltN t 191 then (bif bltN t 185 then (bif beqN t 162 then some i162 else none) else (bif beqN t 185 then some i185 else none)) else (bif bltN t 195 then (bif beqN t 191 then some i191 else none) else (bif beqN t 195 then some i195 else none))) else (bif bltN t 205 then (bif bltN t 204 then (bif beqN t 197 then some i197 else none) else (bif beqN t 204 then some i204 else none)) else (bif bltN t 207 then (bif beqN t 205 then some i205 else none) else (bif beqN t 207 then some i207 else none)))) else (bif bltN t 225 then (bif bltN t 212 then (bif bltN t 210 then (bif beqN t 208 then some i208 else none) else (bif beqN t 210 then some i210 else none)) else (bif bltN t 216 then (bif beqN t 212 then some i212 else none) else (bif beqN t 216 then some i216 else none))) else (bif bltN t 231 then (bif bltN t 230 then (bif beqN t 225 then some i225 else none) else (bif beqN t 230 then some i230 else none)) else (bif bltN t 239 then (bif beqN t 231 then some i231 else none) else (bif beqN t 239 then some i239 else none)))))))
open TyTab in
theorem tyOK : TT Tryz.prog tyT := (TT_bif (TT_bif (TT_bif (TT_bif (TT_bif (TT_leaf ok2) (TT_bif (TT_leaf ok3) (TT_leaf ok4))) (TT_bif (TT_bif (TT_leaf ok5) (TT_leaf ok6)) (TT_bif (TT_leaf ok8) (TT_leaf ok9)))) (TT_bif (TT_bif (TT_bif (TT_leaf ok10) (TT_leaf ok11)) (TT_bif (TT_leaf ok15) (TT_leaf ok16))) (TT_bif (TT_bif (TT_leaf ok17) (TT_leaf ok20)) (TT_bif (TT_leaf ok21) (TT_leaf ok22))))) (TT_bif (TT_bif (TT_bif (TT_bif (TT_leaf ok24) (TT_leaf ok25)) (TT_bif (TT_leaf ok27) (TT_leaf ok32))) (TT_bif (TT_bif (TT_leaf ok35) (TT_leaf ok36)) (TT_bif (TT_leaf ok40) (TT_leaf ok45)))) (TT_bif (TT_bif (TT_bif (TT_leaf ok47) (TT_leaf ok48)) (TT_bif (TT_leaf ok50) (TT_leaf ok56))) (TT_bif (TT_bif (TT_leaf ok64) (TT_leaf ok65)) (TT_bif (TT_leaf ok74) (TT_leaf ok77)))))) (TT_bif (TT_bif (TT_bif (TT_bif (TT_bif (TT_leaf ok79) (TT_leaf ok81)) (TT_bif (TT_leaf ok82) (TT_leaf ok89))) (TT_bif (TT_bif (TT_leaf ok92) (TT_leaf ok93)) (TT_bif (TT_leaf ok95) (TT_leaf ok98)))) (TT_bif (TT_bif (TT_bif (TT_leaf ok108) (TT_leaf ok117)) (TT_bif (TT_leaf ok118) (TT_leaf ok120))) (TT_bif (TT_bif (TT_leaf ok128) (TT_leaf ok147)) (TT_bif (TT_leaf ok150) (TT_leaf ok160))))) (TT_bif (TT_bif (TT_bif (TT_bif (TT_leaf ok162) (TT_leaf ok185)) (TT_bif (TT_leaf ok191) (TT_leaf ok195))) (TT_bif (TT_bif (TT_leaf ok197) (TT_leaf ok204)) (TT_bif (TT_leaf ok205) (TT_leaf ok207)))) (TT_bif (TT_bif (TT_bif (TT_leaf ok208) (TT_leaf ok210)) (TT_bif (TT_leaf ok212) (TT_leaf ok216))) (TT_bif (TT_bif (TT_leaf ok225) (TT_leaf ok230)) (TT_bif (TT_leaf ok231) (TT_leaf ok239)))))))
def facts (M : Mem) : Prop := (∀ g, Tryz.prog.globalNamed "internal/bytealg.MaxLen" = some g -> ∃ cs t fr m, M.stat g = some (.cells cs t fr) /\ cs[0]? = some (.int .i64 m)) /\
 (∀ g, Tryz.prog.globalNamed "internal/strconv.uint64pow10" = some g -> ∃ t fr, M.stat g = some (.cells (Lib.pow10Tab.map fun z => Value.int .u64 z).toArray t fr)) /\
 ∀ nm, (nm = "strconv.ErrSyntax" \/ nm = "strconv.ErrRange") -> ∀ g, Tryz.prog.globalNamed nm = some g -> ∃ tp p t fr, M.stat g = some (.cells #[.iface tp p] t fr)
theorem facts_mono (M M' : Mem) (h : M.le M') (k : facts M) : facts M' :=
 ⟨fun g hg => (by obtain ⟨cs, t, fr, m, e, e2⟩ := k.1 g hg; exact ⟨cs, t, fr, m, h.2 _ _ e, e2⟩), fun g hg => (by obtain ⟨t, fr, e⟩ := k.2.1 g hg; exact ⟨t, fr, h.2 _ _ e⟩), fun nm hn g hg => (by obtain ⟨tp, p, t, fr, e⟩ := k.2.2 nm hn g hg; exact ⟨tp, p, t, fr, h.2 _ _ e⟩)⟩
def G0 : Gs := ⟨fun _ => .undef, facts, facts_mono⟩
def ctx (fn : Func) : Ctx := { T := tyT, G := G0, res := fn.results.toList, N := fn.ntmps, n0 := 0 }
theorem mixed : Tryz.prog.follows .mixedOrders = true := by rfl
theorem ok (fn : Func) : OK Tryz.prog (ctx fn) fn := ⟨tyOK, mixed, rfl⟩
def body (fn : Func) : Code := fn.body.getD .skip
abbrev PF := PFun Tryz.prog G0
abbrev FN (f : Nat) (fn : Func) := FnOK Tryz.prog (ctx fn) f fn (body fn)
def F0 : Table := fun _ _ => none
theorem F0_ok : TableOK Tryz.prog G0 F0 := fun _ _ _ _ h => by cases h
def mkO (F : Table) : OpX := orX (callX F) (orX (appE tyT) (orX (buildX tyT) (orX (convX tyT) (sliceArrX tyT))))
theorem mkO_ok {F : Table} (h : TableOK Tryz.prog G0 F) : OpXOK Tryz.prog G0 (mkO F) := orX_ok (callX_ok h) (orX_ok (appE_ok tyOK) (orX_ok (buildX_ok tyOK) (orX_ok (convX_ok tyOK) (sliceArrX_ok tyOK))))
def i64 (n : Int) : PV := .int .i64 fun _ => n
def u64 (n : Int) : PV := .int .u64 fun _ => n
theorem qf4 : FN 4 Tryz.f4 := ⟨Tryz.func4, rfl, rfl, rfl, ⟨rfl, rfl⟩, ok _⟩
theorem qf6 : FN 6 Tryz.f6 := ⟨Tryz.func6, rfl, rfl, rfl, ⟨rfl, rfl⟩, ok _⟩
theorem qf7 : FN 7 Tryz.f7 := ⟨Tryz.func7, rfl, rfl, rfl, ⟨rfl, rfl⟩, ok _⟩
theorem qf8 : FN 8 Tryz.f8 := ⟨Tryz.func8, rfl, rfl, rfl, ⟨rfl, rfl⟩, ok _⟩
theorem qf9 : FN 9 Tryz.f9 := ⟨Tryz.func9, rfl, rfl, rfl, ⟨rfl, rfl⟩, ok _⟩
theorem qf10 : FN 10 Tryz.f10 := ⟨Tryz.func10, rfl, rfl, rfl, ⟨rfl, rfl⟩, ok _⟩
theorem qf11 : FN 11 Tryz.f11 := ⟨Tryz.func11, rfl, rfl, rfl, ⟨rfl, rfl⟩, ok _⟩
theorem qf12 : FN 12 Tryz.f12 := ⟨Tryz.func12, rfl, rfl, rfl, ⟨rfl, rfl⟩, ok _⟩
theorem qf13 : FN 13 Tryz.f13 := ⟨Tryz.func13, rfl, rfl, rfl, ⟨rfl, rfl⟩, ok _⟩
theorem qf14 : FN 14 Tryz.f14 := ⟨Tryz.func14, rfl, rfl, rfl, ⟨rfl, rfl⟩, ok _⟩
theorem qf15 : FN 15 Tryz.f15 := ⟨Tryz.func15, rfl, rfl, rfl, ⟨rfl, rfl⟩, ok _⟩
theorem qf16 : FN 16 Tryz.f16 := ⟨Tryz.func16, rfl, rfl, rfl, ⟨rfl, rfl⟩, ok _⟩
theorem qf17 : FN 17 Tryz.f17 := ⟨Tryz.func17, rfl, rfl, rfl, ⟨rfl, rfl⟩, ok _⟩
theorem qf18 : FN 18 Tryz.f18 := ⟨Tryz.func18, rfl, rfl, rfl, ⟨rfl, rfl⟩, ok _⟩
theorem qf19 : FN 19 Tryz.f19 := ⟨Tryz.func19, rfl, rfl, rfl, ⟨rfl, rfl⟩, ok _⟩
theorem qf20 : FN 20 Tryz.f20 := ⟨Tryz.func20, rfl, rfl, rfl, ⟨rfl, rfl⟩, ok _⟩
theorem qf21 : FN 21 Tryz.f21 := ⟨Tryz.func21, rfl, rfl, rfl, ⟨rfl, rfl⟩, ok _⟩
theorem qf22 : FN 22 Tryz.f22 := ⟨Tryz.func22, rfl, rfl, rfl, ⟨rfl, rfl⟩, ok _⟩
theorem qf23 : FN 23 Tryz.f23 := ⟨Tryz.func23, rfl, rfl, rfl, ⟨rfl, rfl⟩, ok _⟩
theorem qf24 : FN 24 Tryz.f24 := ⟨Tryz.func24, rfl, rfl, rfl, ⟨rfl, rfl⟩, ok _⟩
theorem qf25 : FN 25 Tryz.f25 := ⟨Tryz.func25, rfl, rfl, rfl, ⟨rfl, rfl⟩, ok _⟩
theorem qf26 : FN 26 Tryz.f26 := ⟨Tryz.func26, rfl, rfl, rfl, ⟨rfl, rfl⟩, ok _⟩
theorem qf27 : FN 27 Tryz.f27 := ⟨Tryz.func27, rfl, rfl, rfl, ⟨rfl, rfl⟩, ok _⟩
theorem qf28 : FN 28 Tryz.f28 := ⟨Tryz.func28, rfl, rfl, rfl, ⟨rfl, rfl⟩, ok _⟩
theorem qf29 : FN 29 Tryz.f29 := ⟨Tryz.func29, rfl, rfl, rfl, ⟨rfl, rfl⟩, ok _⟩
theorem qf30 : FN 30 Tryz.f30 := ⟨Tryz.func30, rfl, rfl, rfl, ⟨rfl, rfl⟩, ok _⟩
theorem qf31 : FN 31 Tryz.f31 := ⟨Tryz.func31, rfl, rfl, rfl, ⟨rfl, rfl⟩, ok _⟩
theorem qf32 : FN 32 Tryz.f32 := ⟨Tryz.func32, rfl, rfl, rfl, ⟨rfl, rfl⟩, ok _⟩
theorem qf33 : FN 33 Tryz.f33 := ⟨Tryz.func33, rfl, rfl, rfl, ⟨rfl, rfl⟩, ok _⟩
theorem qf34 : FN 34 Tryz.f34 := ⟨Tryz.func34, rfl, rfl, rfl, ⟨rfl, rfl⟩, ok _⟩
theorem qf35 : FN 35 Tryz.f35 := ⟨Tryz.func35, rfl, rfl, rfl, ⟨rfl, rfl⟩, ok _⟩
theorem qf36 : FN 36 Tryz.f36 := ⟨Tryz.func36, rfl, rfl, rfl, ⟨rfl, rfl⟩, ok _⟩
theorem qf37 : FN 37 Tryz.f37 := ⟨Tryz.func37, rfl, rfl, rfl, ⟨rfl, rfl⟩, ok _⟩
theorem qf38 : FN 38 Tryz.f38 := ⟨Tryz.func38, rfl, rfl, rfl, ⟨rfl, rfl⟩, ok _⟩
theorem qf39 : FN 39 Tryz.f39 := ⟨Tryz.func39, rfl, rfl, rfl, ⟨rfl, rfl⟩, ok _⟩
theorem qf40 : FN 40 Tryz.f40 := ⟨Tryz.func40, rfl, rfl, rfl, ⟨rfl, rfl⟩, ok _⟩
theorem qf41 : FN 41 Tryz.f41 := ⟨Tryz.func41, rfl, rfl, rfl, ⟨rfl, rfl⟩, ok _⟩
theorem qf42 : FN 42 Tryz.f42 := ⟨Tryz.func42, rfl, rfl, rfl, ⟨rfl, rfl⟩, ok _⟩
theorem qf43 : FN 43 Tryz.f43 := ⟨Tryz.func43, rfl, rfl, rfl, ⟨rfl, rfl⟩, ok _⟩
theorem qf44 : FN 44 Tryz.f44 := ⟨Tryz.func44, rfl, rfl, rfl, ⟨rfl, rfl⟩, ok _⟩
theorem qf45 : FN 45 Tryz.f45 := ⟨Tryz.func45, rfl, rfl, rfl, ⟨rfl, rfl⟩, ok _⟩
theorem qf46 : FN 46 Tryz.f46 := ⟨Tryz.func46, rfl, rfl, rfl, ⟨rfl, rfl⟩, ok _⟩
theorem qf47 : FN 47 Tryz.f47 := ⟨Tryz.func47, rfl, rfl, rfl, ⟨rfl, rfl⟩, ok _⟩
theorem qf48 : FN 48 Tryz.f48 := ⟨Tryz.func48, rfl, rfl, rfl, ⟨rfl, rfl⟩, ok _⟩
theorem qf49 : FN 49 Tryz.f49 := ⟨Tryz.func49, rfl, rfl, rfl, ⟨rfl, rfl⟩, ok _⟩
theorem qf50 : FN 50 Tryz.f50 := ⟨Tryz.func50, rfl, rfl, rfl, ⟨rfl, rfl⟩, ok _⟩
theorem qf51 : FN 51 Tryz.f51 := ⟨Tryz.func51, rfl, rfl, rfl, ⟨rfl, rfl⟩, ok _⟩
theorem qf52 : FN 52 Tryz.f52 := ⟨Tryz.func52, rfl, rfl, rfl, ⟨rfl, rfl⟩, ok _⟩
theorem qf53 : FN 53 Tryz.f53 := ⟨Tryz.func53, rfl, rfl, rfl, ⟨rfl, rfl⟩, ok _⟩
theorem qf54 : FN 54 Tryz.f54 := ⟨Tryz.func54, rfl, rfl, rfl, ⟨rfl, rfl⟩, ok _⟩
theorem qf55 : FN 55 Tryz.f55 := ⟨Tryz.func55, rfl, rfl, rfl, ⟨rfl, rfl⟩, ok _⟩
theorem qf56 : FN 56 Tryz.f56 := ⟨Tryz.func56, rfl, rfl, rfl, ⟨rfl, rfl⟩, ok _⟩
theorem qf57 : FN 57 Tryz.f57 := ⟨Tryz.func57, rfl, rfl, rfl, ⟨rfl, rfl⟩, ok _⟩
theorem qf58 : FN 58 Tryz.f58 := ⟨Tryz.func58, rfl, rfl, rfl, ⟨rfl, rfl⟩, ok _⟩
theorem qf59 : FN 59 Tryz.f59 := ⟨Tryz.func59, rfl, rfl, rfl, ⟨rfl, rfl⟩, ok _⟩
theorem qf63 : FN 63 Tryz.f63 := ⟨Tryz.func63, rfl, rfl, rfl, ⟨rfl, rfl⟩, ok _⟩
theorem qf64 : FN 64 Tryz.f64 := ⟨Tryz.func64, rfl, rfl, rfl, ⟨rfl, rfl⟩, ok _⟩
theorem qf65 : FN 65 Tryz.f65 := ⟨Tryz.func65, rfl, rfl, rfl, ⟨rfl, rfl⟩, ok _⟩
theorem qf67 : FN 67 Tryz.f67 := ⟨Tryz.func67, rfl, rfl, rfl, ⟨rfl, rfl⟩, ok _⟩
theorem qf68 : FN 68 Tryz.f68 := ⟨Tryz.func68, rfl, rfl, rfl, ⟨rfl, rfl⟩, ok _⟩
theorem qf69 : FN 69 Tryz.f69 := ⟨Tryz.func69, rfl, rfl, rfl, ⟨rfl, rfl⟩, ok _⟩
theorem qf70 : FN 70 Tryz.f70 := ⟨Tryz.func70, rfl, rfl, rfl, ⟨rfl, rfl⟩, ok _⟩
theorem qf72 : FN 72 Tryz.f72 := ⟨Tryz.func72, rfl, rfl, rfl, ⟨rfl, rfl⟩, ok _⟩
theorem qf73 : FN 73 Tryz.f73 := ⟨Tryz.func73, rfl, rfl, rfl, ⟨rfl, rfl⟩, ok _⟩
theorem qf74 : FN 74 Tryz.f74 := ⟨Tryz.func74, rfl, rfl, rfl, ⟨rfl, rfl⟩, ok _⟩
theorem qf75 : FN 75 Tryz.f75 := ⟨Tryz.func75, rfl, rfl, rfl, ⟨rfl, rfl⟩, ok _⟩
theorem qf76 : FN 76 Tryz.f76 := ⟨Tryz.func76, rfl, rfl, rfl, ⟨rfl, rfl⟩, ok _⟩
theorem qf77 : FN 77 Tryz.f77 := ⟨Tryz.func77, rfl, rfl, rfl, ⟨rfl, rfl⟩, ok _⟩
theorem qf78 : FN 78 Tryz.f78 := ⟨Tryz.func78, rfl, rfl, rfl, ⟨rfl, rfl⟩, ok _⟩
theorem qf79 : FN 79 Tryz.f79 := ⟨Tryz.func79, rfl, rfl, rfl, ⟨rfl, rfl⟩, ok _⟩
theorem qf80 : FN 80 Tryz.f80 := ⟨Tryz.func80, rfl, rfl, rfl, ⟨rfl, rfl⟩, ok _⟩
theorem qf84 : FN 84 Tryz.f84 := ⟨Tryz.func84, rfl, rfl, rfl, ⟨rfl, rfl⟩, ok _⟩
theorem qf85 : FN 85 Tryz.f85 := ⟨Tryz.func85, rfl, rfl, rfl, ⟨rfl, rfl⟩, ok _⟩
theorem qf86 : FN 86 Tryz.f86 := ⟨Tryz.func86, rfl, rfl, rfl, ⟨rfl, rfl⟩, ok _⟩
theorem qf92 : FN 92 Tryz.f92 := ⟨Tryz.func92, rfl, rfl, rfl, ⟨rfl, rfl⟩, ok _⟩
theorem qf93 : FN 93 Tryz.f93 := ⟨Tryz.func93, rfl, rfl, rfl, ⟨rfl, rfl⟩, ok _⟩
theorem qf95 : FN 95 Tryz.f95 := ⟨Tryz.func95, rfl, rfl, rfl, ⟨rfl, rfl⟩, ok _⟩
theorem qf96 : FN 96 Tryz.f96 := ⟨Tryz.func96, rfl, rfl, rfl, ⟨rfl, rfl⟩, ok _⟩
theorem qf97 : FN 97 Tryz.f97 := ⟨Tryz.func97, rfl, rfl, rfl, ⟨rfl, rfl⟩, ok _⟩
theorem qf98 : FN 98 Tryz.f98 := ⟨Tryz.func98, rfl, rfl, rfl, ⟨rfl, rfl⟩, ok _⟩
theorem qf99 : FN 99 Tryz.f99 := ⟨Tryz.func99, rfl, rfl, rfl, ⟨rfl, rfl⟩, ok _⟩
theorem qf100 : FN 100 Tryz.f100 := ⟨Tryz.func100, rfl, rfl, rfl, ⟨rfl, rfl⟩, ok _⟩
theorem qf101 : FN 101 Tryz.f101 := ⟨Tryz.func101, rfl, rfl, rfl, ⟨rfl, rfl⟩, ok _⟩
theorem qf102 : FN 102 Tryz.f102 := ⟨Tryz.func102, rfl, rfl, rfl, ⟨rfl, rfl⟩, ok _⟩
theorem qf103 : FN 103 Tryz.f103 := ⟨Tryz.func103, rfl, rfl, rfl, ⟨rfl, rfl⟩, ok _⟩
theorem qf104 : FN 104 Tryz.f104 := ⟨Tryz.func104, rfl, rfl, rfl, ⟨rfl, rfl⟩, ok _⟩
theorem qf108 : FN 108 Tryz.f108 := ⟨Tryz.func108, rfl, rfl, rfl, ⟨rfl, rfl⟩, ok _⟩
theorem qf109 : FN 109 Tryz.f109 := ⟨Tryz.func109, rfl, rfl, rfl, ⟨rfl, rfl⟩, ok _⟩
theorem qf110 : FN 110 Tryz.f110 := ⟨Tryz.func110, rfl, rfl, rfl, ⟨rfl, rfl⟩, ok _⟩
theorem qf111 : FN 111 Tryz.f111 := ⟨Tryz.func111, rfl, rfl, rfl, ⟨rfl, rfl⟩, ok _⟩
theorem qf120 : FN 120 Tryz.f120 := ⟨Tryz.func120, rfl, rfl, rfl, ⟨rfl, rfl⟩, ok _⟩
theorem qf121 : FN 121 Tryz.f121 := ⟨Tryz.func121, rfl, rfl, rfl, ⟨rfl, rfl⟩, ok _⟩
theorem qf122 : FN 122 Tryz.f122 := ⟨Tryz.func122, rfl, rfl, rfl, ⟨rfl, rfl⟩, ok _⟩
theorem qf123 : FN 123 Tryz.f123 := ⟨Tryz.func123, rfl, rfl, rfl, ⟨rfl, rfl⟩, ok _⟩
theorem qf128 : FN 128 Tryz.f128 := ⟨Tryz.func128, rfl, rfl, rfl, ⟨rfl, rfl⟩, ok _⟩
theorem qf129 : FN 129 Tryz.f129 := ⟨Tryz.func129, rfl, rfl, rfl, ⟨rfl, rfl⟩, ok _⟩
theorem qf134 : FN 134 Tryz.f134 := ⟨Tryz.func134, rfl, rfl, rfl, ⟨rfl, rfl⟩, ok _⟩
theorem qf135 : FN 135 Tryz.f135 := ⟨Tryz.func135, rfl, rfl, rfl, ⟨rfl, rfl⟩, ok _⟩
theorem qf136 : FN 136 Tryz.f136 := ⟨Tryz.func136, rfl, rfl, rfl, ⟨rfl, rfl⟩, ok _⟩
theorem qf137 : FN 137 Tryz.f137 := ⟨Tryz.func137, rfl, rfl, rfl, ⟨rfl, rfl⟩, ok _⟩
theorem qf138 : FN 138 Tryz.f138 := ⟨Tryz.func138, rfl, rfl, rfl, ⟨rfl, rfl⟩, ok _⟩
theorem qf139 : FN 139 Tryz.f139 := ⟨Tryz.func139, rfl, rfl, rfl, ⟨rfl, rfl⟩, ok _⟩
theorem qf144 : FN 144 Tryz.f144 := ⟨Tryz.func144, rfl, rfl, rfl, ⟨rfl, rfl⟩, ok _⟩
theorem qf145 : FN 145 Tryz.f145 := ⟨Tryz.func145, rfl, rfl, rfl, ⟨rfl, rfl⟩, ok _⟩
theorem qf146 : FN 146 Tryz.f146 := ⟨Tryz.func146, rfl, rfl, rfl, ⟨rfl, rfl⟩, ok _⟩
theorem qf147 : FN 147 Tryz.f147 := ⟨Tryz.func147, rfl, rfl, rfl, ⟨rfl, rfl⟩, ok _⟩
theorem qf148 : FN 148 Tryz.f148 := ⟨Tryz.func148, rfl, rfl, rfl, ⟨rfl, rfl⟩, ok _⟩
theorem qf149 : FN 149 Tryz.f149 := ⟨Tryz.func149, rfl, rfl, rfl, ⟨rfl, rfl⟩, ok _⟩
theorem qf150 : FN 150 Tryz.f150 := ⟨Tryz.func150, rfl, rfl, rfl, ⟨rfl, rfl⟩, ok _⟩
theorem qf151 : FN 151 Tryz.f151 := ⟨Tryz.func151, rfl, rfl, rfl, ⟨rfl, rfl⟩, ok _⟩
theorem qf152 : FN 152 Tryz.f152 := ⟨Tryz.func152, rfl, rfl, rfl, ⟨rfl, rfl⟩, ok _⟩
theorem qf155 : FN 155 Tryz.f155 := ⟨Tryz.func155, rfl, rfl, rfl, ⟨rfl, rfl⟩, ok _⟩
theorem qf156 : FN 156 Tryz.f156 := ⟨Tryz.func156, rfl, rfl, rfl, ⟨rfl, rfl⟩, ok _⟩
theorem qf162 : FN 162 Tryz.f162 := ⟨Tryz.func162, rfl, rfl, rfl, ⟨rfl, rfl⟩, ok _⟩
theorem qf163 : FN 163 Tryz.f163 := ⟨Tryz.func163, rfl, rfl, rfl, ⟨rfl, rfl⟩, ok _⟩
theorem qf164 : FN 164 Tryz.f164 := ⟨Tryz.func164, rfl, rfl, rfl, ⟨rfl, rfl⟩, ok _⟩
theorem qf165 : FN 165 Tryz.f165 := ⟨Tryz.func165, rfl, rfl, rfl, ⟨rfl, rfl⟩, ok _⟩
theorem qf168 : FN 168 Tryz.f168 := ⟨Tryz.func168, rfl, rfl, rfl, ⟨rfl, rfl⟩, ok _⟩
theorem qf169 : FN 169 Tryz.f169 := ⟨Tryz.func169, rfl, rfl, rfl, ⟨rfl, rfl⟩, ok _⟩
theorem qf170 : FN 170 Tryz.f170 := ⟨Tryz.func170, rfl, rfl, rfl, ⟨rfl, rfl⟩, ok _⟩
theorem qf171 : FN 171 Tryz.f171 := ⟨Tryz.func171, rfl, rfl, rfl, ⟨rfl, rfl⟩, ok _⟩
theorem qf172 : FN 172 Tryz.f172 := ⟨Tryz.func172, rfl, rfl, rfl, ⟨rfl, rfl⟩, ok _⟩
theorem qf173 : FN 173 Tryz.f173 := ⟨Tryz.func173, rfl, rfl, rfl, ⟨rfl, rfl⟩, ok _⟩
theorem qf174 : FN 174 Tryz.f174 := ⟨Tryz.func174, rfl, rfl, rfl, ⟨rfl, rfl⟩, ok _⟩
theorem qf175 : FN 175 Tryz.f175 := ⟨Tryz.func175, rfl, rfl, rfl, ⟨rfl, rfl⟩, ok _⟩
theorem qf176 : FN 176 Tryz.f176 := ⟨Tryz.func176, rfl, rfl, rfl, ⟨rfl, rfl⟩, ok _⟩
theorem qf179 : FN 179 Tryz.f179 := ⟨Tryz.func179, rfl, rfl, rfl, ⟨rfl, rfl⟩, ok _⟩
theorem qf180 : FN 180 Tryz.f180 := ⟨Tryz.func180, rfl, rfl, rfl, ⟨rfl, rfl⟩, ok _⟩
theorem qf181 : FN 181 Tryz.f181 := ⟨Tryz.func181, rfl, rfl, rfl, ⟨rfl, rfl⟩, ok _⟩
theorem qf182 : FN 182 Tryz.f182 := ⟨Tryz.func182, rfl, rfl, rfl, ⟨rfl, rfl⟩, ok _⟩
theorem qf183 : FN 183 Tryz.f183 := ⟨Tryz.func183, rfl, rfl, rfl, ⟨rfl, rfl⟩, ok _⟩
theorem qf184 : FN 184 Tryz.f184 := ⟨Tryz.func184, rfl, rfl, rfl, ⟨rfl, rfl⟩, ok _⟩
theorem qf185 : FN 185 Tryz.f185 := ⟨Tryz.func185, rfl, rfl, rfl, ⟨rfl, rfl⟩, ok _⟩
theorem qf186 : FN 186 Tryz.f186 := ⟨Tryz.func186, rfl, rfl, rfl, ⟨rfl, rfl⟩, ok _⟩
theorem qf187 : FN 187 Tryz.f187 := ⟨Tryz.func187, rfl, rfl, rfl, ⟨rfl, rfl⟩, ok _⟩
def wP (h l : Int) : PV := .agg (.cons (.int .u64 fun _ => h) (.cons (.int .u64 fun _ => l) .nil))
def shWide : Sh := .agg (.cons (.int .u64) (.cons (.int .u64) .nil))
theorem less_ok (a b c d : Int) (h1 : okW a b) (h2 : okW c d) : PF 174 (.cons (wP a b) (.cons (wP c d) .nil)) (.bool fun _ => decide (wN a b < wN c d)) := by
 refine qf174.tree (mkO_ok F0_ok) false 40 rfl ?_
 conv => arg 5; cbv
 have hl := wN_less h1 h2
 refine ⟨fun h => ⟨rfl, ?_⟩, fun h => ⟨fun g => ⟨rfl, ?_⟩, fun g => ⟨rfl, ?_⟩⟩⟩
 ·exact decide_eq_true (hl.2 (.inl (of_decide_eq_true h)))
 ·have g : a = c := by simpa using g
  have h := of_decide_eq_false h
  show decide (b < d) = decide (wN a b < wN c d)
  rw [decide_eq_decide, hl]; omega
 ·have g : ¬ a = c := by simpa using g
  have h := of_decide_eq_false h
  exact decide_eq_false fun hc => by rcases hl.1 hc with hc | hc <;> omega
noncomputable def Fv1 : Table := addS 174 (.cons shWide (.cons shWide .nil)) (fun a b c d => (.bool fun _ => decide (wN (a ()) (b ()) < wN (c ()) (d ())), [fun _ => okW (a ()) (b ()) /\ okW (c ()) (d ())])) F0
theorem Fv1_ok : TableOK Tryz.prog G0 Fv1 := addS_ok qf174.callable (fun a b c d h => less_ok (a ()) (b ()) (c ()) (d ()) h.1.1 h.1.2) F0_ok
theorem compare_ok (a b c d : Int) (h1 : okW a b) (h2 : okW c d) : PF 145 (.cons (wP a b) (.cons (wP c d) .nil)) (.int .i64 fun _ => if wN a b < wN c d then -1 else if wN c d < wN a b then 1 else 0) := by
 refine qf145.tree (mkO_ok Fv1_ok) false 40 rfl ?_
 conv => arg 5; cbv
 refine ⟨⟨⟨h1, h2⟩, trivial⟩, fun h => ⟨rfl, rfl, ?_⟩, fun h => ⟨⟨⟨h2, h1⟩, trivial⟩, fun g => ⟨rfl, rfl, ?_⟩, fun g => ⟨rfl, rfl, ?_⟩⟩⟩
 ·exact (if_pos (of_decide_eq_true h)).symm
 ·exact ((if_neg (of_decide_eq_false h)).trans (if_pos (of_decide_eq_true g))).symm
 ·exact ((if_neg (of_decide_eq_false h)).trans (if_neg (of_decide_eq_false g))).symm
theorem carry_ok (a b : Int) (ha : 0 <= a /\ a < 18446744073709551616) (hb : 0 <= b /\ b < 18446744073709551616) : PF 184 (.cons (u64 a) (.cons (u64 b) .nil)) (.int .u64 fun _ => (a + b) / 18446744073709551616) := by
 refine qf184.tree (mkO_ok F0_ok) false 40 rfl ?_
 conv => arg 5; cbv
 have hw : IntKind.u64.wrap (a + b) = (a + b) % 18446744073709551616 := rfl
 refine ⟨fun h => ⟨rfl, rfl, ?_⟩, fun h => ⟨rfl, rfl, ?_⟩⟩
 ·have h := of_decide_eq_true h
  show 1 = (a + b) / 18446744073709551616
  omega
 ·have h := of_decide_eq_false h
  show 0 = (a + b) / 18446744073709551616
  omega
theorem product_ok (a b : Int) (ha : 0 <= a /\ a < 18446744073709551616) (hb : 0 <= b /\ b < 18446744073709551616) : PF 179 (.cons (u64 a) (.cons (u64 b) .nil)) (.agg (.cons (.int .u64 fun _ => wHi (a.toNat * b.toNat)) (.cons (.int .u64 fun _ => wLo (a.toNat * b.toNat)) .nil))) := by
 refine qf179.tree (mkO_ok F0_ok) false 40 rfl ?_
 conv => arg 5; cbv
 have h32 : (0 : Int) <= 32 := by decide
 refine ⟨⟨h32, h32, h32, h32, h32, trivial⟩, rfl, ⟨rfl, ?_⟩, ⟨rfl, ?_⟩, rfl⟩
 ·have := prodHi_eq (a := a.toNat) (b := b.toNat) (by omega) (by omega)
  rw [Int.toNat_of_nonneg ha.1, Int.toNat_of_nonneg hb.1] at this
  exact this
 ·have := prodLo_eq a.toNat b.toNat
  rw [Int.toNat_of_nonneg ha.1, Int.toNat_of_nonneg hb.1] at this
  exact this
def lnA (x : Nat × Int × Nat) : Env := [(4, .int .i64 fun _ => stp x.1), (3, .int .i64 fun _ => x.2.1), (0, .int .u64 fun _ => (x.2.2 : Int))]
structure LI (a : Nat) (x : Nat × Int × Nat) : Prop where
 j : x.1 <= 6
 u : x.2.2 < 2 ^ (2 ^ x.1)
 n : x.2.1 + (bl x.2.2 : Int) = bl a
 n0 : 0 <= x.2.1
theorem length_ok (a : Nat) (ha : a < 18446744073709551616) : PF 180 (.cons (u64 a) .nil) (.int .i64 fun _ => (bl a : Int)) := by
 refine qf180.tree (mkO_ok F0_ok) false 40 rfl ?_
 conv => arg 5; cbv
 have hbl : bl a <= 64 := bl_le.2 ha
 refine run_inv (ι := Nat × Int × Nat) (fun x => x.1) (LI a) lnA (fun _ => []) 0 (6, 0, a) (fun i => i) (by rfl) (by rfl) ⟨Nat.le_refl _, ha, by show 0 + (bl a : Int) = bl a; omega, Int.le_refl 0⟩ ?_ ⟨iR, iR, iR, trivial⟩ trivial
 intro x hx ih
 obtain ⟨j, n, u⟩ := x
 have hn : n + (bl u : Int) = bl a := hx.n
 have hn0 : 0 <= n := hx.n0
 refine explore_ok (ok _) (mkO_ok F0_ok) (u := false) 20 _ rfl ?_
 conv => arg 5; cbv
 refine ⟨fun h => ?_, fun h => ?_⟩
 ·have h : 0 < stp j := of_decide_eq_true h
  have hj : 0 < j := by
   apply Classical.byContradiction
   intro hn
   rw [show j = 0 by omega] at h
   exact absurd h (by decide)
  obtain ⟨s1, s2, s3, s4, s5, s6⟩ := stp_ok (u := u) hj hx.j hx.u
  refine ⟨⟨by show 0 <= stp j; omega, trivial⟩, fun g => ⟨⟨by show 0 <= stp j; omega, by decide, trivial⟩, ?_⟩, fun g => ⟨⟨by decide, trivial⟩, ?_⟩⟩
  ·have g : (shr .u64 (u : Int) (stp j) != 0) = true := g
   have g : u / 2 ^ (stp j).toNat ≠ 0 := fun hc => by rw [s4, hc] at g; cases g
   have hb := bl_shift g
   refine ih (j - 1, n + stp j, u / 2 ^ (stp j).toNat) (fun i => i) ⟨by show j - 1 <= 6; have : j <= 6 := hx.j; omega, s5, by show n + stp j + (bl (u / 2 ^ (stp j).toNat) : Int) = bl a; omega, by show 0 <= n + stp j; omega⟩ (by show j - 1 < j; omega) (by rfl) ⟨⟨rfl, s3⟩, ⟨rfl, ?_⟩, ⟨rfl, s4⟩, trivial⟩ trivial
   show IntKind.i64.wrap (n + stp j) = n + stp j
   exact IntWalk.i64_in _ ⟨by omega, by omega⟩
  ·have g : (shr .u64 (u : Int) (stp j) != 0) = false := g
   have g : u / 2 ^ (stp j).toNat = 0 := Classical.byContradiction fun hc => by rw [s4] at g; simp only [bne_eq_false_iff_eq] at g; omega
   exact ih (j - 1, n, u) (fun i => i) ⟨by show j - 1 <= 6; have : j <= 6 := hx.j; omega, s6 g, hn, hn0⟩ (by show j - 1 < j; omega) (by rfl) ⟨⟨rfl, s3⟩, iR, iR, trivial⟩ trivial
 ·have h : ¬ 0 < stp j := of_decide_eq_false h
  have hj : j = 0 := by
   apply Classical.byContradiction
   intro hn
   exact h (stp_ok (u := u) (by omega) hx.j hx.u).1
  subst hj
  have hu : u < 2 := hx.u
  rw [bl_two hu] at hn
  refine ⟨rfl, rfl, ?_⟩
  show IntKind.i64.wrap (n + IntKind.i64.wrap (u : Int)) = (bl a : Int)
  rw [IntWalk.i64_in (u : Int) ⟨by omega, by omega⟩, IntWalk.i64_in _ ⟨by omega, by omega⟩]
  omega
noncomputable def Fv2 : Table := addS 145 (.cons shWide (.cons shWide .nil)) (fun a b c d => (.int .i64 fun _ => if wN (a ()) (b ()) < wN (c ()) (d ()) then -1 else if wN (c ()) (d ()) < wN (a ()) (b ()) then 1 else 0, [fun _ => okW (a ()) (b ()) /\ okW (c ()) (d ())]))
 (addS 184 (.cons (.int .u64) (.cons (.int .u64) .nil)) (fun a b => (.int .u64 fun _ => (a () + b ()) / 18446744073709551616, [fun _ => (0 <= a () /\ a () < 18446744073709551616) /\ 0 <= b () /\ b () < 18446744073709551616]))
 (addS 179 (.cons (.int .u64) (.cons (.int .u64) .nil)) (fun a b => ((.agg (.cons (.int .u64 fun _ => wHi ((a ()).toNat * (b ()).toNat)) (.cons (.int .u64 fun _ => wLo ((a ()).toNat * (b ()).toNat)) .nil))), [fun _ => (0 <= a () /\ a () < 18446744073709551616) /\ 0 <= b () /\ b () < 18446744073709551616]))
 (addS 180 (.cons (.int .u64) .nil) (fun a => (.int .i64 fun _ => (bl (a ()).toNat : Int), [fun _ => 0 <= a () /\ a () < 18446744073709551616])) Fv1)))
theorem Fv2_ok : TableOK Tryz.prog G0 Fv2 := addS_ok qf145.callable (fun a b c d h => compare_ok (a ()) (b ()) (c ()) (d ()) h.1.1 h.1.2) (addS_ok qf184.callable (fun a b h => carry_ok (a ()) (b ()) h.1.1 h.1.2)
 (addS_ok qf179.callable (fun a b h => product_ok (a ()) (b ()) h.1.1 h.1.2) (addS_ok qf180.callable (fun a h => by
  have := length_ok (a ()).toNat (by have := h.1; omega)
  rwa [show (((a ()).toNat : Nat) : Int) = a () from Int.toNat_of_nonneg h.1.1] at this) Fv1_ok)))
theorem bits_ok (a b : Int) (h : okW a b) : PF 164 (.cons (wP a b) .nil) (.int .i64 fun _ => (bl (wN a b) : Int)) := by
 refine qf164.tree (mkO_ok Fv2_ok) false 40 rfl ?_
 conv => arg 5; cbv
 obtain ⟨x, y, rfl, rfl, hx, hy⟩ := okW_nat h
 have hb := bl_words (a := x) hy
 have hb2 : bl x <= 64 := bl_le.2 hx
 refine ⟨fun g => ⟨⟨h.1, trivial⟩, rfl, rfl, ?_⟩, fun g => ⟨⟨h.2, trivial⟩, rfl, rfl, ?_⟩⟩
 ·have g : x ≠ 0 := by simpa using g
  rw [if_pos g] at hb
  show IntKind.i64.wrap (64 + (bl (x : Int).toNat : Int)) = (bl (wN x y) : Int)
  rw [wN_nat, hb, Int.toNat_natCast, IntWalk.i64_in _ ⟨by omega, by omega⟩]; omega
 ·have g : x = 0 := by simpa using g
  rw [if_neg (by omega)] at hb
  show (bl (y : Int).toNat : Int) = (bl (wN x y) : Int)
  rw [wN_nat, hb, Int.toNat_natCast]
theorem add_ok (a b c d : Int) (h1 : okW a b) (h2 : okW c d) : PF 171 (.cons (wP a b) (.cons (wP c d) .nil)) (.tuple (.cons (.agg (.cons (.int .u64 fun _ => wHi (capW (wN a b + wN c d))) (.cons (.int .u64 fun _ => wLo (capW (wN a b + wN c d))) .nil))) (.cons (.bool fun _ => decide (wN a b + wN c d < W128)) .nil))) := by
 refine qf171.tree (mkO_ok Fv2_ok) false 40 rfl ?_
 conv => arg 5; cbv
 have hw : ∀ n : Int, IntKind.u64.wrap n = n % 18446744073709551616 := fun _ => rfl
 obtain ⟨⟨a0, a1⟩, b0, b1⟩ := h1
 obtain ⟨⟨c0, c1⟩, d0, d1⟩ := h2
 have hs : wN a b + wN c d = (a.toNat + c.toNat) * 18446744073709551616 + (b.toNat + d.toNat) := by unfold wN; omega
 rw [hs]
 refine ⟨⟨⟨⟨b0, b1⟩, d0, d1⟩, ⟨⟨a0, a1⟩, c0, c1⟩, trivial⟩, fun g => ?_, fun g => ⟨⟨⟨?_, ?_⟩, trivial⟩, fun k => ?_, fun k => ?_⟩⟩
 ·have g : (a + c) / 18446744073709551616 ≠ 0 := by simpa using g
  have hn : ¬ (a.toNat + c.toNat) * 18446744073709551616 + (b.toNat + d.toNat) < W128 := by unfold W128; omega
  refine ⟨rfl, ⟨⟨rfl, ?_⟩, ⟨rfl, ?_⟩, rfl⟩, decide_eq_false hn, rfl⟩ <;> (unfold capW; rw [if_neg hn]; rfl)
 ·dsimp only; rw [hw]; omega
 ·dsimp only; omega
 ·have g : (a + c) / 18446744073709551616 = 0 := by simpa using g
  have k : (IntKind.u64.wrap (a + c) + (b + d) / 18446744073709551616) / 18446744073709551616 ≠ 0 := by simpa using k
  rw [hw] at k
  have hn : ¬ (a.toNat + c.toNat) * 18446744073709551616 + (b.toNat + d.toNat) < W128 := by unfold W128; omega
  refine ⟨rfl, ⟨⟨rfl, ?_⟩, ⟨rfl, ?_⟩, rfl⟩, decide_eq_false hn, rfl⟩ <;> (unfold capW; rw [if_neg hn]; rfl)
 ·have g : (a + c) / 18446744073709551616 = 0 := by simpa using g
  have k : (IntKind.u64.wrap (a + c) + (b + d) / 18446744073709551616) / 18446744073709551616 = 0 := by simpa using k
  rw [hw] at k
  have hn : (a.toNat + c.toNat) * 18446744073709551616 + (b.toNat + d.toNat) < W128 := by unfold W128; omega
  refine ⟨rfl, ⟨⟨rfl, ?_⟩, ⟨rfl, ?_⟩, rfl⟩, decide_eq_true hn, rfl⟩ <;> (unfold capW; rw [if_pos hn]; simp only [wHi, wLo, hw]; omega)
theorem right_ok (a b n : Int) (h : okW a b) (h0 : 0 <= n /\ n < 9223372036854775808) : PF 165 (.cons (wP a b) (.cons (i64 n) .nil)) (.agg (.cons (.int .u64 fun _ => wHi (wN a b / 2 ^ n.toNat)) (.cons (.int .u64 fun _ => wLo (wN a b / 2 ^ n.toNat)) .nil))) := by
 refine qf165.tree (mkO_ok F0_ok) false 40 rfl ?_
 conv => arg 5; cbv
 have hlt := wN_lt h
 obtain ⟨x, y, rfl, rfl, hx, hy⟩ := okW_nat h
 obtain ⟨k, rfl⟩ : ∃ k : Nat, n = k := ⟨n.toNat, by omega⟩
 rw [wN_nat] at *
 have hw1 : 64 <= k -> k < 128 -> IntKind.i64.wrap ((k : Int) - 64) = ((k - 64 : Nat) : Int) := fun _ _ => by rw [IntWalk.i64_in _ ⟨by omega, by omega⟩]; omega
 have hw2 : k < 64 -> IntKind.i64.wrap (64 - (k : Int)) = ((64 - k : Nat) : Int) := fun _ => by rw [IntWalk.i64_in _ ⟨by omega, by omega⟩]; omega
 refine ⟨fun g => ?_, fun g => ⟨fun g2 => ?_, fun g2 => ⟨fun g3 => ⟨⟨?_, trivial⟩, ?_⟩, fun g3 => ⟨⟨h0.1, h0.1, ?_, (by show drawOK _ _ = true; decide +kernel), trivial⟩, ?_⟩⟩⟩⟩
 ·have g : (k : Int) <= 0 := of_decide_eq_true g
  obtain rfl : k = 0 := by omega
  refine ⟨rfl, ⟨rfl, ?_⟩, ⟨rfl, ?_⟩, rfl⟩ <;> (simp only [Int.toNat_natCast, Nat.pow_zero, Nat.div_one, wHi, wLo]; omega)
 ·have g2 : (128 : Int) <= (k : Int) := of_decide_eq_true g2
  have e : (x * 18446744073709551616 + y) / 2 ^ k = 0 := Nat.div_eq_of_lt (Nat.lt_of_lt_of_le hlt (Nat.pow_le_pow_right (n := 2) (i := 128) (by omega) (by omega)))
  refine ⟨rfl, ⟨rfl, ?_⟩, ⟨rfl, ?_⟩, rfl⟩ <;> (simp only [Int.toNat_natCast]; rw [e]; rfl)
 ·have g2 : ¬ (128 : Int) <= (k : Int) := of_decide_eq_false g2
  have g3 : (64 : Int) <= (k : Int) := of_decide_eq_true g3
  show 0 <= IntKind.i64.wrap ((k : Int) - 64)
  rw [hw1 (by omega) (by omega)]; omega
 ·have g2 : ¬ (128 : Int) <= (k : Int) := of_decide_eq_false g2
  have g3 : (64 : Int) <= (k : Int) := of_decide_eq_true g3
  have e : (x * 18446744073709551616 + y) / 2 ^ k = x / 2 ^ (k - 64) := by
   rw [show k = 64 + (k - 64) by omega, Nat.pow_add, <- Nat.div_div_eq_div_mul, show 64 + (k - 64) - 64 = k - 64 by omega]
   congr 1
   show (x * 18446744073709551616 + y) / 18446744073709551616 = x
   omega
  have hl : x / 2 ^ (k - 64) <= x := Nat.div_le_self _ _
  refine ⟨rfl, ⟨rfl, ?_⟩, ⟨rfl, ?_⟩, rfl⟩ <;> (simp only [Int.toNat_natCast]; rw [e])
  ·exact (wHi_small (by omega)).symm
  ·rw [wLo_small (by omega), hw1 (by omega) (by omega)]
   exact shr_nat x _ (by omega)
 ·have g3 : ¬ (64 : Int) <= (k : Int) := of_decide_eq_false g3
  show 0 <= IntKind.i64.wrap (64 - (k : Int))
  rw [hw2 (by omega)]; omega
 ·have g3 : ¬ (64 : Int) <= (k : Int) := of_decide_eq_false g3
  obtain ⟨r1, r2, r3⟩ := right_words (a := x) (b := y) (n := k) hy (by omega)
  refine ⟨rfl, ⟨rfl, ?_⟩, ⟨rfl, ?_⟩, rfl⟩ <;> simp only [Int.toNat_natCast]
  ·unfold wHi
   rw [r1]; exact shr_nat x k (by omega)
  ·unfold wLo
   have hm : 2 ^ (64 - k) * x % 18446744073709551616 = 2 ^ (64 - k) * (x % 2 ^ k) := by
    rw [show (18446744073709551616 : Nat) = 2 ^ (64 - k) * 2 ^ k by rw [<- Nat.pow_add, show 64 - k + k = 64 by omega], Nat.mul_mod_mul_left]
   rw [r2, hw2 (by omega), shr_nat y k (by omega), shl_nat x _ (by omega), Nat.mul_comm x, hm, or_nat (Nat.lt_of_le_of_lt (Nat.div_le_self _ _) hy) (by rw [<- hm]; exact Nat.mod_lt _ (by omega)), Nat.or_comm, or_add r3]
noncomputable def Fv3 : Table := addS 164 (.cons shWide .nil) (fun a b => (.int .i64 fun _ => (bl (wN (a ()) (b ())) : Int), [fun _ => okW (a ()) (b ())]))
 (addS 171 (.cons shWide (.cons shWide .nil)) (fun a b c d => (.tuple (.cons (.agg (.cons (.int .u64 fun _ => wHi (capW (wN (a ()) (b ()) + wN (c ()) (d ())))) (.cons (.int .u64 fun _ => wLo (capW (wN (a ()) (b ()) + wN (c ()) (d ())))) .nil))) (.cons (.bool fun _ => decide (wN (a ()) (b ()) + wN (c ()) (d ()) < W128)) .nil)), [fun _ => okW (a ()) (b ()) /\ okW (c ()) (d ())]))
 (addS 165 (.cons shWide (.cons (.int .i64) .nil)) (fun a b n => ((.agg (.cons (.int .u64 fun _ => wHi (wN (a ()) (b ()) / 2 ^ (n ()).toNat)) (.cons (.int .u64 fun _ => wLo (wN (a ()) (b ()) / 2 ^ (n ()).toNat)) .nil))), [fun _ => okW (a ()) (b ()) /\ 0 <= n () /\ n () < 9223372036854775808])) Fv2))
theorem Fv3_ok : TableOK Tryz.prog G0 Fv3 := addS_ok qf164.callable (fun a b h => bits_ok (a ()) (b ()) h.1) (addS_ok qf171.callable (fun a b c d h => add_ok (a ()) (b ()) (c ()) (d ()) h.1.1 h.1.2) (addS_ok qf165.callable (fun a b n h => right_ok (a ()) (b ()) (n ()) h.1.1 h.1.2) Fv2_ok))
theorem left_ok (a b n : Int) (h : okW a b) (h0 : 0 <= n /\ n < 9223372036854775808) : PF 186 (.cons (wP a b) (.cons (i64 n) .nil)) (.tuple (.cons (.agg (.cons (.int .u64 fun _ => wHi (capW (wN a b * 2 ^ n.toNat))) (.cons (.int .u64 fun _ => wLo (capW (wN a b * 2 ^ n.toNat))) .nil))) (.cons (.bool fun _ => decide (wN a b * 2 ^ n.toNat < W128)) .nil))) := by
 refine qf186.tree (mkO_ok Fv3_ok) false 40 rfl ?_
 conv => arg 5; cbv
 have hlt := wN_lt h
 have hbl := bl_most hlt
 obtain ⟨x, y, rfl, rfl, hx, hy⟩ := okW_nat h
 obtain ⟨k, rfl⟩ : ∃ k : Nat, n = k := ⟨n.toNat, by omega⟩
 rw [wN_nat] at *
 have hw1 : 64 <= k -> k <= 128 -> IntKind.i64.wrap ((k : Int) - 64) = ((k - 64 : Nat) : Int) := fun _ _ => by rw [IntWalk.i64_in _ ⟨by omega, by omega⟩]; omega
 have hw2 : k < 64 -> IntKind.i64.wrap (64 - (k : Int)) = ((64 - k : Nat) : Int) := fun _ => by rw [IntWalk.i64_in _ ⟨by omega, by omega⟩]; omega
 have hwb : IntKind.i64.wrap (128 - (bl (x * 18446744073709551616 + y) : Int)) = 128 - (bl (x * 18446744073709551616 + y) : Int) := IntWalk.i64_in _ ⟨by omega, by omega⟩
 have hfit : k <= 128 -> (k + bl (x * 18446744073709551616 + y) <= 128 ↔ (x * 18446744073709551616 + y) * 2 ^ k < W128) := fun hk => by
  rw [show (k + bl (x * 18446744073709551616 + y) <= 128) ↔ bl (x * 18446744073709551616 + y) <= 128 - k by omega, bl_le, show W128 = 2 ^ (128 - k) * 2 ^ k by rw [<- Nat.pow_add, show 128 - k + k = 128 by omega]]
  exact (Nat.mul_lt_mul_right (Nat.two_pow_pos k)).symm
 simp only [Int.toNat_natCast]
 refine ⟨fun g => ?_, fun g => ⟨fun g2 => ?_, fun g2 => ⟨⟨h, trivial⟩, fun g3 => ?_, fun g3 => ⟨fun g4 => ⟨⟨?_, trivial⟩, ?_⟩, fun g4 => ⟨⟨h0.1, ?_, h0.1, (by show drawOK _ _ = true; decide +kernel), trivial⟩, ?_⟩⟩⟩⟩⟩
 ·have g : x = 0 /\ y = 0 := by simpa using g
  obtain ⟨rfl, rfl⟩ := g
  have hn : (0 * 18446744073709551616 + 0) * 2 ^ k < W128 := by simp
  refine ⟨rfl, ⟨⟨rfl, ?_⟩, ⟨rfl, ?_⟩, rfl⟩, ?_, rfl⟩
  ·unfold capW; rw [if_pos hn]; simp [wHi]
  ·unfold capW; rw [if_pos hn]; simp [wLo]
  ·show decide (0 <= (k : Int)) = decide _
   rw [decide_eq_true hn, decide_eq_true (by omega)]
 ·have g2 : (k : Int) < 0 := of_decide_eq_true g2
  omega
 ·have g3 : IntKind.i64.wrap (128 - (bl (wN (x : Int) (y : Int)) : Int)) < (k : Int) := of_decide_eq_true g3
  rw [wN_nat, hwb] at g3
  have g : ¬ (x = 0 /\ y = 0) := by simpa using g
  have hn : ¬ (x * 18446744073709551616 + y) * 2 ^ k < W128 := by
   by_cases hk : k <= 128
   ·rw [<- hfit hk]; omega
   ·intro hc
    have h1 : 2 ^ 128 <= 2 ^ k := Nat.pow_le_pow_right (by omega) (by omega)
    have h2 : 1 * 2 ^ k <= (x * 18446744073709551616 + y) * 2 ^ k := Nat.mul_le_mul_right _ (by omega)
    unfold W128 at hc
    omega
  refine ⟨rfl, ⟨⟨rfl, ?_⟩, ⟨rfl, ?_⟩, rfl⟩, decide_eq_false hn, rfl⟩ <;> (unfold capW; rw [if_neg hn]; rfl)
 all_goals
  have g3 : ¬ IntKind.i64.wrap (128 - (bl (wN (x : Int) (y : Int)) : Int)) < (k : Int) := of_decide_eq_false g3
  rw [wN_nat, hwb] at g3
  have hk : k <= 128 := by omega
  have hn := (hfit hk).1 (by omega)
 ·have g4 : (64 : Int) <= (k : Int) := of_decide_eq_true g4
  show 0 <= IntKind.i64.wrap ((k : Int) - 64)
  rw [hw1 (by omega) hk]; omega
 ·have g4 : (64 : Int) <= (k : Int) := of_decide_eq_true g4
  have e2 : 2 ^ k = 2 ^ (k - 64) * 18446744073709551616 := by
   rw [show (18446744073709551616 : Nat) = 2 ^ 64 from rfl, <- Nat.pow_add, show k - 64 + 64 = k by omega]
  have h1 : 1 <= 2 ^ (k - 64) := Nat.one_le_two_pow
  have hx0 : x = 0 := by
   apply Classical.byContradiction
   intro hx0
   rw [e2, <- Nat.mul_assoc] at hn
   have h2 := Nat.mul_le_mul_left (x * 18446744073709551616 + y) h1
   unfold W128 at hn
   omega
  subst hx0
  have hv : (0 * 18446744073709551616 + y) * 2 ^ k = y * 2 ^ (k - 64) * 18446744073709551616 := by rw [Nat.zero_mul, Nat.zero_add, e2, Nat.mul_assoc]
  rw [hv] at hn
  have hm : y * 2 ^ (k - 64) < 18446744073709551616 := by unfold W128 at hn; omega
  refine ⟨rfl, ⟨⟨rfl, ?_⟩, ⟨rfl, ?_⟩, rfl⟩, ?_, rfl⟩
  ·unfold capW; rw [hv, if_pos hn, hw1 (by omega) hk, shl_nat y _ (by omega), Nat.mod_eq_of_lt hm]; unfold wHi; rw [Nat.mul_div_cancel _ (by omega)]
  ·unfold capW; rw [hv, if_pos hn]; unfold wLo; rw [Nat.mul_mod_left]; rfl
  ·rw [<- hv] at hn
   exact decide_eq_true hn
 ·have g4 : ¬ (64 : Int) <= (k : Int) := of_decide_eq_false g4
  show 0 <= IntKind.i64.wrap (64 - (k : Int))
  rw [hw2 (by omega)]; omega
 ·have g4 : ¬ (64 : Int) <= (k : Int) := of_decide_eq_false g4
  obtain ⟨r1, r2, r3⟩ := left_words (a := x) (b := y) (n := k) hy (by omega)
  have hx1 : 2 ^ k * x + y / 2 ^ (64 - k) < 18446744073709551616 := by
   rw [<- r1]; exact Nat.div_lt_of_lt_mul (by unfold W128 at hn; omega)
  refine ⟨rfl, ⟨⟨rfl, ?_⟩, ⟨rfl, ?_⟩, rfl⟩, decide_eq_true hn, rfl⟩
  ·have hx2 : x * 2 ^ k < 18446744073709551616 := by rw [Nat.mul_comm]; exact Nat.lt_of_le_of_lt (Nat.le_add_right _ _) hx1
   unfold capW; rw [if_pos hn, hw2 (by omega), shl_nat x k (by omega), shr_nat y _ (by omega), Nat.mod_eq_of_lt hx2, or_nat hx2 (Nat.lt_of_le_of_lt (Nat.div_le_self _ _) hy), Nat.mul_comm x, or_add r3]; unfold wHi; rw [r1]
  ·unfold capW; rw [if_pos hn, shl_nat y k (by omega)]; unfold wLo; rw [r2]
theorem times_ok (a b n : Int) (h : okW a b) (hn : 0 <= n /\ n < 18446744073709551616) : PF 162 (.cons (wP a b) (.cons (u64 n) .nil)) (.tuple (.cons (.agg (.cons (.int .u64 fun _ => wHi (tmV (wN a b) n.toNat)) (.cons (.int .u64 fun _ => wLo (tmV (wN a b) n.toNat)) .nil))) (.cons (.bool fun _ => decide (wN a b * n.toNat < W128)) .nil))) := by
 refine qf162.tree (mkO_ok Fv3_ok) false 40 rfl ?_
 conv => arg 5; cbv
 obtain ⟨x, y, rfl, rfl, hx, hy⟩ := okW_nat h
 obtain ⟨u, rfl⟩ : ∃ u : Nat, n = u := ⟨n.toNat, by omega⟩
 simp only [Int.toNat_natCast, wN_nat]
 obtain ⟨t1, t2⟩ := tm_nat (a := x) (b := y) (u := u) hy (by omega)
 have hb : y * u < W128 := by
  have := Nat.mul_le_mul (show y <= 18446744073709551615 by omega) (show u <= 18446744073709551615 by omega)
  unfold W128; omega
 refine ⟨⟨⟨h.1, hn⟩, ⟨h.2, hn⟩, (by show drawOK _ _ = true; decide +kernel), trivial⟩, fun g => ?_, fun g => ⟨⟨⟨⟨?_, by decide⟩, okW_of hb⟩, trivial⟩, ?_⟩⟩
 ·have g : wHi (x * u) ≠ 0 := by simpa using g
  have hno : ¬ (x * 18446744073709551616 + y) * u < W128 := fun hc => by
   have := (t1.1 hc).1
   exact g (wHi_small this)
  refine ⟨rfl, ⟨⟨rfl, ?_⟩, ⟨rfl, ?_⟩, rfl⟩, decide_eq_false hno, rfl⟩ <;> (dsimp only; unfold tmV; rw [if_neg hno]; rfl)
 ·unfold wLo; omega
 ·have g : wHi (x * u) = 0 := by simpa using g
  have g : x * u < 18446744073709551616 := by unfold wHi at g; omega
  have hs : wN (wLo (x * u)) 0 + wN (wHi (y * u)) (wLo (y * u)) = (x * 18446744073709551616 + y) * u := by
   rw [wN_of, t2, wLo_small g]; unfold wN; omega
  refine ⟨rfl, ⟨⟨rfl, ?_⟩, ⟨rfl, ?_⟩, rfl⟩, ?_, rfl⟩
  ·rw [hs]; rfl
  ·rw [hs]; rfl
  ·show decide (wN (wLo (x * u)) 0 + wN (wHi (y * u)) (wLo (y * u)) < W128) = decide _
   rw [hs]
noncomputable def Fv4 : Table := addS 186 (.cons shWide (.cons (.int .i64) .nil)) (fun a b n => (.tuple (.cons (.agg (.cons (.int .u64 fun _ => wHi (capW (wN (a ()) (b ()) * 2 ^ (n ()).toNat))) (.cons (.int .u64 fun _ => wLo (capW (wN (a ()) (b ()) * 2 ^ (n ()).toNat))) .nil))) (.cons (.bool fun _ => decide (wN (a ()) (b ()) * 2 ^ (n ()).toNat < W128)) .nil)), [fun _ => okW (a ()) (b ()) /\ 0 <= n () /\ n () < 9223372036854775808]))
 (addS 162 (.cons shWide (.cons (.int .u64) .nil)) (fun a b n => (.tuple (.cons (.agg (.cons (.int .u64 fun _ => wHi (tmV (wN (a ()) (b ())) (n ()).toNat)) (.cons (.int .u64 fun _ => wLo (tmV (wN (a ()) (b ())) (n ()).toNat)) .nil))) (.cons (.bool fun _ => decide (wN (a ()) (b ()) * (n ()).toNat < W128)) .nil)), [fun _ => okW (a ()) (b ()) /\ 0 <= n () /\ n () < 18446744073709551616])) Fv3)
theorem Fv4_ok : TableOK Tryz.prog G0 Fv4 := addS_ok qf186.callable (fun a b n h => left_ok (a ()) (b ()) (n ()) h.1.1 h.1.2) (addS_ok qf162.callable (fun a b n h => times_ok (a ()) (b ()) (n ()) h.1.1 h.1.2) Fv3_ok)
def byA (u : Nat) (i : Int) (v : Nat) : Env := [(10, .int .i64 fun _ => i), (8, .int .u64 fun _ => ((v / 2 ^ (i + 1).toNat % u : Nat) : Int)), (7, .ptr 2 0), (4, .ptr 1 0), (2, .ptr 0 0), (1, .int .u64 fun _ => (u : Int))]
def byS (a b : Int) (u : Nat) (i : Int) (v : Nat) : Store := [(0, .var (wP a b)), (1, .var (wP 0 0)), (2, .var (.agg (.cons (.int .u64 fun _ => wHi (v / 2 ^ (i + 1).toNat / u)) (.cons (.int .u64 fun _ => wLo (v / 2 ^ (i + 1).toNat / u)) .nil))))]
theorem by_ok (a b n : Int) (h : okW a b) (hn : 0 <= n /\ n < 18446744073709551616) : PF 136 (.cons (wP a b) (.cons (u64 n) .nil)) (.tuple (.cons (.agg (.cons (.int .u64 fun _ => wHi (wN a b / n.toNat)) (.cons (.int .u64 fun _ => wLo (wN a b / n.toNat)) .nil))) (.cons (.int .u64 fun _ => byR (wN a b) n) (.cons (.bool fun _ => decide (n ≠ 0)) .nil)))) := by
 refine qf136.tree (mkO_ok Fv4_ok) false 40 rfl ?_
 conv => arg 5; cbv
 obtain ⟨u, rfl⟩ : ∃ u : Nat, n = u := ⟨n.toNat, by omega⟩
 simp only [Int.toNat_natCast]
 have hlt := wN_lt h
 have hbl := bl_most hlt
 have hv := bl_le.1 (Nat.le_refl (bl (wN a b)))
 generalize hV : wN a b = v at *
 refine ⟨fun g => ?_, fun g => ⟨⟨h, trivial⟩, ?_⟩⟩
 ·have g : u = 0 := by simpa using g
  subst g
  refine ⟨rfl, ⟨⟨rfl, ?_⟩, ⟨rfl, ?_⟩, rfl⟩, ⟨rfl, rfl⟩, rfl, rfl⟩ <;> (rw [Nat.div_zero]; rfl)
 have g : u ≠ 0 := by simpa using g
 have hw : IntKind.i64.wrap ((bl v : Int) - 1) = bl v - 1 := IntWalk.i64_in _ ⟨by omega, by omega⟩
 have h0 : v / 2 ^ ((bl v : Int) - 1 + 1).toNat = 0 := by
  rw [show ((bl v : Int) - 1 + 1).toNat = bl v by omega]
  exact Nat.div_eq_of_lt hv
 refine run_inv (ι := Int) (fun i => (i + 1).toNat) (fun i => -1 <= i /\ i < 128) (fun i => byA u i v) (fun i => byS a b u i v) 3 ((bl v : Int) - 1) (fun i => i) (by rfl) (by rfl) ⟨by omega, by omega⟩ ?_ ?_ ?_
 ·intro i hi ih
  refine explore_ok (ok _) (mkO_ok Fv4_ok) (u := false) 20 _ rfl ?_
  conv => arg 5; cbv
  have h63 : (0 : Int) <= 63 := by decide
  have h1 : (0 : Int) <= 1 := by decide
  refine ⟨fun g2 => ⟨⟨h63, h1, ⟨h, ?_⟩, h1, h63, h1, trivial⟩, ?_⟩, fun g2 => ?_⟩
  ·have g2 : 0 <= i := of_decide_eq_true g2
   exact ⟨g2, by have := hi.2; show i < 9223372036854775808; omega⟩
  ·have g2 : 0 <= i := of_decide_eq_true g2
   obtain ⟨k, rfl⟩ : ∃ k : Nat, i = k := ⟨i.toNat, by omega⟩
   have hk : k < 128 := by omega
   have hwi : IntKind.i64.wrap ((k : Int) - 1) = k - 1 := IntWalk.i64_in _ ⟨by omega, by omega⟩
   obtain ⟨p1, p2, p3⟩ := by_step (v := v) (i := k) (u := u) (by omega)
   have e1 : ((k : Int) + 1).toNat = k + 1 := by omega
   have e2 : ((k : Int) - 1 + 1).toNat = k := by omega
   have hR : v / 2 ^ (k + 1) % u < u := Nat.mod_lt _ (by omega)
   have hQ : v / 2 ^ (k + 1) / u < 170141183460469231731687303715884105728 := by
    have h1 : v / 2 ^ (k + 1) / u <= v / 2 ^ (k + 1) := Nat.div_le_self _ _
    have h2 : v / 2 ^ (k + 1) <= v / 2 ^ 1 := Nat.div_le_div_left (Nat.pow_le_pow_right (by omega) (by omega)) (by omega)
    unfold W128 at hlt; omega
   obtain ⟨q1, q2, q3, q4⟩ := by_quo hQ
   obtain ⟨s1, s2⟩ := by_rest (R := v / 2 ^ (k + 1) % u) (b := v / 2 ^ k % 2) (by omega) (by omega)
   have hb := by_bit (v / 2 ^ k)
   have hw64 : ∀ n : Int, IntKind.u64.wrap n = n % 18446744073709551616 := fun _ => rfl
   simp only [hV, e1, Int.toNat_natCast, hb, s1, s2, q1, q2, cast_fold, oN]
   generalize v / 2 ^ (k + 1) % u = R at *
   generalize v / 2 ^ (k + 1) / u = Q at *
   have hbit : v / 2 ^ k % 2 < 2 := Nat.mod_lt _ (by omega)
   clear s1 s2 hb q1 q2 hlt hbl hv hw h0 hQ p1
   generalize v / 2 ^ k % 2 = b at *
   refine ⟨fun g3 => ?_, fun g3 => ⟨fun g4 => ?_, fun g4 => ?_⟩⟩
   ·have g3 := bneT g3
    have hge : u <= 2 * R + b := by omega
    rw [if_pos hge] at p2 p3
    refine ih (k - 1) (fun i => i) ⟨by omega, by omega⟩ (by omega) (by rfl) ⟨⟨rfl, hwi⟩, ⟨rfl, ?_⟩, iR, iR, iR, iR, trivial⟩ ⟨iR, iR, ⟨⟨rfl, ?_⟩, ⟨rfl, ?_⟩, rfl⟩, trivial⟩
    ·show IntKind.u64.wrap _ = ((v / 2 ^ ((k : Int) - 1 + 1).toNat % u : Nat) : Int)
     rw [hw64, e2, p3]; omega
    ·rw [e2, p2, q4]
    ·rw [e2, p2, q3]
   ·have g3 := bneF g3
    have g4 := of_decide_eq_true g4
    have hge : u <= 2 * R + b := by omega
    rw [if_pos hge] at p2 p3
    refine ih (k - 1) (fun i => i) ⟨by omega, by omega⟩ (by omega) (by rfl) ⟨⟨rfl, hwi⟩, ⟨rfl, ?_⟩, iR, iR, iR, iR, trivial⟩ ⟨iR, iR, ⟨⟨rfl, ?_⟩, ⟨rfl, ?_⟩, rfl⟩, trivial⟩
    ·show IntKind.u64.wrap _ = ((v / 2 ^ ((k : Int) - 1 + 1).toNat % u : Nat) : Int)
     rw [hw64, e2, p3]; omega
    ·rw [e2, p2, q4]
    ·rw [e2, p2, q3]
   ·have g3 := bneF g3
    have g4 := of_decide_eq_false g4
    have hge : ¬ u <= 2 * R + b := by omega
    rw [if_neg hge] at p2 p3
    refine ih (k - 1) (fun i => i) ⟨by omega, by omega⟩ (by omega) (by rfl) ⟨⟨rfl, hwi⟩, ⟨rfl, ?_⟩, iR, iR, iR, iR, trivial⟩ ⟨iR, iR, ⟨⟨rfl, ?_⟩, ⟨rfl, ?_⟩, rfl⟩, trivial⟩
    ·dsimp only; rw [e2, p3]; omega
    ·rw [e2, p2, Nat.add_zero]
    ·rw [e2, p2, Nat.add_zero]
  ·have g2 : ¬ 0 <= i := of_decide_eq_false g2
   obtain rfl : i = -1 := by omega
   refine ⟨rfl, ⟨⟨rfl, ?_⟩, ⟨rfl, ?_⟩, rfl⟩, ⟨rfl, ?_⟩, ?_, rfl⟩
   ·simp
   ·simp
   ·rw [byR_nat v (by omega)]; simp
   ·exact decide_eq_true (by omega)
 ·refine ⟨⟨rfl, hw⟩, ⟨rfl, ?_⟩, iR, iR, iR, iR, trivial⟩
  rw [h0, Nat.zero_mod]; rfl
 ·refine ⟨iR, iR, ⟨⟨rfl, ?_⟩, ⟨rfl, ?_⟩, rfl⟩, trivial⟩ <;> (rw [h0, Nat.zero_div]; rfl)
noncomputable def Fv5 : Table := addS 136 (.cons shWide (.cons (.int .u64) .nil)) (fun a b n => (.tuple (.cons (.agg (.cons (.int .u64 fun _ => wHi (wN (a ()) (b ()) / (n ()).toNat)) (.cons (.int .u64 fun _ => wLo (wN (a ()) (b ()) / (n ()).toNat)) .nil))) (.cons (.int .u64 fun _ => byR (wN (a ()) (b ())) (n ())) (.cons (.bool fun _ => decide (n () ≠ 0)) .nil))), [fun _ => okW (a ()) (b ()) /\ 0 <= n () /\ n () < 18446744073709551616])) Fv4
theorem Fv5_ok : TableOK Tryz.prog G0 Fv5 := addS_ok qf136.callable (fun a b n h => by_ok (a ()) (b ()) (n ()) h.1.1 h.1.2) Fv4_ok
def wtA (x : Nat × List UInt8) : Env := [(4, .int .i64 fun _ => 40 - (x.2.length : Int)), (3, .ptr 1 0), (2, .str fun _ => ⟨#[]⟩), (1, .ptr 0 0)]
def wtS (x : Nat × List UInt8) : Store := [(0, .var (.agg (.cons (.int .u64 fun _ => wHi (x.1)) (.cons (.int .u64 fun _ => wLo (x.1)) .nil)))), (1, .var (.arrI .u8 40 fun _ => List.replicate (40 - x.2.length) 0 ++ x.2.map fun c => (c.toNat : Int)))]
structure WI (v0 : Nat) (x : Nat × List UInt8) : Prop where
 all : leftT x.1 x.2 = Lib.decDigits v0
 few : x.1 * 10 ^ x.2.length <= v0
 ne : x.1 = 0 -> x.2 ≠ []
theorem text_ok (a b : Int) (h : okW a b) : PF 137 (.cons (wP a b) .nil) (.str fun _ => toB (Lib.decDigits (wN a b))) := by
 refine qf137.tree (mkO_ok Fv5_ok) false 40 rfl ?_
 conv => arg 5; cbv
 have hlt := wN_lt h
 have hz := wN_zero h
 generalize hV : wN a b = v at *
 refine ⟨fun g => ?_, fun g => ?_⟩
 ·have g : a = 0 /\ b = 0 := by simpa using g
  have : v = 0 := hz.2 g
  subst this
  refine ⟨rfl, ?_⟩
  show (⟨#[48]⟩ : ByteArray) = _
  rw [Lib.decDigits_one (by omega)]; rfl
 have g : ¬ (a = 0 /\ b = 0) := by simpa using g
 have hv0 : v ≠ 0 := fun hc => g (hz.1 hc)
 refine run_inv (ι := Nat × List UInt8) (fun x => x.1) (WI v) wtA wtS 2 (v, []) (fun i => i) (by rfl) (by rfl) ⟨leftT_start v, by show v * 1 <= v; omega, fun hc => absurd hc hv0⟩ ?_ ⟨iR, iR, iR, iR, trivial⟩ ⟨⟨⟨rfl, ?_⟩, ⟨rfl, ?_⟩, rfl⟩, ⟨rfl, rfl, rfl⟩, trivial⟩
 ·intro x hx ih
  refine explore_ok (ok _) (mkO_ok Fv5_ok) (u := false) 1 _ rfl ?_
  conv => arg 5; cbv
  have hfew := hx.few
  have e10 : Int.toNat 10 = 10 := rfl
  have hx1 : x.1 <= v := by
   have : x.1 * 1 <= x.1 * 10 ^ x.2.length := Nat.mul_le_mul_left _ (Nat.pow_pos (by omega))
   omega
  have hlen : x.1 ≠ 0 -> x.2.length < 40 := fun h0 => by
   have h1 : 1 * 10 ^ x.2.length <= x.1 * 10 ^ x.2.length := Nat.mul_le_mul_right _ (by omega)
   apply Classical.byContradiction
   intro hc
   have : 10 ^ 40 <= 10 ^ x.2.length := Nat.pow_le_pow_right (by omega) (by omega)
   unfold W128 at hlt
   omega
  refine ⟨fun g2 => ?_, fun g2 => ?_⟩
  ·have g2 : x.1 ≠ 0 := fun hc => by rw [hc] at g2; cases g2
   have hl := hlen g2
   have hw : IntKind.i64.wrap (40 - (x.2.length : Int) - 1) = 39 - (x.2.length : Int) := by rw [IntWalk.i64_in _ ⟨by omega, by omega⟩]; omega
   have hr : 0 <= IntKind.i64.wrap (40 - (x.2.length : Int) - 1) /\ IntKind.i64.wrap (40 - (x.2.length : Int) - 1) < ((40 : Nat) : Int) := by rw [hw]; omega
   refine explore_ok (ok _) (mkO_ok Fv5_ok) (u := false) 20 _ rfl ?_
   conv => arg 5; cbv
   simp only [wN_of, e10]
   have hd : x.1 % 10 < 10 := Nat.mod_lt _ (by omega)
   have h8 : IntKind.u8.wrap (48 + IntKind.u8.wrap ((x.1 % 10 : Nat) : Int)) = ((UInt8.ofNat (48 + x.1 % 10)).toNat : Int) := by
    rw [IntWalk.u8_in ((x.1 % 10 : Nat) : Int) ⟨by omega, by omega⟩, IntWalk.u8_in _ ⟨by omega, by omega⟩, UInt8.toNat_ofNat']; omega
   have hno : ¬ (x.1 = 0 /\ x.2 ≠ []) := fun hc => g2 hc.1
   refine ⟨⟨⟨okW_of (by omega), by decide⟩, hr, hr, trivial⟩, ih (x.1 / 10, UInt8.ofNat (48 + x.1 % 10) :: x.2) (fun i => i) ⟨?_, ?_, fun _ => by simp⟩ (by show x.1 / 10 < x.1; omega) (by rfl) ⟨⟨rfl, ?_⟩, iR, iR, iR, trivial⟩ ⟨iR, ⟨rfl, rfl, ?_⟩, trivial⟩⟩
   ·show leftT (x.1 / 10) (UInt8.ofNat (48 + x.1 % 10) :: x.2) = _
    rw [leftT_step _ _ hno, hx.all]
   ·show x.1 / 10 * 10 ^ (x.2.length + 1) <= v
    have : x.1 / 10 * 10 <= x.1 := Nat.div_mul_le_self _ _
    calc x.1 / 10 * 10 ^ (x.2.length + 1) = x.1 / 10 * 10 * 10 ^ x.2.length := by rw [Nat.pow_succ, Nat.mul_assoc, Nat.mul_comm (10 ^ x.2.length) 10]
     _ <= x.1 * 10 ^ x.2.length := Nat.mul_le_mul_right _ this
     _ <= v := hfew
   ·show IntKind.i64.wrap (40 - (x.2.length : Int) - 1) = 40 - (((x.2.length + 1 : Nat)) : Int)
    rw [hw]; omega
   ·show (List.replicate (40 - x.2.length) 0 ++ List.map (fun c : UInt8 => (c.toNat : Int)) x.2).set (IntKind.i64.wrap (40 - (x.2.length : Int) - 1)).toNat (IntKind.u8.wrap (48 + IntKind.u8.wrap (byR x.1 10))) = List.replicate (40 - (x.2.length + 1)) 0 ++ ((UInt8.ofNat (48 + x.1 % 10)).toNat : Int) :: List.map (fun c : UInt8 => (c.toNat : Int)) x.2
    rw [byR_ten, h8, hw, show (39 - (x.2.length : Int)).toNat = 39 - x.2.length by omega, show 40 - x.2.length = (40 - (x.2.length + 1)) + 1 by omega, List.replicate_succ', List.append_assoc, show 39 - x.2.length = (List.replicate (40 - (x.2.length + 1)) (0 : Int)).length by rw [List.length_replicate]; omega, List.set_append_right _ _ (Nat.le_refl _), Nat.sub_self]
    rfl
  ·have g2 : x.1 = 0 := Classical.byContradiction fun hc => by
    have : wHi x.1 = 0 /\ wLo x.1 = 0 := by simpa using g2
    have h2 := wN_of x.1
    rw [this.1, this.2] at h2
    exact hc h2.symm
   have hall := hx.all
   rw [leftT_end _ _ ⟨g2, hx.ne g2⟩] at hall
   have hl : x.2.length <= 40 := by
    rw [hall]
    exact dec_len (by unfold W128 at hlt; omega) (by omega)
   refine Go.Abs.run_freeze 1 (.arrI .u8 40 fun _ => List.replicate (40 - x.2.length) 0 ++ x.2.map fun c => (c.toNat : Int)) (by rfl) (by rfl) (by rfl) ?_
   refine explore_ok (ok _) (mkO_ok Fv5_ok) (u := false) 20 _ rfl ?_
   conv => arg 5; cbv
   refine ⟨⟨⟨(by (try dsimp only); (try simp only [cast_fold, oN]); omega), (by (try dsimp only); (try simp only [cast_fold, oN]); omega), by decide, by decide⟩, fun j => rfl, trivial⟩, rfl, ?_⟩
   have e : rdL rd8 (fun _ => 40 - (40 - (x.2.length : Int))) (fun q => PV.int .u8 fun _ => (List.replicate (40 - x.2.length) 0 ++ List.map (fun c : UInt8 => (c.toNat : Int)) x.2).getD (40 - (x.2.length : Int) + q ()).toNat 0) = x.2.map fun c : UInt8 => (c.toNat : Int) := by
    refine rdL_ext rd8 _ _ _ (by rw [List.length_map]; omega) fun i hi => ?_
    have hi' : i < x.2.length := by simpa using hi
    show (List.replicate (40 - x.2.length) 0 ++ List.map (fun c : UInt8 => (c.toNat : Int)) x.2).getD (40 - (x.2.length : Int) + (i : Int)).toNat 0 = _
    rw [List.getD_eq_getElem?_getD, List.getElem?_append_right (by rw [List.length_replicate]; omega), List.length_replicate, show (40 - (x.2.length : Int) + (i : Int)).toNat - (40 - x.2.length) = i by omega, List.getElem?_eq_getElem hi]
    rfl
   show bytesOf (rdL rd8 (fun _ => 40 - (40 - (x.2.length : Int))) (fun q => PV.int .u8 fun _ => (List.replicate (40 - x.2.length) 0 ++ List.map (fun c : UInt8 => (c.toNat : Int)) x.2).getD (40 - (x.2.length : Int) + q ()).toNat 0)) = toB (Lib.decDigits v)
   rw [e, bytesOf_map, hall]
 ·rw [<- hV]; exact (wHi_wN h).symm
 ·rw [<- hV]; exact (wLo_wN h).symm
noncomputable def Fv6 : Table := addS 137 (.cons shWide .nil) (fun a b => (.str fun _ => toB (Lib.decDigits (wN (a ()) (b ()))), [fun _ => okW (a ()) (b ())])) Fv5
theorem Fv6_ok : TableOK Tryz.prog G0 Fv6 := addS_ok qf137.callable (fun a b h => text_ok (a ()) (b ()) h.1) Fv5_ok
theorem of_ok (u : Int) : PF 139 (.cons (u64 u) .nil) (.agg (.cons (.int .u64 fun _ => 0) (.cons (.int .u64 fun _ => u) .nil))) := by
 refine qf139.tree (mkO_ok F0_ok) false 40 rfl ?_
 conv => arg 5; cbv
 exact ⟨rfl, ⟨rfl, rfl⟩, ⟨rfl, rfl⟩, rfl⟩
theorem uint_ok (a b : Int) : PF 138 (.cons (wP a b) .nil) (.tuple (.cons (.int .u64 fun _ => if a = 0 then b else 0) (.cons (.bool fun _ => decide (a = 0)) .nil))) := by
 refine qf138.tree (mkO_ok F0_ok) false 40 rfl ?_
 conv => arg 5; cbv
 refine ⟨fun h => ⟨rfl, ⟨rfl, (if_neg (bneT h)).symm⟩, decide_eq_false (bneT h), rfl⟩, fun h => ⟨rfl, ⟨rfl, (if_pos (bneF h)).symm⟩, decide_eq_true (bneF h), rfl⟩⟩
noncomputable def Fw : Table := addS 139 (.cons (.int .u64) .nil) (fun u => (.agg (.cons (.int .u64 fun _ => 0) (.cons (.int .u64 u) .nil)), [])) (addS 138 (.cons shWide .nil) (fun a b => (.tuple (.cons (.int .u64 fun _ => if a () = 0 then b () else 0) (.cons (.bool fun _ => decide (a () = 0)) .nil)), [])) Fv6)
theorem Fw_ok : TableOK Tryz.prog G0 Fw := addS_ok qf139.callable (fun u _ => of_ok (u ())) (addS_ok qf138.callable (fun a b _ => uint_ok (a ()) (b ())) Fv6_ok)
def sufG (i : Nat) : List UInt8 × Int × Nat := sufs.getD i ([], 0, 0)
noncomputable def Fc1 : Table := addA 181 (ctx Tryz.f181) (mkO F0) (body Tryz.f181) 8 Fw
theorem Fc1_ok : TableOK Tryz.prog G0 Fc1 := addA_ok qf181 (mkO_ok F0_ok) Fw_ok
theorem prefix_ok (s p : ByteArray) : PF 169 (.cons (.str fun _ => s) (.cons (.str fun _ => p) .nil)) (.bool fun _ => p.data.toList.isPrefixOf s.data.toList) := by
 refine qf169.tree (mkO_ok Fc1_ok) false 40 rfl ?_
 conv => arg 5; cbv
 refine ⟨⟨⟨fun h => ⟨⟨(by (try dsimp only); (try simp only [cast_fold, oN]); omega), of_decide_eq_true h⟩, trivial⟩, fun _ => trivial⟩, trivial⟩, rfl, prefix_iff s p⟩
theorem suffixes_ok : PF 182 .nil (.slice none 3 (fun _ => 16) fun j => .agg (.cons (.str fun _ => toB (sufG (j ()).toNat).1) (.cons (.int .i64 fun _ => (sufG (j ()).toNat).2.1) (.cons (.int .i64 fun _ => ((sufG (j ()).toNat).2.2 : Nat)) .nil)))) := by
 refine qf182.tree (mkO_ok Fc1_ok) false 40 rfl ?_
 conv => arg 5; cbv
 refine ⟨rfl, .inl rfl, rfl, rfl, fun j h0 h1 => ?_⟩
 have h1 : j < 16 := h1
 have : j = 0 \/ j = 1 \/ j = 2 \/ j = 3 \/ j = 4 \/ j = 5 \/ j = 6 \/ j = 7 \/ j = 8 \/ j = 9 \/ j = 10 \/ j = 11 \/ j = 12 \/ j = 13 \/ j = 14 \/ j = 15 := by omega
 rcases this with rfl | rfl | rfl | rfl | rfl | rfl | rfl | rfl | rfl | rfl | rfl | rfl | rfl | rfl | rfl | rfl <;> exact ⟨rfl, ⟨rfl, rfl⟩, ⟨rfl, rfl⟩, rfl⟩
noncomputable def Fc3 : Table := addS 169 (.cons .str (.cons .str .nil)) (fun s p => (.bool fun _ => (p ()).data.toList.isPrefixOf (s ()).data.toList, [])) (addS 182 .nil ((.slice none 3 (fun _ => 16) fun j => .agg (.cons (.str fun _ => toB (sufG (j ()).toNat).1) (.cons (.int .i64 fun _ => (sufG (j ()).toNat).2.1) (.cons (.int .i64 fun _ => ((sufG (j ()).toNat).2.2 : Nat)) .nil)))), []) Fw)
theorem Fc3_ok : TableOK Tryz.prog G0 Fc3 := addS_ok qf169.callable (fun s p _ => prefix_ok (s ()) (p ())) (addS_ok qf182.callable (fun _ => suffixes_ok) Fw_ok)
theorem digits_ok (s : ByteArray) (hs : s.size < 2147483648) : PF 168 (.cons (.str fun _ => s) .nil) (.tuple (.cons (.str fun _ => digB s) (.cons (.str fun _ => rstB s) .nil))) := by
 refine qf168.tree (mkO_ok Fc3_ok) false 40 rfl ?_
 conv => arg 5; cbv
 refine run_inv (ι := Nat) (fun n => s.size - n) (fun n => n <= s.size /\ (s.data.toList.take n).all isD = true) (fun n => [(4, .int .i64 fun _ => (n : Int)), (0, .str fun _ => s)]) (fun _ => []) 0 0 (fun i => i) (by rfl) (by rfl) ⟨Nat.zero_le _, rfl⟩ ?_ ⟨iR, iR, trivial⟩ trivial
 intro n hn ih
 have hw : IntKind.i64.wrap ((n : Int) + 1) = ((n + 1 : Nat) : Int) := by rw [IntWalk.i64_in _ ⟨by omega, by omega⟩]; omega
 have hc : 0 <= (n : Int) /\ (n : Int) <= (s.size : Int) := by omega
 have hend : (∀ c, s.data.toList[n]? = some c -> isD c = false) -> impP (.tuple (.cons (.str fun _ => s.extract 0 n) (.cons (.str fun _ => s.extract n s.size) .nil))) (.tuple (.cons (.str fun _ => digB s) (.cons (.str fun _ => rstB s) .nil))) := fun h => by
  obtain ⟨h1, h2⟩ := span_at hn.2 h
  refine ⟨?_, ?_, rfl⟩
  ·show s.extract 0 n = digB s
   unfold digB
   rw [h1, extB]; rfl
  ·show s.extract n s.size = rstB s
   unfold rstB
   rw [h2, restB]
 refine explore_ok (ok _) (mkO_ok Fc3_ok) (u := false) 20 _ rfl ?_
 conv => arg 5; cbv
 refine ⟨fun h => ?_, fun h => ⟨⟨hc, hc, (by show drawOK _ _ = true; decide +kernel), trivial⟩, rfl, hend fun c h2 => ?_⟩⟩
 ·simp only [decide_eq_true_eq, oN, cast_fold] at h
  have hlt : n < s.size := by omega
  obtain ⟨c, h1, h2, h3, h4⟩ := atB hlt
  have hr : 0 <= (n : Int) /\ (n : Int) < (s.size : Int) := by omega
  have hno : isD c = false -> ∀ c, s.data.toList[n]? = some c -> isD c = false := fun h c' hc' => by rw [h1] at hc'; cases hc'; exact h
  refine ⟨⟨hr, trivial⟩, fun g => ⟨⟨hr, trivial⟩, fun g2 => ?_, fun g2 => ⟨⟨hc, hc, (by show drawOK _ _ = true; decide +kernel), trivial⟩, rfl, hend (hno ?_)⟩⟩, fun g => ⟨⟨hc, hc, (by show drawOK _ _ = true; decide +kernel), trivial⟩, rfl, hend (hno ?_)⟩⟩
  ·have g : (48 : Int) <= byteAt s n := of_decide_eq_true g
   have g2 : byteAt s n <= 57 := of_decide_eq_true g2
   rw [h2] at g g2
   exact ih (n + 1) (fun i => i) ⟨by omega, by rw [h4, List.all_append, hn.2, Bool.true_and, List.all_cons, (isD_byte c).2 ⟨g, g2⟩]; rfl⟩ (by omega) (by rfl) ⟨⟨rfl, hw⟩, iR, trivial⟩ trivial
  ·have g2 : ¬ byteAt s n <= 57 := of_decide_eq_false g2
   rw [h2] at g2
   exact Bool.eq_false_iff.2 fun hc => g2 ((isD_byte c).1 hc).2
  ·have g : ¬ (48 : Int) <= byteAt s n := of_decide_eq_false g
   rw [h2] at g
   exact Bool.eq_false_iff.2 fun hc => g ((isD_byte c).1 hc).1
 ·simp only [decide_eq_false_iff_not, oN, cast_fold] at h
  have := (List.getElem?_eq_some_iff.1 h2).1
  rw [size_toB] at this
  omega
noncomputable def Fc4 : Table := addS 168 (.cons .str .nil) (fun s => (.tuple (.cons (.str fun _ => digB (s ())) (.cons (.str fun _ => rstB (s ())) .nil)), [fun _ => (s ()).size < 2147483648])) Fc3
theorem Fc4_ok : TableOK Tryz.prog G0 Fc4 := addS_ok qf168.callable (fun s h => digits_ok (s ()) h.1) Fc3_ok
structure EI (s : ByteArray) (x : Int × ByteArray) : Prop where
 e : expo s.data.toList = (expoD x.2.data.toList).map fun n => x.1 * n
 sg : x.1 = 1 \/ x.1 = -1
 sz : x.2.size < 2147483648
def eA (x : Int × ByteArray) : Env := [(0, .str fun _ => x.2), (4, .int .i64 fun _ => x.1)]
def eB (x : Int × ByteArray) (i : Nat) : Env := [(38, .int .i64 fun _ => (i : Int)), (37, .int .i64 fun _ => (x.2.size : Int)), (5, .str fun _ => x.2), (7, .int .i64 fun _ => (valD (x.2.data.toList.take i) : Int)), (4, .int .i64 fun _ => x.1)]
theorem pre_one (c : UInt8) (l : List UInt8) : [c].isPrefixOf l = true ↔ ∃ r, l = c :: r := by
 cases l with
 | nil => simp [List.isPrefixOf]
 | cons d r =>
   simp only [List.isPrefixOf, Bool.and_true, beq_iff_eq]
   constructor
   · rintro rfl; exact ⟨r, rfl⟩
   · rintro ⟨_, h⟩; cases h; rfl
theorem cut_one {s : ByteArray} {c : UInt8} {r : List UInt8} (h : s.data.toList = c :: r) : s.extract 1 s.size = toB r /\ 1 <= s.size /\ (toB r).size <= s.size := by
 have hs := size_toB s
 rw [h, List.length_cons] at hs
 refine ⟨by rw [restB, h]; rfl, by omega, ?_⟩
 rw [<- size_toB (toB r)]
 show r.length <= _
 omega
theorem exponent_ok (s : ByteArray) (hs : s.size < 2147483648) : PF 183 (.cons (.str fun _ => s) .nil) (.tuple (.cons (.int .i64 fun _ => (expo s.data.toList).getD 0) (.cons (.bool fun _ => (expo s.data.toList).isSome) .nil))) := by
 refine qf183.treeS (mkO_ok Fc4_ok) false 40 (.both (.to 6) (.both (.to 6) (.to 6))) rfl ?_
 conv => arg 5; cbv
 refine tree_all (ι := Int × ByteArray) (EI s) eA (fun _ => []) 0 (by rfl) ?_ ?_
 ·refine ⟨fun h => ?_, fun h => ⟨fun h2 => ?_, fun h2 => ?_⟩⟩
  ·obtain ⟨r, hr⟩ := (pre_one 45 s.data.toList).1 h
   obtain ⟨c1, c2, c3⟩ := cut_one hr
   have c1 : s.extract (Int.toNat 1) (s.size : Int).toNat = toB r := c1
   have hl : (toB r).size < 2147483648 := by omega
   refine ⟨⟨⟨by decide, (by (try dsimp only); (try simp only [cast_fold, oN]); omega)⟩, (by show drawOK _ _ = true; decide +kernel), trivial⟩, rfl, (-1, toB r), fun i => i, ⟨?_, .inr rfl, hl⟩, by rfl, ⟨c1, iR, trivial⟩, trivial⟩
   ·rw [hr]
    show (expoD r).map _ = (expoD r).map _
    congr 1
    funext n
    dsimp only; omega
  ·obtain ⟨r, hr⟩ := (pre_one 43 s.data.toList).1 h2
   obtain ⟨c1, c2, c3⟩ := cut_one hr
   have c1 : s.extract (Int.toNat 1) (s.size : Int).toNat = toB r := c1
   have hl : (toB r).size < 2147483648 := by omega
   refine ⟨⟨⟨by decide, (by (try dsimp only); (try simp only [cast_fold, oN]); omega)⟩, trivial⟩, rfl, (1, toB r), fun i => i, ⟨?_, .inl rfl, hl⟩, by rfl, ⟨c1, iR, trivial⟩, trivial⟩
   ·rw [hr]
    show expoD r = (expoD r).map _
    cases expoD r with
    | none => rfl
    | some n => simp
  ·have h1 : ∀ r, s.data.toList ≠ 45 :: r := fun r hr => by
    have := (pre_one 45 _).2 ⟨r, hr⟩
    rw [show [(45 : UInt8)].isPrefixOf s.data.toList = false from h] at this; cases this
   have h3 : ∀ r, s.data.toList ≠ 43 :: r := fun r hr => by
    have := (pre_one 43 _).2 ⟨r, hr⟩
    rw [show [(43 : UInt8)].isPrefixOf s.data.toList = false from h2] at this; cases this
   refine ⟨rfl, (1, s), fun i => i, ⟨?_, .inl rfl, hs⟩, by rfl, ⟨iR, iR, trivial⟩, trivial⟩
   unfold expo
   split
   ·rename_i hr; exact absurd hr (h1 _)
   ·rename_i hr; exact absurd hr (h3 _)
   ·cases expoD s.data.toList with
    | none => rfl
    | some n => simp
 ·intro x hx
  obtain ⟨sg, t⟩ := x
  have hsz : t.size < 2147483648 := hx.sz
  have he : expo s.data.toList = (expoD t.data.toList).map fun n => sg * n := hx.e
  have hsg : sg = 1 \/ sg = -1 := hx.sg
  have hall : rstB t = (⟨#[]⟩ : ByteArray) ↔ t.data.toList.all isD = true := rst_nil t
  have hdig : t.data.toList.all isD = true -> digB t = t := dig_all t
  have hst := size_toB t
  have hbad : (t.data.toList.all isD = true -> t.size < 1 \/ 2 < t.size) -> impP (.tuple (.cons (.int .i64 fun _ => 0) (.cons .ff .nil))) (.tuple (.cons (.int .i64 fun _ => (expo s.data.toList).getD 0) (.cons (.bool fun _ => (expo s.data.toList).isSome) .nil))) := fun h => by
   have : expoD t.data.toList = none := by
    unfold expoD
    rw [if_neg fun hc => by have := h hc.1; rw [hst] at hc; omega]
   rw [he, this]
   exact ⟨⟨rfl, rfl⟩, rfl, rfl⟩
  refine explore_ok (ok _) (mkO_ok Fc4_ok) (u := false) 20 _ rfl ?_
  conv => arg 5; cbv
  refine ⟨⟨hsz, trivial⟩, fun h => ⟨rfl, hbad fun hc => ?_⟩, fun h => ⟨fun h2 => ⟨rfl, hbad fun hc => ?_⟩, fun h2 => ⟨fun h3 => ⟨rfl, hbad fun hc => ?_⟩, fun h3 => ?_⟩⟩⟩
  ·have h : ¬ rstB t = (⟨#[]⟩ : ByteArray) := of_decide_eq_true h
   exact absurd (hall.2 hc) h
  ·have h2 : ((digB t).size : Int) < 1 := of_decide_eq_true h2
   rw [hdig hc] at h2; omega
  ·have h3 : 2 < ((digB t).size : Int) := of_decide_eq_true h3
   rw [hdig hc] at h3; omega
  ·have h : rstB t = (⟨#[]⟩ : ByteArray) := Classical.byContradiction fun hc => of_decide_eq_false h hc
   have hD := hall.1 h
   have h2 : ¬ ((digB t).size : Int) < 1 := of_decide_eq_false h2
   have h3 : ¬ 2 < ((digB t).size : Int) := of_decide_eq_false h3
   rw [hdig hD] at h2 h3
   refine run_inv (ι := Nat) (fun i => t.size - i) (fun i => i <= t.size) (eB (sg, t)) (fun _ => []) 0 0 (fun i => i) (by rfl) (by rfl) (Nat.zero_le _) ?_ ⟨iR, ⟨rfl, congrArg (fun b => (ByteArray.size b : Int)) (hdig hD)⟩, hdig hD, iR, iR, trivial⟩ trivial
   intro i hi ih
   refine explore_ok (ok _) (mkO_ok Fc4_ok) (u := false) 20 _ rfl ?_
   conv => arg 5; cbv
   refine ⟨fun g => ⟨⟨⟨(by (try dsimp only); (try simp only [cast_fold, oN]); omega), of_decide_eq_true g⟩, trivial⟩, ?_⟩, fun g => ⟨rfl, ⟨rfl, ?_⟩, ?_, rfl⟩⟩
   ·have g : (i : Int) < (t.size : Int) := of_decide_eq_true g
    obtain ⟨c, c1, c2, c3, c4⟩ := atB (s := t) (n := i) (by omega)
    have hcd : isD c = true := List.all_eq_true.1 hD c (List.mem_of_getElem? c1)
    have hcr := (isD_byte c).1 hcd
    have hv := valD_lt (t.data.toList.take i) (List.all_eq_true.2 fun x hx => List.all_eq_true.1 hD x (List.mem_of_mem_take hx))
    have hv2 : 10 ^ (t.data.toList.take i).length <= 10 ^ 1 := Nat.pow_le_pow_right (by omega) (by rw [List.length_take]; omega)
    have hw : IntKind.i64.wrap ((i : Int) + 1) = ((i + 1 : Nat) : Int) := by rw [IntWalk.i64_in _ ⟨by omega, by omega⟩]; omega
    refine ih (i + 1) (fun i => i) (by omega) (by omega) (by rfl) ⟨⟨rfl, hw⟩, iR, iR, ⟨rfl, ?_⟩, iR, trivial⟩ trivial
    show IntKind.i64.wrap (IntKind.i64.wrap ((valD (List.take i t.data.toList) : Int) * 10) + IntKind.i64.wrap (IntKind.u8.wrap (byteAt t i - 48))) = (valD (List.take (i + 1) t.data.toList) : Int)
    rw [c4, valD_snoc, c2, IntWalk.u8_in _ ⟨by omega, by omega⟩, IntWalk.i64_in ((c.toNat : Int) - 48) ⟨by omega, by omega⟩, IntWalk.i64_in ((valD (List.take i t.data.toList) : Int) * 10) ⟨by omega, by omega⟩, IntWalk.i64_in _ ⟨by omega, by omega⟩]
    omega
   all_goals
    have g : ¬ (i : Int) < (t.size : Int) := of_decide_eq_false g
    have e1 : t.data.toList.take i = t.data.toList := List.take_of_length_le (by omega)
    have e2 : expoD t.data.toList = some ((valD t.data.toList : Nat) : Int) := if_pos ⟨hD, by omega, by omega⟩
   ·show IntKind.i64.wrap (sg * (valD (List.take i t.data.toList) : Int)) = (expo s.data.toList).getD 0
    have hle := expoD_le e2
    rw [e1, he, e2, IntWalk.i64_in _ ⟨by rcases hsg with rfl | rfl <;> omega, by rcases hsg with rfl | rfl <;> omega⟩]
    rfl
   ·show (expo s.data.toList).isSome = true
    rw [he, e2]; rfl
noncomputable def Fc5 : Table := addS 183 (.cons .str .nil) (fun s => (.tuple (.cons (.int .i64 fun _ => (expo (s ()).data.toList).getD 0) (.cons (.bool fun _ => (expo (s ()).data.toList).isSome) .nil)), [fun _ => (s ()).size < 2147483648])) Fc4
theorem Fc5_ok : TableOK Tryz.prog G0 Fc5 := addS_ok qf183.callable (fun s h => exponent_ok (s ()) h.1) Fc4_ok
def sclS (l : List UInt8) : ByteArray := match sufs.find? (fun x => x.1 == l) with
 | some x => toB x.1
 | none => ByteArray.empty
def sclP (l : List UInt8) : PV := .tuple (.cons (.agg (.cons (.str fun _ => sclS l) (.cons (.int .i64 fun _ => ((scl l).map (·.1)).getD 0) (.cons (.int .i64 fun _ => (((scl l).map (·.2)).getD 0 : Nat)) .nil)))) (.cons (.bool fun _ => (scl l).isSome) .nil))
def scA (s : ByteArray) (i : Nat) : Env := [(10, .int .i64 fun _ => (i : Int)), (9, .int .i64 fun _ => 16), (8, (.slice none 3 (fun _ => 16) fun j => .agg (.cons (.str fun _ => toB (sufG (j ()).toNat).1) (.cons (.int .i64 fun _ => (sufG (j ()).toNat).2.1) (.cons (.int .i64 fun _ => ((sufG (j ()).toNat).2.2 : Nat)) .nil))))), (2, .ptr 0 0), (0, .str fun _ => s)]
def scS : Store := [(0, .var (.agg (.cons (.str fun _ => ByteArray.empty) (.cons (.int .i64 fun _ => 0) (.cons (.int .i64 fun _ => 0) .nil)))))]
theorem find_at {α : Type} {l : List α} {p : α -> Bool} {i : Nat} (h : i < l.length) (hn : (l.take i).find? p = none) : (p l[i] = true -> l.find? p = some l[i]) /\ (p l[i] = false -> (l.take (i + 1)).find? p = none) := by
 constructor
 ·intro hp
  conv => lhs; rw [<- List.take_append_drop i l, List.find?_append, hn, List.drop_eq_getElem_cons h]
  rw [List.find?_cons, hp]; rfl
 ·intro hp
  rw [List.take_add_one, List.find?_append, hn, List.getElem?_eq_getElem h, Option.toList_some, List.find?_cons, hp]; rfl
theorem sufG_at {i : Nat} (h : i < sufs.length) : sufG i = sufs[i] := by
 unfold sufG
 rw [List.getD_eq_getElem?_getD, List.getElem?_eq_getElem h]; rfl
theorem scale_ok (s : ByteArray) (hs : s.size < 2147483648) : PF 170 (.cons (.str fun _ => s) .nil) (sclP s.data.toList) := by
 refine qf170.tree (mkO_ok Fc5_ok) false 40 rfl ?_
 conv => arg 5; cbv
 refine run_inv (ι := Nat) (fun i => 16 - i) (fun i => i <= 16 /\ (sufs.take i).find? (fun x => x.1 == s.data.toList) = none) (scA s) (fun _ => scS) 1 0 (fun i => i) (by rfl) (by rfl) ⟨Nat.zero_le _, rfl⟩ ?_ ⟨iR, iR, iR, iR, iR, trivial⟩ ⟨iR, trivial⟩
 intro i hi ih
 have hst := size_toB s
 refine explore_ok (ok _) (mkO_ok Fc5_ok) (u := false) 20 _ rfl ?_
 conv => arg 5; cbv
 refine ⟨fun g => ?_, fun g => ?_⟩
 ·have g : (i : Int) < 16 := of_decide_eq_true g
  have hlt : i < sufs.length := by show i < 16; omega
  obtain ⟨f1, f2⟩ := find_at (p := fun x => x.1 == s.data.toList) hlt hi.2
  have hel := sufG_at hlt
  have hw : IntKind.i64.wrap ((i : Int) + 1) = ((i + 1 : Nat) : Int) := by rw [IntWalk.i64_in _ ⟨by omega, by omega⟩]; omega
  refine ⟨⟨⟨(by (try dsimp only); (try simp only [cast_fold, oN]); omega), g⟩, trivial⟩, fun g2 => ?_, fun g2 => ih (i + 1) (fun i => i) ⟨by omega, f2 ?_⟩ (by omega) (by rfl) ⟨⟨rfl, hw⟩, iR, iR, iR, iR, trivial⟩ ⟨iR, trivial⟩⟩
  ·have g2 : toB (sufG i).1 = s := of_decide_eq_true g2
   rw [hel] at g2
   have hp : (sufs[i].1 == s.data.toList) = true := by rw [<- g2]; simp [toB]
   have hf := f1 hp
   have h1 : scl s.data.toList = some sufs[i].2 := by unfold scl; rw [hf]
   have h2 : sclS s.data.toList = toB sufs[i].1 := by unfold sclS; rw [hf]
   refine ⟨rfl, ⟨?_, ⟨rfl, ?_⟩, ⟨rfl, ?_⟩, rfl⟩, ?_, rfl⟩
   ·show toB (sufG i).1 = sclS s.data.toList
    rw [hel, h2]
   ·show (sufG i).2.1 = _
    rw [hel, h1]; rfl
   ·show ((sufG i).2.2 : Int) = _
    rw [hel, h1]; rfl
   ·show (scl s.data.toList).isSome = true
    rw [h1]; rfl
  ·have g2 : ¬ toB (sufG i).1 = s := of_decide_eq_false g2
   rw [hel] at g2
   refine Bool.eq_false_iff.2 fun hc => g2 ?_
   rw [eq_of_beq hc, toB_data]
 ·have g : ¬ (i : Int) < 16 := of_decide_eq_false g
  have hn : sufs.find? (fun x => x.1 == s.data.toList) = none := by
   have := hi.2
   rwa [List.take_of_length_le (by show 16 <= i; omega)] at this
  have hS : sclS s.data.toList = ByteArray.empty := by unfold sclS; rw [hn]
  have hno : scl s.data.toList = none -> impP (.tuple (.cons (.agg (.cons (.str fun _ => ByteArray.empty) (.cons (.int .i64 fun _ => 0) (.cons (.int .i64 fun _ => 0) .nil)))) (.cons .ff .nil))) (sclP s.data.toList) := fun h => by
   unfold sclP
   rw [hS, h]
   exact ⟨⟨rfl, ⟨rfl, rfl⟩, ⟨rfl, rfl⟩, rfl⟩, rfl, rfl⟩
  have hyes : ∀ (c : UInt8) (r : List UInt8), s.data.toList = c :: r -> c = 101 \/ c = 69 -> impP (.tuple (.cons (.agg (.cons (.str fun _ => ByteArray.empty) (.cons (.int .i64 fun _ => (expo (s.extract 1 s.size).data.toList).getD 0) (.cons (.int .i64 fun _ => 0) .nil)))) (.cons (.bool fun _ => (expo (s.extract 1 s.size).data.toList).isSome) .nil))) (sclP s.data.toList) := fun c r h hc => by
   have e : scl s.data.toList = (expo r).map fun n => (n, 0) := by unfold scl; rw [hn, h]; simp only; rw [if_pos hc]
   obtain ⟨c1, _, _⟩ := cut_one h
   have c2 : (toB r).data.toList = r := rfl
   unfold sclP
   rw [hS, e, c1, c2]
   cases expo r with
   | none => exact ⟨⟨rfl, ⟨rfl, rfl⟩, ⟨rfl, rfl⟩, rfl⟩, rfl, rfl⟩
   | some n => exact ⟨⟨rfl, ⟨rfl, rfl⟩, ⟨rfl, rfl⟩, rfl⟩, rfl, rfl⟩
  have hpos : ¬ s = (⟨#[]⟩ : ByteArray) -> 0 < s.size := fun h => by
   rw [<- hst]
   refine List.length_pos_iff.2 fun hc => h ?_
   rw [<- toB_data s, hc]; rfl
  refine ⟨fun g2 => ?_, fun g2 => ⟨rfl, hno ?_⟩⟩
  ·have hp := hpos (of_decide_eq_true g2)
   obtain ⟨c, c1, c2, c3, c4⟩ := atB (s := s) (n := 0) hp
   have c2 : byteAt s 0 = (c.toNat : Int) := c2
   have c3 : s.data.toList = c :: s.data.toList.drop 1 := c3
   obtain ⟨d1, d2, d3⟩ := cut_one c3
   have hp2 : 0 <= (0 : Int) /\ (0 : Int) < (s.size : Int) := ⟨Int.le_refl _, by omega⟩
   have hk : (s.extract (Int.toNat 1) (s.size : Int).toNat).size < 2147483648 := by
    show (s.extract 1 s.size).size < 2147483648
    rw [d1]; omega
   have hb : ∀ k : Nat, k < 256 -> (byteAt s 0 = (k : Int) ↔ c = UInt8.ofNat k) := fun k hk => by
    rw [c2]
    constructor
    ·intro h
     have : c.toNat = k := by omega
     rw [<- this]; simp
    ·rintro rfl
     rw [UInt8.toNat_ofNat']; omega
   refine ⟨⟨hp2, trivial⟩, fun g3 => ⟨⟨⟨by decide, (by (try dsimp only); (try simp only [cast_fold, oN]); omega)⟩, hk, trivial⟩, rfl, hyes c _ c3 (.inl ((hb 101 (by omega)).1 (beqT g3)))⟩, fun g3 => ⟨⟨hp2, trivial⟩, fun g4 => ⟨⟨⟨by decide, (by (try dsimp only); (try simp only [cast_fold, oN]); omega)⟩, hk, trivial⟩, rfl, hyes c _ c3 (.inr ((hb 69 (by omega)).1 (beqT g4)))⟩, fun g4 => ⟨rfl, hno ?_⟩⟩⟩
   unfold scl
   rw [hn, c3]
   simp only
   exact if_neg fun hc => by
    rcases hc with hc | hc
    ·exact beqF g3 ((hb 101 (by omega)).2 hc)
    ·exact beqF g4 ((hb 69 (by omega)).2 hc)
  ·have : s = (⟨#[]⟩ : ByteArray) := Classical.byContradiction fun hc => of_decide_eq_false g2 hc
   subst this
   cases hn
noncomputable def Fc6 : Table := addS 170 (.cons .str .nil) (fun s => (.tuple (.cons (.agg (.cons (.str fun _ => sclS (s ()).data.toList) (.cons (.int .i64 fun _ => ((scl (s ()).data.toList).map (·.1)).getD 0) (.cons (.int .i64 fun _ => (((scl (s ()).data.toList).map (·.2)).getD 0 : Nat)) .nil)))) (.cons (.bool fun _ => (scl (s ()).data.toList).isSome) .nil)), [fun _ => (s ()).size < 2147483648])) Fc5
theorem Fc6_ok : TableOK Tryz.prog G0 Fc6 := addS_ok qf170.callable (fun s h => scale_ok (s ()) h.1) Fc5_ok
def zP : PV := .agg (.cons (.int .u64 fun _ => 0) (.cons (.int .u64 fun _ => 0) .nil))
def tmsA (m w : Int) (i : Nat) : Env := [(12, .int .i64 fun _ => (i : Int)), (11, .int .i64 fun _ => m), (7, .ff), (6, .ptr 1 0), (3, .ptr 0 0), (2, .int .i64 fun _ => w)]
def tmsS (v i : Nat) : Store := [(0, .var (.agg (.cons (.int .u64 fun _ => wHi (v * 10 ^ i)) (.cons (.int .u64 fun _ => wLo (v * 10 ^ i)) .nil)))), (1, .var zP)]
theorem tms_ok (h l t w : Int) (hk : okW h l) (ht : 0 <= t /\ t < 4611686018427387904) (hw : 0 <= w /\ w < 4611686018427387904) : PF 173 (.cons (wP h l) (.cons (i64 t) (.cons (i64 w) .nil)))
  (.tuple (.cons (.agg (.cons (.int .u64 fun _ => wHi (capW (wN h l * 10 ^ (min t 60).toNat * 2 ^ w.toNat))) (.cons (.int .u64 fun _ => wLo (capW (wN h l * 10 ^ (min t 60).toNat * 2 ^ w.toNat))) .nil))) (.cons (.bool fun _ => decide (wN h l * 10 ^ (min t 60).toNat * 2 ^ w.toNat < W128)) .nil))) := by
 refine qf173.tree (mkO_ok Fc6_ok) false 40 rfl ?_
 conv => arg 5; cbv
 have hv := wN_lt hk
 have e1 := wHi_wN hk
 have e2 := wLo_wN hk
 generalize wN h l = v at *
 have hm : (min t 60).toNat = (if 60 < t then 60 else t).toNat := by split <;> omega
 rw [hm]
 have hm2 : 0 <= (if 60 < t then 60 else t) /\ (if 60 < t then 60 else t) <= 60 := by split <;> omega
 generalize (if 60 < t then 60 else t) = m at *
 refine run_inv (ι := Nat) (fun i => m.toNat - i) (fun i => (i : Int) <= m /\ v * 10 ^ i < W128) (tmsA m w) (tmsS v) 2 0 (fun i => i) (by rfl) (by rfl) ⟨hm2.1, by rw [Nat.pow_zero, Nat.mul_one]; exact hv⟩ ?_ ⟨iR, iR, iR, iR, iR, iR, trivial⟩ ⟨⟨⟨rfl, ?_⟩, ⟨rfl, ?_⟩, rfl⟩, iR, trivial⟩
 ·intro i hi ih
  obtain ⟨hi1, hi2⟩ := hi
  refine explore_ok (ok _) (mkO_ok Fc6_ok) (u := false) 20 _ rfl ?_
  conv => arg 5; cbv
  simp only [wN_of]
  refine ⟨fun g => ⟨⟨⟨okW_of hi2, by decide⟩, trivial⟩, fun g2 => ?_, fun g2 => ?_⟩, fun g => ⟨⟨⟨okW_of hi2, hw.1, by omega⟩, trivial⟩, rfl, ?_⟩⟩
  ·have g : (i : Int) < m := of_decide_eq_true g
   have g2 : ¬ v * 10 ^ i * 10 < W128 := fun hc => by
    rw [show Int.toNat 10 = 10 from rfl] at g2
    rw [decide_eq_true hc] at g2; cases g2
   have hle : v * 10 ^ i * 10 <= v * 10 ^ m.toNat := by
    rw [Nat.mul_assoc, <- Nat.pow_succ]
    exact Nat.mul_le_mul_left _ (Nat.pow_le_pow_right (by omega) (by omega))
   have hle2 : v * 10 ^ m.toNat * 1 <= v * 10 ^ m.toNat * 2 ^ w.toNat := Nat.mul_le_mul_left _ Nat.one_le_two_pow
   have hno : ¬ v * 10 ^ m.toNat * 2 ^ w.toNat < W128 := by omega
   refine ⟨rfl, ⟨⟨rfl, ?_⟩, ⟨rfl, ?_⟩, rfl⟩, decide_eq_false hno, rfl⟩ <;> (unfold capW; rw [if_neg hno]; rfl)
  ·have g : (i : Int) < m := of_decide_eq_true g
   have g2 : v * 10 ^ i * 10 < W128 := Classical.byContradiction fun hc => by
    rw [show Int.toNat 10 = 10 from rfl] at g2
    rw [decide_eq_false hc] at g2; cases g2
   have hw : IntKind.i64.wrap ((i : Int) + 1) = ((i + 1 : Nat) : Int) := by rw [IntWalk.i64_in _ ⟨by omega, by omega⟩]; omega
   have e : tmV (v * 10 ^ i) (Int.toNat 10) = v * 10 ^ (i + 1) := by
    unfold tmV
    rw [show Int.toNat 10 = 10 from rfl, if_pos g2, Nat.pow_succ, Nat.mul_assoc]
   refine ih (i + 1) (fun i => i) ⟨by omega, by rw [Nat.pow_succ, <- Nat.mul_assoc]; exact g2⟩ (by omega) (by rfl) ⟨⟨rfl, hw⟩, iR, iR, iR, iR, iR, trivial⟩ ⟨⟨⟨rfl, ?_⟩, ⟨rfl, ?_⟩, rfl⟩, iR, trivial⟩ <;> (dsimp only; rw [e])
  ·have g : ¬ (i : Int) < m := of_decide_eq_false g
   have e : i = m.toNat := by omega
   rw [<- e]
   exact ⟨⟨⟨rfl, rfl⟩, ⟨rfl, rfl⟩, rfl⟩, rfl, rfl⟩
 ·rw [<- e1, Nat.pow_zero, Nat.mul_one]
 ·rw [<- e2, Nat.pow_zero, Nat.mul_one]
def byyA (m : Int) (v i : Nat) : Env := [(11, .int .i64 fun _ => (i : Int)), (10, .int .i64 fun _ => m), (5, .bool fun _ => decide (v % 10 ^ i ≠ 0)), (4, .ptr 1 0), (2, .ptr 0 0)]
def byyS (v i : Nat) : Store := [(0, .var (.agg (.cons (.int .u64 fun _ => wHi (v / 10 ^ i)) (.cons (.int .u64 fun _ => wLo (v / 10 ^ i)) .nil)))), (1, .var zP)]
theorem byy_ok (h l t : Int) (hk : okW h l) (ht : 0 <= t /\ t < 4611686018427387904) : PF 185 (.cons (wP h l) (.cons (i64 t) .nil)) (.agg (.cons (.int .u64 fun _ => wHi (ceilD (wN h l) (10 ^ t.toNat))) (.cons (.int .u64 fun _ => wLo (ceilD (wN h l) (10 ^ t.toNat))) .nil))) := by
 refine qf185.tree (mkO_ok Fc6_ok) false 40 rfl ?_
 conv => arg 5; cbv
 have hv := wN_lt hk
 have e1 := wHi_wN hk
 have e2 := wLo_wN hk
 generalize wN h l = v at *
 have hm : (if t < 0 then 0 else t) = t := if_neg (by omega)
 rw [hm]
 refine run_inv (ι := Nat) (fun i => t.toNat - i) (fun i => (i : Int) <= t) (byyA t v) (byyS v) 2 0 (fun i => i) (by rfl) (by rfl) ht.1 ?_ ⟨iR, iR, ?_, iR, iR, trivial⟩ ⟨⟨⟨rfl, ?_⟩, ⟨rfl, ?_⟩, rfl⟩, iR, trivial⟩
 ·intro i hi ih
  have hq : v / 10 ^ i < W128 := Nat.lt_of_le_of_lt (Nat.div_le_self _ _) hv
  have hmm : v % 10 ^ (i + 1) = v % 10 ^ i + 10 ^ i * (v / 10 ^ i % 10) := by rw [Nat.pow_succ, Nat.mod_mul]
  have hdd : v / 10 ^ (i + 1) = v / 10 ^ i / 10 := by rw [Nat.pow_succ, Nat.div_div_eq_div_mul]
  have hp : 0 < 10 ^ i := Nat.pow_pos (by omega)
  refine explore_ok (ok _) (mkO_ok Fc6_ok) (u := false) 20 _ rfl ?_
  conv => arg 5; cbv
  simp only [wN_of, show Int.toNat 10 = 10 from rfl, byR_ten]
  refine ⟨fun g => ⟨⟨⟨okW_of hq, by decide⟩, trivial⟩, fun g2 => ?_, fun g2 => ?_⟩, fun g => ⟨fun g2 => ⟨⟨⟨okW_of hq, okW_small ⟨by decide, by decide⟩⟩, (by show drawOK _ _ = true; decide +kernel), trivial⟩, rfl, ?_⟩, fun g2 => ⟨rfl, ?_⟩⟩⟩
  ·have g : (i : Int) < t := of_decide_eq_true g
   have g2 : ¬ v % 10 ^ i = 0 := of_decide_eq_true g2
   have hw : IntKind.i64.wrap ((i : Int) + 1) = ((i + 1 : Nat) : Int) := by rw [IntWalk.i64_in _ ⟨by omega, by omega⟩]; omega
   refine ih (i + 1) (fun i => i) (by omega) (by omega) (by rfl) ⟨⟨rfl, hw⟩, iR, ?_, iR, iR, trivial⟩ ⟨⟨⟨rfl, ?_⟩, ⟨rfl, ?_⟩, rfl⟩, iR, trivial⟩
   ·show decide (v % 10 ^ (i + 1) ≠ 0) = true
    exact decide_eq_true (by omega)
   ·rw [hdd]
   ·rw [hdd]
  ·have g : (i : Int) < t := of_decide_eq_true g
   have g2 : v % 10 ^ i = 0 := Classical.byContradiction fun hc => of_decide_eq_false g2 hc
   have hw : IntKind.i64.wrap ((i : Int) + 1) = ((i + 1 : Nat) : Int) := by rw [IntWalk.i64_in _ ⟨by omega, by omega⟩]; omega
   refine ih (i + 1) (fun i => i) (by omega) (by omega) (by rfl) ⟨⟨rfl, hw⟩, iR, ?_, iR, iR, trivial⟩ ⟨⟨⟨rfl, ?_⟩, ⟨rfl, ?_⟩, rfl⟩, iR, trivial⟩
   ·show decide (0 < ((v / 10 ^ i % 10 : Nat) : Int)) = decide (v % 10 ^ (i + 1) ≠ 0)
    rw [hmm, g2, Nat.zero_add, decide_eq_decide]
    have := Nat.mul_eq_zero (m := v / 10 ^ i % 10) (n := 10 ^ i)
    omega
   ·rw [hdd]
   ·rw [hdd]
  all_goals
   have g : ¬ (i : Int) < t := of_decide_eq_false g
   have e : t.toNat = i := by omega
   rw [e]
  ·have g2 : ¬ v % 10 ^ i = 0 := of_decide_eq_true g2
   have hc : ceilD v (10 ^ i) = v / 10 ^ i + wN 0 1 := by unfold ceilD; rw [if_neg g2]; rfl
   have hlt : v / 10 ^ i + wN 0 1 < W128 := by
    rw [<- hc]; exact Nat.lt_of_le_of_lt (ceilD_le v _ hp) hv
   refine ⟨⟨rfl, ?_⟩, ⟨rfl, ?_⟩, rfl⟩ <;> (rw [hc, capW_eq hlt])
  ·have g2 : v % 10 ^ i = 0 := Classical.byContradiction fun hc => of_decide_eq_false g2 hc
   have hc : ceilD v (10 ^ i) = v / 10 ^ i := by unfold ceilD; rw [if_pos g2]; rfl
   rw [hc]
   exact ⟨⟨rfl, rfl⟩, ⟨rfl, rfl⟩, rfl⟩
 ·show decide (v % 10 ^ 0 ≠ 0) = false
  rw [Nat.pow_zero, Nat.mod_one]; rfl
 ·rw [<- e1, Nat.pow_zero, Nat.div_one]
 ·rw [<- e2, Nat.pow_zero, Nat.div_one]
theorem most_ok : PF 163 .nil (.agg (.cons (.int .u64 fun _ => wHi (mostA)) (.cons (.int .u64 fun _ => wLo (mostA)) .nil))) := by
 refine qf163.tree (mkO_ok Fc6_ok) false 40 rfl ?_
 conv => arg 5; cbv
 have e : tmV (wN 0 1152921504606846976) (Int.toNat 1000000000) = mostA := by decide
 refine ⟨⟨⟨okW_small ⟨by decide, by decide⟩, by decide⟩, trivial⟩, rfl, ⟨rfl, ?_⟩, ⟨rfl, ?_⟩, rfl⟩ <;> (dsimp only; rw [e])
noncomputable def Fe1 : Table := addS 173 (.cons shWide (.cons (.int .i64) (.cons (.int .i64) .nil))) (fun h l t w => (.tuple (.cons (.agg (.cons (.int .u64 fun _ => wHi (capW (wN (h ()) (l ()) * 10 ^ (min (t ()) 60).toNat * 2 ^ (w ()).toNat))) (.cons (.int .u64 fun _ => wLo (capW (wN (h ()) (l ()) * 10 ^ (min (t ()) 60).toNat * 2 ^ (w ()).toNat))) .nil))) (.cons (.bool fun _ => decide (wN (h ()) (l ()) * 10 ^ (min (t ()) 60).toNat * 2 ^ (w ()).toNat < W128)) .nil)), [fun _ => okW (h ()) (l ()) /\ (0 <= t () /\ t () < 4611686018427387904) /\ 0 <= w () /\ w () < 4611686018427387904]))
 (addS 185 (.cons shWide (.cons (.int .i64) .nil)) (fun h l t => ((.agg (.cons (.int .u64 fun _ => wHi (ceilD (wN (h ()) (l ())) (10 ^ (t ()).toNat))) (.cons (.int .u64 fun _ => wLo (ceilD (wN (h ()) (l ())) (10 ^ (t ()).toNat))) .nil))), [fun _ => okW (h ()) (l ()) /\ 0 <= t () /\ t () < 4611686018427387904]))
 (addS 163 .nil ((.agg (.cons (.int .u64 fun _ => wHi (mostA)) (.cons (.int .u64 fun _ => wLo (mostA)) .nil))), []) Fc6))
theorem Fe1_ok : TableOK Tryz.prog G0 Fe1 := addS_ok qf173.callable (fun h l t w c => tms_ok (h ()) (l ()) (t ()) (w ()) c.1.1 c.1.2.1 c.1.2.2) (addS_ok qf185.callable (fun h l t c => byy_ok (h ()) (l ()) (t ()) c.1.1 c.1.2) (addS_ok qf163.callable (fun _ => most_ok) Fc6_ok))
theorem fits_ok (h l : Int) (hk : okW h l) : PF 135 (.cons (wP h l) .nil) (.bool fun _ => decide (wN h l <= mostA)) := by
 refine qf135.tree (mkO_ok Fe1_ok) false 40 rfl ?_
 conv => arg 5; cbv
 refine ⟨⟨⟨hk, okW_of (by decide)⟩, (by show drawOK _ _ = true; decide +kernel), trivial⟩, rfl, ?_⟩
 show decide ((if wN h l < wN (wHi mostA) (wLo mostA) then -1 else if wN (wHi mostA) (wLo mostA) < wN h l then 1 else 0 : Int) <= 0) = decide (wN h l <= mostA)
 rw [wN_of, decide_eq_decide]
 split
 ·omega
 ·split <;> omega
noncomputable def Fe2 : Table := addS 135 (.cons shWide .nil) (fun h l => (.bool fun _ => decide (wN (h ()) (l ()) <= mostA), [fun _ => okW (h ()) (l ())])) Fe1
theorem Fe2_ok : TableOK Tryz.prog G0 Fe2 := addS_ok qf135.callable (fun h l c => fits_ok (h ()) (l ()) c.1) Fe1_ok
end Go.Proofs.YtpbjcabecalpaaaGreatDoor
