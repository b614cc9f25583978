/- A part of what the walks of this claim stand on. -/
import Derived.Test.YtpbjcabecalpaaaGreatDoorProg
import Derived.Test.YtpbjcabecalpaaaGreatDoorGab
import Derived.KernelRfl
import Derived.Test.YtpbjcabecalpaaaGreatDoorGac
import Derived.IntWalk
import Derived.Shelf.Strconv.Itoa3
set_option maxRecDepth 2000
set_option linter.unusedVariables false
set_option linter.unusedSimpArgs false
namespace Go.Proofs.YtpbjcabecalpaaaGreatDoor
open Go Go.Abs Go.Proofs
set_option maxRecDepth 20000
namespace TyTab
def i1 : TI := ⟨.func, 1, 8, .nilf⟩
theorem ok1 : TOK Tryz.prog 1 i1 := tok Tryz.types_size.symm Tryz.type1 Tryz.underlying1 (by rfl) (fun h => by cases h)
def i2 : TI := ⟨.int .i64, 1, 8, (.int .i64 fun _ => 0)⟩
theorem ok2 : TOK Tryz.prog 2 i2 := tok Tryz.types_size.symm Tryz.type2 Tryz.underlying2 (by rfl) (fun h => by cases h)
def i3 : TI := ⟨.int .i64, 1, 8, (.int .i64 fun _ => 0)⟩
theorem ok3 : TOK Tryz.prog 3 i3 := tok Tryz.types_size.symm Tryz.type3 Tryz.underlying3 (by rfl) (fun h => by cases h)
def i4 : TI := ⟨.bool, 1, 1, .ff⟩
theorem ok4 : TOK Tryz.prog 4 i4 := tok Tryz.types_size.symm Tryz.type4 Tryz.underlying4 (by rfl) (fun h => by cases h)
def i5 : TI := ⟨.int .u8, 1, 1, (.int .u8 fun _ => 0)⟩
theorem ok5 : TOK Tryz.prog 5 i5 := tok Tryz.types_size.symm Tryz.type5 Tryz.underlying5 (by rfl) (fun h => by cases h)
def i6 : TI := ⟨.int .u8, 1, 1, (.int .u8 fun _ => 0)⟩
theorem ok6 : TOK Tryz.prog 6 i6 := tok Tryz.types_size.symm Tryz.type6 Tryz.underlying6 (by rfl) (fun h => by cases h)
def i7 : TI := ⟨.struct [(0, 2), (1, 3), (2, 4), (3, 6)], 4, 24, (.agg (.cons (.int .i64 fun _ => 0) (.cons (.int .i64 fun _ => 0) (.cons .ff (.cons (.int .u8 fun _ => 0) .nil)))))⟩
theorem ok7 : TOK Tryz.prog 7 i7 := tok Tryz.types_size.symm Tryz.type7 Tryz.underlying7 (by rfl) (fun _ => ⟨by kernel_rfl, by kernel_rfl⟩)
def i8 : TI := ⟨.struct [(0, 2), (1, 3), (2, 4), (3, 6)], 4, 24, (.agg (.cons (.int .i64 fun _ => 0) (.cons (.int .i64 fun _ => 0) (.cons .ff (.cons (.int .u8 fun _ => 0) .nil)))))⟩
theorem ok8 : TOK Tryz.prog 8 i8 := tok Tryz.types_size.symm Tryz.type8 Tryz.underlying8 (by rfl) (fun _ => ⟨by kernel_rfl, by kernel_rfl⟩)
def i9 : TI := ⟨.str, 1, 16, (.str fun _ => ByteArray.empty)⟩
theorem ok9 : TOK Tryz.prog 9 i9 := tok Tryz.types_size.symm Tryz.type9 Tryz.underlying9 (by rfl) (fun h => by cases h)
def i10 : TI := ⟨.str, 1, 16, (.str fun _ => ByteArray.empty)⟩
theorem ok10 : TOK Tryz.prog 10 i10 := tok Tryz.types_size.symm Tryz.type10 Tryz.underlying10 (by rfl) (fun h => by cases h)
def i11 : TI := ⟨.str, 1, 16, (.str fun _ => ByteArray.empty)⟩
theorem ok11 : TOK Tryz.prog 11 i11 := tok Tryz.types_size.symm Tryz.type11 Tryz.underlying11 (by rfl) (fun h => by cases h)
def i12 : TI := ⟨.int .u64, 1, 8, (.int .u64 fun _ => 0)⟩
theorem ok12 : TOK Tryz.prog 12 i12 := tok Tryz.types_size.symm Tryz.type12 Tryz.underlying12 (by rfl) (fun h => by cases h)
def i15 : TI := ⟨.ptr 233, 1, 8, .nilp⟩
theorem ok15 : TOK Tryz.prog 15 i15 := tok Tryz.types_size.symm Tryz.type15 Tryz.underlying15 (by rfl) (fun h => by cases h)
def i16 : TI := ⟨.ptr 236, 1, 8, .nilp⟩
theorem ok16 : TOK Tryz.prog 16 i16 := tok Tryz.types_size.symm Tryz.type16 Tryz.underlying16 (by rfl) (fun h => by cases h)
def i17 : TI := ⟨.ptr 244, 1, 8, .nilp⟩
theorem ok17 : TOK Tryz.prog 17 i17 := tok Tryz.types_size.symm Tryz.type17 Tryz.underlying17 (by rfl) (fun h => by cases h)
def i20 : TI := ⟨.iface, 1, 16, .nili⟩
theorem ok20 : TOK Tryz.prog 20 i20 := tok Tryz.types_size.symm Tryz.type20 Tryz.underlying20 (by rfl) (fun h => by cases h)
def i21 : TI := ⟨.int .i32, 1, 4, (.int .i32 fun _ => 0)⟩
theorem ok21 : TOK Tryz.prog 21 i21 := tok Tryz.types_size.symm Tryz.type21 Tryz.underlying21 (by rfl) (fun h => by cases h)
def i22 : TI := ⟨.slice 50, 1, 24, .nils⟩
theorem ok22 : TOK Tryz.prog 22 i22 := tok Tryz.types_size.symm Tryz.type22 Tryz.underlying22 (by rfl) (fun h => by cases h)
def i23 : TI := ⟨.struct [(0, 9), (1, 3), (2, 3), (3, 22)], 4, 56, (.agg (.cons (.str fun _ => ByteArray.empty) (.cons (.int .i64 fun _ => 0) (.cons (.int .i64 fun _ => 0) (.cons .nils .nil)))))⟩
theorem ok23 : TOK Tryz.prog 23 i23 := tok Tryz.types_size.symm Tryz.type23 Tryz.underlying23 (by rfl) (fun _ => ⟨by kernel_rfl, by kernel_rfl⟩)
def i24 : TI := ⟨.struct [(0, 9), (1, 3), (2, 3), (3, 22)], 4, 56, (.agg (.cons (.str fun _ => ByteArray.empty) (.cons (.int .i64 fun _ => 0) (.cons (.int .i64 fun _ => 0) (.cons .nils .nil)))))⟩
theorem ok24 : TOK Tryz.prog 24 i24 := tok Tryz.types_size.symm Tryz.type24 Tryz.underlying24 (by rfl) (fun _ => ⟨by kernel_rfl, by kernel_rfl⟩)
def i25 : TI := ⟨.slice 47, 1, 24, .nils⟩
theorem ok25 : TOK Tryz.prog 25 i25 := tok Tryz.types_size.symm Tryz.type25 Tryz.underlying25 (by rfl) (fun h => by cases h)
def i26 : TI := ⟨.struct [(0, 3), (1, 24), (5, 9), (6, 9), (7, 25), (8, 3)], 9, 128, (.agg (.cons (.int .i64 fun _ => 0) (.cons (.agg (.cons (.str fun _ => ByteArray.empty) (.cons (.int .i64 fun _ => 0) (.cons (.int .i64 fun _ => 0) (.cons .nils .nil))))) (.cons (.str fun _ => ByteArray.empty) (.cons (.str fun _ => ByteArray.empty) (.cons .nils (.cons (.int .i64 fun _ => 0) .nil)))))))⟩
theorem ok26 : TOK Tryz.prog 26 i26 := tok Tryz.types_size.symm Tryz.type26 Tryz.underlying26 (by rfl) (fun _ => ⟨by kernel_rfl, by kernel_rfl⟩)
def i27 : TI := ⟨.struct [(0, 3), (1, 24), (5, 9), (6, 9), (7, 25), (8, 3)], 9, 128, (.agg (.cons (.int .i64 fun _ => 0) (.cons (.agg (.cons (.str fun _ => ByteArray.empty) (.cons (.int .i64 fun _ => 0) (.cons (.int .i64 fun _ => 0) (.cons .nils .nil))))) (.cons (.str fun _ => ByteArray.empty) (.cons (.str fun _ => ByteArray.empty) (.cons .nils (.cons (.int .i64 fun _ => 0) .nil)))))))⟩
theorem ok27 : TOK Tryz.prog 27 i27 := tok Tryz.types_size.symm Tryz.type27 Tryz.underlying27 (by rfl) (fun _ => ⟨by kernel_rfl, by kernel_rfl⟩)
def i28 : TI := ⟨.func, 1, 8, .nilf⟩
theorem ok28 : TOK Tryz.prog 28 i28 := tok Tryz.types_size.symm Tryz.type28 Tryz.underlying28 (by rfl) (fun h => by cases h)
def i29 : TI := ⟨.func, 1, 8, .nilf⟩
theorem ok29 : TOK Tryz.prog 29 i29 := tok Tryz.types_size.symm Tryz.type29 Tryz.underlying29 (by rfl) (fun h => by cases h)
def i30 : TI := ⟨.func, 1, 8, .nilf⟩
theorem ok30 : TOK Tryz.prog 30 i30 := tok Tryz.types_size.symm Tryz.type30 Tryz.underlying30 (by rfl) (fun h => by cases h)
def i31 : TI := ⟨.func, 1, 8, .nilf⟩
theorem ok31 : TOK Tryz.prog 31 i31 := tok Tryz.types_size.symm Tryz.type31 Tryz.underlying31 (by rfl) (fun h => by cases h)
def i32 : TI := ⟨.func, 1, 8, .nilf⟩
theorem ok32 : TOK Tryz.prog 32 i32 := tok Tryz.types_size.symm Tryz.type32 Tryz.underlying32 (by rfl) (fun h => by cases h)
def i34 : TI := ⟨.func, 1, 8, .nilf⟩
theorem ok34 : TOK Tryz.prog 34 i34 := tok Tryz.types_size.symm Tryz.type34 Tryz.underlying34 (by rfl) (fun h => by cases h)
def i35 : TI := ⟨.slice 27, 1, 24, .nils⟩
theorem ok35 : TOK Tryz.prog 35 i35 := tok Tryz.types_size.symm Tryz.type35 Tryz.underlying35 (by rfl) (fun h => by cases h)
def i36 : TI := ⟨.int .i64, 1, 8, (.int .i64 fun _ => 0)⟩
theorem ok36 : TOK Tryz.prog 36 i36 := tok Tryz.types_size.symm Tryz.type36 Tryz.underlying36 (by rfl) (fun h => by cases h)
def i38 : TI := ⟨.func, 1, 8, .nilf⟩
theorem ok38 : TOK Tryz.prog 38 i38 := tok Tryz.types_size.symm Tryz.type38 Tryz.underlying38 (by rfl) (fun h => by cases h)
def i40 : TI := ⟨.func, 1, 8, .nilf⟩
theorem ok40 : TOK Tryz.prog 40 i40 := tok Tryz.types_size.symm Tryz.type40 Tryz.underlying40 (by rfl) (fun h => by cases h)
def i41 : TI := ⟨.func, 1, 8, .nilf⟩
theorem ok41 : TOK Tryz.prog 41 i41 := tok Tryz.types_size.symm Tryz.type41 Tryz.underlying41 (by rfl) (fun h => by cases h)
def i42 : TI := ⟨.func, 1, 8, .nilf⟩
theorem ok42 : TOK Tryz.prog 42 i42 := tok Tryz.types_size.symm Tryz.type42 Tryz.underlying42 (by rfl) (fun h => by cases h)
def i43 : TI := ⟨.func, 1, 8, .nilf⟩
theorem ok43 : TOK Tryz.prog 43 i43 := tok Tryz.types_size.symm Tryz.type43 Tryz.underlying43 (by rfl) (fun h => by cases h)
def i44 : TI := ⟨.struct [(0, 3), (1, 3), (2, 3)], 3, 24, (.agg (.cons (.int .i64 fun _ => 0) (.cons (.int .i64 fun _ => 0) (.cons (.int .i64 fun _ => 0) .nil))))⟩
theorem ok44 : TOK Tryz.prog 44 i44 := tok Tryz.types_size.symm Tryz.type44 Tryz.underlying44 (by rfl) (fun _ => ⟨by kernel_rfl, by kernel_rfl⟩)
def i45 : TI := ⟨.struct [(0, 3), (1, 3), (2, 3)], 3, 24, (.agg (.cons (.int .i64 fun _ => 0) (.cons (.int .i64 fun _ => 0) (.cons (.int .i64 fun _ => 0) .nil))))⟩
theorem ok45 : TOK Tryz.prog 45 i45 := tok Tryz.types_size.symm Tryz.type45 Tryz.underlying45 (by rfl) (fun _ => ⟨by kernel_rfl, by kernel_rfl⟩)
def i46 : TI := ⟨.struct [(0, 9), (1, 45), (4, 45)], 7, 64, (.agg (.cons (.str fun _ => ByteArray.empty) (.cons (.agg (.cons (.int .i64 fun _ => 0) (.cons (.int .i64 fun _ => 0) (.cons (.int .i64 fun _ => 0) .nil)))) (.cons (.agg (.cons (.int .i64 fun _ => 0) (.cons (.int .i64 fun _ => 0) (.cons (.int .i64 fun _ => 0) .nil)))) .nil))))⟩
theorem ok46 : TOK Tryz.prog 46 i46 := tok Tryz.types_size.symm Tryz.type46 Tryz.underlying46 (by rfl) (fun _ => ⟨by kernel_rfl, by kernel_rfl⟩)
def i47 : TI := ⟨.struct [(0, 9), (1, 45), (4, 45)], 7, 64, (.agg (.cons (.str fun _ => ByteArray.empty) (.cons (.agg (.cons (.int .i64 fun _ => 0) (.cons (.int .i64 fun _ => 0) (.cons (.int .i64 fun _ => 0) .nil)))) (.cons (.agg (.cons (.int .i64 fun _ => 0) (.cons (.int .i64 fun _ => 0) (.cons (.int .i64 fun _ => 0) .nil)))) .nil))))⟩
theorem ok47 : TOK Tryz.prog 47 i47 := tok Tryz.types_size.symm Tryz.type47 Tryz.underlying47 (by rfl) (fun _ => ⟨by kernel_rfl, by kernel_rfl⟩)
def i48 : TI := ⟨.arr 3 4, 3, 3, (.arrB 3 fun _ => List.replicate 3 false)⟩
theorem ok48 : TOK Tryz.prog 48 i48 := tok Tryz.types_size.symm Tryz.type48 Tryz.underlying48 (by rfl) (fun _ => ⟨by kernel_rfl, by kernel_rfl⟩)
def i49 : TI := ⟨.struct [(0, 9), (1, 45), (4, 45), (7, 48)], 10, 72, (.agg (.cons (.str fun _ => ByteArray.empty) (.cons (.agg (.cons (.int .i64 fun _ => 0) (.cons (.int .i64 fun _ => 0) (.cons (.int .i64 fun _ => 0) .nil)))) (.cons (.agg (.cons (.int .i64 fun _ => 0) (.cons (.int .i64 fun _ => 0) (.cons (.int .i64 fun _ => 0) .nil)))) (.cons (.arrB 3 fun _ => List.replicate 3 false) .nil)))))⟩
theorem ok49 : TOK Tryz.prog 49 i49 := tok Tryz.types_size.symm Tryz.type49 Tryz.underlying49 (by rfl) (fun _ => ⟨by kernel_rfl, by kernel_rfl⟩)
def i50 : TI := ⟨.struct [(0, 9), (1, 45), (4, 45), (7, 48)], 10, 72, (.agg (.cons (.str fun _ => ByteArray.empty) (.cons (.agg (.cons (.int .i64 fun _ => 0) (.cons (.int .i64 fun _ => 0) (.cons (.int .i64 fun _ => 0) .nil)))) (.cons (.agg (.cons (.int .i64 fun _ => 0) (.cons (.int .i64 fun _ => 0) (.cons (.int .i64 fun _ => 0) .nil)))) (.cons (.arrB 3 fun _ => List.replicate 3 false) .nil)))))⟩
theorem ok50 : TOK Tryz.prog 50 i50 := tok Tryz.types_size.symm Tryz.type50 Tryz.underlying50 (by rfl) (fun _ => ⟨by kernel_rfl, by kernel_rfl⟩)
def i51 : TI := ⟨.func, 1, 8, .nilf⟩
theorem ok51 : TOK Tryz.prog 51 i51 := tok Tryz.types_size.symm Tryz.type51 Tryz.underlying51 (by rfl) (fun h => by cases h)
def i52 : TI := ⟨.func, 1, 8, .nilf⟩
theorem ok52 : TOK Tryz.prog 52 i52 := tok Tryz.types_size.symm Tryz.type52 Tryz.underlying52 (by rfl) (fun h => by cases h)
def i53 : TI := ⟨.func, 1, 8, .nilf⟩
theorem ok53 : TOK Tryz.prog 53 i53 := tok Tryz.types_size.symm Tryz.type53 Tryz.underlying53 (by rfl) (fun h => by cases h)
def i54 : TI := ⟨.func, 1, 8, .nilf⟩
theorem ok54 : TOK Tryz.prog 54 i54 := tok Tryz.types_size.symm Tryz.type54 Tryz.underlying54 (by rfl) (fun h => by cases h)
def i55 : TI := ⟨.func, 1, 8, .nilf⟩
theorem ok55 : TOK Tryz.prog 55 i55 := tok Tryz.types_size.symm Tryz.type55 Tryz.underlying55 (by rfl) (fun h => by cases h)
def i56 : TI := ⟨.slice 9, 1, 24, .nils⟩
theorem ok56 : TOK Tryz.prog 56 i56 := tok Tryz.types_size.symm Tryz.type56 Tryz.underlying56 (by rfl) (fun h => by cases h)
def i57 : TI := ⟨.func, 1, 8, .nilf⟩
theorem ok57 : TOK Tryz.prog 57 i57 := tok Tryz.types_size.symm Tryz.type57 Tryz.underlying57 (by rfl) (fun h => by cases h)
def i58 : TI := ⟨.func, 1, 8, .nilf⟩
theorem ok58 : TOK Tryz.prog 58 i58 := tok Tryz.types_size.symm Tryz.type58 Tryz.underlying58 (by rfl) (fun h => by cases h)
def i59 : TI := ⟨.func, 1, 8, .nilf⟩
theorem ok59 : TOK Tryz.prog 59 i59 := tok Tryz.types_size.symm Tryz.type59 Tryz.underlying59 (by rfl) (fun h => by cases h)
def i60 : TI := ⟨.func, 1, 8, .nilf⟩
theorem ok60 : TOK Tryz.prog 60 i60 := tok Tryz.types_size.symm Tryz.type60 Tryz.underlying60 (by rfl) (fun h => by cases h)
def i61 : TI := ⟨.func, 1, 8, .nilf⟩
theorem ok61 : TOK Tryz.prog 61 i61 := tok Tryz.types_size.symm Tryz.type61 Tryz.underlying61 (by rfl) (fun h => by cases h)
def i62 : TI := ⟨.func, 1, 8, .nilf⟩
theorem ok62 : TOK Tryz.prog 62 i62 := tok Tryz.types_size.symm Tryz.type62 Tryz.underlying62 (by rfl) (fun h => by cases h)
def i63 : TI := ⟨.func, 1, 8, .nilf⟩
theorem ok63 : TOK Tryz.prog 63 i63 := tok Tryz.types_size.symm Tryz.type63 Tryz.underlying63 (by rfl) (fun h => by cases h)
def i64 : TI := ⟨.func, 1, 8, .nilf⟩
theorem ok64 : TOK Tryz.prog 64 i64 := tok Tryz.types_size.symm Tryz.type64 Tryz.underlying64 (by rfl) (fun h => by cases h)
def i65 : TI := ⟨.func, 1, 8, .nilf⟩
theorem ok65 : TOK Tryz.prog 65 i65 := tok Tryz.types_size.symm Tryz.type65 Tryz.underlying65 (by rfl) (fun h => by cases h)
def i66 : TI := ⟨.func, 1, 8, .nilf⟩
theorem ok66 : TOK Tryz.prog 66 i66 := tok Tryz.types_size.symm Tryz.type66 Tryz.underlying66 (by rfl) (fun h => by cases h)
def i67 : TI := ⟨.func, 1, 8, .nilf⟩
theorem ok67 : TOK Tryz.prog 67 i67 := tok Tryz.types_size.symm Tryz.type67 Tryz.underlying67 (by rfl) (fun h => by cases h)
def i68 : TI := ⟨.func, 1, 8, .nilf⟩
theorem ok68 : TOK Tryz.prog 68 i68 := tok Tryz.types_size.symm Tryz.type68 Tryz.underlying68 (by rfl) (fun h => by cases h)
def i69 : TI := ⟨.func, 1, 8, .nilf⟩
theorem ok69 : TOK Tryz.prog 69 i69 := tok Tryz.types_size.symm Tryz.type69 Tryz.underlying69 (by rfl) (fun h => by cases h)
def i70 : TI := ⟨.func, 1, 8, .nilf⟩
theorem ok70 : TOK Tryz.prog 70 i70 := tok Tryz.types_size.symm Tryz.type70 Tryz.underlying70 (by rfl) (fun h => by cases h)
def i71 : TI := ⟨.func, 1, 8, .nilf⟩
theorem ok71 : TOK Tryz.prog 71 i71 := tok Tryz.types_size.symm Tryz.type71 Tryz.underlying71 (by rfl) (fun h => by cases h)
def i73 : TI := ⟨.func, 1, 8, .nilf⟩
theorem ok73 : TOK Tryz.prog 73 i73 := tok Tryz.types_size.symm Tryz.type73 Tryz.underlying73 (by rfl) (fun h => by cases h)
def i74 : TI := ⟨.func, 1, 8, .nilf⟩
theorem ok74 : TOK Tryz.prog 74 i74 := tok Tryz.types_size.symm Tryz.type74 Tryz.underlying74 (by rfl) (fun h => by cases h)
def i76 : TI := ⟨.func, 1, 8, .nilf⟩
theorem ok76 : TOK Tryz.prog 76 i76 := tok Tryz.types_size.symm Tryz.type76 Tryz.underlying76 (by rfl) (fun h => by cases h)
def i77 : TI := ⟨.int .u64, 1, 8, (.int .u64 fun _ => 0)⟩
theorem ok77 : TOK Tryz.prog 77 i77 := tok Tryz.types_size.symm Tryz.type77 Tryz.underlying77 (by rfl) (fun h => by cases h)
def i78 : TI := ⟨.struct [(0, 77), (1, 77)], 2, 16, (.agg (.cons (.int .u64 fun _ => 0) (.cons (.int .u64 fun _ => 0) .nil)))⟩
theorem ok78 : TOK Tryz.prog 78 i78 := tok Tryz.types_size.symm Tryz.type78 Tryz.underlying78 (by rfl) (fun _ => ⟨by kernel_rfl, by kernel_rfl⟩)
def i79 : TI := ⟨.struct [(0, 77), (1, 77)], 2, 16, (.agg (.cons (.int .u64 fun _ => 0) (.cons (.int .u64 fun _ => 0) .nil)))⟩
theorem ok79 : TOK Tryz.prog 79 i79 := tok Tryz.types_size.symm Tryz.type79 Tryz.underlying79 (by rfl) (fun _ => ⟨by kernel_rfl, by kernel_rfl⟩)
def i81 : TI := ⟨.arr 20 77, 20, 160, (.arrI .u64 20 fun _ => List.replicate 20 0)⟩
theorem ok81 : TOK Tryz.prog 81 i81 := tok Tryz.types_size.symm Tryz.type81 Tryz.underlying81 (by rfl) (fun _ => ⟨by kernel_rfl, by kernel_rfl⟩)
def i82 : TI := ⟨.arr 20 77, 20, 160, (.arrI .u64 20 fun _ => List.replicate 20 0)⟩
theorem ok82 : TOK Tryz.prog 82 i82 := tok Tryz.types_size.symm Tryz.type82 Tryz.underlying82 (by rfl) (fun _ => ⟨by kernel_rfl, by kernel_rfl⟩)
def i83 : TI := ⟨.func, 1, 8, .nilf⟩
theorem ok83 : TOK Tryz.prog 83 i83 := tok Tryz.types_size.symm Tryz.type83 Tryz.underlying83 (by rfl) (fun h => by cases h)
def i84 : TI := ⟨.func, 1, 8, .nilf⟩
theorem ok84 : TOK Tryz.prog 84 i84 := tok Tryz.types_size.symm Tryz.type84 Tryz.underlying84 (by rfl) (fun h => by cases h)
def i85 : TI := ⟨.func, 1, 8, .nilf⟩
theorem ok85 : TOK Tryz.prog 85 i85 := tok Tryz.types_size.symm Tryz.type85 Tryz.underlying85 (by rfl) (fun h => by cases h)
def i86 : TI := ⟨.func, 1, 8, .nilf⟩
theorem ok86 : TOK Tryz.prog 86 i86 := tok Tryz.types_size.symm Tryz.type86 Tryz.underlying86 (by rfl) (fun h => by cases h)
def i87 : TI := ⟨.func, 1, 8, .nilf⟩
theorem ok87 : TOK Tryz.prog 87 i87 := tok Tryz.types_size.symm Tryz.type87 Tryz.underlying87 (by rfl) (fun h => by cases h)
def i88 : TI := ⟨.func, 1, 8, .nilf⟩
theorem ok88 : TOK Tryz.prog 88 i88 := tok Tryz.types_size.symm Tryz.type88 Tryz.underlying88 (by rfl) (fun h => by cases h)
def i89 : TI := ⟨.func, 1, 8, .nilf⟩
theorem ok89 : TOK Tryz.prog 89 i89 := tok Tryz.types_size.symm Tryz.type89 Tryz.underlying89 (by rfl) (fun h => by cases h)
def i90 : TI := ⟨.func, 1, 8, .nilf⟩
theorem ok90 : TOK Tryz.prog 90 i90 := tok Tryz.types_size.symm Tryz.type90 Tryz.underlying90 (by rfl) (fun h => by cases h)
def i91 : TI := ⟨.func, 1, 8, .nilf⟩
theorem ok91 : TOK Tryz.prog 91 i91 := tok Tryz.types_size.symm Tryz.type91 Tryz.underlying91 (by rfl) (fun h => by cases h)
def i92 : TI := ⟨.ptr 95, 1, 8, .nilp⟩
theorem ok92 : TOK Tryz.prog 92 i92 := tok Tryz.types_size.symm Tryz.type92 Tryz.underlying92 (by rfl) (fun h => by cases h)
def i93 : TI := ⟨.slice 5, 1, 24, .nils⟩
theorem ok93 : TOK Tryz.prog 93 i93 := tok Tryz.types_size.symm Tryz.type93 Tryz.underlying93 (by rfl) (fun h => by cases h)
def i94 : TI := ⟨.struct [(0, 92), (1, 93)], 2, 32, (.agg (.cons .nilp (.cons .nils .nil)))⟩
theorem ok94 : TOK Tryz.prog 94 i94 := tok Tryz.types_size.symm Tryz.type94 Tryz.underlying94 (by rfl) (fun _ => ⟨by kernel_rfl, by kernel_rfl⟩)
def i95 : TI := ⟨.struct [(0, 92), (1, 93)], 2, 32, (.agg (.cons .nilp (.cons .nils .nil)))⟩
theorem ok95 : TOK Tryz.prog 95 i95 := tok Tryz.types_size.symm Tryz.type95 Tryz.underlying95 (by rfl) (fun _ => ⟨by kernel_rfl, by kernel_rfl⟩)
def i96 : TI := ⟨.func, 1, 8, .nilf⟩
theorem ok96 : TOK Tryz.prog 96 i96 := tok Tryz.types_size.symm Tryz.type96 Tryz.underlying96 (by rfl) (fun h => by cases h)
def i97 : TI := ⟨.iface, 1, 16, .nili⟩
theorem ok97 : TOK Tryz.prog 97 i97 := tok Tryz.types_size.symm Tryz.type97 Tryz.underlying97 (by rfl) (fun h => by cases h)
def i98 : TI := ⟨.iface, 1, 16, .nili⟩
theorem ok98 : TOK Tryz.prog 98 i98 := tok Tryz.types_size.symm Tryz.type98 Tryz.underlying98 (by rfl) (fun h => by cases h)
def i100 : TI := ⟨.func, 1, 8, .nilf⟩
theorem ok100 : TOK Tryz.prog 100 i100 := tok Tryz.types_size.symm Tryz.type100 Tryz.underlying100 (by rfl) (fun h => by cases h)
def i101 : TI := ⟨.func, 1, 8, .nilf⟩
theorem ok101 : TOK Tryz.prog 101 i101 := tok Tryz.types_size.symm Tryz.type101 Tryz.underlying101 (by rfl) (fun h => by cases h)
def i102 : TI := ⟨.func, 1, 8, .nilf⟩
theorem ok102 : TOK Tryz.prog 102 i102 := tok Tryz.types_size.symm Tryz.type102 Tryz.underlying102 (by rfl) (fun h => by cases h)
def i103 : TI := ⟨.func, 1, 8, .nilf⟩
theorem ok103 : TOK Tryz.prog 103 i103 := tok Tryz.types_size.symm Tryz.type103 Tryz.underlying103 (by rfl) (fun h => by cases h)
def i105 : TI := ⟨.func, 1, 8, .nilf⟩
theorem ok105 : TOK Tryz.prog 105 i105 := tok Tryz.types_size.symm Tryz.type105 Tryz.underlying105 (by rfl) (fun h => by cases h)
def i107 : TI := ⟨.func, 1, 8, .nilf⟩
theorem ok107 : TOK Tryz.prog 107 i107 := tok Tryz.types_size.symm Tryz.type107 Tryz.underlying107 (by rfl) (fun h => by cases h)
def i108 : TI := ⟨.slice 45, 1, 24, .nils⟩
theorem ok108 : TOK Tryz.prog 108 i108 := tok Tryz.types_size.symm Tryz.type108 Tryz.underlying108 (by rfl) (fun h => by cases h)
def i110 : TI := ⟨.func, 1, 8, .nilf⟩
theorem ok110 : TOK Tryz.prog 110 i110 := tok Tryz.types_size.symm Tryz.type110 Tryz.underlying110 (by rfl) (fun h => by cases h)
def i112 : TI := ⟨.func, 1, 8, .nilf⟩
theorem ok112 : TOK Tryz.prog 112 i112 := tok Tryz.types_size.symm Tryz.type112 Tryz.underlying112 (by rfl) (fun h => by cases h)
def i114 : TI := ⟨.func, 1, 8, .nilf⟩
theorem ok114 : TOK Tryz.prog 114 i114 := tok Tryz.types_size.symm Tryz.type114 Tryz.underlying114 (by rfl) (fun h => by cases h)
def i115 : TI := ⟨.func, 1, 8, .nilf⟩
theorem ok115 : TOK Tryz.prog 115 i115 := tok Tryz.types_size.symm Tryz.type115 Tryz.underlying115 (by rfl) (fun h => by cases h)
def i116 : TI := ⟨.func, 1, 8, .nilf⟩
theorem ok116 : TOK Tryz.prog 116 i116 := tok Tryz.types_size.symm Tryz.type116 Tryz.underlying116 (by rfl) (fun h => by cases h)
def i117 : TI := ⟨.ptr 5, 1, 8, .nilp⟩
theorem ok117 : TOK Tryz.prog 117 i117 := tok Tryz.types_size.symm Tryz.type117 Tryz.underlying117 (by rfl) (fun h => by cases h)
def i118 : TI := ⟨.arr 3 3, 3, 24, (.arrI .i64 3 fun _ => List.replicate 3 0)⟩
theorem ok118 : TOK Tryz.prog 118 i118 := tok Tryz.types_size.symm Tryz.type118 Tryz.underlying118 (by rfl) (fun _ => ⟨by kernel_rfl, by kernel_rfl⟩)
def i119 : TI := ⟨.func, 1, 8, .nilf⟩
theorem ok119 : TOK Tryz.prog 119 i119 := tok Tryz.types_size.symm Tryz.type119 Tryz.underlying119 (by rfl) (fun h => by cases h)
def i120 : TI := ⟨.arr 3 9, 3, 48, (.arrS 3 fun _ => List.replicate 3 ByteArray.empty)⟩
theorem ok120 : TOK Tryz.prog 120 i120 := tok Tryz.types_size.symm Tryz.type120 Tryz.underlying120 (by rfl) (fun _ => ⟨by kernel_rfl, by kernel_rfl⟩)
def i121 : TI := ⟨.func, 1, 8, .nilf⟩
theorem ok121 : TOK Tryz.prog 121 i121 := tok Tryz.types_size.symm Tryz.type121 Tryz.underlying121 (by rfl) (fun h => by cases h)
def i122 : TI := ⟨.func, 1, 8, .nilf⟩
theorem ok122 : TOK Tryz.prog 122 i122 := tok Tryz.types_size.symm Tryz.type122 Tryz.underlying122 (by rfl) (fun h => by cases h)
def i123 : TI := ⟨.func, 1, 8, .nilf⟩
theorem ok123 : TOK Tryz.prog 123 i123 := tok Tryz.types_size.symm Tryz.type123 Tryz.underlying123 (by rfl) (fun h => by cases h)
def i124 : TI := ⟨.func, 1, 8, .nilf⟩
theorem ok124 : TOK Tryz.prog 124 i124 := tok Tryz.types_size.symm Tryz.type124 Tryz.underlying124 (by rfl) (fun h => by cases h)
def i125 : TI := ⟨.func, 1, 8, .nilf⟩
theorem ok125 : TOK Tryz.prog 125 i125 := tok Tryz.types_size.symm Tryz.type125 Tryz.underlying125 (by rfl) (fun h => by cases h)
def i127 : TI := ⟨.func, 1, 8, .nilf⟩
theorem ok127 : TOK Tryz.prog 127 i127 := tok Tryz.types_size.symm Tryz.type127 Tryz.underlying127 (by rfl) (fun h => by cases h)
def i128 : TI := ⟨.arr 4 3, 4, 32, (.arrI .i64 4 fun _ => List.replicate 4 0)⟩
theorem ok128 : TOK Tryz.prog 128 i128 := tok Tryz.types_size.symm Tryz.type128 Tryz.underlying128 (by rfl) (fun _ => ⟨by kernel_rfl, by kernel_rfl⟩)
def i130 : TI := ⟨.func, 1, 8, .nilf⟩
theorem ok130 : TOK Tryz.prog 130 i130 := tok Tryz.types_size.symm Tryz.type130 Tryz.underlying130 (by rfl) (fun h => by cases h)
def i131 : TI := ⟨.func, 1, 8, .nilf⟩
theorem ok131 : TOK Tryz.prog 131 i131 := tok Tryz.types_size.symm Tryz.type131 Tryz.underlying131 (by rfl) (fun h => by cases h)
def i132 : TI := ⟨.func, 1, 8, .nilf⟩
theorem ok132 : TOK Tryz.prog 132 i132 := tok Tryz.types_size.symm Tryz.type132 Tryz.underlying132 (by rfl) (fun h => by cases h)
def i133 : TI := ⟨.func, 1, 8, .nilf⟩
theorem ok133 : TOK Tryz.prog 133 i133 := tok Tryz.types_size.symm Tryz.type133 Tryz.underlying133 (by rfl) (fun h => by cases h)
def i134 : TI := ⟨.func, 1, 8, .nilf⟩
theorem ok134 : TOK Tryz.prog 134 i134 := tok Tryz.types_size.symm Tryz.type134 Tryz.underlying134 (by rfl) (fun h => by cases h)
def i135 : TI := ⟨.func, 1, 8, .nilf⟩
theorem ok135 : TOK Tryz.prog 135 i135 := tok Tryz.types_size.symm Tryz.type135 Tryz.underlying135 (by rfl) (fun h => by cases h)
def i136 : TI := ⟨.func, 1, 8, .nilf⟩
theorem ok136 : TOK Tryz.prog 136 i136 := tok Tryz.types_size.symm Tryz.type136 Tryz.underlying136 (by rfl) (fun h => by cases h)
def i137 : TI := ⟨.func, 1, 8, .nilf⟩
theorem ok137 : TOK Tryz.prog 137 i137 := tok Tryz.types_size.symm Tryz.type137 Tryz.underlying137 (by rfl) (fun h => by cases h)
def i139 : TI := ⟨.func, 1, 8, .nilf⟩
theorem ok139 : TOK Tryz.prog 139 i139 := tok Tryz.types_size.symm Tryz.type139 Tryz.underlying139 (by rfl) (fun h => by cases h)
def i140 : TI := ⟨.func, 1, 8, .nilf⟩
theorem ok140 : TOK Tryz.prog 140 i140 := tok Tryz.types_size.symm Tryz.type140 Tryz.underlying140 (by rfl) (fun h => by cases h)
def i141 : TI := ⟨.func, 1, 8, .nilf⟩
theorem ok141 : TOK Tryz.prog 141 i141 := tok Tryz.types_size.symm Tryz.type141 Tryz.underlying141 (by rfl) (fun h => by cases h)
def i143 : TI := ⟨.func, 1, 8, .nilf⟩
theorem ok143 : TOK Tryz.prog 143 i143 := tok Tryz.types_size.symm Tryz.type143 Tryz.underlying143 (by rfl) (fun h => by cases h)
def i145 : TI := ⟨.func, 1, 8, .nilf⟩
theorem ok145 : TOK Tryz.prog 145 i145 := tok Tryz.types_size.symm Tryz.type145 Tryz.underlying145 (by rfl) (fun h => by cases h)
def i146 : TI := ⟨.func, 1, 8, .nilf⟩
theorem ok146 : TOK Tryz.prog 146 i146 := tok Tryz.types_size.symm Tryz.type146 Tryz.underlying146 (by rfl) (fun h => by cases h)
def i147 : TI := ⟨.int .i64, 1, 8, (.int .i64 fun _ => 0)⟩
theorem ok147 : TOK Tryz.prog 147 i147 := tok Tryz.types_size.symm Tryz.type147 Tryz.underlying147 (by rfl) (fun h => by cases h)
def i149 : TI := ⟨.func, 1, 8, .nilf⟩
theorem ok149 : TOK Tryz.prog 149 i149 := tok Tryz.types_size.symm Tryz.type149 Tryz.underlying149 (by rfl) (fun h => by cases h)
def i150 : TI := ⟨.ptr 177, 1, 8, .nilp⟩
theorem ok150 : TOK Tryz.prog 150 i150 := tok Tryz.types_size.symm Tryz.type150 Tryz.underlying150 (by rfl) (fun h => by cases h)
def i151 : TI := ⟨.func, 1, 8, .nilf⟩
theorem ok151 : TOK Tryz.prog 151 i151 := tok Tryz.types_size.symm Tryz.type151 Tryz.underlying151 (by rfl) (fun h => by cases h)
def i152 : TI := ⟨.func, 1, 8, .nilf⟩
theorem ok152 : TOK Tryz.prog 152 i152 := tok Tryz.types_size.symm Tryz.type152 Tryz.underlying152 (by rfl) (fun h => by cases h)
def i153 : TI := ⟨.func, 1, 8, .nilf⟩
theorem ok153 : TOK Tryz.prog 153 i153 := tok Tryz.types_size.symm Tryz.type153 Tryz.underlying153 (by rfl) (fun h => by cases h)
def i155 : TI := ⟨.func, 1, 8, .nilf⟩
theorem ok155 : TOK Tryz.prog 155 i155 := tok Tryz.types_size.symm Tryz.type155 Tryz.underlying155 (by rfl) (fun h => by cases h)
def i156 : TI := ⟨.func, 1, 8, .nilf⟩
theorem ok156 : TOK Tryz.prog 156 i156 := tok Tryz.types_size.symm Tryz.type156 Tryz.underlying156 (by rfl) (fun h => by cases h)
def i158 : TI := ⟨.func, 1, 8, .nilf⟩
theorem ok158 : TOK Tryz.prog 158 i158 := tok Tryz.types_size.symm Tryz.type158 Tryz.underlying158 (by rfl) (fun h => by cases h)
def i159 : TI := ⟨.func, 1, 8, .nilf⟩
theorem ok159 : TOK Tryz.prog 159 i159 := tok Tryz.types_size.symm Tryz.type159 Tryz.underlying159 (by rfl) (fun h => by cases h)
def i160 : TI := ⟨.int .u64, 1, 8, (.int .u64 fun _ => 0)⟩
theorem ok160 : TOK Tryz.prog 160 i160 := tok Tryz.types_size.symm Tryz.type160 Tryz.underlying160 (by rfl) (fun h => by cases h)
def i161 : TI := ⟨.func, 1, 8, .nilf⟩
theorem ok161 : TOK Tryz.prog 161 i161 := tok Tryz.types_size.symm Tryz.type161 Tryz.underlying161 (by rfl) (fun h => by cases h)
def i162 : TI := ⟨.arr 24 5, 24, 24, (.arrI .u8 24 fun _ => List.replicate 24 0)⟩
theorem ok162 : TOK Tryz.prog 162 i162 := tok Tryz.types_size.symm Tryz.type162 Tryz.underlying162 (by rfl) (fun _ => ⟨by kernel_rfl, by kernel_rfl⟩)
def i163 : TI := ⟨.func, 1, 8, .nilf⟩
theorem ok163 : TOK Tryz.prog 163 i163 := tok Tryz.types_size.symm Tryz.type163 Tryz.underlying163 (by rfl) (fun h => by cases h)
def i164 : TI := ⟨.func, 1, 8, .nilf⟩
theorem ok164 : TOK Tryz.prog 164 i164 := tok Tryz.types_size.symm Tryz.type164 Tryz.underlying164 (by rfl) (fun h => by cases h)
def i166 : TI := ⟨.func, 1, 8, .nilf⟩
theorem ok166 : TOK Tryz.prog 166 i166 := tok Tryz.types_size.symm Tryz.type166 Tryz.underlying166 (by rfl) (fun h => by cases h)
def i167 : TI := ⟨.func, 1, 8, .nilf⟩
theorem ok167 : TOK Tryz.prog 167 i167 := tok Tryz.types_size.symm Tryz.type167 Tryz.underlying167 (by rfl) (fun h => by cases h)
def i169 : TI := ⟨.func, 1, 8, .nilf⟩
theorem ok169 : TOK Tryz.prog 169 i169 := tok Tryz.types_size.symm Tryz.type169 Tryz.underlying169 (by rfl) (fun h => by cases h)
def i171 : TI := ⟨.func, 1, 8, .nilf⟩
theorem ok171 : TOK Tryz.prog 171 i171 := tok Tryz.types_size.symm Tryz.type171 Tryz.underlying171 (by rfl) (fun h => by cases h)
def i172 : TI := ⟨.func, 1, 8, .nilf⟩
theorem ok172 : TOK Tryz.prog 172 i172 := tok Tryz.types_size.symm Tryz.type172 Tryz.underlying172 (by rfl) (fun h => by cases h)
def i174 : TI := ⟨.func, 1, 8, .nilf⟩
theorem ok174 : TOK Tryz.prog 174 i174 := tok Tryz.types_size.symm Tryz.type174 Tryz.underlying174 (by rfl) (fun h => by cases h)
def i175 : TI := ⟨.func, 1, 8, .nilf⟩
theorem ok175 : TOK Tryz.prog 175 i175 := tok Tryz.types_size.symm Tryz.type175 Tryz.underlying175 (by rfl) (fun h => by cases h)
def i178 : TI := ⟨.func, 1, 8, .nilf⟩
theorem ok178 : TOK Tryz.prog 178 i178 := tok Tryz.types_size.symm Tryz.type178 Tryz.underlying178 (by rfl) (fun h => by cases h)
def i179 : TI := ⟨.func, 1, 8, .nilf⟩
theorem ok179 : TOK Tryz.prog 179 i179 := tok Tryz.types_size.symm Tryz.type179 Tryz.underlying179 (by rfl) (fun h => by cases h)
def i180 : TI := ⟨.func, 1, 8, .nilf⟩
theorem ok180 : TOK Tryz.prog 180 i180 := tok Tryz.types_size.symm Tryz.type180 Tryz.underlying180 (by rfl) (fun h => by cases h)
def i182 : TI := ⟨.func, 1, 8, .nilf⟩
theorem ok182 : TOK Tryz.prog 182 i182 := tok Tryz.types_size.symm Tryz.type182 Tryz.underlying182 (by rfl) (fun h => by cases h)
def i183 : TI := ⟨.func, 1, 8, .nilf⟩
theorem ok183 : TOK Tryz.prog 183 i183 := tok Tryz.types_size.symm Tryz.type183 Tryz.underlying183 (by rfl) (fun h => by cases h)
def i184 : TI := ⟨.slice 3, 1, 24, .nils⟩
theorem ok184 : TOK Tryz.prog 184 i184 := tok Tryz.types_size.symm Tryz.type184 Tryz.underlying184 (by rfl) (fun h => by cases h)
def i185 : TI := ⟨.slice 3, 1, 24, .nils⟩
theorem ok185 : TOK Tryz.prog 185 i185 := tok Tryz.types_size.symm Tryz.type185 Tryz.underlying185 (by rfl) (fun h => by cases h)
def i186 : TI := ⟨.func, 1, 8, .nilf⟩
theorem ok186 : TOK Tryz.prog 186 i186 := tok Tryz.types_size.symm Tryz.type186 Tryz.underlying186 (by rfl) (fun h => by cases h)
def i187 : TI := ⟨.func, 1, 8, .nilf⟩
theorem ok187 : TOK Tryz.prog 187 i187 := tok Tryz.types_size.symm Tryz.type187 Tryz.underlying187 (by rfl) (fun h => by cases h)
def i189 : TI := ⟨.func, 1, 8, .nilf⟩
theorem ok189 : TOK Tryz.prog 189 i189 := tok Tryz.types_size.symm Tryz.type189 Tryz.underlying189 (by rfl) (fun h => by cases h)
def i190 : TI := ⟨.func, 1, 8, .nilf⟩
theorem ok190 : TOK Tryz.prog 190 i190 := tok Tryz.types_size.symm Tryz.type190 Tryz.underlying190 (by rfl) (fun h => by cases h)
def i191 : TI := ⟨.int .u32, 1, 4, (.int .u32 fun _ => 0)⟩
theorem ok191 : TOK Tryz.prog 191 i191 := tok Tryz.types_size.symm Tryz.type191 Tryz.underlying191 (by rfl) (fun h => by cases h)
def i193 : TI := ⟨.func, 1, 8, .nilf⟩
theorem ok193 : TOK Tryz.prog 193 i193 := tok Tryz.types_size.symm Tryz.type193 Tryz.underlying193 (by rfl) (fun h => by cases h)
def i194 : TI := ⟨.func, 1, 8, .nilf⟩
theorem ok194 : TOK Tryz.prog 194 i194 := tok Tryz.types_size.symm Tryz.type194 Tryz.underlying194 (by rfl) (fun h => by cases h)
def i195 : TI := ⟨.func, 1, 8, .nilf⟩
theorem ok195 : TOK Tryz.prog 195 i195 := tok Tryz.types_size.symm Tryz.type195 Tryz.underlying195 (by rfl) (fun h => by cases h)
def i196 : TI := ⟨.func, 1, 8, .nilf⟩
theorem ok196 : TOK Tryz.prog 196 i196 := tok Tryz.types_size.symm Tryz.type196 Tryz.underlying196 (by rfl) (fun h => by cases h)
def i197 : TI := ⟨.arr 65 5, 65, 65, (.arrI .u8 65 fun _ => List.replicate 65 0)⟩
theorem ok197 : TOK Tryz.prog 197 i197 := tok Tryz.types_size.symm Tryz.type197 Tryz.underlying197 (by rfl) (fun _ => ⟨by kernel_rfl, by kernel_rfl⟩)
def i198 : TI := ⟨.func, 1, 8, .nilf⟩
theorem ok198 : TOK Tryz.prog 198 i198 := tok Tryz.types_size.symm Tryz.type198 Tryz.underlying198 (by rfl) (fun h => by cases h)
def i199 : TI := ⟨.func, 1, 8, .nilf⟩
theorem ok199 : TOK Tryz.prog 199 i199 := tok Tryz.types_size.symm Tryz.type199 Tryz.underlying199 (by rfl) (fun h => by cases h)
def i200 : TI := ⟨.func, 1, 8, .nilf⟩
theorem ok200 : TOK Tryz.prog 200 i200 := tok Tryz.types_size.symm Tryz.type200 Tryz.underlying200 (by rfl) (fun h => by cases h)
def i201 : TI := ⟨.func, 1, 8, .nilf⟩
theorem ok201 : TOK Tryz.prog 201 i201 := tok Tryz.types_size.symm Tryz.type201 Tryz.underlying201 (by rfl) (fun h => by cases h)
def i202 : TI := ⟨.func, 1, 8, .nilf⟩
theorem ok202 : TOK Tryz.prog 202 i202 := tok Tryz.types_size.symm Tryz.type202 Tryz.underlying202 (by rfl) (fun h => by cases h)
def i203 : TI := ⟨.func, 1, 8, .nilf⟩
theorem ok203 : TOK Tryz.prog 203 i203 := tok Tryz.types_size.symm Tryz.type203 Tryz.underlying203 (by rfl) (fun h => by cases h)
def i204 : TI := ⟨.arr 40 5, 40, 40, (.arrI .u8 40 fun _ => List.replicate 40 0)⟩
theorem ok204 : TOK Tryz.prog 204 i204 := tok Tryz.types_size.symm Tryz.type204 Tryz.underlying204 (by rfl) (fun _ => ⟨by kernel_rfl, by kernel_rfl⟩)
def i205 : TI := ⟨.arr 256 5, 256, 256, (.arrI .u8 256 fun _ => List.replicate 256 0)⟩
theorem ok205 : TOK Tryz.prog 205 i205 := tok Tryz.types_size.symm Tryz.type205 Tryz.underlying205 (by rfl) (fun _ => ⟨by kernel_rfl, by kernel_rfl⟩)
def i206 : TI := ⟨.struct [(0, 5), (1, 5)], 2, 2, (.agg (.cons (.int .u8 fun _ => 0) (.cons (.int .u8 fun _ => 0) .nil)))⟩
theorem ok206 : TOK Tryz.prog 206 i206 := tok Tryz.types_size.symm Tryz.type206 Tryz.underlying206 (by rfl) (fun _ => ⟨by kernel_rfl, by kernel_rfl⟩)
def i207 : TI := ⟨.struct [(0, 5), (1, 5)], 2, 2, (.agg (.cons (.int .u8 fun _ => 0) (.cons (.int .u8 fun _ => 0) .nil)))⟩
theorem ok207 : TOK Tryz.prog 207 i207 := tok Tryz.types_size.symm Tryz.type207 Tryz.underlying207 (by rfl) (fun _ => ⟨by kernel_rfl, by kernel_rfl⟩)
def i208 : TI := ⟨.arr 16 207, 32, 32, (.agg (.cons (.agg (.cons (.int .u8 fun _ => 0) (.cons (.int .u8 fun _ => 0) .nil))) (.cons (.agg (.cons (.int .u8 fun _ => 0) (.cons (.int .u8 fun _ => 0) .nil))) (.cons (.agg (.cons (.int .u8 fun _ => 0) (.cons (.int .u8 fun _ => 0) .nil))) (.cons (.agg (.cons (.int .u8 fun _ => 0) (.cons (.int .u8 fun _ => 0) .nil))) (.cons (.agg (.cons (.int .u8 fun _ => 0) (.cons (.int .u8 fun _ => 0) .nil))) (.cons (.agg (.cons (.int .u8 fun _ => 0) (.cons (.int .u8 fun _ => 0) .nil))) (.cons (.agg (.cons (.int .u8 fun _ => 0) (.cons (.int .u8 fun _ => 0) .nil))) (.cons (.agg (.cons (.int .u8 fun _ => 0) (.cons (.int .u8 fun _ => 0) .nil))) (.cons (.agg (.cons (.int .u8 fun _ => 0) (.cons (.int .u8 fun _ => 0) .nil))) (.cons (.agg (.cons (.int .u8 fun _ => 0) (.cons (.int .u8 fun _ => 0) .nil))) (.cons (.agg (.cons (.int .u8 fun _ => 0) (.cons (.int .u8 fun _ => 0) .nil))) (.cons (.agg (.cons (.int .u8 fun _ => 0) (.cons (.int .u8 fun _ => 0) .nil))) (.cons (.agg (.cons (.int .u8 fun _ => 0) (.cons (.int .u8 fun _ => 0) .nil))) (.cons (.agg (.cons (.int .u8 fun _ => 0) (.cons (.int .u8 fun _ => 0) .nil))) (.cons (.agg (.cons (.int .u8 fun _ => 0) (.cons (.int .u8 fun _ => 0) .nil))) (.cons (.agg (.cons (.int .u8 fun _ => 0) (.cons (.int .u8 fun _ => 0) .nil))) .nil)))))))))))))))))⟩
theorem ok208 : TOK Tryz.prog 208 i208 := tok Tryz.types_size.symm Tryz.type208 Tryz.underlying208 (by rfl) (fun _ => ⟨by kernel_rfl, by kernel_rfl⟩)
def i209 : TI := ⟨.func, 1, 8, .nilf⟩
theorem ok209 : TOK Tryz.prog 209 i209 := tok Tryz.types_size.symm Tryz.type209 Tryz.underlying209 (by rfl) (fun h => by cases h)
def i210 : TI := ⟨.ptr 212, 1, 8, .nilp⟩
theorem ok210 : TOK Tryz.prog 210 i210 := tok Tryz.types_size.symm Tryz.type210 Tryz.underlying210 (by rfl) (fun h => by cases h)
def i211 : TI := ⟨.struct [(0, 9)], 1, 16, (.agg (.cons (.str fun _ => ByteArray.empty) .nil))⟩
theorem ok211 : TOK Tryz.prog 211 i211 := tok Tryz.types_size.symm Tryz.type211 Tryz.underlying211 (by rfl) (fun _ => ⟨by kernel_rfl, by kernel_rfl⟩)
def i212 : TI := ⟨.struct [(0, 9)], 1, 16, (.agg (.cons (.str fun _ => ByteArray.empty) .nil))⟩
theorem ok212 : TOK Tryz.prog 212 i212 := tok Tryz.types_size.symm Tryz.type212 Tryz.underlying212 (by rfl) (fun _ => ⟨by kernel_rfl, by kernel_rfl⟩)
def i214 : TI := ⟨.func, 1, 8, .nilf⟩
theorem ok214 : TOK Tryz.prog 214 i214 := tok Tryz.types_size.symm Tryz.type214 Tryz.underlying214 (by rfl) (fun h => by cases h)
def i215 : TI := ⟨.struct [(0, 9), (1, 3), (2, 3)], 3, 32, (.agg (.cons (.str fun _ => ByteArray.empty) (.cons (.int .i64 fun _ => 0) (.cons (.int .i64 fun _ => 0) .nil))))⟩
theorem ok215 : TOK Tryz.prog 215 i215 := tok Tryz.types_size.symm Tryz.type215 Tryz.underlying215 (by rfl) (fun _ => ⟨by kernel_rfl, by kernel_rfl⟩)
def i216 : TI := ⟨.struct [(0, 9), (1, 3), (2, 3)], 3, 32, (.agg (.cons (.str fun _ => ByteArray.empty) (.cons (.int .i64 fun _ => 0) (.cons (.int .i64 fun _ => 0) .nil))))⟩
theorem ok216 : TOK Tryz.prog 216 i216 := tok Tryz.types_size.symm Tryz.type216 Tryz.underlying216 (by rfl) (fun _ => ⟨by kernel_rfl, by kernel_rfl⟩)
def i218 : TI := ⟨.func, 1, 8, .nilf⟩
theorem ok218 : TOK Tryz.prog 218 i218 := tok Tryz.types_size.symm Tryz.type218 Tryz.underlying218 (by rfl) (fun h => by cases h)
def i219 : TI := ⟨.func, 1, 8, .nilf⟩
theorem ok219 : TOK Tryz.prog 219 i219 := tok Tryz.types_size.symm Tryz.type219 Tryz.underlying219 (by rfl) (fun h => by cases h)
def i220 : TI := ⟨.func, 1, 8, .nilf⟩
theorem ok220 : TOK Tryz.prog 220 i220 := tok Tryz.types_size.symm Tryz.type220 Tryz.underlying220 (by rfl) (fun h => by cases h)
def i221 : TI := ⟨.func, 1, 8, .nilf⟩
theorem ok221 : TOK Tryz.prog 221 i221 := tok Tryz.types_size.symm Tryz.type221 Tryz.underlying221 (by rfl) (fun h => by cases h)
def i222 : TI := ⟨.func, 1, 8, .nilf⟩
theorem ok222 : TOK Tryz.prog 222 i222 := tok Tryz.types_size.symm Tryz.type222 Tryz.underlying222 (by rfl) (fun h => by cases h)
def i223 : TI := ⟨.func, 1, 8, .nilf⟩
theorem ok223 : TOK Tryz.prog 223 i223 := tok Tryz.types_size.symm Tryz.type223 Tryz.underlying223 (by rfl) (fun h => by cases h)
def i224 : TI := ⟨.func, 1, 8, .nilf⟩
theorem ok224 : TOK Tryz.prog 224 i224 := tok Tryz.types_size.symm Tryz.type224 Tryz.underlying224 (by rfl) (fun h => by cases h)
def i225 : TI := ⟨.slice 216, 1, 24, .nils⟩
theorem ok225 : TOK Tryz.prog 225 i225 := tok Tryz.types_size.symm Tryz.type225 Tryz.underlying225 (by rfl) (fun h => by cases h)
def i226 : TI := ⟨.func, 1, 8, .nilf⟩
theorem ok226 : TOK Tryz.prog 226 i226 := tok Tryz.types_size.symm Tryz.type226 Tryz.underlying226 (by rfl) (fun h => by cases h)
def i227 : TI := ⟨.func, 1, 8, .nilf⟩
theorem ok227 : TOK Tryz.prog 227 i227 := tok Tryz.types_size.symm Tryz.type227 Tryz.underlying227 (by rfl) (fun h => by cases h)
def i228 : TI := ⟨.func, 1, 8, .nilf⟩
theorem ok228 : TOK Tryz.prog 228 i228 := tok Tryz.types_size.symm Tryz.type228 Tryz.underlying228 (by rfl) (fun h => by cases h)
def i229 : TI := ⟨.func, 1, 8, .nilf⟩
theorem ok229 : TOK Tryz.prog 229 i229 := tok Tryz.types_size.symm Tryz.type229 Tryz.underlying229 (by rfl) (fun h => by cases h)
def i230 : TI := ⟨.arr 32 5, 32, 32, (.arrI .u8 32 fun _ => List.replicate 32 0)⟩
theorem ok230 : TOK Tryz.prog 230 i230 := tok Tryz.types_size.symm Tryz.type230 Tryz.underlying230 (by rfl) (fun _ => ⟨by kernel_rfl, by kernel_rfl⟩)
def i231 : TI := ⟨.arr 64 5, 64, 64, (.arrI .u8 64 fun _ => List.replicate 64 0)⟩
theorem ok231 : TOK Tryz.prog 231 i231 := tok Tryz.types_size.symm Tryz.type231 Tryz.underlying231 (by rfl) (fun _ => ⟨by kernel_rfl, by kernel_rfl⟩)
def i237 : TI := ⟨.func, 1, 8, .nilf⟩
theorem ok237 : TOK Tryz.prog 237 i237 := tok Tryz.types_size.symm Tryz.type237 Tryz.underlying237 (by rfl) (fun h => by cases h)
def i238 : TI := ⟨.int .u8, 1, 1, (.int .u8 fun _ => 0)⟩
theorem ok238 : TOK Tryz.prog 238 i238 := tok Tryz.types_size.symm Tryz.type238 Tryz.underlying238 (by rfl) (fun h => by cases h)
def i239 : TI := ⟨.int .u8, 1, 1, (.int .u8 fun _ => 0)⟩
theorem ok239 : TOK Tryz.prog 239 i239 := tok Tryz.types_size.symm Tryz.type239 Tryz.underlying239 (by rfl) (fun h => by cases h)
def i240 : TI := ⟨.func, 1, 8, .nilf⟩
theorem ok240 : TOK Tryz.prog 240 i240 := tok Tryz.types_size.symm Tryz.type240 Tryz.underlying240 (by rfl) (fun h => by cases h)
def i241 : TI := ⟨.int .i32, 1, 4, (.int .i32 fun _ => 0)⟩
theorem ok241 : TOK Tryz.prog 241 i241 := tok Tryz.types_size.symm Tryz.type241 Tryz.underlying241 (by rfl) (fun h => by cases h)
def i242 : TI := ⟨.int .i32, 1, 4, (.int .i32 fun _ => 0)⟩
theorem ok242 : TOK Tryz.prog 242 i242 := tok Tryz.types_size.symm Tryz.type242 Tryz.underlying242 (by rfl) (fun h => by cases h)
end TyTab
open TyTab in
def tyT : Nat → Option TI := fun t => bif bltN t 118 then (bif bltN t 58 then (bif bltN t 30 then (bif bltN t 15 then (bif bltN t 7 then (bif bltN t 4 then (bif bltN t 2 then (bif beqN t 1 then some i1 else none) else (bif bltN t 3 then (bif beqN t 2 then some i2 else none) else (bif beqN t 3 then some i3 else none))) else (bif bltN t 5 then (bif beqN t 4 then some i4 else none) else (bif bltN t 6 then (bif beqN t 5 then some i5 else none) else (bif beqN t 6 then some i6 else none)))) else (bif bltN t 10 then (bif bltN t 8 then (bif beqN t 7 then some i7 else none) else (bif bltN t 9 then (bif beqN t 8 then some i8 else none) else (bif beqN t 9 then some i9 else none))) else (bif bltN t 11 then (bif beqN t 10 then some i10 else none) else (bif bltN t 12 then (bif beqN t 11 then some i11 else none) else (bif beqN t 12 then some i12 else none))))) else (bif bltN t 23 then (bif bltN t 20 then (bif bltN t 16 then (bif beqN t 15 then some i15 else none) else (bif bltN t 17 then (bif beqN t 16 then some i16 else none) else (bif beqN t 17 then some i17 else none))) else (bif bltN t 21 then (bif beqN t 20 then some i20 else none) else (bif bltN t 22 then (bif beqN t 21 then some i21 else none) else (bif beqN t 22 then some i22 else none)))) else (bif bltN t 26 then (bif bltN t 24 then (bif beqN t 23 then some i23 else none) else (bif bltN t 25 then (bif beqN t 24 then some i24 else none) else (bif beqN t 25 then some i25 else none))) else (bif bltN t 28 then (bif bltN t 27 then (bif beqN t 26 then some i26 else none) else (bif beqN t 27 then some i27 else none)) else (bif bltN t 29 then (bif beqN t 28 then some i28 else none) else (bif beqN t 29 then some i29 else none)))))) else (bif bltN t 45 then (bif bltN t 38 then (bif bltN t 34 then (bif bltN t 31 then (bif beqN t 30 then some i30 else none) else (bif bltN t 32 then (bif beqN t 31 then some i31 else none) else (bif beqN t 32 then some i32 else none))) else (bif bltN t 35 then (bif beqN t 34 then some i34 else none) else (bif bltN t 36 then (bif beqN t 35 then some i35 else none) else (bif beqN t 36 then some i36 else none)))) else (bif bltN t 42 then (bif bltN t 40 then (bif beqN t 38 then some i38 else none) else (bif bltN t 41 then (bif beqN t 40 then some i40 else none) else (bif beqN t 41 then some i41 else none))) else (bif bltN t 43 then (bif beqN t 42 then some i42 else none) else (bif bltN t 44 then (bif beqN t 43 then some i43 else none) else (bif beqN t 44 then some i44 else none))))) else (bif bltN t 51 then (bif bltN t 48 then (bif bltN t 46 then (bif beqN t 45 then some i45 else none) else (bif bltN t 47 then (bif beqN t 46 then some i46 else none) else (bif beqN t 47 then some i47 else none))) else (bif bltN t 49 then (bif beqN t 48 then some i48 else none) else (bif bltN t 50 then (bif beqN t 49 then some i49 else none) else (bif beqN t 50 then some i50 else none)))) else (bif bltN t 54 then (bif bltN t 52 then (bif beqN t 51 then some i51 else none) else (bif bltN t 53 then (bif beqN t 52 then some i52 else none) else (bif beqN t 53 then some i53 else none))) else (bif bltN t 56 then (bif bltN t 55 then (bif beqN t 54 then some i54 else none) else (bif beqN t 55 then some i55 else none)) else (bif bltN t 57 then (bif beqN t 56 then some i56 else none) else (bif beqN t 57 then some i57 else none))))))) else (bif bltN t 86 then (bif bltN t 70 then (bif bltN t 64 then (bif bltN t 61 then (bif bltN t 59 then (bif beqN t 58 then some i58 else none) else (bif bltN t 60 then (bif beqN t 59 then some i59 else none) else (bif beqN t 60 then some i60 else none))) else (bif bltN t 62 then (bif beqN t 61 then some i61 else none) else (bif bltN t 63 then (bif beqN t 62 then some i62 else none) else (bif beqN t 63 then some i63 else none)))) else (bif bltN t 67 then (bif bltN t 65 then (bif beqN t 64 then some i64 else none) else (bif bltN t 66 then (bif beqN t 65 then some i65 else none) else (bif beqN t 66 then some i66 else none))) else (bif bltN t 68 then (bif beqN t 67 then some i67 else none) else (bif bltN t 69 then (bif beqN t 68 then some i68 else none) else (bif beqN t 69 then some i69 else none))))) else (bif bltN t 78 then (bif bltN t 74 then (bif bltN t 71 then (bif beqN t 70 then some i70 else none) else (bif bltN t 73 then (bif beqN t 71 then some i71 else none) else (bif beqN t 73 then some i73 else none))) else (bif bltN t 76 then (bif beqN t 74 then some i74 else none) else (bif bltN t 77 then (bif beqN t 76 then some i76 else none) else (bif beqN t 77 then some i77 else none)))) else (bif bltN t 82 then (bif bltN t 79 then (bif beqN t 78 then some i78 else none) else (bif bltN t 81 then (bif beqN t 79 then some i79 else none) else (bif beqN t 81 then some i81 else none))) else (bif bltN t 84 then (bif bltN t 83 then (bif beqN t 82 then some i82 else none) else (bif beqN t 83 then some i83 else none)) else (bif bltN t 85 then (bif beqN t 84 then some i84 else none) else (bif beqN t 85 then some i85 else none)))))) else (bif bltN t 100 then (bif bltN t 92 then (bif bltN t 89 then (bif bltN t 87 then (bif beqN t 86 then some i86 else none) else (bif bltN t 88 then (bif beqN t 87 then some i87 else none) else (bif beqN t 88 then some i88 else none))) else (bif bltN t 90 then (bif beqN t 89 then some i89 else none) else (bif bltN t 91 then (bif beqN t 90 then some i90 else none) else (bif beqN t 91 then some i91 else none)))) else (bif bltN t 95 then (bif bltN t 93 then (bif beqN t 92 then some i92 else none) else (bif bltN t 94 then (bif beqN t 93 then some i93 else none) else (bif beqN t 94 then some i94 else none))) else (bif bltN t 97 then (bif bltN t 96 then (bif beqN t 95 then some i95 else none) else (bif beqN t 96 then some i96 else none)) else (bif bltN t 98 then (bif beqN t 97 then some i97 else none) else (bif beqN t 98 then some i98 else none))))) else (bif bltN t 108 then (bif bltN t 103 then (bif bltN t 101 then (bif beqN t 100 then some i100 else none) else (bif bltN t 102 then (bif beqN t 101 then some i101 else none) else (bif beqN t 102 then some i102 else none))) else (bif bltN t 105 then (bif beqN t 103 then some i103 else none) else (bif bltN t 107 then (bif beqN t 105 then some i105 else none) else (bif beqN t 107 then some i107 else none)))) else (bif bltN t 114 then (bif bltN t 110 then (bif beqN t 108 then some i108 else none) else (bif bltN t 112 then (bif beqN t 110 then some i110 else none) else (bif beqN t 112 then some i112 else none))) else (bif bltN t 116 then (bif bltN t 115 then (bif beqN t 114 then some i114 else none) else (bif beqN t 115 then some i115 else none)) else (bif bltN t 117 then (bif beqN t 116 then some i116 else none) else (bif beqN t 117 then some i117 else none)))))))) else (bif bltN t 183 then (bif bltN t 149 then (bif bltN t 132 then (bif bltN t 124 then (bif bltN t 121 then (bif bltN t 119 then (bif beqN t 118 then some i118 else none) else (bif bltN t 120 then (bif beqN t 119 then some i119 else none) else (bif beqN t 120 then some i120 else none))) else (bif bltN t 122 then (bif beqN t 121 then some i121 else none) else (bif bltN t 123 then (bif beqN t 122 then some i122 else none) else (bif beqN t 123 then some i123 else none)))) else (bif bltN t 128 then (bif bltN t 125 then (bif beqN t 124 then some i124 else none) else (bif bltN t 127 then (bif beqN t 125 then some i125 else none) else (bif beqN t 127 then some i127 else none))) else (bif bltN t 130 then (bif beqN t 128 then some i128 else none) else (bif bltN t 131 then (bif beqN t 130 then some i130 else none) else (bif beqN t 131 then some i131 else none))))) else (bif bltN t 139 then (bif bltN t 135 then (bif bltN t 133 then (bif beqN t 132 then some i132 else none) else (bif bltN t 134 then (bif beqN t 133 then some i133 else none) else (bif beqN t 134 then some i134 else none))) else (bif bltN t 136 then (bif beqN t 135 then some i135 else none) else (bif bltN t 137 then (bif beqN t 136 then some i136 else none) else (bif beqN t 137 then some i137 else none)))) else (bif bltN t 143 then (bif bltN t 140 then (bif beqN t 139 then some i139 else none) else (bif bltN t 141 then (bif beqN t 140 then some i140 else none) else (bif beqN t 141 then some i141 else none))) else (bif bltN t 146 then (bif bltN t 145 then (bif beqN t 143 then some i143 else none) else (bif beqN t 145 then some i145 else none)) else (bif bltN t 147 then (bif beqN t 146 then some i146 else none) else (bif beqN t 147 then some i147 else none)))))) else (bif bltN t 163 then (bif bltN t 156 then (bif bltN t 152 then (bif bltN t 150 then (bif beqN t 149 then some i149 else none) else (bif bltN t 151 then (bif beqN t 150 then some i150 else none) else (bif beqN t 151 then some i151 else none))) else (bif bltN t 153 then (bif beqN t 152 then some i152 else none) else (bif bltN t 155 then (bif beqN t 153 then some i153 else none) else (bif beqN t 155 then some i155 else none)))) else (bif bltN t 160 then (bif bltN t 158 then (bif beqN t 156 then some i156 else none) else (bif bltN t 159 then (bif beqN t 158 then some i158 else none) else (bif beqN t 159 then some i159 else none))) else (bif bltN t 161 then (bif beqN t 160 then some i160 else none) else (bif bltN t 162 then (bif beqN t 161 then some i161 else none) else (bif beqN t 162 then some i162 else none))))) else (bif bltN t 172 then (bif bltN t 167 then (bif bltN t 164 then (bif beqN t 163 then some i163 else none) else (bif bltN t 166 then (bif beqN t 164 then some i164 else none) else (bif beqN t 166 then some i166 else none))) else (bif bltN t 169 then (bif beqN t 167 then some i167 else none) else (bif bltN t 171 then (bif beqN t 169 then some i169 else none) else (bif beqN t 171 then some i171 else none)))) else (bif bltN t 178 then (bif bltN t 174 then (bif beqN t 172 then some i172 else none) else (bif bltN t 175 then (bif beqN t 174 then some i174 else none) else (bif beqN t 175 then some i175 else none))) else (bif bltN t 180 then (bif bltN t 179 then (bif beqN t 178 then some i178 else none) else (bif beqN t 179 then some i179 else none)) else (bif bltN t 182 then (bif beqN t 180 then some i180 else none) else (bif beqN t 182 then some i182 else none))))))) else (bif bltN t 210 then (bif bltN t 197 then (bif bltN t 190 then (bif bltN t 186 then (bif bltN t 184 then (bif beqN t 183 then some i183 else none) else (bif bltN t 185 then (bif beqN t 184 then some i184 else none) else (bif beqN t 185 then some i185 else none))) else (bif bltN t 187 then (bif beqN t 186 then some i186 else none) else (bif bltN t 189 then (bif beqN t 187 then some i187 else none) else (bif beqN t 189 then some i189 else none)))) else (bif bltN t 194 then (bif bltN t 191 then (bif beqN t 190 then some i190 else none) else (bif bltN t 193 then (bif beqN t 191 then some i191 else none) else (bif beqN t 193 then some i193 else none))) else (bif bltN t 195 then (bif beqN t 194 then some i194 else none) else (bif bltN t 196 then (bif beqN t 195 then some i195 else none) else (bif beqN t 196 then some i196 else none))))) else (bif bltN t 203 then (bif bltN t 200 then (bif bltN t 198 then (bif beqN t 197 then some i197 else none) else (bif bltN t 199 then (bif beqN t 198 then some i198 else none) else (bif beqN t 199 then some i199 else none))) else (bif bltN t 201 then (bif beqN t 200 then some i200 else none) else (bif bltN t 202 then (bif beqN t 201 then some i201 else none) else (bif beqN t 202 then some i202 else none)))) else (bif bltN t 206 then (bif bltN t 204 then (bif beqN t 203 then some i203 else none) else (bif bltN t 205 then (bif beqN t 204 then some i204 else none) else (bif beqN t 205 then some i205 else none))) else (bif bltN t 208 then (bif bltN t 207 then (bif beqN t 206 then some i206 else none) else (bif beqN t 207 then some i207 else none)) else (bif bltN t 209 then (bif beqN t 208 then some i208 else none) else (bif beqN t 209 then some i209 else none)))))) else (bif bltN t 225 then (bif bltN t 218 then (bif bltN t 214 then (bif bltN t 211 then (bif beqN t 210 then some i210 else none) else (bif bltN t 212 then (bif beqN t 211 then some i211 else none) else (bif beqN t 212 then some i212 else none))) else (bif bltN t 215 then (bif beqN t 214 then some i214 else none) else (bif bltN t 216 then (bif beqN t 215 then some i215 else none) else (bif beqN t 216 then some i216 else none)))) else (bif bltN t 221 then (bif bltN t 219 then (bif beqN t 218 then some i218 else none) else (bif bltN t 220 then (bif beqN t 219 then some i219 else none) else (bif beqN t 220 then some i220 else none))) else (bif bltN t 223 then (bif bltN t 222 then (bif beqN t 221 then some i221 else none) else (bif beqN t 222 then some i222 else none)) else (bif bltN t 224 then (bif beqN t 223 then some i223 else none) else (bif beqN t 224 then some i224 else none))))) else (bif bltN t 231 then (bif bltN t 228 then (bif bltN t 226 then (bif beqN t 225 then some i225 else none) else (bif bltN t 227 then (bif beqN t 226 then some i226 else none) else (bif beqN t 227 then some i227 else none))) else (bif bltN t 229 then (bif beqN t 228 then some i228 else none) else (bif bltN t 230 then (bif beqN t 229 then some i229 else none) else (bif beqN t 230 then some i230 else none)))) else (bif bltN t 239 then (bif bltN t 237 then (bif beqN t 231 then some i231 else none) else (bif bltN t 238 then (bif beqN t 237 then some i237 else none) else (bif beqN t 238 then some i238 else none))) else (bif bltN t 241 then (bif bltN t 240 then (bif beqN t 239 then some i239 else none) else (bif beqN t 240 then some i240 else none)) else (bif bltN t 242 then (bif beqN t 241 then some i241 else none) else (bif beqN t 242 then some i242 else none))))))))
open TyTab in
theorem tyOK : TT Tryz.prog tyT := TT_bif (TT_bif (TT_bif (TT_bif (TT_bif (TT_bif (TT_bif (TT_leaf ok1) (TT_bif (TT_leaf ok2) (TT_leaf ok3))) (TT_bif (TT_leaf ok4) (TT_bif (TT_leaf ok5) (TT_leaf ok6)))) (TT_bif (TT_bif (TT_leaf ok7) (TT_bif (TT_leaf ok8) (TT_leaf ok9))) (TT_bif (TT_leaf ok10) (TT_bif (TT_leaf ok11) (TT_leaf ok12))))) (TT_bif (TT_bif (TT_bif (TT_leaf ok15) (TT_bif (TT_leaf ok16) (TT_leaf ok17))) (TT_bif (TT_leaf ok20) (TT_bif (TT_leaf ok21) (TT_leaf ok22)))) (TT_bif (TT_bif (TT_leaf ok23) (TT_bif (TT_leaf ok24) (TT_leaf ok25))) (TT_bif (TT_bif (TT_leaf ok26) (TT_leaf ok27)) (TT_bif (TT_leaf ok28) (TT_leaf ok29)))))) (TT_bif (TT_bif (TT_bif (TT_bif (TT_leaf ok30) (TT_bif (TT_leaf ok31) (TT_leaf ok32))) (TT_bif (TT_leaf ok34) (TT_bif (TT_leaf ok35) (TT_leaf ok36)))) (TT_bif (TT_bif (TT_leaf ok38) (TT_bif (TT_leaf ok40) (TT_leaf ok41))) (TT_bif (TT_leaf ok42) (TT_bif (TT_leaf ok43) (TT_leaf ok44))))) (TT_bif (TT_bif (TT_bif (TT_leaf ok45) (TT_bif (TT_leaf ok46) (TT_leaf ok47))) (TT_bif (TT_leaf ok48) (TT_bif (TT_leaf ok49) (TT_leaf ok50)))) (TT_bif (TT_bif (TT_leaf ok51) (TT_bif (TT_leaf ok52) (TT_leaf ok53))) (TT_bif (TT_bif (TT_leaf ok54) (TT_leaf ok55)) (TT_bif (TT_leaf ok56) (TT_leaf ok57))))))) (TT_bif (TT_bif (TT_bif (TT_bif (TT_bif (TT_leaf ok58) (TT_bif (TT_leaf ok59) (TT_leaf ok60))) (TT_bif (TT_leaf ok61) (TT_bif (TT_leaf ok62) (TT_leaf ok63)))) (TT_bif (TT_bif (TT_leaf ok64) (TT_bif (TT_leaf ok65) (TT_leaf ok66))) (TT_bif (TT_leaf ok67) (TT_bif (TT_leaf ok68) (TT_leaf ok69))))) (TT_bif (TT_bif (TT_bif (TT_leaf ok70) (TT_bif (TT_leaf ok71) (TT_leaf ok73))) (TT_bif (TT_leaf ok74) (TT_bif (TT_leaf ok76) (TT_leaf ok77)))) (TT_bif (TT_bif (TT_leaf ok78) (TT_bif (TT_leaf ok79) (TT_leaf ok81))) (TT_bif (TT_bif (TT_leaf ok82) (TT_leaf ok83)) (TT_bif (TT_leaf ok84) (TT_leaf ok85)))))) (TT_bif (TT_bif (TT_bif (TT_bif (TT_leaf ok86) (TT_bif (TT_leaf ok87) (TT_leaf ok88))) (TT_bif (TT_leaf ok89) (TT_bif (TT_leaf ok90) (TT_leaf ok91)))) (TT_bif (TT_bif (TT_leaf ok92) (TT_bif (TT_leaf ok93) (TT_leaf ok94))) (TT_bif (TT_bif (TT_leaf ok95) (TT_leaf ok96)) (TT_bif (TT_leaf ok97) (TT_leaf ok98))))) (TT_bif (TT_bif (TT_bif (TT_leaf ok100) (TT_bif (TT_leaf ok101) (TT_leaf ok102))) (TT_bif (TT_leaf ok103) (TT_bif (TT_leaf ok105) (TT_leaf ok107)))) (TT_bif (TT_bif (TT_leaf ok108) (TT_bif (TT_leaf ok110) (TT_leaf ok112))) (TT_bif (TT_bif (TT_leaf ok114) (TT_leaf ok115)) (TT_bif (TT_leaf ok116) (TT_leaf ok117)))))))) (TT_bif (TT_bif (TT_bif (TT_bif (TT_bif (TT_bif (TT_leaf ok118) (TT_bif (TT_leaf ok119) (TT_leaf ok120))) (TT_bif (TT_leaf ok121) (TT_bif (TT_leaf ok122) (TT_leaf ok123)))) (TT_bif (TT_bif (TT_leaf ok124) (TT_bif (TT_leaf ok125) (TT_leaf ok127))) (TT_bif (TT_leaf ok128) (TT_bif (TT_leaf ok130) (TT_leaf ok131))))) (TT_bif (TT_bif (TT_bif (TT_leaf ok132) (TT_bif (TT_leaf ok133) (TT_leaf ok134))) (TT_bif (TT_leaf ok135) (TT_bif (TT_leaf ok136) (TT_leaf ok137)))) (TT_bif (TT_bif (TT_leaf ok139) (TT_bif (TT_leaf ok140) (TT_leaf ok141))) (TT_bif (TT_bif (TT_leaf ok143) (TT_leaf ok145)) (TT_bif (TT_leaf ok146) (TT_leaf ok147)))))) (TT_bif (TT_bif (TT_bif (TT_bif (TT_leaf ok149) (TT_bif (TT_leaf ok150) (TT_leaf ok151))) (TT_bif (TT_leaf ok152) (TT_bif (TT_leaf ok153) (TT_leaf ok155)))) (TT_bif (TT_bif (TT_leaf ok156) (TT_bif (TT_leaf ok158) (TT_leaf ok159))) (TT_bif (TT_leaf ok160) (TT_bif (TT_leaf ok161) (TT_leaf ok162))))) (TT_bif (TT_bif (TT_bif (TT_leaf ok163) (TT_bif (TT_leaf ok164) (TT_leaf ok166))) (TT_bif (TT_leaf ok167) (TT_bif (TT_leaf ok169) (TT_leaf ok171)))) (TT_bif (TT_bif (TT_leaf ok172) (TT_bif (TT_leaf ok174) (TT_leaf ok175))) (TT_bif (TT_bif (TT_leaf ok178) (TT_leaf ok179)) (TT_bif (TT_leaf ok180) (TT_leaf ok182))))))) (TT_bif (TT_bif (TT_bif (TT_bif (TT_bif (TT_leaf ok183) (TT_bif (TT_leaf ok184) (TT_leaf ok185))) (TT_bif (TT_leaf ok186) (TT_bif (TT_leaf ok187) (TT_leaf ok189)))) (TT_bif (TT_bif (TT_leaf ok190) (TT_bif (TT_leaf ok191) (TT_leaf ok193))) (TT_bif (TT_leaf ok194) (TT_bif (TT_leaf ok195) (TT_leaf ok196))))) (TT_bif (TT_bif (TT_bif (TT_leaf ok197) (TT_bif (TT_leaf ok198) (TT_leaf ok199))) (TT_bif (TT_leaf ok200) (TT_bif (TT_leaf ok201) (TT_leaf ok202)))) (TT_bif (TT_bif (TT_leaf ok203) (TT_bif (TT_leaf ok204) (TT_leaf ok205))) (TT_bif (TT_bif (TT_leaf ok206) (TT_leaf ok207)) (TT_bif (TT_leaf ok208) (TT_leaf ok209)))))) (TT_bif (TT_bif (TT_bif (TT_bif (TT_leaf ok210) (TT_bif (TT_leaf ok211) (TT_leaf ok212))) (TT_bif (TT_leaf ok214) (TT_bif (TT_leaf ok215) (TT_leaf ok216)))) (TT_bif (TT_bif (TT_leaf ok218) (TT_bif (TT_leaf ok219) (TT_leaf ok220))) (TT_bif (TT_bif (TT_leaf ok221) (TT_leaf ok222)) (TT_bif (TT_leaf ok223) (TT_leaf ok224))))) (TT_bif (TT_bif (TT_bif (TT_leaf ok225) (TT_bif (TT_leaf ok226) (TT_leaf ok227))) (TT_bif (TT_leaf ok228) (TT_bif (TT_leaf ok229) (TT_leaf ok230)))) (TT_bif (TT_bif (TT_leaf ok231) (TT_bif (TT_leaf ok237) (TT_leaf ok238))) (TT_bif (TT_bif (TT_leaf ok239) (TT_leaf ok240)) (TT_bif (TT_leaf ok241) (TT_leaf ok242))))))))
end Go.Proofs.YtpbjcabecalpaaaGreatDoor
namespace Go.Proofs.YtpbjcabecalpaaaGreatDoor
open Go Go.Abs Go.Proofs
def facts (M : Mem) : Prop := (∀ g, Tryz.prog.globalNamed "internal/bytealg.MaxLen" = some g → ∃ cs t fr m, M.stat g = some (.cells cs t fr) ∧ cs[0]? = some (.int .i64 m)) ∧
  (∀ g, Tryz.prog.globalNamed "internal/strconv.uint64pow10" = some g → ∃ t fr, M.stat g = some (.cells (Lib.pow10Tab.map fun z => Value.int .u64 z).toArray t fr)) ∧
  ∀ nm, (nm = "strconv.ErrSyntax" ∨ nm = "strconv.ErrRange") → ∀ g, Tryz.prog.globalNamed nm = some g → ∃ tp p t fr, M.stat g = some (.cells #[.iface tp p] t fr)
theorem facts_mono (M M' : Mem) (h : M.le M') (k : facts M) : facts M' :=
  ⟨fun g hg => (by obtain ⟨cs, t, fr, m, e, e2⟩ := k.1 g hg; exact ⟨cs, t, fr, m, h.2 _ _ e, e2⟩), fun g hg => (by obtain ⟨t, fr, e⟩ := k.2.1 g hg; exact ⟨t, fr, h.2 _ _ e⟩), fun nm hn g hg => (by obtain ⟨tp, p, t, fr, e⟩ := k.2.2 nm hn g hg; exact ⟨tp, p, t, fr, h.2 _ _ e⟩)⟩
def G0 : Gs := ⟨fun _ => .undef, facts, facts_mono⟩
def ctx (fn : Func) : Ctx := { T := tyT, G := G0, res := fn.results.toList, N := fn.ntmps, n0 := 0 }
theorem mixed : Tryz.prog.follows .mixedOrders = true := by rfl
theorem ok (fn : Func) : OK Tryz.prog (ctx fn) fn := ⟨tyOK, mixed, rfl⟩
def body (fn : Func) : Code := fn.body.getD .skip
abbrev PF := PFun Tryz.prog G0
abbrev FN (f : Nat) (fn : Func) := FnOK Tryz.prog (ctx fn) f fn (body fn)
def F0 : Table := fun _ _ => none
theorem F0_ok : TableOK Tryz.prog G0 F0 := fun _ _ _ _ h => by cases h
def mkO (F : Table) : OpX := orX (callX F) (orX (appE tyT) (orX (buildX tyT) (orX (convX tyT) (sliceArrX tyT))))
theorem mkO_ok {F : Table} (h : TableOK Tryz.prog G0 F) : OpXOK Tryz.prog G0 (mkO F) := orX_ok (callX_ok h) (orX_ok (appE_ok tyOK) (orX_ok (buildX_ok tyOK) (orX_ok (convX_ok tyOK) (sliceArrX_ok tyOK))))
def i64 (n : Int) : PV := .int .i64 fun _ => n
def u64 (n : Int) : PV := .int .u64 fun _ => n
end Go.Proofs.YtpbjcabecalpaaaGreatDoor
namespace Go.Proofs.YtpbjcabecalpaaaGreatDoor
open Go Go.Abs Go.Proofs
def wP (h l : Int) : PV := .agg (.cons (.int .u64 fun _ => h) (.cons (.int .u64 fun _ => l) .nil))
def shWide : Sh := .agg (.cons (.int .u64) (.cons (.int .u64) .nil))
theorem less_ok (a b c d : Int) (h1 : okW a b) (h2 : okW c d) : PF 174 (.cons (wP a b) (.cons (wP c d) .nil)) (.bool fun _ => decide (wN a b < wN c d)) := by
  refine (⟨Tryz.func174, rfl, rfl, rfl, ⟨rfl, rfl⟩, ok _⟩ : FN 174 Tryz.f174).tree (mkO_ok F0_ok) false 40 rfl ?_
  conv => arg 5; cbv
  have hl := wN_less h1 h2
  refine ⟨fun h => ⟨rfl, ?_⟩, fun h => ⟨fun g => ⟨rfl, ?_⟩, fun g => ⟨rfl, ?_⟩⟩⟩
  · exact decide_eq_true (hl.2 (.inl (of_decide_eq_true h)))
  · have g : a = c := by simpa using g
    have h := of_decide_eq_false h
    show decide (b < d) = decide (wN a b < wN c d)
    rw [decide_eq_decide, hl]; omega
  · have g : ¬ a = c := by simpa using g
    have h := of_decide_eq_false h
    exact decide_eq_false fun hc => by rcases hl.1 hc with hc | hc <;> omega
noncomputable def Fv1 : Table := addS 174 (.cons shWide (.cons shWide .nil)) (fun a b c d => (.bool fun _ => decide (wN (a ()) (b ()) < wN (c ()) (d ())), [fun _ => okW (a ()) (b ()) ∧ okW (c ()) (d ())])) F0
theorem Fv1_ok : TableOK Tryz.prog G0 Fv1 := addS_ok (⟨Tryz.func174, rfl, rfl, rfl, ⟨rfl, rfl⟩, ok _⟩ : FN 174 Tryz.f174).callable (fun a b c d h => less_ok (a ()) (b ()) (c ()) (d ()) h.1.1 h.1.2) F0_ok
theorem compare_ok (a b c d : Int) (h1 : okW a b) (h2 : okW c d) : PF 145 (.cons (wP a b) (.cons (wP c d) .nil)) (.int .i64 fun _ => if wN a b < wN c d then -1 else if wN c d < wN a b then 1 else 0) := by
  refine (⟨Tryz.func145, rfl, rfl, rfl, ⟨rfl, rfl⟩, ok _⟩ : FN 145 Tryz.f145).tree (mkO_ok Fv1_ok) false 40 rfl ?_
  conv => arg 5; cbv
  refine ⟨⟨⟨h1, h2⟩, trivial⟩, fun h => ⟨rfl, rfl, ?_⟩, fun h => ⟨⟨⟨h2, h1⟩, trivial⟩, fun g => ⟨rfl, rfl, ?_⟩, fun g => ⟨rfl, rfl, ?_⟩⟩⟩
  · exact (if_pos (of_decide_eq_true h)).symm
  · exact ((if_neg (of_decide_eq_false h)).trans (if_pos (of_decide_eq_true g))).symm
  · exact ((if_neg (of_decide_eq_false h)).trans (if_neg (of_decide_eq_false g))).symm
theorem carry_ok (a b : Int) (ha : 0 ≤ a ∧ a < 18446744073709551616) (hb : 0 ≤ b ∧ b < 18446744073709551616) : PF 184 (.cons (u64 a) (.cons (u64 b) .nil)) (.int .u64 fun _ => (a + b) / 18446744073709551616) := by
  refine (⟨Tryz.func184, rfl, rfl, rfl, ⟨rfl, rfl⟩, ok _⟩ : FN 184 Tryz.f184).tree (mkO_ok F0_ok) false 40 rfl ?_
  conv => arg 5; cbv
  have hw : IntKind.u64.wrap (a + b) = (a + b) % 18446744073709551616 := rfl
  refine ⟨fun h => ⟨rfl, rfl, ?_⟩, fun h => ⟨rfl, rfl, ?_⟩⟩
  · have h := of_decide_eq_true h
    show 1 = (a + b) / 18446744073709551616
    omega
  · have h := of_decide_eq_false h
    show 0 = (a + b) / 18446744073709551616
    omega
theorem product_ok (a b : Int) (ha : 0 ≤ a ∧ a < 18446744073709551616) (hb : 0 ≤ b ∧ b < 18446744073709551616) : PF 179 (.cons (u64 a) (.cons (u64 b) .nil)) (.agg (.cons (.int .u64 fun _ => wHi (a.toNat * b.toNat)) (.cons (.int .u64 fun _ => wLo (a.toNat * b.toNat)) .nil))) := by
  refine (⟨Tryz.func179, rfl, rfl, rfl, ⟨rfl, rfl⟩, ok _⟩ : FN 179 Tryz.f179).tree (mkO_ok F0_ok) false 40 rfl ?_
  conv => arg 5; cbv
  have h32 : (0 : Int) ≤ 32 := by decide
  refine ⟨⟨h32, h32, h32, h32, h32, trivial⟩, rfl, ⟨rfl, ?_⟩, ⟨rfl, ?_⟩, rfl⟩
  · have := prodHi_eq (a := a.toNat) (b := b.toNat) (by omega) (by omega)
    rw [Int.toNat_of_nonneg ha.1, Int.toNat_of_nonneg hb.1] at this
    exact this
  · have := prodLo_eq a.toNat b.toNat
    rw [Int.toNat_of_nonneg ha.1, Int.toNat_of_nonneg hb.1] at this
    exact this
def lnA (x : Nat × Int × Nat) : Env := [(4, .int .i64 fun _ => stp x.1), (3, .int .i64 fun _ => x.2.1), (0, .int .u64 fun _ => (x.2.2 : Int))]
structure LI (a : Nat) (x : Nat × Int × Nat) : Prop where
  j : x.1 ≤ 6
  u : x.2.2 < 2 ^ (2 ^ x.1)
  n : x.2.1 + (bl x.2.2 : Int) = bl a
  n0 : 0 ≤ x.2.1
theorem length_ok (a : Nat) (ha : a < 18446744073709551616) : PF 180 (.cons (u64 a) .nil) (.int .i64 fun _ => (bl a : Int)) := by
  refine (⟨Tryz.func180, rfl, rfl, rfl, ⟨rfl, rfl⟩, ok _⟩ : FN 180 Tryz.f180).tree (mkO_ok F0_ok) false 40 rfl ?_
  conv => arg 5; cbv
  have hbl : bl a ≤ 64 := bl_le.2 ha
  refine run_inv (ι := Nat × Int × Nat) (fun x => x.1) (LI a) lnA (fun _ => []) 0 (6, 0, a) (fun i => i) (by rfl) (by rfl) ⟨Nat.le_refl _, ha, by show 0 + (bl a : Int) = bl a; omega, Int.le_refl 0⟩ ?_ ⟨impP_refl _, impP_refl _, impP_refl _, trivial⟩ trivial
  intro x hx ih
  obtain ⟨j, n, u⟩ := x
  have hn : n + (bl u : Int) = bl a := hx.n
  have hn0 : 0 ≤ n := hx.n0
  refine explore_ok (ok _) (mkO_ok F0_ok) (u := false) 20 _ rfl ?_
  conv => arg 5; cbv
  refine ⟨fun h => ?_, fun h => ?_⟩
  · have h : 0 < stp j := of_decide_eq_true h
    have hj : 0 < j := by
      apply Classical.byContradiction
      intro hn
      rw [show j = 0 by omega] at h
      exact absurd h (by decide)
    obtain ⟨s1, s2, s3, s4, s5, s6⟩ := stp_ok (u := u) hj hx.j hx.u
    refine ⟨⟨by show 0 ≤ stp j; omega, trivial⟩, fun g => ⟨⟨by show 0 ≤ stp j; omega, by decide, trivial⟩, ?_⟩, fun g => ⟨⟨by decide, trivial⟩, ?_⟩⟩
    · have g : (shr .u64 (u : Int) (stp j) != 0) = true := g
      have g : u / 2 ^ (stp j).toNat ≠ 0 := fun hc => by rw [s4, hc] at g; cases g
      have hb := bl_shift g
      refine ih (j - 1, n + stp j, u / 2 ^ (stp j).toNat) (fun i => i) ⟨by show j - 1 ≤ 6; have : j ≤ 6 := hx.j; omega, s5, by show n + stp j + (bl (u / 2 ^ (stp j).toNat) : Int) = bl a; omega, by show 0 ≤ n + stp j; omega⟩ (by show j - 1 < j; omega) (by rfl) ⟨⟨rfl, s3⟩, ⟨rfl, ?_⟩, ⟨rfl, s4⟩, trivial⟩ trivial
      show IntKind.i64.wrap (n + stp j) = n + stp j
      exact IntWalk.i64_in _ ⟨by omega, by omega⟩
    · have g : (shr .u64 (u : Int) (stp j) != 0) = false := g
      have g : u / 2 ^ (stp j).toNat = 0 := Classical.byContradiction fun hc => by rw [s4] at g; simp only [bne_eq_false_iff_eq] at g; omega
      exact ih (j - 1, n, u) (fun i => i) ⟨by show j - 1 ≤ 6; have : j ≤ 6 := hx.j; omega, s6 g, hn, hn0⟩ (by show j - 1 < j; omega) (by rfl) ⟨⟨rfl, s3⟩, impP_refl _, impP_refl _, trivial⟩ trivial
  · have h : ¬ 0 < stp j := of_decide_eq_false h
    have hj : j = 0 := by
      apply Classical.byContradiction
      intro hn
      exact h (stp_ok (u := u) (by omega) hx.j hx.u).1
    subst hj
    have hu : u < 2 := hx.u
    rw [bl_two hu] at hn
    refine ⟨rfl, rfl, ?_⟩
    show IntKind.i64.wrap (n + IntKind.i64.wrap (u : Int)) = (bl a : Int)
    rw [IntWalk.i64_in (u : Int) ⟨by omega, by omega⟩, IntWalk.i64_in _ ⟨by omega, by omega⟩]
    omega
noncomputable def Fv2 : Table := addS 145 (.cons shWide (.cons shWide .nil)) (fun a b c d => (.int .i64 fun _ => if wN (a ()) (b ()) < wN (c ()) (d ()) then -1 else if wN (c ()) (d ()) < wN (a ()) (b ()) then 1 else 0, [fun _ => okW (a ()) (b ()) ∧ okW (c ()) (d ())]))
  (addS 184 (.cons (.int .u64) (.cons (.int .u64) .nil)) (fun a b => (.int .u64 fun _ => (a () + b ()) / 18446744073709551616, [fun _ => (0 ≤ a () ∧ a () < 18446744073709551616) ∧ 0 ≤ b () ∧ b () < 18446744073709551616]))
  (addS 179 (.cons (.int .u64) (.cons (.int .u64) .nil)) (fun a b => ((.agg (.cons (.int .u64 fun _ => wHi ((a ()).toNat * (b ()).toNat)) (.cons (.int .u64 fun _ => wLo ((a ()).toNat * (b ()).toNat)) .nil))), [fun _ => (0 ≤ a () ∧ a () < 18446744073709551616) ∧ 0 ≤ b () ∧ b () < 18446744073709551616]))
  (addS 180 (.cons (.int .u64) .nil) (fun a => (.int .i64 fun _ => (bl (a ()).toNat : Int), [fun _ => 0 ≤ a () ∧ a () < 18446744073709551616])) Fv1)))
theorem Fv2_ok : TableOK Tryz.prog G0 Fv2 := addS_ok (⟨Tryz.func145, rfl, rfl, rfl, ⟨rfl, rfl⟩, ok _⟩ : FN 145 Tryz.f145).callable (fun a b c d h => compare_ok (a ()) (b ()) (c ()) (d ()) h.1.1 h.1.2) (addS_ok (⟨Tryz.func184, rfl, rfl, rfl, ⟨rfl, rfl⟩, ok _⟩ : FN 184 Tryz.f184).callable (fun a b h => carry_ok (a ()) (b ()) h.1.1 h.1.2)
  (addS_ok (⟨Tryz.func179, rfl, rfl, rfl, ⟨rfl, rfl⟩, ok _⟩ : FN 179 Tryz.f179).callable (fun a b h => product_ok (a ()) (b ()) h.1.1 h.1.2) (addS_ok (⟨Tryz.func180, rfl, rfl, rfl, ⟨rfl, rfl⟩, ok _⟩ : FN 180 Tryz.f180).callable (fun a h => by
    have := length_ok (a ()).toNat (by have := h.1; omega)
    rwa [show (((a ()).toNat : Nat) : Int) = a () from Int.toNat_of_nonneg h.1.1] at this) Fv1_ok)))
theorem bits_ok (a b : Int) (h : okW a b) : PF 164 (.cons (wP a b) .nil) (.int .i64 fun _ => (bl (wN a b) : Int)) := by
  refine (⟨Tryz.func164, rfl, rfl, rfl, ⟨rfl, rfl⟩, ok _⟩ : FN 164 Tryz.f164).tree (mkO_ok Fv2_ok) false 40 rfl ?_
  conv => arg 5; cbv
  obtain ⟨x, y, rfl, rfl, hx, hy⟩ := okW_nat h
  have hb := bl_words (a := x) hy
  have hb2 : bl x ≤ 64 := bl_le.2 hx
  refine ⟨fun g => ⟨⟨h.1, trivial⟩, rfl, rfl, ?_⟩, fun g => ⟨⟨h.2, trivial⟩, rfl, rfl, ?_⟩⟩
  · have g : x ≠ 0 := by simpa using g
    rw [if_pos g] at hb
    show IntKind.i64.wrap (64 + (bl (x : Int).toNat : Int)) = (bl (wN x y) : Int)
    rw [wN_nat, hb, Int.toNat_natCast, IntWalk.i64_in _ ⟨by omega, by omega⟩]; omega
  · have g : x = 0 := by simpa using g
    rw [if_neg (by omega)] at hb
    show (bl (y : Int).toNat : Int) = (bl (wN x y) : Int)
    rw [wN_nat, hb, Int.toNat_natCast]
theorem add_ok (a b c d : Int) (h1 : okW a b) (h2 : okW c d) : PF 171 (.cons (wP a b) (.cons (wP c d) .nil)) (.tuple (.cons (.agg (.cons (.int .u64 fun _ => wHi (capW (wN a b + wN c d))) (.cons (.int .u64 fun _ => wLo (capW (wN a b + wN c d))) .nil))) (.cons (.bool fun _ => decide (wN a b + wN c d < W128)) .nil))) := by
  refine (⟨Tryz.func171, rfl, rfl, rfl, ⟨rfl, rfl⟩, ok _⟩ : FN 171 Tryz.f171).tree (mkO_ok Fv2_ok) false 40 rfl ?_
  conv => arg 5; cbv
  have hw : ∀ n : Int, IntKind.u64.wrap n = n % 18446744073709551616 := fun _ => rfl
  obtain ⟨⟨a0, a1⟩, b0, b1⟩ := h1
  obtain ⟨⟨c0, c1⟩, d0, d1⟩ := h2
  have hs : wN a b + wN c d = (a.toNat + c.toNat) * 18446744073709551616 + (b.toNat + d.toNat) := by unfold wN; omega
  rw [hs]
  refine ⟨⟨⟨⟨b0, b1⟩, d0, d1⟩, ⟨⟨a0, a1⟩, c0, c1⟩, trivial⟩, fun g => ?_, fun g => ⟨⟨⟨?_, ?_⟩, trivial⟩, fun k => ?_, fun k => ?_⟩⟩
  · have g : (a + c) / 18446744073709551616 ≠ 0 := by simpa using g
    have hn : ¬ (a.toNat + c.toNat) * 18446744073709551616 + (b.toNat + d.toNat) < W128 := by unfold W128; omega
    refine ⟨rfl, ⟨⟨rfl, ?_⟩, ⟨rfl, ?_⟩, rfl⟩, decide_eq_false hn, rfl⟩ <;> (unfold capW; rw [if_neg hn]; rfl)
  · dsimp only; rw [hw]; omega
  · dsimp only; omega
  · have g : (a + c) / 18446744073709551616 = 0 := by simpa using g
    have k : (IntKind.u64.wrap (a + c) + (b + d) / 18446744073709551616) / 18446744073709551616 ≠ 0 := by simpa using k
    rw [hw] at k
    have hn : ¬ (a.toNat + c.toNat) * 18446744073709551616 + (b.toNat + d.toNat) < W128 := by unfold W128; omega
    refine ⟨rfl, ⟨⟨rfl, ?_⟩, ⟨rfl, ?_⟩, rfl⟩, decide_eq_false hn, rfl⟩ <;> (unfold capW; rw [if_neg hn]; rfl)
  · have g : (a + c) / 18446744073709551616 = 0 := by simpa using g
    have k : (IntKind.u64.wrap (a + c) + (b + d) / 18446744073709551616) / 18446744073709551616 = 0 := by simpa using k
    rw [hw] at k
    have hn : (a.toNat + c.toNat) * 18446744073709551616 + (b.toNat + d.toNat) < W128 := by unfold W128; omega
    refine ⟨rfl, ⟨⟨rfl, ?_⟩, ⟨rfl, ?_⟩, rfl⟩, decide_eq_true hn, rfl⟩ <;> (unfold capW; rw [if_pos hn]; simp only [wHi, wLo, hw]; omega)
theorem right_ok (a b n : Int) (h : okW a b) (h0 : 0 ≤ n ∧ n < 9223372036854775808) : PF 165 (.cons (wP a b) (.cons (i64 n) .nil)) (.agg (.cons (.int .u64 fun _ => wHi (wN a b / 2 ^ n.toNat)) (.cons (.int .u64 fun _ => wLo (wN a b / 2 ^ n.toNat)) .nil))) := by
  refine (⟨Tryz.func165, rfl, rfl, rfl, ⟨rfl, rfl⟩, ok _⟩ : FN 165 Tryz.f165).tree (mkO_ok F0_ok) false 40 rfl ?_
  conv => arg 5; cbv
  have hlt := wN_lt h
  obtain ⟨x, y, rfl, rfl, hx, hy⟩ := okW_nat h
  obtain ⟨k, rfl⟩ : ∃ k : Nat, n = k := ⟨n.toNat, by omega⟩
  rw [wN_nat] at *
  have hw1 : 64 ≤ k → k < 128 → IntKind.i64.wrap ((k : Int) - 64) = ((k - 64 : Nat) : Int) := fun _ _ => by rw [IntWalk.i64_in _ ⟨by omega, by omega⟩]; omega
  have hw2 : k < 64 → IntKind.i64.wrap (64 - (k : Int)) = ((64 - k : Nat) : Int) := fun _ => by rw [IntWalk.i64_in _ ⟨by omega, by omega⟩]; omega
  refine ⟨fun g => ?_, fun g => ⟨fun g2 => ?_, fun g2 => ⟨fun g3 => ⟨⟨?_, trivial⟩, ?_⟩, fun g3 => ⟨⟨h0.1, h0.1, ?_, (by show drawOK _ _ = true; decide +kernel), trivial⟩, ?_⟩⟩⟩⟩
  · have g : (k : Int) ≤ 0 := of_decide_eq_true g
    obtain rfl : k = 0 := by omega
    refine ⟨rfl, ⟨rfl, ?_⟩, ⟨rfl, ?_⟩, rfl⟩ <;> (simp only [Int.toNat_natCast, Nat.pow_zero, Nat.div_one, wHi, wLo]; omega)
  · have g2 : (128 : Int) ≤ (k : Int) := of_decide_eq_true g2
    have e : (x * 18446744073709551616 + y) / 2 ^ k = 0 := Nat.div_eq_of_lt (Nat.lt_of_lt_of_le hlt (Nat.pow_le_pow_right (n := 2) (i := 128) (by omega) (by omega)))
    refine ⟨rfl, ⟨rfl, ?_⟩, ⟨rfl, ?_⟩, rfl⟩ <;> (simp only [Int.toNat_natCast]; rw [e]; rfl)
  · have g2 : ¬ (128 : Int) ≤ (k : Int) := of_decide_eq_false g2
    have g3 : (64 : Int) ≤ (k : Int) := of_decide_eq_true g3
    show 0 ≤ IntKind.i64.wrap ((k : Int) - 64)
    rw [hw1 (by omega) (by omega)]; omega
  · have g2 : ¬ (128 : Int) ≤ (k : Int) := of_decide_eq_false g2
    have g3 : (64 : Int) ≤ (k : Int) := of_decide_eq_true g3
    have e : (x * 18446744073709551616 + y) / 2 ^ k = x / 2 ^ (k - 64) := by
      rw [show k = 64 + (k - 64) by omega, Nat.pow_add, ← Nat.div_div_eq_div_mul, show 64 + (k - 64) - 64 = k - 64 by omega]
      congr 1
      show (x * 18446744073709551616 + y) / 18446744073709551616 = x
      omega
    have hl : x / 2 ^ (k - 64) ≤ x := Nat.div_le_self _ _
    refine ⟨rfl, ⟨rfl, ?_⟩, ⟨rfl, ?_⟩, rfl⟩ <;> (simp only [Int.toNat_natCast]; rw [e])
    · exact (wHi_small (by omega)).symm
    · rw [wLo_small (by omega), hw1 (by omega) (by omega)]
      exact shr_nat x _ (by omega)
  · have g3 : ¬ (64 : Int) ≤ (k : Int) := of_decide_eq_false g3
    show 0 ≤ IntKind.i64.wrap (64 - (k : Int))
    rw [hw2 (by omega)]; omega
  · have g3 : ¬ (64 : Int) ≤ (k : Int) := of_decide_eq_false g3
    obtain ⟨r1, r2, r3⟩ := right_words (a := x) (b := y) (n := k) hy (by omega)
    refine ⟨rfl, ⟨rfl, ?_⟩, ⟨rfl, ?_⟩, rfl⟩ <;> simp only [Int.toNat_natCast]
    · unfold wHi
      rw [r1]; exact shr_nat x k (by omega)
    · unfold wLo
      have hm : 2 ^ (64 - k) * x % 18446744073709551616 = 2 ^ (64 - k) * (x % 2 ^ k) := by
        rw [show (18446744073709551616 : Nat) = 2 ^ (64 - k) * 2 ^ k by rw [← Nat.pow_add, show 64 - k + k = 64 by omega], Nat.mul_mod_mul_left]
      rw [r2, hw2 (by omega), shr_nat y k (by omega), shl_nat x _ (by omega), Nat.mul_comm x, hm, or_nat (Nat.lt_of_le_of_lt (Nat.div_le_self _ _) hy) (by rw [← hm]; exact Nat.mod_lt _ (by omega)), Nat.or_comm, or_add r3]
noncomputable def Fv3 : Table := addS 164 (.cons shWide .nil) (fun a b => (.int .i64 fun _ => (bl (wN (a ()) (b ())) : Int), [fun _ => okW (a ()) (b ())]))
  (addS 171 (.cons shWide (.cons shWide .nil)) (fun a b c d => (.tuple (.cons (.agg (.cons (.int .u64 fun _ => wHi (capW (wN (a ()) (b ()) + wN (c ()) (d ())))) (.cons (.int .u64 fun _ => wLo (capW (wN (a ()) (b ()) + wN (c ()) (d ())))) .nil))) (.cons (.bool fun _ => decide (wN (a ()) (b ()) + wN (c ()) (d ()) < W128)) .nil)), [fun _ => okW (a ()) (b ()) ∧ okW (c ()) (d ())]))
  (addS 165 (.cons shWide (.cons (.int .i64) .nil)) (fun a b n => ((.agg (.cons (.int .u64 fun _ => wHi (wN (a ()) (b ()) / 2 ^ (n ()).toNat)) (.cons (.int .u64 fun _ => wLo (wN (a ()) (b ()) / 2 ^ (n ()).toNat)) .nil))), [fun _ => okW (a ()) (b ()) ∧ 0 ≤ n () ∧ n () < 9223372036854775808])) Fv2))
theorem Fv3_ok : TableOK Tryz.prog G0 Fv3 := addS_ok (⟨Tryz.func164, rfl, rfl, rfl, ⟨rfl, rfl⟩, ok _⟩ : FN 164 Tryz.f164).callable (fun a b h => bits_ok (a ()) (b ()) h.1) (addS_ok (⟨Tryz.func171, rfl, rfl, rfl, ⟨rfl, rfl⟩, ok _⟩ : FN 171 Tryz.f171).callable (fun a b c d h => add_ok (a ()) (b ()) (c ()) (d ()) h.1.1 h.1.2) (addS_ok (⟨Tryz.func165, rfl, rfl, rfl, ⟨rfl, rfl⟩, ok _⟩ : FN 165 Tryz.f165).callable (fun a b n h => right_ok (a ()) (b ()) (n ()) h.1.1 h.1.2) Fv2_ok))
theorem left_ok (a b n : Int) (h : okW a b) (h0 : 0 ≤ n ∧ n < 9223372036854775808) : PF 186 (.cons (wP a b) (.cons (i64 n) .nil)) (.tuple (.cons (.agg (.cons (.int .u64 fun _ => wHi (capW (wN a b * 2 ^ n.toNat))) (.cons (.int .u64 fun _ => wLo (capW (wN a b * 2 ^ n.toNat))) .nil))) (.cons (.bool fun _ => decide (wN a b * 2 ^ n.toNat < W128)) .nil))) := by
  refine (⟨Tryz.func186, rfl, rfl, rfl, ⟨rfl, rfl⟩, ok _⟩ : FN 186 Tryz.f186).tree (mkO_ok Fv3_ok) false 40 rfl ?_
  conv => arg 5; cbv
  have hlt := wN_lt h
  have hbl := bl_most hlt
  obtain ⟨x, y, rfl, rfl, hx, hy⟩ := okW_nat h
  obtain ⟨k, rfl⟩ : ∃ k : Nat, n = k := ⟨n.toNat, by omega⟩
  rw [wN_nat] at *
  have hw1 : 64 ≤ k → k ≤ 128 → IntKind.i64.wrap ((k : Int) - 64) = ((k - 64 : Nat) : Int) := fun _ _ => by rw [IntWalk.i64_in _ ⟨by omega, by omega⟩]; omega
  have hw2 : k < 64 → IntKind.i64.wrap (64 - (k : Int)) = ((64 - k : Nat) : Int) := fun _ => by rw [IntWalk.i64_in _ ⟨by omega, by omega⟩]; omega
  have hwb : IntKind.i64.wrap (128 - (bl (x * 18446744073709551616 + y) : Int)) = 128 - (bl (x * 18446744073709551616 + y) : Int) := IntWalk.i64_in _ ⟨by omega, by omega⟩
  have hfit : k ≤ 128 → (k + bl (x * 18446744073709551616 + y) ≤ 128 ↔ (x * 18446744073709551616 + y) * 2 ^ k < W128) := fun hk => by
    rw [show (k + bl (x * 18446744073709551616 + y) ≤ 128) ↔ bl (x * 18446744073709551616 + y) ≤ 128 - k by omega, bl_le, show W128 = 2 ^ (128 - k) * 2 ^ k by rw [← Nat.pow_add, show 128 - k + k = 128 by omega]]
    exact (Nat.mul_lt_mul_right (Nat.two_pow_pos k)).symm
  simp only [Int.toNat_natCast]
  refine ⟨fun g => ?_, fun g => ⟨fun g2 => ?_, fun g2 => ⟨⟨h, trivial⟩, fun g3 => ?_, fun g3 => ⟨fun g4 => ⟨⟨?_, trivial⟩, ?_⟩, fun g4 => ⟨⟨h0.1, ?_, h0.1, (by show drawOK _ _ = true; decide +kernel), trivial⟩, ?_⟩⟩⟩⟩⟩
  · have g : x = 0 ∧ y = 0 := by simpa using g
    obtain ⟨rfl, rfl⟩ := g
    have hn : (0 * 18446744073709551616 + 0) * 2 ^ k < W128 := by simp
    refine ⟨rfl, ⟨⟨rfl, ?_⟩, ⟨rfl, ?_⟩, rfl⟩, ?_, rfl⟩
    · unfold capW; rw [if_pos hn]; simp [wHi]
    · unfold capW; rw [if_pos hn]; simp [wLo]
    · show decide (0 ≤ (k : Int)) = decide _
      rw [decide_eq_true hn, decide_eq_true (by omega)]
  · have g2 : (k : Int) < 0 := of_decide_eq_true g2
    omega
  · have g3 : IntKind.i64.wrap (128 - (bl (wN (x : Int) (y : Int)) : Int)) < (k : Int) := of_decide_eq_true g3
    rw [wN_nat, hwb] at g3
    have g : ¬ (x = 0 ∧ y = 0) := by simpa using g
    have hn : ¬ (x * 18446744073709551616 + y) * 2 ^ k < W128 := by
      by_cases hk : k ≤ 128
      · rw [← hfit hk]; omega
      · intro hc
        have h1 : 2 ^ 128 ≤ 2 ^ k := Nat.pow_le_pow_right (by omega) (by omega)
        have h2 : 1 * 2 ^ k ≤ (x * 18446744073709551616 + y) * 2 ^ k := Nat.mul_le_mul_right _ (by omega)
        unfold W128 at hc
        omega
    refine ⟨rfl, ⟨⟨rfl, ?_⟩, ⟨rfl, ?_⟩, rfl⟩, decide_eq_false hn, rfl⟩ <;> (unfold capW; rw [if_neg hn]; rfl)
  all_goals
    have g3 : ¬ IntKind.i64.wrap (128 - (bl (wN (x : Int) (y : Int)) : Int)) < (k : Int) := of_decide_eq_false g3
    rw [wN_nat, hwb] at g3
    have hk : k ≤ 128 := by omega
    have hn := (hfit hk).1 (by omega)
  · have g4 : (64 : Int) ≤ (k : Int) := of_decide_eq_true g4
    show 0 ≤ IntKind.i64.wrap ((k : Int) - 64)
    rw [hw1 (by omega) hk]; omega
  · have g4 : (64 : Int) ≤ (k : Int) := of_decide_eq_true g4
    have e2 : 2 ^ k = 2 ^ (k - 64) * 18446744073709551616 := by
      rw [show (18446744073709551616 : Nat) = 2 ^ 64 from rfl, ← Nat.pow_add, show k - 64 + 64 = k by omega]
    have h1 : 1 ≤ 2 ^ (k - 64) := Nat.one_le_two_pow
    have hx0 : x = 0 := by
      apply Classical.byContradiction
      intro hx0
      rw [e2, ← Nat.mul_assoc] at hn
      have h2 := Nat.mul_le_mul_left (x * 18446744073709551616 + y) h1
      unfold W128 at hn
      omega
    subst hx0
    have hv : (0 * 18446744073709551616 + y) * 2 ^ k = y * 2 ^ (k - 64) * 18446744073709551616 := by rw [Nat.zero_mul, Nat.zero_add, e2, Nat.mul_assoc]
    rw [hv] at hn
    have hm : y * 2 ^ (k - 64) < 18446744073709551616 := by unfold W128 at hn; omega
    refine ⟨rfl, ⟨⟨rfl, ?_⟩, ⟨rfl, ?_⟩, rfl⟩, ?_, rfl⟩
    · unfold capW; rw [hv, if_pos hn, hw1 (by omega) hk, shl_nat y _ (by omega), Nat.mod_eq_of_lt hm]; unfold wHi; rw [Nat.mul_div_cancel _ (by omega)]
    · unfold capW; rw [hv, if_pos hn]; unfold wLo; rw [Nat.mul_mod_left]; rfl
    · rw [← hv] at hn
      exact decide_eq_true hn
  · have g4 : ¬ (64 : Int) ≤ (k : Int) := of_decide_eq_false g4
    show 0 ≤ IntKind.i64.wrap (64 - (k : Int))
    rw [hw2 (by omega)]; omega
  · have g4 : ¬ (64 : Int) ≤ (k : Int) := of_decide_eq_false g4
    obtain ⟨r1, r2, r3⟩ := left_words (a := x) (b := y) (n := k) hy (by omega)
    have hx1 : 2 ^ k * x + y / 2 ^ (64 - k) < 18446744073709551616 := by
      rw [← r1]; exact Nat.div_lt_of_lt_mul (by unfold W128 at hn; omega)
    refine ⟨rfl, ⟨⟨rfl, ?_⟩, ⟨rfl, ?_⟩, rfl⟩, decide_eq_true hn, rfl⟩
    · have hx2 : x * 2 ^ k < 18446744073709551616 := by rw [Nat.mul_comm]; exact Nat.lt_of_le_of_lt (Nat.le_add_right _ _) hx1
      unfold capW; rw [if_pos hn, hw2 (by omega), shl_nat x k (by omega), shr_nat y _ (by omega), Nat.mod_eq_of_lt hx2, or_nat hx2 (Nat.lt_of_le_of_lt (Nat.div_le_self _ _) hy), Nat.mul_comm x, or_add r3]; unfold wHi; rw [r1]
    · unfold capW; rw [if_pos hn, shl_nat y k (by omega)]; unfold wLo; rw [r2]
theorem times_ok (a b n : Int) (h : okW a b) (hn : 0 ≤ n ∧ n < 18446744073709551616) : PF 162 (.cons (wP a b) (.cons (u64 n) .nil)) (.tuple (.cons (.agg (.cons (.int .u64 fun _ => wHi (tmV (wN a b) n.toNat)) (.cons (.int .u64 fun _ => wLo (tmV (wN a b) n.toNat)) .nil))) (.cons (.bool fun _ => decide (wN a b * n.toNat < W128)) .nil))) := by
  refine (⟨Tryz.func162, rfl, rfl, rfl, ⟨rfl, rfl⟩, ok _⟩ : FN 162 Tryz.f162).tree (mkO_ok Fv3_ok) false 40 rfl ?_
  conv => arg 5; cbv
  obtain ⟨x, y, rfl, rfl, hx, hy⟩ := okW_nat h
  obtain ⟨u, rfl⟩ : ∃ u : Nat, n = u := ⟨n.toNat, by omega⟩
  simp only [Int.toNat_natCast, wN_nat]
  obtain ⟨t1, t2⟩ := tm_nat (a := x) (b := y) (u := u) hy (by omega)
  have hb : y * u < W128 := by
    have := Nat.mul_le_mul (show y ≤ 18446744073709551615 by omega) (show u ≤ 18446744073709551615 by omega)
    unfold W128; omega
  refine ⟨⟨⟨h.1, hn⟩, ⟨h.2, hn⟩, (by show drawOK _ _ = true; decide +kernel), trivial⟩, fun g => ?_, fun g => ⟨⟨⟨⟨?_, by decide⟩, okW_of hb⟩, trivial⟩, ?_⟩⟩
  · have g : wHi (x * u) ≠ 0 := by simpa using g
    have hno : ¬ (x * 18446744073709551616 + y) * u < W128 := fun hc => by
      have := (t1.1 hc).1
      exact g (wHi_small this)
    refine ⟨rfl, ⟨⟨rfl, ?_⟩, ⟨rfl, ?_⟩, rfl⟩, decide_eq_false hno, rfl⟩ <;> (dsimp only; unfold tmV; rw [if_neg hno]; rfl)
  · unfold wLo; omega
  · have g : wHi (x * u) = 0 := by simpa using g
    have g : x * u < 18446744073709551616 := by unfold wHi at g; omega
    have hs : wN (wLo (x * u)) 0 + wN (wHi (y * u)) (wLo (y * u)) = (x * 18446744073709551616 + y) * u := by
      rw [wN_of, t2, wLo_small g]; unfold wN; omega
    refine ⟨rfl, ⟨⟨rfl, ?_⟩, ⟨rfl, ?_⟩, rfl⟩, ?_, rfl⟩
    · rw [hs]; rfl
    · rw [hs]; rfl
    · show decide (wN (wLo (x * u)) 0 + wN (wHi (y * u)) (wLo (y * u)) < W128) = decide _
      rw [hs]
noncomputable def Fv4 : Table := addS 186 (.cons shWide (.cons (.int .i64) .nil)) (fun a b n => (.tuple (.cons (.agg (.cons (.int .u64 fun _ => wHi (capW (wN (a ()) (b ()) * 2 ^ (n ()).toNat))) (.cons (.int .u64 fun _ => wLo (capW (wN (a ()) (b ()) * 2 ^ (n ()).toNat))) .nil))) (.cons (.bool fun _ => decide (wN (a ()) (b ()) * 2 ^ (n ()).toNat < W128)) .nil)), [fun _ => okW (a ()) (b ()) ∧ 0 ≤ n () ∧ n () < 9223372036854775808]))
  (addS 162 (.cons shWide (.cons (.int .u64) .nil)) (fun a b n => (.tuple (.cons (.agg (.cons (.int .u64 fun _ => wHi (tmV (wN (a ()) (b ())) (n ()).toNat)) (.cons (.int .u64 fun _ => wLo (tmV (wN (a ()) (b ())) (n ()).toNat)) .nil))) (.cons (.bool fun _ => decide (wN (a ()) (b ()) * (n ()).toNat < W128)) .nil)), [fun _ => okW (a ()) (b ()) ∧ 0 ≤ n () ∧ n () < 18446744073709551616])) Fv3)
theorem Fv4_ok : TableOK Tryz.prog G0 Fv4 := addS_ok (⟨Tryz.func186, rfl, rfl, rfl, ⟨rfl, rfl⟩, ok _⟩ : FN 186 Tryz.f186).callable (fun a b n h => left_ok (a ()) (b ()) (n ()) h.1.1 h.1.2) (addS_ok (⟨Tryz.func162, rfl, rfl, rfl, ⟨rfl, rfl⟩, ok _⟩ : FN 162 Tryz.f162).callable (fun a b n h => times_ok (a ()) (b ()) (n ()) h.1.1 h.1.2) Fv3_ok)
end Go.Proofs.YtpbjcabecalpaaaGreatDoor
namespace Go.Proofs.YtpbjcabecalpaaaGreatDoor
open Go Go.Abs Go.Proofs
def byA (u : Nat) (i : Int) (v : Nat) : Env := [(10, .int .i64 fun _ => i), (8, .int .u64 fun _ => ((v / 2 ^ (i + 1).toNat % u : Nat) : Int)), (7, .ptr 2 0), (4, .ptr 1 0), (2, .ptr 0 0), (1, .int .u64 fun _ => (u : Int))]
def byS (a b : Int) (u : Nat) (i : Int) (v : Nat) : Store := [(0, .var (wP a b)), (1, .var (wP 0 0)), (2, .var (.agg (.cons (.int .u64 fun _ => wHi (v / 2 ^ (i + 1).toNat / u)) (.cons (.int .u64 fun _ => wLo (v / 2 ^ (i + 1).toNat / u)) .nil))))]
theorem by_ok (a b n : Int) (h : okW a b) (hn : 0 ≤ n ∧ n < 18446744073709551616) : PF 136 (.cons (wP a b) (.cons (u64 n) .nil)) (.tuple (.cons (.agg (.cons (.int .u64 fun _ => wHi (wN a b / n.toNat)) (.cons (.int .u64 fun _ => wLo (wN a b / n.toNat)) .nil))) (.cons (.int .u64 fun _ => byR (wN a b) n) (.cons (.bool fun _ => decide (n ≠ 0)) .nil)))) := by
  refine (⟨Tryz.func136, rfl, rfl, rfl, ⟨rfl, rfl⟩, ok _⟩ : FN 136 Tryz.f136).tree (mkO_ok Fv4_ok) false 40 rfl ?_
  conv => arg 5; cbv
  obtain ⟨u, rfl⟩ : ∃ u : Nat, n = u := ⟨n.toNat, by omega⟩
  simp only [Int.toNat_natCast]
  have hlt := wN_lt h
  have hbl := bl_most hlt
  have hv := bl_le.1 (Nat.le_refl (bl (wN a b)))
  generalize hV : wN a b = v at *
  refine ⟨fun g => ?_, fun g => ⟨⟨h, trivial⟩, ?_⟩⟩
  · have g : u = 0 := by simpa using g
    subst g
    refine ⟨rfl, ⟨⟨rfl, ?_⟩, ⟨rfl, ?_⟩, rfl⟩, ⟨rfl, rfl⟩, rfl, rfl⟩ <;> (rw [Nat.div_zero]; rfl)
  have g : u ≠ 0 := by simpa using g
  have hw : IntKind.i64.wrap ((bl v : Int) - 1) = bl v - 1 := IntWalk.i64_in _ ⟨by omega, by omega⟩
  have h0 : v / 2 ^ ((bl v : Int) - 1 + 1).toNat = 0 := by
    rw [show ((bl v : Int) - 1 + 1).toNat = bl v by omega]
    exact Nat.div_eq_of_lt hv
  refine run_inv (ι := Int) (fun i => (i + 1).toNat) (fun i => -1 ≤ i ∧ i < 128) (fun i => byA u i v) (fun i => byS a b u i v) 3 ((bl v : Int) - 1) (fun i => i) (by rfl) (by rfl) ⟨by omega, by omega⟩ ?_ ?_ ?_
  · intro i hi ih
    refine explore_ok (ok _) (mkO_ok Fv4_ok) (u := false) 20 _ rfl ?_
    conv => arg 5; cbv
    have h63 : (0 : Int) ≤ 63 := by decide
    have h1 : (0 : Int) ≤ 1 := by decide
    refine ⟨fun g2 => ⟨⟨h63, h1, ⟨h, ?_⟩, h1, h63, h1, trivial⟩, ?_⟩, fun g2 => ?_⟩
    · have g2 : 0 ≤ i := of_decide_eq_true g2
      exact ⟨g2, by have := hi.2; show i < 9223372036854775808; omega⟩
    · have g2 : 0 ≤ i := of_decide_eq_true g2
      obtain ⟨k, rfl⟩ : ∃ k : Nat, i = k := ⟨i.toNat, by omega⟩
      have hk : k < 128 := by omega
      have hwi : IntKind.i64.wrap ((k : Int) - 1) = k - 1 := IntWalk.i64_in _ ⟨by omega, by omega⟩
      obtain ⟨p1, p2, p3⟩ := by_step (v := v) (i := k) (u := u) (by omega)
      have e1 : ((k : Int) + 1).toNat = k + 1 := by omega
      have e2 : ((k : Int) - 1 + 1).toNat = k := by omega
      have hR : v / 2 ^ (k + 1) % u < u := Nat.mod_lt _ (by omega)
      have hQ : v / 2 ^ (k + 1) / u < 170141183460469231731687303715884105728 := by
        have h1 : v / 2 ^ (k + 1) / u ≤ v / 2 ^ (k + 1) := Nat.div_le_self _ _
        have h2 : v / 2 ^ (k + 1) ≤ v / 2 ^ 1 := Nat.div_le_div_left (Nat.pow_le_pow_right (by omega) (by omega)) (by omega)
        unfold W128 at hlt; omega
      obtain ⟨q1, q2, q3, q4⟩ := by_quo hQ
      obtain ⟨s1, s2⟩ := by_rest (R := v / 2 ^ (k + 1) % u) (b := v / 2 ^ k % 2) (by omega) (by omega)
      have hb := by_bit (v / 2 ^ k)
      have hw64 : ∀ n : Int, IntKind.u64.wrap n = n % 18446744073709551616 := fun _ => rfl
      simp only [hV, e1, Int.toNat_natCast, hb, s1, s2, q1, q2, cast_fold, Int.ofNat_eq_natCast]
      generalize v / 2 ^ (k + 1) % u = R at *
      generalize v / 2 ^ (k + 1) / u = Q at *
      have hbit : v / 2 ^ k % 2 < 2 := Nat.mod_lt _ (by omega)
      clear s1 s2 hb q1 q2 hlt hbl hv hw h0 hQ p1
      generalize v / 2 ^ k % 2 = b at *
      refine ⟨fun g3 => ?_, fun g3 => ⟨fun g4 => ?_, fun g4 => ?_⟩⟩
      · have g3 := bneT g3
        have hge : u ≤ 2 * R + b := by omega
        rw [if_pos hge] at p2 p3
        refine ih (k - 1) (fun i => i) ⟨by omega, by omega⟩ (by omega) (by rfl) ⟨⟨rfl, hwi⟩, ⟨rfl, ?_⟩, impP_refl _, impP_refl _, impP_refl _, impP_refl _, trivial⟩ ⟨impP_refl _, impP_refl _, ⟨⟨rfl, ?_⟩, ⟨rfl, ?_⟩, rfl⟩, trivial⟩
        · show IntKind.u64.wrap _ = ((v / 2 ^ ((k : Int) - 1 + 1).toNat % u : Nat) : Int)
          rw [hw64, e2, p3]; omega
        · rw [e2, p2, q4]
        · rw [e2, p2, q3]
      · have g3 := bneF g3
        have g4 := of_decide_eq_true g4
        have hge : u ≤ 2 * R + b := by omega
        rw [if_pos hge] at p2 p3
        refine ih (k - 1) (fun i => i) ⟨by omega, by omega⟩ (by omega) (by rfl) ⟨⟨rfl, hwi⟩, ⟨rfl, ?_⟩, impP_refl _, impP_refl _, impP_refl _, impP_refl _, trivial⟩ ⟨impP_refl _, impP_refl _, ⟨⟨rfl, ?_⟩, ⟨rfl, ?_⟩, rfl⟩, trivial⟩
        · show IntKind.u64.wrap _ = ((v / 2 ^ ((k : Int) - 1 + 1).toNat % u : Nat) : Int)
          rw [hw64, e2, p3]; omega
        · rw [e2, p2, q4]
        · rw [e2, p2, q3]
      · have g3 := bneF g3
        have g4 := of_decide_eq_false g4
        have hge : ¬ u ≤ 2 * R + b := by omega
        rw [if_neg hge] at p2 p3
        refine ih (k - 1) (fun i => i) ⟨by omega, by omega⟩ (by omega) (by rfl) ⟨⟨rfl, hwi⟩, ⟨rfl, ?_⟩, impP_refl _, impP_refl _, impP_refl _, impP_refl _, trivial⟩ ⟨impP_refl _, impP_refl _, ⟨⟨rfl, ?_⟩, ⟨rfl, ?_⟩, rfl⟩, trivial⟩
        · dsimp only; rw [e2, p3]; omega
        · rw [e2, p2, Nat.add_zero]
        · rw [e2, p2, Nat.add_zero]
    · have g2 : ¬ 0 ≤ i := of_decide_eq_false g2
      obtain rfl : i = -1 := by omega
      refine ⟨rfl, ⟨⟨rfl, ?_⟩, ⟨rfl, ?_⟩, rfl⟩, ⟨rfl, ?_⟩, ?_, rfl⟩
      · simp
      · simp
      · rw [byR_nat v (by omega)]; simp
      · exact decide_eq_true (by omega)
  · refine ⟨⟨rfl, hw⟩, ⟨rfl, ?_⟩, impP_refl _, impP_refl _, impP_refl _, impP_refl _, trivial⟩
    rw [h0, Nat.zero_mod]; rfl
  · refine ⟨impP_refl _, impP_refl _, ⟨⟨rfl, ?_⟩, ⟨rfl, ?_⟩, rfl⟩, trivial⟩ <;> (rw [h0, Nat.zero_div]; rfl)
noncomputable def Fv5 : Table := addS 136 (.cons shWide (.cons (.int .u64) .nil)) (fun a b n => (.tuple (.cons (.agg (.cons (.int .u64 fun _ => wHi (wN (a ()) (b ()) / (n ()).toNat)) (.cons (.int .u64 fun _ => wLo (wN (a ()) (b ()) / (n ()).toNat)) .nil))) (.cons (.int .u64 fun _ => byR (wN (a ()) (b ())) (n ())) (.cons (.bool fun _ => decide (n () ≠ 0)) .nil))), [fun _ => okW (a ()) (b ()) ∧ 0 ≤ n () ∧ n () < 18446744073709551616])) Fv4
theorem Fv5_ok : TableOK Tryz.prog G0 Fv5 := addS_ok (⟨Tryz.func136, rfl, rfl, rfl, ⟨rfl, rfl⟩, ok _⟩ : FN 136 Tryz.f136).callable (fun a b n h => by_ok (a ()) (b ()) (n ()) h.1.1 h.1.2) Fv4_ok
def wtA (x : Nat × List UInt8) : Env := [(4, .int .i64 fun _ => 40 - (x.2.length : Int)), (3, .ptr 1 0), (2, .str fun _ => ⟨#[]⟩), (1, .ptr 0 0)]
def wtS (x : Nat × List UInt8) : Store := [(0, .var (.agg (.cons (.int .u64 fun _ => wHi (x.1)) (.cons (.int .u64 fun _ => wLo (x.1)) .nil)))), (1, .var (.arrI .u8 40 fun _ => List.replicate (40 - x.2.length) 0 ++ x.2.map fun c => (c.toNat : Int)))]
structure WI (v0 : Nat) (x : Nat × List UInt8) : Prop where
  all : leftT x.1 x.2 = Lib.decDigits v0
  few : x.1 * 10 ^ x.2.length ≤ v0
  ne : x.1 = 0 → x.2 ≠ []
theorem text_ok (a b : Int) (h : okW a b) : PF 137 (.cons (wP a b) .nil) (.str fun _ => toB (Lib.decDigits (wN a b))) := by
  refine (⟨Tryz.func137, rfl, rfl, rfl, ⟨rfl, rfl⟩, ok _⟩ : FN 137 Tryz.f137).tree (mkO_ok Fv5_ok) false 40 rfl ?_
  conv => arg 5; cbv
  have hlt := wN_lt h
  have hz := wN_zero h
  generalize hV : wN a b = v at *
  refine ⟨fun g => ?_, fun g => ?_⟩
  · have g : a = 0 ∧ b = 0 := by simpa using g
    have : v = 0 := hz.2 g
    subst this
    refine ⟨rfl, ?_⟩
    show (⟨#[48]⟩ : ByteArray) = _
    rw [Lib.decDigits_one (by omega)]; rfl
  have g : ¬ (a = 0 ∧ b = 0) := by simpa using g
  have hv0 : v ≠ 0 := fun hc => g (hz.1 hc)
  refine run_inv (ι := Nat × List UInt8) (fun x => x.1) (WI v) wtA wtS 2 (v, []) (fun i => i) (by rfl) (by rfl) ⟨leftT_start v, by show v * 1 ≤ v; omega, fun hc => absurd hc hv0⟩ ?_ ⟨impP_refl _, impP_refl _, impP_refl _, impP_refl _, trivial⟩ ⟨⟨⟨rfl, ?_⟩, ⟨rfl, ?_⟩, rfl⟩, ⟨rfl, rfl, rfl⟩, trivial⟩
  · intro x hx ih
    refine explore_ok (ok _) (mkO_ok Fv5_ok) (u := false) 1 _ rfl ?_
    conv => arg 5; cbv
    have hfew := hx.few
    have e10 : Int.toNat 10 = 10 := rfl
    have hx1 : x.1 ≤ v := by
      have : x.1 * 1 ≤ x.1 * 10 ^ x.2.length := Nat.mul_le_mul_left _ (Nat.pow_pos (by omega))
      omega
    have hlen : x.1 ≠ 0 → x.2.length < 40 := fun h0 => by
      have h1 : 1 * 10 ^ x.2.length ≤ x.1 * 10 ^ x.2.length := Nat.mul_le_mul_right _ (by omega)
      apply Classical.byContradiction
      intro hc
      have : 10 ^ 40 ≤ 10 ^ x.2.length := Nat.pow_le_pow_right (by omega) (by omega)
      unfold W128 at hlt
      omega
    refine ⟨fun g2 => ?_, fun g2 => ?_⟩
    · have g2 : x.1 ≠ 0 := fun hc => by rw [hc] at g2; cases g2
      have hl := hlen g2
      have hw : IntKind.i64.wrap (40 - (x.2.length : Int) - 1) = 39 - (x.2.length : Int) := by rw [IntWalk.i64_in _ ⟨by omega, by omega⟩]; omega
      have hr : 0 ≤ IntKind.i64.wrap (40 - (x.2.length : Int) - 1) ∧ IntKind.i64.wrap (40 - (x.2.length : Int) - 1) < ((40 : Nat) : Int) := by rw [hw]; omega
      refine explore_ok (ok _) (mkO_ok Fv5_ok) (u := false) 20 _ rfl ?_
      conv => arg 5; cbv
      simp only [wN_of, e10]
      have hd : x.1 % 10 < 10 := Nat.mod_lt _ (by omega)
      have h8 : IntKind.u8.wrap (48 + IntKind.u8.wrap ((x.1 % 10 : Nat) : Int)) = ((UInt8.ofNat (48 + x.1 % 10)).toNat : Int) := by
        rw [IntWalk.u8_in ((x.1 % 10 : Nat) : Int) ⟨by omega, by omega⟩, IntWalk.u8_in _ ⟨by omega, by omega⟩, UInt8.toNat_ofNat']; omega
      have hno : ¬ (x.1 = 0 ∧ x.2 ≠ []) := fun hc => g2 hc.1
      refine ⟨⟨⟨okW_of (by omega), by decide⟩, hr, hr, trivial⟩, ih (x.1 / 10, UInt8.ofNat (48 + x.1 % 10) :: x.2) (fun i => i) ⟨?_, ?_, fun _ => by simp⟩ (by show x.1 / 10 < x.1; omega) (by rfl) ⟨⟨rfl, ?_⟩, impP_refl _, impP_refl _, impP_refl _, trivial⟩ ⟨impP_refl _, ⟨rfl, rfl, ?_⟩, trivial⟩⟩
      · show leftT (x.1 / 10) (UInt8.ofNat (48 + x.1 % 10) :: x.2) = _
        rw [leftT_step _ _ hno, hx.all]
      · show x.1 / 10 * 10 ^ (x.2.length + 1) ≤ v
        have : x.1 / 10 * 10 ≤ x.1 := Nat.div_mul_le_self _ _
        calc x.1 / 10 * 10 ^ (x.2.length + 1) = x.1 / 10 * 10 * 10 ^ x.2.length := by rw [Nat.pow_succ, Nat.mul_assoc, Nat.mul_comm (10 ^ x.2.length) 10]
          _ ≤ x.1 * 10 ^ x.2.length := Nat.mul_le_mul_right _ this
          _ ≤ v := hfew
      · show IntKind.i64.wrap (40 - (x.2.length : Int) - 1) = 40 - (((x.2.length + 1 : Nat)) : Int)
        rw [hw]; omega
      · show (List.replicate (40 - x.2.length) 0 ++ List.map (fun c : UInt8 => (c.toNat : Int)) x.2).set (IntKind.i64.wrap (40 - (x.2.length : Int) - 1)).toNat (IntKind.u8.wrap (48 + IntKind.u8.wrap (byR x.1 10))) = List.replicate (40 - (x.2.length + 1)) 0 ++ ((UInt8.ofNat (48 + x.1 % 10)).toNat : Int) :: List.map (fun c : UInt8 => (c.toNat : Int)) x.2
        rw [byR_ten, h8, hw, show (39 - (x.2.length : Int)).toNat = 39 - x.2.length by omega, show 40 - x.2.length = (40 - (x.2.length + 1)) + 1 by omega, List.replicate_succ', List.append_assoc, show 39 - x.2.length = (List.replicate (40 - (x.2.length + 1)) (0 : Int)).length by rw [List.length_replicate]; omega, List.set_append_right _ _ (Nat.le_refl _), Nat.sub_self]
        rfl
    · have g2 : x.1 = 0 := Classical.byContradiction fun hc => by
        have : wHi x.1 = 0 ∧ wLo x.1 = 0 := by simpa using g2
        have h2 := wN_of x.1
        rw [this.1, this.2] at h2
        exact hc h2.symm
      have hall := hx.all
      rw [leftT_end _ _ ⟨g2, hx.ne g2⟩] at hall
      have hl : x.2.length ≤ 40 := by
        rw [hall]
        exact dec_len (by unfold W128 at hlt; omega) (by omega)
      refine Go.Abs.run_freeze 1 (.arrI .u8 40 fun _ => List.replicate (40 - x.2.length) 0 ++ x.2.map fun c => (c.toNat : Int)) (by rfl) (by rfl) (by rfl) ?_
      refine explore_ok (ok _) (mkO_ok Fv5_ok) (u := false) 20 _ rfl ?_
      conv => arg 5; cbv
      refine ⟨⟨⟨(by (try dsimp only); (try simp only [cast_fold, Int.ofNat_eq_natCast]); omega), (by (try dsimp only); (try simp only [cast_fold, Int.ofNat_eq_natCast]); omega), by decide, by decide⟩, fun j => rfl, trivial⟩, rfl, ?_⟩
      have e : rdL rd8 (fun _ => 40 - (40 - (x.2.length : Int))) (fun q => PV.int .u8 fun _ => (List.replicate (40 - x.2.length) 0 ++ List.map (fun c : UInt8 => (c.toNat : Int)) x.2).getD (40 - (x.2.length : Int) + q ()).toNat 0) = x.2.map fun c : UInt8 => (c.toNat : Int) := by
        refine rdL_ext rd8 _ _ _ (by rw [List.length_map]; omega) fun i hi => ?_
        have hi' : i < x.2.length := by simpa using hi
        show (List.replicate (40 - x.2.length) 0 ++ List.map (fun c : UInt8 => (c.toNat : Int)) x.2).getD (40 - (x.2.length : Int) + (i : Int)).toNat 0 = _
        rw [List.getD_eq_getElem?_getD, List.getElem?_append_right (by rw [List.length_replicate]; omega), List.length_replicate, show (40 - (x.2.length : Int) + (i : Int)).toNat - (40 - x.2.length) = i by omega, List.getElem?_eq_getElem hi]
        rfl
      show bytesOf (rdL rd8 (fun _ => 40 - (40 - (x.2.length : Int))) (fun q => PV.int .u8 fun _ => (List.replicate (40 - x.2.length) 0 ++ List.map (fun c : UInt8 => (c.toNat : Int)) x.2).getD (40 - (x.2.length : Int) + q ()).toNat 0)) = toB (Lib.decDigits v)
      rw [e, bytesOf_map, hall]
  · rw [← hV]; exact (wHi_wN h).symm
  · rw [← hV]; exact (wLo_wN h).symm
noncomputable def Fv6 : Table := addS 137 (.cons shWide .nil) (fun a b => (.str fun _ => toB (Lib.decDigits (wN (a ()) (b ()))), [fun _ => okW (a ()) (b ())])) Fv5
theorem Fv6_ok : TableOK Tryz.prog G0 Fv6 := addS_ok (⟨Tryz.func137, rfl, rfl, rfl, ⟨rfl, rfl⟩, ok _⟩ : FN 137 Tryz.f137).callable (fun a b h => text_ok (a ()) (b ()) h.1) Fv5_ok
theorem of_ok (u : Int) : PF 139 (.cons (u64 u) .nil) (.agg (.cons (.int .u64 fun _ => 0) (.cons (.int .u64 fun _ => u) .nil))) := by
  refine (⟨Tryz.func139, rfl, rfl, rfl, ⟨rfl, rfl⟩, ok _⟩ : FN 139 Tryz.f139).tree (mkO_ok F0_ok) false 40 rfl ?_
  conv => arg 5; cbv
  exact ⟨rfl, ⟨rfl, rfl⟩, ⟨rfl, rfl⟩, rfl⟩
theorem uint_ok (a b : Int) : PF 138 (.cons (wP a b) .nil) (.tuple (.cons (.int .u64 fun _ => if a = 0 then b else 0) (.cons (.bool fun _ => decide (a = 0)) .nil))) := by
  refine (⟨Tryz.func138, rfl, rfl, rfl, ⟨rfl, rfl⟩, ok _⟩ : FN 138 Tryz.f138).tree (mkO_ok F0_ok) false 40 rfl ?_
  conv => arg 5; cbv
  refine ⟨fun h => ⟨rfl, ⟨rfl, (if_neg (bneT h)).symm⟩, decide_eq_false (bneT h), rfl⟩, fun h => ⟨rfl, ⟨rfl, (if_pos (bneF h)).symm⟩, decide_eq_true (bneF h), rfl⟩⟩
noncomputable def Fw : Table := addS 139 (.cons (.int .u64) .nil) (fun u => (.agg (.cons (.int .u64 fun _ => 0) (.cons (.int .u64 u) .nil)), [])) (addS 138 (.cons shWide .nil) (fun a b => (.tuple (.cons (.int .u64 fun _ => if a () = 0 then b () else 0) (.cons (.bool fun _ => decide (a () = 0)) .nil)), [])) Fv6)
theorem Fw_ok : TableOK Tryz.prog G0 Fw := addS_ok (⟨Tryz.func139, rfl, rfl, rfl, ⟨rfl, rfl⟩, ok _⟩ : FN 139 Tryz.f139).callable (fun u _ => of_ok (u ())) (addS_ok (⟨Tryz.func138, rfl, rfl, rfl, ⟨rfl, rfl⟩, ok _⟩ : FN 138 Tryz.f138).callable (fun a b _ => uint_ok (a ()) (b ())) Fv6_ok)
end Go.Proofs.YtpbjcabecalpaaaGreatDoor
