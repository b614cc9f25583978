import Derived.Test.YtdikfhjpnfffnacDoorProg
import Derived.Test.YtdikfhjpnfffnacDoorGb
import Derived.KernelRfl
set_option maxRecDepth 2000
set_option linter.unusedVariables false
set_option linter.unusedSimpArgs false
namespace Go.Proofs.YtdikfhjpnfffnacDoor
open Go Go.Abs Go.Proofs
set_option maxRecDepth 20000
namespace TyTab
def i1 : TI := ⟨.func, 1, 8, .nilf⟩
theorem ok1 : TOK Tryd.prog 1 i1 := tok Tryd.types_size.symm Tryd.type1 Tryd.underlying1 (by rfl) (fun h => by cases h)
def i2 : TI := ⟨.int .i64, 1, 8, (.int .i64 fun _ => 0)⟩
theorem ok2 : TOK Tryd.prog 2 i2 := tok Tryd.types_size.symm Tryd.type2 Tryd.underlying2 (by rfl) (fun h => by cases h)
def i3 : TI := ⟨.int .i64, 1, 8, (.int .i64 fun _ => 0)⟩
theorem ok3 : TOK Tryd.prog 3 i3 := tok Tryd.types_size.symm Tryd.type3 Tryd.underlying3 (by rfl) (fun h => by cases h)
def i4 : TI := ⟨.bool, 1, 1, .ff⟩
theorem ok4 : TOK Tryd.prog 4 i4 := tok Tryd.types_size.symm Tryd.type4 Tryd.underlying4 (by rfl) (fun h => by cases h)
def i5 : TI := ⟨.int .u8, 1, 1, (.int .u8 fun _ => 0)⟩
theorem ok5 : TOK Tryd.prog 5 i5 := tok Tryd.types_size.symm Tryd.type5 Tryd.underlying5 (by rfl) (fun h => by cases h)
def i6 : TI := ⟨.int .u8, 1, 1, (.int .u8 fun _ => 0)⟩
theorem ok6 : TOK Tryd.prog 6 i6 := tok Tryd.types_size.symm Tryd.type6 Tryd.underlying6 (by rfl) (fun h => by cases h)
def i7 : TI := ⟨.struct [(0, 2), (1, 3), (2, 4), (3, 6)], 4, 24, (.agg (.cons (.int .i64 fun _ => 0) (.cons (.int .i64 fun _ => 0) (.cons .ff (.cons (.int .u8 fun _ => 0) .nil)))))⟩
theorem ok7 : TOK Tryd.prog 7 i7 := tok Tryd.types_size.symm Tryd.type7 Tryd.underlying7 (by rfl) (fun _ => ⟨by kernel_rfl, by kernel_rfl⟩)
def i8 : TI := ⟨.struct [(0, 2), (1, 3), (2, 4), (3, 6)], 4, 24, (.agg (.cons (.int .i64 fun _ => 0) (.cons (.int .i64 fun _ => 0) (.cons .ff (.cons (.int .u8 fun _ => 0) .nil)))))⟩
theorem ok8 : TOK Tryd.prog 8 i8 := tok Tryd.types_size.symm Tryd.type8 Tryd.underlying8 (by rfl) (fun _ => ⟨by kernel_rfl, by kernel_rfl⟩)
def i9 : TI := ⟨.str, 1, 16, (.str fun _ => ByteArray.empty)⟩
theorem ok9 : TOK Tryd.prog 9 i9 := tok Tryd.types_size.symm Tryd.type9 Tryd.underlying9 (by rfl) (fun h => by cases h)
def i10 : TI := ⟨.str, 1, 16, (.str fun _ => ByteArray.empty)⟩
theorem ok10 : TOK Tryd.prog 10 i10 := tok Tryd.types_size.symm Tryd.type10 Tryd.underlying10 (by rfl) (fun h => by cases h)
def i11 : TI := ⟨.str, 1, 16, (.str fun _ => ByteArray.empty)⟩
theorem ok11 : TOK Tryd.prog 11 i11 := tok Tryd.types_size.symm Tryd.type11 Tryd.underlying11 (by rfl) (fun h => by cases h)
def i12 : TI := ⟨.int .u64, 1, 8, (.int .u64 fun _ => 0)⟩
theorem ok12 : TOK Tryd.prog 12 i12 := tok Tryd.types_size.symm Tryd.type12 Tryd.underlying12 (by rfl) (fun h => by cases h)
def i15 : TI := ⟨.ptr 133, 1, 8, .nilp⟩
theorem ok15 : TOK Tryd.prog 15 i15 := tok Tryd.types_size.symm Tryd.type15 Tryd.underlying15 (by rfl) (fun h => by cases h)
def i16 : TI := ⟨.ptr 136, 1, 8, .nilp⟩
theorem ok16 : TOK Tryd.prog 16 i16 := tok Tryd.types_size.symm Tryd.type16 Tryd.underlying16 (by rfl) (fun h => by cases h)
def i17 : TI := ⟨.ptr 144, 1, 8, .nilp⟩
theorem ok17 : TOK Tryd.prog 17 i17 := tok Tryd.types_size.symm Tryd.type17 Tryd.underlying17 (by rfl) (fun h => by cases h)
def i20 : TI := ⟨.iface, 1, 16, .nili⟩
theorem ok20 : TOK Tryd.prog 20 i20 := tok Tryd.types_size.symm Tryd.type20 Tryd.underlying20 (by rfl) (fun h => by cases h)
def i21 : TI := ⟨.int .i32, 1, 4, (.int .i32 fun _ => 0)⟩
theorem ok21 : TOK Tryd.prog 21 i21 := tok Tryd.types_size.symm Tryd.type21 Tryd.underlying21 (by rfl) (fun h => by cases h)
def i22 : TI := ⟨.struct [(0, 3), (1, 3), (2, 3)], 3, 24, (.agg (.cons (.int .i64 fun _ => 0) (.cons (.int .i64 fun _ => 0) (.cons (.int .i64 fun _ => 0) .nil))))⟩
theorem ok22 : TOK Tryd.prog 22 i22 := tok Tryd.types_size.symm Tryd.type22 Tryd.underlying22 (by rfl) (fun _ => ⟨by kernel_rfl, by kernel_rfl⟩)
def i23 : TI := ⟨.struct [(0, 3), (1, 3), (2, 3)], 3, 24, (.agg (.cons (.int .i64 fun _ => 0) (.cons (.int .i64 fun _ => 0) (.cons (.int .i64 fun _ => 0) .nil))))⟩
theorem ok23 : TOK Tryd.prog 23 i23 := tok Tryd.types_size.symm Tryd.type23 Tryd.underlying23 (by rfl) (fun _ => ⟨by kernel_rfl, by kernel_rfl⟩)
def i24 : TI := ⟨.func, 1, 8, .nilf⟩
theorem ok24 : TOK Tryd.prog 24 i24 := tok Tryd.types_size.symm Tryd.type24 Tryd.underlying24 (by rfl) (fun h => by cases h)
def i26 : TI := ⟨.func, 1, 8, .nilf⟩
theorem ok26 : TOK Tryd.prog 26 i26 := tok Tryd.types_size.symm Tryd.type26 Tryd.underlying26 (by rfl) (fun h => by cases h)
def i27 : TI := ⟨.func, 1, 8, .nilf⟩
theorem ok27 : TOK Tryd.prog 27 i27 := tok Tryd.types_size.symm Tryd.type27 Tryd.underlying27 (by rfl) (fun h => by cases h)
def i28 : TI := ⟨.func, 1, 8, .nilf⟩
theorem ok28 : TOK Tryd.prog 28 i28 := tok Tryd.types_size.symm Tryd.type28 Tryd.underlying28 (by rfl) (fun h => by cases h)
def i29 : TI := ⟨.int .i64, 1, 8, (.int .i64 fun _ => 0)⟩
theorem ok29 : TOK Tryd.prog 29 i29 := tok Tryd.types_size.symm Tryd.type29 Tryd.underlying29 (by rfl) (fun h => by cases h)
def i31 : TI := ⟨.func, 1, 8, .nilf⟩
theorem ok31 : TOK Tryd.prog 31 i31 := tok Tryd.types_size.symm Tryd.type31 Tryd.underlying31 (by rfl) (fun h => by cases h)
def i32 : TI := ⟨.func, 1, 8, .nilf⟩
theorem ok32 : TOK Tryd.prog 32 i32 := tok Tryd.types_size.symm Tryd.type32 Tryd.underlying32 (by rfl) (fun h => by cases h)
def i33 : TI := ⟨.arr 3 4, 3, 3, (.arrB 3 fun _ => List.replicate 3 false)⟩
theorem ok33 : TOK Tryd.prog 33 i33 := tok Tryd.types_size.symm Tryd.type33 Tryd.underlying33 (by rfl) (fun _ => ⟨by kernel_rfl, by kernel_rfl⟩)
def i34 : TI := ⟨.func, 1, 8, .nilf⟩
theorem ok34 : TOK Tryd.prog 34 i34 := tok Tryd.types_size.symm Tryd.type34 Tryd.underlying34 (by rfl) (fun h => by cases h)
def i35 : TI := ⟨.func, 1, 8, .nilf⟩
theorem ok35 : TOK Tryd.prog 35 i35 := tok Tryd.types_size.symm Tryd.type35 Tryd.underlying35 (by rfl) (fun h => by cases h)
def i36 : TI := ⟨.func, 1, 8, .nilf⟩
theorem ok36 : TOK Tryd.prog 36 i36 := tok Tryd.types_size.symm Tryd.type36 Tryd.underlying36 (by rfl) (fun h => by cases h)
def i37 : TI := ⟨.func, 1, 8, .nilf⟩
theorem ok37 : TOK Tryd.prog 37 i37 := tok Tryd.types_size.symm Tryd.type37 Tryd.underlying37 (by rfl) (fun h => by cases h)
def i38 : TI := ⟨.func, 1, 8, .nilf⟩
theorem ok38 : TOK Tryd.prog 38 i38 := tok Tryd.types_size.symm Tryd.type38 Tryd.underlying38 (by rfl) (fun h => by cases h)
def i39 : TI := ⟨.slice 23, 1, 24, .nils⟩
theorem ok39 : TOK Tryd.prog 39 i39 := tok Tryd.types_size.symm Tryd.type39 Tryd.underlying39 (by rfl) (fun h => by cases h)
def i40 : TI := ⟨.func, 1, 8, .nilf⟩
theorem ok40 : TOK Tryd.prog 40 i40 := tok Tryd.types_size.symm Tryd.type40 Tryd.underlying40 (by rfl) (fun h => by cases h)
def i41 : TI := ⟨.func, 1, 8, .nilf⟩
theorem ok41 : TOK Tryd.prog 41 i41 := tok Tryd.types_size.symm Tryd.type41 Tryd.underlying41 (by rfl) (fun h => by cases h)
def i42 : TI := ⟨.func, 1, 8, .nilf⟩
theorem ok42 : TOK Tryd.prog 42 i42 := tok Tryd.types_size.symm Tryd.type42 Tryd.underlying42 (by rfl) (fun h => by cases h)
def i43 : TI := ⟨.func, 1, 8, .nilf⟩
theorem ok43 : TOK Tryd.prog 43 i43 := tok Tryd.types_size.symm Tryd.type43 Tryd.underlying43 (by rfl) (fun h => by cases h)
def i44 : TI := ⟨.func, 1, 8, .nilf⟩
theorem ok44 : TOK Tryd.prog 44 i44 := tok Tryd.types_size.symm Tryd.type44 Tryd.underlying44 (by rfl) (fun h => by cases h)
def i45 : TI := ⟨.arr 3 3, 3, 24, (.arrI .i64 3 fun _ => List.replicate 3 0)⟩
theorem ok45 : TOK Tryd.prog 45 i45 := tok Tryd.types_size.symm Tryd.type45 Tryd.underlying45 (by rfl) (fun _ => ⟨by kernel_rfl, by kernel_rfl⟩)
def i46 : TI := ⟨.func, 1, 8, .nilf⟩
theorem ok46 : TOK Tryd.prog 46 i46 := tok Tryd.types_size.symm Tryd.type46 Tryd.underlying46 (by rfl) (fun h => by cases h)
def i47 : TI := ⟨.func, 1, 8, .nilf⟩
theorem ok47 : TOK Tryd.prog 47 i47 := tok Tryd.types_size.symm Tryd.type47 Tryd.underlying47 (by rfl) (fun h => by cases h)
def i48 : TI := ⟨.slice 9, 1, 24, .nils⟩
theorem ok48 : TOK Tryd.prog 48 i48 := tok Tryd.types_size.symm Tryd.type48 Tryd.underlying48 (by rfl) (fun h => by cases h)
def i49 : TI := ⟨.func, 1, 8, .nilf⟩
theorem ok49 : TOK Tryd.prog 49 i49 := tok Tryd.types_size.symm Tryd.type49 Tryd.underlying49 (by rfl) (fun h => by cases h)
def i51 : TI := ⟨.func, 1, 8, .nilf⟩
theorem ok51 : TOK Tryd.prog 51 i51 := tok Tryd.types_size.symm Tryd.type51 Tryd.underlying51 (by rfl) (fun h => by cases h)
def i53 : TI := ⟨.func, 1, 8, .nilf⟩
theorem ok53 : TOK Tryd.prog 53 i53 := tok Tryd.types_size.symm Tryd.type53 Tryd.underlying53 (by rfl) (fun h => by cases h)
def i55 : TI := ⟨.func, 1, 8, .nilf⟩
theorem ok55 : TOK Tryd.prog 55 i55 := tok Tryd.types_size.symm Tryd.type55 Tryd.underlying55 (by rfl) (fun h => by cases h)
def i56 : TI := ⟨.arr 3 9, 3, 48, (.arrS 3 fun _ => List.replicate 3 ByteArray.empty)⟩
theorem ok56 : TOK Tryd.prog 56 i56 := tok Tryd.types_size.symm Tryd.type56 Tryd.underlying56 (by rfl) (fun _ => ⟨by kernel_rfl, by kernel_rfl⟩)
def i57 : TI := ⟨.func, 1, 8, .nilf⟩
theorem ok57 : TOK Tryd.prog 57 i57 := tok Tryd.types_size.symm Tryd.type57 Tryd.underlying57 (by rfl) (fun h => by cases h)
def i58 : TI := ⟨.func, 1, 8, .nilf⟩
theorem ok58 : TOK Tryd.prog 58 i58 := tok Tryd.types_size.symm Tryd.type58 Tryd.underlying58 (by rfl) (fun h => by cases h)
def i59 : TI := ⟨.func, 1, 8, .nilf⟩
theorem ok59 : TOK Tryd.prog 59 i59 := tok Tryd.types_size.symm Tryd.type59 Tryd.underlying59 (by rfl) (fun h => by cases h)
def i60 : TI := ⟨.func, 1, 8, .nilf⟩
theorem ok60 : TOK Tryd.prog 60 i60 := tok Tryd.types_size.symm Tryd.type60 Tryd.underlying60 (by rfl) (fun h => by cases h)
def i61 : TI := ⟨.int .u64, 1, 8, (.int .u64 fun _ => 0)⟩
theorem ok61 : TOK Tryd.prog 61 i61 := tok Tryd.types_size.symm Tryd.type61 Tryd.underlying61 (by rfl) (fun h => by cases h)
def i62 : TI := ⟨.func, 1, 8, .nilf⟩
theorem ok62 : TOK Tryd.prog 62 i62 := tok Tryd.types_size.symm Tryd.type62 Tryd.underlying62 (by rfl) (fun h => by cases h)
def i63 : TI := ⟨.struct [(0, 61), (1, 61)], 2, 16, (.agg (.cons (.int .u64 fun _ => 0) (.cons (.int .u64 fun _ => 0) .nil)))⟩
theorem ok63 : TOK Tryd.prog 63 i63 := tok Tryd.types_size.symm Tryd.type63 Tryd.underlying63 (by rfl) (fun _ => ⟨by kernel_rfl, by kernel_rfl⟩)
def i64 : TI := ⟨.struct [(0, 61), (1, 61)], 2, 16, (.agg (.cons (.int .u64 fun _ => 0) (.cons (.int .u64 fun _ => 0) .nil)))⟩
theorem ok64 : TOK Tryd.prog 64 i64 := tok Tryd.types_size.symm Tryd.type64 Tryd.underlying64 (by rfl) (fun _ => ⟨by kernel_rfl, by kernel_rfl⟩)
def i66 : TI := ⟨.func, 1, 8, .nilf⟩
theorem ok66 : TOK Tryd.prog 66 i66 := tok Tryd.types_size.symm Tryd.type66 Tryd.underlying66 (by rfl) (fun h => by cases h)
def i67 : TI := ⟨.func, 1, 8, .nilf⟩
theorem ok67 : TOK Tryd.prog 67 i67 := tok Tryd.types_size.symm Tryd.type67 Tryd.underlying67 (by rfl) (fun h => by cases h)
def i69 : TI := ⟨.func, 1, 8, .nilf⟩
theorem ok69 : TOK Tryd.prog 69 i69 := tok Tryd.types_size.symm Tryd.type69 Tryd.underlying69 (by rfl) (fun h => by cases h)
def i70 : TI := ⟨.func, 1, 8, .nilf⟩
theorem ok70 : TOK Tryd.prog 70 i70 := tok Tryd.types_size.symm Tryd.type70 Tryd.underlying70 (by rfl) (fun h => by cases h)
def i71 : TI := ⟨.func, 1, 8, .nilf⟩
theorem ok71 : TOK Tryd.prog 71 i71 := tok Tryd.types_size.symm Tryd.type71 Tryd.underlying71 (by rfl) (fun h => by cases h)
def i72 : TI := ⟨.ptr 75, 1, 8, .nilp⟩
theorem ok72 : TOK Tryd.prog 72 i72 := tok Tryd.types_size.symm Tryd.type72 Tryd.underlying72 (by rfl) (fun h => by cases h)
def i73 : TI := ⟨.slice 5, 1, 24, .nils⟩
theorem ok73 : TOK Tryd.prog 73 i73 := tok Tryd.types_size.symm Tryd.type73 Tryd.underlying73 (by rfl) (fun h => by cases h)
def i74 : TI := ⟨.struct [(0, 72), (1, 73)], 2, 32, (.agg (.cons .nilp (.cons .nils .nil)))⟩
theorem ok74 : TOK Tryd.prog 74 i74 := tok Tryd.types_size.symm Tryd.type74 Tryd.underlying74 (by rfl) (fun _ => ⟨by kernel_rfl, by kernel_rfl⟩)
def i75 : TI := ⟨.struct [(0, 72), (1, 73)], 2, 32, (.agg (.cons .nilp (.cons .nils .nil)))⟩
theorem ok75 : TOK Tryd.prog 75 i75 := tok Tryd.types_size.symm Tryd.type75 Tryd.underlying75 (by rfl) (fun _ => ⟨by kernel_rfl, by kernel_rfl⟩)
def i76 : TI := ⟨.func, 1, 8, .nilf⟩
theorem ok76 : TOK Tryd.prog 76 i76 := tok Tryd.types_size.symm Tryd.type76 Tryd.underlying76 (by rfl) (fun h => by cases h)
def i77 : TI := ⟨.iface, 1, 16, .nili⟩
theorem ok77 : TOK Tryd.prog 77 i77 := tok Tryd.types_size.symm Tryd.type77 Tryd.underlying77 (by rfl) (fun h => by cases h)
def i78 : TI := ⟨.iface, 1, 16, .nili⟩
theorem ok78 : TOK Tryd.prog 78 i78 := tok Tryd.types_size.symm Tryd.type78 Tryd.underlying78 (by rfl) (fun h => by cases h)
def i80 : TI := ⟨.func, 1, 8, .nilf⟩
theorem ok80 : TOK Tryd.prog 80 i80 := tok Tryd.types_size.symm Tryd.type80 Tryd.underlying80 (by rfl) (fun h => by cases h)
def i81 : TI := ⟨.func, 1, 8, .nilf⟩
theorem ok81 : TOK Tryd.prog 81 i81 := tok Tryd.types_size.symm Tryd.type81 Tryd.underlying81 (by rfl) (fun h => by cases h)
def i82 : TI := ⟨.func, 1, 8, .nilf⟩
theorem ok82 : TOK Tryd.prog 82 i82 := tok Tryd.types_size.symm Tryd.type82 Tryd.underlying82 (by rfl) (fun h => by cases h)
def i83 : TI := ⟨.func, 1, 8, .nilf⟩
theorem ok83 : TOK Tryd.prog 83 i83 := tok Tryd.types_size.symm Tryd.type83 Tryd.underlying83 (by rfl) (fun h => by cases h)
def i85 : TI := ⟨.func, 1, 8, .nilf⟩
theorem ok85 : TOK Tryd.prog 85 i85 := tok Tryd.types_size.symm Tryd.type85 Tryd.underlying85 (by rfl) (fun h => by cases h)
def i86 : TI := ⟨.func, 1, 8, .nilf⟩
theorem ok86 : TOK Tryd.prog 86 i86 := tok Tryd.types_size.symm Tryd.type86 Tryd.underlying86 (by rfl) (fun h => by cases h)
def i87 : TI := ⟨.struct [(0, 9), (1, 3), (2, 3)], 3, 32, (.agg (.cons (.str fun _ => ByteArray.empty) (.cons (.int .i64 fun _ => 0) (.cons (.int .i64 fun _ => 0) .nil))))⟩
theorem ok87 : TOK Tryd.prog 87 i87 := tok Tryd.types_size.symm Tryd.type87 Tryd.underlying87 (by rfl) (fun _ => ⟨by kernel_rfl, by kernel_rfl⟩)
def i88 : TI := ⟨.struct [(0, 9), (1, 3), (2, 3)], 3, 32, (.agg (.cons (.str fun _ => ByteArray.empty) (.cons (.int .i64 fun _ => 0) (.cons (.int .i64 fun _ => 0) .nil))))⟩
theorem ok88 : TOK Tryd.prog 88 i88 := tok Tryd.types_size.symm Tryd.type88 Tryd.underlying88 (by rfl) (fun _ => ⟨by kernel_rfl, by kernel_rfl⟩)
def i90 : TI := ⟨.func, 1, 8, .nilf⟩
theorem ok90 : TOK Tryd.prog 90 i90 := tok Tryd.types_size.symm Tryd.type90 Tryd.underlying90 (by rfl) (fun h => by cases h)
def i92 : TI := ⟨.func, 1, 8, .nilf⟩
theorem ok92 : TOK Tryd.prog 92 i92 := tok Tryd.types_size.symm Tryd.type92 Tryd.underlying92 (by rfl) (fun h => by cases h)
def i93 : TI := ⟨.func, 1, 8, .nilf⟩
theorem ok93 : TOK Tryd.prog 93 i93 := tok Tryd.types_size.symm Tryd.type93 Tryd.underlying93 (by rfl) (fun h => by cases h)
def i94 : TI := ⟨.func, 1, 8, .nilf⟩
theorem ok94 : TOK Tryd.prog 94 i94 := tok Tryd.types_size.symm Tryd.type94 Tryd.underlying94 (by rfl) (fun h => by cases h)
def i95 : TI := ⟨.func, 1, 8, .nilf⟩
theorem ok95 : TOK Tryd.prog 95 i95 := tok Tryd.types_size.symm Tryd.type95 Tryd.underlying95 (by rfl) (fun h => by cases h)
def i96 : TI := ⟨.func, 1, 8, .nilf⟩
theorem ok96 : TOK Tryd.prog 96 i96 := tok Tryd.types_size.symm Tryd.type96 Tryd.underlying96 (by rfl) (fun h => by cases h)
def i97 : TI := ⟨.func, 1, 8, .nilf⟩
theorem ok97 : TOK Tryd.prog 97 i97 := tok Tryd.types_size.symm Tryd.type97 Tryd.underlying97 (by rfl) (fun h => by cases h)
def i98 : TI := ⟨.func, 1, 8, .nilf⟩
theorem ok98 : TOK Tryd.prog 98 i98 := tok Tryd.types_size.symm Tryd.type98 Tryd.underlying98 (by rfl) (fun h => by cases h)
def i99 : TI := ⟨.func, 1, 8, .nilf⟩
theorem ok99 : TOK Tryd.prog 99 i99 := tok Tryd.types_size.symm Tryd.type99 Tryd.underlying99 (by rfl) (fun h => by cases h)
def i101 : TI := ⟨.func, 1, 8, .nilf⟩
theorem ok101 : TOK Tryd.prog 101 i101 := tok Tryd.types_size.symm Tryd.type101 Tryd.underlying101 (by rfl) (fun h => by cases h)
def i103 : TI := ⟨.func, 1, 8, .nilf⟩
theorem ok103 : TOK Tryd.prog 103 i103 := tok Tryd.types_size.symm Tryd.type103 Tryd.underlying103 (by rfl) (fun h => by cases h)
def i104 : TI := ⟨.int .u64, 1, 8, (.int .u64 fun _ => 0)⟩
theorem ok104 : TOK Tryd.prog 104 i104 := tok Tryd.types_size.symm Tryd.type104 Tryd.underlying104 (by rfl) (fun h => by cases h)
def i105 : TI := ⟨.ptr 5, 1, 8, .nilp⟩
theorem ok105 : TOK Tryd.prog 105 i105 := tok Tryd.types_size.symm Tryd.type105 Tryd.underlying105 (by rfl) (fun h => by cases h)
def i106 : TI := ⟨.func, 1, 8, .nilf⟩
theorem ok106 : TOK Tryd.prog 106 i106 := tok Tryd.types_size.symm Tryd.type106 Tryd.underlying106 (by rfl) (fun h => by cases h)
def i108 : TI := ⟨.func, 1, 8, .nilf⟩
theorem ok108 : TOK Tryd.prog 108 i108 := tok Tryd.types_size.symm Tryd.type108 Tryd.underlying108 (by rfl) (fun h => by cases h)
def i109 : TI := ⟨.func, 1, 8, .nilf⟩
theorem ok109 : TOK Tryd.prog 109 i109 := tok Tryd.types_size.symm Tryd.type109 Tryd.underlying109 (by rfl) (fun h => by cases h)
def i110 : TI := ⟨.func, 1, 8, .nilf⟩
theorem ok110 : TOK Tryd.prog 110 i110 := tok Tryd.types_size.symm Tryd.type110 Tryd.underlying110 (by rfl) (fun h => by cases h)
def i111 : TI := ⟨.slice 88, 1, 24, .nils⟩
theorem ok111 : TOK Tryd.prog 111 i111 := tok Tryd.types_size.symm Tryd.type111 Tryd.underlying111 (by rfl) (fun h => by cases h)
def i112 : TI := ⟨.func, 1, 8, .nilf⟩
theorem ok112 : TOK Tryd.prog 112 i112 := tok Tryd.types_size.symm Tryd.type112 Tryd.underlying112 (by rfl) (fun h => by cases h)
def i113 : TI := ⟨.func, 1, 8, .nilf⟩
theorem ok113 : TOK Tryd.prog 113 i113 := tok Tryd.types_size.symm Tryd.type113 Tryd.underlying113 (by rfl) (fun h => by cases h)
def i114 : TI := ⟨.func, 1, 8, .nilf⟩
theorem ok114 : TOK Tryd.prog 114 i114 := tok Tryd.types_size.symm Tryd.type114 Tryd.underlying114 (by rfl) (fun h => by cases h)
def i115 : TI := ⟨.func, 1, 8, .nilf⟩
theorem ok115 : TOK Tryd.prog 115 i115 := tok Tryd.types_size.symm Tryd.type115 Tryd.underlying115 (by rfl) (fun h => by cases h)
def i116 : TI := ⟨.func, 1, 8, .nilf⟩
theorem ok116 : TOK Tryd.prog 116 i116 := tok Tryd.types_size.symm Tryd.type116 Tryd.underlying116 (by rfl) (fun h => by cases h)
def i117 : TI := ⟨.func, 1, 8, .nilf⟩
theorem ok117 : TOK Tryd.prog 117 i117 := tok Tryd.types_size.symm Tryd.type117 Tryd.underlying117 (by rfl) (fun h => by cases h)
def i118 : TI := ⟨.func, 1, 8, .nilf⟩
theorem ok118 : TOK Tryd.prog 118 i118 := tok Tryd.types_size.symm Tryd.type118 Tryd.underlying118 (by rfl) (fun h => by cases h)
def i119 : TI := ⟨.func, 1, 8, .nilf⟩
theorem ok119 : TOK Tryd.prog 119 i119 := tok Tryd.types_size.symm Tryd.type119 Tryd.underlying119 (by rfl) (fun h => by cases h)
def i120 : TI := ⟨.arr 40 5, 40, 40, (.arrI .u8 40 fun _ => List.replicate 40 0)⟩
theorem ok120 : TOK Tryd.prog 120 i120 := tok Tryd.types_size.symm Tryd.type120 Tryd.underlying120 (by rfl) (fun _ => ⟨by kernel_rfl, by kernel_rfl⟩)
def i122 : TI := ⟨.func, 1, 8, .nilf⟩
theorem ok122 : TOK Tryd.prog 122 i122 := tok Tryd.types_size.symm Tryd.type122 Tryd.underlying122 (by rfl) (fun h => by cases h)
def i123 : TI := ⟨.func, 1, 8, .nilf⟩
theorem ok123 : TOK Tryd.prog 123 i123 := tok Tryd.types_size.symm Tryd.type123 Tryd.underlying123 (by rfl) (fun h => by cases h)
def i124 : TI := ⟨.int .u32, 1, 4, (.int .u32 fun _ => 0)⟩
theorem ok124 : TOK Tryd.prog 124 i124 := tok Tryd.types_size.symm Tryd.type124 Tryd.underlying124 (by rfl) (fun h => by cases h)
def i126 : TI := ⟨.func, 1, 8, .nilf⟩
theorem ok126 : TOK Tryd.prog 126 i126 := tok Tryd.types_size.symm Tryd.type126 Tryd.underlying126 (by rfl) (fun h => by cases h)
def i127 : TI := ⟨.func, 1, 8, .nilf⟩
theorem ok127 : TOK Tryd.prog 127 i127 := tok Tryd.types_size.symm Tryd.type127 Tryd.underlying127 (by rfl) (fun h => by cases h)
def i128 : TI := ⟨.arr 256 5, 256, 256, (.arrI .u8 256 fun _ => List.replicate 256 0)⟩
theorem ok128 : TOK Tryd.prog 128 i128 := tok Tryd.types_size.symm Tryd.type128 Tryd.underlying128 (by rfl) (fun _ => ⟨by kernel_rfl, by kernel_rfl⟩)
def i129 : TI := ⟨.struct [(0, 5), (1, 5)], 2, 2, (.agg (.cons (.int .u8 fun _ => 0) (.cons (.int .u8 fun _ => 0) .nil)))⟩
theorem ok129 : TOK Tryd.prog 129 i129 := tok Tryd.types_size.symm Tryd.type129 Tryd.underlying129 (by rfl) (fun _ => ⟨by kernel_rfl, by kernel_rfl⟩)
def i130 : TI := ⟨.struct [(0, 5), (1, 5)], 2, 2, (.agg (.cons (.int .u8 fun _ => 0) (.cons (.int .u8 fun _ => 0) .nil)))⟩
theorem ok130 : TOK Tryd.prog 130 i130 := tok Tryd.types_size.symm Tryd.type130 Tryd.underlying130 (by rfl) (fun _ => ⟨by kernel_rfl, by kernel_rfl⟩)
def i131 : TI := ⟨.arr 16 130, 32, 32, (.agg (.cons (.agg (.cons (.int .u8 fun _ => 0) (.cons (.int .u8 fun _ => 0) .nil))) (.cons (.agg (.cons (.int .u8 fun _ => 0) (.cons (.int .u8 fun _ => 0) .nil))) (.cons (.agg (.cons (.int .u8 fun _ => 0) (.cons (.int .u8 fun _ => 0) .nil))) (.cons (.agg (.cons (.int .u8 fun _ => 0) (.cons (.int .u8 fun _ => 0) .nil))) (.cons (.agg (.cons (.int .u8 fun _ => 0) (.cons (.int .u8 fun _ => 0) .nil))) (.cons (.agg (.cons (.int .u8 fun _ => 0) (.cons (.int .u8 fun _ => 0) .nil))) (.cons (.agg (.cons (.int .u8 fun _ => 0) (.cons (.int .u8 fun _ => 0) .nil))) (.cons (.agg (.cons (.int .u8 fun _ => 0) (.cons (.int .u8 fun _ => 0) .nil))) (.cons (.agg (.cons (.int .u8 fun _ => 0) (.cons (.int .u8 fun _ => 0) .nil))) (.cons (.agg (.cons (.int .u8 fun _ => 0) (.cons (.int .u8 fun _ => 0) .nil))) (.cons (.agg (.cons (.int .u8 fun _ => 0) (.cons (.int .u8 fun _ => 0) .nil))) (.cons (.agg (.cons (.int .u8 fun _ => 0) (.cons (.int .u8 fun _ => 0) .nil))) (.cons (.agg (.cons (.int .u8 fun _ => 0) (.cons (.int .u8 fun _ => 0) .nil))) (.cons (.agg (.cons (.int .u8 fun _ => 0) (.cons (.int .u8 fun _ => 0) .nil))) (.cons (.agg (.cons (.int .u8 fun _ => 0) (.cons (.int .u8 fun _ => 0) .nil))) (.cons (.agg (.cons (.int .u8 fun _ => 0) (.cons (.int .u8 fun _ => 0) .nil))) .nil)))))))))))))))))⟩
theorem ok131 : TOK Tryd.prog 131 i131 := tok Tryd.types_size.symm Tryd.type131 Tryd.underlying131 (by rfl) (fun _ => ⟨by kernel_rfl, by kernel_rfl⟩)
def i137 : TI := ⟨.func, 1, 8, .nilf⟩
theorem ok137 : TOK Tryd.prog 137 i137 := tok Tryd.types_size.symm Tryd.type137 Tryd.underlying137 (by rfl) (fun h => by cases h)
def i138 : TI := ⟨.int .u8, 1, 1, (.int .u8 fun _ => 0)⟩
theorem ok138 : TOK Tryd.prog 138 i138 := tok Tryd.types_size.symm Tryd.type138 Tryd.underlying138 (by rfl) (fun h => by cases h)
def i139 : TI := ⟨.int .u8, 1, 1, (.int .u8 fun _ => 0)⟩
theorem ok139 : TOK Tryd.prog 139 i139 := tok Tryd.types_size.symm Tryd.type139 Tryd.underlying139 (by rfl) (fun h => by cases h)
def i140 : TI := ⟨.func, 1, 8, .nilf⟩
theorem ok140 : TOK Tryd.prog 140 i140 := tok Tryd.types_size.symm Tryd.type140 Tryd.underlying140 (by rfl) (fun h => by cases h)
def i141 : TI := ⟨.int .i32, 1, 4, (.int .i32 fun _ => 0)⟩
theorem ok141 : TOK Tryd.prog 141 i141 := tok Tryd.types_size.symm Tryd.type141 Tryd.underlying141 (by rfl) (fun h => by cases h)
def i142 : TI := ⟨.int .i32, 1, 4, (.int .i32 fun _ => 0)⟩
theorem ok142 : TOK Tryd.prog 142 i142 := tok Tryd.types_size.symm Tryd.type142 Tryd.underlying142 (by rfl) (fun h => by cases h)
end TyTab
open TyTab in
def tyT : Nat → Option TI := fun t => bif bltN t 70 then (bif bltN t 36 then (bif bltN t 17 then (bif bltN t 8 then (bif bltN t 4 then (bif bltN t 2 then (bif beqN t 1 then some i1 else none) else (bif bltN t 3 then (bif beqN t 2 then some i2 else none) else (bif beqN t 3 then some i3 else none))) else (bif bltN t 6 then (bif bltN t 5 then (bif beqN t 4 then some i4 else none) else (bif beqN t 5 then some i5 else none)) else (bif bltN t 7 then (bif beqN t 6 then some i6 else none) else (bif beqN t 7 then some i7 else none)))) else (bif bltN t 11 then (bif bltN t 9 then (bif beqN t 8 then some i8 else none) else (bif bltN t 10 then (bif beqN t 9 then some i9 else none) else (bif beqN t 10 then some i10 else none))) else (bif bltN t 15 then (bif bltN t 12 then (bif beqN t 11 then some i11 else none) else (bif beqN t 12 then some i12 else none)) else (bif bltN t 16 then (bif beqN t 15 then some i15 else none) else (bif beqN t 16 then some i16 else none))))) else (bif bltN t 27 then (bif bltN t 22 then (bif bltN t 20 then (bif beqN t 17 then some i17 else none) else (bif bltN t 21 then (bif beqN t 20 then some i20 else none) else (bif beqN t 21 then some i21 else none))) else (bif bltN t 24 then (bif bltN t 23 then (bif beqN t 22 then some i22 else none) else (bif beqN t 23 then some i23 else none)) else (bif bltN t 26 then (bif beqN t 24 then some i24 else none) else (bif beqN t 26 then some i26 else none)))) else (bif bltN t 32 then (bif bltN t 29 then (bif bltN t 28 then (bif beqN t 27 then some i27 else none) else (bif beqN t 28 then some i28 else none)) else (bif bltN t 31 then (bif beqN t 29 then some i29 else none) else (bif beqN t 31 then some i31 else none))) else (bif bltN t 34 then (bif bltN t 33 then (bif beqN t 32 then some i32 else none) else (bif beqN t 33 then some i33 else none)) else (bif bltN t 35 then (bif beqN t 34 then some i34 else none) else (bif beqN t 35 then some i35 else none)))))) else (bif bltN t 51 then (bif bltN t 43 then (bif bltN t 39 then (bif bltN t 37 then (bif beqN t 36 then some i36 else none) else (bif bltN t 38 then (bif beqN t 37 then some i37 else none) else (bif beqN t 38 then some i38 else none))) else (bif bltN t 41 then (bif bltN t 40 then (bif beqN t 39 then some i39 else none) else (bif beqN t 40 then some i40 else none)) else (bif bltN t 42 then (bif beqN t 41 then some i41 else none) else (bif beqN t 42 then some i42 else none)))) else (bif bltN t 46 then (bif bltN t 44 then (bif beqN t 43 then some i43 else none) else (bif bltN t 45 then (bif beqN t 44 then some i44 else none) else (bif beqN t 45 then some i45 else none))) else (bif bltN t 48 then (bif bltN t 47 then (bif beqN t 46 then some i46 else none) else (bif beqN t 47 then some i47 else none)) else (bif bltN t 49 then (bif beqN t 48 then some i48 else none) else (bif beqN t 49 then some i49 else none))))) else (bif bltN t 60 then (bif bltN t 56 then (bif bltN t 53 then (bif beqN t 51 then some i51 else none) else (bif bltN t 55 then (bif beqN t 53 then some i53 else none) else (bif beqN t 55 then some i55 else none))) else (bif bltN t 58 then (bif bltN t 57 then (bif beqN t 56 then some i56 else none) else (bif beqN t 57 then some i57 else none)) else (bif bltN t 59 then (bif beqN t 58 then some i58 else none) else (bif beqN t 59 then some i59 else none)))) else (bif bltN t 64 then (bif bltN t 62 then (bif bltN t 61 then (bif beqN t 60 then some i60 else none) else (bif beqN t 61 then some i61 else none)) else (bif bltN t 63 then (bif beqN t 62 then some i62 else none) else (bif beqN t 63 then some i63 else none))) else (bif bltN t 67 then (bif bltN t 66 then (bif beqN t 64 then some i64 else none) else (bif beqN t 66 then some i66 else none)) else (bif bltN t 69 then (bif beqN t 67 then some i67 else none) else (bif beqN t 69 then some i69 else none))))))) else (bif bltN t 105 then (bif bltN t 86 then (bif bltN t 77 then (bif bltN t 73 then (bif bltN t 71 then (bif beqN t 70 then some i70 else none) else (bif bltN t 72 then (bif beqN t 71 then some i71 else none) else (bif beqN t 72 then some i72 else none))) else (bif bltN t 75 then (bif bltN t 74 then (bif beqN t 73 then some i73 else none) else (bif beqN t 74 then some i74 else none)) else (bif bltN t 76 then (bif beqN t 75 then some i75 else none) else (bif beqN t 76 then some i76 else none)))) else (bif bltN t 81 then (bif bltN t 78 then (bif beqN t 77 then some i77 else none) else (bif bltN t 80 then (bif beqN t 78 then some i78 else none) else (bif beqN t 80 then some i80 else none))) else (bif bltN t 83 then (bif bltN t 82 then (bif beqN t 81 then some i81 else none) else (bif beqN t 82 then some i82 else none)) else (bif bltN t 85 then (bif beqN t 83 then some i83 else none) else (bif beqN t 85 then some i85 else none))))) else (bif bltN t 95 then (bif bltN t 90 then (bif bltN t 87 then (bif beqN t 86 then some i86 else none) else (bif bltN t 88 then (bif beqN t 87 then some i87 else none) else (bif beqN t 88 then some i88 else none))) else (bif bltN t 93 then (bif bltN t 92 then (bif beqN t 90 then some i90 else none) else (bif beqN t 92 then some i92 else none)) else (bif bltN t 94 then (bif beqN t 93 then some i93 else none) else (bif beqN t 94 then some i94 else none)))) else (bif bltN t 99 then (bif bltN t 97 then (bif bltN t 96 then (bif beqN t 95 then some i95 else none) else (bif beqN t 96 then some i96 else none)) else (bif bltN t 98 then (bif beqN t 97 then some i97 else none) else (bif beqN t 98 then some i98 else none))) else (bif bltN t 103 then (bif bltN t 101 then (bif beqN t 99 then some i99 else none) else (bif beqN t 101 then some i101 else none)) else (bif bltN t 104 then (bif beqN t 103 then some i103 else none) else (bif beqN t 104 then some i104 else none)))))) else (bif bltN t 122 then (bif bltN t 113 then (bif bltN t 109 then (bif bltN t 106 then (bif beqN t 105 then some i105 else none) else (bif bltN t 108 then (bif beqN t 106 then some i106 else none) else (bif beqN t 108 then some i108 else none))) else (bif bltN t 111 then (bif bltN t 110 then (bif beqN t 109 then some i109 else none) else (bif beqN t 110 then some i110 else none)) else (bif bltN t 112 then (bif beqN t 111 then some i111 else none) else (bif beqN t 112 then some i112 else none)))) else (bif bltN t 117 then (bif bltN t 115 then (bif bltN t 114 then (bif beqN t 113 then some i113 else none) else (bif beqN t 114 then some i114 else none)) else (bif bltN t 116 then (bif beqN t 115 then some i115 else none) else (bif beqN t 116 then some i116 else none))) else (bif bltN t 119 then (bif bltN t 118 then (bif beqN t 117 then some i117 else none) else (bif beqN t 118 then some i118 else none)) else (bif bltN t 120 then (bif beqN t 119 then some i119 else none) else (bif beqN t 120 then some i120 else none))))) else (bif bltN t 130 then (bif bltN t 126 then (bif bltN t 123 then (bif beqN t 122 then some i122 else none) else (bif bltN t 124 then (bif beqN t 123 then some i123 else none) else (bif beqN t 124 then some i124 else none))) else (bif bltN t 128 then (bif bltN t 127 then (bif beqN t 126 then some i126 else none) else (bif beqN t 127 then some i127 else none)) else (bif bltN t 129 then (bif beqN t 128 then some i128 else none) else (bif beqN t 129 then some i129 else none)))) else (bif bltN t 139 then (bif bltN t 137 then (bif bltN t 131 then (bif beqN t 130 then some i130 else none) else (bif beqN t 131 then some i131 else none)) else (bif bltN t 138 then (bif beqN t 137 then some i137 else none) else (bif beqN t 138 then some i138 else none))) else (bif bltN t 141 then (bif bltN t 140 then (bif beqN t 139 then some i139 else none) else (bif beqN t 140 then some i140 else none)) else (bif bltN t 142 then (bif beqN t 141 then some i141 else none) else (bif beqN t 142 then some i142 else none)))))))
open TyTab in
theorem tyOK : TT Tryd.prog tyT := TT_bif (TT_bif (TT_bif (TT_bif (TT_bif (TT_bif (TT_leaf ok1) (TT_bif (TT_leaf ok2) (TT_leaf ok3))) (TT_bif (TT_bif (TT_leaf ok4) (TT_leaf ok5)) (TT_bif (TT_leaf ok6) (TT_leaf ok7)))) (TT_bif (TT_bif (TT_leaf ok8) (TT_bif (TT_leaf ok9) (TT_leaf ok10))) (TT_bif (TT_bif (TT_leaf ok11) (TT_leaf ok12)) (TT_bif (TT_leaf ok15) (TT_leaf ok16))))) (TT_bif (TT_bif (TT_bif (TT_leaf ok17) (TT_bif (TT_leaf ok20) (TT_leaf ok21))) (TT_bif (TT_bif (TT_leaf ok22) (TT_leaf ok23)) (TT_bif (TT_leaf ok24) (TT_leaf ok26)))) (TT_bif (TT_bif (TT_bif (TT_leaf ok27) (TT_leaf ok28)) (TT_bif (TT_leaf ok29) (TT_leaf ok31))) (TT_bif (TT_bif (TT_leaf ok32) (TT_leaf ok33)) (TT_bif (TT_leaf ok34) (TT_leaf ok35)))))) (TT_bif (TT_bif (TT_bif (TT_bif (TT_leaf ok36) (TT_bif (TT_leaf ok37) (TT_leaf ok38))) (TT_bif (TT_bif (TT_leaf ok39) (TT_leaf ok40)) (TT_bif (TT_leaf ok41) (TT_leaf ok42)))) (TT_bif (TT_bif (TT_leaf ok43) (TT_bif (TT_leaf ok44) (TT_leaf ok45))) (TT_bif (TT_bif (TT_leaf ok46) (TT_leaf ok47)) (TT_bif (TT_leaf ok48) (TT_leaf ok49))))) (TT_bif (TT_bif (TT_bif (TT_leaf ok51) (TT_bif (TT_leaf ok53) (TT_leaf ok55))) (TT_bif (TT_bif (TT_leaf ok56) (TT_leaf ok57)) (TT_bif (TT_leaf ok58) (TT_leaf ok59)))) (TT_bif (TT_bif (TT_bif (TT_leaf ok60) (TT_leaf ok61)) (TT_bif (TT_leaf ok62) (TT_leaf ok63))) (TT_bif (TT_bif (TT_leaf ok64) (TT_leaf ok66)) (TT_bif (TT_leaf ok67) (TT_leaf ok69))))))) (TT_bif (TT_bif (TT_bif (TT_bif (TT_bif (TT_leaf ok70) (TT_bif (TT_leaf ok71) (TT_leaf ok72))) (TT_bif (TT_bif (TT_leaf ok73) (TT_leaf ok74)) (TT_bif (TT_leaf ok75) (TT_leaf ok76)))) (TT_bif (TT_bif (TT_leaf ok77) (TT_bif (TT_leaf ok78) (TT_leaf ok80))) (TT_bif (TT_bif (TT_leaf ok81) (TT_leaf ok82)) (TT_bif (TT_leaf ok83) (TT_leaf ok85))))) (TT_bif (TT_bif (TT_bif (TT_leaf ok86) (TT_bif (TT_leaf ok87) (TT_leaf ok88))) (TT_bif (TT_bif (TT_leaf ok90) (TT_leaf ok92)) (TT_bif (TT_leaf ok93) (TT_leaf ok94)))) (TT_bif (TT_bif (TT_bif (TT_leaf ok95) (TT_leaf ok96)) (TT_bif (TT_leaf ok97) (TT_leaf ok98))) (TT_bif (TT_bif (TT_leaf ok99) (TT_leaf ok101)) (TT_bif (TT_leaf ok103) (TT_leaf ok104)))))) (TT_bif (TT_bif (TT_bif (TT_bif (TT_leaf ok105) (TT_bif (TT_leaf ok106) (TT_leaf ok108))) (TT_bif (TT_bif (TT_leaf ok109) (TT_leaf ok110)) (TT_bif (TT_leaf ok111) (TT_leaf ok112)))) (TT_bif (TT_bif (TT_bif (TT_leaf ok113) (TT_leaf ok114)) (TT_bif (TT_leaf ok115) (TT_leaf ok116))) (TT_bif (TT_bif (TT_leaf ok117) (TT_leaf ok118)) (TT_bif (TT_leaf ok119) (TT_leaf ok120))))) (TT_bif (TT_bif (TT_bif (TT_leaf ok122) (TT_bif (TT_leaf ok123) (TT_leaf ok124))) (TT_bif (TT_bif (TT_leaf ok126) (TT_leaf ok127)) (TT_bif (TT_leaf ok128) (TT_leaf ok129)))) (TT_bif (TT_bif (TT_bif (TT_leaf ok130) (TT_leaf ok131)) (TT_bif (TT_leaf ok137) (TT_leaf ok138))) (TT_bif (TT_bif (TT_leaf ok139) (TT_leaf ok140)) (TT_bif (TT_leaf ok141) (TT_leaf ok142)))))))
-- skipped: [0, 13, 14, 18, 19, 25, 30, 50, 52, 54, 65, 68, 79, 84, 89, 91, 100, 102, 107, 121, 125, 132, 133, 134, 135, 136, 143, 144]
end Go.Proofs.YtdikfhjpnfffnacDoor
