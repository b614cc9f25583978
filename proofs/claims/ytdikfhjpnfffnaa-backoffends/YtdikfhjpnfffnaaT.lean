import Derived.Test.YtdikfhjpnfffnaaProg
import Derived.Test.YtdikfhjpnfffnaaGb
import Derived.KernelRfl
set_option maxRecDepth 2000
set_option linter.unusedVariables false
set_option linter.unusedSimpArgs false
namespace Go.Proofs.Ytdikfhjpnfffnaa
open Go Go.Abs Go.Proofs
set_option maxRecDepth 20000
namespace TyTab
def i1 : TI := ⟨.func, 1, 8, .nilf⟩
theorem ok1 : TOK Try.prog 1 i1 := tok Try.types_size.symm Try.type1 Try.underlying1 (by rfl) (fun h => by cases h)
def i2 : TI := ⟨.int .i64, 1, 8, (.int .i64 fun _ => 0)⟩
theorem ok2 : TOK Try.prog 2 i2 := tok Try.types_size.symm Try.type2 Try.underlying2 (by rfl) (fun h => by cases h)
def i3 : TI := ⟨.int .i64, 1, 8, (.int .i64 fun _ => 0)⟩
theorem ok3 : TOK Try.prog 3 i3 := tok Try.types_size.symm Try.type3 Try.underlying3 (by rfl) (fun h => by cases h)
def i4 : TI := ⟨.bool, 1, 1, .ff⟩
theorem ok4 : TOK Try.prog 4 i4 := tok Try.types_size.symm Try.type4 Try.underlying4 (by rfl) (fun h => by cases h)
def i5 : TI := ⟨.int .u8, 1, 1, (.int .u8 fun _ => 0)⟩
theorem ok5 : TOK Try.prog 5 i5 := tok Try.types_size.symm Try.type5 Try.underlying5 (by rfl) (fun h => by cases h)
def i6 : TI := ⟨.int .u8, 1, 1, (.int .u8 fun _ => 0)⟩
theorem ok6 : TOK Try.prog 6 i6 := tok Try.types_size.symm Try.type6 Try.underlying6 (by rfl) (fun h => by cases h)
def i7 : TI := ⟨.struct [(0, 2), (1, 3), (2, 4), (3, 6)], 4, 24, (.agg (.cons (.int .i64 fun _ => 0) (.cons (.int .i64 fun _ => 0) (.cons .ff (.cons (.int .u8 fun _ => 0) .nil)))))⟩
theorem ok7 : TOK Try.prog 7 i7 := tok Try.types_size.symm Try.type7 Try.underlying7 (by rfl) (fun _ => ⟨by kernel_rfl, by kernel_rfl⟩)
def i8 : TI := ⟨.struct [(0, 2), (1, 3), (2, 4), (3, 6)], 4, 24, (.agg (.cons (.int .i64 fun _ => 0) (.cons (.int .i64 fun _ => 0) (.cons .ff (.cons (.int .u8 fun _ => 0) .nil)))))⟩
theorem ok8 : TOK Try.prog 8 i8 := tok Try.types_size.symm Try.type8 Try.underlying8 (by rfl) (fun _ => ⟨by kernel_rfl, by kernel_rfl⟩)
def i9 : TI := ⟨.str, 1, 16, (.str fun _ => ByteArray.empty)⟩
theorem ok9 : TOK Try.prog 9 i9 := tok Try.types_size.symm Try.type9 Try.underlying9 (by rfl) (fun h => by cases h)
def i10 : TI := ⟨.str, 1, 16, (.str fun _ => ByteArray.empty)⟩
theorem ok10 : TOK Try.prog 10 i10 := tok Try.types_size.symm Try.type10 Try.underlying10 (by rfl) (fun h => by cases h)
def i11 : TI := ⟨.str, 1, 16, (.str fun _ => ByteArray.empty)⟩
theorem ok11 : TOK Try.prog 11 i11 := tok Try.types_size.symm Try.type11 Try.underlying11 (by rfl) (fun h => by cases h)
def i12 : TI := ⟨.int .u64, 1, 8, (.int .u64 fun _ => 0)⟩
theorem ok12 : TOK Try.prog 12 i12 := tok Try.types_size.symm Try.type12 Try.underlying12 (by rfl) (fun h => by cases h)
def i15 : TI := ⟨.ptr 100, 1, 8, .nilp⟩
theorem ok15 : TOK Try.prog 15 i15 := tok Try.types_size.symm Try.type15 Try.underlying15 (by rfl) (fun h => by cases h)
def i16 : TI := ⟨.ptr 103, 1, 8, .nilp⟩
theorem ok16 : TOK Try.prog 16 i16 := tok Try.types_size.symm Try.type16 Try.underlying16 (by rfl) (fun h => by cases h)
def i17 : TI := ⟨.ptr 112, 1, 8, .nilp⟩
theorem ok17 : TOK Try.prog 17 i17 := tok Try.types_size.symm Try.type17 Try.underlying17 (by rfl) (fun h => by cases h)
def i20 : TI := ⟨.iface, 1, 16, .nili⟩
theorem ok20 : TOK Try.prog 20 i20 := tok Try.types_size.symm Try.type20 Try.underlying20 (by rfl) (fun h => by cases h)
def i21 : TI := ⟨.int .i32, 1, 4, (.int .i32 fun _ => 0)⟩
theorem ok21 : TOK Try.prog 21 i21 := tok Try.types_size.symm Try.type21 Try.underlying21 (by rfl) (fun h => by cases h)
def i22 : TI := ⟨.slice 3, 1, 24, .nils⟩
theorem ok22 : TOK Try.prog 22 i22 := tok Try.types_size.symm Try.type22 Try.underlying22 (by rfl) (fun h => by cases h)
def i23 : TI := ⟨.func, 1, 8, .nilf⟩
theorem ok23 : TOK Try.prog 23 i23 := tok Try.types_size.symm Try.type23 Try.underlying23 (by rfl) (fun h => by cases h)
def i24 : TI := ⟨.ptr 59, 1, 8, .nilp⟩
theorem ok24 : TOK Try.prog 24 i24 := tok Try.types_size.symm Try.type24 Try.underlying24 (by rfl) (fun h => by cases h)
def i25 : TI := ⟨.int .i64, 1, 8, (.int .i64 fun _ => 0)⟩
theorem ok25 : TOK Try.prog 25 i25 := tok Try.types_size.symm Try.type25 Try.underlying25 (by rfl) (fun h => by cases h)
def i27 : TI := ⟨.func, 1, 8, .nilf⟩
theorem ok27 : TOK Try.prog 27 i27 := tok Try.types_size.symm Try.type27 Try.underlying27 (by rfl) (fun h => by cases h)
def i28 : TI := ⟨.func, 1, 8, .nilf⟩
theorem ok28 : TOK Try.prog 28 i28 := tok Try.types_size.symm Try.type28 Try.underlying28 (by rfl) (fun h => by cases h)
def i29 : TI := ⟨.func, 1, 8, .nilf⟩
theorem ok29 : TOK Try.prog 29 i29 := tok Try.types_size.symm Try.type29 Try.underlying29 (by rfl) (fun h => by cases h)
def i30 : TI := ⟨.func, 1, 8, .nilf⟩
theorem ok30 : TOK Try.prog 30 i30 := tok Try.types_size.symm Try.type30 Try.underlying30 (by rfl) (fun h => by cases h)
def i31 : TI := ⟨.func, 1, 8, .nilf⟩
theorem ok31 : TOK Try.prog 31 i31 := tok Try.types_size.symm Try.type31 Try.underlying31 (by rfl) (fun h => by cases h)
def i32 : TI := ⟨.slice 35, 1, 24, .nils⟩
theorem ok32 : TOK Try.prog 32 i32 := tok Try.types_size.symm Try.type32 Try.underlying32 (by rfl) (fun h => by cases h)
def i33 : TI := ⟨.func, 1, 8, .nilf⟩
theorem ok33 : TOK Try.prog 33 i33 := tok Try.types_size.symm Try.type33 Try.underlying33 (by rfl) (fun h => by cases h)
def i34 : TI := ⟨.struct [(0, 3), (1, 3), (2, 3), (3, 9)], 4, 40, (.agg (.cons (.int .i64 fun _ => 0) (.cons (.int .i64 fun _ => 0) (.cons (.int .i64 fun _ => 0) (.cons (.str fun _ => ByteArray.empty) .nil)))))⟩
theorem ok34 : TOK Try.prog 34 i34 := tok Try.types_size.symm Try.type34 Try.underlying34 (by rfl) (fun _ => ⟨by kernel_rfl, by kernel_rfl⟩)
def i35 : TI := ⟨.struct [(0, 3), (1, 3), (2, 3), (3, 9)], 4, 40, (.agg (.cons (.int .i64 fun _ => 0) (.cons (.int .i64 fun _ => 0) (.cons (.int .i64 fun _ => 0) (.cons (.str fun _ => ByteArray.empty) .nil)))))⟩
theorem ok35 : TOK Try.prog 35 i35 := tok Try.types_size.symm Try.type35 Try.underlying35 (by rfl) (fun _ => ⟨by kernel_rfl, by kernel_rfl⟩)
def i36 : TI := ⟨.func, 1, 8, .nilf⟩
theorem ok36 : TOK Try.prog 36 i36 := tok Try.types_size.symm Try.type36 Try.underlying36 (by rfl) (fun h => by cases h)
def i37 : TI := ⟨.func, 1, 8, .nilf⟩
theorem ok37 : TOK Try.prog 37 i37 := tok Try.types_size.symm Try.type37 Try.underlying37 (by rfl) (fun h => by cases h)
def i38 : TI := ⟨.struct [(0, 3), (1, 32), (2, 9), (3, 3)], 4, 56, (.agg (.cons (.int .i64 fun _ => 0) (.cons .nils (.cons (.str fun _ => ByteArray.empty) (.cons (.int .i64 fun _ => 0) .nil)))))⟩
theorem ok38 : TOK Try.prog 38 i38 := tok Try.types_size.symm Try.type38 Try.underlying38 (by rfl) (fun _ => ⟨by kernel_rfl, by kernel_rfl⟩)
def i39 : TI := ⟨.struct [(0, 3), (1, 32), (2, 9), (3, 3)], 4, 56, (.agg (.cons (.int .i64 fun _ => 0) (.cons .nils (.cons (.str fun _ => ByteArray.empty) (.cons (.int .i64 fun _ => 0) .nil)))))⟩
theorem ok39 : TOK Try.prog 39 i39 := tok Try.types_size.symm Try.type39 Try.underlying39 (by rfl) (fun _ => ⟨by kernel_rfl, by kernel_rfl⟩)
def i40 : TI := ⟨.slice 9, 1, 24, .nils⟩
theorem ok40 : TOK Try.prog 40 i40 := tok Try.types_size.symm Try.type40 Try.underlying40 (by rfl) (fun h => by cases h)
def i41 : TI := ⟨.func, 1, 8, .nilf⟩
theorem ok41 : TOK Try.prog 41 i41 := tok Try.types_size.symm Try.type41 Try.underlying41 (by rfl) (fun h => by cases h)
def i42 : TI := ⟨.func, 1, 8, .nilf⟩
theorem ok42 : TOK Try.prog 42 i42 := tok Try.types_size.symm Try.type42 Try.underlying42 (by rfl) (fun h => by cases h)
def i43 : TI := ⟨.slice 24, 1, 24, .nils⟩
theorem ok43 : TOK Try.prog 43 i43 := tok Try.types_size.symm Try.type43 Try.underlying43 (by rfl) (fun h => by cases h)
def i44 : TI := ⟨.slice 53, 1, 24, .nils⟩
theorem ok44 : TOK Try.prog 44 i44 := tok Try.types_size.symm Try.type44 Try.underlying44 (by rfl) (fun h => by cases h)
def i45 : TI := ⟨.struct [(0, 3), (1, 44)], 2, 32, (.agg (.cons (.int .i64 fun _ => 0) (.cons .nils .nil)))⟩
theorem ok45 : TOK Try.prog 45 i45 := tok Try.types_size.symm Try.type45 Try.underlying45 (by rfl) (fun _ => ⟨by kernel_rfl, by kernel_rfl⟩)
def i46 : TI := ⟨.struct [(0, 3), (1, 44)], 2, 32, (.agg (.cons (.int .i64 fun _ => 0) (.cons .nils .nil)))⟩
theorem ok46 : TOK Try.prog 46 i46 := tok Try.types_size.symm Try.type46 Try.underlying46 (by rfl) (fun _ => ⟨by kernel_rfl, by kernel_rfl⟩)
def i47 : TI := ⟨.slice 46, 1, 24, .nils⟩
theorem ok47 : TOK Try.prog 47 i47 := tok Try.types_size.symm Try.type47 Try.underlying47 (by rfl) (fun h => by cases h)
def i48 : TI := ⟨.int .u64, 1, 8, (.int .u64 fun _ => 0)⟩
theorem ok48 : TOK Try.prog 48 i48 := tok Try.types_size.symm Try.type48 Try.underlying48 (by rfl) (fun h => by cases h)
def i50 : TI := ⟨.func, 1, 8, .nilf⟩
theorem ok50 : TOK Try.prog 50 i50 := tok Try.types_size.symm Try.type50 Try.underlying50 (by rfl) (fun h => by cases h)
def i51 : TI := ⟨.func, 1, 8, .nilf⟩
theorem ok51 : TOK Try.prog 51 i51 := tok Try.types_size.symm Try.type51 Try.underlying51 (by rfl) (fun h => by cases h)
def i52 : TI := ⟨.struct [(0, 9), (1, 3), (2, 3)], 3, 32, (.agg (.cons (.str fun _ => ByteArray.empty) (.cons (.int .i64 fun _ => 0) (.cons (.int .i64 fun _ => 0) .nil))))⟩
theorem ok52 : TOK Try.prog 52 i52 := tok Try.types_size.symm Try.type52 Try.underlying52 (by rfl) (fun _ => ⟨by kernel_rfl, by kernel_rfl⟩)
def i53 : TI := ⟨.struct [(0, 9), (1, 3), (2, 3)], 3, 32, (.agg (.cons (.str fun _ => ByteArray.empty) (.cons (.int .i64 fun _ => 0) (.cons (.int .i64 fun _ => 0) .nil))))⟩
theorem ok53 : TOK Try.prog 53 i53 := tok Try.types_size.symm Try.type53 Try.underlying53 (by rfl) (fun _ => ⟨by kernel_rfl, by kernel_rfl⟩)
def i54 : TI := ⟨.func, 1, 8, .nilf⟩
theorem ok54 : TOK Try.prog 54 i54 := tok Try.types_size.symm Try.type54 Try.underlying54 (by rfl) (fun h => by cases h)
def i55 : TI := ⟨.func, 1, 8, .nilf⟩
theorem ok55 : TOK Try.prog 55 i55 := tok Try.types_size.symm Try.type55 Try.underlying55 (by rfl) (fun h => by cases h)
def i56 : TI := ⟨.func, 1, 8, .nilf⟩
theorem ok56 : TOK Try.prog 56 i56 := tok Try.types_size.symm Try.type56 Try.underlying56 (by rfl) (fun h => by cases h)
def i57 : TI := ⟨.map 9 61, 1, 8, .nilm⟩
theorem ok57 : TOK Try.prog 57 i57 := tok Try.types_size.symm Try.type57 Try.underlying57 (by rfl) (fun h => by cases h)
def i58 : TI := ⟨.struct [(0, 3), (1, 57)], 2, 16, (.agg (.cons (.int .i64 fun _ => 0) (.cons .nilm .nil)))⟩
theorem ok58 : TOK Try.prog 58 i58 := tok Try.types_size.symm Try.type58 Try.underlying58 (by rfl) (fun _ => ⟨by kernel_rfl, by kernel_rfl⟩)
def i59 : TI := ⟨.struct [(0, 3), (1, 57)], 2, 16, (.agg (.cons (.int .i64 fun _ => 0) (.cons .nilm .nil)))⟩
theorem ok59 : TOK Try.prog 59 i59 := tok Try.types_size.symm Try.type59 Try.underlying59 (by rfl) (fun _ => ⟨by kernel_rfl, by kernel_rfl⟩)
def i60 : TI := ⟨.struct [(0, 3), (1, 3)], 2, 16, (.agg (.cons (.int .i64 fun _ => 0) (.cons (.int .i64 fun _ => 0) .nil)))⟩
theorem ok60 : TOK Try.prog 60 i60 := tok Try.types_size.symm Try.type60 Try.underlying60 (by rfl) (fun _ => ⟨by kernel_rfl, by kernel_rfl⟩)
def i61 : TI := ⟨.struct [(0, 3), (1, 3)], 2, 16, (.agg (.cons (.int .i64 fun _ => 0) (.cons (.int .i64 fun _ => 0) .nil)))⟩
theorem ok61 : TOK Try.prog 61 i61 := tok Try.types_size.symm Try.type61 Try.underlying61 (by rfl) (fun _ => ⟨by kernel_rfl, by kernel_rfl⟩)
def i62 : TI := ⟨.func, 1, 8, .nilf⟩
theorem ok62 : TOK Try.prog 62 i62 := tok Try.types_size.symm Try.type62 Try.underlying62 (by rfl) (fun h => by cases h)
def i63 : TI := ⟨.func, 1, 8, .nilf⟩
theorem ok63 : TOK Try.prog 63 i63 := tok Try.types_size.symm Try.type63 Try.underlying63 (by rfl) (fun h => by cases h)
def i64 : TI := ⟨.func, 1, 8, .nilf⟩
theorem ok64 : TOK Try.prog 64 i64 := tok Try.types_size.symm Try.type64 Try.underlying64 (by rfl) (fun h => by cases h)
def i65 : TI := ⟨.func, 1, 8, .nilf⟩
theorem ok65 : TOK Try.prog 65 i65 := tok Try.types_size.symm Try.type65 Try.underlying65 (by rfl) (fun h => by cases h)
def i66 : TI := ⟨.func, 1, 8, .nilf⟩
theorem ok66 : TOK Try.prog 66 i66 := tok Try.types_size.symm Try.type66 Try.underlying66 (by rfl) (fun h => by cases h)
def i67 : TI := ⟨.func, 1, 8, .nilf⟩
theorem ok67 : TOK Try.prog 67 i67 := tok Try.types_size.symm Try.type67 Try.underlying67 (by rfl) (fun h => by cases h)
def i68 : TI := ⟨.func, 1, 8, .nilf⟩
theorem ok68 : TOK Try.prog 68 i68 := tok Try.types_size.symm Try.type68 Try.underlying68 (by rfl) (fun h => by cases h)
def i69 : TI := ⟨.func, 1, 8, .nilf⟩
theorem ok69 : TOK Try.prog 69 i69 := tok Try.types_size.symm Try.type69 Try.underlying69 (by rfl) (fun h => by cases h)
def i70 : TI := ⟨.func, 1, 8, .nilf⟩
theorem ok70 : TOK Try.prog 70 i70 := tok Try.types_size.symm Try.type70 Try.underlying70 (by rfl) (fun h => by cases h)
def i71 : TI := ⟨.func, 1, 8, .nilf⟩
theorem ok71 : TOK Try.prog 71 i71 := tok Try.types_size.symm Try.type71 Try.underlying71 (by rfl) (fun h => by cases h)
def i72 : TI := ⟨.func, 1, 8, .nilf⟩
theorem ok72 : TOK Try.prog 72 i72 := tok Try.types_size.symm Try.type72 Try.underlying72 (by rfl) (fun h => by cases h)
def i73 : TI := ⟨.func, 1, 8, .nilf⟩
theorem ok73 : TOK Try.prog 73 i73 := tok Try.types_size.symm Try.type73 Try.underlying73 (by rfl) (fun h => by cases h)
def i74 : TI := ⟨.func, 1, 8, .nilf⟩
theorem ok74 : TOK Try.prog 74 i74 := tok Try.types_size.symm Try.type74 Try.underlying74 (by rfl) (fun h => by cases h)
def i75 : TI := ⟨.func, 1, 8, .nilf⟩
theorem ok75 : TOK Try.prog 75 i75 := tok Try.types_size.symm Try.type75 Try.underlying75 (by rfl) (fun h => by cases h)
def i76 : TI := ⟨.func, 1, 8, .nilf⟩
theorem ok76 : TOK Try.prog 76 i76 := tok Try.types_size.symm Try.type76 Try.underlying76 (by rfl) (fun h => by cases h)
def i77 : TI := ⟨.int .i64, 1, 8, (.int .i64 fun _ => 0)⟩
theorem ok77 : TOK Try.prog 77 i77 := tok Try.types_size.symm Try.type77 Try.underlying77 (by rfl) (fun h => by cases h)
def i79 : TI := ⟨.func, 1, 8, .nilf⟩
theorem ok79 : TOK Try.prog 79 i79 := tok Try.types_size.symm Try.type79 Try.underlying79 (by rfl) (fun h => by cases h)
def i80 : TI := ⟨.func, 1, 8, .nilf⟩
theorem ok80 : TOK Try.prog 80 i80 := tok Try.types_size.symm Try.type80 Try.underlying80 (by rfl) (fun h => by cases h)
def i81 : TI := ⟨.func, 1, 8, .nilf⟩
theorem ok81 : TOK Try.prog 81 i81 := tok Try.types_size.symm Try.type81 Try.underlying81 (by rfl) (fun h => by cases h)
def i82 : TI := ⟨.func, 1, 8, .nilf⟩
theorem ok82 : TOK Try.prog 82 i82 := tok Try.types_size.symm Try.type82 Try.underlying82 (by rfl) (fun h => by cases h)
def i84 : TI := ⟨.func, 1, 8, .nilf⟩
theorem ok84 : TOK Try.prog 84 i84 := tok Try.types_size.symm Try.type84 Try.underlying84 (by rfl) (fun h => by cases h)
def i85 : TI := ⟨.func, 1, 8, .nilf⟩
theorem ok85 : TOK Try.prog 85 i85 := tok Try.types_size.symm Try.type85 Try.underlying85 (by rfl) (fun h => by cases h)
def i86 : TI := ⟨.int .u32, 1, 4, (.int .u32 fun _ => 0)⟩
theorem ok86 : TOK Try.prog 86 i86 := tok Try.types_size.symm Try.type86 Try.underlying86 (by rfl) (fun h => by cases h)
def i87 : TI := ⟨.func, 1, 8, .nilf⟩
theorem ok87 : TOK Try.prog 87 i87 := tok Try.types_size.symm Try.type87 Try.underlying87 (by rfl) (fun h => by cases h)
def i88 : TI := ⟨.int .u64, 1, 8, (.int .u64 fun _ => 0)⟩
theorem ok88 : TOK Try.prog 88 i88 := tok Try.types_size.symm Try.type88 Try.underlying88 (by rfl) (fun h => by cases h)
def i89 : TI := ⟨.int .u64, 1, 8, (.int .u64 fun _ => 0)⟩
theorem ok89 : TOK Try.prog 89 i89 := tok Try.types_size.symm Try.type89 Try.underlying89 (by rfl) (fun h => by cases h)
def i90 : TI := ⟨.func, 1, 8, .nilf⟩
theorem ok90 : TOK Try.prog 90 i90 := tok Try.types_size.symm Try.type90 Try.underlying90 (by rfl) (fun h => by cases h)
def i91 : TI := ⟨.func, 1, 8, .nilf⟩
theorem ok91 : TOK Try.prog 91 i91 := tok Try.types_size.symm Try.type91 Try.underlying91 (by rfl) (fun h => by cases h)
def i92 : TI := ⟨.func, 1, 8, .nilf⟩
theorem ok92 : TOK Try.prog 92 i92 := tok Try.types_size.symm Try.type92 Try.underlying92 (by rfl) (fun h => by cases h)
def i93 : TI := ⟨.ptr 3, 1, 8, .nilp⟩
theorem ok93 : TOK Try.prog 93 i93 := tok Try.types_size.symm Try.type93 Try.underlying93 (by rfl) (fun h => by cases h)
def i94 : TI := ⟨.func, 1, 8, .nilf⟩
theorem ok94 : TOK Try.prog 94 i94 := tok Try.types_size.symm Try.type94 Try.underlying94 (by rfl) (fun h => by cases h)
def i95 : TI := ⟨.ptr 89, 1, 8, .nilp⟩
theorem ok95 : TOK Try.prog 95 i95 := tok Try.types_size.symm Try.type95 Try.underlying95 (by rfl) (fun h => by cases h)
def i97 : TI := ⟨.func, 1, 8, .nilf⟩
theorem ok97 : TOK Try.prog 97 i97 := tok Try.types_size.symm Try.type97 Try.underlying97 (by rfl) (fun h => by cases h)
def i98 : TI := ⟨.func, 1, 8, .nilf⟩
theorem ok98 : TOK Try.prog 98 i98 := tok Try.types_size.symm Try.type98 Try.underlying98 (by rfl) (fun h => by cases h)
def i104 : TI := ⟨.func, 1, 8, .nilf⟩
theorem ok104 : TOK Try.prog 104 i104 := tok Try.types_size.symm Try.type104 Try.underlying104 (by rfl) (fun h => by cases h)
def i105 : TI := ⟨.int .u8, 1, 1, (.int .u8 fun _ => 0)⟩
theorem ok105 : TOK Try.prog 105 i105 := tok Try.types_size.symm Try.type105 Try.underlying105 (by rfl) (fun h => by cases h)
def i106 : TI := ⟨.int .u8, 1, 1, (.int .u8 fun _ => 0)⟩
theorem ok106 : TOK Try.prog 106 i106 := tok Try.types_size.symm Try.type106 Try.underlying106 (by rfl) (fun h => by cases h)
def i107 : TI := ⟨.func, 1, 8, .nilf⟩
theorem ok107 : TOK Try.prog 107 i107 := tok Try.types_size.symm Try.type107 Try.underlying107 (by rfl) (fun h => by cases h)
def i108 : TI := ⟨.ptr 5, 1, 8, .nilp⟩
theorem ok108 : TOK Try.prog 108 i108 := tok Try.types_size.symm Try.type108 Try.underlying108 (by rfl) (fun h => by cases h)
def i109 : TI := ⟨.int .i32, 1, 4, (.int .i32 fun _ => 0)⟩
theorem ok109 : TOK Try.prog 109 i109 := tok Try.types_size.symm Try.type109 Try.underlying109 (by rfl) (fun h => by cases h)
def i110 : TI := ⟨.int .i32, 1, 4, (.int .i32 fun _ => 0)⟩
theorem ok110 : TOK Try.prog 110 i110 := tok Try.types_size.symm Try.type110 Try.underlying110 (by rfl) (fun h => by cases h)
end TyTab
open TyTab in
def tyT : Nat → Option TI := fun t => bif bltN t 55 then (bif bltN t 30 then (bif bltN t 15 then (bif bltN t 7 then (bif bltN t 4 then (bif bltN t 2 then (bif beqN t 1 then some i1 else none) else (bif bltN t 3 then (bif beqN t 2 then some i2 else none) else (bif beqN t 3 then some i3 else none))) else (bif bltN t 5 then (bif beqN t 4 then some i4 else none) else (bif bltN t 6 then (bif beqN t 5 then some i5 else none) else (bif beqN t 6 then some i6 else none)))) else (bif bltN t 10 then (bif bltN t 8 then (bif beqN t 7 then some i7 else none) else (bif bltN t 9 then (bif beqN t 8 then some i8 else none) else (bif beqN t 9 then some i9 else none))) else (bif bltN t 11 then (bif beqN t 10 then some i10 else none) else (bif bltN t 12 then (bif beqN t 11 then some i11 else none) else (bif beqN t 12 then some i12 else none))))) else (bif bltN t 23 then (bif bltN t 20 then (bif bltN t 16 then (bif beqN t 15 then some i15 else none) else (bif bltN t 17 then (bif beqN t 16 then some i16 else none) else (bif beqN t 17 then some i17 else none))) else (bif bltN t 21 then (bif beqN t 20 then some i20 else none) else (bif bltN t 22 then (bif beqN t 21 then some i21 else none) else (bif beqN t 22 then some i22 else none)))) else (bif bltN t 27 then (bif bltN t 24 then (bif beqN t 23 then some i23 else none) else (bif bltN t 25 then (bif beqN t 24 then some i24 else none) else (bif beqN t 25 then some i25 else none))) else (bif bltN t 28 then (bif beqN t 27 then some i27 else none) else (bif bltN t 29 then (bif beqN t 28 then some i28 else none) else (bif beqN t 29 then some i29 else none)))))) else (bif bltN t 42 then (bif bltN t 36 then (bif bltN t 33 then (bif bltN t 31 then (bif beqN t 30 then some i30 else none) else (bif bltN t 32 then (bif beqN t 31 then some i31 else none) else (bif beqN t 32 then some i32 else none))) else (bif bltN t 34 then (bif beqN t 33 then some i33 else none) else (bif bltN t 35 then (bif beqN t 34 then some i34 else none) else (bif beqN t 35 then some i35 else none)))) else (bif bltN t 39 then (bif bltN t 37 then (bif beqN t 36 then some i36 else none) else (bif bltN t 38 then (bif beqN t 37 then some i37 else none) else (bif beqN t 38 then some i38 else none))) else (bif bltN t 40 then (bif beqN t 39 then some i39 else none) else (bif bltN t 41 then (bif beqN t 40 then some i40 else none) else (bif beqN t 41 then some i41 else none))))) else (bif bltN t 48 then (bif bltN t 45 then (bif bltN t 43 then (bif beqN t 42 then some i42 else none) else (bif bltN t 44 then (bif beqN t 43 then some i43 else none) else (bif beqN t 44 then some i44 else none))) else (bif bltN t 46 then (bif beqN t 45 then some i45 else none) else (bif bltN t 47 then (bif beqN t 46 then some i46 else none) else (bif beqN t 47 then some i47 else none)))) else (bif bltN t 52 then (bif bltN t 50 then (bif beqN t 48 then some i48 else none) else (bif bltN t 51 then (bif beqN t 50 then some i50 else none) else (bif beqN t 51 then some i51 else none))) else (bif bltN t 53 then (bif beqN t 52 then some i52 else none) else (bif bltN t 54 then (bif beqN t 53 then some i53 else none) else (bif beqN t 54 then some i54 else none))))))) else (bif bltN t 80 then (bif bltN t 67 then (bif bltN t 61 then (bif bltN t 58 then (bif bltN t 56 then (bif beqN t 55 then some i55 else none) else (bif bltN t 57 then (bif beqN t 56 then some i56 else none) else (bif beqN t 57 then some i57 else none))) else (bif bltN t 59 then (bif beqN t 58 then some i58 else none) else (bif bltN t 60 then (bif beqN t 59 then some i59 else none) else (bif beqN t 60 then some i60 else none)))) else (bif bltN t 64 then (bif bltN t 62 then (bif beqN t 61 then some i61 else none) else (bif bltN t 63 then (bif beqN t 62 then some i62 else none) else (bif beqN t 63 then some i63 else none))) else (bif bltN t 65 then (bif beqN t 64 then some i64 else none) else (bif bltN t 66 then (bif beqN t 65 then some i65 else none) else (bif beqN t 66 then some i66 else none))))) else (bif bltN t 73 then (bif bltN t 70 then (bif bltN t 68 then (bif beqN t 67 then some i67 else none) else (bif bltN t 69 then (bif beqN t 68 then some i68 else none) else (bif beqN t 69 then some i69 else none))) else (bif bltN t 71 then (bif beqN t 70 then some i70 else none) else (bif bltN t 72 then (bif beqN t 71 then some i71 else none) else (bif beqN t 72 then some i72 else none)))) else (bif bltN t 76 then (bif bltN t 74 then (bif beqN t 73 then some i73 else none) else (bif bltN t 75 then (bif beqN t 74 then some i74 else none) else (bif beqN t 75 then some i75 else none))) else (bif bltN t 77 then (bif beqN t 76 then some i76 else none) else (bif bltN t 79 then (bif beqN t 77 then some i77 else none) else (bif beqN t 79 then some i79 else none)))))) else (bif bltN t 93 then (bif bltN t 87 then (bif bltN t 84 then (bif bltN t 81 then (bif beqN t 80 then some i80 else none) else (bif bltN t 82 then (bif beqN t 81 then some i81 else none) else (bif beqN t 82 then some i82 else none))) else (bif bltN t 85 then (bif beqN t 84 then some i84 else none) else (bif bltN t 86 then (bif beqN t 85 then some i85 else none) else (bif beqN t 86 then some i86 else none)))) else (bif bltN t 90 then (bif bltN t 88 then (bif beqN t 87 then some i87 else none) else (bif bltN t 89 then (bif beqN t 88 then some i88 else none) else (bif beqN t 89 then some i89 else none))) else (bif bltN t 91 then (bif beqN t 90 then some i90 else none) else (bif bltN t 92 then (bif beqN t 91 then some i91 else none) else (bif beqN t 92 then some i92 else none))))) else (bif bltN t 105 then (bif bltN t 97 then (bif bltN t 94 then (bif beqN t 93 then some i93 else none) else (bif bltN t 95 then (bif beqN t 94 then some i94 else none) else (bif beqN t 95 then some i95 else none))) else (bif bltN t 98 then (bif beqN t 97 then some i97 else none) else (bif bltN t 104 then (bif beqN t 98 then some i98 else none) else (bif beqN t 104 then some i104 else none)))) else (bif bltN t 108 then (bif bltN t 106 then (bif beqN t 105 then some i105 else none) else (bif bltN t 107 then (bif beqN t 106 then some i106 else none) else (bif beqN t 107 then some i107 else none))) else (bif bltN t 109 then (bif beqN t 108 then some i108 else none) else (bif bltN t 110 then (bif beqN t 109 then some i109 else none) else (bif beqN t 110 then some i110 else none)))))))
open TyTab in
theorem tyOK : TT Try.prog tyT := TT_bif (TT_bif (TT_bif (TT_bif (TT_bif (TT_bif (TT_leaf ok1) (TT_bif (TT_leaf ok2) (TT_leaf ok3))) (TT_bif (TT_leaf ok4) (TT_bif (TT_leaf ok5) (TT_leaf ok6)))) (TT_bif (TT_bif (TT_leaf ok7) (TT_bif (TT_leaf ok8) (TT_leaf ok9))) (TT_bif (TT_leaf ok10) (TT_bif (TT_leaf ok11) (TT_leaf ok12))))) (TT_bif (TT_bif (TT_bif (TT_leaf ok15) (TT_bif (TT_leaf ok16) (TT_leaf ok17))) (TT_bif (TT_leaf ok20) (TT_bif (TT_leaf ok21) (TT_leaf ok22)))) (TT_bif (TT_bif (TT_leaf ok23) (TT_bif (TT_leaf ok24) (TT_leaf ok25))) (TT_bif (TT_leaf ok27) (TT_bif (TT_leaf ok28) (TT_leaf ok29)))))) (TT_bif (TT_bif (TT_bif (TT_bif (TT_leaf ok30) (TT_bif (TT_leaf ok31) (TT_leaf ok32))) (TT_bif (TT_leaf ok33) (TT_bif (TT_leaf ok34) (TT_leaf ok35)))) (TT_bif (TT_bif (TT_leaf ok36) (TT_bif (TT_leaf ok37) (TT_leaf ok38))) (TT_bif (TT_leaf ok39) (TT_bif (TT_leaf ok40) (TT_leaf ok41))))) (TT_bif (TT_bif (TT_bif (TT_leaf ok42) (TT_bif (TT_leaf ok43) (TT_leaf ok44))) (TT_bif (TT_leaf ok45) (TT_bif (TT_leaf ok46) (TT_leaf ok47)))) (TT_bif (TT_bif (TT_leaf ok48) (TT_bif (TT_leaf ok50) (TT_leaf ok51))) (TT_bif (TT_leaf ok52) (TT_bif (TT_leaf ok53) (TT_leaf ok54))))))) (TT_bif (TT_bif (TT_bif (TT_bif (TT_bif (TT_leaf ok55) (TT_bif (TT_leaf ok56) (TT_leaf ok57))) (TT_bif (TT_leaf ok58) (TT_bif (TT_leaf ok59) (TT_leaf ok60)))) (TT_bif (TT_bif (TT_leaf ok61) (TT_bif (TT_leaf ok62) (TT_leaf ok63))) (TT_bif (TT_leaf ok64) (TT_bif (TT_leaf ok65) (TT_leaf ok66))))) (TT_bif (TT_bif (TT_bif (TT_leaf ok67) (TT_bif (TT_leaf ok68) (TT_leaf ok69))) (TT_bif (TT_leaf ok70) (TT_bif (TT_leaf ok71) (TT_leaf ok72)))) (TT_bif (TT_bif (TT_leaf ok73) (TT_bif (TT_leaf ok74) (TT_leaf ok75))) (TT_bif (TT_leaf ok76) (TT_bif (TT_leaf ok77) (TT_leaf ok79)))))) (TT_bif (TT_bif (TT_bif (TT_bif (TT_leaf ok80) (TT_bif (TT_leaf ok81) (TT_leaf ok82))) (TT_bif (TT_leaf ok84) (TT_bif (TT_leaf ok85) (TT_leaf ok86)))) (TT_bif (TT_bif (TT_leaf ok87) (TT_bif (TT_leaf ok88) (TT_leaf ok89))) (TT_bif (TT_leaf ok90) (TT_bif (TT_leaf ok91) (TT_leaf ok92))))) (TT_bif (TT_bif (TT_bif (TT_leaf ok93) (TT_bif (TT_leaf ok94) (TT_leaf ok95))) (TT_bif (TT_leaf ok97) (TT_bif (TT_leaf ok98) (TT_leaf ok104)))) (TT_bif (TT_bif (TT_leaf ok105) (TT_bif (TT_leaf ok106) (TT_leaf ok107))) (TT_bif (TT_leaf ok108) (TT_bif (TT_leaf ok109) (TT_leaf ok110)))))))
-- skipped: [0, 13, 14, 18, 19, 26, 49, 78, 83, 96, 99, 100, 101, 102, 103, 111, 112, 113]
end Go.Proofs.Ytdikfhjpnfffnaa
