/- The types of this program, as a table; each row is proved by the kernel. WRITTEN BY gentab.py. -/
import Derived.Test.YtkmnhkfgjadppaaE0
namespace Go.Proofs.Ytkmnhkfgjadppaa
set_option maxRecDepth 100000
def ti1 : TI := ⟨(.func #[] #[] false), 1, 8, (.nilFunc)⟩
theorem to1 : EntryOk Try.prog 1 ti1 := ⟨Try.underlying1, by kernel_rfl⟩
def ti2 : TI := ⟨(.int .i64), 1, 8, (.int .i64 0)⟩
theorem to2 : EntryOk Try.prog 2 ti2 := ⟨Try.underlying2, by kernel_rfl⟩
def ti3 : TI := ⟨(.int .i64), 1, 8, (.int .i64 0)⟩
theorem to3 : EntryOk Try.prog 3 ti3 := ⟨Try.underlying3, by kernel_rfl⟩
def ti4 : TI := ⟨.bool, 1, 1, (.bool false)⟩
theorem to4 : EntryOk Try.prog 4 ti4 := ⟨Try.underlying4, by kernel_rfl⟩
def ti5 : TI := ⟨(.int .u8), 1, 1, (.int .u8 0)⟩
theorem to5 : EntryOk Try.prog 5 ti5 := ⟨Try.underlying5, by kernel_rfl⟩
def ti6 : TI := ⟨(.int .u8), 1, 1, (.int .u8 0)⟩
theorem to6 : EntryOk Try.prog 6 ti6 := ⟨Try.underlying6, by kernel_rfl⟩
def ti9 : TI := ⟨.string, 1, 16, (.string ByteArray.empty)⟩
theorem to9 : EntryOk Try.prog 9 ti9 := ⟨Try.underlying9, by kernel_rfl⟩
def ti10 : TI := ⟨.string, 1, 16, (.string ByteArray.empty)⟩
theorem to10 : EntryOk Try.prog 10 ti10 := ⟨Try.underlying10, by kernel_rfl⟩
def ti11 : TI := ⟨.string, 1, 16, (.string ByteArray.empty)⟩
theorem to11 : EntryOk Try.prog 11 ti11 := ⟨Try.underlying11, by kernel_rfl⟩
def ti12 : TI := ⟨(.int .u64), 1, 8, (.int .u64 0)⟩
theorem to12 : EntryOk Try.prog 12 ti12 := ⟨Try.underlying12, by kernel_rfl⟩
def ti15 : TI := ⟨(.pointer 73), 1, 8, (.pointer none)⟩
theorem to15 : EntryOk Try.prog 15 ti15 := ⟨Try.underlying15, by kernel_rfl⟩
def ti16 : TI := ⟨(.pointer 76), 1, 8, (.pointer none)⟩
theorem to16 : EntryOk Try.prog 16 ti16 := ⟨Try.underlying16, by kernel_rfl⟩
def ti17 : TI := ⟨(.pointer 86), 1, 8, (.pointer none)⟩
theorem to17 : EntryOk Try.prog 17 ti17 := ⟨Try.underlying17, by kernel_rfl⟩
def ti21 : TI := ⟨(.int .i32), 1, 4, (.int .i32 0)⟩
theorem to21 : EntryOk Try.prog 21 ti21 := ⟨Try.underlying21, by kernel_rfl⟩
def ti22 : TI := ⟨(.slice 57), 1, 24, (.slice none 0 0)⟩
theorem to22 : EntryOk Try.prog 22 ti22 := ⟨Try.underlying22, by kernel_rfl⟩
def ti23 : TI := ⟨(.struct #[{ name := "Vars", type := 5, offset := 0, embedded := false, tag := "", pkgPath := "", byteOffset := 0 }, { name := "Cells", type := 5, offset := 1, embedded := false, tag := "", pkgPath := "", byteOffset := 1 }, { name := "Acts", type := 22, offset := 2, embedded := false, tag := "", pkgPath := "", byteOffset := 8 }]), 3, 32, (.agg #[.int .u8 0, .int .u8 0, .slice none 0 0])⟩
theorem to23 : EntryOk Try.prog 23 ti23 := ⟨Try.underlying23, by kernel_rfl⟩
def ti24 : TI := ⟨(.struct #[{ name := "Vars", type := 5, offset := 0, embedded := false, tag := "", pkgPath := "", byteOffset := 0 }, { name := "Cells", type := 5, offset := 1, embedded := false, tag := "", pkgPath := "", byteOffset := 1 }, { name := "Acts", type := 22, offset := 2, embedded := false, tag := "", pkgPath := "", byteOffset := 8 }]), 3, 32, (.agg #[.int .u8 0, .int .u8 0, .slice none 0 0])⟩
theorem to24 : EntryOk Try.prog 24 ti24 := ⟨Try.underlying24, by kernel_rfl⟩
def ti25 : TI := ⟨(.slice 32), 1, 24, (.slice none 0 0)⟩
theorem to25 : EntryOk Try.prog 25 ti25 := ⟨Try.underlying25, by kernel_rfl⟩
def ti26 : TI := ⟨(.func #[] #[4] false), 1, 8, (.nilFunc)⟩
theorem to26 : EntryOk Try.prog 26 ti26 := ⟨Try.underlying26, by kernel_rfl⟩
def ti27 : TI := ⟨(.slice 55), 1, 24, (.slice none 0 0)⟩
theorem to27 : EntryOk Try.prog 27 ti27 := ⟨Try.underlying27, by kernel_rfl⟩
def ti28 : TI := ⟨(.slice 48), 1, 24, (.slice none 0 0)⟩
theorem to28 : EntryOk Try.prog 28 ti28 := ⟨Try.underlying28, by kernel_rfl⟩
def ti29 : TI := ⟨(.struct #[{ name := "Vars", type := 3, offset := 0, embedded := false, tag := "", pkgPath := "", byteOffset := 0 }, { name := "Cells", type := 27, offset := 1, embedded := false, tag := "", pkgPath := "", byteOffset := 8 }, { name := "Cons", type := 28, offset := 2, embedded := false, tag := "", pkgPath := "", byteOffset := 32 }]), 3, 56, (.agg #[.int .i64 0, .slice none 0 0, .slice none 0 0])⟩
theorem to29 : EntryOk Try.prog 29 ti29 := ⟨Try.underlying29, by kernel_rfl⟩
def ti30 : TI := ⟨(.struct #[{ name := "Vars", type := 3, offset := 0, embedded := false, tag := "", pkgPath := "", byteOffset := 0 }, { name := "Cells", type := 27, offset := 1, embedded := false, tag := "", pkgPath := "", byteOffset := 8 }, { name := "Cons", type := 28, offset := 2, embedded := false, tag := "", pkgPath := "", byteOffset := 32 }]), 3, 56, (.agg #[.int .i64 0, .slice none 0 0, .slice none 0 0])⟩
theorem to30 : EntryOk Try.prog 30 ti30 := ⟨Try.underlying30, by kernel_rfl⟩
def ti31 : TI := ⟨(.func #[24] #[30] false), 1, 8, (.nilFunc)⟩
theorem to31 : EntryOk Try.prog 31 ti31 := ⟨Try.underlying31, by kernel_rfl⟩
def ti32 : TI := ⟨(.slice 3), 1, 24, (.slice none 0 0)⟩
theorem to32 : EntryOk Try.prog 32 ti32 := ⟨Try.underlying32, by kernel_rfl⟩
def ti33 : TI := ⟨(.int .u64), 1, 8, (.int .u64 0)⟩
theorem to33 : EntryOk Try.prog 33 ti33 := ⟨Try.underlying33, by kernel_rfl⟩
def ti34 : TI := ⟨(.slice 35), 1, 24, (.slice none 0 0)⟩
theorem to34 : EntryOk Try.prog 34 ti34 := ⟨Try.underlying34, by kernel_rfl⟩
def ti35 : TI := ⟨(.slice 4), 1, 24, (.slice none 0 0)⟩
theorem to35 : EntryOk Try.prog 35 ti35 := ⟨Try.underlying35, by kernel_rfl⟩
def ti36 : TI := ⟨(.func #[30, 34] #[4] false), 1, 8, (.nilFunc)⟩
theorem to36 : EntryOk Try.prog 36 ti36 := ⟨Try.underlying36, by kernel_rfl⟩
def ti37 : TI := ⟨(.func #[30, 25] #[4] false), 1, 8, (.nilFunc)⟩
theorem to37 : EntryOk Try.prog 37 ti37 := ⟨Try.underlying37, by kernel_rfl⟩
def ti38 : TI := ⟨(.func #[24, 25, 4] #[4] false), 1, 8, (.nilFunc)⟩
theorem to38 : EntryOk Try.prog 38 ti38 := ⟨Try.underlying38, by kernel_rfl⟩
def ti39 : TI := ⟨(.float .f64), 1, 8, (.float .f64 0)⟩
theorem to39 : EntryOk Try.prog 39 ti39 := ⟨Try.underlying39, by kernel_rfl⟩
def ti40 : TI := ⟨(.struct #[{ name := "Vars", type := 39, offset := 0, embedded := false, tag := "", pkgPath := "", byteOffset := 0 }, { name := "Cons", type := 39, offset := 1, embedded := false, tag := "", pkgPath := "", byteOffset := 8 }, { name := "Mean", type := 39, offset := 2, embedded := false, tag := "", pkgPath := "", byteOffset := 16 }, { name := "Most", type := 3, offset := 3, embedded := false, tag := "", pkgPath := "", byteOffset := 24 }]), 4, 32, (.agg #[.float .f64 0, .float .f64 0, .float .f64 0, .int .i64 0])⟩
theorem to40 : EntryOk Try.prog 40 ti40 := ⟨Try.underlying40, by kernel_rfl⟩
def ti41 : TI := ⟨(.struct #[{ name := "Vars", type := 39, offset := 0, embedded := false, tag := "", pkgPath := "", byteOffset := 0 }, { name := "Cons", type := 39, offset := 1, embedded := false, tag := "", pkgPath := "", byteOffset := 8 }, { name := "Mean", type := 39, offset := 2, embedded := false, tag := "", pkgPath := "", byteOffset := 16 }, { name := "Most", type := 3, offset := 3, embedded := false, tag := "", pkgPath := "", byteOffset := 24 }]), 4, 32, (.agg #[.float .f64 0, .float .f64 0, .float .f64 0, .int .i64 0])⟩
theorem to41 : EntryOk Try.prog 41 ti41 := ⟨Try.underlying41, by kernel_rfl⟩
def ti42 : TI := ⟨(.func #[30, 30, 25] #[41] false), 1, 8, (.nilFunc)⟩
theorem to42 : EntryOk Try.prog 42 ti42 := ⟨Try.underlying42, by kernel_rfl⟩
def ti43 : TI := ⟨(.func #[39, 39] #[4] false), 1, 8, (.nilFunc)⟩
theorem to43 : EntryOk Try.prog 43 ti43 := ⟨Try.underlying43, by kernel_rfl⟩
def ti44 : TI := ⟨(.func #[30, 30, 25] #[4] false), 1, 8, (.nilFunc)⟩
theorem to44 : EntryOk Try.prog 44 ti44 := ⟨Try.underlying44, by kernel_rfl⟩
def ti45 : TI := ⟨(.func #[30] #[25] false), 1, 8, (.nilFunc)⟩
theorem to45 : EntryOk Try.prog 45 ti45 := ⟨Try.underlying45, by kernel_rfl⟩
def ti46 : TI := ⟨(.func #[25, 25] #[4] false), 1, 8, (.nilFunc)⟩
theorem to46 : EntryOk Try.prog 46 ti46 := ⟨Try.underlying46, by kernel_rfl⟩
def ti47 : TI := ⟨(.struct #[{ name := "Kind", type := 5, offset := 0, embedded := false, tag := "", pkgPath := "", byteOffset := 0 }, { name := "A", type := 3, offset := 1, embedded := false, tag := "", pkgPath := "", byteOffset := 8 }, { name := "B", type := 3, offset := 2, embedded := false, tag := "", pkgPath := "", byteOffset := 16 }, { name := "Args", type := 32, offset := 3, embedded := false, tag := "", pkgPath := "", byteOffset := 24 }]), 4, 48, (.agg #[.int .u8 0, .int .i64 0, .int .i64 0, .slice none 0 0])⟩
theorem to47 : EntryOk Try.prog 47 ti47 := ⟨Try.underlying47, by kernel_rfl⟩
def ti48 : TI := ⟨(.struct #[{ name := "Kind", type := 5, offset := 0, embedded := false, tag := "", pkgPath := "", byteOffset := 0 }, { name := "A", type := 3, offset := 1, embedded := false, tag := "", pkgPath := "", byteOffset := 8 }, { name := "B", type := 3, offset := 2, embedded := false, tag := "", pkgPath := "", byteOffset := 16 }, { name := "Args", type := 32, offset := 3, embedded := false, tag := "", pkgPath := "", byteOffset := 24 }]), 4, 48, (.agg #[.int .u8 0, .int .i64 0, .int .i64 0, .slice none 0 0])⟩
theorem to48 : EntryOk Try.prog 48 ti48 := ⟨Try.underlying48, by kernel_rfl⟩
def ti49 : TI := ⟨(.func #[24, 25] #[4] false), 1, 8, (.nilFunc)⟩
theorem to49 : EntryOk Try.prog 49 ti49 := ⟨Try.underlying49, by kernel_rfl⟩
def ti50 : TI := ⟨(.int .u16), 1, 2, (.int .u16 0)⟩
theorem to50 : EntryOk Try.prog 50 ti50 := ⟨Try.underlying50, by kernel_rfl⟩
def ti51 : TI := ⟨(.func #[24, 50] #[4] false), 1, 8, (.nilFunc)⟩
theorem to51 : EntryOk Try.prog 51 ti51 := ⟨Try.underlying51, by kernel_rfl⟩
def ti52 : TI := ⟨(.func #[30] #[4] false), 1, 8, (.nilFunc)⟩
theorem to52 : EntryOk Try.prog 52 ti52 := ⟨Try.underlying52, by kernel_rfl⟩
def ti53 : TI := ⟨(.func #[24] #[4] false), 1, 8, (.nilFunc)⟩
theorem to53 : EntryOk Try.prog 53 ti53 := ⟨Try.underlying53, by kernel_rfl⟩
def ti54 : TI := ⟨(.struct #[{ name := "Fun", type := 4, offset := 0, embedded := false, tag := "", pkgPath := "", byteOffset := 0 }, { name := "Var", type := 3, offset := 1, embedded := false, tag := "", pkgPath := "", byteOffset := 8 }, { name := "Args", type := 32, offset := 2, embedded := false, tag := "", pkgPath := "", byteOffset := 16 }]), 3, 40, (.agg #[.bool false, .int .i64 0, .slice none 0 0])⟩
theorem to54 : EntryOk Try.prog 54 ti54 := ⟨Try.underlying54, by kernel_rfl⟩
def ti55 : TI := ⟨(.struct #[{ name := "Fun", type := 4, offset := 0, embedded := false, tag := "", pkgPath := "", byteOffset := 0 }, { name := "Var", type := 3, offset := 1, embedded := false, tag := "", pkgPath := "", byteOffset := 8 }, { name := "Args", type := 32, offset := 2, embedded := false, tag := "", pkgPath := "", byteOffset := 16 }]), 3, 40, (.agg #[.bool false, .int .i64 0, .slice none 0 0])⟩
theorem to55 : EntryOk Try.prog 55 ti55 := ⟨Try.underlying55, by kernel_rfl⟩
def ti56 : TI := ⟨(.struct #[{ name := "K", type := 5, offset := 0, embedded := false, tag := "", pkgPath := "", byteOffset := 0 }, { name := "A", type := 5, offset := 1, embedded := false, tag := "", pkgPath := "", byteOffset := 1 }, { name := "B", type := 5, offset := 2, embedded := false, tag := "", pkgPath := "", byteOffset := 2 }, { name := "C", type := 5, offset := 3, embedded := false, tag := "", pkgPath := "", byteOffset := 3 }]), 4, 4, (.agg #[.int .u8 0, .int .u8 0, .int .u8 0, .int .u8 0])⟩
theorem to56 : EntryOk Try.prog 56 ti56 := ⟨Try.underlying56, by kernel_rfl⟩
def ti57 : TI := ⟨(.struct #[{ name := "K", type := 5, offset := 0, embedded := false, tag := "", pkgPath := "", byteOffset := 0 }, { name := "A", type := 5, offset := 1, embedded := false, tag := "", pkgPath := "", byteOffset := 1 }, { name := "B", type := 5, offset := 2, embedded := false, tag := "", pkgPath := "", byteOffset := 2 }, { name := "C", type := 5, offset := 3, embedded := false, tag := "", pkgPath := "", byteOffset := 3 }]), 4, 4, (.agg #[.int .u8 0, .int .u8 0, .int .u8 0, .int .u8 0])⟩
theorem to57 : EntryOk Try.prog 57 ti57 := ⟨Try.underlying57, by kernel_rfl⟩
def ti58 : TI := ⟨(.func #[34, 3, 3] #[4] false), 1, 8, (.nilFunc)⟩
theorem to58 : EntryOk Try.prog 58 ti58 := ⟨Try.underlying58, by kernel_rfl⟩
def ti59 : TI := ⟨(.func #[30, 25] #[34] false), 1, 8, (.nilFunc)⟩
theorem to59 : EntryOk Try.prog 59 ti59 := ⟨Try.underlying59, by kernel_rfl⟩
def ti60 : TI := ⟨(.func #[30, 34, 48] #[4] false), 1, 8, (.nilFunc)⟩
theorem to60 : EntryOk Try.prog 60 ti60 := ⟨Try.underlying60, by kernel_rfl⟩
def ti61 : TI := ⟨(.slice 39), 1, 24, (.slice none 0 0)⟩
theorem to61 : EntryOk Try.prog 61 ti61 := ⟨Try.underlying61, by kernel_rfl⟩
def ti62 : TI := ⟨(.func #[3, 3] #[39] false), 1, 8, (.nilFunc)⟩
theorem to62 : EntryOk Try.prog 62 ti62 := ⟨Try.underlying62, by kernel_rfl⟩
def ti63 : TI := ⟨(.func #[61] #[39] true), 1, 8, (.nilFunc)⟩
theorem to63 : EntryOk Try.prog 63 ti63 := ⟨Try.underlying63, by kernel_rfl⟩
def ti64 : TI := ⟨(.int .u64), 1, 8, (.int .u64 0)⟩
theorem to64 : EntryOk Try.prog 64 ti64 := ⟨Try.underlying64, by kernel_rfl⟩
def ti65 : TI := ⟨(.func #[39] #[64] false), 1, 8, (.nilFunc)⟩
theorem to65 : EntryOk Try.prog 65 ti65 := ⟨Try.underlying65, by kernel_rfl⟩
def ti66 : TI := ⟨(.func #[32, 32] #[4] false), 1, 8, (.nilFunc)⟩
theorem to66 : EntryOk Try.prog 66 ti66 := ⟨Try.underlying66, by kernel_rfl⟩
def ti67 : TI := ⟨(.func #[3, 3, 3] #[4] false), 1, 8, (.nilFunc)⟩
theorem to67 : EntryOk Try.prog 67 ti67 := ⟨Try.underlying67, by kernel_rfl⟩
def ti68 : TI := ⟨(.func #[55, 3] #[4] false), 1, 8, (.nilFunc)⟩
theorem to68 : EntryOk Try.prog 68 ti68 := ⟨Try.underlying68, by kernel_rfl⟩
def ti69 : TI := ⟨(.func #[48, 3, 3] #[4] false), 1, 8, (.nilFunc)⟩
theorem to69 : EntryOk Try.prog 69 ti69 := ⟨Try.underlying69, by kernel_rfl⟩
def ti70 : TI := ⟨(.func #[34, 48, 55] #[4] false), 1, 8, (.nilFunc)⟩
theorem to70 : EntryOk Try.prog 70 ti70 := ⟨Try.underlying70, by kernel_rfl⟩
def ti71 : TI := ⟨(.func #[] #[9] false), 1, 8, (.nilFunc)⟩
theorem to71 : EntryOk Try.prog 71 ti71 := ⟨Try.underlying71, by kernel_rfl⟩
def ti74 : TI := ⟨(.array 0 16), 0, 0, (.agg #[])⟩
theorem to74 : EntryOk Try.prog 74 ti74 := ⟨Try.underlying74, by kernel_rfl⟩
def ti77 : TI := ⟨(.func #[] #[3] false), 1, 8, (.nilFunc)⟩
theorem to77 : EntryOk Try.prog 77 ti77 := ⟨Try.underlying77, by kernel_rfl⟩
def ti78 : TI := ⟨(.int .u32), 1, 4, (.int .u32 0)⟩
theorem to78 : EntryOk Try.prog 78 ti78 := ⟨Try.underlying78, by kernel_rfl⟩
def ti79 : TI := ⟨(.int .u8), 1, 1, (.int .u8 0)⟩
theorem to79 : EntryOk Try.prog 79 ti79 := ⟨Try.underlying79, by kernel_rfl⟩
def ti80 : TI := ⟨(.int .u8), 1, 1, (.int .u8 0)⟩
theorem to80 : EntryOk Try.prog 80 ti80 := ⟨Try.underlying80, by kernel_rfl⟩
def ti81 : TI := ⟨(.func #[87, 87] #[4] false), 1, 8, (.nilFunc)⟩
theorem to81 : EntryOk Try.prog 81 ti81 := ⟨Try.underlying81, by kernel_rfl⟩
def ti82 : TI := ⟨(.pointer 5), 1, 8, (.pointer none)⟩
theorem to82 : EntryOk Try.prog 82 ti82 := ⟨Try.underlying82, by kernel_rfl⟩
def ti83 : TI := ⟨(.int .i32), 1, 4, (.int .i32 0)⟩
theorem to83 : EntryOk Try.prog 83 ti83 := ⟨Try.underlying83, by kernel_rfl⟩
def ti84 : TI := ⟨(.int .i32), 1, 4, (.int .i32 0)⟩
theorem to84 : EntryOk Try.prog 84 ti84 := ⟨Try.underlying84, by kernel_rfl⟩
def ti85 : TI := ⟨(.struct #[{ name := "Size_", type := 12, offset := 0, embedded := false, tag := "", pkgPath := "", byteOffset := 0 }, { name := "PtrBytes", type := 12, offset := 1, embedded := false, tag := "", pkgPath := "", byteOffset := 8 }, { name := "Hash", type := 78, offset := 2, embedded := false, tag := "", pkgPath := "", byteOffset := 16 }, { name := "TFlag", type := 79, offset := 3, embedded := false, tag := "", pkgPath := "", byteOffset := 20 }, { name := "Align_", type := 5, offset := 4, embedded := false, tag := "", pkgPath := "", byteOffset := 21 }, { name := "FieldAlign_", type := 5, offset := 5, embedded := false, tag := "", pkgPath := "", byteOffset := 22 }, { name := "Kind_", type := 80, offset := 6, embedded := false, tag := "", pkgPath := "", byteOffset := 23 }, { name := "Equal", type := 81, offset := 7, embedded := false, tag := "", pkgPath := "", byteOffset := 24 }, { name := "GCData", type := 82, offset := 8, embedded := false, tag := "", pkgPath := "", byteOffset := 32 }, { name := "Str", type := 83, offset := 9, embedded := false, tag := "", pkgPath := "", byteOffset := 40 }, { name := "PtrToThis", type := 84, offset := 10, embedded := false, tag := "", pkgPath := "", byteOffset := 44 }]), 11, 48, (.agg #[.int .u64 0, .int .u64 0, .int .u32 0, .int .u8 0, .int .u8 0, .int .u8 0, .int .u8 0, .nilFunc, .pointer none, .int .i32 0, .int .i32 0])⟩
theorem to85 : EntryOk Try.prog 85 ti85 := ⟨Try.underlying85, by kernel_rfl⟩
def ti86 : TI := ⟨(.struct #[{ name := "Size_", type := 12, offset := 0, embedded := false, tag := "", pkgPath := "", byteOffset := 0 }, { name := "PtrBytes", type := 12, offset := 1, embedded := false, tag := "", pkgPath := "", byteOffset := 8 }, { name := "Hash", type := 78, offset := 2, embedded := false, tag := "", pkgPath := "", byteOffset := 16 }, { name := "TFlag", type := 79, offset := 3, embedded := false, tag := "", pkgPath := "", byteOffset := 20 }, { name := "Align_", type := 5, offset := 4, embedded := false, tag := "", pkgPath := "", byteOffset := 21 }, { name := "FieldAlign_", type := 5, offset := 5, embedded := false, tag := "", pkgPath := "", byteOffset := 22 }, { name := "Kind_", type := 80, offset := 6, embedded := false, tag := "", pkgPath := "", byteOffset := 23 }, { name := "Equal", type := 81, offset := 7, embedded := false, tag := "", pkgPath := "", byteOffset := 24 }, { name := "GCData", type := 82, offset := 8, embedded := false, tag := "", pkgPath := "", byteOffset := 32 }, { name := "Str", type := 83, offset := 9, embedded := false, tag := "", pkgPath := "", byteOffset := 40 }, { name := "PtrToThis", type := 84, offset := 10, embedded := false, tag := "", pkgPath := "", byteOffset := 44 }]), 11, 48, (.agg #[.int .u64 0, .int .u64 0, .int .u32 0, .int .u8 0, .int .u8 0, .int .u8 0, .int .u8 0, .nilFunc, .pointer none, .int .i32 0, .int .i32 0])⟩
theorem to86 : EntryOk Try.prog 86 ti86 := ⟨Try.underlying86, by kernel_rfl⟩
def tab : Nat → Option TI := lookT (.node (.node (.node (.node (.node (.node (.node .leaf 1 ti1 .leaf) 2 ti2 .leaf) 3 ti3 (.node .leaf 4 ti4 .leaf)) 5 ti5 (.node (.node (.node .leaf 6 ti6 .leaf) 9 ti9 .leaf) 10 ti10 (.node .leaf 11 ti11 .leaf))) 12 ti12 (.node (.node (.node (.node .leaf 15 ti15 .leaf) 16 ti16 .leaf) 17 ti17 (.node .leaf 21 ti21 .leaf)) 22 ti22 (.node (.node .leaf 23 ti23 .leaf) 24 ti24 (.node .leaf 25 ti25 .leaf)))) 26 ti26 (.node (.node (.node (.node (.node .leaf 27 ti27 .leaf) 28 ti28 .leaf) 29 ti29 (.node .leaf 30 ti30 .leaf)) 31 ti31 (.node (.node (.node .leaf 32 ti32 .leaf) 33 ti33 .leaf) 34 ti34 (.node .leaf 35 ti35 .leaf))) 36 ti36 (.node (.node (.node (.node .leaf 37 ti37 .leaf) 38 ti38 .leaf) 39 ti39 (.node .leaf 40 ti40 .leaf)) 41 ti41 (.node (.node .leaf 42 ti42 .leaf) 43 ti43 (.node .leaf 44 ti44 .leaf))))) 45 ti45 (.node (.node (.node (.node (.node (.node .leaf 46 ti46 .leaf) 47 ti47 .leaf) 48 ti48 (.node .leaf 49 ti49 .leaf)) 50 ti50 (.node (.node (.node .leaf 51 ti51 .leaf) 52 ti52 .leaf) 53 ti53 (.node .leaf 54 ti54 .leaf))) 55 ti55 (.node (.node (.node (.node .leaf 56 ti56 .leaf) 57 ti57 .leaf) 58 ti58 (.node .leaf 59 ti59 .leaf)) 60 ti60 (.node (.node .leaf 61 ti61 .leaf) 62 ti62 (.node .leaf 63 ti63 .leaf)))) 64 ti64 (.node (.node (.node (.node (.node .leaf 65 ti65 .leaf) 66 ti66 .leaf) 67 ti67 (.node .leaf 68 ti68 .leaf)) 69 ti69 (.node (.node (.node .leaf 70 ti70 .leaf) 71 ti71 .leaf) 74 ti74 (.node .leaf 77 ti77 .leaf))) 78 ti78 (.node (.node (.node (.node .leaf 79 ti79 .leaf) 80 ti80 .leaf) 81 ti81 (.node .leaf 82 ti82 .leaf)) 83 ti83 (.node (.node .leaf 84 ti84 .leaf) 85 ti85 (.node .leaf 86 ti86 .leaf))))))
theorem tabOk : TabOk Try.prog tab := tabOk_of ⟨⟨⟨⟨⟨⟨⟨trivial, to1, trivial⟩, to2, trivial⟩, to3, ⟨trivial, to4, trivial⟩⟩, to5, ⟨⟨⟨trivial, to6, trivial⟩, to9, trivial⟩, to10, ⟨trivial, to11, trivial⟩⟩⟩, to12, ⟨⟨⟨⟨trivial, to15, trivial⟩, to16, trivial⟩, to17, ⟨trivial, to21, trivial⟩⟩, to22, ⟨⟨trivial, to23, trivial⟩, to24, ⟨trivial, to25, trivial⟩⟩⟩⟩, to26, ⟨⟨⟨⟨⟨trivial, to27, trivial⟩, to28, trivial⟩, to29, ⟨trivial, to30, trivial⟩⟩, to31, ⟨⟨⟨trivial, to32, trivial⟩, to33, trivial⟩, to34, ⟨trivial, to35, trivial⟩⟩⟩, to36, ⟨⟨⟨⟨trivial, to37, trivial⟩, to38, trivial⟩, to39, ⟨trivial, to40, trivial⟩⟩, to41, ⟨⟨trivial, to42, trivial⟩, to43, ⟨trivial, to44, trivial⟩⟩⟩⟩⟩, to45, ⟨⟨⟨⟨⟨⟨trivial, to46, trivial⟩, to47, trivial⟩, to48, ⟨trivial, to49, trivial⟩⟩, to50, ⟨⟨⟨trivial, to51, trivial⟩, to52, trivial⟩, to53, ⟨trivial, to54, trivial⟩⟩⟩, to55, ⟨⟨⟨⟨trivial, to56, trivial⟩, to57, trivial⟩, to58, ⟨trivial, to59, trivial⟩⟩, to60, ⟨⟨trivial, to61, trivial⟩, to62, ⟨trivial, to63, trivial⟩⟩⟩⟩, to64, ⟨⟨⟨⟨⟨trivial, to65, trivial⟩, to66, trivial⟩, to67, ⟨trivial, to68, trivial⟩⟩, to69, ⟨⟨⟨trivial, to70, trivial⟩, to71, trivial⟩, to74, ⟨trivial, to77, trivial⟩⟩⟩, to78, ⟨⟨⟨⟨trivial, to79, trivial⟩, to80, trivial⟩, to81, ⟨trivial, to82, trivial⟩⟩, to83, ⟨⟨trivial, to84, trivial⟩, to85, ⟨trivial, to86, trivial⟩⟩⟩⟩⟩⟩
end Go.Proofs.Ytkmnhkfgjadppaa
