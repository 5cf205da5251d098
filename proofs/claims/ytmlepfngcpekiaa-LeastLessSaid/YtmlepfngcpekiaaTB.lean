/- The types of this program, as a table; each row is proved by the kernel. WRITTEN BY gentab.py. -/
import Derived.Test.YtmlepfngcpekiaaE0
namespace Go.Proofs.Ytmlepfngcpekiaa
set_option maxRecDepth 100000
def ti1 : TI := ⟨(.func #[] #[] false), 1, 8, (.nilFunc)⟩
theorem to1 : EntryOk Try.prog 1 ti1 := ⟨Try.underlying1, by kernel_rfl⟩
def ti2 : TI := ⟨(.int .i64), 1, 8, (.int .i64 0)⟩
theorem to2 : EntryOk Try.prog 2 ti2 := ⟨Try.underlying2, by kernel_rfl⟩
def ti3 : TI := ⟨(.int .i64), 1, 8, (.int .i64 0)⟩
theorem to3 : EntryOk Try.prog 3 ti3 := ⟨Try.underlying3, by kernel_rfl⟩
def ti4 : TI := ⟨.bool, 1, 1, (.bool false)⟩
theorem to4 : EntryOk Try.prog 4 ti4 := ⟨Try.underlying4, by kernel_rfl⟩
def ti5 : TI := ⟨(.int .u8), 1, 1, (.int .u8 0)⟩
theorem to5 : EntryOk Try.prog 5 ti5 := ⟨Try.underlying5, by kernel_rfl⟩
def ti6 : TI := ⟨(.int .u8), 1, 1, (.int .u8 0)⟩
theorem to6 : EntryOk Try.prog 6 ti6 := ⟨Try.underlying6, by kernel_rfl⟩
def ti9 : TI := ⟨.string, 1, 16, (.string ByteArray.empty)⟩
theorem to9 : EntryOk Try.prog 9 ti9 := ⟨Try.underlying9, by kernel_rfl⟩
def ti10 : TI := ⟨.string, 1, 16, (.string ByteArray.empty)⟩
theorem to10 : EntryOk Try.prog 10 ti10 := ⟨Try.underlying10, by kernel_rfl⟩
def ti11 : TI := ⟨.string, 1, 16, (.string ByteArray.empty)⟩
theorem to11 : EntryOk Try.prog 11 ti11 := ⟨Try.underlying11, by kernel_rfl⟩
def ti12 : TI := ⟨(.int .u64), 1, 8, (.int .u64 0)⟩
theorem to12 : EntryOk Try.prog 12 ti12 := ⟨Try.underlying12, by kernel_rfl⟩
def ti15 : TI := ⟨(.pointer 92), 1, 8, (.pointer none)⟩
theorem to15 : EntryOk Try.prog 15 ti15 := ⟨Try.underlying15, by kernel_rfl⟩
def ti16 : TI := ⟨(.pointer 95), 1, 8, (.pointer none)⟩
theorem to16 : EntryOk Try.prog 16 ti16 := ⟨Try.underlying16, by kernel_rfl⟩
def ti17 : TI := ⟨(.pointer 105), 1, 8, (.pointer none)⟩
theorem to17 : EntryOk Try.prog 17 ti17 := ⟨Try.underlying17, by kernel_rfl⟩
def ti21 : TI := ⟨(.int .i32), 1, 4, (.int .i32 0)⟩
theorem to21 : EntryOk Try.prog 21 ti21 := ⟨Try.underlying21, by kernel_rfl⟩
def ti22 : TI := ⟨(.slice 38), 1, 24, (.slice none 0 0)⟩
theorem to22 : EntryOk Try.prog 22 ti22 := ⟨Try.underlying22, by kernel_rfl⟩
def ti23 : TI := ⟨(.slice 35), 1, 24, (.slice none 0 0)⟩
theorem to23 : EntryOk Try.prog 23 ti23 := ⟨Try.underlying23, by kernel_rfl⟩
def ti24 : TI := ⟨(.struct #[{ name := "Vars", type := 3, offset := 0, embedded := false, tag := "", pkgPath := "", byteOffset := 0 }, { name := "Cells", type := 22, offset := 1, embedded := false, tag := "", pkgPath := "", byteOffset := 8 }, { name := "Cons", type := 23, offset := 2, embedded := false, tag := "", pkgPath := "", byteOffset := 32 }]), 3, 56, (.agg #[.int .i64 0, .slice none 0 0, .slice none 0 0])⟩
theorem to24 : EntryOk Try.prog 24 ti24 := ⟨Try.underlying24, by kernel_rfl⟩
def ti25 : TI := ⟨(.struct #[{ name := "Vars", type := 3, offset := 0, embedded := false, tag := "", pkgPath := "", byteOffset := 0 }, { name := "Cells", type := 22, offset := 1, embedded := false, tag := "", pkgPath := "", byteOffset := 8 }, { name := "Cons", type := 23, offset := 2, embedded := false, tag := "", pkgPath := "", byteOffset := 32 }]), 3, 56, (.agg #[.int .i64 0, .slice none 0 0, .slice none 0 0])⟩
theorem to25 : EntryOk Try.prog 25 ti25 := ⟨Try.underlying25, by kernel_rfl⟩
def ti26 : TI := ⟨(.func #[] #[4] false), 1, 8, (.nilFunc)⟩
theorem to26 : EntryOk Try.prog 26 ti26 := ⟨Try.underlying26, by kernel_rfl⟩
def ti27 : TI := ⟨(.func #[25] #[4] false), 1, 8, (.nilFunc)⟩
theorem to27 : EntryOk Try.prog 27 ti27 := ⟨Try.underlying27, by kernel_rfl⟩
def ti28 : TI := ⟨(.slice 76), 1, 24, (.slice none 0 0)⟩
theorem to28 : EntryOk Try.prog 28 ti28 := ⟨Try.underlying28, by kernel_rfl⟩
def ti29 : TI := ⟨(.struct #[{ name := "Vars", type := 5, offset := 0, embedded := false, tag := "", pkgPath := "", byteOffset := 0 }, { name := "Cells", type := 5, offset := 1, embedded := false, tag := "", pkgPath := "", byteOffset := 1 }, { name := "Acts", type := 28, offset := 2, embedded := false, tag := "", pkgPath := "", byteOffset := 8 }]), 3, 32, (.agg #[.int .u8 0, .int .u8 0, .slice none 0 0])⟩
theorem to29 : EntryOk Try.prog 29 ti29 := ⟨Try.underlying29, by kernel_rfl⟩
def ti30 : TI := ⟨(.struct #[{ name := "Vars", type := 5, offset := 0, embedded := false, tag := "", pkgPath := "", byteOffset := 0 }, { name := "Cells", type := 5, offset := 1, embedded := false, tag := "", pkgPath := "", byteOffset := 1 }, { name := "Acts", type := 28, offset := 2, embedded := false, tag := "", pkgPath := "", byteOffset := 8 }]), 3, 32, (.agg #[.int .u8 0, .int .u8 0, .slice none 0 0])⟩
theorem to30 : EntryOk Try.prog 30 ti30 := ⟨Try.underlying30, by kernel_rfl⟩
def ti31 : TI := ⟨(.func #[30] #[25] false), 1, 8, (.nilFunc)⟩
theorem to31 : EntryOk Try.prog 31 ti31 := ⟨Try.underlying31, by kernel_rfl⟩
def ti32 : TI := ⟨(.pointer 35), 1, 8, (.pointer none)⟩
theorem to32 : EntryOk Try.prog 32 ti32 := ⟨Try.underlying32, by kernel_rfl⟩
def ti33 : TI := ⟨(.slice 3), 1, 24, (.slice none 0 0)⟩
theorem to33 : EntryOk Try.prog 33 ti33 := ⟨Try.underlying33, by kernel_rfl⟩
def ti34 : TI := ⟨(.struct #[{ name := "Kind", type := 5, offset := 0, embedded := false, tag := "", pkgPath := "", byteOffset := 0 }, { name := "A", type := 3, offset := 1, embedded := false, tag := "", pkgPath := "", byteOffset := 8 }, { name := "B", type := 3, offset := 2, embedded := false, tag := "", pkgPath := "", byteOffset := 16 }, { name := "Args", type := 33, offset := 3, embedded := false, tag := "", pkgPath := "", byteOffset := 24 }]), 4, 48, (.agg #[.int .u8 0, .int .i64 0, .int .i64 0, .slice none 0 0])⟩
theorem to34 : EntryOk Try.prog 34 ti34 := ⟨Try.underlying34, by kernel_rfl⟩
def ti35 : TI := ⟨(.struct #[{ name := "Kind", type := 5, offset := 0, embedded := false, tag := "", pkgPath := "", byteOffset := 0 }, { name := "A", type := 3, offset := 1, embedded := false, tag := "", pkgPath := "", byteOffset := 8 }, { name := "B", type := 3, offset := 2, embedded := false, tag := "", pkgPath := "", byteOffset := 16 }, { name := "Args", type := 33, offset := 3, embedded := false, tag := "", pkgPath := "", byteOffset := 24 }]), 4, 48, (.agg #[.int .u8 0, .int .i64 0, .int .i64 0, .slice none 0 0])⟩
theorem to35 : EntryOk Try.prog 35 ti35 := ⟨Try.underlying35, by kernel_rfl⟩
def ti36 : TI := ⟨(.pointer 38), 1, 8, (.pointer none)⟩
theorem to36 : EntryOk Try.prog 36 ti36 := ⟨Try.underlying36, by kernel_rfl⟩
def ti37 : TI := ⟨(.struct #[{ name := "Fun", type := 4, offset := 0, embedded := false, tag := "", pkgPath := "", byteOffset := 0 }, { name := "Var", type := 3, offset := 1, embedded := false, tag := "", pkgPath := "", byteOffset := 8 }, { name := "Args", type := 33, offset := 2, embedded := false, tag := "", pkgPath := "", byteOffset := 16 }]), 3, 40, (.agg #[.bool false, .int .i64 0, .slice none 0 0])⟩
theorem to37 : EntryOk Try.prog 37 ti37 := ⟨Try.underlying37, by kernel_rfl⟩
def ti38 : TI := ⟨(.struct #[{ name := "Fun", type := 4, offset := 0, embedded := false, tag := "", pkgPath := "", byteOffset := 0 }, { name := "Var", type := 3, offset := 1, embedded := false, tag := "", pkgPath := "", byteOffset := 8 }, { name := "Args", type := 33, offset := 2, embedded := false, tag := "", pkgPath := "", byteOffset := 16 }]), 3, 40, (.agg #[.bool false, .int .i64 0, .slice none 0 0])⟩
theorem to38 : EntryOk Try.prog 38 ti38 := ⟨Try.underlying38, by kernel_rfl⟩
def ti39 : TI := ⟨(.func #[30, 5, 5, 3] #[4] false), 1, 8, (.nilFunc)⟩
theorem to39 : EntryOk Try.prog 39 ti39 := ⟨Try.underlying39, by kernel_rfl⟩
def ti40 : TI := ⟨(.func #[5, 4] #[4] false), 1, 8, (.nilFunc)⟩
theorem to40 : EntryOk Try.prog 40 ti40 := ⟨Try.underlying40, by kernel_rfl⟩
def ti41 : TI := ⟨(.func #[5, 3, 3, 33] #[4] false), 1, 8, (.nilFunc)⟩
theorem to41 : EntryOk Try.prog 41 ti41 := ⟨Try.underlying41, by kernel_rfl⟩
def ti42 : TI := ⟨(.slice 4), 1, 24, (.slice none 0 0)⟩
theorem to42 : EntryOk Try.prog 42 ti42 := ⟨Try.underlying42, by kernel_rfl⟩
def ti43 : TI := ⟨(.func #[25] #[42] false), 1, 8, (.nilFunc)⟩
theorem to43 : EntryOk Try.prog 43 ti43 := ⟨Try.underlying43, by kernel_rfl⟩
def ti44 : TI := ⟨(.func #[25, 3] #[4] false), 1, 8, (.nilFunc)⟩
theorem to44 : EntryOk Try.prog 44 ti44 := ⟨Try.underlying44, by kernel_rfl⟩
def ti45 : TI := ⟨(.func #[25, 5] #[3] false), 1, 8, (.nilFunc)⟩
theorem to45 : EntryOk Try.prog 45 ti45 := ⟨Try.underlying45, by kernel_rfl⟩
def ti46 : TI := ⟨(.func #[30, 5] #[4] false), 1, 8, (.nilFunc)⟩
theorem to46 : EntryOk Try.prog 46 ti46 := ⟨Try.underlying46, by kernel_rfl⟩
def ti47 : TI := ⟨(.func #[30] #[4] false), 1, 8, (.nilFunc)⟩
theorem to47 : EntryOk Try.prog 47 ti47 := ⟨Try.underlying47, by kernel_rfl⟩
def ti48 : TI := ⟨(.func #[25, 25] #[4] false), 1, 8, (.nilFunc)⟩
theorem to48 : EntryOk Try.prog 48 ti48 := ⟨Try.underlying48, by kernel_rfl⟩
def ti49 : TI := ⟨(.func #[35, 35] #[4] false), 1, 8, (.nilFunc)⟩
theorem to49 : EntryOk Try.prog 49 ti49 := ⟨Try.underlying49, by kernel_rfl⟩
def ti50 : TI := ⟨(.func #[33, 33] #[4] false), 1, 8, (.nilFunc)⟩
theorem to50 : EntryOk Try.prog 50 ti50 := ⟨Try.underlying50, by kernel_rfl⟩
def ti51 : TI := ⟨(.func #[30, 30, 4] #[4] false), 1, 8, (.nilFunc)⟩
theorem to51 : EntryOk Try.prog 51 ti51 := ⟨Try.underlying51, by kernel_rfl⟩
def ti52 : TI := ⟨(.slice 33), 1, 24, (.slice none 0 0)⟩
theorem to52 : EntryOk Try.prog 52 ti52 := ⟨Try.underlying52, by kernel_rfl⟩
def ti53 : TI := ⟨(.struct #[{ name := "Vars", type := 3, offset := 0, embedded := false, tag := "", pkgPath := "", byteOffset := 0 }, { name := "Into", type := 52, offset := 1, embedded := false, tag := "", pkgPath := "", byteOffset := 8 }, { name := "Bases", type := 52, offset := 2, embedded := false, tag := "", pkgPath := "", byteOffset := 32 }, { name := "Loose", type := 42, offset := 3, embedded := false, tag := "", pkgPath := "", byteOffset := 56 }]), 4, 80, (.agg #[.int .i64 0, .slice none 0 0, .slice none 0 0, .slice none 0 0])⟩
theorem to53 : EntryOk Try.prog 53 ti53 := ⟨Try.underlying53, by kernel_rfl⟩
def ti54 : TI := ⟨(.struct #[{ name := "Vars", type := 3, offset := 0, embedded := false, tag := "", pkgPath := "", byteOffset := 0 }, { name := "Into", type := 52, offset := 1, embedded := false, tag := "", pkgPath := "", byteOffset := 8 }, { name := "Bases", type := 52, offset := 2, embedded := false, tag := "", pkgPath := "", byteOffset := 32 }, { name := "Loose", type := 42, offset := 3, embedded := false, tag := "", pkgPath := "", byteOffset := 56 }]), 4, 80, (.agg #[.int .i64 0, .slice none 0 0, .slice none 0 0, .slice none 0 0])⟩
theorem to54 : EntryOk Try.prog 54 ti54 := ⟨Try.underlying54, by kernel_rfl⟩
def ti55 : TI := ⟨(.func #[25] #[54] false), 1, 8, (.nilFunc)⟩
theorem to55 : EntryOk Try.prog 55 ti55 := ⟨Try.underlying55, by kernel_rfl⟩
def ti56 : TI := ⟨(.int .u64), 1, 8, (.int .u64 0)⟩
theorem to56 : EntryOk Try.prog 56 ti56 := ⟨Try.underlying56, by kernel_rfl⟩
def ti57 : TI := ⟨(.slice 42), 1, 24, (.slice none 0 0)⟩
theorem to57 : EntryOk Try.prog 57 ti57 := ⟨Try.underlying57, by kernel_rfl⟩
def ti58 : TI := ⟨(.func #[25, 57] #[4] false), 1, 8, (.nilFunc)⟩
theorem to58 : EntryOk Try.prog 58 ti58 := ⟨Try.underlying58, by kernel_rfl⟩
def ti59 : TI := ⟨(.func #[25, 52] #[4] false), 1, 8, (.nilFunc)⟩
theorem to59 : EntryOk Try.prog 59 ti59 := ⟨Try.underlying59, by kernel_rfl⟩
def ti60 : TI := ⟨(.func #[30, 52, 4] #[4] false), 1, 8, (.nilFunc)⟩
theorem to60 : EntryOk Try.prog 60 ti60 := ⟨Try.underlying60, by kernel_rfl⟩
def ti61 : TI := ⟨(.float .f64), 1, 8, (.float .f64 0)⟩
theorem to61 : EntryOk Try.prog 61 ti61 := ⟨Try.underlying61, by kernel_rfl⟩
def ti62 : TI := ⟨(.struct #[{ name := "Vars", type := 61, offset := 0, embedded := false, tag := "", pkgPath := "", byteOffset := 0 }, { name := "Cons", type := 61, offset := 1, embedded := false, tag := "", pkgPath := "", byteOffset := 8 }, { name := "Mean", type := 61, offset := 2, embedded := false, tag := "", pkgPath := "", byteOffset := 16 }, { name := "Most", type := 3, offset := 3, embedded := false, tag := "", pkgPath := "", byteOffset := 24 }]), 4, 32, (.agg #[.float .f64 0, .float .f64 0, .float .f64 0, .int .i64 0])⟩
theorem to62 : EntryOk Try.prog 62 ti62 := ⟨Try.underlying62, by kernel_rfl⟩
def ti63 : TI := ⟨(.struct #[{ name := "Vars", type := 61, offset := 0, embedded := false, tag := "", pkgPath := "", byteOffset := 0 }, { name := "Cons", type := 61, offset := 1, embedded := false, tag := "", pkgPath := "", byteOffset := 8 }, { name := "Mean", type := 61, offset := 2, embedded := false, tag := "", pkgPath := "", byteOffset := 16 }, { name := "Most", type := 3, offset := 3, embedded := false, tag := "", pkgPath := "", byteOffset := 24 }]), 4, 32, (.agg #[.float .f64 0, .float .f64 0, .float .f64 0, .int .i64 0])⟩
theorem to63 : EntryOk Try.prog 63 ti63 := ⟨Try.underlying63, by kernel_rfl⟩
def ti64 : TI := ⟨(.func #[25, 25, 52] #[63] false), 1, 8, (.nilFunc)⟩
theorem to64 : EntryOk Try.prog 64 ti64 := ⟨Try.underlying64, by kernel_rfl⟩
def ti65 : TI := ⟨(.func #[61, 61] #[4] false), 1, 8, (.nilFunc)⟩
theorem to65 : EntryOk Try.prog 65 ti65 := ⟨Try.underlying65, by kernel_rfl⟩
def ti66 : TI := ⟨(.func #[25, 25, 52] #[4] false), 1, 8, (.nilFunc)⟩
theorem to66 : EntryOk Try.prog 66 ti66 := ⟨Try.underlying66, by kernel_rfl⟩
def ti67 : TI := ⟨(.func #[25] #[52] false), 1, 8, (.nilFunc)⟩
theorem to67 : EntryOk Try.prog 67 ti67 := ⟨Try.underlying67, by kernel_rfl⟩
def ti68 : TI := ⟨(.func #[52, 52] #[4] false), 1, 8, (.nilFunc)⟩
theorem to68 : EntryOk Try.prog 68 ti68 := ⟨Try.underlying68, by kernel_rfl⟩
def ti69 : TI := ⟨(.func #[30, 52] #[4] false), 1, 8, (.nilFunc)⟩
theorem to69 : EntryOk Try.prog 69 ti69 := ⟨Try.underlying69, by kernel_rfl⟩
def ti70 : TI := ⟨(.int .u16), 1, 2, (.int .u16 0)⟩
theorem to70 : EntryOk Try.prog 70 ti70 := ⟨Try.underlying70, by kernel_rfl⟩
def ti71 : TI := ⟨(.func #[30, 70] #[4] false), 1, 8, (.nilFunc)⟩
theorem to71 : EntryOk Try.prog 71 ti71 := ⟨Try.underlying71, by kernel_rfl⟩
def ti72 : TI := ⟨(.func #[38, 3] #[4] false), 1, 8, (.nilFunc)⟩
theorem to72 : EntryOk Try.prog 72 ti72 := ⟨Try.underlying72, by kernel_rfl⟩
def ti73 : TI := ⟨(.func #[35, 3, 3] #[4] false), 1, 8, (.nilFunc)⟩
theorem to73 : EntryOk Try.prog 73 ti73 := ⟨Try.underlying73, by kernel_rfl⟩
def ti74 : TI := ⟨(.func #[3, 3, 3] #[4] false), 1, 8, (.nilFunc)⟩
theorem to74 : EntryOk Try.prog 74 ti74 := ⟨Try.underlying74, by kernel_rfl⟩
def ti75 : TI := ⟨(.struct #[{ name := "K", type := 5, offset := 0, embedded := false, tag := "", pkgPath := "", byteOffset := 0 }, { name := "A", type := 5, offset := 1, embedded := false, tag := "", pkgPath := "", byteOffset := 1 }, { name := "B", type := 5, offset := 2, embedded := false, tag := "", pkgPath := "", byteOffset := 2 }, { name := "C", type := 5, offset := 3, embedded := false, tag := "", pkgPath := "", byteOffset := 3 }]), 4, 4, (.agg #[.int .u8 0, .int .u8 0, .int .u8 0, .int .u8 0])⟩
theorem to75 : EntryOk Try.prog 75 ti75 := ⟨Try.underlying75, by kernel_rfl⟩
def ti76 : TI := ⟨(.struct #[{ name := "K", type := 5, offset := 0, embedded := false, tag := "", pkgPath := "", byteOffset := 0 }, { name := "A", type := 5, offset := 1, embedded := false, tag := "", pkgPath := "", byteOffset := 1 }, { name := "B", type := 5, offset := 2, embedded := false, tag := "", pkgPath := "", byteOffset := 2 }, { name := "C", type := 5, offset := 3, embedded := false, tag := "", pkgPath := "", byteOffset := 3 }]), 4, 4, (.agg #[.int .u8 0, .int .u8 0, .int .u8 0, .int .u8 0])⟩
theorem to76 : EntryOk Try.prog 76 ti76 := ⟨Try.underlying76, by kernel_rfl⟩
def ti77 : TI := ⟨(.func #[3] #[] false), 1, 8, (.nilFunc)⟩
theorem to77 : EntryOk Try.prog 77 ti77 := ⟨Try.underlying77, by kernel_rfl⟩
def ti78 : TI := ⟨(.func #[23, 23, 49] #[4] false), 1, 8, (.nilFunc)⟩
theorem to78 : EntryOk Try.prog 78 ti78 := ⟨Try.underlying78, by kernel_rfl⟩
def ti79 : TI := ⟨(.func #[22, 22, 80] #[4] false), 1, 8, (.nilFunc)⟩
theorem to79 : EntryOk Try.prog 79 ti79 := ⟨Try.underlying79, by kernel_rfl⟩
def ti80 : TI := ⟨(.func #[38, 38] #[4] false), 1, 8, (.nilFunc)⟩
theorem to80 : EntryOk Try.prog 80 ti80 := ⟨Try.underlying80, by kernel_rfl⟩
def ti81 : TI := ⟨(.func #[57, 3, 3] #[4] false), 1, 8, (.nilFunc)⟩
theorem to81 : EntryOk Try.prog 81 ti81 := ⟨Try.underlying81, by kernel_rfl⟩
def ti82 : TI := ⟨(.func #[25, 52] #[57] false), 1, 8, (.nilFunc)⟩
theorem to82 : EntryOk Try.prog 82 ti82 := ⟨Try.underlying82, by kernel_rfl⟩
def ti83 : TI := ⟨(.func #[25, 57, 35] #[4] false), 1, 8, (.nilFunc)⟩
theorem to83 : EntryOk Try.prog 83 ti83 := ⟨Try.underlying83, by kernel_rfl⟩
def ti84 : TI := ⟨(.slice 61), 1, 24, (.slice none 0 0)⟩
theorem to84 : EntryOk Try.prog 84 ti84 := ⟨Try.underlying84, by kernel_rfl⟩
def ti85 : TI := ⟨(.func #[3, 3] #[61] false), 1, 8, (.nilFunc)⟩
theorem to85 : EntryOk Try.prog 85 ti85 := ⟨Try.underlying85, by kernel_rfl⟩
def ti86 : TI := ⟨(.func #[84] #[61] true), 1, 8, (.nilFunc)⟩
theorem to86 : EntryOk Try.prog 86 ti86 := ⟨Try.underlying86, by kernel_rfl⟩
def ti87 : TI := ⟨(.int .u64), 1, 8, (.int .u64 0)⟩
theorem to87 : EntryOk Try.prog 87 ti87 := ⟨Try.underlying87, by kernel_rfl⟩
def ti88 : TI := ⟨(.func #[61] #[87] false), 1, 8, (.nilFunc)⟩
theorem to88 : EntryOk Try.prog 88 ti88 := ⟨Try.underlying88, by kernel_rfl⟩
def ti89 : TI := ⟨(.func #[57, 35, 38] #[4] false), 1, 8, (.nilFunc)⟩
theorem to89 : EntryOk Try.prog 89 ti89 := ⟨Try.underlying89, by kernel_rfl⟩
def ti90 : TI := ⟨(.func #[] #[9] false), 1, 8, (.nilFunc)⟩
theorem to90 : EntryOk Try.prog 90 ti90 := ⟨Try.underlying90, by kernel_rfl⟩
def ti93 : TI := ⟨(.array 0 16), 0, 0, (.agg #[])⟩
theorem to93 : EntryOk Try.prog 93 ti93 := ⟨Try.underlying93, by kernel_rfl⟩
def ti96 : TI := ⟨(.func #[] #[3] false), 1, 8, (.nilFunc)⟩
theorem to96 : EntryOk Try.prog 96 ti96 := ⟨Try.underlying96, by kernel_rfl⟩
def ti97 : TI := ⟨(.int .u32), 1, 4, (.int .u32 0)⟩
theorem to97 : EntryOk Try.prog 97 ti97 := ⟨Try.underlying97, by kernel_rfl⟩
def ti98 : TI := ⟨(.int .u8), 1, 1, (.int .u8 0)⟩
theorem to98 : EntryOk Try.prog 98 ti98 := ⟨Try.underlying98, by kernel_rfl⟩
def ti99 : TI := ⟨(.int .u8), 1, 1, (.int .u8 0)⟩
theorem to99 : EntryOk Try.prog 99 ti99 := ⟨Try.underlying99, by kernel_rfl⟩
def ti100 : TI := ⟨(.func #[106, 106] #[4] false), 1, 8, (.nilFunc)⟩
theorem to100 : EntryOk Try.prog 100 ti100 := ⟨Try.underlying100, by kernel_rfl⟩
def ti101 : TI := ⟨(.pointer 5), 1, 8, (.pointer none)⟩
theorem to101 : EntryOk Try.prog 101 ti101 := ⟨Try.underlying101, by kernel_rfl⟩
def ti102 : TI := ⟨(.int .i32), 1, 4, (.int .i32 0)⟩
theorem to102 : EntryOk Try.prog 102 ti102 := ⟨Try.underlying102, by kernel_rfl⟩
def ti103 : TI := ⟨(.int .i32), 1, 4, (.int .i32 0)⟩
theorem to103 : EntryOk Try.prog 103 ti103 := ⟨Try.underlying103, by kernel_rfl⟩
def ti104 : TI := ⟨(.struct #[{ name := "Size_", type := 12, offset := 0, embedded := false, tag := "", pkgPath := "", byteOffset := 0 }, { name := "PtrBytes", type := 12, offset := 1, embedded := false, tag := "", pkgPath := "", byteOffset := 8 }, { name := "Hash", type := 97, offset := 2, embedded := false, tag := "", pkgPath := "", byteOffset := 16 }, { name := "TFlag", type := 98, offset := 3, embedded := false, tag := "", pkgPath := "", byteOffset := 20 }, { name := "Align_", type := 5, offset := 4, embedded := false, tag := "", pkgPath := "", byteOffset := 21 }, { name := "FieldAlign_", type := 5, offset := 5, embedded := false, tag := "", pkgPath := "", byteOffset := 22 }, { name := "Kind_", type := 99, offset := 6, embedded := false, tag := "", pkgPath := "", byteOffset := 23 }, { name := "Equal", type := 100, offset := 7, embedded := false, tag := "", pkgPath := "", byteOffset := 24 }, { name := "GCData", type := 101, offset := 8, embedded := false, tag := "", pkgPath := "", byteOffset := 32 }, { name := "Str", type := 102, offset := 9, embedded := false, tag := "", pkgPath := "", byteOffset := 40 }, { name := "PtrToThis", type := 103, offset := 10, embedded := false, tag := "", pkgPath := "", byteOffset := 44 }]), 11, 48, (.agg #[.int .u64 0, .int .u64 0, .int .u32 0, .int .u8 0, .int .u8 0, .int .u8 0, .int .u8 0, .nilFunc, .pointer none, .int .i32 0, .int .i32 0])⟩
theorem to104 : EntryOk Try.prog 104 ti104 := ⟨Try.underlying104, by kernel_rfl⟩
def ti105 : TI := ⟨(.struct #[{ name := "Size_", type := 12, offset := 0, embedded := false, tag := "", pkgPath := "", byteOffset := 0 }, { name := "PtrBytes", type := 12, offset := 1, embedded := false, tag := "", pkgPath := "", byteOffset := 8 }, { name := "Hash", type := 97, offset := 2, embedded := false, tag := "", pkgPath := "", byteOffset := 16 }, { name := "TFlag", type := 98, offset := 3, embedded := false, tag := "", pkgPath := "", byteOffset := 20 }, { name := "Align_", type := 5, offset := 4, embedded := false, tag := "", pkgPath := "", byteOffset := 21 }, { name := "FieldAlign_", type := 5, offset := 5, embedded := false, tag := "", pkgPath := "", byteOffset := 22 }, { name := "Kind_", type := 99, offset := 6, embedded := false, tag := "", pkgPath := "", byteOffset := 23 }, { name := "Equal", type := 100, offset := 7, embedded := false, tag := "", pkgPath := "", byteOffset := 24 }, { name := "GCData", type := 101, offset := 8, embedded := false, tag := "", pkgPath := "", byteOffset := 32 }, { name := "Str", type := 102, offset := 9, embedded := false, tag := "", pkgPath := "", byteOffset := 40 }, { name := "PtrToThis", type := 103, offset := 10, embedded := false, tag := "", pkgPath := "", byteOffset := 44 }]), 11, 48, (.agg #[.int .u64 0, .int .u64 0, .int .u32 0, .int .u8 0, .int .u8 0, .int .u8 0, .int .u8 0, .nilFunc, .pointer none, .int .i32 0, .int .i32 0])⟩
theorem to105 : EntryOk Try.prog 105 ti105 := ⟨Try.underlying105, by kernel_rfl⟩
def tab : Nat → Option TI := lookT (.node (.node (.node (.node (.node (.node (.node .leaf 1 ti1 .leaf) 2 ti2 .leaf) 3 ti3 (.node (.node .leaf 4 ti4 .leaf) 5 ti5 .leaf)) 6 ti6 (.node (.node (.node .leaf 9 ti9 .leaf) 10 ti10 .leaf) 11 ti11 (.node (.node .leaf 12 ti12 .leaf) 15 ti15 .leaf))) 16 ti16 (.node (.node (.node (.node .leaf 17 ti17 .leaf) 21 ti21 .leaf) 22 ti22 (.node (.node .leaf 23 ti23 .leaf) 24 ti24 .leaf)) 25 ti25 (.node (.node (.node .leaf 26 ti26 .leaf) 27 ti27 .leaf) 28 ti28 (.node (.node .leaf 29 ti29 .leaf) 30 ti30 .leaf)))) 31 ti31 (.node (.node (.node (.node (.node .leaf 32 ti32 .leaf) 33 ti33 .leaf) 34 ti34 (.node (.node .leaf 35 ti35 .leaf) 36 ti36 .leaf)) 37 ti37 (.node (.node (.node .leaf 38 ti38 .leaf) 39 ti39 .leaf) 40 ti40 (.node (.node .leaf 41 ti41 .leaf) 42 ti42 .leaf))) 43 ti43 (.node (.node (.node (.node .leaf 44 ti44 .leaf) 45 ti45 .leaf) 46 ti46 (.node (.node .leaf 47 ti47 .leaf) 48 ti48 .leaf)) 49 ti49 (.node (.node (.node .leaf 50 ti50 .leaf) 51 ti51 .leaf) 52 ti52 (.node (.node .leaf 53 ti53 .leaf) 54 ti54 .leaf))))) 55 ti55 (.node (.node (.node (.node (.node (.node .leaf 56 ti56 .leaf) 57 ti57 .leaf) 58 ti58 (.node (.node .leaf 59 ti59 .leaf) 60 ti60 .leaf)) 61 ti61 (.node (.node (.node .leaf 62 ti62 .leaf) 63 ti63 .leaf) 64 ti64 (.node (.node .leaf 65 ti65 .leaf) 66 ti66 .leaf))) 67 ti67 (.node (.node (.node (.node .leaf 68 ti68 .leaf) 69 ti69 .leaf) 70 ti70 (.node (.node .leaf 71 ti71 .leaf) 72 ti72 .leaf)) 73 ti73 (.node (.node (.node .leaf 74 ti74 .leaf) 75 ti75 .leaf) 76 ti76 (.node (.node .leaf 77 ti77 .leaf) 78 ti78 .leaf)))) 79 ti79 (.node (.node (.node (.node (.node .leaf 80 ti80 .leaf) 81 ti81 .leaf) 82 ti82 (.node (.node .leaf 83 ti83 .leaf) 84 ti84 .leaf)) 85 ti85 (.node (.node (.node .leaf 86 ti86 .leaf) 87 ti87 .leaf) 88 ti88 (.node (.node .leaf 89 ti89 .leaf) 90 ti90 .leaf))) 93 ti93 (.node (.node (.node (.node .leaf 96 ti96 .leaf) 97 ti97 .leaf) 98 ti98 (.node (.node .leaf 99 ti99 .leaf) 100 ti100 .leaf)) 101 ti101 (.node (.node (.node .leaf 102 ti102 .leaf) 103 ti103 .leaf) 104 ti104 (.node .leaf 105 ti105 .leaf))))))
theorem tabOk : TabOk Try.prog tab := tabOk_of ⟨⟨⟨⟨⟨⟨⟨trivial, to1, trivial⟩, to2, trivial⟩, to3, ⟨⟨trivial, to4, trivial⟩, to5, trivial⟩⟩, to6, ⟨⟨⟨trivial, to9, trivial⟩, to10, trivial⟩, to11, ⟨⟨trivial, to12, trivial⟩, to15, trivial⟩⟩⟩, to16, ⟨⟨⟨⟨trivial, to17, trivial⟩, to21, trivial⟩, to22, ⟨⟨trivial, to23, trivial⟩, to24, trivial⟩⟩, to25, ⟨⟨⟨trivial, to26, trivial⟩, to27, trivial⟩, to28, ⟨⟨trivial, to29, trivial⟩, to30, trivial⟩⟩⟩⟩, to31, ⟨⟨⟨⟨⟨trivial, to32, trivial⟩, to33, trivial⟩, to34, ⟨⟨trivial, to35, trivial⟩, to36, trivial⟩⟩, to37, ⟨⟨⟨trivial, to38, trivial⟩, to39, trivial⟩, to40, ⟨⟨trivial, to41, trivial⟩, to42, trivial⟩⟩⟩, to43, ⟨⟨⟨⟨trivial, to44, trivial⟩, to45, trivial⟩, to46, ⟨⟨trivial, to47, trivial⟩, to48, trivial⟩⟩, to49, ⟨⟨⟨trivial, to50, trivial⟩, to51, trivial⟩, to52, ⟨⟨trivial, to53, trivial⟩, to54, trivial⟩⟩⟩⟩⟩, to55, ⟨⟨⟨⟨⟨⟨trivial, to56, trivial⟩, to57, trivial⟩, to58, ⟨⟨trivial, to59, trivial⟩, to60, trivial⟩⟩, to61, ⟨⟨⟨trivial, to62, trivial⟩, to63, trivial⟩, to64, ⟨⟨trivial, to65, trivial⟩, to66, trivial⟩⟩⟩, to67, ⟨⟨⟨⟨trivial, to68, trivial⟩, to69, trivial⟩, to70, ⟨⟨trivial, to71, trivial⟩, to72, trivial⟩⟩, to73, ⟨⟨⟨trivial, to74, trivial⟩, to75, trivial⟩, to76, ⟨⟨trivial, to77, trivial⟩, to78, trivial⟩⟩⟩⟩, to79, ⟨⟨⟨⟨⟨trivial, to80, trivial⟩, to81, trivial⟩, to82, ⟨⟨trivial, to83, trivial⟩, to84, trivial⟩⟩, to85, ⟨⟨⟨trivial, to86, trivial⟩, to87, trivial⟩, to88, ⟨⟨trivial, to89, trivial⟩, to90, trivial⟩⟩⟩, to93, ⟨⟨⟨⟨trivial, to96, trivial⟩, to97, trivial⟩, to98, ⟨⟨trivial, to99, trivial⟩, to100, trivial⟩⟩, to101, ⟨⟨⟨trivial, to102, trivial⟩, to103, trivial⟩, to104, ⟨trivial, to105, trivial⟩⟩⟩⟩⟩⟩
end Go.Proofs.Ytmlepfngcpekiaa
