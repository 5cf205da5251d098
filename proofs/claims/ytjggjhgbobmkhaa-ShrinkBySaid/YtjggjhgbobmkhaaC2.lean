/- Several texts of one claim in one file: TB E1. -/
import Derived.Test.YtjggjhgbobmkhaaC1
import Derived.Laws.Tables
/- The types of this program, as a table; each row is proved by the kernel. WRITTEN BY gentab.py. -/
namespace Go.Proofs.Ytjggjhgbobmkhaa
set_option maxRecDepth 100000
def ti1 : TI := ⟨(.func #[] #[] false), 1, 8, (.nilFunc)⟩
theorem to1 : EntryOk Try.prog 1 ti1 := ⟨Try.underlying1, by kernel_rfl⟩
def ti2 : TI := ⟨(.int .i64), 1, 8, (.int .i64 0)⟩
theorem to2 : EntryOk Try.prog 2 ti2 := ⟨Try.underlying2, by kernel_rfl⟩
def ti3 : TI := ⟨(.int .i64), 1, 8, (.int .i64 0)⟩
theorem to3 : EntryOk Try.prog 3 ti3 := ⟨Try.underlying3, by kernel_rfl⟩
def ti4 : TI := ⟨.bool, 1, 1, (.bool false)⟩
theorem to4 : EntryOk Try.prog 4 ti4 := ⟨Try.underlying4, by kernel_rfl⟩
def ti5 : TI := ⟨(.int .u8), 1, 1, (.int .u8 0)⟩
theorem to5 : EntryOk Try.prog 5 ti5 := ⟨Try.underlying5, by kernel_rfl⟩
def ti6 : TI := ⟨(.int .u8), 1, 1, (.int .u8 0)⟩
theorem to6 : EntryOk Try.prog 6 ti6 := ⟨Try.underlying6, by kernel_rfl⟩
def ti9 : TI := ⟨.string, 1, 16, (.string ByteArray.empty)⟩
theorem to9 : EntryOk Try.prog 9 ti9 := ⟨Try.underlying9, by kernel_rfl⟩
def ti10 : TI := ⟨.string, 1, 16, (.string ByteArray.empty)⟩
theorem to10 : EntryOk Try.prog 10 ti10 := ⟨Try.underlying10, by kernel_rfl⟩
def ti11 : TI := ⟨.string, 1, 16, (.string ByteArray.empty)⟩
theorem to11 : EntryOk Try.prog 11 ti11 := ⟨Try.underlying11, by kernel_rfl⟩
def ti12 : TI := ⟨(.int .u64), 1, 8, (.int .u64 0)⟩
theorem to12 : EntryOk Try.prog 12 ti12 := ⟨Try.underlying12, by kernel_rfl⟩
def ti15 : TI := ⟨(.pointer 140), 1, 8, (.pointer none)⟩
theorem to15 : EntryOk Try.prog 15 ti15 := ⟨Try.underlying15, by kernel_rfl⟩
def ti16 : TI := ⟨(.pointer 143), 1, 8, (.pointer none)⟩
theorem to16 : EntryOk Try.prog 16 ti16 := ⟨Try.underlying16, by kernel_rfl⟩
def ti17 : TI := ⟨(.pointer 151), 1, 8, (.pointer none)⟩
theorem to17 : EntryOk Try.prog 17 ti17 := ⟨Try.underlying17, by kernel_rfl⟩
def ti21 : TI := ⟨(.int .i32), 1, 4, (.int .i32 0)⟩
theorem to21 : EntryOk Try.prog 21 ti21 := ⟨Try.underlying21, by kernel_rfl⟩
def ti22 : TI := ⟨(.slice 66), 1, 24, (.slice none 0 0)⟩
theorem to22 : EntryOk Try.prog 22 ti22 := ⟨Try.underlying22, by kernel_rfl⟩
def ti23 : TI := ⟨(.struct #[{ name := "Vars", type := 5, offset := 0, embedded := false, tag := "", pkgPath := "", byteOffset := 0 }, { name := "Cells", type := 5, offset := 1, embedded := false, tag := "", pkgPath := "", byteOffset := 1 }, { name := "Acts", type := 22, offset := 2, embedded := false, tag := "", pkgPath := "", byteOffset := 8 }]), 3, 32, (.agg #[.int .u8 0, .int .u8 0, .slice none 0 0])⟩
theorem to23 : EntryOk Try.prog 23 ti23 := ⟨Try.underlying23, by kernel_rfl⟩
def ti24 : TI := ⟨(.struct #[{ name := "Vars", type := 5, offset := 0, embedded := false, tag := "", pkgPath := "", byteOffset := 0 }, { name := "Cells", type := 5, offset := 1, embedded := false, tag := "", pkgPath := "", byteOffset := 1 }, { name := "Acts", type := 22, offset := 2, embedded := false, tag := "", pkgPath := "", byteOffset := 8 }]), 3, 32, (.agg #[.int .u8 0, .int .u8 0, .slice none 0 0])⟩
theorem to24 : EntryOk Try.prog 24 ti24 := ⟨Try.underlying24, by kernel_rfl⟩
def ti25 : TI := ⟨(.func #[] #[4] false), 1, 8, (.nilFunc)⟩
theorem to25 : EntryOk Try.prog 25 ti25 := ⟨Try.underlying25, by kernel_rfl⟩
def ti26 : TI := ⟨(.slice 44), 1, 24, (.slice none 0 0)⟩
theorem to26 : EntryOk Try.prog 26 ti26 := ⟨Try.underlying26, by kernel_rfl⟩
def ti27 : TI := ⟨(.slice 46), 1, 24, (.slice none 0 0)⟩
theorem to27 : EntryOk Try.prog 27 ti27 := ⟨Try.underlying27, by kernel_rfl⟩
def ti28 : TI := ⟨(.struct #[{ name := "Vars", type := 3, offset := 0, embedded := false, tag := "", pkgPath := "", byteOffset := 0 }, { name := "Cells", type := 26, offset := 1, embedded := false, tag := "", pkgPath := "", byteOffset := 8 }, { name := "Cons", type := 27, offset := 2, embedded := false, tag := "", pkgPath := "", byteOffset := 32 }]), 3, 56, (.agg #[.int .i64 0, .slice none 0 0, .slice none 0 0])⟩
theorem to28 : EntryOk Try.prog 28 ti28 := ⟨Try.underlying28, by kernel_rfl⟩
def ti29 : TI := ⟨(.struct #[{ name := "Vars", type := 3, offset := 0, embedded := false, tag := "", pkgPath := "", byteOffset := 0 }, { name := "Cells", type := 26, offset := 1, embedded := false, tag := "", pkgPath := "", byteOffset := 8 }, { name := "Cons", type := 27, offset := 2, embedded := false, tag := "", pkgPath := "", byteOffset := 32 }]), 3, 56, (.agg #[.int .i64 0, .slice none 0 0, .slice none 0 0])⟩
theorem to29 : EntryOk Try.prog 29 ti29 := ⟨Try.underlying29, by kernel_rfl⟩
def ti30 : TI := ⟨(.func #[24] #[29] false), 1, 8, (.nilFunc)⟩
theorem to30 : EntryOk Try.prog 30 ti30 := ⟨Try.underlying30, by kernel_rfl⟩
def ti31 : TI := ⟨(.slice 3), 1, 24, (.slice none 0 0)⟩
theorem to31 : EntryOk Try.prog 31 ti31 := ⟨Try.underlying31, by kernel_rfl⟩
def ti32 : TI := ⟨(.func #[36, 3] #[31] false), 1, 8, (.nilFunc)⟩
theorem to32 : EntryOk Try.prog 32 ti32 := ⟨Try.underlying32, by kernel_rfl⟩
def ti33 : TI := ⟨(.slice 31), 1, 24, (.slice none 0 0)⟩
theorem to33 : EntryOk Try.prog 33 ti33 := ⟨Try.underlying33, by kernel_rfl⟩
def ti34 : TI := ⟨(.slice 4), 1, 24, (.slice none 0 0)⟩
theorem to34 : EntryOk Try.prog 34 ti34 := ⟨Try.underlying34, by kernel_rfl⟩
def ti35 : TI := ⟨(.struct #[{ name := "Vars", type := 3, offset := 0, embedded := false, tag := "", pkgPath := "", byteOffset := 0 }, { name := "Into", type := 33, offset := 1, embedded := false, tag := "", pkgPath := "", byteOffset := 8 }, { name := "Bases", type := 33, offset := 2, embedded := false, tag := "", pkgPath := "", byteOffset := 32 }, { name := "Loose", type := 34, offset := 3, embedded := false, tag := "", pkgPath := "", byteOffset := 56 }]), 4, 80, (.agg #[.int .i64 0, .slice none 0 0, .slice none 0 0, .slice none 0 0])⟩
theorem to35 : EntryOk Try.prog 35 ti35 := ⟨Try.underlying35, by kernel_rfl⟩
def ti36 : TI := ⟨(.struct #[{ name := "Vars", type := 3, offset := 0, embedded := false, tag := "", pkgPath := "", byteOffset := 0 }, { name := "Into", type := 33, offset := 1, embedded := false, tag := "", pkgPath := "", byteOffset := 8 }, { name := "Bases", type := 33, offset := 2, embedded := false, tag := "", pkgPath := "", byteOffset := 32 }, { name := "Loose", type := 34, offset := 3, embedded := false, tag := "", pkgPath := "", byteOffset := 56 }]), 4, 80, (.agg #[.int .i64 0, .slice none 0 0, .slice none 0 0, .slice none 0 0])⟩
theorem to36 : EntryOk Try.prog 36 ti36 := ⟨Try.underlying36, by kernel_rfl⟩
def ti37 : TI := ⟨(.func #[29] #[36] false), 1, 8, (.nilFunc)⟩
theorem to37 : EntryOk Try.prog 37 ti37 := ⟨Try.underlying37, by kernel_rfl⟩
def ti38 : TI := ⟨(.slice 34), 1, 24, (.slice none 0 0)⟩
theorem to38 : EntryOk Try.prog 38 ti38 := ⟨Try.underlying38, by kernel_rfl⟩
def ti39 : TI := ⟨(.func #[29] #[38] false), 1, 8, (.nilFunc)⟩
theorem to39 : EntryOk Try.prog 39 ti39 := ⟨Try.underlying39, by kernel_rfl⟩
def ti40 : TI := ⟨(.func #[34] #[4] false), 1, 8, (.nilFunc)⟩
theorem to40 : EntryOk Try.prog 40 ti40 := ⟨Try.underlying40, by kernel_rfl⟩
def ti41 : TI := ⟨(.func #[34, 34] #[4] false), 1, 8, (.nilFunc)⟩
theorem to41 : EntryOk Try.prog 41 ti41 := ⟨Try.underlying41, by kernel_rfl⟩
def ti42 : TI := ⟨(.func #[24] #[4] false), 1, 8, (.nilFunc)⟩
theorem to42 : EntryOk Try.prog 42 ti42 := ⟨Try.underlying42, by kernel_rfl⟩
def ti43 : TI := ⟨(.struct #[{ name := "Fun", type := 4, offset := 0, embedded := false, tag := "", pkgPath := "", byteOffset := 0 }, { name := "Var", type := 3, offset := 1, embedded := false, tag := "", pkgPath := "", byteOffset := 8 }, { name := "Args", type := 31, offset := 2, embedded := false, tag := "", pkgPath := "", byteOffset := 16 }]), 3, 40, (.agg #[.bool false, .int .i64 0, .slice none 0 0])⟩
theorem to43 : EntryOk Try.prog 43 ti43 := ⟨Try.underlying43, by kernel_rfl⟩
def ti44 : TI := ⟨(.struct #[{ name := "Fun", type := 4, offset := 0, embedded := false, tag := "", pkgPath := "", byteOffset := 0 }, { name := "Var", type := 3, offset := 1, embedded := false, tag := "", pkgPath := "", byteOffset := 8 }, { name := "Args", type := 31, offset := 2, embedded := false, tag := "", pkgPath := "", byteOffset := 16 }]), 3, 40, (.agg #[.bool false, .int .i64 0, .slice none 0 0])⟩
theorem to44 : EntryOk Try.prog 44 ti44 := ⟨Try.underlying44, by kernel_rfl⟩
def ti45 : TI := ⟨(.struct #[{ name := "Kind", type := 5, offset := 0, embedded := false, tag := "", pkgPath := "", byteOffset := 0 }, { name := "A", type := 3, offset := 1, embedded := false, tag := "", pkgPath := "", byteOffset := 8 }, { name := "B", type := 3, offset := 2, embedded := false, tag := "", pkgPath := "", byteOffset := 16 }, { name := "Args", type := 31, offset := 3, embedded := false, tag := "", pkgPath := "", byteOffset := 24 }]), 4, 48, (.agg #[.int .u8 0, .int .i64 0, .int .i64 0, .slice none 0 0])⟩
theorem to45 : EntryOk Try.prog 45 ti45 := ⟨Try.underlying45, by kernel_rfl⟩
def ti46 : TI := ⟨(.struct #[{ name := "Kind", type := 5, offset := 0, embedded := false, tag := "", pkgPath := "", byteOffset := 0 }, { name := "A", type := 3, offset := 1, embedded := false, tag := "", pkgPath := "", byteOffset := 8 }, { name := "B", type := 3, offset := 2, embedded := false, tag := "", pkgPath := "", byteOffset := 16 }, { name := "Args", type := 31, offset := 3, embedded := false, tag := "", pkgPath := "", byteOffset := 24 }]), 4, 48, (.agg #[.int .u8 0, .int .i64 0, .int .i64 0, .slice none 0 0])⟩
theorem to46 : EntryOk Try.prog 46 ti46 := ⟨Try.underlying46, by kernel_rfl⟩
def ti47 : TI := ⟨(.func #[5, 5] #[4] false), 1, 8, (.nilFunc)⟩
theorem to47 : EntryOk Try.prog 47 ti47 := ⟨Try.underlying47, by kernel_rfl⟩
def ti48 : TI := ⟨(.slice 50), 1, 24, (.slice none 0 0)⟩
theorem to48 : EntryOk Try.prog 48 ti48 := ⟨Try.underlying48, by kernel_rfl⟩
def ti49 : TI := ⟨(.func #[36, 3] #[48] false), 1, 8, (.nilFunc)⟩
theorem to49 : EntryOk Try.prog 49 ti49 := ⟨Try.underlying49, by kernel_rfl⟩
def ti50 : TI := ⟨(.pointer 76), 1, 8, (.pointer none)⟩
theorem to50 : EntryOk Try.prog 50 ti50 := ⟨Try.underlying50, by kernel_rfl⟩
def ti51 : TI := ⟨(.func #[3] #[4] false), 1, 8, (.nilFunc)⟩
theorem to51 : EntryOk Try.prog 51 ti51 := ⟨Try.underlying51, by kernel_rfl⟩
def ti52 : TI := ⟨(.func #[] #[3] false), 1, 8, (.nilFunc)⟩
theorem to52 : EntryOk Try.prog 52 ti52 := ⟨Try.underlying52, by kernel_rfl⟩
def ti53 : TI := ⟨(.func #[36] #[31] false), 1, 8, (.nilFunc)⟩
theorem to53 : EntryOk Try.prog 53 ti53 := ⟨Try.underlying53, by kernel_rfl⟩
def ti54 : TI := ⟨(.func #[29, 5] #[31] false), 1, 8, (.nilFunc)⟩
theorem to54 : EntryOk Try.prog 54 ti54 := ⟨Try.underlying54, by kernel_rfl⟩
def ti55 : TI := ⟨(.func #[24, 5] #[4] false), 1, 8, (.nilFunc)⟩
theorem to55 : EntryOk Try.prog 55 ti55 := ⟨Try.underlying55, by kernel_rfl⟩
def ti56 : TI := ⟨(.int .i64), 1, 8, (.int .i64 0)⟩
theorem to56 : EntryOk Try.prog 56 ti56 := ⟨Try.underlying56, by kernel_rfl⟩
def ti58 : TI := ⟨(.func #[29, 5] #[29, 31, 56] false), 1, 8, (.nilFunc)⟩
theorem to58 : EntryOk Try.prog 58 ti58 := ⟨Try.underlying58, by kernel_rfl⟩
def ti59 : TI := ⟨(.func #[29] #[4] false), 1, 8, (.nilFunc)⟩
theorem to59 : EntryOk Try.prog 59 ti59 := ⟨Try.underlying59, by kernel_rfl⟩
def ti60 : TI := ⟨(.func #[31, 31] #[4] false), 1, 8, (.nilFunc)⟩
theorem to60 : EntryOk Try.prog 60 ti60 := ⟨Try.underlying60, by kernel_rfl⟩
def ti61 : TI := ⟨(.func #[29, 29] #[4] false), 1, 8, (.nilFunc)⟩
theorem to61 : EntryOk Try.prog 61 ti61 := ⟨Try.underlying61, by kernel_rfl⟩
def ti62 : TI := ⟨(.func #[29] #[33] false), 1, 8, (.nilFunc)⟩
theorem to62 : EntryOk Try.prog 62 ti62 := ⟨Try.underlying62, by kernel_rfl⟩
def ti63 : TI := ⟨(.func #[29, 5] #[4] false), 1, 8, (.nilFunc)⟩
theorem to63 : EntryOk Try.prog 63 ti63 := ⟨Try.underlying63, by kernel_rfl⟩
def ti64 : TI := ⟨(.func #[24, 5, 5] #[4] false), 1, 8, (.nilFunc)⟩
theorem to64 : EntryOk Try.prog 64 ti64 := ⟨Try.underlying64, by kernel_rfl⟩
def ti65 : TI := ⟨(.struct #[{ name := "K", type := 5, offset := 0, embedded := false, tag := "", pkgPath := "", byteOffset := 0 }, { name := "A", type := 5, offset := 1, embedded := false, tag := "", pkgPath := "", byteOffset := 1 }, { name := "B", type := 5, offset := 2, embedded := false, tag := "", pkgPath := "", byteOffset := 2 }, { name := "C", type := 5, offset := 3, embedded := false, tag := "", pkgPath := "", byteOffset := 3 }]), 4, 4, (.agg #[.int .u8 0, .int .u8 0, .int .u8 0, .int .u8 0])⟩
theorem to65 : EntryOk Try.prog 65 ti65 := ⟨Try.underlying65, by kernel_rfl⟩
def ti66 : TI := ⟨(.struct #[{ name := "K", type := 5, offset := 0, embedded := false, tag := "", pkgPath := "", byteOffset := 0 }, { name := "A", type := 5, offset := 1, embedded := false, tag := "", pkgPath := "", byteOffset := 1 }, { name := "B", type := 5, offset := 2, embedded := false, tag := "", pkgPath := "", byteOffset := 2 }, { name := "C", type := 5, offset := 3, embedded := false, tag := "", pkgPath := "", byteOffset := 3 }]), 4, 4, (.agg #[.int .u8 0, .int .u8 0, .int .u8 0, .int .u8 0])⟩
theorem to66 : EntryOk Try.prog 66 ti66 := ⟨Try.underlying66, by kernel_rfl⟩
def ti67 : TI := ⟨(.map 9 3), 1, 8, (.map none)⟩
theorem to67 : EntryOk Try.prog 67 ti67 := ⟨Try.underlying67, by kernel_rfl⟩
def ti68 : TI := ⟨(.func #[] #[9] false), 1, 8, (.nilFunc)⟩
theorem to68 : EntryOk Try.prog 68 ti68 := ⟨Try.underlying68, by kernel_rfl⟩
def ti70 : TI := ⟨(.func #[29] #[34] false), 1, 8, (.nilFunc)⟩
theorem to70 : EntryOk Try.prog 70 ti70 := ⟨Try.underlying70, by kernel_rfl⟩
def ti71 : TI := ⟨(.func #[29, 3] #[4] false), 1, 8, (.nilFunc)⟩
theorem to71 : EntryOk Try.prog 71 ti71 := ⟨Try.underlying71, by kernel_rfl⟩
def ti73 : TI := ⟨(.func #[33] #[33, 31] false), 1, 8, (.nilFunc)⟩
theorem to73 : EntryOk Try.prog 73 ti73 := ⟨Try.underlying73, by kernel_rfl⟩
def ti74 : TI := ⟨(.slice 82), 1, 24, (.slice none 0 0)⟩
theorem to74 : EntryOk Try.prog 74 ti74 := ⟨Try.underlying74, by kernel_rfl⟩
def ti75 : TI := ⟨(.struct #[{ name := "l", type := 74, offset := 0, embedded := false, tag := "", pkgPath := "weathervane/pile", byteOffset := 0 }]), 1, 24, (.agg #[.slice none 0 0])⟩
theorem to75 : EntryOk Try.prog 75 ti75 := ⟨Try.underlying75, by kernel_rfl⟩
def ti76 : TI := ⟨(.struct #[{ name := "l", type := 74, offset := 0, embedded := false, tag := "", pkgPath := "weathervane/pile", byteOffset := 0 }]), 1, 24, (.agg #[.slice none 0 0])⟩
theorem to76 : EntryOk Try.prog 76 ti76 := ⟨Try.underlying76, by kernel_rfl⟩
def ti77 : TI := ⟨(.func #[50] #[4] false), 1, 8, (.nilFunc)⟩
theorem to77 : EntryOk Try.prog 77 ti77 := ⟨Try.underlying77, by kernel_rfl⟩
def ti78 : TI := ⟨(.func #[31] #[50] true), 1, 8, (.nilFunc)⟩
theorem to78 : EntryOk Try.prog 78 ti78 := ⟨Try.underlying78, by kernel_rfl⟩
def ti79 : TI := ⟨(.func #[3] #[3, 4] false), 1, 8, (.nilFunc)⟩
theorem to79 : EntryOk Try.prog 79 ti79 := ⟨Try.underlying79, by kernel_rfl⟩
def ti80 : TI := ⟨(.int .u64), 1, 8, (.int .u64 0)⟩
theorem to80 : EntryOk Try.prog 80 ti80 := ⟨Try.underlying80, by kernel_rfl⟩
def ti81 : TI := ⟨(.struct #[{ name := "at", type := 3, offset := 0, embedded := false, tag := "", pkgPath := "weathervane/pile", byteOffset := 0 }, { name := "w", type := 80, offset := 1, embedded := false, tag := "", pkgPath := "weathervane/pile", byteOffset := 8 }]), 2, 16, (.agg #[.int .i64 0, .int .u64 0])⟩
theorem to81 : EntryOk Try.prog 81 ti81 := ⟨Try.underlying81, by kernel_rfl⟩
def ti82 : TI := ⟨(.struct #[{ name := "at", type := 3, offset := 0, embedded := false, tag := "", pkgPath := "weathervane/pile", byteOffset := 0 }, { name := "w", type := 80, offset := 1, embedded := false, tag := "", pkgPath := "weathervane/pile", byteOffset := 8 }]), 2, 16, (.agg #[.int .i64 0, .int .u64 0])⟩
theorem to82 : EntryOk Try.prog 82 ti82 := ⟨Try.underlying82, by kernel_rfl⟩
def ti83 : TI := ⟨(.func #[80] #[3] false), 1, 8, (.nilFunc)⟩
theorem to83 : EntryOk Try.prog 83 ti83 := ⟨Try.underlying83, by kernel_rfl⟩
def ti84 : TI := ⟨(.map 3 3), 1, 8, (.map none)⟩
theorem to84 : EntryOk Try.prog 84 ti84 := ⟨Try.underlying84, by kernel_rfl⟩
def ti85 : TI := ⟨(.map 3 4), 1, 8, (.map none)⟩
theorem to85 : EntryOk Try.prog 85 ti85 := ⟨Try.underlying85, by kernel_rfl⟩
def ti86 : TI := ⟨(.func #[85, 85, 4, 84, 52] #[3] false), 1, 8, (.nilFunc)⟩
theorem to86 : EntryOk Try.prog 86 ti86 := ⟨Try.underlying86, by kernel_rfl⟩
def ti88 : TI := ⟨(.func #[29, 31, 4] #[29, 31] false), 1, 8, (.nilFunc)⟩
theorem to88 : EntryOk Try.prog 88 ti88 := ⟨Try.underlying88, by kernel_rfl⟩
def ti89 : TI := ⟨(.func #[3, 3, 3] #[4] false), 1, 8, (.nilFunc)⟩
theorem to89 : EntryOk Try.prog 89 ti89 := ⟨Try.underlying89, by kernel_rfl⟩
def ti90 : TI := ⟨(.func #[29, 38] #[4] false), 1, 8, (.nilFunc)⟩
theorem to90 : EntryOk Try.prog 90 ti90 := ⟨Try.underlying90, by kernel_rfl⟩
def ti91 : TI := ⟨(.slice 5), 1, 24, (.slice none 0 0)⟩
theorem to91 : EntryOk Try.prog 91 ti91 := ⟨Try.underlying91, by kernel_rfl⟩
def ti92 : TI := ⟨(.func #[] #[74] false), 1, 8, (.nilFunc)⟩
theorem to92 : EntryOk Try.prog 92 ti92 := ⟨Try.underlying92, by kernel_rfl⟩
def ti93 : TI := ⟨(.func #[44, 3] #[4] false), 1, 8, (.nilFunc)⟩
theorem to93 : EntryOk Try.prog 93 ti93 := ⟨Try.underlying93, by kernel_rfl⟩
def ti94 : TI := ⟨(.func #[46, 3, 3] #[4] false), 1, 8, (.nilFunc)⟩
theorem to94 : EntryOk Try.prog 94 ti94 := ⟨Try.underlying94, by kernel_rfl⟩
def ti95 : TI := ⟨(.func #[3] #[] false), 1, 8, (.nilFunc)⟩
theorem to95 : EntryOk Try.prog 95 ti95 := ⟨Try.underlying95, by kernel_rfl⟩
def ti96 : TI := ⟨(.pointer 98), 1, 8, (.pointer none)⟩
theorem to96 : EntryOk Try.prog 96 ti96 := ⟨Try.underlying96, by kernel_rfl⟩
def ti97 : TI := ⟨(.struct #[{ name := "into", type := 33, offset := 0, embedded := false, tag := "", pkgPath := "weathervane/knot", byteOffset := 0 }, { name := "index", type := 31, offset := 1, embedded := false, tag := "", pkgPath := "weathervane/knot", byteOffset := 24 }, { name := "low", type := 31, offset := 2, embedded := false, tag := "", pkgPath := "weathervane/knot", byteOffset := 48 }, { name := "on", type := 34, offset := 3, embedded := false, tag := "", pkgPath := "weathervane/knot", byteOffset := 72 }, { name := "stack", type := 31, offset := 4, embedded := false, tag := "", pkgPath := "weathervane/knot", byteOffset := 96 }, { name := "of", type := 31, offset := 5, embedded := false, tag := "", pkgPath := "weathervane/knot", byteOffset := 120 }, { name := "n", type := 3, offset := 6, embedded := false, tag := "", pkgPath := "weathervane/knot", byteOffset := 144 }, { name := "knots", type := 33, offset := 7, embedded := false, tag := "", pkgPath := "weathervane/knot", byteOffset := 152 }]), 8, 176, (.agg #[.slice none 0 0, .slice none 0 0, .slice none 0 0, .slice none 0 0, .slice none 0 0, .slice none 0 0, .int .i64 0, .slice none 0 0])⟩
theorem to97 : EntryOk Try.prog 97 ti97 := ⟨Try.underlying97, by kernel_rfl⟩
def ti98 : TI := ⟨(.struct #[{ name := "into", type := 33, offset := 0, embedded := false, tag := "", pkgPath := "weathervane/knot", byteOffset := 0 }, { name := "index", type := 31, offset := 1, embedded := false, tag := "", pkgPath := "weathervane/knot", byteOffset := 24 }, { name := "low", type := 31, offset := 2, embedded := false, tag := "", pkgPath := "weathervane/knot", byteOffset := 48 }, { name := "on", type := 34, offset := 3, embedded := false, tag := "", pkgPath := "weathervane/knot", byteOffset := 72 }, { name := "stack", type := 31, offset := 4, embedded := false, tag := "", pkgPath := "weathervane/knot", byteOffset := 96 }, { name := "of", type := 31, offset := 5, embedded := false, tag := "", pkgPath := "weathervane/knot", byteOffset := 120 }, { name := "n", type := 3, offset := 6, embedded := false, tag := "", pkgPath := "weathervane/knot", byteOffset := 144 }, { name := "knots", type := 33, offset := 7, embedded := false, tag := "", pkgPath := "weathervane/knot", byteOffset := 152 }]), 8, 176, (.agg #[.slice none 0 0, .slice none 0 0, .slice none 0 0, .slice none 0 0, .slice none 0 0, .slice none 0 0, .int .i64 0, .slice none 0 0])⟩
theorem to98 : EntryOk Try.prog 98 ti98 := ⟨Try.underlying98, by kernel_rfl⟩
def ti99 : TI := ⟨(.func #[74, 3, 74] #[74] true), 1, 8, (.nilFunc)⟩
theorem to99 : EntryOk Try.prog 99 ti99 := ⟨Try.underlying99, by kernel_rfl⟩
def ti100 : TI := ⟨(.func #[74, 3, 101] #[3, 4] false), 1, 8, (.nilFunc)⟩
theorem to100 : EntryOk Try.prog 100 ti100 := ⟨Try.underlying100, by kernel_rfl⟩
def ti101 : TI := ⟨(.func #[82, 3] #[3] false), 1, 8, (.nilFunc)⟩
theorem to101 : EntryOk Try.prog 101 ti101 := ⟨Try.underlying101, by kernel_rfl⟩
def ti102 : TI := ⟨(.int .u64), 1, 8, (.int .u64 0)⟩
theorem to102 : EntryOk Try.prog 102 ti102 := ⟨Try.underlying102, by kernel_rfl⟩
def ti103 : TI := ⟨(.func #[3] #[3] false), 1, 8, (.nilFunc)⟩
theorem to103 : EntryOk Try.prog 103 ti103 := ⟨Try.underlying103, by kernel_rfl⟩
def ti104 : TI := ⟨(.func #[31] #[31] false), 1, 8, (.nilFunc)⟩
theorem to104 : EntryOk Try.prog 104 ti104 := ⟨Try.underlying104, by kernel_rfl⟩
def ti105 : TI := ⟨(.map 9 4), 1, 8, (.map none)⟩
theorem to105 : EntryOk Try.prog 105 ti105 := ⟨Try.underlying105, by kernel_rfl⟩
def ti106 : TI := ⟨(.func #[46] #[9] false), 1, 8, (.nilFunc)⟩
theorem to106 : EntryOk Try.prog 106 ti106 := ⟨Try.underlying106, by kernel_rfl⟩
def ti107 : TI := ⟨(.func #[46] #[4] false), 1, 8, (.nilFunc)⟩
theorem to107 : EntryOk Try.prog 107 ti107 := ⟨Try.underlying107, by kernel_rfl⟩
def ti108 : TI := ⟨(.func #[38, 3, 3] #[4] false), 1, 8, (.nilFunc)⟩
theorem to108 : EntryOk Try.prog 108 ti108 := ⟨Try.underlying108, by kernel_rfl⟩
def ti109 : TI := ⟨(.struct #[{ name := "node", type := 3, offset := 0, embedded := false, tag := "", pkgPath := "weathervane/knot", byteOffset := 0 }, { name := "next", type := 3, offset := 1, embedded := false, tag := "", pkgPath := "weathervane/knot", byteOffset := 8 }]), 2, 16, (.agg #[.int .i64 0, .int .i64 0])⟩
theorem to109 : EntryOk Try.prog 109 ti109 := ⟨Try.underlying109, by kernel_rfl⟩
def ti110 : TI := ⟨(.struct #[{ name := "node", type := 3, offset := 0, embedded := false, tag := "", pkgPath := "weathervane/knot", byteOffset := 0 }, { name := "next", type := 3, offset := 1, embedded := false, tag := "", pkgPath := "weathervane/knot", byteOffset := 8 }]), 2, 16, (.agg #[.int .i64 0, .int .i64 0])⟩
theorem to110 : EntryOk Try.prog 110 ti110 := ⟨Try.underlying110, by kernel_rfl⟩
def ti111 : TI := ⟨(.func #[3] #[110] false), 1, 8, (.nilFunc)⟩
theorem to111 : EntryOk Try.prog 111 ti111 := ⟨Try.underlying111, by kernel_rfl⟩
def ti112 : TI := ⟨(.slice 110), 1, 24, (.slice none 0 0)⟩
theorem to112 : EntryOk Try.prog 112 ti112 := ⟨Try.underlying112, by kernel_rfl⟩
def ti113 : TI := ⟨(.pointer 110), 1, 8, (.pointer none)⟩
theorem to113 : EntryOk Try.prog 113 ti113 := ⟨Try.underlying113, by kernel_rfl⟩
def ti114 : TI := ⟨(.func #[74, 74] #[4] false), 1, 8, (.nilFunc)⟩
theorem to114 : EntryOk Try.prog 114 ti114 := ⟨Try.underlying114, by kernel_rfl⟩
def ti115 : TI := ⟨(.func #[74, 3] #[] false), 1, 8, (.nilFunc)⟩
theorem to115 : EntryOk Try.prog 115 ti115 := ⟨Try.underlying115, by kernel_rfl⟩
def ti116 : TI := ⟨(.func #[31] #[] false), 1, 8, (.nilFunc)⟩
theorem to116 : EntryOk Try.prog 116 ti116 := ⟨Try.underlying116, by kernel_rfl⟩
def ti117 : TI := ⟨(.func #[31, 3, 3, 3] #[] false), 1, 8, (.nilFunc)⟩
theorem to117 : EntryOk Try.prog 117 ti117 := ⟨Try.underlying117, by kernel_rfl⟩
def ti118 : TI := ⟨(.func #[102] #[3] false), 1, 8, (.nilFunc)⟩
theorem to118 : EntryOk Try.prog 118 ti118 := ⟨Try.underlying118, by kernel_rfl⟩
def ti119 : TI := ⟨(.func #[74] #[] false), 1, 8, (.nilFunc)⟩
theorem to119 : EntryOk Try.prog 119 ti119 := ⟨Try.underlying119, by kernel_rfl⟩
def ti120 : TI := ⟨(.func #[31, 3, 3] #[] false), 1, 8, (.nilFunc)⟩
theorem to120 : EntryOk Try.prog 120 ti120 := ⟨Try.underlying120, by kernel_rfl⟩
def ti121 : TI := ⟨(.int .i64), 1, 8, (.int .i64 0)⟩
theorem to121 : EntryOk Try.prog 121 ti121 := ⟨Try.underlying121, by kernel_rfl⟩
def ti123 : TI := ⟨(.func #[31, 3, 3] #[3, 121] false), 1, 8, (.nilFunc)⟩
theorem to123 : EntryOk Try.prog 123 ti123 := ⟨Try.underlying123, by kernel_rfl⟩
def ti124 : TI := ⟨(.func #[31, 3, 3] #[4] false), 1, 8, (.nilFunc)⟩
theorem to124 : EntryOk Try.prog 124 ti124 := ⟨Try.underlying124, by kernel_rfl⟩
def ti125 : TI := ⟨(.func #[3, 3] #[4] false), 1, 8, (.nilFunc)⟩
theorem to125 : EntryOk Try.prog 125 ti125 := ⟨Try.underlying125, by kernel_rfl⟩
def ti126 : TI := ⟨(.func #[31, 3, 3, 3] #[3] false), 1, 8, (.nilFunc)⟩
theorem to126 : EntryOk Try.prog 126 ti126 := ⟨Try.underlying126, by kernel_rfl⟩
def ti127 : TI := ⟨(.func #[31, 3, 3, 3] #[3, 4] false), 1, 8, (.nilFunc)⟩
theorem to127 : EntryOk Try.prog 127 ti127 := ⟨Try.underlying127, by kernel_rfl⟩
def ti128 : TI := ⟨(.func #[129] #[3] false), 1, 8, (.nilFunc)⟩
theorem to128 : EntryOk Try.prog 128 ti128 := ⟨Try.underlying128, by kernel_rfl⟩
def ti129 : TI := ⟨(.int .u32), 1, 4, (.int .u32 0)⟩
theorem to129 : EntryOk Try.prog 129 ti129 := ⟨Try.underlying129, by kernel_rfl⟩
def ti130 : TI := ⟨(.int .u64), 1, 8, (.int .u64 0)⟩
theorem to130 : EntryOk Try.prog 130 ti130 := ⟨Try.underlying130, by kernel_rfl⟩
def ti131 : TI := ⟨(.func #[3] #[102] false), 1, 8, (.nilFunc)⟩
theorem to131 : EntryOk Try.prog 131 ti131 := ⟨Try.underlying131, by kernel_rfl⟩
def ti132 : TI := ⟨(.func #[] #[80] false), 1, 8, (.nilFunc)⟩
theorem to132 : EntryOk Try.prog 132 ti132 := ⟨Try.underlying132, by kernel_rfl⟩
def ti133 : TI := ⟨(.func #[31, 3, 134] #[3] false), 1, 8, (.nilFunc)⟩
theorem to133 : EntryOk Try.prog 133 ti133 := ⟨Try.underlying133, by kernel_rfl⟩
def ti134 : TI := ⟨(.pointer 3), 1, 8, (.pointer none)⟩
theorem to134 : EntryOk Try.prog 134 ti134 := ⟨Try.underlying134, by kernel_rfl⟩
def ti135 : TI := ⟨(.func #[31, 3, 3, 3, 134] #[3] false), 1, 8, (.nilFunc)⟩
theorem to135 : EntryOk Try.prog 135 ti135 := ⟨Try.underlying135, by kernel_rfl⟩
def ti136 : TI := ⟨(.pointer 130), 1, 8, (.pointer none)⟩
theorem to136 : EntryOk Try.prog 136 ti136 := ⟨Try.underlying136, by kernel_rfl⟩
def ti138 : TI := ⟨(.func #[31, 3, 3, 134] #[3, 3] false), 1, 8, (.nilFunc)⟩
theorem to138 : EntryOk Try.prog 138 ti138 := ⟨Try.underlying138, by kernel_rfl⟩
def ti141 : TI := ⟨(.array 0 16), 0, 0, (.agg #[])⟩
theorem to141 : EntryOk Try.prog 141 ti141 := ⟨Try.underlying141, by kernel_rfl⟩
def ti144 : TI := ⟨(.int .u8), 1, 1, (.int .u8 0)⟩
theorem to144 : EntryOk Try.prog 144 ti144 := ⟨Try.underlying144, by kernel_rfl⟩
def ti145 : TI := ⟨(.int .u8), 1, 1, (.int .u8 0)⟩
theorem to145 : EntryOk Try.prog 145 ti145 := ⟨Try.underlying145, by kernel_rfl⟩
def ti146 : TI := ⟨(.func #[152, 152] #[4] false), 1, 8, (.nilFunc)⟩
theorem to146 : EntryOk Try.prog 146 ti146 := ⟨Try.underlying146, by kernel_rfl⟩
def ti147 : TI := ⟨(.pointer 5), 1, 8, (.pointer none)⟩
theorem to147 : EntryOk Try.prog 147 ti147 := ⟨Try.underlying147, by kernel_rfl⟩
def ti148 : TI := ⟨(.int .i32), 1, 4, (.int .i32 0)⟩
theorem to148 : EntryOk Try.prog 148 ti148 := ⟨Try.underlying148, by kernel_rfl⟩
def ti149 : TI := ⟨(.int .i32), 1, 4, (.int .i32 0)⟩
theorem to149 : EntryOk Try.prog 149 ti149 := ⟨Try.underlying149, by kernel_rfl⟩
def ti150 : TI := ⟨(.struct #[{ name := "Size_", type := 12, offset := 0, embedded := false, tag := "", pkgPath := "", byteOffset := 0 }, { name := "PtrBytes", type := 12, offset := 1, embedded := false, tag := "", pkgPath := "", byteOffset := 8 }, { name := "Hash", type := 129, offset := 2, embedded := false, tag := "", pkgPath := "", byteOffset := 16 }, { name := "TFlag", type := 144, offset := 3, embedded := false, tag := "", pkgPath := "", byteOffset := 20 }, { name := "Align_", type := 5, offset := 4, embedded := false, tag := "", pkgPath := "", byteOffset := 21 }, { name := "FieldAlign_", type := 5, offset := 5, embedded := false, tag := "", pkgPath := "", byteOffset := 22 }, { name := "Kind_", type := 145, offset := 6, embedded := false, tag := "", pkgPath := "", byteOffset := 23 }, { name := "Equal", type := 146, offset := 7, embedded := false, tag := "", pkgPath := "", byteOffset := 24 }, { name := "GCData", type := 147, offset := 8, embedded := false, tag := "", pkgPath := "", byteOffset := 32 }, { name := "Str", type := 148, offset := 9, embedded := false, tag := "", pkgPath := "", byteOffset := 40 }, { name := "PtrToThis", type := 149, offset := 10, embedded := false, tag := "", pkgPath := "", byteOffset := 44 }]), 11, 48, (.agg #[.int .u64 0, .int .u64 0, .int .u32 0, .int .u8 0, .int .u8 0, .int .u8 0, .int .u8 0, .nilFunc, .pointer none, .int .i32 0, .int .i32 0])⟩
theorem to150 : EntryOk Try.prog 150 ti150 := ⟨Try.underlying150, by kernel_rfl⟩
def ti151 : TI := ⟨(.struct #[{ name := "Size_", type := 12, offset := 0, embedded := false, tag := "", pkgPath := "", byteOffset := 0 }, { name := "PtrBytes", type := 12, offset := 1, embedded := false, tag := "", pkgPath := "", byteOffset := 8 }, { name := "Hash", type := 129, offset := 2, embedded := false, tag := "", pkgPath := "", byteOffset := 16 }, { name := "TFlag", type := 144, offset := 3, embedded := false, tag := "", pkgPath := "", byteOffset := 20 }, { name := "Align_", type := 5, offset := 4, embedded := false, tag := "", pkgPath := "", byteOffset := 21 }, { name := "FieldAlign_", type := 5, offset := 5, embedded := false, tag := "", pkgPath := "", byteOffset := 22 }, { name := "Kind_", type := 145, offset := 6, embedded := false, tag := "", pkgPath := "", byteOffset := 23 }, { name := "Equal", type := 146, offset := 7, embedded := false, tag := "", pkgPath := "", byteOffset := 24 }, { name := "GCData", type := 147, offset := 8, embedded := false, tag := "", pkgPath := "", byteOffset := 32 }, { name := "Str", type := 148, offset := 9, embedded := false, tag := "", pkgPath := "", byteOffset := 40 }, { name := "PtrToThis", type := 149, offset := 10, embedded := false, tag := "", pkgPath := "", byteOffset := 44 }]), 11, 48, (.agg #[.int .u64 0, .int .u64 0, .int .u32 0, .int .u8 0, .int .u8 0, .int .u8 0, .int .u8 0, .nilFunc, .pointer none, .int .i32 0, .int .i32 0])⟩
theorem to151 : EntryOk Try.prog 151 ti151 := ⟨Try.underlying151, by kernel_rfl⟩
def tab : Nat → Option TI := lookT (.node (.node (.node (.node (.node (.node (.node (.node .leaf 1 ti1 .leaf) 2 ti2 .leaf) 3 ti3 (.node .leaf 4 ti4 .leaf)) 5 ti5 (.node (.node .leaf 6 ti6 .leaf) 9 ti9 (.node .leaf 10 ti10 .leaf))) 11 ti11 (.node (.node (.node .leaf 12 ti12 .leaf) 15 ti15 (.node .leaf 16 ti16 .leaf)) 17 ti17 (.node (.node .leaf 21 ti21 .leaf) 22 ti22 (.node .leaf 23 ti23 .leaf)))) 24 ti24 (.node (.node (.node (.node (.node .leaf 25 ti25 .leaf) 26 ti26 .leaf) 27 ti27 (.node .leaf 28 ti28 .leaf)) 29 ti29 (.node (.node .leaf 30 ti30 .leaf) 31 ti31 (.node .leaf 32 ti32 .leaf))) 33 ti33 (.node (.node (.node .leaf 34 ti34 .leaf) 35 ti35 (.node .leaf 36 ti36 .leaf)) 37 ti37 (.node (.node .leaf 38 ti38 .leaf) 39 ti39 (.node .leaf 40 ti40 .leaf))))) 41 ti41 (.node (.node (.node (.node (.node (.node .leaf 42 ti42 .leaf) 43 ti43 .leaf) 44 ti44 (.node .leaf 45 ti45 .leaf)) 46 ti46 (.node (.node .leaf 47 ti47 .leaf) 48 ti48 (.node .leaf 49 ti49 .leaf))) 50 ti50 (.node (.node (.node .leaf 51 ti51 .leaf) 52 ti52 (.node .leaf 53 ti53 .leaf)) 54 ti54 (.node (.node .leaf 55 ti55 .leaf) 56 ti56 (.node .leaf 58 ti58 .leaf)))) 59 ti59 (.node (.node (.node (.node (.node .leaf 60 ti60 .leaf) 61 ti61 .leaf) 62 ti62 (.node .leaf 63 ti63 .leaf)) 64 ti64 (.node (.node .leaf 65 ti65 .leaf) 66 ti66 (.node .leaf 67 ti67 .leaf))) 68 ti68 (.node (.node (.node .leaf 70 ti70 .leaf) 71 ti71 (.node .leaf 73 ti73 .leaf)) 74 ti74 (.node (.node .leaf 75 ti75 .leaf) 76 ti76 (.node .leaf 77 ti77 .leaf)))))) 78 ti78 (.node (.node (.node (.node (.node (.node (.node .leaf 79 ti79 .leaf) 80 ti80 .leaf) 81 ti81 (.node .leaf 82 ti82 .leaf)) 83 ti83 (.node (.node .leaf 84 ti84 .leaf) 85 ti85 (.node .leaf 86 ti86 .leaf))) 88 ti88 (.node (.node (.node .leaf 89 ti89 .leaf) 90 ti90 (.node .leaf 91 ti91 .leaf)) 92 ti92 (.node (.node .leaf 93 ti93 .leaf) 94 ti94 (.node .leaf 95 ti95 .leaf)))) 96 ti96 (.node (.node (.node (.node (.node .leaf 97 ti97 .leaf) 98 ti98 .leaf) 99 ti99 (.node .leaf 100 ti100 .leaf)) 101 ti101 (.node (.node .leaf 102 ti102 .leaf) 103 ti103 (.node .leaf 104 ti104 .leaf))) 105 ti105 (.node (.node (.node .leaf 106 ti106 .leaf) 107 ti107 (.node .leaf 108 ti108 .leaf)) 109 ti109 (.node (.node .leaf 110 ti110 .leaf) 111 ti111 (.node .leaf 112 ti112 .leaf))))) 113 ti113 (.node (.node (.node (.node (.node (.node .leaf 114 ti114 .leaf) 115 ti115 .leaf) 116 ti116 (.node .leaf 117 ti117 .leaf)) 118 ti118 (.node (.node .leaf 119 ti119 .leaf) 120 ti120 (.node .leaf 121 ti121 .leaf))) 123 ti123 (.node (.node (.node .leaf 124 ti124 .leaf) 125 ti125 (.node .leaf 126 ti126 .leaf)) 127 ti127 (.node (.node .leaf 128 ti128 .leaf) 129 ti129 (.node .leaf 130 ti130 .leaf)))) 131 ti131 (.node (.node (.node (.node .leaf 132 ti132 .leaf) 133 ti133 (.node .leaf 134 ti134 .leaf)) 135 ti135 (.node (.node .leaf 136 ti136 .leaf) 138 ti138 (.node .leaf 141 ti141 .leaf))) 144 ti144 (.node (.node (.node .leaf 145 ti145 .leaf) 146 ti146 (.node .leaf 147 ti147 .leaf)) 148 ti148 (.node (.node .leaf 149 ti149 .leaf) 150 ti150 (.node .leaf 151 ti151 .leaf)))))))
theorem tabOk : TabOk Try.prog tab := tabOk_of ⟨⟨⟨⟨⟨⟨⟨⟨trivial, to1, trivial⟩, to2, trivial⟩, to3, ⟨trivial, to4, trivial⟩⟩, to5, ⟨⟨trivial, to6, trivial⟩, to9, ⟨trivial, to10, trivial⟩⟩⟩, to11, ⟨⟨⟨trivial, to12, trivial⟩, to15, ⟨trivial, to16, trivial⟩⟩, to17, ⟨⟨trivial, to21, trivial⟩, to22, ⟨trivial, to23, trivial⟩⟩⟩⟩, to24, ⟨⟨⟨⟨⟨trivial, to25, trivial⟩, to26, trivial⟩, to27, ⟨trivial, to28, trivial⟩⟩, to29, ⟨⟨trivial, to30, trivial⟩, to31, ⟨trivial, to32, trivial⟩⟩⟩, to33, ⟨⟨⟨trivial, to34, trivial⟩, to35, ⟨trivial, to36, trivial⟩⟩, to37, ⟨⟨trivial, to38, trivial⟩, to39, ⟨trivial, to40, trivial⟩⟩⟩⟩⟩, to41, ⟨⟨⟨⟨⟨⟨trivial, to42, trivial⟩, to43, trivial⟩, to44, ⟨trivial, to45, trivial⟩⟩, to46, ⟨⟨trivial, to47, trivial⟩, to48, ⟨trivial, to49, trivial⟩⟩⟩, to50, ⟨⟨⟨trivial, to51, trivial⟩, to52, ⟨trivial, to53, trivial⟩⟩, to54, ⟨⟨trivial, to55, trivial⟩, to56, ⟨trivial, to58, trivial⟩⟩⟩⟩, to59, ⟨⟨⟨⟨⟨trivial, to60, trivial⟩, to61, trivial⟩, to62, ⟨trivial, to63, trivial⟩⟩, to64, ⟨⟨trivial, to65, trivial⟩, to66, ⟨trivial, to67, trivial⟩⟩⟩, to68, ⟨⟨⟨trivial, to70, trivial⟩, to71, ⟨trivial, to73, trivial⟩⟩, to74, ⟨⟨trivial, to75, trivial⟩, to76, ⟨trivial, to77, trivial⟩⟩⟩⟩⟩⟩, to78, ⟨⟨⟨⟨⟨⟨⟨trivial, to79, trivial⟩, to80, trivial⟩, to81, ⟨trivial, to82, trivial⟩⟩, to83, ⟨⟨trivial, to84, trivial⟩, to85, ⟨trivial, to86, trivial⟩⟩⟩, to88, ⟨⟨⟨trivial, to89, trivial⟩, to90, ⟨trivial, to91, trivial⟩⟩, to92, ⟨⟨trivial, to93, trivial⟩, to94, ⟨trivial, to95, trivial⟩⟩⟩⟩, to96, ⟨⟨⟨⟨⟨trivial, to97, trivial⟩, to98, trivial⟩, to99, ⟨trivial, to100, trivial⟩⟩, to101, ⟨⟨trivial, to102, trivial⟩, to103, ⟨trivial, to104, trivial⟩⟩⟩, to105, ⟨⟨⟨trivial, to106, trivial⟩, to107, ⟨trivial, to108, trivial⟩⟩, to109, ⟨⟨trivial, to110, trivial⟩, to111, ⟨trivial, to112, trivial⟩⟩⟩⟩⟩, to113, ⟨⟨⟨⟨⟨⟨trivial, to114, trivial⟩, to115, trivial⟩, to116, ⟨trivial, to117, trivial⟩⟩, to118, ⟨⟨trivial, to119, trivial⟩, to120, ⟨trivial, to121, trivial⟩⟩⟩, to123, ⟨⟨⟨trivial, to124, trivial⟩, to125, ⟨trivial, to126, trivial⟩⟩, to127, ⟨⟨trivial, to128, trivial⟩, to129, ⟨trivial, to130, trivial⟩⟩⟩⟩, to131, ⟨⟨⟨⟨trivial, to132, trivial⟩, to133, ⟨trivial, to134, trivial⟩⟩, to135, ⟨⟨trivial, to136, trivial⟩, to138, ⟨trivial, to141, trivial⟩⟩⟩, to144, ⟨⟨⟨trivial, to145, trivial⟩, to146, ⟨trivial, to147, trivial⟩⟩, to148, ⟨⟨trivial, to149, trivial⟩, to150, ⟨trivial, to151, trivial⟩⟩⟩⟩⟩⟩⟩
end Go.Proofs.Ytjggjhgbobmkhaa

/- Operations, each by one lemma. -/
namespace Go.Proofs.Ytjggjhgbobmkhaa
open Go.RowKit
set_option linter.unusedVariables false
set_option linter.unusedSimpArgs false

/-! ### operations that look at no memory -/
/-- A value laid open. -/
def opn : Value → Option Value
  | .bool b => some (.bool b)
  | .int k n => some (.int k n)
  | .float k b => some (.float k b)
  | .complex k x y => some (.complex k x y)
  | .string s => some (.string s)
  | .pointer a => some (.pointer a)
  | .slice a n c => some (.slice a n c)
  | .map r => some (.map r)
  | .chan r => some (.chan r)
  | .func f a c => some (.func f a c)
  | .nilFunc => some .nilFunc
  | .iface t v => some (.iface t v)
  | .nilIface => some .nilIface
  | .agg cs => some (.agg cs)
  | .tuple vs => some (.tuple vs)
theorem opn_eq (v : Value) : opn v = some v := by cases v <;> rfl
def kEq : IntKind → IntKind → Bool
  | .i8, .i8 | .i16, .i16 | .i32, .i32 | .i64, .i64 | .u8, .u8 | .u16, .u16 | .u32, .u32 | .u64, .u64 => true
  | _, _ => false
theorem kEq_eq {a b : IntKind} (h : kEq a b = true) : a = b := by cases a <;> cases b <;> first | rfl | cases h
def intOp (op : BinOp) (k : IntKind) (a b : Int) : Option Value :=
  match op with
  | .eql => some (.bool (decide (a = b)))
  | .neq => some (.bool (decide (¬ a = b)))
  | .lss => some (.bool (decide (a < b)))
  | .leq => some (.bool (decide (a ≤ b)))
  | .gtr => some (.bool (decide (b < a)))
  | .geq => some (.bool (decide (b ≤ a)))
  | _ => none
def addO (a : Addr) (o : Nat) : Addr := bif Nat.beq o 0 then a else a.add o
theorem addO_eq (a : Addr) (o : Nat) : addO a o = a.add o := by
  unfold addO
  by_cases h : o = 0
  · subst h; rw [nbeq_self]; simp [Addr.add]
  · rw [nbeq_ne h]; rfl
def setAll (cs : List Value) : Nat → List Value → List Value
  | _, [] => cs
  | k, v :: vs => setAll (cs.set k v) (k + 1) vs
/-- A list laid open. -/
def opnL : List Value → Option (List Value)
  | [] => some []
  | v :: l => match opnL l with
    | some l' => some (v :: l')
    | none => none
theorem opnL_eq : ∀ l : List Value, opnL l = some l
  | [] => rfl
  | v :: l => by simp [opnL, opnL_eq l]
/-- Parts laid over cells. -/
def bld (F : Fm) (place : Nat → Option (Nat × Nat)) : List (Nat × Operand) → List Value → Option (List Value)
  | [], cs => opnL cs
  | (i, x) :: ps, cs => match place i with
    | none => none
    | some (off, size) => match ev F x with
      | .agg vs => bif Nat.beq vs.toList.length size && Nat.ble (off + size) cs.length then bld F place ps (setAll cs off vs.toList) else none
      | .tuple _ => none
      | v => bif Nat.beq size 1 && Nat.ble (off + 1) cs.length then (match opn v with | some v => bld F place ps (cs.set off v) | none => none) else none
def placesL (T : Nat → Option TI) : List Field → Option (List (Nat × Nat))
  | [] => some []
  | f :: fs => match T f.type with
    | some ti => match placesL T fs with
      | some l => some ((f.offset, ti.size) :: l)
      | none => none
    | none => none
def pureF (T : Nat → Option TI) (op : Op) (F : Fm) : Option Value :=
  match op with
  | .move x | .assign x => opn (ev F x)
  | .pick c a b => match ev F c with | .bool true => opn (ev F a) | .bool false => opn (ev F b) | _ => none
  | .binOp op xt x y _ => match ev F x, ev F y with
    | .int k a, .int k' b => bif kEq k k' then intOp op k a b else none
    | .bool a, .bool b => match op, T xt with
      | .eql, some ⟨.bool, _, _, _⟩ => some (.bool (a == b))
      | .neq, some ⟨.bool, _, _, _⟩ => some (.bool (!(a == b)))
      | _, _ => none
    | _, _ => none
  | .unOp .not _ x => match ev F x with | .bool b => some (.bool (!b)) | _ => none
  | .unOp .neg _ x => match ev F x with | .int k a => some (.int k (k.wrap (0 - a))) | _ => none
  | .fieldAddr s x f => match T s, ev F x with
    | some ⟨.struct fs, _, _, _⟩, .pointer (some a) => match fs[f]? with
      | some fl => match T fl.type with
        | some ⟨_, (_ + 1), _, _⟩ => some (.pointer (some (addO a fl.offset)))
        | _ => none
      | none => none
    | _, _ => none
  | .field s x f => match T s, ev F x with
    | some ⟨.struct fs, _, _, _⟩, .agg cs => match fs[f]? with
      | some fl => match T fl.type with
        | some ⟨.struct _, _, _, _⟩ => none
        | some ⟨.array _ _, _, _, _⟩ => none
        | some _ => cs[fl.offset]?
        | none => none
      | none => none
    | _, _ => none
  | .nilCheck x => match ev F x with | .pointer (some a) => some (.pointer (some a)) | _ => none
  | .extract x i => match ev F x with | .tuple vs => vs[i]? | _ => none
  | .build t parts => match T t with
    | some ⟨.struct fs, _, _, .agg z⟩ => match placesL T fs.toList with
      | some pl => match bld F (fun i => pl[i]?) parts.toList z.toList with
        | some cs => some (.agg cs.toArray)
        | none => none
      | none => none
    | _ => none
  | .call c => match c.callee, c.args.toList, c.argTypes.toList with
    | .builtin .len, [x], [t] => match T t, ev F x with
      | some ⟨.slice _, _, _, _⟩, .slice _ n _ => some (.int .i64 n)
      | some ⟨.string, _, _, _⟩, .string s => some (.int .i64 s.size)
      | _, _ => none
    | _, _, _ => none
  | _ => none

section
variable {P : Program} {T : Nat → Option TI} {n : Nat} {Q : Post} {F : Fm} {w : World} {ops : Array Oper} {rest : List Oper} {o : Oper}
theorem T_u (hT : TabOk P T) {t : Nat} {i : TI} (h : T t = some i) : P.underlying t = some i.desc := (hT.ok t i h).1
theorem T_i (hT : TabOk P T) {t : Nat} {i : TI} (h : T t = some i) : ∃ j, P.info? t = some j ∧ j.zero = some i.zero ∧ j.size = i.size ∧ j.bytes = i.bytes := by
  obtain ⟨j, hj, e⟩ := Option.map_eq_some_iff.1 (hT.ok t i h).2
  simp only [Prod.mk.injEq] at e
  exact ⟨j, hj, e.1, e.2.1, e.2.2⟩
theorem run_und {t : Nat} {d : TypeDesc} (h : P.underlying t = some d) : (underlying t).run P w = .ok d w := run_underlying h w
theorem run_size (hT : TabOk P T) {t : Nat} {i : TI} (h : T t = some i) : (sizeOf t).run P w = .ok i.size w := by
  obtain ⟨j, hj, _, e, _⟩ := T_i hT h
  simp [sizeOf, typeInfo, hj, e]
theorem setAll_foldl : ∀ (vs : List Value) (cs : List Value) (off k : Nat), ((vs.zipIdx k).foldl (fun (a : Array Value) (p : Value × Nat) => a.setIfInBounds (off + p.2) p.1) cs.toArray) = (setAll cs (off + k) vs).toArray
  | [], cs, off, k => by simp [setAll]
  | v :: vs, cs, off, k => by
    simp only [List.zipIdx_cons, List.foldl_cons, setAll]
    have : cs.toArray.setIfInBounds (off + k) v = (cs.set (off + k) v).toArray := by simp
    rw [this, setAll_foldl vs _ off (k + 1)]
    rfl
theorem fill_ok {place : Nat → Option (Nat × Nat)} : ∀ {ps : List (Nat × Operand)} {cs r : List Value}, bld F place ps cs = some r → Instr.fill place cs.toArray (ps.map fun p => (p.1, ev F p.2)) = some r.toArray
  | [], cs, r, h => by
    simp only [bld, opnL_eq, Option.some.injEq] at h
    subst h
    rfl
  | (i, x) :: ps, cs, r, h => by
    unfold bld at h
    split at h
    · cases h
    · rename_i off size hp
      simp only [List.map_cons, Instr.fill, hp]
      split at h
      · rename_i vs hv
        cases hb : (Nat.beq vs.toList.length size && Nat.ble (off + size) cs.length) with
        | false => rw [hb] at h; cases h
        | true =>
          rw [hb] at h
          simp only [Bool.and_eq_true] at hb
          have h1 := Nat.eq_of_beq_eq_true hb.1
          have h2 := Nat.le_of_ble_eq_true hb.2
          have hsz : vs.size = size := by rw [← h1]; simp
          have hcond : ¬ ((decide ((Value.agg vs).cells.size ≠ size) || decide (off + (Value.agg vs).cells.size > cs.toArray.size)) = true) := by simp [Value.cells, hsz]; omega
          rw [hv, if_neg hcond]
          have e : vs.zipIdx.foldl (fun (a : Array Value) (p : Value × Nat) => a.setIfInBounds (off + p.2) p.1) cs.toArray = (setAll cs off vs.toList).toArray := by
            have := setAll_foldl vs.toList cs off 0
            rw [← Array.foldl_toList, Array.toList_zipIdx]
            exact this
          have := fill_ok h
          rw [← this]
          congr 1
      · cases h
      · rename_i v hna hnt
        cases hb : (Nat.beq size 1 && Nat.ble (off + 1) cs.length) with
        | false => rw [hb] at h; cases h
        | true =>
          rw [hb] at h
          simp only [Bool.and_eq_true] at hb
          have h1 := Nat.eq_of_beq_eq_true hb.1
          have h2 := Nat.le_of_ble_eq_true hb.2
          simp only [cond_true, opn_eq] at h
          have hc : (ev F x).cells = #[ev F x] := by
            cases he : ev F x <;> first | rfl | exact (hna _ he).elim
          have hcond : ¬ ((decide ((ev F x).cells.size ≠ size) || decide (off + (ev F x).cells.size > cs.toArray.size)) = true) := by rw [hc]; simp [h1]; omega
          rw [if_neg hcond, hc]
          have := fill_ok h
          rw [← this]
          congr 1
          simp
theorem pure_ok (hT : TabOk P T) {v : Value} (h : pureF T o.op F = some v) : (execOp (ev F) o).run P w = .ok (.value v) w := by
  obtain ⟨dst, op, type, pos, after, guard⟩ := o
  simp only at h
  cases op
  case move x => simp [pureF, opn_eq] at h; subst h; rfl
  case assign x => simp [pureF, opn_eq] at h; subst h; rfl
  case pick c a b =>
    simp only [pureF] at h
    split at h <;> simp [opn_eq] at h
    · rename_i e; subst h; simp [execOp, e, asBool]
    · rename_i e; subst h; simp [execOp, e, asBool]
  case binOp op xt x y yt =>
    simp only [pureF] at h
    split at h
    · rename_i k a k' b ex ey
      cases hk : kEq k k' with
      | false => rw [hk] at h; simp at h
      | true =>
        rw [hk] at h
        have := kEq_eq hk
        subst this
        simp only [cond_true] at h
        simp only [execOp, ex, ey]
        cases op <;> simp only [intOp, Option.some.injEq] at h <;> first | (cases h; done) | (subst h; simp [eqGuard, binOp, Op.intArith, Op.intCmp]; done) | (subst h; simp [eqGuard, binOp, Op.intArith, Op.intCmp]; rfl)
    · rename_i a b ex ey
      simp only [execOp, ex, ey]
      split at h <;> simp at h
      · rename_i hb
        subst h
        have hu := T_u hT hb
        simp [eqGuard, binOp, Op.equal, Op.maxDepth]
        unfold Op.equalIn
        simp [run_und hu]
      · rename_i hb
        subst h
        have hu := T_u hT hb
        simp [eqGuard, binOp, Op.equal, Op.maxDepth]
        unfold Op.equalIn
        simp [run_und hu]
    · simp at h
  case unOp op xt x =>
    cases op <;> simp only [pureF] at h <;> try (simp at h; done)
    · split at h <;> simp at h
      rename_i e
      subst h
      simp [execOp, e, Op.unary, Op.intArith]
    · split at h <;> simp at h
      rename_i e
      subst h
      simp [execOp, e, Op.unary]
  case fieldAddr s x f =>
    simp only [pureF] at h
    split at h <;> try (simp at h; done)
    rename_i e1 e2
    split at h <;> try (simp at h; done)
    rename_i e3
    split at h <;> try (simp at h; done)
    rename_i e4
    simp at h
    subst h
    have hu := T_u hT e1
    have hs := run_size (w := w) hT e4
    simp [execOp, Instr.fieldAt, run_und hu, e3, e2, Instr.sureAddr, fieldPlace, hs, addO_eq]
  case field s x f =>
    simp only [pureF] at h
    split at h <;> try (simp at h; done)
    rename_i e1 e2
    split at h <;> try (simp at h; done)
    rename_i fl e3
    split at h <;> try (simp at h; done)
    rename_i i hn1 hn2 e4
    have hu := T_u hT e1
    have hv := T_u hT e4
    have ha : (isAgg fl.type).run P w = .ok false w := by
      unfold isAgg
      simp only [Sem.run_bind, run_und hv, Result.andThen_ok]
      obtain ⟨d, s, b, z⟩ := i
      cases d <;> first | rfl | exact (hn1 _ _ _ _ rfl).elim | exact (hn2 _ _ _ _ _ rfl).elim
    simp [execOp, Instr.field, run_und hu, e3, e2, asAgg, part, ha, h]
  case nilCheck x =>
    simp only [pureF] at h
    split at h <;> simp at h
    rename_i e
    subst h
    simp [execOp, e]
  case extract x i =>
    simp only [pureF] at h
    split at h <;> first | (cases h; done) | skip
    rename_i e
    simp [execOp, Instr.extract, e, h]
  case build t parts =>
    simp only [pureF] at h
    split at h <;> try (simp at h; done)
    rename_i fs sz by_ z e1
    split at h <;> try (simp at h; done)
    rename_i pl e3
    split at h <;> try (simp at h; done)
    rename_i cs e2
    simp only [Option.some.injEq] at h
    subst h
    have hu := T_u hT e1
    obtain ⟨j, hj, hz, _, _⟩ := T_i hT e1
    have hf := fill_ok e2
    have hpl : ∀ (l : List Field) (pl : List (Nat × Nat)), placesL T l = some pl → l.mapM (fun f => (P.info? f.type).map fun i => (f.offset, i.size)) = some pl := by
      intro l
      induction l with
      | nil => intro pl h; simp [placesL] at h; subst h; simp
      | cons f l ih =>
        intro pl h
        unfold placesL at h
        split at h <;> try (simp at h; done)
        rename_i ti h1
        split at h <;> try (simp at h; done)
        rename_i l' h2
        simp only [Option.some.injEq] at h
        subst h
        obtain ⟨i, hi, _, hs, _⟩ := T_i hT h1
        simp [List.mapM_cons, hi, ih l' h2, hs]
    have hbuilt : P.built t (parts.map fun (i, x) => (i, ev F x)).toList = some cs.toArray := by
      unfold Program.built
      simp only [hj, hu, hz, hpl _ _ e3]
      simp only [Value.cells]
      have : (parts.map fun (i, x) => (i, ev F x)).toList = parts.toList.map fun p => (p.1, ev F p.2) := by simp
      rw [this]
      simpa using hf
    simp [execOp, run_build w t _ _ hbuilt]
  case call c =>
    simp only [pureF] at h
    obtain ⟨callee, args, types⟩ := c
    split at h <;> try (simp at h; done)
    rename_i x t e1 e2 e3
    obtain ⟨args⟩ := args
    obtain ⟨types⟩ := types
    subst e1 e2 e3
    split at h <;> simp at h
    · rename_i e4 e5
      subst h
      have hu := T_u hT e4
      simp [execOp, resolve, invoke, builtin, Builtin.len_, run_und hu, e5, goInt]
    · rename_i e4 e5
      subst h
      have hu := T_u hT e4
      simp [execOp, resolve, invoke, builtin, Builtin.len_, run_und hu, e5, goInt]
  all_goals simp [pureF] at h

/-! ### steps -/
theorem wl_P (hT : TabOk P T) {v : Value} (h : pureF T o.op F = some v) (hg : o.guard = none) {d : Nat} (hd : o.dst = some d) (hn : Nat.blt d n = true) (k : wl P n ops rest Q (upd F d v) w) : wl P n ops (o :: rest) Q F w := wl_val hg hd hn (pure_ok hT h) k

/-- A sum that fits. -/
theorem wrap_in {a : Int} (h1 : -9223372036854775808 ≤ a) (h2 : a ≤ 9223372036854775807) : IntKind.i64.wrap a = a := IntWalk.i64_in a ⟨by omega, by omega⟩
theorem wl_add {x y : Operand} {xt yt : TypeId} {a b : Int} (hop : o.op = .binOp .add xt x y yt) (hx : ev F x = .int .i64 a) (hy : ev F y = .int .i64 b) (hg : o.guard = none) {d : Nat} (hd : o.dst = some d) (hn : Nat.blt d n = true)
    (h1 : -9223372036854775808 ≤ a + b) (h2 : a + b ≤ 9223372036854775807) (k : wl P n ops rest Q (upd F d (.int .i64 (a + b))) w) : wl P n ops (o :: rest) Q F w :=
  wl_val hg hd hn (by simp [execOp, hop, hx, hy, eqGuard, binOp, Op.intArith, wrap_in h1 h2]) k
theorem wl_sub {x y : Operand} {xt yt : TypeId} {a b : Int} (hop : o.op = .binOp .sub xt x y yt) (hx : ev F x = .int .i64 a) (hy : ev F y = .int .i64 b) (hg : o.guard = none) {d : Nat} (hd : o.dst = some d) (hn : Nat.blt d n = true)
    (h1 : -9223372036854775808 ≤ a - b) (h2 : a - b ≤ 9223372036854775807) (k : wl P n ops rest Q (upd F d (.int .i64 (a - b))) w) : wl P n ops (o :: rest) Q F w :=
  wl_val hg hd hn (by simp [execOp, hop, hx, hy, eqGuard, binOp, Op.intArith, wrap_in h1 h2]) k
theorem wl_mul {x y : Operand} {xt yt : TypeId} {a b : Int} (hop : o.op = .binOp .mul xt x y yt) (hx : ev F x = .int .i64 a) (hy : ev F y = .int .i64 b) (hg : o.guard = none) {d : Nat} (hd : o.dst = some d) (hn : Nat.blt d n = true)
    (h1 : -9223372036854775808 ≤ a * b) (h2 : a * b ≤ 9223372036854775807) (k : wl P n ops rest Q (upd F d (.int .i64 (a * b))) w) : wl P n ops (o :: rest) Q F w :=
  wl_val hg hd hn (by simp [execOp, hop, hx, hy, eqGuard, binOp, Op.intArith, wrap_in h1 h2]) k

/-- Those that wrap. -/
theorem wl_addw {x y : Operand} {xt yt : TypeId} {ki : IntKind} {a b : Int} (hop : o.op = .binOp .add xt x y yt) (hx : ev F x = .int ki a) (hy : ev F y = .int ki b) (hg : o.guard = none) {d : Nat} (hd : o.dst = some d) (hn : Nat.blt d n = true)
    (k : wl P n ops rest Q (upd F d (.int ki (ki.wrap (a + b)))) w) : wl P n ops (o :: rest) Q F w :=
  wl_val hg hd hn (by simp [execOp, hop, hx, hy, eqGuard, binOp, Op.intArith]) k
/-! ### loads -/
theorem isAgg_no (hT : TabOk P T) {t : Nat} {i : TI} (h : T t = some i) (ha : (match i.desc with | .struct _ | .array _ _ => true | _ => false) = false) : (isAgg t).run P w = .ok false w := by
  have hu := T_u hT h
  unfold isAgg
  simp only [Sem.run_bind, run_und hu, Result.andThen_ok]
  obtain ⟨d, s, b, z⟩ := i
  cases d <;> first | rfl | cases ha
theorem isAgg_yes (hT : TabOk P T) {t : Nat} {i : TI} (h : T t = some i) (ha : (match i.desc with | .struct _ | .array _ _ => true | _ => false) = true) : (isAgg t).run P w = .ok true w := by
  have hu := T_u hT h
  unfold isAgg
  simp only [Sem.run_bind, run_und hu, Result.andThen_ok]
  obtain ⟨d, s, b, z⟩ := i
  cases d <;> first | rfl | cases ha
def oneT (T : Nat → Option TI) (t : Nat) : Bool := match T t with
  | some i => (match i.desc with | .struct _ | .array _ _ => false | _ => true)
  | none => false
theorem oneT_isAgg (hT : TabOk P T) {t : Nat} (h : oneT T t = true) : (isAgg t).run P w = .ok false w := by
  unfold oneT at h
  split at h
  · rename_i i hi
    refine isAgg_no hT hi ?_
    split at h <;> simp_all
  · cases h
theorem run_load_one (hT : TabOk P T) {t : Nat} {a : Addr} {v : Value} (h1 : oneT T t = true) (hc : w.cell? a = some v) : (loadVar t a).run P w = .ok v w := by
  simp only [loadVar, Sem.run_bind, oneT_isAgg hT h1, Result.andThen_ok]
  simp [load, Sem.run, hc]
theorem wl_L (hT : TabOk P T) {t : TypeId} {x : Operand} {a : Addr} {v : Value} (hop : o.op = .load t x) (hx : ev F x = .pointer (some a)) (h1 : oneT T t = true) (hg : o.guard = none) {d : Nat} (hd : o.dst = some d) (hn : Nat.blt d n = true)
    (hc : w.cell? a = some v) (k : wl P n ops rest Q (upd F d v) w) : wl P n ops (o :: rest) Q F w :=
  wl_val hg hd hn (by simp [execOp, hop, hx, Instr.loadAt, Instr.sureAddr, run_load_one hT h1 hc]) k
/-- Out of a block that is known. -/
theorem cell_blk {g off : Nat} {cs : Array Value} {t : TypeId} {fr : Nat × Nat} {v : Value} (h : w.heap[g]? = some (.cells cs t fr)) (hv : cs[off]? = some v) : w.cell? ⟨g, off, none⟩ = some v := by
  simp [World.cell?, h, hv]
theorem wl_Lg (hT : TabOk P T) {t t' : TypeId} {x : Operand} {g off : Nat} {cs : Array Value} {fr : Nat × Nat} {v : Value} (hb : w.heap[g]? = some (.cells cs t' fr)) (hop : o.op = .load t x) (hx : ev F x = .pointer (some ⟨g, off, none⟩)) (h1 : oneT T t = true) (hg : o.guard = none) {d : Nat} (hd : o.dst = some d) (hn : Nat.blt d n = true)
    (hv : cs[off]? = some v) (k : wl P n ops rest Q (upd F d v) w) : wl P n ops (o :: rest) Q F w := wl_L hT hop hx h1 hg hd hn (cell_blk hb hv) k
/-- A struct's cells. -/
def cellsAt (w : World) (a : Addr) : Nat → List Value → Prop
  | _, [] => True
  | i, v :: vs => w.cell? (a.add i) = some v ∧ cellsAt w a (i + 1) vs
theorem run_loadCells {a : Addr} : ∀ (vs : List Value) (i : Nat) (acc : Array Value), cellsAt w a i vs → (loadCellsFrom a i vs.length acc).run P w = .ok (acc ++ vs.toArray) w
  | [], i, acc, _ => by simp [loadCellsFrom]
  | v :: vs, i, acc, ⟨h, hs⟩ => by
    have := run_loadCells vs (i + 1) (acc.push v) hs
    simp only [List.length_cons, loadCellsFrom, Sem.run_bind, load, Sem.run, h, Result.andThen_ok]
    rw [this]
    simp
def aggT (T : Nat → Option TI) (t m : Nat) : Bool := match T t with
  | some i => Nat.beq i.size m && (match i.desc with | .struct _ | .array _ _ => true | _ => false)
  | none => false
theorem aggT_run (hT : TabOk P T) {t m : Nat} (h : aggT T t m = true) : (isAgg t).run P w = .ok true w ∧ (sizeOf t).run P w = .ok m w := by
  unfold aggT at h
  split at h
  · rename_i i hi
    simp only [Bool.and_eq_true] at h
    have := Nat.eq_of_beq_eq_true h.1
    exact ⟨isAgg_yes hT hi h.2, by rw [run_size hT hi, this]⟩
  · cases h
theorem wl_La (hT : TabOk P T) {t : TypeId} {x : Operand} {a : Addr} {vs : List Value} (hc : cellsAt w a 0 vs) (hop : o.op = .load t x) (hx : ev F x = .pointer (some a)) (h1 : aggT T t vs.length = true) (hg : o.guard = none) {d : Nat} (hd : o.dst = some d) (hn : Nat.blt d n = true)
    (k : wl P n ops rest Q (upd F d (.agg vs.toArray)) w) : wl P n ops (o :: rest) Q F w := by
  refine wl_val hg hd hn ?_ k
  have h2 := aggT_run (P := P) (w := w) hT h1
  have h3 := run_loadCells (P := P) vs 0 #[] hc
  simp [execOp, hop, hx, Instr.loadAt, Instr.sureAddr, loadVar, h2, loadCells, h3]
theorem cellsAt_blk {g : Nat} {cs : Array Value} {t : TypeId} {fr : Nat × Nat} (h : w.heap[g]? = some (.cells cs t fr)) : ∀ (vs : List Value) (off i : Nat), (∀ j, j < vs.length → cs[off + i + j]? = vs[j]?) → cellsAt w ⟨g, off, none⟩ i vs
  | [], _, _, _ => trivial
  | v :: vs, off, i, hv => by
    refine ⟨?_, cellsAt_blk h vs off (i + 1) fun j hj => ?_⟩
    · have : (⟨g, off, none⟩ : Addr).add i = ⟨g, off + i, none⟩ := by unfold Addr.add; split <;> simp_all
      rw [this]
      exact cell_blk h (by simpa using hv 0 (by simp))
    · have := hv (j + 1) (by simp; omega)
      simpa [Nat.add_assoc, Nat.add_comm 1 j] using this
theorem wl_Lag (hT : TabOk P T) {t t' : TypeId} {x : Operand} {g : Nat} {cs : List Value} {fr : Nat × Nat} (hb : w.heap[g]? = some (.cells cs.toArray t' fr)) (hop : o.op = .load t x) (hx : ev F x = .pointer (some ⟨g, 0, none⟩)) (h1 : aggT T t cs.length = true) (hg : o.guard = none) {d : Nat} (hd : o.dst = some d) (hn : Nat.blt d n = true)
    (k : wl P n ops rest Q (upd F d (.agg cs.toArray)) w) : wl P n ops (o :: rest) Q F w := wl_La hT (cellsAt_blk hb cs 0 0 (by simp)) hop hx h1 hg hd hn k

/-! ### new blocks -/
structure New (w w1 : World) (g : Nat) (cs : List Value) (t : TypeId) : Prop where
  at_ : g = w.heap.size
  size : w1.heap.size = w.heap.size + 1
  blk : w1.heap[g]? = some (.cells cs.toArray t (0, 0))
  below : Below w.heap.size w w1
theorem new_alloc (w : World) (cs : List Value) (t : TypeId) : New w (w.alloc (.cells cs.toArray t)) w.heap.size cs t := ⟨rfl, by simp, heap_alloc_new w _, (Below.refl _ _).alloc (Nat.le_refl _) _⟩
theorem New.old {w1 : World} {g : Nat} {cs : List Value} {t : TypeId} (h : New w w1 g cs t) {k : Nat} {o : Obj} (hk : w.heap[k]? = some o) : w1.heap[k]? = some o := by
  rw [h.below.block k (Array.getElem?_eq_some_iff.1 hk).1]; exact hk
theorem wl_box {t : TypeId} {x : Operand} {v : Value} {cs : List Value} (hop : o.op = .box t x) (hx : ev F x = v) (hv : v.cells = cs.toArray) (hg : o.guard = none) {d : Nat} (hd : o.dst = some d) (hn : Nat.blt d n = true)
    (k : ∀ g w1, New w w1 g cs t → wl P n ops rest Q (upd F d (.pointer (some ⟨g, 0, none⟩))) w1) : wl P n ops (o :: rest) Q F w :=
  wl_val hg hd hn (by simp [execOp, hop, hx, Instr.box, newVar, newRow, newObj, Sem.run, hv]) (k _ _ (new_alloc w cs t))
theorem wl_alloc (hT : TabOk P T) {t : TypeId} {i : TI} {cs : List Value} (hop : o.op = .alloc t) (hi : T t = some i) (hv : i.zero.cells = cs.toArray) (hg : o.guard = none) {d : Nat} (hd : o.dst = some d) (hn : Nat.blt d n = true)
    (k : ∀ g w1, New w w1 g cs t → wl P n ops rest Q (upd F d (.pointer (some ⟨g, 0, none⟩))) w1) : wl P n ops (o :: rest) Q F w := by
  obtain ⟨j, hj, hz, _, _⟩ := T_i hT hi
  refine wl_val hg hd hn ?_ (k _ _ (new_alloc w cs t))
  simp [execOp, hop, Instr.alloc, zeroValue, typeInfo, hj, hz, newVar, newRow, newObj, Sem.run, hv]

/-! ### stores into a block of one's own -/
structure Put (w w1 : World) (g : Nat) (cs : List Value) (t : TypeId) : Prop where
  size : w1.heap.size = w.heap.size
  blk : w1.heap[g]? = some (.cells cs.toArray t (0, 0))
  grown : w.grownBy w1 (some g)
theorem Put.old {w1 : World} {g : Nat} {cs : List Value} {t : TypeId} (h : Put w w1 g cs t) {k : Nat} {o : Obj} (hk : w.heap[k]? = some o) (hne : k ≠ g) : w1.heap[k]? = some o := by
  rw [h.grown.block k (Array.getElem?_eq_some_iff.1 hk).1 (by simpa using hne)]; exact hk
theorem Put.below {w0 w1 : World} {g B : Nat} {cs : List Value} {t : TypeId} (h : Put w w1 g cs t) (hb : Below B w0 w) (hg : B ≤ g) (hB : B ≤ w.heap.size) : Below B w0 w1 :=
  hb.grown h.grown hB (fun k hk => by cases hk; exact hg)
theorem put_setCell {g off : Nat} {cs : List Value} {t : TypeId} (hb : w.heap[g]? = some (.cells cs.toArray t (0, 0))) (v : Value) : Put w (w.setCell ⟨g, off, none⟩ v) g (cs.set off v) t := by
  refine ⟨by simp [World.setCell], ?_, ⟨rfl, rfl, rfl, by simp [World.setCell], fun k hk hne => Below.heap_setCell w _ v k (by simpa using hne)⟩⟩
  simp [World.setCell, Array.getElem?_modify, hb]
theorem wl_S (hT : TabOk P T) {t t' : TypeId} {x y : Operand} {i : TI} {g off : Nat} {cs : List Value} {v : Value} (hb : w.heap[g]? = some (.cells cs.toArray t' (0, 0))) (hop : o.op = .store t x y) (hx : ev F x = .pointer (some ⟨g, off, none⟩)) (hy : ev F y = v)
    (hi : T t = some i) (h1 : i.size = 1) (hv : v.oneCell' = true) (hoff : off < cs.length) (hg : o.guard = none) (hd : o.dst = none)
    (k : ∀ w1, Put w w1 g (cs.set off v) t' → wl P n ops rest Q F w1) : wl P n ops (o :: rest) Q F w := by
  refine wl_skp hg hd ?_ (k _ (put_setCell hb v))
  have hs := run_size (w := w) hT hi
  rw [h1] at hs
  have hc : w.cell? ⟨g, off, none⟩ = some cs[off] := cell_blk hb (by simp [hoff])
  have hf : w.frozen? ⟨g, off, none⟩ = false := by simp [World.frozen?, hb]
  cases v <;> simp_all [Value.oneCell', execOp, Instr.storeAt, Instr.sureAddr, storeVar, Value.cells, storeCells, store, Sem.run, Addr.add] <;> rfl
end
end Go.Proofs.Ytjggjhgbobmkhaa
