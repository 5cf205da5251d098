/- The types of this program, as a table; each row is proved by the kernel. WRITTEN BY gentab.py. -/
import Derived.Test.YtkmnhkfgjadppaaDoorE0
namespace Go.Proofs.YtkmnhkfgjadppaaDoor
set_option maxRecDepth 100000
def ti1 : TI := ⟨(.func #[] #[] false), 1, 8, (.nilFunc)⟩
theorem to1 : EntryOk Tryd.prog 1 ti1 := ⟨Tryd.underlying1, by kernel_rfl⟩
def ti2 : TI := ⟨(.int .i64), 1, 8, (.int .i64 0)⟩
theorem to2 : EntryOk Tryd.prog 2 ti2 := ⟨Tryd.underlying2, by kernel_rfl⟩
def ti3 : TI := ⟨(.int .i64), 1, 8, (.int .i64 0)⟩
theorem to3 : EntryOk Tryd.prog 3 ti3 := ⟨Tryd.underlying3, by kernel_rfl⟩
def ti4 : TI := ⟨.bool, 1, 1, (.bool false)⟩
theorem to4 : EntryOk Tryd.prog 4 ti4 := ⟨Tryd.underlying4, by kernel_rfl⟩
def ti5 : TI := ⟨(.int .u8), 1, 1, (.int .u8 0)⟩
theorem to5 : EntryOk Tryd.prog 5 ti5 := ⟨Tryd.underlying5, by kernel_rfl⟩
def ti6 : TI := ⟨(.int .u8), 1, 1, (.int .u8 0)⟩
theorem to6 : EntryOk Tryd.prog 6 ti6 := ⟨Tryd.underlying6, by kernel_rfl⟩
def ti9 : TI := ⟨.string, 1, 16, (.string ByteArray.empty)⟩
theorem to9 : EntryOk Tryd.prog 9 ti9 := ⟨Tryd.underlying9, by kernel_rfl⟩
def ti10 : TI := ⟨.string, 1, 16, (.string ByteArray.empty)⟩
theorem to10 : EntryOk Tryd.prog 10 ti10 := ⟨Tryd.underlying10, by kernel_rfl⟩
def ti11 : TI := ⟨.string, 1, 16, (.string ByteArray.empty)⟩
theorem to11 : EntryOk Tryd.prog 11 ti11 := ⟨Tryd.underlying11, by kernel_rfl⟩
def ti12 : TI := ⟨(.int .u64), 1, 8, (.int .u64 0)⟩
theorem to12 : EntryOk Tryd.prog 12 ti12 := ⟨Tryd.underlying12, by kernel_rfl⟩
def ti15 : TI := ⟨(.pointer 106), 1, 8, (.pointer none)⟩
theorem to15 : EntryOk Tryd.prog 15 ti15 := ⟨Tryd.underlying15, by kernel_rfl⟩
def ti16 : TI := ⟨(.pointer 109), 1, 8, (.pointer none)⟩
theorem to16 : EntryOk Tryd.prog 16 ti16 := ⟨Tryd.underlying16, by kernel_rfl⟩
def ti17 : TI := ⟨(.pointer 118), 1, 8, (.pointer none)⟩
theorem to17 : EntryOk Tryd.prog 17 ti17 := ⟨Tryd.underlying17, by kernel_rfl⟩
def ti21 : TI := ⟨(.int .i32), 1, 4, (.int .i32 0)⟩
theorem to21 : EntryOk Tryd.prog 21 ti21 := ⟨Tryd.underlying21, by kernel_rfl⟩
def ti22 : TI := ⟨(.slice 29), 1, 24, (.slice none 0 0)⟩
theorem to22 : EntryOk Tryd.prog 22 ti22 := ⟨Tryd.underlying22, by kernel_rfl⟩
def ti23 : TI := ⟨(.func #[] #[4] false), 1, 8, (.nilFunc)⟩
theorem to23 : EntryOk Tryd.prog 23 ti23 := ⟨Tryd.underlying23, by kernel_rfl⟩
def ti24 : TI := ⟨(.pointer 27), 1, 8, (.pointer none)⟩
theorem to24 : EntryOk Tryd.prog 24 ti24 := ⟨Tryd.underlying24, by kernel_rfl⟩
def ti25 : TI := ⟨(.slice 72), 1, 24, (.slice none 0 0)⟩
theorem to25 : EntryOk Tryd.prog 25 ti25 := ⟨Tryd.underlying25, by kernel_rfl⟩
def ti26 : TI := ⟨(.struct #[{ name := "l", type := 25, offset := 0, embedded := false, tag := "", pkgPath := "weathervane/pile", byteOffset := 0 }]), 1, 24, (.agg #[.slice none 0 0])⟩
theorem to26 : EntryOk Tryd.prog 26 ti26 := ⟨Tryd.underlying26, by kernel_rfl⟩
def ti27 : TI := ⟨(.struct #[{ name := "l", type := 25, offset := 0, embedded := false, tag := "", pkgPath := "weathervane/pile", byteOffset := 0 }]), 1, 24, (.agg #[.slice none 0 0])⟩
theorem to27 : EntryOk Tryd.prog 27 ti27 := ⟨Tryd.underlying27, by kernel_rfl⟩
def ti28 : TI := ⟨(.func #[3] #[4] false), 1, 8, (.nilFunc)⟩
theorem to28 : EntryOk Tryd.prog 28 ti28 := ⟨Tryd.underlying28, by kernel_rfl⟩
def ti29 : TI := ⟨(.int .u16), 1, 2, (.int .u16 0)⟩
theorem to29 : EntryOk Tryd.prog 29 ti29 := ⟨Tryd.underlying29, by kernel_rfl⟩
def ti30 : TI := ⟨(.func #[] #[9] false), 1, 8, (.nilFunc)⟩
theorem to30 : EntryOk Tryd.prog 30 ti30 := ⟨Tryd.underlying30, by kernel_rfl⟩
def ti31 : TI := ⟨(.func #[24, 24] #[4] false), 1, 8, (.nilFunc)⟩
theorem to31 : EntryOk Tryd.prog 31 ti31 := ⟨Tryd.underlying31, by kernel_rfl⟩
def ti32 : TI := ⟨(.func #[22, 22, 4] #[4] false), 1, 8, (.nilFunc)⟩
theorem to32 : EntryOk Tryd.prog 32 ti32 := ⟨Tryd.underlying32, by kernel_rfl⟩
def ti33 : TI := ⟨(.slice 3), 1, 24, (.slice none 0 0)⟩
theorem to33 : EntryOk Tryd.prog 33 ti33 := ⟨Tryd.underlying33, by kernel_rfl⟩
def ti34 : TI := ⟨(.func #[33] #[24] true), 1, 8, (.nilFunc)⟩
theorem to34 : EntryOk Tryd.prog 34 ti34 := ⟨Tryd.underlying34, by kernel_rfl⟩
def ti35 : TI := ⟨(.func #[] #[33] false), 1, 8, (.nilFunc)⟩
theorem to35 : EntryOk Tryd.prog 35 ti35 := ⟨Tryd.underlying35, by kernel_rfl⟩
def ti36 : TI := ⟨(.func #[] #[3] false), 1, 8, (.nilFunc)⟩
theorem to36 : EntryOk Tryd.prog 36 ti36 := ⟨Tryd.underlying36, by kernel_rfl⟩
def ti37 : TI := ⟨(.func #[33] #[4] false), 1, 8, (.nilFunc)⟩
theorem to37 : EntryOk Tryd.prog 37 ti37 := ⟨Tryd.underlying37, by kernel_rfl⟩
def ti38 : TI := ⟨(.func #[29, 5] #[4] false), 1, 8, (.nilFunc)⟩
theorem to38 : EntryOk Tryd.prog 38 ti38 := ⟨Tryd.underlying38, by kernel_rfl⟩
def ti39 : TI := ⟨(.func #[] #[24] false), 1, 8, (.nilFunc)⟩
theorem to39 : EntryOk Tryd.prog 39 ti39 := ⟨Tryd.underlying39, by kernel_rfl⟩
def ti40 : TI := ⟨(.func #[24] #[4] false), 1, 8, (.nilFunc)⟩
theorem to40 : EntryOk Tryd.prog 40 ti40 := ⟨Tryd.underlying40, by kernel_rfl⟩
def ti41 : TI := ⟨(.func #[24] #[24] false), 1, 8, (.nilFunc)⟩
theorem to41 : EntryOk Tryd.prog 41 ti41 := ⟨Tryd.underlying41, by kernel_rfl⟩
def ti42 : TI := ⟨(.func #[33, 33] #[4] false), 1, 8, (.nilFunc)⟩
theorem to42 : EntryOk Tryd.prog 42 ti42 := ⟨Tryd.underlying42, by kernel_rfl⟩
def ti43 : TI := ⟨(.func #[3] #[3] false), 1, 8, (.nilFunc)⟩
theorem to43 : EntryOk Tryd.prog 43 ti43 := ⟨Tryd.underlying43, by kernel_rfl⟩
def ti44 : TI := ⟨(.slice 47), 1, 24, (.slice none 0 0)⟩
theorem to44 : EntryOk Tryd.prog 44 ti44 := ⟨Tryd.underlying44, by kernel_rfl⟩
def ti45 : TI := ⟨(.slice 4), 1, 24, (.slice none 0 0)⟩
theorem to45 : EntryOk Tryd.prog 45 ti45 := ⟨Tryd.underlying45, by kernel_rfl⟩
def ti46 : TI := ⟨(.struct #[{ name := "K", type := 5, offset := 0, embedded := false, tag := "", pkgPath := "", byteOffset := 0 }, { name := "N", type := 3, offset := 1, embedded := false, tag := "", pkgPath := "", byteOffset := 8 }]), 2, 16, (.agg #[.int .u8 0, .int .i64 0])⟩
theorem to46 : EntryOk Tryd.prog 46 ti46 := ⟨Tryd.underlying46, by kernel_rfl⟩
def ti47 : TI := ⟨(.struct #[{ name := "K", type := 5, offset := 0, embedded := false, tag := "", pkgPath := "", byteOffset := 0 }, { name := "N", type := 3, offset := 1, embedded := false, tag := "", pkgPath := "", byteOffset := 8 }]), 2, 16, (.agg #[.int .u8 0, .int .i64 0])⟩
theorem to47 : EntryOk Tryd.prog 47 ti47 := ⟨Tryd.underlying47, by kernel_rfl⟩
def ti48 : TI := ⟨(.func #[24, 45] #[4] false), 1, 8, (.nilFunc)⟩
theorem to48 : EntryOk Tryd.prog 48 ti48 := ⟨Tryd.underlying48, by kernel_rfl⟩
def ti49 : TI := ⟨(.func #[44] #[4] false), 1, 8, (.nilFunc)⟩
theorem to49 : EntryOk Tryd.prog 49 ti49 := ⟨Tryd.underlying49, by kernel_rfl⟩
def ti50 : TI := ⟨(.func #[33, 3] #[4] false), 1, 8, (.nilFunc)⟩
theorem to50 : EntryOk Tryd.prog 50 ti50 := ⟨Tryd.underlying50, by kernel_rfl⟩
def ti51 : TI := ⟨(.slice 84), 1, 24, (.slice none 0 0)⟩
theorem to51 : EntryOk Tryd.prog 51 ti51 := ⟨Tryd.underlying51, by kernel_rfl⟩
def ti52 : TI := ⟨(.struct #[{ name := "Vars", type := 5, offset := 0, embedded := false, tag := "", pkgPath := "", byteOffset := 0 }, { name := "Cells", type := 5, offset := 1, embedded := false, tag := "", pkgPath := "", byteOffset := 1 }, { name := "Acts", type := 51, offset := 2, embedded := false, tag := "", pkgPath := "", byteOffset := 8 }]), 3, 32, (.agg #[.int .u8 0, .int .u8 0, .slice none 0 0])⟩
theorem to52 : EntryOk Tryd.prog 52 ti52 := ⟨Tryd.underlying52, by kernel_rfl⟩
def ti53 : TI := ⟨(.struct #[{ name := "Vars", type := 5, offset := 0, embedded := false, tag := "", pkgPath := "", byteOffset := 0 }, { name := "Cells", type := 5, offset := 1, embedded := false, tag := "", pkgPath := "", byteOffset := 1 }, { name := "Acts", type := 51, offset := 2, embedded := false, tag := "", pkgPath := "", byteOffset := 8 }]), 3, 32, (.agg #[.int .u8 0, .int .u8 0, .slice none 0 0])⟩
theorem to53 : EntryOk Tryd.prog 53 ti53 := ⟨Tryd.underlying53, by kernel_rfl⟩
def ti54 : TI := ⟨(.slice 80), 1, 24, (.slice none 0 0)⟩
theorem to54 : EntryOk Tryd.prog 54 ti54 := ⟨Tryd.underlying54, by kernel_rfl⟩
def ti55 : TI := ⟨(.slice 82), 1, 24, (.slice none 0 0)⟩
theorem to55 : EntryOk Tryd.prog 55 ti55 := ⟨Tryd.underlying55, by kernel_rfl⟩
def ti56 : TI := ⟨(.struct #[{ name := "Vars", type := 3, offset := 0, embedded := false, tag := "", pkgPath := "", byteOffset := 0 }, { name := "Cells", type := 54, offset := 1, embedded := false, tag := "", pkgPath := "", byteOffset := 8 }, { name := "Cons", type := 55, offset := 2, embedded := false, tag := "", pkgPath := "", byteOffset := 32 }]), 3, 56, (.agg #[.int .i64 0, .slice none 0 0, .slice none 0 0])⟩
theorem to56 : EntryOk Tryd.prog 56 ti56 := ⟨Tryd.underlying56, by kernel_rfl⟩
def ti57 : TI := ⟨(.struct #[{ name := "Vars", type := 3, offset := 0, embedded := false, tag := "", pkgPath := "", byteOffset := 0 }, { name := "Cells", type := 54, offset := 1, embedded := false, tag := "", pkgPath := "", byteOffset := 8 }, { name := "Cons", type := 55, offset := 2, embedded := false, tag := "", pkgPath := "", byteOffset := 32 }]), 3, 56, (.agg #[.int .i64 0, .slice none 0 0, .slice none 0 0])⟩
theorem to57 : EntryOk Tryd.prog 57 ti57 := ⟨Tryd.underlying57, by kernel_rfl⟩
def ti58 : TI := ⟨(.func #[53] #[57] false), 1, 8, (.nilFunc)⟩
theorem to58 : EntryOk Tryd.prog 58 ti58 := ⟨Tryd.underlying58, by kernel_rfl⟩
def ti59 : TI := ⟨(.slice 33), 1, 24, (.slice none 0 0)⟩
theorem to59 : EntryOk Tryd.prog 59 ti59 := ⟨Tryd.underlying59, by kernel_rfl⟩
def ti60 : TI := ⟨(.int .i64), 1, 8, (.int .i64 0)⟩
theorem to60 : EntryOk Tryd.prog 60 ti60 := ⟨Tryd.underlying60, by kernel_rfl⟩
def ti62 : TI := ⟨(.func #[57] #[59, 3, 60] false), 1, 8, (.nilFunc)⟩
theorem to62 : EntryOk Tryd.prog 62 ti62 := ⟨Tryd.underlying62, by kernel_rfl⟩
def ti63 : TI := ⟨(.func #[59, 59] #[4] false), 1, 8, (.nilFunc)⟩
theorem to63 : EntryOk Tryd.prog 63 ti63 := ⟨Tryd.underlying63, by kernel_rfl⟩
def ti64 : TI := ⟨(.func #[57] #[59] false), 1, 8, (.nilFunc)⟩
theorem to64 : EntryOk Tryd.prog 64 ti64 := ⟨Tryd.underlying64, by kernel_rfl⟩
def ti65 : TI := ⟨(.func #[3, 3] #[3] false), 1, 8, (.nilFunc)⟩
theorem to65 : EntryOk Tryd.prog 65 ti65 := ⟨Tryd.underlying65, by kernel_rfl⟩
def ti66 : TI := ⟨(.func #[53] #[4] false), 1, 8, (.nilFunc)⟩
theorem to66 : EntryOk Tryd.prog 66 ti66 := ⟨Tryd.underlying66, by kernel_rfl⟩
def ti68 : TI := ⟨(.func #[3] #[3, 4] false), 1, 8, (.nilFunc)⟩
theorem to68 : EntryOk Tryd.prog 68 ti68 := ⟨Tryd.underlying68, by kernel_rfl⟩
def ti69 : TI := ⟨(.func #[25, 3, 25] #[25] true), 1, 8, (.nilFunc)⟩
theorem to69 : EntryOk Tryd.prog 69 ti69 := ⟨Tryd.underlying69, by kernel_rfl⟩
def ti70 : TI := ⟨(.int .u64), 1, 8, (.int .u64 0)⟩
theorem to70 : EntryOk Tryd.prog 70 ti70 := ⟨Tryd.underlying70, by kernel_rfl⟩
def ti71 : TI := ⟨(.struct #[{ name := "at", type := 3, offset := 0, embedded := false, tag := "", pkgPath := "weathervane/pile", byteOffset := 0 }, { name := "w", type := 70, offset := 1, embedded := false, tag := "", pkgPath := "weathervane/pile", byteOffset := 8 }]), 2, 16, (.agg #[.int .i64 0, .int .u64 0])⟩
theorem to71 : EntryOk Tryd.prog 71 ti71 := ⟨Tryd.underlying71, by kernel_rfl⟩
def ti72 : TI := ⟨(.struct #[{ name := "at", type := 3, offset := 0, embedded := false, tag := "", pkgPath := "weathervane/pile", byteOffset := 0 }, { name := "w", type := 70, offset := 1, embedded := false, tag := "", pkgPath := "weathervane/pile", byteOffset := 8 }]), 2, 16, (.agg #[.int .i64 0, .int .u64 0])⟩
theorem to72 : EntryOk Tryd.prog 72 ti72 := ⟨Tryd.underlying72, by kernel_rfl⟩
def ti73 : TI := ⟨(.slice 5), 1, 24, (.slice none 0 0)⟩
theorem to73 : EntryOk Tryd.prog 73 ti73 := ⟨Tryd.underlying73, by kernel_rfl⟩
def ti74 : TI := ⟨(.func #[] #[25] false), 1, 8, (.nilFunc)⟩
theorem to74 : EntryOk Tryd.prog 74 ti74 := ⟨Tryd.underlying74, by kernel_rfl⟩
def ti75 : TI := ⟨(.func #[25, 25] #[4] false), 1, 8, (.nilFunc)⟩
theorem to75 : EntryOk Tryd.prog 75 ti75 := ⟨Tryd.underlying75, by kernel_rfl⟩
def ti76 : TI := ⟨(.func #[70] #[3] false), 1, 8, (.nilFunc)⟩
theorem to76 : EntryOk Tryd.prog 76 ti76 := ⟨Tryd.underlying76, by kernel_rfl⟩
def ti77 : TI := ⟨(.func #[25] #[25] false), 1, 8, (.nilFunc)⟩
theorem to77 : EntryOk Tryd.prog 77 ti77 := ⟨Tryd.underlying77, by kernel_rfl⟩
def ti78 : TI := ⟨(.int .u64), 1, 8, (.int .u64 0)⟩
theorem to78 : EntryOk Tryd.prog 78 ti78 := ⟨Tryd.underlying78, by kernel_rfl⟩
def ti79 : TI := ⟨(.struct #[{ name := "Fun", type := 4, offset := 0, embedded := false, tag := "", pkgPath := "", byteOffset := 0 }, { name := "Var", type := 3, offset := 1, embedded := false, tag := "", pkgPath := "", byteOffset := 8 }, { name := "Args", type := 33, offset := 2, embedded := false, tag := "", pkgPath := "", byteOffset := 16 }]), 3, 40, (.agg #[.bool false, .int .i64 0, .slice none 0 0])⟩
theorem to79 : EntryOk Tryd.prog 79 ti79 := ⟨Tryd.underlying79, by kernel_rfl⟩
def ti80 : TI := ⟨(.struct #[{ name := "Fun", type := 4, offset := 0, embedded := false, tag := "", pkgPath := "", byteOffset := 0 }, { name := "Var", type := 3, offset := 1, embedded := false, tag := "", pkgPath := "", byteOffset := 8 }, { name := "Args", type := 33, offset := 2, embedded := false, tag := "", pkgPath := "", byteOffset := 16 }]), 3, 40, (.agg #[.bool false, .int .i64 0, .slice none 0 0])⟩
theorem to80 : EntryOk Tryd.prog 80 ti80 := ⟨Tryd.underlying80, by kernel_rfl⟩
def ti81 : TI := ⟨(.struct #[{ name := "Kind", type := 5, offset := 0, embedded := false, tag := "", pkgPath := "", byteOffset := 0 }, { name := "A", type := 3, offset := 1, embedded := false, tag := "", pkgPath := "", byteOffset := 8 }, { name := "B", type := 3, offset := 2, embedded := false, tag := "", pkgPath := "", byteOffset := 16 }, { name := "Args", type := 33, offset := 3, embedded := false, tag := "", pkgPath := "", byteOffset := 24 }]), 4, 48, (.agg #[.int .u8 0, .int .i64 0, .int .i64 0, .slice none 0 0])⟩
theorem to81 : EntryOk Tryd.prog 81 ti81 := ⟨Tryd.underlying81, by kernel_rfl⟩
def ti82 : TI := ⟨(.struct #[{ name := "Kind", type := 5, offset := 0, embedded := false, tag := "", pkgPath := "", byteOffset := 0 }, { name := "A", type := 3, offset := 1, embedded := false, tag := "", pkgPath := "", byteOffset := 8 }, { name := "B", type := 3, offset := 2, embedded := false, tag := "", pkgPath := "", byteOffset := 16 }, { name := "Args", type := 33, offset := 3, embedded := false, tag := "", pkgPath := "", byteOffset := 24 }]), 4, 48, (.agg #[.int .u8 0, .int .i64 0, .int .i64 0, .slice none 0 0])⟩
theorem to82 : EntryOk Tryd.prog 82 ti82 := ⟨Tryd.underlying82, by kernel_rfl⟩
def ti83 : TI := ⟨(.struct #[{ name := "K", type := 5, offset := 0, embedded := false, tag := "", pkgPath := "", byteOffset := 0 }, { name := "A", type := 5, offset := 1, embedded := false, tag := "", pkgPath := "", byteOffset := 1 }, { name := "B", type := 5, offset := 2, embedded := false, tag := "", pkgPath := "", byteOffset := 2 }, { name := "C", type := 5, offset := 3, embedded := false, tag := "", pkgPath := "", byteOffset := 3 }]), 4, 4, (.agg #[.int .u8 0, .int .u8 0, .int .u8 0, .int .u8 0])⟩
theorem to83 : EntryOk Tryd.prog 83 ti83 := ⟨Tryd.underlying83, by kernel_rfl⟩
def ti84 : TI := ⟨(.struct #[{ name := "K", type := 5, offset := 0, embedded := false, tag := "", pkgPath := "", byteOffset := 0 }, { name := "A", type := 5, offset := 1, embedded := false, tag := "", pkgPath := "", byteOffset := 1 }, { name := "B", type := 5, offset := 2, embedded := false, tag := "", pkgPath := "", byteOffset := 2 }, { name := "C", type := 5, offset := 3, embedded := false, tag := "", pkgPath := "", byteOffset := 3 }]), 4, 4, (.agg #[.int .u8 0, .int .u8 0, .int .u8 0, .int .u8 0])⟩
theorem to84 : EntryOk Tryd.prog 84 ti84 := ⟨Tryd.underlying84, by kernel_rfl⟩
def ti85 : TI := ⟨(.func #[57] #[4] false), 1, 8, (.nilFunc)⟩
theorem to85 : EntryOk Tryd.prog 85 ti85 := ⟨Tryd.underlying85, by kernel_rfl⟩
def ti86 : TI := ⟨(.pointer 89), 1, 8, (.pointer none)⟩
theorem to86 : EntryOk Tryd.prog 86 ti86 := ⟨Tryd.underlying86, by kernel_rfl⟩
def ti87 : TI := ⟨(.slice 24), 1, 24, (.slice none 0 0)⟩
theorem to87 : EntryOk Tryd.prog 87 ti87 := ⟨Tryd.underlying87, by kernel_rfl⟩
def ti88 : TI := ⟨(.struct #[{ name := "s", type := 57, offset := 0, embedded := false, tag := "", pkgPath := "weathervane/solve", byteOffset := 0 }, { name := "in", type := 87, offset := 3, embedded := false, tag := "", pkgPath := "weathervane/solve", byteOffset := 56 }, { name := "done", type := 87, offset := 4, embedded := false, tag := "", pkgPath := "weathervane/solve", byteOffset := 80 }, { name := "to", type := 87, offset := 5, embedded := false, tag := "", pkgPath := "weathervane/solve", byteOffset := 104 }, { name := "from", type := 59, offset := 6, embedded := false, tag := "", pkgPath := "weathervane/solve", byteOffset := 128 }, { name := "work", type := 33, offset := 7, embedded := false, tag := "", pkgPath := "weathervane/solve", byteOffset := 152 }, { name := "on", type := 45, offset := 8, embedded := false, tag := "", pkgPath := "weathervane/solve", byteOffset := 176 }, { name := "pops", type := 3, offset := 9, embedded := false, tag := "", pkgPath := "weathervane/solve", byteOffset := 200 }]), 10, 208, (.agg #[.int .i64 0, .slice none 0 0, .slice none 0 0, .slice none 0 0, .slice none 0 0, .slice none 0 0, .slice none 0 0, .slice none 0 0, .slice none 0 0, .int .i64 0])⟩
theorem to88 : EntryOk Tryd.prog 88 ti88 := ⟨Tryd.underlying88, by kernel_rfl⟩
def ti89 : TI := ⟨(.struct #[{ name := "s", type := 57, offset := 0, embedded := false, tag := "", pkgPath := "weathervane/solve", byteOffset := 0 }, { name := "in", type := 87, offset := 3, embedded := false, tag := "", pkgPath := "weathervane/solve", byteOffset := 56 }, { name := "done", type := 87, offset := 4, embedded := false, tag := "", pkgPath := "weathervane/solve", byteOffset := 80 }, { name := "to", type := 87, offset := 5, embedded := false, tag := "", pkgPath := "weathervane/solve", byteOffset := 104 }, { name := "from", type := 59, offset := 6, embedded := false, tag := "", pkgPath := "weathervane/solve", byteOffset := 128 }, { name := "work", type := 33, offset := 7, embedded := false, tag := "", pkgPath := "weathervane/solve", byteOffset := 152 }, { name := "on", type := 45, offset := 8, embedded := false, tag := "", pkgPath := "weathervane/solve", byteOffset := 176 }, { name := "pops", type := 3, offset := 9, embedded := false, tag := "", pkgPath := "weathervane/solve", byteOffset := 200 }]), 10, 208, (.agg #[.int .i64 0, .slice none 0 0, .slice none 0 0, .slice none 0 0, .slice none 0 0, .slice none 0 0, .slice none 0 0, .slice none 0 0, .slice none 0 0, .int .i64 0])⟩
theorem to89 : EntryOk Tryd.prog 89 ti89 := ⟨Tryd.underlying89, by kernel_rfl⟩
def ti90 : TI := ⟨(.func #[3] #[] false), 1, 8, (.nilFunc)⟩
theorem to90 : EntryOk Tryd.prog 90 ti90 := ⟨Tryd.underlying90, by kernel_rfl⟩
def ti91 : TI := ⟨(.slice 45), 1, 24, (.slice none 0 0)⟩
theorem to91 : EntryOk Tryd.prog 91 ti91 := ⟨Tryd.underlying91, by kernel_rfl⟩
def ti92 : TI := ⟨(.func #[57, 91] #[4] false), 1, 8, (.nilFunc)⟩
theorem to92 : EntryOk Tryd.prog 92 ti92 := ⟨Tryd.underlying92, by kernel_rfl⟩
def ti93 : TI := ⟨(.func #[25, 3, 94] #[3, 4] false), 1, 8, (.nilFunc)⟩
theorem to93 : EntryOk Tryd.prog 93 ti93 := ⟨Tryd.underlying93, by kernel_rfl⟩
def ti94 : TI := ⟨(.func #[72, 3] #[3] false), 1, 8, (.nilFunc)⟩
theorem to94 : EntryOk Tryd.prog 94 ti94 := ⟨Tryd.underlying94, by kernel_rfl⟩
def ti95 : TI := ⟨(.func #[25, 3] #[] false), 1, 8, (.nilFunc)⟩
theorem to95 : EntryOk Tryd.prog 95 ti95 := ⟨Tryd.underlying95, by kernel_rfl⟩
def ti96 : TI := ⟨(.array 64 5), 64, 64, (.agg #[.int .u8 0, .int .u8 0, .int .u8 0, .int .u8 0, .int .u8 0, .int .u8 0, .int .u8 0, .int .u8 0, .int .u8 0, .int .u8 0, .int .u8 0, .int .u8 0, .int .u8 0, .int .u8 0, .int .u8 0, .int .u8 0, .int .u8 0, .int .u8 0, .int .u8 0, .int .u8 0, .int .u8 0, .int .u8 0, .int .u8 0, .int .u8 0, .int .u8 0, .int .u8 0, .int .u8 0, .int .u8 0, .int .u8 0, .int .u8 0, .int .u8 0, .int .u8 0, .int .u8 0, .int .u8 0, .int .u8 0, .int .u8 0, .int .u8 0, .int .u8 0, .int .u8 0, .int .u8 0, .int .u8 0, .int .u8 0, .int .u8 0, .int .u8 0, .int .u8 0, .int .u8 0, .int .u8 0, .int .u8 0, .int .u8 0, .int .u8 0, .int .u8 0, .int .u8 0, .int .u8 0, .int .u8 0, .int .u8 0, .int .u8 0, .int .u8 0, .int .u8 0, .int .u8 0, .int .u8 0, .int .u8 0, .int .u8 0, .int .u8 0, .int .u8 0])⟩
theorem to96 : EntryOk Tryd.prog 96 ti96 := ⟨Tryd.underlying96, by kernel_rfl⟩
def ti97 : TI := ⟨(.func #[80, 3] #[4] false), 1, 8, (.nilFunc)⟩
theorem to97 : EntryOk Tryd.prog 97 ti97 := ⟨Tryd.underlying97, by kernel_rfl⟩
def ti98 : TI := ⟨(.func #[82, 3, 3] #[4] false), 1, 8, (.nilFunc)⟩
theorem to98 : EntryOk Tryd.prog 98 ti98 := ⟨Tryd.underlying98, by kernel_rfl⟩
def ti99 : TI := ⟨(.func #[82, 80] #[] false), 1, 8, (.nilFunc)⟩
theorem to99 : EntryOk Tryd.prog 99 ti99 := ⟨Tryd.underlying99, by kernel_rfl⟩
def ti100 : TI := ⟨(.func #[3, 24] #[] false), 1, 8, (.nilFunc)⟩
theorem to100 : EntryOk Tryd.prog 100 ti100 := ⟨Tryd.underlying100, by kernel_rfl⟩
def ti101 : TI := ⟨(.func #[91, 3, 3] #[4] false), 1, 8, (.nilFunc)⟩
theorem to101 : EntryOk Tryd.prog 101 ti101 := ⟨Tryd.underlying101, by kernel_rfl⟩
def ti102 : TI := ⟨(.func #[3, 3, 3] #[4] false), 1, 8, (.nilFunc)⟩
theorem to102 : EntryOk Tryd.prog 102 ti102 := ⟨Tryd.underlying102, by kernel_rfl⟩
def ti103 : TI := ⟨(.func #[3, 3] #[] false), 1, 8, (.nilFunc)⟩
theorem to103 : EntryOk Tryd.prog 103 ti103 := ⟨Tryd.underlying103, by kernel_rfl⟩
def ti104 : TI := ⟨(.func #[25] #[] false), 1, 8, (.nilFunc)⟩
theorem to104 : EntryOk Tryd.prog 104 ti104 := ⟨Tryd.underlying104, by kernel_rfl⟩
def ti107 : TI := ⟨(.array 0 16), 0, 0, (.agg #[])⟩
theorem to107 : EntryOk Tryd.prog 107 ti107 := ⟨Tryd.underlying107, by kernel_rfl⟩
def ti110 : TI := ⟨(.int .u32), 1, 4, (.int .u32 0)⟩
theorem to110 : EntryOk Tryd.prog 110 ti110 := ⟨Tryd.underlying110, by kernel_rfl⟩
def ti111 : TI := ⟨(.int .u8), 1, 1, (.int .u8 0)⟩
theorem to111 : EntryOk Tryd.prog 111 ti111 := ⟨Tryd.underlying111, by kernel_rfl⟩
def ti112 : TI := ⟨(.int .u8), 1, 1, (.int .u8 0)⟩
theorem to112 : EntryOk Tryd.prog 112 ti112 := ⟨Tryd.underlying112, by kernel_rfl⟩
def ti113 : TI := ⟨(.func #[119, 119] #[4] false), 1, 8, (.nilFunc)⟩
theorem to113 : EntryOk Tryd.prog 113 ti113 := ⟨Tryd.underlying113, by kernel_rfl⟩
def ti114 : TI := ⟨(.pointer 5), 1, 8, (.pointer none)⟩
theorem to114 : EntryOk Tryd.prog 114 ti114 := ⟨Tryd.underlying114, by kernel_rfl⟩
def ti115 : TI := ⟨(.int .i32), 1, 4, (.int .i32 0)⟩
theorem to115 : EntryOk Tryd.prog 115 ti115 := ⟨Tryd.underlying115, by kernel_rfl⟩
def ti116 : TI := ⟨(.int .i32), 1, 4, (.int .i32 0)⟩
theorem to116 : EntryOk Tryd.prog 116 ti116 := ⟨Tryd.underlying116, by kernel_rfl⟩
def ti117 : TI := ⟨(.struct #[{ name := "Size_", type := 12, offset := 0, embedded := false, tag := "", pkgPath := "", byteOffset := 0 }, { name := "PtrBytes", type := 12, offset := 1, embedded := false, tag := "", pkgPath := "", byteOffset := 8 }, { name := "Hash", type := 110, offset := 2, embedded := false, tag := "", pkgPath := "", byteOffset := 16 }, { name := "TFlag", type := 111, offset := 3, embedded := false, tag := "", pkgPath := "", byteOffset := 20 }, { name := "Align_", type := 5, offset := 4, embedded := false, tag := "", pkgPath := "", byteOffset := 21 }, { name := "FieldAlign_", type := 5, offset := 5, embedded := false, tag := "", pkgPath := "", byteOffset := 22 }, { name := "Kind_", type := 112, offset := 6, embedded := false, tag := "", pkgPath := "", byteOffset := 23 }, { name := "Equal", type := 113, offset := 7, embedded := false, tag := "", pkgPath := "", byteOffset := 24 }, { name := "GCData", type := 114, offset := 8, embedded := false, tag := "", pkgPath := "", byteOffset := 32 }, { name := "Str", type := 115, offset := 9, embedded := false, tag := "", pkgPath := "", byteOffset := 40 }, { name := "PtrToThis", type := 116, offset := 10, embedded := false, tag := "", pkgPath := "", byteOffset := 44 }]), 11, 48, (.agg #[.int .u64 0, .int .u64 0, .int .u32 0, .int .u8 0, .int .u8 0, .int .u8 0, .int .u8 0, .nilFunc, .pointer none, .int .i32 0, .int .i32 0])⟩
theorem to117 : EntryOk Tryd.prog 117 ti117 := ⟨Tryd.underlying117, by kernel_rfl⟩
def ti118 : TI := ⟨(.struct #[{ name := "Size_", type := 12, offset := 0, embedded := false, tag := "", pkgPath := "", byteOffset := 0 }, { name := "PtrBytes", type := 12, offset := 1, embedded := false, tag := "", pkgPath := "", byteOffset := 8 }, { name := "Hash", type := 110, offset := 2, embedded := false, tag := "", pkgPath := "", byteOffset := 16 }, { name := "TFlag", type := 111, offset := 3, embedded := false, tag := "", pkgPath := "", byteOffset := 20 }, { name := "Align_", type := 5, offset := 4, embedded := false, tag := "", pkgPath := "", byteOffset := 21 }, { name := "FieldAlign_", type := 5, offset := 5, embedded := false, tag := "", pkgPath := "", byteOffset := 22 }, { name := "Kind_", type := 112, offset := 6, embedded := false, tag := "", pkgPath := "", byteOffset := 23 }, { name := "Equal", type := 113, offset := 7, embedded := false, tag := "", pkgPath := "", byteOffset := 24 }, { name := "GCData", type := 114, offset := 8, embedded := false, tag := "", pkgPath := "", byteOffset := 32 }, { name := "Str", type := 115, offset := 9, embedded := false, tag := "", pkgPath := "", byteOffset := 40 }, { name := "PtrToThis", type := 116, offset := 10, embedded := false, tag := "", pkgPath := "", byteOffset := 44 }]), 11, 48, (.agg #[.int .u64 0, .int .u64 0, .int .u32 0, .int .u8 0, .int .u8 0, .int .u8 0, .int .u8 0, .nilFunc, .pointer none, .int .i32 0, .int .i32 0])⟩
theorem to118 : EntryOk Tryd.prog 118 ti118 := ⟨Tryd.underlying118, by kernel_rfl⟩
def tab : Nat → Option TI := lookT (.node (.node (.node (.node (.node (.node (.node .leaf 1 ti1 .leaf) 2 ti2 (.node .leaf 3 ti3 .leaf)) 4 ti4 (.node (.node .leaf 5 ti5 .leaf) 6 ti6 .leaf)) 9 ti9 (.node (.node (.node .leaf 10 ti10 .leaf) 11 ti11 (.node .leaf 12 ti12 .leaf)) 15 ti15 (.node (.node .leaf 16 ti16 .leaf) 17 ti17 .leaf))) 21 ti21 (.node (.node (.node (.node .leaf 22 ti22 .leaf) 23 ti23 (.node .leaf 24 ti24 .leaf)) 25 ti25 (.node (.node .leaf 26 ti26 .leaf) 27 ti27 .leaf)) 28 ti28 (.node (.node (.node .leaf 29 ti29 .leaf) 30 ti30 .leaf) 31 ti31 (.node (.node .leaf 32 ti32 .leaf) 33 ti33 .leaf)))) 34 ti34 (.node (.node (.node (.node (.node .leaf 35 ti35 .leaf) 36 ti36 (.node .leaf 37 ti37 .leaf)) 38 ti38 (.node (.node .leaf 39 ti39 .leaf) 40 ti40 .leaf)) 41 ti41 (.node (.node (.node .leaf 42 ti42 .leaf) 43 ti43 .leaf) 44 ti44 (.node (.node .leaf 45 ti45 .leaf) 46 ti46 .leaf))) 47 ti47 (.node (.node (.node (.node .leaf 48 ti48 .leaf) 49 ti49 (.node .leaf 50 ti50 .leaf)) 51 ti51 (.node (.node .leaf 52 ti52 .leaf) 53 ti53 .leaf)) 54 ti54 (.node (.node (.node .leaf 55 ti55 .leaf) 56 ti56 .leaf) 57 ti57 (.node (.node .leaf 58 ti58 .leaf) 59 ti59 .leaf))))) 60 ti60 (.node (.node (.node (.node (.node (.node .leaf 62 ti62 .leaf) 63 ti63 (.node .leaf 64 ti64 .leaf)) 65 ti65 (.node (.node .leaf 66 ti66 .leaf) 68 ti68 .leaf)) 69 ti69 (.node (.node (.node .leaf 70 ti70 .leaf) 71 ti71 (.node .leaf 72 ti72 .leaf)) 73 ti73 (.node (.node .leaf 74 ti74 .leaf) 75 ti75 .leaf))) 76 ti76 (.node (.node (.node (.node .leaf 77 ti77 .leaf) 78 ti78 (.node .leaf 79 ti79 .leaf)) 80 ti80 (.node (.node .leaf 81 ti81 .leaf) 82 ti82 .leaf)) 83 ti83 (.node (.node (.node .leaf 84 ti84 .leaf) 85 ti85 .leaf) 86 ti86 (.node (.node .leaf 87 ti87 .leaf) 88 ti88 .leaf)))) 89 ti89 (.node (.node (.node (.node (.node .leaf 90 ti90 .leaf) 91 ti91 (.node .leaf 92 ti92 .leaf)) 93 ti93 (.node (.node .leaf 94 ti94 .leaf) 95 ti95 .leaf)) 96 ti96 (.node (.node (.node .leaf 97 ti97 .leaf) 98 ti98 .leaf) 99 ti99 (.node (.node .leaf 100 ti100 .leaf) 101 ti101 .leaf))) 102 ti102 (.node (.node (.node (.node .leaf 103 ti103 .leaf) 104 ti104 (.node .leaf 107 ti107 .leaf)) 110 ti110 (.node (.node .leaf 111 ti111 .leaf) 112 ti112 .leaf)) 113 ti113 (.node (.node (.node .leaf 114 ti114 .leaf) 115 ti115 .leaf) 116 ti116 (.node (.node .leaf 117 ti117 .leaf) 118 ti118 .leaf))))))
theorem tabOk : TabOk Tryd.prog tab := tabOk_of ⟨⟨⟨⟨⟨⟨⟨trivial, to1, trivial⟩, to2, ⟨trivial, to3, trivial⟩⟩, to4, ⟨⟨trivial, to5, trivial⟩, to6, trivial⟩⟩, to9, ⟨⟨⟨trivial, to10, trivial⟩, to11, ⟨trivial, to12, trivial⟩⟩, to15, ⟨⟨trivial, to16, trivial⟩, to17, trivial⟩⟩⟩, to21, ⟨⟨⟨⟨trivial, to22, trivial⟩, to23, ⟨trivial, to24, trivial⟩⟩, to25, ⟨⟨trivial, to26, trivial⟩, to27, trivial⟩⟩, to28, ⟨⟨⟨trivial, to29, trivial⟩, to30, trivial⟩, to31, ⟨⟨trivial, to32, trivial⟩, to33, trivial⟩⟩⟩⟩, to34, ⟨⟨⟨⟨⟨trivial, to35, trivial⟩, to36, ⟨trivial, to37, trivial⟩⟩, to38, ⟨⟨trivial, to39, trivial⟩, to40, trivial⟩⟩, to41, ⟨⟨⟨trivial, to42, trivial⟩, to43, trivial⟩, to44, ⟨⟨trivial, to45, trivial⟩, to46, trivial⟩⟩⟩, to47, ⟨⟨⟨⟨trivial, to48, trivial⟩, to49, ⟨trivial, to50, trivial⟩⟩, to51, ⟨⟨trivial, to52, trivial⟩, to53, trivial⟩⟩, to54, ⟨⟨⟨trivial, to55, trivial⟩, to56, trivial⟩, to57, ⟨⟨trivial, to58, trivial⟩, to59, trivial⟩⟩⟩⟩⟩, to60, ⟨⟨⟨⟨⟨⟨trivial, to62, trivial⟩, to63, ⟨trivial, to64, trivial⟩⟩, to65, ⟨⟨trivial, to66, trivial⟩, to68, trivial⟩⟩, to69, ⟨⟨⟨trivial, to70, trivial⟩, to71, ⟨trivial, to72, trivial⟩⟩, to73, ⟨⟨trivial, to74, trivial⟩, to75, trivial⟩⟩⟩, to76, ⟨⟨⟨⟨trivial, to77, trivial⟩, to78, ⟨trivial, to79, trivial⟩⟩, to80, ⟨⟨trivial, to81, trivial⟩, to82, trivial⟩⟩, to83, ⟨⟨⟨trivial, to84, trivial⟩, to85, trivial⟩, to86, ⟨⟨trivial, to87, trivial⟩, to88, trivial⟩⟩⟩⟩, to89, ⟨⟨⟨⟨⟨trivial, to90, trivial⟩, to91, ⟨trivial, to92, trivial⟩⟩, to93, ⟨⟨trivial, to94, trivial⟩, to95, trivial⟩⟩, to96, ⟨⟨⟨trivial, to97, trivial⟩, to98, trivial⟩, to99, ⟨⟨trivial, to100, trivial⟩, to101, trivial⟩⟩⟩, to102, ⟨⟨⟨⟨trivial, to103, trivial⟩, to104, ⟨trivial, to107, trivial⟩⟩, to110, ⟨⟨trivial, to111, trivial⟩, to112, trivial⟩⟩, to113, ⟨⟨⟨trivial, to114, trivial⟩, to115, trivial⟩, to116, ⟨⟨trivial, to117, trivial⟩, to118, trivial⟩⟩⟩⟩⟩⟩
end Go.Proofs.YtkmnhkfgjadppaaDoor
