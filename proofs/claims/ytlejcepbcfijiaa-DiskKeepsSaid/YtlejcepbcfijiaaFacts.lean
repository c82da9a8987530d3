/-
  FACTS ON THE PROGRAM's TYPES, by program (wip/tools/facts.py). Conditions: none.
-/
import Derived.Test.YtlejcepbcfijiaaProg
import Derived.Test.YtlejcepbcfijiaaSlDraw
import Derived.KernelRfl
set_option maxRecDepth 100000
namespace Go.Proofs.Ytlejcepbcfijiaa
open Go Go.SL
theorem Try.mixed : Try.prog.follows .mixedOrders = true := by kernel_rfl
theorem Try.ty3 : TyF Try.prog 3 1 (.int .i64 0) 8 := ⟨by kernel_rfl⟩ -- int
theorem Try.ty4 : TyF Try.prog 4 1 (.bool false) 1 := ⟨by kernel_rfl⟩ -- bool
theorem Try.ty5 : TyF Try.prog 5 1 (.int .u8 0) 1 := ⟨by kernel_rfl⟩ -- uint8
theorem Try.ty9 : TyF Try.prog 9 1 (.string (mkS [])) 16 := ⟨by kernel_rfl⟩ -- string
theorem Try.ty22 : TyF Try.prog 22 1 (.slice none 0 0) 24 := ⟨by kernel_rfl⟩ -- []lapstoneref06.Act
theorem Try.ty23 : TyF Try.prog 23 2 (.agg #[.slice none 0 0, .slice none 0 0]) 48 := ⟨by kernel_rfl⟩ -- [2][]lapstoneref06.Act
theorem Try.ty24 : TyF Try.prog 24 1 (.slice none 0 0) 24 := ⟨by kernel_rfl⟩ -- []api.Survivor
theorem Try.ty25 : TyF Try.prog 25 1 (.pointer none) 8 := ⟨by kernel_rfl⟩ -- *disk.Disk
theorem Try.ty26 : TyF Try.prog 26 1 (.int .i64 0) 8 := ⟨by kernel_rfl⟩ -- api.Errno
theorem Try.ty32 : TyF Try.prog 32 4 (.agg #[.int .i64 0, .int .i64 0, .string (mkS []), .slice none 0 0]) 56 := ⟨by kernel_rfl⟩ -- lapstoneref06.Act
theorem Try.ty34 : TyF Try.prog 34 21 (.agg #[.string (mkS []), .string (mkS []), .string (mkS []), .string (mkS []), .string (mkS []), .string (mkS []), .string (mkS []), .string (mkS []), .string (mkS []), .string (mkS []), .string (mkS []), .string (mkS []), .string (mkS []), .string (mkS []), .string (mkS []), .string (mkS []), .string (mkS []), .string (mkS []), .string (mkS []), .string (mkS []), .string (mkS [])]) 336 := ⟨by kernel_rfl⟩ -- [21]string
theorem Try.ty35 : TyF Try.prog 35 21 (.agg #[.bool false, .bool false, .bool false, .bool false, .bool false, .bool false, .bool false, .bool false, .bool false, .bool false, .bool false, .bool false, .bool false, .bool false, .bool false, .bool false, .bool false, .bool false, .bool false, .bool false, .bool false]) 21 := ⟨by kernel_rfl⟩ -- [21]bool
theorem Try.ty36 : TyF Try.prog 36 1 (.slice none 0 0) 24 := ⟨by kernel_rfl⟩ -- []uint8
theorem Try.ty44 : TyF Try.prog 44 2 (.agg #[.int .i64 0, .int .i64 0]) 16 := ⟨by kernel_rfl⟩ -- api.Survivor
theorem Try.ty47 : TyF Try.prog 47 1 (.map none) 8 := ⟨by kernel_rfl⟩ -- disk.sectors
theorem Try.ty48 : TyF Try.prog 48 1 (.slice none 0 0) 24 := ⟨by kernel_rfl⟩ -- []disk.pending
theorem Try.ty50 : TyF Try.prog 50 5 (.agg #[.int .i64 0, .int .i64 0, .map none, .map none, .slice none 0 0]) 56 := ⟨by kernel_rfl⟩ -- disk.Disk
theorem Try.ty56 : TyF Try.prog 56 1 (.map none) 8 := ⟨by kernel_rfl⟩ -- map[int]int
theorem Try.ty57 : TyF Try.prog 57 1 (.nilFunc) 8 := ⟨by kernel_rfl⟩ -- func(disk.sectors, int)
theorem Try.ty58 : TyF Try.prog 58 1 (.nilFunc) 8 := ⟨by kernel_rfl⟩ -- disk.pending
theorem Try.fld32_0 : FieldF Try.prog 32 0 0 := FieldF.mk (sz := 0) Try.underlying32 rfl rfl (by kernel_rfl) -- lapstoneref06.Act.Kind
theorem Try.fld32_1 : FieldF Try.prog 32 1 1 := FieldF.mk (sz := 0) Try.underlying32 rfl rfl (by kernel_rfl) -- lapstoneref06.Act.At
theorem Try.fld32_2 : FieldF Try.prog 32 2 2 := FieldF.mk (sz := 0) Try.underlying32 rfl rfl (by kernel_rfl) -- lapstoneref06.Act.B
theorem Try.fld32_3 : FieldF Try.prog 32 3 3 := FieldF.mk (sz := 0) Try.underlying32 rfl rfl (by kernel_rfl) -- lapstoneref06.Act.L
theorem Try.fld44_0 : FieldF Try.prog 44 0 0 := FieldF.mk (sz := 0) Try.underlying44 rfl rfl (by kernel_rfl) -- api.Survivor.Write
theorem Try.fld44_1 : FieldF Try.prog 44 1 1 := FieldF.mk (sz := 0) Try.underlying44 rfl rfl (by kernel_rfl) -- api.Survivor.Bytes
theorem Try.fld50_0 : FieldF Try.prog 50 0 0 := FieldF.mk (sz := 0) Try.underlying50 rfl rfl (by kernel_rfl) -- disk.Disk.size
theorem Try.fld50_1 : FieldF Try.prog 50 1 1 := FieldF.mk (sz := 0) Try.underlying50 rfl rfl (by kernel_rfl) -- disk.Disk.limit
theorem Try.fld50_2 : FieldF Try.prog 50 2 2 := FieldF.mk (sz := 0) Try.underlying50 rfl rfl (by kernel_rfl) -- disk.Disk.view
theorem Try.fld50_3 : FieldF Try.prog 50 3 3 := FieldF.mk (sz := 0) Try.underlying50 rfl rfl (by kernel_rfl) -- disk.Disk.ground
theorem Try.fld50_4 : FieldF Try.prog 50 4 4 := FieldF.mk (sz := 0) Try.underlying50 rfl rfl (by kernel_rfl) -- disk.Disk.pending
theorem Try.st44 : StructF Try.prog 44 [(0, 1), (1, 1)] (#[.int .i64 0, .int .i64 0]) := StructF.of Try.underlying44 Try.ty44 (fun w => by kernel_rfl) -- api.Survivor
theorem Try.st50 : StructF Try.prog 50 [(0, 1), (1, 1), (2, 1), (3, 1), (4, 1)] (#[.int .i64 0, .int .i64 0, .map none, .map none, .slice none 0 0]) := StructF.of Try.underlying50 Try.ty50 (fun w => by kernel_rfl) -- disk.Disk
end Go.Proofs.Ytlejcepbcfijiaa
