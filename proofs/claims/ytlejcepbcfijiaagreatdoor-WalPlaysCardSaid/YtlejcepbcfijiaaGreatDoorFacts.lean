/-
  FACTS ON THE PROGRAM's TYPES, by program (wip/tools/facts.py). Conditions: none.
-/
import Derived.Test.YtlejcepbcfijiaaGreatDoorProg
import Derived.Test.YtlejcepbcfijiaaGreatDoorSlZ
import Derived.KernelRfl
set_option maxRecDepth 100000
set_option linter.defProp false
namespace Go.Proofs.YtlejcepbcfijiaaGreatDoor
open Go Go.SL
theorem Tryz.mixed : Tryz.prog.follows .mixedOrders = true := by kernel_rfl
theorem Tryz.ty3 : TyF Tryz.prog 3 1 (.int .i64 0) 8 := ⟨by kernel_rfl⟩ -- int
theorem Tryz.ty4 : TyF Tryz.prog 4 1 (.bool false) 1 := ⟨by kernel_rfl⟩ -- bool
theorem Tryz.ty5 : TyF Tryz.prog 5 1 (.int .u8 0) 1 := ⟨by kernel_rfl⟩ -- uint8
theorem Tryz.ty9 : TyF Tryz.prog 9 1 (.string (mkS [])) 16 := ⟨by kernel_rfl⟩ -- string
theorem Tryz.ty23 : TyF Tryz.prog 23 4 (.agg #[.int .i64 0, .int .i64 0, .int .i64 0, .int .i64 0]) 32 := ⟨by kernel_rfl⟩ -- lapstonelaw08.Place
theorem Tryz.ty24 : TyF Tryz.prog 24 1 (.int .u64 0) 8 := ⟨by kernel_rfl⟩ -- uint64
theorem Tryz.ty25 : TyF Tryz.prog 25 1 (.slice none 0 0) 24 := ⟨by kernel_rfl⟩ -- []lapstonelaw08.Act
theorem Tryz.ty26 : TyF Tryz.prog 26 1 (.pointer none) 8 := ⟨by kernel_rfl⟩ -- *disk.Disk
theorem Tryz.ty27 : TyF Tryz.prog 27 1 (.int .i64 0) 8 := ⟨by kernel_rfl⟩ -- api.Errno
theorem Tryz.ty30 : TyF Tryz.prog 30 1 (.slice none 0 0) 24 := ⟨by kernel_rfl⟩ -- []lapstoneref06.Sector
theorem Tryz.ty31 : TyF Tryz.prog 31 1 (.slice none 0 0) 24 := ⟨by kernel_rfl⟩ -- []lapstoneref06.Pending
theorem Tryz.ty33 : TyF Tryz.prog 33 5 (.agg #[.int .i64 0, .int .i64 0, .slice none 0 0, .slice none 0 0, .slice none 0 0]) 88 := ⟨by kernel_rfl⟩ -- lapstoneref06.Disk
theorem Tryz.ty37 : TyF Tryz.prog 37 1 (.pointer none) 8 := ⟨by kernel_rfl⟩ -- *wal.Log
theorem Tryz.ty38 : TyF Tryz.prog 38 1 (.slice none 0 0) 24 := ⟨by kernel_rfl⟩ -- []api.Record
theorem Tryz.ty41 : TyF Tryz.prog 41 1 (.slice none 0 0) 24 := ⟨by kernel_rfl⟩ -- []lapstoneref08.Segment
theorem Tryz.ty43 : TyF Tryz.prog 43 12 (.agg #[.int .i64 0, .int .i64 0, .slice none 0 0, .slice none 0 0, .slice none 0 0, .int .i64 0, .int .i64 0, .int .i64 0, .slice none 0 0, .string (mkS []), .int .u64 0, .int .u64 0]) 168 := ⟨by kernel_rfl⟩ -- lapstoneref08.Log
theorem Tryz.ty47 : TyF Tryz.prog 47 1 (.slice none 0 0) 24 := ⟨by kernel_rfl⟩ -- []api.Survivor
theorem Tryz.ty49 : TyF Tryz.prog 49 5 (.agg #[.int .i64 0, .int .i64 0, .int .u64 0, .string (mkS []), .slice none 0 0]) 64 := ⟨by kernel_rfl⟩ -- lapstonelaw08.Act
theorem Tryz.ty61 : TyF Tryz.prog 61 1 (.nilFunc) 8 := ⟨by kernel_rfl⟩ -- func(int)
theorem Tryz.ty62 : TyF Tryz.prog 62 1 (.nilFunc) 8 := ⟨by kernel_rfl⟩ -- func() uint64
theorem Tryz.ty66 : TyF Tryz.prog 66 1 (.map none) 8 := ⟨by kernel_rfl⟩ -- disk.sectors
theorem Tryz.ty67 : TyF Tryz.prog 67 1 (.slice none 0 0) 24 := ⟨by kernel_rfl⟩ -- []disk.pending
theorem Tryz.ty69 : TyF Tryz.prog 69 5 (.agg #[.int .i64 0, .int .i64 0, .map none, .map none, .slice none 0 0]) 56 := ⟨by kernel_rfl⟩ -- disk.Disk
theorem Tryz.ty71 : TyF Tryz.prog 71 2 (.agg #[.int .u64 0, .string (mkS [])]) 24 := ⟨by kernel_rfl⟩ -- api.Record
theorem Tryz.ty72 : TyF Tryz.prog 72 1 (.slice none 0 0) 24 := ⟨by kernel_rfl⟩ -- []wal.segment
theorem Tryz.ty73 : TyF Tryz.prog 73 1 (.slice none 0 0) 24 := ⟨by kernel_rfl⟩ -- []uint8
theorem Tryz.ty75 : TyF Tryz.prog 75 8 (.agg #[.pointer none, .int .i64 0, .int .i64 0, .int .i64 0, .slice none 0 0, .slice none 0 0, .int .u64 0, .int .u64 0]) 96 := ⟨by kernel_rfl⟩ -- wal.Log
theorem Tryz.ty76 : TyF Tryz.prog 76 1 (.slice none 0 0) 24 := ⟨by kernel_rfl⟩ -- []wal.found
theorem Tryz.ty79 : TyF Tryz.prog 79 3 (.agg #[.int .i64 0, .int .u64 0, .int .u64 0]) 24 := ⟨by kernel_rfl⟩ -- wal.segment
theorem Tryz.ty81 : TyF Tryz.prog 81 4 (.agg #[.int .i64 0, .int .u64 0, .int .u64 0, .slice none 0 0]) 48 := ⟨by kernel_rfl⟩ -- wal.found
theorem Tryz.ty85 : TyF Tryz.prog 85 1 (.nilFunc) 8 := ⟨by kernel_rfl⟩ -- func(wal.found) bool
theorem Tryz.ty89 : TyF Tryz.prog 89 3 (.agg #[.int .i64 0, .int .u64 0, .int .u64 0]) 24 := ⟨by kernel_rfl⟩ -- lapstoneref08.Segment
theorem Tryz.ty99 : TyF Tryz.prog 99 1 (.pointer none) 8 := ⟨by kernel_rfl⟩ -- *wal.segment
theorem Tryz.ty102 : TyF Tryz.prog 102 1 (.map none) 8 := ⟨by kernel_rfl⟩ -- map[int]int
theorem Tryz.ty104 : TyF Tryz.prog 104 2 (.agg #[.int .i64 0, .int .i64 0]) 16 := ⟨by kernel_rfl⟩ -- api.Survivor
theorem Tryz.ty105 : TyF Tryz.prog 105 1 (.nilFunc) 8 := ⟨by kernel_rfl⟩ -- func(disk.sectors, int)
theorem Tryz.ty106 : TyF Tryz.prog 106 1 (.nilFunc) 8 := ⟨by kernel_rfl⟩ -- disk.pending
theorem Tryz.ty111 : TyF Tryz.prog 111 3 (.agg #[.int .i64 0, .bool false, .string (mkS [])]) 32 := ⟨by kernel_rfl⟩ -- lapstoneref06.Pending
theorem Tryz.ty118 : TyF Tryz.prog 118 1 (.nilFunc) 8 := ⟨by kernel_rfl⟩ -- func(wal.segment) bool
theorem Tryz.ty134 : TyF Tryz.prog 134 2 (.agg #[.int .i64 0, .string (mkS [])]) 24 := ⟨by kernel_rfl⟩ -- lapstoneref06.Sector
theorem Tryz.ty139 : TyF Tryz.prog 139 1 (.pointer none) 8 := ⟨by kernel_rfl⟩ -- *code.Reader
theorem Tryz.ty141 : TyF Tryz.prog 141 1 (.nilFunc) 8 := ⟨by kernel_rfl⟩ -- func() string
theorem Tryz.ty143 : TyF Tryz.prog 143 1 (.nilFunc) 8 := ⟨by kernel_rfl⟩ -- func(api.Record, int)
theorem Tryz.ty153 : TyF Tryz.prog 153 5 (.agg #[.int .i64 0, .int .u64 0, .string (mkS []), .bool false, .int .i64 0]) 48 := ⟨by kernel_rfl⟩ -- lapstoneref03.Field
theorem Tryz.ty156 : TyF Tryz.prog 156 1 (.int .u32 0) 4 := ⟨by kernel_rfl⟩ -- uint32
theorem Tryz.ty159 : TyF Tryz.prog 159 1 (.pointer none) 8 := ⟨by kernel_rfl⟩ -- *code.Writer
theorem Tryz.ty164 : TyF Tryz.prog 164 1 (.int .u64 0) 8 := ⟨by kernel_rfl⟩ -- uint
theorem Tryz.ty165 : TyF Tryz.prog 165 9 (.agg #[.int .u64 0, .int .u64 0, .int .u64 0, .int .u64 0, .int .u64 0, .int .u64 0, .int .u64 0, .int .u64 0, .int .u64 0]) 72 := ⟨by kernel_rfl⟩ -- [9]uint
theorem Tryz.ty166 : TyF Tryz.prog 166 1 (.nilFunc) 8 := ⟨by kernel_rfl⟩ -- func(uint)
theorem Tryz.ty169 : TyF Tryz.prog 169 2 (.agg #[.slice none 0 0, .int .i64 0]) 32 := ⟨by kernel_rfl⟩ -- code.Reader
theorem Tryz.ty171 : TyF Tryz.prog 171 1 (.nilFunc) 8 := ⟨by kernel_rfl⟩ -- func() (uint64, []uint8, bool)
theorem Tryz.ty179 : TyF Tryz.prog 179 2 (.agg #[.slice none 0 0, .int .i64 0]) 32 := ⟨by kernel_rfl⟩ -- code.Writer
theorem Tryz.ty180 : TyF Tryz.prog 180 1 (.slice none 0 0) 24 := ⟨by kernel_rfl⟩ -- []uint64
theorem Tryz.ty182 : TyF Tryz.prog 182 1 (.slice none 0 0) 24 := ⟨by kernel_rfl⟩ -- []string
theorem Tryz.ty185 : TyF Tryz.prog 185 16 (.agg #[.int .u32 0, .int .u32 0, .int .u32 0, .int .u32 0, .int .u32 0, .int .u32 0, .int .u32 0, .int .u32 0, .int .u32 0, .int .u32 0, .int .u32 0, .int .u32 0, .int .u32 0, .int .u32 0, .int .u32 0, .int .u32 0]) 64 := ⟨by kernel_rfl⟩ -- [16]uint32
theorem Tryz.fld23_0 : FieldF Tryz.prog 23 0 0 := FieldF.mk (sz := 0) Tryz.underlying23 rfl rfl (by kernel_rfl) -- lapstonelaw08.Place.Disk
theorem Tryz.fld23_1 : FieldF Tryz.prog 23 1 1 := FieldF.mk (sz := 0) Tryz.underlying23 rfl rfl (by kernel_rfl) -- lapstonelaw08.Place.At
theorem Tryz.fld23_2 : FieldF Tryz.prog 23 2 2 := FieldF.mk (sz := 0) Tryz.underlying23 rfl rfl (by kernel_rfl) -- lapstonelaw08.Place.Segments
theorem Tryz.fld23_3 : FieldF Tryz.prog 23 3 3 := FieldF.mk (sz := 0) Tryz.underlying23 rfl rfl (by kernel_rfl) -- lapstonelaw08.Place.Sectors
theorem Tryz.fld33_0 : FieldF Tryz.prog 33 0 0 := FieldF.mk (sz := 0) Tryz.underlying33 rfl rfl (by kernel_rfl) -- lapstoneref06.Disk.Size
theorem Tryz.fld33_1 : FieldF Tryz.prog 33 1 1 := FieldF.mk (sz := 0) Tryz.underlying33 rfl rfl (by kernel_rfl) -- lapstoneref06.Disk.Limit
theorem Tryz.fld33_2 : FieldF Tryz.prog 33 2 2 := FieldF.mk (sz := 0) Tryz.underlying33 rfl rfl (by kernel_rfl) -- lapstoneref06.Disk.View
theorem Tryz.fld33_3 : FieldF Tryz.prog 33 3 3 := FieldF.mk (sz := 0) Tryz.underlying33 rfl rfl (by kernel_rfl) -- lapstoneref06.Disk.Ground
theorem Tryz.fld33_4 : FieldF Tryz.prog 33 4 4 := FieldF.mk (sz := 0) Tryz.underlying33 rfl rfl (by kernel_rfl) -- lapstoneref06.Disk.L
theorem Tryz.fld43_0 : FieldF Tryz.prog 43 0 0 := FieldF.mk (sz := 4) Tryz.underlying43 rfl rfl (by kernel_rfl) -- lapstoneref08.Log.D
theorem Tryz.fld43_1 : FieldF Tryz.prog 43 1 5 := FieldF.mk (sz := 0) Tryz.underlying43 rfl rfl (by kernel_rfl) -- lapstoneref08.Log.At
theorem Tryz.fld43_2 : FieldF Tryz.prog 43 2 6 := FieldF.mk (sz := 0) Tryz.underlying43 rfl rfl (by kernel_rfl) -- lapstoneref08.Log.N
theorem Tryz.fld43_3 : FieldF Tryz.prog 43 3 7 := FieldF.mk (sz := 0) Tryz.underlying43 rfl rfl (by kernel_rfl) -- lapstoneref08.Log.Size
theorem Tryz.fld43_4 : FieldF Tryz.prog 43 4 8 := FieldF.mk (sz := 0) Tryz.underlying43 rfl rfl (by kernel_rfl) -- lapstoneref08.Log.Live
theorem Tryz.fld43_5 : FieldF Tryz.prog 43 5 9 := FieldF.mk (sz := 0) Tryz.underlying43 rfl rfl (by kernel_rfl) -- lapstoneref08.Log.Stream
theorem Tryz.fld43_6 : FieldF Tryz.prog 43 6 10 := FieldF.mk (sz := 0) Tryz.underlying43 rfl rfl (by kernel_rfl) -- lapstoneref08.Log.Last
theorem Tryz.fld43_7 : FieldF Tryz.prog 43 7 11 := FieldF.mk (sz := 0) Tryz.underlying43 rfl rfl (by kernel_rfl) -- lapstoneref08.Log.Synced
theorem Tryz.fld49_0 : FieldF Tryz.prog 49 0 0 := FieldF.mk (sz := 0) Tryz.underlying49 rfl rfl (by kernel_rfl) -- lapstonelaw08.Act.Kind
theorem Tryz.fld49_1 : FieldF Tryz.prog 49 1 1 := FieldF.mk (sz := 0) Tryz.underlying49 rfl rfl (by kernel_rfl) -- lapstonelaw08.Act.Limit
theorem Tryz.fld49_2 : FieldF Tryz.prog 49 2 2 := FieldF.mk (sz := 0) Tryz.underlying49 rfl rfl (by kernel_rfl) -- lapstonelaw08.Act.Seq
theorem Tryz.fld49_3 : FieldF Tryz.prog 49 3 3 := FieldF.mk (sz := 0) Tryz.underlying49 rfl rfl (by kernel_rfl) -- lapstonelaw08.Act.Body
theorem Tryz.fld49_4 : FieldF Tryz.prog 49 4 4 := FieldF.mk (sz := 0) Tryz.underlying49 rfl rfl (by kernel_rfl) -- lapstonelaw08.Act.Left
theorem Tryz.fld69_0 : FieldF Tryz.prog 69 0 0 := FieldF.mk (sz := 0) Tryz.underlying69 rfl rfl (by kernel_rfl) -- disk.Disk.size
theorem Tryz.fld69_1 : FieldF Tryz.prog 69 1 1 := FieldF.mk (sz := 0) Tryz.underlying69 rfl rfl (by kernel_rfl) -- disk.Disk.limit
theorem Tryz.fld69_2 : FieldF Tryz.prog 69 2 2 := FieldF.mk (sz := 0) Tryz.underlying69 rfl rfl (by kernel_rfl) -- disk.Disk.view
theorem Tryz.fld69_3 : FieldF Tryz.prog 69 3 3 := FieldF.mk (sz := 0) Tryz.underlying69 rfl rfl (by kernel_rfl) -- disk.Disk.ground
theorem Tryz.fld69_4 : FieldF Tryz.prog 69 4 4 := FieldF.mk (sz := 0) Tryz.underlying69 rfl rfl (by kernel_rfl) -- disk.Disk.pending
theorem Tryz.fld71_0 : FieldF Tryz.prog 71 0 0 := FieldF.mk (sz := 0) Tryz.underlying71 rfl rfl (by kernel_rfl) -- api.Record.Seq
theorem Tryz.fld71_1 : FieldF Tryz.prog 71 1 1 := FieldF.mk (sz := 0) Tryz.underlying71 rfl rfl (by kernel_rfl) -- api.Record.Body
theorem Tryz.fld75_0 : FieldF Tryz.prog 75 0 0 := FieldF.mk (sz := 0) Tryz.underlying75 rfl rfl (by kernel_rfl) -- wal.Log.d
theorem Tryz.fld75_1 : FieldF Tryz.prog 75 1 1 := FieldF.mk (sz := 0) Tryz.underlying75 rfl rfl (by kernel_rfl) -- wal.Log.at
theorem Tryz.fld75_2 : FieldF Tryz.prog 75 2 2 := FieldF.mk (sz := 0) Tryz.underlying75 rfl rfl (by kernel_rfl) -- wal.Log.n
theorem Tryz.fld75_3 : FieldF Tryz.prog 75 3 3 := FieldF.mk (sz := 0) Tryz.underlying75 rfl rfl (by kernel_rfl) -- wal.Log.size
theorem Tryz.fld75_4 : FieldF Tryz.prog 75 4 4 := FieldF.mk (sz := 0) Tryz.underlying75 rfl rfl (by kernel_rfl) -- wal.Log.live
theorem Tryz.fld75_5 : FieldF Tryz.prog 75 5 5 := FieldF.mk (sz := 0) Tryz.underlying75 rfl rfl (by kernel_rfl) -- wal.Log.stream
theorem Tryz.fld75_6 : FieldF Tryz.prog 75 6 6 := FieldF.mk (sz := 0) Tryz.underlying75 rfl rfl (by kernel_rfl) -- wal.Log.last
theorem Tryz.fld75_7 : FieldF Tryz.prog 75 7 7 := FieldF.mk (sz := 0) Tryz.underlying75 rfl rfl (by kernel_rfl) -- wal.Log.synced
theorem Tryz.fld79_0 : FieldF Tryz.prog 79 0 0 := FieldF.mk (sz := 0) Tryz.underlying79 rfl rfl (by kernel_rfl) -- wal.segment.at
theorem Tryz.fld79_1 : FieldF Tryz.prog 79 1 1 := FieldF.mk (sz := 0) Tryz.underlying79 rfl rfl (by kernel_rfl) -- wal.segment.base
theorem Tryz.fld79_2 : FieldF Tryz.prog 79 2 2 := FieldF.mk (sz := 0) Tryz.underlying79 rfl rfl (by kernel_rfl) -- wal.segment.count
theorem Tryz.fld81_0 : FieldF Tryz.prog 81 0 0 := FieldF.mk (sz := 2) Tryz.underlying81 rfl rfl (by kernel_rfl) -- wal.found.segment
theorem Tryz.fld81_1 : FieldF Tryz.prog 81 1 3 := FieldF.mk (sz := 0) Tryz.underlying81 rfl rfl (by kernel_rfl) -- wal.found.records
theorem Tryz.fld89_0 : FieldF Tryz.prog 89 0 0 := FieldF.mk (sz := 0) Tryz.underlying89 rfl rfl (by kernel_rfl) -- lapstoneref08.Segment.At
theorem Tryz.fld89_1 : FieldF Tryz.prog 89 1 1 := FieldF.mk (sz := 0) Tryz.underlying89 rfl rfl (by kernel_rfl) -- lapstoneref08.Segment.Base
theorem Tryz.fld89_2 : FieldF Tryz.prog 89 2 2 := FieldF.mk (sz := 0) Tryz.underlying89 rfl rfl (by kernel_rfl) -- lapstoneref08.Segment.Count
theorem Tryz.fld104_0 : FieldF Tryz.prog 104 0 0 := FieldF.mk (sz := 0) Tryz.underlying104 rfl rfl (by kernel_rfl) -- api.Survivor.Write
theorem Tryz.fld104_1 : FieldF Tryz.prog 104 1 1 := FieldF.mk (sz := 0) Tryz.underlying104 rfl rfl (by kernel_rfl) -- api.Survivor.Bytes
theorem Tryz.fld111_0 : FieldF Tryz.prog 111 0 0 := FieldF.mk (sz := 0) Tryz.underlying111 rfl rfl (by kernel_rfl) -- lapstoneref06.Pending.At
theorem Tryz.fld111_1 : FieldF Tryz.prog 111 1 1 := FieldF.mk (sz := 0) Tryz.underlying111 rfl rfl (by kernel_rfl) -- lapstoneref06.Pending.Free
theorem Tryz.fld111_2 : FieldF Tryz.prog 111 2 2 := FieldF.mk (sz := 0) Tryz.underlying111 rfl rfl (by kernel_rfl) -- lapstoneref06.Pending.B
theorem Tryz.fld134_0 : FieldF Tryz.prog 134 0 0 := FieldF.mk (sz := 0) Tryz.underlying134 rfl rfl (by kernel_rfl) -- lapstoneref06.Sector.At
theorem Tryz.fld134_1 : FieldF Tryz.prog 134 1 1 := FieldF.mk (sz := 0) Tryz.underlying134 rfl rfl (by kernel_rfl) -- lapstoneref06.Sector.B
theorem Tryz.fld153_1 : FieldF Tryz.prog 153 1 1 := FieldF.mk (sz := 0) Tryz.underlying153 rfl rfl (by kernel_rfl) -- lapstoneref03.Field.V
theorem Tryz.fld153_2 : FieldF Tryz.prog 153 2 2 := FieldF.mk (sz := 0) Tryz.underlying153 rfl rfl (by kernel_rfl) -- lapstoneref03.Field.S
theorem Tryz.fld153_3 : FieldF Tryz.prog 153 3 3 := FieldF.mk (sz := 0) Tryz.underlying153 rfl rfl (by kernel_rfl) -- lapstoneref03.Field.Yes
theorem Tryz.fld169_0 : FieldF Tryz.prog 169 0 0 := FieldF.mk (sz := 0) Tryz.underlying169 rfl rfl (by kernel_rfl) -- code.Reader.b
theorem Tryz.fld169_1 : FieldF Tryz.prog 169 1 1 := FieldF.mk (sz := 0) Tryz.underlying169 rfl rfl (by kernel_rfl) -- code.Reader.err
theorem Tryz.fld179_0 : FieldF Tryz.prog 179 0 0 := FieldF.mk (sz := 0) Tryz.underlying179 rfl rfl (by kernel_rfl) -- code.Writer.b
theorem Tryz.fld179_1 : FieldF Tryz.prog 179 1 1 := FieldF.mk (sz := 0) Tryz.underlying179 rfl rfl (by kernel_rfl) -- code.Writer.err
theorem Tryz.st33 : StructF Tryz.prog 33 [(0, 1), (1, 1), (2, 1), (3, 1), (4, 1)] (#[.int .i64 0, .int .i64 0, .slice none 0 0, .slice none 0 0, .slice none 0 0]) := StructF.of Tryz.underlying33 Tryz.ty33 (fun w => by kernel_rfl) -- lapstoneref06.Disk
theorem Tryz.st43 : StructF Tryz.prog 43 [(0, 5), (5, 1), (6, 1), (7, 1), (8, 1), (9, 1), (10, 1), (11, 1)] (#[.int .i64 0, .int .i64 0, .slice none 0 0, .slice none 0 0, .slice none 0 0, .int .i64 0, .int .i64 0, .int .i64 0, .slice none 0 0, .string (mkS []), .int .u64 0, .int .u64 0]) := StructF.of Tryz.underlying43 Tryz.ty43 (fun w => by kernel_rfl) -- lapstoneref08.Log
theorem Tryz.st69 : StructF Tryz.prog 69 [(0, 1), (1, 1), (2, 1), (3, 1), (4, 1)] (#[.int .i64 0, .int .i64 0, .map none, .map none, .slice none 0 0]) := StructF.of Tryz.underlying69 Tryz.ty69 (fun w => by kernel_rfl) -- disk.Disk
theorem Tryz.st71 : StructF Tryz.prog 71 [(0, 1), (1, 1)] (#[.int .u64 0, .string (mkS [])]) := StructF.of Tryz.underlying71 Tryz.ty71 (fun w => by kernel_rfl) -- api.Record
theorem Tryz.st75 : StructF Tryz.prog 75 [(0, 1), (1, 1), (2, 1), (3, 1), (4, 1), (5, 1), (6, 1), (7, 1)] (#[.pointer none, .int .i64 0, .int .i64 0, .int .i64 0, .slice none 0 0, .slice none 0 0, .int .u64 0, .int .u64 0]) := StructF.of Tryz.underlying75 Tryz.ty75 (fun w => by kernel_rfl) -- wal.Log
theorem Tryz.st79 : StructF Tryz.prog 79 [(0, 1), (1, 1), (2, 1)] (#[.int .i64 0, .int .u64 0, .int .u64 0]) := StructF.of Tryz.underlying79 Tryz.ty79 (fun w => by kernel_rfl) -- wal.segment
theorem Tryz.st81 : StructF Tryz.prog 81 [(0, 3), (3, 1)] (#[.int .i64 0, .int .u64 0, .int .u64 0, .slice none 0 0]) := StructF.of Tryz.underlying81 Tryz.ty81 (fun w => by kernel_rfl) -- wal.found
theorem Tryz.st89 : StructF Tryz.prog 89 [(0, 1), (1, 1), (2, 1)] (#[.int .i64 0, .int .u64 0, .int .u64 0]) := StructF.of Tryz.underlying89 Tryz.ty89 (fun w => by kernel_rfl) -- lapstoneref08.Segment
theorem Tryz.st111 : StructF Tryz.prog 111 [(0, 1), (1, 1), (2, 1)] (#[.int .i64 0, .bool false, .string (mkS [])]) := StructF.of Tryz.underlying111 Tryz.ty111 (fun w => by kernel_rfl) -- lapstoneref06.Pending
theorem Tryz.st134 : StructF Tryz.prog 134 [(0, 1), (1, 1)] (#[.int .i64 0, .string (mkS [])]) := StructF.of Tryz.underlying134 Tryz.ty134 (fun w => by kernel_rfl) -- lapstoneref06.Sector
theorem Tryz.st153 : StructF Tryz.prog 153 [(0, 1), (1, 1), (2, 1), (3, 1), (4, 1)] (#[.int .i64 0, .int .u64 0, .string (mkS []), .bool false, .int .i64 0]) := StructF.of Tryz.underlying153 Tryz.ty153 (fun w => by kernel_rfl) -- lapstoneref03.Field
theorem Tryz.st169 : StructF Tryz.prog 169 [(0, 1), (1, 1)] (#[.slice none 0 0, .int .i64 0]) := StructF.of Tryz.underlying169 Tryz.ty169 (fun w => by kernel_rfl) -- code.Reader
theorem Tryz.st179 : StructF Tryz.prog 179 [(0, 1), (1, 1)] (#[.slice none 0 0, .int .i64 0]) := StructF.of Tryz.underlying179 Tryz.ty179 (fun w => by kernel_rfl) -- code.Writer
@[reducible, instance] def Tryz.iu3 := UndC.mk Tryz.underlying3
@[reducible, instance] def Tryz.iu4 := UndC.mk Tryz.underlying4
@[reducible, instance] def Tryz.iu5 := UndC.mk Tryz.underlying5
@[reducible, instance] def Tryz.iu9 := UndC.mk Tryz.underlying9
@[reducible, instance] def Tryz.iu24 := UndC.mk Tryz.underlying24
@[reducible, instance] def Tryz.iu26 := UndC.mk Tryz.underlying26
@[reducible, instance] def Tryz.iu27 := UndC.mk Tryz.underlying27
@[reducible, instance] def Tryz.iu30 := UndC.mk Tryz.underlying30
@[reducible, instance] def Tryz.iu31 := UndC.mk Tryz.underlying31
@[reducible, instance] def Tryz.iu33 := UndC.mk Tryz.underlying33
@[reducible, instance] def Tryz.iu37 := UndC.mk Tryz.underlying37
@[reducible, instance] def Tryz.iu38 := UndC.mk Tryz.underlying38
@[reducible, instance] def Tryz.iu41 := UndC.mk Tryz.underlying41
@[reducible, instance] def Tryz.iu43 := UndC.mk Tryz.underlying43
@[reducible, instance] def Tryz.iu47 := UndC.mk Tryz.underlying47
@[reducible, instance] def Tryz.iu49 := UndC.mk Tryz.underlying49
@[reducible, instance] def Tryz.iu66 := UndC.mk Tryz.underlying66
@[reducible, instance] def Tryz.iu67 := UndC.mk Tryz.underlying67
@[reducible, instance] def Tryz.iu71 := UndC.mk Tryz.underlying71
@[reducible, instance] def Tryz.iu72 := UndC.mk Tryz.underlying72
@[reducible, instance] def Tryz.iu73 := UndC.mk Tryz.underlying73
@[reducible, instance] def Tryz.iu79 := UndC.mk Tryz.underlying79
@[reducible, instance] def Tryz.iu81 := UndC.mk Tryz.underlying81
@[reducible, instance] def Tryz.iu89 := UndC.mk Tryz.underlying89
@[reducible, instance] def Tryz.iu106 := UndC.mk Tryz.underlying106
@[reducible, instance] def Tryz.iu111 := UndC.mk Tryz.underlying111
@[reducible, instance] def Tryz.iu134 := UndC.mk Tryz.underlying134
@[reducible, instance] def Tryz.iu153 := UndC.mk Tryz.underlying153
@[reducible, instance] def Tryz.iu156 := UndC.mk Tryz.underlying156
@[reducible, instance] def Tryz.iu164 := UndC.mk Tryz.underlying164
@[reducible, instance] def Tryz.iu185 := UndC.mk Tryz.underlying185
@[reducible, instance] def Tryz.it3 := TyC.mk Tryz.ty3
@[reducible, instance] def Tryz.it4 := TyC.mk Tryz.ty4
@[reducible, instance] def Tryz.it9 := TyC.mk Tryz.ty9
@[reducible, instance] def Tryz.it24 := TyC.mk Tryz.ty24
@[reducible, instance] def Tryz.it27 := TyC.mk Tryz.ty27
@[reducible, instance] def Tryz.it30 := TyC.mk Tryz.ty30
@[reducible, instance] def Tryz.it31 := TyC.mk Tryz.ty31
@[reducible, instance] def Tryz.it33 := TyC.mk Tryz.ty33
@[reducible, instance] def Tryz.it37 := TyC.mk Tryz.ty37
@[reducible, instance] def Tryz.it38 := TyC.mk Tryz.ty38
@[reducible, instance] def Tryz.it41 := TyC.mk Tryz.ty41
@[reducible, instance] def Tryz.it43 := TyC.mk Tryz.ty43
@[reducible, instance] def Tryz.it47 := TyC.mk Tryz.ty47
@[reducible, instance] def Tryz.it49 := TyC.mk Tryz.ty49
@[reducible, instance] def Tryz.it66 := TyC.mk Tryz.ty66
@[reducible, instance] def Tryz.it67 := TyC.mk Tryz.ty67
@[reducible, instance] def Tryz.it71 := TyC.mk Tryz.ty71
@[reducible, instance] def Tryz.it72 := TyC.mk Tryz.ty72
@[reducible, instance] def Tryz.it73 := TyC.mk Tryz.ty73
@[reducible, instance] def Tryz.it79 := TyC.mk Tryz.ty79
@[reducible, instance] def Tryz.it81 := TyC.mk Tryz.ty81
@[reducible, instance] def Tryz.it89 := TyC.mk Tryz.ty89
@[reducible, instance] def Tryz.it111 := TyC.mk Tryz.ty111
@[reducible, instance] def Tryz.it134 := TyC.mk Tryz.ty134
@[reducible, instance] def Tryz.it153 := TyC.mk Tryz.ty153
@[reducible, instance] def Tryz.it156 := TyC.mk Tryz.ty156
@[reducible, instance] def Tryz.it185 := TyC.mk Tryz.ty185
inductive AllP {α : Type} (p : α → Prop) : List α → Prop | nil : AllP p [] | cons {x : α} {l : List α} : p x → AllP p l → AllP p (x :: l)
theorem AllP.mem {α : Type} {p : α → Prop} {l : List α} (h : AllP p l) : ∀ x ∈ l, p x := by
  induction h with
  | nil => intro x hx; cases hx
  | cons h _ ih =>
    intro x hx
    rcases List.mem_cons.1 hx with rfl | hx
    · exact h
    · exact ih x hx
def Tryz.tb : Tb := ⟨[(4, .boo), (9, .str), (25, .sli), (26, .ptr), (30, .sli), (31, .sli), (37, .ptr), (38, .sli), (41, .sli), (47, .sli), (67, .sli), (72, .sli), (73, .sli), (76, .sli), (99, .ptr), (139, .ptr), (159, .ptr), (180, .sli), (182, .sli)], [(23, 0, 0), (23, 1, 1), (23, 2, 2), (23, 3, 3), (33, 0, 0), (33, 1, 1), (33, 2, 2), (33, 3, 3), (33, 4, 4), (43, 0, 0), (43, 1, 5), (43, 2, 6), (43, 3, 7), (43, 4, 8), (43, 5, 9), (43, 6, 10), (43, 7, 11), (49, 0, 0), (49, 1, 1), (49, 2, 2), (49, 3, 3), (49, 4, 4), (69, 0, 0), (69, 1, 1), (69, 2, 2), (69, 3, 3), (69, 4, 4), (71, 0, 0), (71, 1, 1), (75, 0, 0), (75, 1, 1), (75, 2, 2), (75, 3, 3), (75, 4, 4), (75, 5, 5), (75, 6, 6), (75, 7, 7), (79, 0, 0), (79, 1, 1), (79, 2, 2), (81, 0, 0), (81, 1, 3), (89, 0, 0), (89, 1, 1), (89, 2, 2), (104, 0, 0), (104, 1, 1), (111, 0, 0), (111, 1, 1), (111, 2, 2), (134, 0, 0), (134, 1, 1), (153, 1, 1), (153, 2, 2), (153, 3, 3), (169, 0, 0), (169, 1, 1), (179, 0, 0), (179, 1, 1)]⟩
theorem Tryz.tbU : AllP (fun x => TK.Ok Tryz.prog x.1 x.2) Tryz.tb.und := .cons (Tryz.underlying4) (.cons (Tryz.underlying9) (.cons (⟨_, Tryz.underlying25⟩) (.cons (⟨_, Tryz.underlying26⟩) (.cons (⟨_, Tryz.underlying30⟩) (.cons (⟨_, Tryz.underlying31⟩) (.cons (⟨_, Tryz.underlying37⟩) (.cons (⟨_, Tryz.underlying38⟩) (.cons (⟨_, Tryz.underlying41⟩) (.cons (⟨_, Tryz.underlying47⟩) (.cons (⟨_, Tryz.underlying67⟩) (.cons (⟨_, Tryz.underlying72⟩) (.cons (⟨_, Tryz.underlying73⟩) (.cons (⟨_, Tryz.underlying76⟩) (.cons (⟨_, Tryz.underlying99⟩) (.cons (⟨_, Tryz.underlying139⟩) (.cons (⟨_, Tryz.underlying159⟩) (.cons (⟨_, Tryz.underlying180⟩) (.cons (⟨_, Tryz.underlying182⟩) (.nil)))))))))))))))))))
theorem Tryz.tbF : AllP (fun x => FieldF Tryz.prog x.1 x.2.1 x.2.2) Tryz.tb.fld := .cons (Tryz.fld23_0) (.cons (Tryz.fld23_1) (.cons (Tryz.fld23_2) (.cons (Tryz.fld23_3) (.cons (Tryz.fld33_0) (.cons (Tryz.fld33_1) (.cons (Tryz.fld33_2) (.cons (Tryz.fld33_3) (.cons (Tryz.fld33_4) (.cons (Tryz.fld43_0) (.cons (Tryz.fld43_1) (.cons (Tryz.fld43_2) (.cons (Tryz.fld43_3) (.cons (Tryz.fld43_4) (.cons (Tryz.fld43_5) (.cons (Tryz.fld43_6) (.cons (Tryz.fld43_7) (.cons (Tryz.fld49_0) (.cons (Tryz.fld49_1) (.cons (Tryz.fld49_2) (.cons (Tryz.fld49_3) (.cons (Tryz.fld49_4) (.cons (Tryz.fld69_0) (.cons (Tryz.fld69_1) (.cons (Tryz.fld69_2) (.cons (Tryz.fld69_3) (.cons (Tryz.fld69_4) (.cons (Tryz.fld71_0) (.cons (Tryz.fld71_1) (.cons (Tryz.fld75_0) (.cons (Tryz.fld75_1) (.cons (Tryz.fld75_2) (.cons (Tryz.fld75_3) (.cons (Tryz.fld75_4) (.cons (Tryz.fld75_5) (.cons (Tryz.fld75_6) (.cons (Tryz.fld75_7) (.cons (Tryz.fld79_0) (.cons (Tryz.fld79_1) (.cons (Tryz.fld79_2) (.cons (Tryz.fld81_0) (.cons (Tryz.fld81_1) (.cons (Tryz.fld89_0) (.cons (Tryz.fld89_1) (.cons (Tryz.fld89_2) (.cons (Tryz.fld104_0) (.cons (Tryz.fld104_1) (.cons (Tryz.fld111_0) (.cons (Tryz.fld111_1) (.cons (Tryz.fld111_2) (.cons (Tryz.fld134_0) (.cons (Tryz.fld134_1) (.cons (Tryz.fld153_1) (.cons (Tryz.fld153_2) (.cons (Tryz.fld153_3) (.cons (Tryz.fld169_0) (.cons (Tryz.fld169_1) (.cons (Tryz.fld179_0) (.cons (Tryz.fld179_1) (.nil)))))))))))))))))))))))))))))))))))))))))))))))))))))))))))
instance : HasTb Tryz.prog := ⟨Tryz.tb, ⟨Tryz.tbU.mem, Tryz.tbF.mem⟩⟩
end Go.Proofs.YtlejcepbcfijiaaGreatDoor
