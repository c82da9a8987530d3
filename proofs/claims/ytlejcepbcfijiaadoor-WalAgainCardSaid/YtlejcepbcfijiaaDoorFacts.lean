/-
  FACTS ON THE PROGRAM's TYPES, by program (wip/tools/facts.py). Conditions: none.
-/
import Derived.Test.YtlejcepbcfijiaaDoorProg
import Derived.Test.YtlejcepbcfijiaaDoorSlBits
import Derived.KernelRfl
set_option maxRecDepth 100000
namespace Go.Proofs.YtlejcepbcfijiaaDoor
open Go Go.SL
theorem Tryd.mixed : Tryd.prog.follows .mixedOrders = true := by kernel_rfl
theorem Tryd.ty3 : TyF Tryd.prog 3 1 (.int .i64 0) 8 := ⟨by kernel_rfl⟩ -- int
theorem Tryd.ty4 : TyF Tryd.prog 4 1 (.bool false) 1 := ⟨by kernel_rfl⟩ -- bool
theorem Tryd.ty5 : TyF Tryd.prog 5 1 (.int .u8 0) 1 := ⟨by kernel_rfl⟩ -- uint8
theorem Tryd.ty9 : TyF Tryd.prog 9 1 (.string (mkS [])) 16 := ⟨by kernel_rfl⟩ -- string
theorem Tryd.ty22 : TyF Tryd.prog 22 1 (.slice none 0 0) 24 := ⟨by kernel_rfl⟩ -- []lapstonelaw12.Act
theorem Tryd.ty23 : TyF Tryd.prog 23 1 (.pointer none) 8 := ⟨by kernel_rfl⟩ -- *disk.Disk
theorem Tryd.ty24 : TyF Tryd.prog 24 1 (.int .i64 0) 8 := ⟨by kernel_rfl⟩ -- api.Errno
theorem Tryd.ty28 : TyF Tryd.prog 28 1 (.pointer none) 8 := ⟨by kernel_rfl⟩ -- *meta.Meta
theorem Tryd.ty31 : TyF Tryd.prog 31 1 (.slice none 0 0) 24 := ⟨by kernel_rfl⟩ -- []api.Survivor
theorem Tryd.ty33 : TyF Tryd.prog 33 4 (.agg #[.int .i64 0, .int .i64 0, .string (mkS []), .slice none 0 0]) 56 := ⟨by kernel_rfl⟩ -- lapstonelaw12.Act
theorem Tryd.ty35 : TyF Tryd.prog 35 1 (.slice none 0 0) 24 := ⟨by kernel_rfl⟩ -- []string
theorem Tryd.ty40 : TyF Tryd.prog 40 1 (.int .u16 0) 2 := ⟨by kernel_rfl⟩ -- uint16
theorem Tryd.ty41 : TyF Tryd.prog 41 1 (.int .u64 0) 8 := ⟨by kernel_rfl⟩ -- uint64
theorem Tryd.ty43 : TyF Tryd.prog 43 1 (.nilFunc) 8 := ⟨by kernel_rfl⟩ -- func() uint64
theorem Tryd.ty46 : TyF Tryd.prog 46 1 (.slice none 0 0) 24 := ⟨by kernel_rfl⟩ -- []lapstoneref06.Sector
theorem Tryd.ty47 : TyF Tryd.prog 47 1 (.slice none 0 0) 24 := ⟨by kernel_rfl⟩ -- []lapstoneref06.Pending
theorem Tryd.ty49 : TyF Tryd.prog 49 5 (.agg #[.int .i64 0, .int .i64 0, .slice none 0 0, .slice none 0 0, .slice none 0 0]) 88 := ⟨by kernel_rfl⟩ -- lapstoneref06.Disk
theorem Tryd.ty53 : TyF Tryd.prog 53 3 (.agg #[.int .i64 0, .int .i64 0, .int .u64 0]) 24 := ⟨by kernel_rfl⟩ -- lapstoneref12.Meta
theorem Tryd.ty56 : TyF Tryd.prog 56 1 (.nilFunc) 8 := ⟨by kernel_rfl⟩ -- func(int)
theorem Tryd.ty62 : TyF Tryd.prog 62 4 (.agg #[.int .i64 0, .int .i64 0, .int .i64 0, .int .i64 0]) 32 := ⟨by kernel_rfl⟩ -- lapstonelaw08.Place
theorem Tryd.ty63 : TyF Tryd.prog 63 1 (.pointer none) 8 := ⟨by kernel_rfl⟩ -- *wal.Log
theorem Tryd.ty64 : TyF Tryd.prog 64 1 (.slice none 0 0) 24 := ⟨by kernel_rfl⟩ -- []api.Record
theorem Tryd.ty71 : TyF Tryd.prog 71 2 (.agg #[.int .u64 0, .string (mkS [])]) 24 := ⟨by kernel_rfl⟩ -- api.Record
theorem Tryd.ty76 : TyF Tryd.prog 76 1 (.map none) 8 := ⟨by kernel_rfl⟩ -- disk.sectors
theorem Tryd.ty77 : TyF Tryd.prog 77 1 (.slice none 0 0) 24 := ⟨by kernel_rfl⟩ -- []disk.pending
theorem Tryd.ty79 : TyF Tryd.prog 79 5 (.agg #[.int .i64 0, .int .i64 0, .map none, .map none, .slice none 0 0]) 56 := ⟨by kernel_rfl⟩ -- disk.Disk
theorem Tryd.ty81 : TyF Tryd.prog 81 2 (.agg #[.int .i64 0, .int .i64 0]) 16 := ⟨by kernel_rfl⟩ -- api.Survivor
theorem Tryd.ty83 : TyF Tryd.prog 83 4 (.agg #[.pointer none, .int .i64 0, .int .u64 0, .int .i64 0]) 32 := ⟨by kernel_rfl⟩ -- meta.Meta
theorem Tryd.ty86 : TyF Tryd.prog 86 1 (.slice none 0 0) 24 := ⟨by kernel_rfl⟩ -- []uint8
theorem Tryd.ty89 : TyF Tryd.prog 89 1 (.nilFunc) 8 := ⟨by kernel_rfl⟩ -- func() api.Errno
theorem Tryd.ty92 : TyF Tryd.prog 92 4 (.agg #[.nilFunc, .nilFunc, .nilFunc, .nilFunc]) 32 := ⟨by kernel_rfl⟩ -- [4]func() api.Errno
theorem Tryd.ty93 : TyF Tryd.prog 93 1 (.map none) 8 := ⟨by kernel_rfl⟩ -- map[int]int
theorem Tryd.ty94 : TyF Tryd.prog 94 1 (.nilFunc) 8 := ⟨by kernel_rfl⟩ -- func(disk.sectors, int)
theorem Tryd.ty95 : TyF Tryd.prog 95 1 (.nilFunc) 8 := ⟨by kernel_rfl⟩ -- disk.pending
theorem Tryd.ty109 : TyF Tryd.prog 109 3 (.agg #[.int .i64 0, .bool false, .string (mkS [])]) 32 := ⟨by kernel_rfl⟩ -- lapstoneref06.Pending
theorem Tryd.ty110 : TyF Tryd.prog 110 1 (.slice none 0 0) 24 := ⟨by kernel_rfl⟩ -- []wal.segment
theorem Tryd.ty112 : TyF Tryd.prog 112 8 (.agg #[.pointer none, .int .i64 0, .int .i64 0, .int .i64 0, .slice none 0 0, .slice none 0 0, .int .u64 0, .int .u64 0]) 96 := ⟨by kernel_rfl⟩ -- wal.Log
theorem Tryd.ty113 : TyF Tryd.prog 113 1 (.slice none 0 0) 24 := ⟨by kernel_rfl⟩ -- []wal.found
theorem Tryd.ty116 : TyF Tryd.prog 116 3 (.agg #[.int .i64 0, .int .u64 0, .int .u64 0]) 24 := ⟨by kernel_rfl⟩ -- wal.segment
theorem Tryd.ty118 : TyF Tryd.prog 118 4 (.agg #[.int .i64 0, .int .u64 0, .int .u64 0, .slice none 0 0]) 48 := ⟨by kernel_rfl⟩ -- wal.found
theorem Tryd.ty122 : TyF Tryd.prog 122 1 (.nilFunc) 8 := ⟨by kernel_rfl⟩ -- func(wal.found) bool
theorem Tryd.ty125 : TyF Tryd.prog 125 1 (.pointer none) 8 := ⟨by kernel_rfl⟩ -- *wal.segment
theorem Tryd.ty136 : TyF Tryd.prog 136 2 (.agg #[.int .i64 0, .string (mkS [])]) 24 := ⟨by kernel_rfl⟩ -- lapstoneref06.Sector
theorem Tryd.ty142 : TyF Tryd.prog 142 5 (.agg #[.int .i64 0, .int .u64 0, .string (mkS []), .bool false, .int .i64 0]) 48 := ⟨by kernel_rfl⟩ -- lapstoneref03.Field
theorem Tryd.ty153 : TyF Tryd.prog 153 1 (.nilFunc) 8 := ⟨by kernel_rfl⟩ -- func(wal.segment) bool
theorem Tryd.ty157 : TyF Tryd.prog 157 1 (.pointer none) 8 := ⟨by kernel_rfl⟩ -- *code.Reader
theorem Tryd.ty159 : TyF Tryd.prog 159 1 (.nilFunc) 8 := ⟨by kernel_rfl⟩ -- func() string
theorem Tryd.ty160 : TyF Tryd.prog 160 1 (.int .u32 0) 4 := ⟨by kernel_rfl⟩ -- uint32
theorem Tryd.ty162 : TyF Tryd.prog 162 1 (.pointer none) 8 := ⟨by kernel_rfl⟩ -- *code.Writer
theorem Tryd.ty167 : TyF Tryd.prog 167 1 (.int .u64 0) 8 := ⟨by kernel_rfl⟩ -- uint
theorem Tryd.ty168 : TyF Tryd.prog 168 9 (.agg #[.int .u64 0, .int .u64 0, .int .u64 0, .int .u64 0, .int .u64 0, .int .u64 0, .int .u64 0, .int .u64 0, .int .u64 0]) 72 := ⟨by kernel_rfl⟩ -- [9]uint
theorem Tryd.ty169 : TyF Tryd.prog 169 1 (.nilFunc) 8 := ⟨by kernel_rfl⟩ -- func(uint)
theorem Tryd.ty173 : TyF Tryd.prog 173 1 (.nilFunc) 8 := ⟨by kernel_rfl⟩ -- func(api.Record, int)
theorem Tryd.ty176 : TyF Tryd.prog 176 2 (.agg #[.slice none 0 0, .int .i64 0]) 32 := ⟨by kernel_rfl⟩ -- code.Reader
theorem Tryd.ty178 : TyF Tryd.prog 178 1 (.nilFunc) 8 := ⟨by kernel_rfl⟩ -- func() (uint64, []uint8, bool)
theorem Tryd.ty183 : TyF Tryd.prog 183 2 (.agg #[.slice none 0 0, .int .i64 0]) 32 := ⟨by kernel_rfl⟩ -- code.Writer
theorem Tryd.ty184 : TyF Tryd.prog 184 1 (.slice none 0 0) 24 := ⟨by kernel_rfl⟩ -- []uint64
theorem Tryd.ty188 : TyF Tryd.prog 188 16 (.agg #[.int .u32 0, .int .u32 0, .int .u32 0, .int .u32 0, .int .u32 0, .int .u32 0, .int .u32 0, .int .u32 0, .int .u32 0, .int .u32 0, .int .u32 0, .int .u32 0, .int .u32 0, .int .u32 0, .int .u32 0, .int .u32 0]) 64 := ⟨by kernel_rfl⟩ -- [16]uint32
theorem Tryd.fld33_0 : FieldF Tryd.prog 33 0 0 := FieldF.mk (sz := 0) Tryd.underlying33 rfl rfl (by kernel_rfl) -- lapstonelaw12.Act.Kind
theorem Tryd.fld33_1 : FieldF Tryd.prog 33 1 1 := FieldF.mk (sz := 0) Tryd.underlying33 rfl rfl (by kernel_rfl) -- lapstonelaw12.Act.Steps
theorem Tryd.fld33_2 : FieldF Tryd.prog 33 2 2 := FieldF.mk (sz := 0) Tryd.underlying33 rfl rfl (by kernel_rfl) -- lapstonelaw12.Act.Body
theorem Tryd.fld33_3 : FieldF Tryd.prog 33 3 3 := FieldF.mk (sz := 0) Tryd.underlying33 rfl rfl (by kernel_rfl) -- lapstonelaw12.Act.Left
theorem Tryd.fld49_0 : FieldF Tryd.prog 49 0 0 := FieldF.mk (sz := 0) Tryd.underlying49 rfl rfl (by kernel_rfl) -- lapstoneref06.Disk.Size
theorem Tryd.fld49_1 : FieldF Tryd.prog 49 1 1 := FieldF.mk (sz := 0) Tryd.underlying49 rfl rfl (by kernel_rfl) -- lapstoneref06.Disk.Limit
theorem Tryd.fld49_2 : FieldF Tryd.prog 49 2 2 := FieldF.mk (sz := 0) Tryd.underlying49 rfl rfl (by kernel_rfl) -- lapstoneref06.Disk.View
theorem Tryd.fld49_3 : FieldF Tryd.prog 49 3 3 := FieldF.mk (sz := 0) Tryd.underlying49 rfl rfl (by kernel_rfl) -- lapstoneref06.Disk.Ground
theorem Tryd.fld49_4 : FieldF Tryd.prog 49 4 4 := FieldF.mk (sz := 0) Tryd.underlying49 rfl rfl (by kernel_rfl) -- lapstoneref06.Disk.L
theorem Tryd.fld53_0 : FieldF Tryd.prog 53 0 0 := FieldF.mk (sz := 0) Tryd.underlying53 rfl rfl (by kernel_rfl) -- lapstoneref12.Meta.At
theorem Tryd.fld53_1 : FieldF Tryd.prog 53 1 1 := FieldF.mk (sz := 0) Tryd.underlying53 rfl rfl (by kernel_rfl) -- lapstoneref12.Meta.Last
theorem Tryd.fld53_2 : FieldF Tryd.prog 53 2 2 := FieldF.mk (sz := 0) Tryd.underlying53 rfl rfl (by kernel_rfl) -- lapstoneref12.Meta.Number
theorem Tryd.fld62_1 : FieldF Tryd.prog 62 1 1 := FieldF.mk (sz := 0) Tryd.underlying62 rfl rfl (by kernel_rfl) -- lapstonelaw08.Place.At
theorem Tryd.fld62_2 : FieldF Tryd.prog 62 2 2 := FieldF.mk (sz := 0) Tryd.underlying62 rfl rfl (by kernel_rfl) -- lapstonelaw08.Place.Segments
theorem Tryd.fld71_0 : FieldF Tryd.prog 71 0 0 := FieldF.mk (sz := 0) Tryd.underlying71 rfl rfl (by kernel_rfl) -- api.Record.Seq
theorem Tryd.fld71_1 : FieldF Tryd.prog 71 1 1 := FieldF.mk (sz := 0) Tryd.underlying71 rfl rfl (by kernel_rfl) -- api.Record.Body
theorem Tryd.fld79_0 : FieldF Tryd.prog 79 0 0 := FieldF.mk (sz := 0) Tryd.underlying79 rfl rfl (by kernel_rfl) -- disk.Disk.size
theorem Tryd.fld79_1 : FieldF Tryd.prog 79 1 1 := FieldF.mk (sz := 0) Tryd.underlying79 rfl rfl (by kernel_rfl) -- disk.Disk.limit
theorem Tryd.fld79_2 : FieldF Tryd.prog 79 2 2 := FieldF.mk (sz := 0) Tryd.underlying79 rfl rfl (by kernel_rfl) -- disk.Disk.view
theorem Tryd.fld79_3 : FieldF Tryd.prog 79 3 3 := FieldF.mk (sz := 0) Tryd.underlying79 rfl rfl (by kernel_rfl) -- disk.Disk.ground
theorem Tryd.fld79_4 : FieldF Tryd.prog 79 4 4 := FieldF.mk (sz := 0) Tryd.underlying79 rfl rfl (by kernel_rfl) -- disk.Disk.pending
theorem Tryd.fld81_0 : FieldF Tryd.prog 81 0 0 := FieldF.mk (sz := 0) Tryd.underlying81 rfl rfl (by kernel_rfl) -- api.Survivor.Write
theorem Tryd.fld81_1 : FieldF Tryd.prog 81 1 1 := FieldF.mk (sz := 0) Tryd.underlying81 rfl rfl (by kernel_rfl) -- api.Survivor.Bytes
theorem Tryd.fld83_0 : FieldF Tryd.prog 83 0 0 := FieldF.mk (sz := 0) Tryd.underlying83 rfl rfl (by kernel_rfl) -- meta.Meta.d
theorem Tryd.fld83_1 : FieldF Tryd.prog 83 1 1 := FieldF.mk (sz := 0) Tryd.underlying83 rfl rfl (by kernel_rfl) -- meta.Meta.at
theorem Tryd.fld83_2 : FieldF Tryd.prog 83 2 2 := FieldF.mk (sz := 0) Tryd.underlying83 rfl rfl (by kernel_rfl) -- meta.Meta.number
theorem Tryd.fld83_3 : FieldF Tryd.prog 83 3 3 := FieldF.mk (sz := 0) Tryd.underlying83 rfl rfl (by kernel_rfl) -- meta.Meta.last
theorem Tryd.fld109_0 : FieldF Tryd.prog 109 0 0 := FieldF.mk (sz := 0) Tryd.underlying109 rfl rfl (by kernel_rfl) -- lapstoneref06.Pending.At
theorem Tryd.fld109_1 : FieldF Tryd.prog 109 1 1 := FieldF.mk (sz := 0) Tryd.underlying109 rfl rfl (by kernel_rfl) -- lapstoneref06.Pending.Free
theorem Tryd.fld109_2 : FieldF Tryd.prog 109 2 2 := FieldF.mk (sz := 0) Tryd.underlying109 rfl rfl (by kernel_rfl) -- lapstoneref06.Pending.B
theorem Tryd.fld112_0 : FieldF Tryd.prog 112 0 0 := FieldF.mk (sz := 0) Tryd.underlying112 rfl rfl (by kernel_rfl) -- wal.Log.d
theorem Tryd.fld112_1 : FieldF Tryd.prog 112 1 1 := FieldF.mk (sz := 0) Tryd.underlying112 rfl rfl (by kernel_rfl) -- wal.Log.at
theorem Tryd.fld112_2 : FieldF Tryd.prog 112 2 2 := FieldF.mk (sz := 0) Tryd.underlying112 rfl rfl (by kernel_rfl) -- wal.Log.n
theorem Tryd.fld112_3 : FieldF Tryd.prog 112 3 3 := FieldF.mk (sz := 0) Tryd.underlying112 rfl rfl (by kernel_rfl) -- wal.Log.size
theorem Tryd.fld112_4 : FieldF Tryd.prog 112 4 4 := FieldF.mk (sz := 0) Tryd.underlying112 rfl rfl (by kernel_rfl) -- wal.Log.live
theorem Tryd.fld112_5 : FieldF Tryd.prog 112 5 5 := FieldF.mk (sz := 0) Tryd.underlying112 rfl rfl (by kernel_rfl) -- wal.Log.stream
theorem Tryd.fld112_6 : FieldF Tryd.prog 112 6 6 := FieldF.mk (sz := 0) Tryd.underlying112 rfl rfl (by kernel_rfl) -- wal.Log.last
theorem Tryd.fld112_7 : FieldF Tryd.prog 112 7 7 := FieldF.mk (sz := 0) Tryd.underlying112 rfl rfl (by kernel_rfl) -- wal.Log.synced
theorem Tryd.fld116_0 : FieldF Tryd.prog 116 0 0 := FieldF.mk (sz := 0) Tryd.underlying116 rfl rfl (by kernel_rfl) -- wal.segment.at
theorem Tryd.fld116_1 : FieldF Tryd.prog 116 1 1 := FieldF.mk (sz := 0) Tryd.underlying116 rfl rfl (by kernel_rfl) -- wal.segment.base
theorem Tryd.fld116_2 : FieldF Tryd.prog 116 2 2 := FieldF.mk (sz := 0) Tryd.underlying116 rfl rfl (by kernel_rfl) -- wal.segment.count
theorem Tryd.fld118_0 : FieldF Tryd.prog 118 0 0 := FieldF.mk (sz := 2) Tryd.underlying118 rfl rfl (by kernel_rfl) -- wal.found.segment
theorem Tryd.fld118_1 : FieldF Tryd.prog 118 1 3 := FieldF.mk (sz := 0) Tryd.underlying118 rfl rfl (by kernel_rfl) -- wal.found.records
theorem Tryd.fld136_0 : FieldF Tryd.prog 136 0 0 := FieldF.mk (sz := 0) Tryd.underlying136 rfl rfl (by kernel_rfl) -- lapstoneref06.Sector.At
theorem Tryd.fld136_1 : FieldF Tryd.prog 136 1 1 := FieldF.mk (sz := 0) Tryd.underlying136 rfl rfl (by kernel_rfl) -- lapstoneref06.Sector.B
theorem Tryd.fld142_1 : FieldF Tryd.prog 142 1 1 := FieldF.mk (sz := 0) Tryd.underlying142 rfl rfl (by kernel_rfl) -- lapstoneref03.Field.V
theorem Tryd.fld142_2 : FieldF Tryd.prog 142 2 2 := FieldF.mk (sz := 0) Tryd.underlying142 rfl rfl (by kernel_rfl) -- lapstoneref03.Field.S
theorem Tryd.fld142_3 : FieldF Tryd.prog 142 3 3 := FieldF.mk (sz := 0) Tryd.underlying142 rfl rfl (by kernel_rfl) -- lapstoneref03.Field.Yes
theorem Tryd.fld176_0 : FieldF Tryd.prog 176 0 0 := FieldF.mk (sz := 0) Tryd.underlying176 rfl rfl (by kernel_rfl) -- code.Reader.b
theorem Tryd.fld176_1 : FieldF Tryd.prog 176 1 1 := FieldF.mk (sz := 0) Tryd.underlying176 rfl rfl (by kernel_rfl) -- code.Reader.err
theorem Tryd.fld183_0 : FieldF Tryd.prog 183 0 0 := FieldF.mk (sz := 0) Tryd.underlying183 rfl rfl (by kernel_rfl) -- code.Writer.b
theorem Tryd.fld183_1 : FieldF Tryd.prog 183 1 1 := FieldF.mk (sz := 0) Tryd.underlying183 rfl rfl (by kernel_rfl) -- code.Writer.err
theorem Tryd.st49 : StructF Tryd.prog 49 [(0, 1), (1, 1), (2, 1), (3, 1), (4, 1)] (#[.int .i64 0, .int .i64 0, .slice none 0 0, .slice none 0 0, .slice none 0 0]) := StructF.of Tryd.underlying49 Tryd.ty49 (fun w => by kernel_rfl) -- lapstoneref06.Disk
theorem Tryd.st53 : StructF Tryd.prog 53 [(0, 1), (1, 1), (2, 1)] (#[.int .i64 0, .int .i64 0, .int .u64 0]) := StructF.of Tryd.underlying53 Tryd.ty53 (fun w => by kernel_rfl) -- lapstoneref12.Meta
theorem Tryd.st71 : StructF Tryd.prog 71 [(0, 1), (1, 1)] (#[.int .u64 0, .string (mkS [])]) := StructF.of Tryd.underlying71 Tryd.ty71 (fun w => by kernel_rfl) -- api.Record
theorem Tryd.st79 : StructF Tryd.prog 79 [(0, 1), (1, 1), (2, 1), (3, 1), (4, 1)] (#[.int .i64 0, .int .i64 0, .map none, .map none, .slice none 0 0]) := StructF.of Tryd.underlying79 Tryd.ty79 (fun w => by kernel_rfl) -- disk.Disk
theorem Tryd.st81 : StructF Tryd.prog 81 [(0, 1), (1, 1)] (#[.int .i64 0, .int .i64 0]) := StructF.of Tryd.underlying81 Tryd.ty81 (fun w => by kernel_rfl) -- api.Survivor
theorem Tryd.st83 : StructF Tryd.prog 83 [(0, 1), (1, 1), (2, 1), (3, 1)] (#[.pointer none, .int .i64 0, .int .u64 0, .int .i64 0]) := StructF.of Tryd.underlying83 Tryd.ty83 (fun w => by kernel_rfl) -- meta.Meta
theorem Tryd.st92 : StructF Tryd.prog 92 [(0, 1), (1, 1), (2, 1), (3, 1)] (#[.nilFunc, .nilFunc, .nilFunc, .nilFunc]) := StructF.ofArr Tryd.underlying92 Tryd.ty92 Tryd.ty89 (by decide) -- [4]func() api.Errno
theorem Tryd.st109 : StructF Tryd.prog 109 [(0, 1), (1, 1), (2, 1)] (#[.int .i64 0, .bool false, .string (mkS [])]) := StructF.of Tryd.underlying109 Tryd.ty109 (fun w => by kernel_rfl) -- lapstoneref06.Pending
theorem Tryd.st112 : StructF Tryd.prog 112 [(0, 1), (1, 1), (2, 1), (3, 1), (4, 1), (5, 1), (6, 1), (7, 1)] (#[.pointer none, .int .i64 0, .int .i64 0, .int .i64 0, .slice none 0 0, .slice none 0 0, .int .u64 0, .int .u64 0]) := StructF.of Tryd.underlying112 Tryd.ty112 (fun w => by kernel_rfl) -- wal.Log
theorem Tryd.st116 : StructF Tryd.prog 116 [(0, 1), (1, 1), (2, 1)] (#[.int .i64 0, .int .u64 0, .int .u64 0]) := StructF.of Tryd.underlying116 Tryd.ty116 (fun w => by kernel_rfl) -- wal.segment
theorem Tryd.st118 : StructF Tryd.prog 118 [(0, 3), (3, 1)] (#[.int .i64 0, .int .u64 0, .int .u64 0, .slice none 0 0]) := StructF.of Tryd.underlying118 Tryd.ty118 (fun w => by kernel_rfl) -- wal.found
theorem Tryd.st136 : StructF Tryd.prog 136 [(0, 1), (1, 1)] (#[.int .i64 0, .string (mkS [])]) := StructF.of Tryd.underlying136 Tryd.ty136 (fun w => by kernel_rfl) -- lapstoneref06.Sector
theorem Tryd.st142 : StructF Tryd.prog 142 [(0, 1), (1, 1), (2, 1), (3, 1), (4, 1)] (#[.int .i64 0, .int .u64 0, .string (mkS []), .bool false, .int .i64 0]) := StructF.of Tryd.underlying142 Tryd.ty142 (fun w => by kernel_rfl) -- lapstoneref03.Field
theorem Tryd.st176 : StructF Tryd.prog 176 [(0, 1), (1, 1)] (#[.slice none 0 0, .int .i64 0]) := StructF.of Tryd.underlying176 Tryd.ty176 (fun w => by kernel_rfl) -- code.Reader
theorem Tryd.st183 : StructF Tryd.prog 183 [(0, 1), (1, 1)] (#[.slice none 0 0, .int .i64 0]) := StructF.of Tryd.underlying183 Tryd.ty183 (fun w => by kernel_rfl) -- code.Writer
end Go.Proofs.YtlejcepbcfijiaaDoor
