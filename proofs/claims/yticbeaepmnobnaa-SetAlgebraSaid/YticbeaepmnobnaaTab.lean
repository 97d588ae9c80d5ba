import Derived.Test.YticbeaepmnobnaaVcB
set_option linter.unusedSectionVars false
set_option linter.unusedSimpArgs false
set_option linter.unusedVariables false
namespace Go.Vc
open Go
def tabRaw : Tab
  | 1 => some ⟨.other, 1, 8, [.nilFunc], false, []⟩  -- func()
  | 2 => some ⟨.int .i64, 1, 8, [.int .i64 0], false, []⟩  -- int64
  | 3 => some ⟨.int .i64, 1, 8, [.int .i64 0], false, []⟩  -- int
  | 4 => some ⟨.bool, 1, 1, [.bool false], false, []⟩  -- bool
  | 5 => some ⟨.int .u8, 1, 1, [.int .u8 0], false, []⟩  -- uint8
  | 6 => some ⟨.int .u8, 1, 1, [.int .u8 0], false, []⟩  -- abi.BoundsErrorCode
  | 7 => some ⟨.struct [(0, 2), (1, 3), (2, 4), (3, 6)], 4, 24, [.int .i64 0, .int .i64 0, .bool false, .int .u8 0], true, [.int, .int, .bool, .int]⟩  -- struct 
  | 8 => some ⟨.struct [(0, 2), (1, 3), (2, 4), (3, 6)], 4, 24, [.int .i64 0, .int .i64 0, .bool false, .int .u8 0], true, [.int, .int, .bool, .int]⟩  -- runtime.boundsError
  | 9 => some ⟨.string, 1, 16, [.string ⟨#[]⟩], false, []⟩  -- string
  | 10 => some ⟨.string, 1, 16, [.string ⟨#[]⟩], false, []⟩  -- runtime.errorString
  | 11 => some ⟨.string, 1, 16, [.string ⟨#[]⟩], false, []⟩  -- runtime.plainError
  | 12 => some ⟨.int .u64, 1, 8, [.int .u64 0], false, []⟩  -- uintptr
  | 15 => some ⟨.other, 1, 8, [.pointer none], false, []⟩  -- *runtime.TypeAssertionError
  | 16 => some ⟨.other, 1, 8, [.pointer none], false, []⟩  -- *runtime.PanicNilError
  | 17 => some ⟨.other, 1, 8, [.pointer none], false, []⟩  -- *abi.Type
  | 18 => some ⟨.struct [(0, 17)], 1, 8, [.pointer none], true, []⟩  -- struct 
  | 19 => some ⟨.struct [(0, 17)], 1, 8, [.pointer none], true, []⟩  -- maps.unhashableTypeError
  | 21 => some ⟨.int .i32, 1, 4, [.int .i32 0], false, []⟩  -- int32
  | 22 => some ⟨.slice 30, 1, 24, [.slice none 0 0], false, []⟩  -- []api.Period
  | 23 => some ⟨.other, 1, 8, [.nilFunc], false, []⟩  -- func([]api.Period, []api.Period) bool
  | 24 => some ⟨.other, 1, 8, [.nilFunc], false, []⟩  -- func() bool
  | 25 => some ⟨.other, 1, 8, [.nilFunc], false, []⟩  -- func([]api.Period) bool
  | 26 => some ⟨.other, 1, 8, [.nilFunc], false, []⟩  -- func([]api.Period) []api.Period
  | 27 => some ⟨.other, 1, 8, [.nilFunc], false, []⟩  -- func([]api.Period) int
  | 28 => some ⟨.other, 1, 8, [.nilFunc], false, []⟩  -- func([]api.Period, []api.Period) []api.Period
  | 29 => some ⟨.struct [(0, 3), (1, 3)], 2, 16, [.int .i64 0, .int .i64 0], true, [.int, .int]⟩  -- struct 
  | 30 => some ⟨.struct [(0, 3), (1, 3)], 2, 16, [.int .i64 0, .int .i64 0], true, [.int, .int]⟩  -- api.Period
  | 31 => some ⟨.other, 1, 8, [.nilFunc], false, []⟩  -- func([]api.Period, []api.Period, uint8) bool
  | 32 => some ⟨.other, 1, 8, [.nilFunc], false, []⟩  -- func([]api.Period, []api.Period, []api.Period) bool
  | 33 => some ⟨.other, 1, 8, [.nilFunc], false, []⟩  -- func(api.Period, int) bool
  | 34 => some ⟨.other, 1, 8, [.nilFunc], false, []⟩  -- func([]api.Period, int) bool
  | 35 => some ⟨.other, 1, 8, [.nilFunc], false, []⟩  -- func([]api.Period, []api.Period, int) bool
  | 36 => some ⟨.other, 1, 8, [.nilFunc], false, []⟩  -- func(api.Period) bool
  | 37 => some ⟨.other, 1, 8, [.nilFunc], false, []⟩  -- func([]api.Period, func(api.Period, api.Period) int)
  | 38 => some ⟨.other, 1, 8, [.nilFunc], false, []⟩  -- func(int, int) int
  | 39 => some ⟨.other, 1, 8, [.nilFunc], false, []⟩  -- func(api.Period, api.Period) int
  | 40 => some ⟨.other, 1, 8, [.nilFunc], false, []⟩  -- func([]api.Period, api.Period) []api.Period
  | 41 => some ⟨.other, 1, 8, [.nilFunc], false, []⟩  -- func(...[]api.Period) []api.Period
  | 43 => some ⟨.other, 1, 8, [.nilFunc], false, []⟩  -- func(api.Period, api.Period) (api.Period, bool)
  | 44 => some ⟨.other, 1, 8, [.nilFunc], false, []⟩  -- func(api.Period, api.Period) []api.Period
  | 45 => some ⟨.other, 1, 8, [.nilFunc], false, []⟩  -- func([]api.Period, func(api.Period) bool) bool
  | 46 => some ⟨.other, 1, 8, [.nilFunc], false, []⟩  -- func([]api.Period, int, int, int, func(api.Period, api.Perio
  | 47 => some ⟨.other, 1, 8, [.nilFunc], false, []⟩  -- func(uint) int
  | 48 => some ⟨.int .u64, 1, 8, [.int .u64 0], false, []⟩  -- uint
  | 49 => some ⟨.other, 1, 8, [.nilFunc], false, []⟩  -- func(int) bool
  | 50 => some ⟨.slice 22, 1, 24, [.slice none 0 0], false, []⟩  -- [][]api.Period
  | 51 => some ⟨.other, 1, 8, [.nilFunc], false, []⟩  -- func([]api.Period, int) []api.Period
  | 52 => some ⟨.other, 1, 8, [.nilFunc], false, []⟩  -- func([]api.Period, func(api.Period) bool) int
  | 53 => some ⟨.other, 1, 8, [.nilFunc], false, []⟩  -- func([]api.Period, int, int, func(api.Period, api.Period) in
  | 54 => some ⟨.int .i64, 1, 8, [.int .i64 0], false, []⟩  -- slices.sortedHint
  | 56 => some ⟨.other, 1, 8, [.nilFunc], false, []⟩  -- func([]api.Period, int, int, func(api.Period, api.Period) in
  | 57 => some ⟨.other, 1, 8, [.nilFunc], false, []⟩  -- func([]api.Period, int, int, func(api.Period, api.Period) in
  | 58 => some ⟨.other, 1, 8, [.nilFunc], false, []⟩  -- func([]api.Period, int, int, int, func(api.Period, api.Perio
  | 60 => some ⟨.other, 1, 8, [.nilFunc], false, []⟩  -- func([]api.Period, int, int, int, func(api.Period, api.Perio
  | 61 => some ⟨.other, 1, 8, [.nilFunc], false, []⟩  -- func(uint32) int
  | 62 => some ⟨.int .u32, 1, 4, [.int .u32 0], false, []⟩  -- uint32
  | 63 => some ⟨.other, 1, 8, [.nilFunc], false, []⟩  -- func(uint64) int
  | 64 => some ⟨.int .u64, 1, 8, [.int .u64 0], false, []⟩  -- uint64
  | 65 => some ⟨.int .u64, 1, 8, [.int .u64 0], false, []⟩  -- slices.xorshift
  | 66 => some ⟨.other, 1, 8, [.nilFunc], false, []⟩  -- func(int) uint
  | 67 => some ⟨.other, 1, 8, [.nilFunc], false, []⟩  -- func() uint64
  | 68 => some ⟨.other, 1, 8, [.nilFunc], false, []⟩  -- func([]api.Period, int, *int, func(api.Period, api.Period) i
  | 69 => some ⟨.other, 1, 8, [.pointer none], false, []⟩  -- *int
  | 70 => some ⟨.other, 1, 8, [.nilFunc], false, []⟩  -- func([]api.Period, int, int, int, *int, func(api.Period, api
  | 71 => some ⟨.other, 1, 8, [.pointer none], false, []⟩  -- *slices.xorshift
  | 73 => some ⟨.other, 1, 8, [.nilFunc], false, []⟩  -- func([]api.Period, int, int, *int, func(api.Period, api.Peri
  | 74 => some ⟨.other, 1, 8, [.nilFunc], false, []⟩  -- func() string
  | 75 => some ⟨.struct [(0, 17), (1, 17), (2, 17), (3, 9)], 4, 40, [.pointer none, .pointer none, .pointer none, .string ⟨#[]⟩], true, []⟩  -- struct 
  | 76 => some ⟨.struct [(0, 17), (1, 17), (2, 17), (3, 9)], 4, 40, [.pointer none, .pointer none, .pointer none, .string ⟨#[]⟩], true, []⟩  -- runtime.TypeAssertionError
  | 77 => some ⟨.array 0 16, 0, 0, [], true, []⟩  -- [0]*runtime.PanicNilError
  | 78 => some ⟨.struct [(0, 77)], 0, 0, [], true, []⟩  -- struct 
  | 79 => some ⟨.struct [(0, 77)], 0, 0, [], true, []⟩  -- runtime.PanicNilError
  | 80 => some ⟨.other, 1, 8, [.nilFunc], false, []⟩  -- func() int
  | 81 => some ⟨.int .u8, 1, 1, [.int .u8 0], false, []⟩  -- abi.TFlag
  | 82 => some ⟨.int .u8, 1, 1, [.int .u8 0], false, []⟩  -- abi.Kind
  | 83 => some ⟨.other, 1, 8, [.nilFunc], false, []⟩  -- func(unsafe.Pointer, unsafe.Pointer) bool
  | 84 => some ⟨.other, 1, 8, [.pointer none], false, []⟩  -- *uint8
  | 85 => some ⟨.int .i32, 1, 4, [.int .i32 0], false, []⟩  -- abi.NameOff
  | 86 => some ⟨.int .i32, 1, 4, [.int .i32 0], false, []⟩  -- abi.TypeOff
  | 87 => some ⟨.struct [(0, 12), (1, 12), (2, 62), (3, 81), (4, 5), (5, 5), (6, 82), (7, 83), (8, 84), (9, 85), (10, 86)], 11, 48, [.int .u64 0, .int .u64 0, .int .u32 0, .int .u8 0, .int .u8 0, .int .u8 0, .int .u8 0, .nilFunc, .pointer none, .int .i32 0, .int .i32 0], true, []⟩  -- struct 
  | 88 => some ⟨.struct [(0, 12), (1, 12), (2, 62), (3, 81), (4, 5), (5, 5), (6, 82), (7, 83), (8, 84), (9, 85), (10, 86)], 11, 48, [.int .u64 0, .int .u64 0, .int .u32 0, .int .u8 0, .int .u8 0, .int .u8 0, .int .u8 0, .nilFunc, .pointer none, .int .i32 0, .int .i32 0], true, []⟩  -- abi.Type
  | 89 => some ⟨.other, 1, 8, [.pointer none], false, []⟩  -- unsafe.Pointer
  | _ => none
def tab : Tab := fun t => if t < 90 then tabRaw t else none
def tups : TypeId → Option (List TypeId)
  | 0 => some []
  | 42 => some [30, 4]
  | 55 => some [3, 54]
  | 59 => some [3, 4]
  | 72 => some [3, 3]
  | _ => none
end Go.Vc
