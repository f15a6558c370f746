/- What the walk without memory asks of this seat's types. -/
import Derived.Test.YtjmpkbmgcbalkaaGreatDoorT07
import Derived.Test.YtjmpkbmgcbalkaaGreatDoorProg
import Derived.KernelRfl
namespace Go.Proofs.YtjmpkbmgcbalkaaGreatDoor
open Go.RowKit
def tb : Tab := {
  fld := [(39, [(0, 1, false), (1, 1, false)]), (42, [(0, 1, false)]), (46, [(0, 1, false)]), (78, [(0, 1, false)]), (80, [(0, 1, true), (1, 1, false)]), (152, [(0, 1, false), (1, 1, false)]), (154, [(0, 2, true), (2, 1, false), (3, 2, true)]), (161, [(0, 1, false)]), (170, [(0, 1, false)]), (172, [(0, 1, true)]), (183, [(0, 1, false)]), (187, [(0, 1, false)])],
  siz := [(2, (1, false)), (3, (1, false)), (4, (1, false)), (5, (1, false)), (9, (1, false)), (21, (1, false)), (22, (1, false)), (26, (1, false)), (39, (2, true)), (40, (1, false)), (42, (1, true)), (46, (1, true)), (49, (1, false)), (52, (1, false)), (68, (1, false)), (69, (1, false)), (78, (1, true)), (80, (2, true)), (134, (1, false)), (152, (2, true)), (154, (5, true)), (156, (1, false)), (161, (1, true)), (170, (1, true)), (172, (1, true)), (183, (1, true)), (187, (1, true)), (211, (1, false))],
  elt := [(22, 42), (40, 39), (52, 9), (68, 5), (134, 49)],
  zer := [(2, [.int .i64 0]), (3, [.int .i64 0]), (4, [.bool false]), (5, [.int .u8 0]), (9, [.str ⟨#[]⟩]), (21, [.int .i32 0]), (22, [.nils]), (26, [.int .i64 0]), (39, [.str ⟨#[]⟩, .str ⟨#[]⟩]), (40, [.nils]), (42, [.nils]), (46, [.str ⟨#[]⟩]), (49, [.nili]), (52, [.nils]), (68, [.nils]), (69, [.int .u64 0]), (78, [.str ⟨#[]⟩]), (80, [.str ⟨#[]⟩, .int .u8 0]), (134, [.nils]), (152, [.str ⟨#[]⟩, .int .i64 0]), (154, [.str ⟨#[]⟩, .int .i64 0, .bool false, .raw (.pointer none), .nils]), (156, [.int .u32 0]), (161, [.int .i64 0]), (170, [.str ⟨#[]⟩]), (172, [.str ⟨#[]⟩]), (183, [.int .i64 0]), (187, [.int .i64 0]), (211, [.int .u16 0])],
  str := [(9, ())],
  ints := [(2, .i64), (3, .i64), (5, .u8), (21, .i32), (26, .i64), (69, .u64), (156, .u32), (211, .u16)],
  con := [(2, false), (3, false), (4, false), (5, false), (9, false), (21, false), (22, false), (26, false), (39, false), (40, false), (42, false), (46, false), (49, true), (52, false), (68, false), (69, false), (78, false), (80, false), (134, false), (152, false), (154, false), (156, false), (161, false), (170, false), (172, false), (183, false), (187, false), (211, false)],
  boo := [(4, ())],
  ptrf := [],
  eqs := [(39, [true, true]), (46, [true]), (78, [true]), (170, [true])] }
theorem tabOk : TabOk Tryz.prog tb := tabOk_of (by kernel_rfl)
theorem mixed : Tryz.prog.follows .mixedOrders = true := by kernel_rfl
end Go.Proofs.YtjmpkbmgcbalkaaGreatDoor
