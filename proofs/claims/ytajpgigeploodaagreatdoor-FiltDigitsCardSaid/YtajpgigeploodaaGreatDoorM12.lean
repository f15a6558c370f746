/- What the walk without memory asks of this seat's types. -/
import Derived.Test.YtajpgigeploodaaGreatDoorM11
import Derived.Test.YtajpgigeploodaaGreatDoorProg
import Derived.KernelRfl
namespace Go.Proofs.YtajpgigeploodaaGreatDoor
open Go.RowKit
def tb : Tab := {
  fld := [(25, [(0, 1, false), (1, 1, false), (2, 1, false), (3, 1, false), (4, 1, false), (5, 1, false)]), (48, [(0, 1, false)]), (81, [(0, 1, false), (1, 1, false)]), (83, [(0, 2, true)]), (169, [(0, 1, false), (1, 1, false)]), (171, [(0, 2, true), (2, 1, false), (3, 2, true)]), (176, [(0, 1, false)]), (181, [(0, 1, false)]), (183, [(0, 1, true)]), (192, [(0, 1, false)]), (196, [(0, 1, false)])],
  siz := [(2, (1, false)), (3, (1, false)), (4, (1, false)), (5, (1, false)), (9, (1, false)), (21, (1, false)), (22, (1, false)), (23, (1, false)), (25, (6, true)), (29, (1, false)), (48, (1, true)), (51, (1, false)), (57, (1, false)), (58, (1, false)), (66, (1, false)), (67, (1, false)), (70, (1, false)), (79, (1, false)), (81, (2, true)), (83, (2, true)), (90, (1, false)), (91, (1, false)), (117, (1, false)), (138, (1, false)), (146, (1, false)), (164, (1, false)), (167, (1, false)), (169, (2, true)), (171, (5, true)), (176, (1, true)), (177, (1, false)), (181, (1, true)), (183, (1, true)), (188, (1, false)), (189, (1, false)), (192, (1, true)), (196, (1, true)), (197, (1, false)), (220, (1, false))],
  elt := [(22, 9), (23, 25), (66, 5), (90, 3), (138, 51)],
  zer := [(2, [.int .i64 0]), (3, [.int .i64 0]), (4, [.bool false]), (5, [.int .u8 0]), (9, [.str ⟨#[]⟩]), (21, [.int .i32 0]), (22, [.nils]), (23, [.nils]), (25, [.int .i64 0, .str ⟨#[]⟩, .str ⟨#[]⟩, .nils, .str ⟨#[]⟩, .nils]), (29, [.int .i64 0]), (48, [.int .i64 0]), (51, [.nili]), (57, [.raw .nilFunc]), (58, [.raw .nilFunc]), (66, [.nils]), (67, [.int .u64 0]), (70, [.raw (.pointer none)]), (79, [.raw (.pointer none)]), (81, [.str ⟨#[]⟩, .int .i64 0]), (83, [.str ⟨#[]⟩, .int .i64 0]), (90, [.nils]), (91, [.raw .nilFunc]), (117, [.raw (.pointer none)]), (138, [.nils]), (146, [.raw (.pointer none)]), (164, [.int .u32 0]), (167, [.raw (.pointer none)]), (169, [.str ⟨#[]⟩, .int .i64 0]), (171, [.str ⟨#[]⟩, .int .i64 0, .bool false, .raw (.pointer none), .nils]), (176, [.int .i64 0]), (177, [.raw (.pointer none)]), (181, [.str ⟨#[]⟩]), (183, [.str ⟨#[]⟩]), (188, [.raw (.pointer none)]), (189, [.raw (.pointer none)]), (192, [.int .i64 0]), (196, [.int .i64 0]), (197, [.raw (.pointer none)]), (220, [.int .u16 0])],
  str := [(9, ())],
  ints := [(2, .i64), (3, .i64), (5, .u8), (21, .i32), (29, .i64), (67, .u64), (164, .u32), (220, .u16)],
  con := [(2, false), (3, false), (4, false), (5, false), (9, false), (21, false), (22, false), (23, false), (25, false), (29, false), (48, false), (51, true), (57, false), (58, false), (66, false), (67, false), (70, false), (79, false), (81, false), (83, false), (90, false), (91, false), (117, false), (138, false), (146, false), (164, false), (167, false), (169, false), (171, false), (176, false), (177, false), (181, false), (183, false), (188, false), (189, false), (192, false), (196, false), (197, false), (220, false)],
  boo := [(4, ())],
  ptrf := [],
  eqs := [(181, [true])],
  mps := [(76, (some .i64, .str ⟨#[]⟩))] }
theorem tabOk : TabOk Tryz.prog tb := tabOk_of (by kernel_rfl)
theorem mixed : Tryz.prog.follows .mixedOrders = true := by kernel_rfl
end Go.Proofs.YtajpgigeploodaaGreatDoor
