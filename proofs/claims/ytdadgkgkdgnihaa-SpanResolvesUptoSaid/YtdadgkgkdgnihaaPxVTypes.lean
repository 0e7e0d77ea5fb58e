/- The seat's types, for the evaluator. -/
import Derived.Test.YtdadgkgkdgnihaaPxVApi
import Derived.Test.YtdadgkgkdgnihaaProg
import Derived.Test.YtdadgkgkdgnihaaPxVShelf
import Derived.Test.YtdadgkgkdgnihaaPxSpecSort
set_option linter.unusedVariables false
set_option linter.unusedSimpArgs false
namespace Go.Proofs.Ytdadgkgkdgnihaa.Px.PxV
open Go Go.Proofs

noncomputable def ti : List (Nat × TI (X := els)) := [(1, { zero := [.val .nilFunc] }),
  (2, { zero := [.int .i64 0], kind := some .i64 }),
  (3, { zero := [.int .i64 0], kind := some .i64 }),
  (4, { zero := [.bool false], isBool := true }),
  (5, { zero := [.int .u8 0], kind := some .u8 }),
  (6, { zero := [.int .u8 0], kind := some .u8 }),
  (7, { agg := true, size := 4, zero := [.int .i64 0, .int .i64 0, .bool false, .int .u8 0], flds := [(0, 1, false), (1, 1, false), (2, 1, false), (3, 1, false)], eqk := some [some .i64, some .i64, none, some .u8] }),
  (8, { agg := true, size := 4, zero := [.int .i64 0, .int .i64 0, .bool false, .int .u8 0], flds := [(0, 1, false), (1, 1, false), (2, 1, false), (3, 1, false)], eqk := some [some .i64, some .i64, none, some .u8] }),
  (12, { zero := [.int .u64 0], kind := some .u64 }),
  (15, { zero := [.val (.pointer none)] }),
  (16, { zero := [.val (.pointer none)] }),
  (17, { zero := [.val (.pointer none)] }),
  (18, { agg := true, zero := [.val (.pointer none)], flds := [(0, 1, false)] }),
  (19, { agg := true, zero := [.val (.pointer none)], flds := [(0, 1, false)] }),
  (20, { zero := [.val .nilIface] }),
  (21, { zero := [.int .i32 0], kind := some .i32 }),
  (22, { slice := true, esz := 4, zero := [.int .i64 0, .int .i64 0, .int .i64 0, .int .i64 0], eagg := true, el := some (.span : El) }),
  (23, { zero := [.val .nilFunc] }),
  (24, { zero := [.int .i64 0], kind := some .i64 }),
  (26, { zero := [.val .nilFunc] }),
  (27, { zero := [.val .nilFunc] }),
  (28, { zero := [.val .nilFunc] }),
  (29, { zero := [.val .nilFunc] }),
  (30, { agg := true, size := 4, zero := [.int .i64 0, .int .i64 0, .int .i64 0, .int .i64 0], flds := [(0, 1, false), (1, 1, false), (2, 1, false), (3, 1, false)], eqk := some [some .i64, some .i64, some .i64, some .i64] }),
  (31, { agg := true, size := 4, zero := [.int .i64 0, .int .i64 0, .int .i64 0, .int .i64 0], flds := [(0, 1, false), (1, 1, false), (2, 1, false), (3, 1, false)], eqk := some [some .i64, some .i64, some .i64, some .i64] }),
  (33, { zero := [.val .nilFunc] }),
  (34, { zero := [.val .nilFunc] }),
  (35, { zero := [.val .nilFunc] }),
  (36, { zero := [.val .nilFunc] }),
  (37, { agg := true, size := 4, zero := [.val (.slice none 0 0), .int .i64 0, .int .i64 0, .int .i64 0], flds := [(0, 1, false), (1, 1, false), (2, 1, false), (3, 1, false)] }),
  (38, { agg := true, size := 4, zero := [.val (.slice none 0 0), .int .i64 0, .int .i64 0, .int .i64 0], flds := [(0, 1, false), (1, 1, false), (2, 1, false), (3, 1, false)] }),
  (39, { zero := [.val .nilFunc] }),
  (40, { zero := [.val .nilFunc] }),
  (41, { zero := [.val .nilFunc] }),
  (42, { zero := [.val .nilFunc] }),
  (43, { zero := [.val .nilFunc] }),
  (44, { zero := [.val .nilFunc] }),
  (45, { zero := [.val .nilFunc] }),
  (46, { zero := [.val .nilFunc] }),
  (47, { zero := [.val .nilFunc] }),
  (49, { zero := [.val .nilFunc] }),
  (50, { zero := [.val .nilFunc] }),
  (51, { zero := [.val .nilFunc] }),
  (52, { slice := true, esz := 1, zero := [.int .i64 0], el := some (.int : El) }),
  (53, { zero := [.val .nilFunc] }),
  (54, { zero := [.val .nilFunc] }),
  (55, { zero := [.val .nilFunc] }),
  (56, { zero := [.val .nilFunc] }),
  (57, { zero := [.val .nilFunc] }),
  (58, { zero := [.val .nilFunc] }),
  (59, { zero := [.int .u64 0], kind := some .u64 }),
  (60, { zero := [.val .nilFunc] }),
  (61, { zero := [.int .i64 0], kind := some .i64 }),
  (63, { zero := [.val .nilFunc] }),
  (64, { zero := [.val .nilFunc] }),
  (65, { zero := [.val .nilFunc] }),
  (66, { zero := [.val .nilFunc] }),
  (67, { zero := [.val .nilFunc] }),
  (68, { zero := [.int .u32 0], kind := some .u32 }),
  (69, { zero := [.val .nilFunc] }),
  (70, { zero := [.int .u64 0], kind := some .u64 }),
  (71, { zero := [.int .u64 0], kind := some .u64 }),
  (72, { zero := [.val .nilFunc] }),
  (73, { zero := [.val .nilFunc] }),
  (74, { zero := [.val .nilFunc] }),
  (75, { zero := [.val (.pointer none)] }),
  (76, { zero := [.val .nilFunc] }),
  (77, { zero := [.val .nilFunc] }),
  (78, { zero := [.val (.pointer none)] }),
  (80, { zero := [.val .nilFunc] }),
  (81, { zero := [.val .nilFunc] }),
  (87, { zero := [.val .nilFunc] }),
  (88, { zero := [.int .u8 0], kind := some .u8 }),
  (89, { zero := [.int .u8 0], kind := some .u8 }),
  (90, { zero := [.val .nilFunc] }),
  (91, { zero := [.val (.pointer none)] }),
  (92, { zero := [.int .i32 0], kind := some .i32 }),
  (93, { zero := [.int .i32 0], kind := some .i32 }),
  (94, { agg := true, size := 11, zero := [.int .u64 0, .int .u64 0, .int .u32 0, .int .u8 0, .int .u8 0, .int .u8 0, .int .u8 0, .val .nilFunc, .val (.pointer none), .int .i32 0, .int .i32 0], flds := [(0, 1, false), (1, 1, false), (2, 1, false), (3, 1, false), (4, 1, false), (5, 1, false), (6, 1, false), (7, 1, false), (8, 1, false), (9, 1, false), (10, 1, false)] }),
  (95, { agg := true, size := 11, zero := [.int .u64 0, .int .u64 0, .int .u32 0, .int .u8 0, .int .u8 0, .int .u8 0, .int .u8 0, .val .nilFunc, .val (.pointer none), .int .i32 0, .int .i32 0], flds := [(0, 1, false), (1, 1, false), (2, 1, false), (3, 1, false), (4, 1, false), (5, 1, false), (6, 1, false), (7, 1, false), (8, 1, false), (9, 1, false), (10, 1, false)] })]

noncomputable def slots : List (Nat × els.El) := [(22, (.span : El)), (52, (.int : El))]

noncomputable def fns : List (Nat × Func) := [(21, Try.f21), (27, Try.f27), (28, Try.f28), (20, Try.f20), (22, Try.f22), (32, Try.f32), (19, Try.f19)]

noncomputable def k0 : Cfg (X := els) := { ti := ti, E := [], F := fns, Y := [(10, 250, 0, [1, 5, 6, 7, 8, 9, 19, 20, 21, 22, 23, 24, 25, 26, 27, 28, 29, 30, 31, 32, 33, 34, 35, 36, 37, 38, 39, 40, 41, 42, 43, 44, 45, 46, 47, 48, 49, 50, 51, 52, 53, 54, 55, 56, 57, 58, 59, 60, 61, 62, 63, 64, 65, 66, 67, 68, 69])], W := [(30, mutC (X := els) El.int sortI false), (31, mutC (X := els) El.int compI true)] }

theorem w_0 : WConOk Try.prog (fun _ => True) 30 (mutC (X := els) El.int sortI false) := mutC_ok rfl (fun x => x) (fun _ => rfl) (fun xs => by simp only [List.map_id']) (Known.of Try.func30 (by kernel_rfl) (by kernel_rfl)).1 (sort_turns Try.slices_Sort_int Try.slices_Sort_int_none)
theorem w_1 : WConOk Try.prog (fun _ => True) 31 (mutC (X := els) El.int compI true) := mutC_ok rfl (fun x => x) (fun _ => rfl) (fun xs => by simp only [List.map_id']) (Known.of Try.func31 (by kernel_rfl) (by kernel_rfl)).1 (compact_turns Try.slices_Compact_int Try.slices_Compact_int_empty)

theorem p0 : Prog Try.prog (fun _ => True) k0 := Prog.addW (Prog.addW (Prog.startY elsOk (by kernel_rfl) (by kernel_rfl) (by kernel_rfl) (FOk.cons (.of Try.func21 (by kernel_rfl) (by kernel_rfl)) (FOk.cons (.of Try.func27 (by kernel_rfl) (by kernel_rfl)) (FOk.cons (.of Try.func28 (by kernel_rfl) (by kernel_rfl)) (FOk.cons (.of Try.func20 (by kernel_rfl) (by kernel_rfl)) (FOk.cons (.of Try.func22 (by kernel_rfl) (by kernel_rfl)) (FOk.cons (.of Try.func32 (by kernel_rfl) (by kernel_rfl)) (FOk.cons (.of Try.func19 (by kernel_rfl) (by kernel_rfl)) (FOk.nil)))))))) (YOk.cons (ds := [false, true, false, true, true, true, true]) YOk.nil Try.func10 (body := Try.f10.body.getD .skip) (by kernel_rfl) (by kernel_rfl) (by kernel_rfl))) w_1) w_0
end Go.Proofs.Ytdadgkgkdgnihaa.Px.PxV
