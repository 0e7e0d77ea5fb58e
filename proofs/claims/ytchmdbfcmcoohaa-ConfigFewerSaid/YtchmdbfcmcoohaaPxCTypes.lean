/- The seat's types, for the evaluator. -/
import Derived.Test.YtchmdbfcmcoohaaPxApi
import Derived.Test.YtchmdbfcmcoohaaProg
set_option linter.unusedVariables false
set_option linter.unusedSimpArgs false
namespace Go.Proofs.Ytchmdbfcmcoohaa.Px.PxC
open Go Go.Proofs

noncomputable def ti : List (Nat × TI (X := els)) := [(1, { zero := [.val .nilFunc] }),
  (2, { zero := [.int .i64 0], kind := some .i64 }),
  (3, { zero := [.int .i64 0], kind := some .i64 }),
  (4, { zero := [.bool false], isBool := true }),
  (5, { zero := [.int .u8 0], kind := some .u8 }),
  (6, { zero := [.int .u8 0], kind := some .u8 }),
  (7, { agg := true, size := 4, zero := [.int .i64 0, .int .i64 0, .bool false, .int .u8 0], flds := [(0, 1, false), (1, 1, false), (2, 1, false), (3, 1, false)], eqk := some [some .i64, some .i64, none, some .u8] }),
  (8, { agg := true, size := 4, zero := [.int .i64 0, .int .i64 0, .bool false, .int .u8 0], flds := [(0, 1, false), (1, 1, false), (2, 1, false), (3, 1, false)], eqk := some [some .i64, some .i64, none, some .u8] }),
  (12, { zero := [.int .u64 0], kind := some .u64 }),
  (15, { zero := [.val (.pointer none)] }),
  (16, { zero := [.val (.pointer none)] }),
  (17, { zero := [.val (.pointer none)] }),
  (18, { agg := true, zero := [.val (.pointer none)], flds := [(0, 1, false)] }),
  (19, { agg := true, zero := [.val (.pointer none)], flds := [(0, 1, false)] }),
  (20, { zero := [.val .nilIface] }),
  (21, { zero := [.int .i32 0], kind := some .i32 }),
  (22, { slice := true, esz := 1, zero := [.int .i64 0], el := some (.int : El) }),
  (23, { agg := true, size := 7, zero := [.int .i64 0, .int .i64 0, .int .i64 0, .int .i64 0, .int .i64 0, .int .i64 0, .int .i64 0], flds := [(0, 1, false), (1, 1, false), (2, 1, false), (3, 1, false), (4, 1, false), (5, 1, false), (6, 1, false)], eqk := some [some .i64, some .i64, some .i64, some .i64, some .i64, some .i64, some .i64] }),
  (24, { agg := true, size := 7, zero := [.int .i64 0, .int .i64 0, .int .i64 0, .int .i64 0, .int .i64 0, .int .i64 0, .int .i64 0], flds := [(0, 1, false), (1, 1, false), (2, 1, false), (3, 1, false), (4, 1, false), (5, 1, false), (6, 1, false)], eqk := some [some .i64, some .i64, some .i64, some .i64, some .i64, some .i64, some .i64] }),
  (25, { agg := true, size := 4, zero := [.int .i64 0, .int .i64 0, .int .i64 0, .int .i64 0], flds := [(0, 1, false), (1, 1, false), (2, 1, false), (3, 1, false)], eqk := some [some .i64, some .i64, some .i64, some .i64] }),
  (26, { agg := true, size := 4, zero := [.int .i64 0, .int .i64 0, .int .i64 0, .int .i64 0], flds := [(0, 1, false), (1, 1, false), (2, 1, false), (3, 1, false)], eqk := some [some .i64, some .i64, some .i64, some .i64] }),
  (27, { agg := true, size := 10, zero := [.int .i64 0, .int .i64 0, .int .i64 0, .int .i64 0, .int .i64 0, .int .i64 0, .int .i64 0, .int .i64 0, .int .i64 0, .int .i64 0], flds := [(0, 1, false), (1, 1, false), (2, 4, true), (6, 4, true)], eqk := some [some .i64, some .i64, some .i64, some .i64, some .i64, some .i64, some .i64, some .i64, some .i64, some .i64] }),
  (28, { agg := true, size := 10, zero := [.int .i64 0, .int .i64 0, .int .i64 0, .int .i64 0, .int .i64 0, .int .i64 0, .int .i64 0, .int .i64 0, .int .i64 0, .int .i64 0], flds := [(0, 1, false), (1, 1, false), (2, 4, true), (6, 4, true)], eqk := some [some .i64, some .i64, some .i64, some .i64, some .i64, some .i64, some .i64, some .i64, some .i64, some .i64] }),
  (29, { agg := true, size := 12, zero := [.int .i64 0, .int .i64 0, .int .i64 0, .int .i64 0, .int .i64 0, .int .i64 0, .int .i64 0, .int .i64 0, .int .i64 0, .int .i64 0, .int .i64 0, .int .i64 0], len := 12, esz := 1, eqk := some [some .i64, some .i64, some .i64, some .i64, some .i64, some .i64, some .i64, some .i64, some .i64, some .i64, some .i64, some .i64] }),
  (30, { agg := true, size := 12, zero := [.int .i64 0, .int .i64 0, .int .i64 0, .int .i64 0, .int .i64 0, .int .i64 0, .int .i64 0, .int .i64 0, .int .i64 0, .int .i64 0, .int .i64 0, .int .i64 0], len := 12, esz := 1, eqk := some [some .i64, some .i64, some .i64, some .i64, some .i64, some .i64, some .i64, some .i64, some .i64, some .i64, some .i64, some .i64] }),
  (31, { slice := true, esz := 7, zero := [.int .i64 0, .int .i64 0, .int .i64 0, .int .i64 0, .int .i64 0, .int .i64 0, .int .i64 0], eagg := true, el := some (.window : El) }),
  (32, { agg := true, size := 37, zero := [.int .i64 0, .int .i64 0, .int .i64 0, .val (.slice none 0 0), .int .i64 0, .int .i64 0, .int .i64 0, .int .i64 0, .int .i64 0, .int .i64 0, .int .i64 0, .int .i64 0, .int .i64 0, .int .i64 0, .int .i64 0, .int .i64 0, .int .i64 0, .int .i64 0, .int .i64 0, .int .i64 0, .int .i64 0, .int .i64 0, .int .i64 0, .int .i64 0, .int .i64 0, .int .i64 0, .int .i64 0, .int .i64 0, .int .i64 0, .int .i64 0, .int .i64 0, .int .i64 0, .int .i64 0, .int .i64 0, .int .i64 0, .bool false, .val (.slice none 0 0)], flds := [(0, 1, false), (1, 1, false), (2, 1, false), (3, 1, false), (4, 7, true), (11, 1, false), (12, 1, false), (13, 10, true), (23, 12, true), (35, 1, false), (36, 1, false)] }),
  (33, { agg := true, size := 37, zero := [.int .i64 0, .int .i64 0, .int .i64 0, .val (.slice none 0 0), .int .i64 0, .int .i64 0, .int .i64 0, .int .i64 0, .int .i64 0, .int .i64 0, .int .i64 0, .int .i64 0, .int .i64 0, .int .i64 0, .int .i64 0, .int .i64 0, .int .i64 0, .int .i64 0, .int .i64 0, .int .i64 0, .int .i64 0, .int .i64 0, .int .i64 0, .int .i64 0, .int .i64 0, .int .i64 0, .int .i64 0, .int .i64 0, .int .i64 0, .int .i64 0, .int .i64 0, .int .i64 0, .int .i64 0, .int .i64 0, .int .i64 0, .bool false, .val (.slice none 0 0)], flds := [(0, 1, false), (1, 1, false), (2, 1, false), (3, 1, false), (4, 7, true), (11, 1, false), (12, 1, false), (13, 10, true), (23, 12, true), (35, 1, false), (36, 1, false)] }),
  (34, { agg := true, size := 7, zero := [.int .i64 0, .int .i64 0, .int .i64 0, .int .i64 0, .int .i64 0, .int .i64 0, .int .i64 0], flds := [(0, 1, false), (1, 1, false), (2, 1, false), (3, 1, false), (4, 1, false), (5, 1, false), (6, 1, false)], eqk := some [some .i64, some .i64, some .i64, some .i64, some .i64, some .i64, some .i64] }),
  (35, { agg := true, size := 7, zero := [.int .i64 0, .int .i64 0, .int .i64 0, .int .i64 0, .int .i64 0, .int .i64 0, .int .i64 0], flds := [(0, 1, false), (1, 1, false), (2, 1, false), (3, 1, false), (4, 1, false), (5, 1, false), (6, 1, false)], eqk := some [some .i64, some .i64, some .i64, some .i64, some .i64, some .i64, some .i64] }),
  (36, { zero := [.val .nilFunc] }),
  (37, { zero := [.val .nilFunc] }),
  (38, { zero := [.int .i64 0], kind := some .i64 }),
  (39, { zero := [.val .nilFunc] }),
  (40, { zero := [.val .nilFunc] }),
  (41, { zero := [.val .nilFunc] }),
  (42, { zero := [.val .nilFunc] }),
  (43, { zero := [.val .nilFunc] }),
  (44, { zero := [.val .nilFunc] }),
  (45, { zero := [.val .nilFunc] }),
  (46, { zero := [.val .nilFunc] }),
  (47, { zero := [.val .nilFunc] }),
  (48, { agg := true, zero := [.val .nilFunc], flds := [(0, 1, false)] }),
  (49, { agg := true, zero := [.val .nilFunc], flds := [(0, 1, false)] }),
  (50, { zero := [.val .nilFunc] }),
  (51, { zero := [.val .nilFunc] }),
  (52, { slice := true, esz := 1, zero := [.val .nilFunc], eagg := true }),
  (53, { zero := [.val .nilFunc] }),
  (54, { zero := [.val .nilFunc] }),
  (55, { zero := [.val .nilFunc] }),
  (56, { zero := [.val .nilFunc] }),
  (57, { zero := [.val .nilFunc] }),
  (58, { slice := true, esz := 4, zero := [.int .i64 0, .int .i64 0, .int .i64 0, .int .i64 0], eagg := true, el := some (.turn : El) }),
  (59, { zero := [.val .nilFunc] }),
  (60, { zero := [.val .nilFunc] }),
  (61, { zero := [.val .nilFunc] }),
  (62, { zero := [.val .nilFunc] }),
  (63, { zero := [.val .nilFunc] }),
  (64, { zero := [.val .nilFunc] }),
  (70, { zero := [.val .nilFunc] }),
  (71, { zero := [.int .u32 0], kind := some .u32 }),
  (72, { zero := [.int .u8 0], kind := some .u8 }),
  (73, { zero := [.int .u8 0], kind := some .u8 }),
  (74, { zero := [.val .nilFunc] }),
  (75, { zero := [.val (.pointer none)] }),
  (76, { zero := [.int .i32 0], kind := some .i32 }),
  (77, { zero := [.int .i32 0], kind := some .i32 }),
  (78, { agg := true, size := 11, zero := [.int .u64 0, .int .u64 0, .int .u32 0, .int .u8 0, .int .u8 0, .int .u8 0, .int .u8 0, .val .nilFunc, .val (.pointer none), .int .i32 0, .int .i32 0], flds := [(0, 1, false), (1, 1, false), (2, 1, false), (3, 1, false), (4, 1, false), (5, 1, false), (6, 1, false), (7, 1, false), (8, 1, false), (9, 1, false), (10, 1, false)] }),
  (79, { agg := true, size := 11, zero := [.int .u64 0, .int .u64 0, .int .u32 0, .int .u8 0, .int .u8 0, .int .u8 0, .int .u8 0, .val .nilFunc, .val (.pointer none), .int .i32 0, .int .i32 0], flds := [(0, 1, false), (1, 1, false), (2, 1, false), (3, 1, false), (4, 1, false), (5, 1, false), (6, 1, false), (7, 1, false), (8, 1, false), (9, 1, false), (10, 1, false)] })]

noncomputable def slots : List (Nat × els.El) := [(22, (.int : El)), (31, (.window : El)), (58, (.turn : El))]

noncomputable def fns : List (Nat × Func) := [(37, Try.f37), (24, Try.f24), (26, Try.f26), (39, Try.f39), (45, Try.f45), (40, Try.f40), (41, Try.f41), (19, Try.f19), (42, Try.f42), (46, Try.f46)]

noncomputable def k0 : Cfg (X := els) := { ti := ti, E := [], F := fns }


theorem p0 : Prog Try.prog (fun _ => True) k0 := Prog.start elsOk (by kernel_rfl) (by kernel_rfl) (by kernel_rfl) (FOk.cons (.of Try.func37 (by kernel_rfl) (by kernel_rfl)) (FOk.cons (.of Try.func24 (by kernel_rfl) (by kernel_rfl)) (FOk.cons (.of Try.func26 (by kernel_rfl) (by kernel_rfl)) (FOk.cons (.of Try.func39 (by kernel_rfl) (by kernel_rfl)) (FOk.cons (.of Try.func45 (by kernel_rfl) (by kernel_rfl)) (FOk.cons (.of Try.func40 (by kernel_rfl) (by kernel_rfl)) (FOk.cons (.of Try.func41 (by kernel_rfl) (by kernel_rfl)) (FOk.cons (.of Try.func19 (by kernel_rfl) (by kernel_rfl)) (FOk.cons (.of Try.func42 (by kernel_rfl) (by kernel_rfl)) (FOk.cons (.of Try.func46 (by kernel_rfl) (by kernel_rfl)) (FOk.nil)))))))))))
end Go.Proofs.Ytchmdbfcmcoohaa.Px.PxC
