/- The table of the types. -/
import Derived.Test.YtmgbegcamhkblaaDoorProg
import Derived.Test.YtmgbegcamhkblaaDoorEvK
set_option linter.unusedSimpArgs false
set_option linter.unusedVariables false
namespace Go.Ev.Ar
open Go Go.Ev
def tabL : List (Nat × Ty) := [
  (2, ⟨1, 8, false, .int .i64, [.int .i64]⟩),
  (3, ⟨1, 8, false, .int .i64, [.int .i64]⟩),
  (4, ⟨1, 1, false, .bool, [.bool]⟩),
  (5, ⟨1, 1, false, .int .u8, [.int .u8]⟩),
  (6, ⟨1, 1, false, .int .u8, [.int .u8]⟩),
  (7, ⟨4, 24, true, .struct [(0, 1, false), (1, 1, false), (2, 1, false), (3, 1, false)], [.int .i64, .int .i64, .bool, .int .u8]⟩),
  (8, ⟨4, 24, true, .struct [(0, 1, false), (1, 1, false), (2, 1, false), (3, 1, false)], [.int .i64, .int .i64, .bool, .int .u8]⟩),
  (9, ⟨1, 16, false, .str, [.str]⟩),
  (10, ⟨1, 16, false, .str, [.str]⟩),
  (11, ⟨1, 16, false, .str, [.str]⟩),
  (12, ⟨1, 8, false, .int .u64, [.int .u64]⟩),
  (13, ⟨2, 24, true, .struct [(0, 1, false), (1, 1, false)], [.str, .int .u64]⟩),
  (14, ⟨2, 24, true, .struct [(0, 1, false), (1, 1, false)], [.str, .int .u64]⟩),
  (18, ⟨1, 8, true, .struct [(0, 1, false)], [.ptr]⟩),
  (19, ⟨1, 8, true, .struct [(0, 1, false)], [.ptr]⟩),
  (21, ⟨1, 4, false, .int .i32, [.int .i32]⟩),
  (22, ⟨1, 24, false, .slice 29, [.nil]⟩),
  (23, ⟨1, 24, false, .slice 110, [.nil]⟩),
  (24, ⟨2, 32, true, .struct [(0, 1, false), (1, 1, false)], [.bool, .nil]⟩),
  (25, ⟨2, 32, true, .struct [(0, 1, false), (1, 1, false)], [.bool, .nil]⟩),
  (26, ⟨3, 40, true, .struct [(0, 2, true), (2, 1, false)], [.bool, .nil, .int .i64]⟩),
  (27, ⟨3, 40, true, .struct [(0, 2, true), (2, 1, false)], [.bool, .nil, .int .i64]⟩),
  (28, ⟨6, 80, true, .struct [(0, 3, true), (3, 3, true)], [.bool, .nil, .int .i64, .bool, .nil, .int .i64]⟩),
  (29, ⟨6, 80, true, .struct [(0, 3, true), (3, 3, true)], [.bool, .nil, .int .i64, .bool, .nil, .int .i64]⟩),
  (42, ⟨1, 2, false, .int .i16, [.int .i16]⟩),
  (58, ⟨1, 1, false, .int .i8, [.int .i8]⟩),
  (70, ⟨9, 120, true, .struct [(0, 6, true), (6, 3, true)], [.bool, .nil, .int .i64, .bool, .nil, .int .i64, .bool, .nil, .int .i64]⟩),
  (71, ⟨9, 120, true, .struct [(0, 6, true), (6, 3, true)], [.bool, .nil, .int .i64, .bool, .nil, .int .i64, .bool, .nil, .int .i64]⟩),
  (75, ⟨36, 480, true, .array 4 71, [.bool, .nil, .int .i64, .bool, .nil, .int .i64, .bool, .nil, .int .i64, .bool, .nil, .int .i64, .bool, .nil, .int .i64, .bool, .nil, .int .i64, .bool, .nil, .int .i64, .bool, .nil, .int .i64, .bool, .nil, .int .i64, .bool, .nil, .int .i64, .bool, .nil, .int .i64, .bool, .nil, .int .i64]⟩),
  (79, ⟨6, 80, true, .struct [(0, 3, true), (3, 3, true)], [.bool, .nil, .int .i64, .bool, .nil, .int .i64]⟩),
  (80, ⟨6, 80, true, .struct [(0, 3, true), (3, 3, true)], [.bool, .nil, .int .i64, .bool, .nil, .int .i64]⟩),
  (83, ⟨1, 8, false, .int .i64, [.int .i64]⟩),
  (95, ⟨6, 80, true, .array 2 27, [.bool, .nil, .int .i64, .bool, .nil, .int .i64]⟩),
  (97, ⟨4, 32, true, .array 4 3, [.int .i64, .int .i64, .int .i64, .int .i64]⟩),
  (98, ⟨3, 24, true, .array 3 3, [.int .i64, .int .i64, .int .i64]⟩),
  (99, ⟨9, 72, true, .array 3 98, [.int .i64, .int .i64, .int .i64, .int .i64, .int .i64, .int .i64, .int .i64, .int .i64, .int .i64]⟩),
  (100, ⟨2, 16, true, .array 2 2, [.int .i64, .int .i64]⟩),
  (101, ⟨18, 144, true, .array 9 100, [.int .i64, .int .i64, .int .i64, .int .i64, .int .i64, .int .i64, .int .i64, .int .i64, .int .i64, .int .i64, .int .i64, .int .i64, .int .i64, .int .i64, .int .i64, .int .i64, .int .i64, .int .i64]⟩),
  (110, ⟨1, 4, false, .int .u32, [.int .u32]⟩),
  (116, ⟨9, 120, true, .struct [(0, 6, true), (6, 3, true)], [.bool, .nil, .int .i64, .bool, .nil, .int .i64, .bool, .nil, .int .i64]⟩),
  (117, ⟨9, 120, true, .struct [(0, 6, true), (6, 3, true)], [.bool, .nil, .int .i64, .bool, .nil, .int .i64, .bool, .nil, .int .i64]⟩),
  (120, ⟨12, 160, true, .struct [(0, 6, true), (6, 6, true)], [.bool, .nil, .int .i64, .bool, .nil, .int .i64, .bool, .nil, .int .i64, .bool, .nil, .int .i64]⟩),
  (121, ⟨12, 160, true, .struct [(0, 6, true), (6, 6, true)], [.bool, .nil, .int .i64, .bool, .nil, .int .i64, .bool, .nil, .int .i64, .bool, .nil, .int .i64]⟩),
  (124, ⟨24, 320, true, .array 4 29, [.bool, .nil, .int .i64, .bool, .nil, .int .i64, .bool, .nil, .int .i64, .bool, .nil, .int .i64, .bool, .nil, .int .i64, .bool, .nil, .int .i64, .bool, .nil, .int .i64, .bool, .nil, .int .i64]⟩),
  (131, ⟨12, 160, true, .array 4 27, [.bool, .nil, .int .i64, .bool, .nil, .int .i64, .bool, .nil, .int .i64, .bool, .nil, .int .i64]⟩),
  (132, ⟨1, 24, false, .slice 27, [.nil]⟩),
  (133, ⟨1, 8, false, .int .u64, [.int .u64]⟩),
  (134, ⟨1, 8, false, .int .u64, [.int .u64]⟩),
  (155, ⟨32, 32, true, .array 32 5, [.int .u8, .int .u8, .int .u8, .int .u8, .int .u8, .int .u8, .int .u8, .int .u8, .int .u8, .int .u8, .int .u8, .int .u8, .int .u8, .int .u8, .int .u8, .int .u8, .int .u8, .int .u8, .int .u8, .int .u8, .int .u8, .int .u8, .int .u8, .int .u8, .int .u8, .int .u8, .int .u8, .int .u8, .int .u8, .int .u8, .int .u8, .int .u8]⟩),
  (160, ⟨4, 40, true, .struct [(0, 1, false), (1, 1, false), (2, 1, false), (3, 1, false)], [.ptr, .ptr, .ptr, .str]⟩),
  (161, ⟨4, 40, true, .struct [(0, 1, false), (1, 1, false), (2, 1, false), (3, 1, false)], [.ptr, .ptr, .ptr, .str]⟩),
  (162, ⟨0, 0, true, .array 0 16, []⟩),
  (166, ⟨1, 1, false, .int .u8, [.int .u8]⟩),
  (167, ⟨1, 1, false, .int .u8, [.int .u8]⟩),
  (170, ⟨1, 4, false, .int .i32, [.int .i32]⟩),
  (171, ⟨1, 4, false, .int .i32, [.int .i32]⟩),
  (172, ⟨11, 48, true, .struct [(0, 1, false), (1, 1, false), (2, 1, false), (3, 1, false), (4, 1, false), (5, 1, false), (6, 1, false), (7, 1, false), (8, 1, false), (9, 1, false), (10, 1, false)], [.int .u64, .int .u64, .int .u32, .int .u8, .int .u8, .int .u8, .int .u8, .func, .ptr, .int .i32, .int .i32]⟩),
  (173, ⟨11, 48, true, .struct [(0, 1, false), (1, 1, false), (2, 1, false), (3, 1, false), (4, 1, false), (5, 1, false), (6, 1, false), (7, 1, false), (8, 1, false), (9, 1, false), (10, 1, false)], [.int .u64, .int .u64, .int .u32, .int .u8, .int .u8, .int .u8, .int .u8, .func, .ptr, .int .i32, .int .i32]⟩)]
def tab : Tab := lk tabL
theorem tabL_ok : (tabL.all fun x => x.2.chk Go.Proofs.Tryd.prog x.1) = true := by kernel_rfl
theorem lk_mem {α : Type} : ∀ {l : List (Nat × α)} {t : Nat} {y : α}, lk l t = some y → (t, y) ∈ l
  | [], _, _, h => by simp [lk] at h
  | (k, x) :: l, t, y, h => by
    simp only [lk] at h
    split at h
    · rename_i e; subst e; cases h; simp
    · exact List.mem_cons_of_mem _ (lk_mem h)
theorem tab_ok : TabOk Go.Proofs.Tryd.prog tab := ⟨fun t y h => List.all_eq_true.1 tabL_ok (t, y) (lk_mem h), by kernel_rfl⟩
theorem T2 : tab 2 = some ⟨1, 8, false, .int .i64, [.int .i64]⟩ := by rfl
theorem T3 : tab 3 = some ⟨1, 8, false, .int .i64, [.int .i64]⟩ := by rfl
theorem T4 : tab 4 = some ⟨1, 1, false, .bool, [.bool]⟩ := by rfl
theorem T5 : tab 5 = some ⟨1, 1, false, .int .u8, [.int .u8]⟩ := by rfl
theorem T6 : tab 6 = some ⟨1, 1, false, .int .u8, [.int .u8]⟩ := by rfl
theorem T7 : tab 7 = some ⟨4, 24, true, .struct [(0, 1, false), (1, 1, false), (2, 1, false), (3, 1, false)], [.int .i64, .int .i64, .bool, .int .u8]⟩ := by rfl
theorem T8 : tab 8 = some ⟨4, 24, true, .struct [(0, 1, false), (1, 1, false), (2, 1, false), (3, 1, false)], [.int .i64, .int .i64, .bool, .int .u8]⟩ := by rfl
theorem T9 : tab 9 = some ⟨1, 16, false, .str, [.str]⟩ := by rfl
theorem T10 : tab 10 = some ⟨1, 16, false, .str, [.str]⟩ := by rfl
theorem T11 : tab 11 = some ⟨1, 16, false, .str, [.str]⟩ := by rfl
theorem T12 : tab 12 = some ⟨1, 8, false, .int .u64, [.int .u64]⟩ := by rfl
theorem T13 : tab 13 = some ⟨2, 24, true, .struct [(0, 1, false), (1, 1, false)], [.str, .int .u64]⟩ := by rfl
theorem T14 : tab 14 = some ⟨2, 24, true, .struct [(0, 1, false), (1, 1, false)], [.str, .int .u64]⟩ := by rfl
theorem T18 : tab 18 = some ⟨1, 8, true, .struct [(0, 1, false)], [.ptr]⟩ := by rfl
theorem T19 : tab 19 = some ⟨1, 8, true, .struct [(0, 1, false)], [.ptr]⟩ := by rfl
theorem T21 : tab 21 = some ⟨1, 4, false, .int .i32, [.int .i32]⟩ := by rfl
theorem T22 : tab 22 = some ⟨1, 24, false, .slice 29, [.nil]⟩ := by rfl
theorem T23 : tab 23 = some ⟨1, 24, false, .slice 110, [.nil]⟩ := by rfl
theorem T24 : tab 24 = some ⟨2, 32, true, .struct [(0, 1, false), (1, 1, false)], [.bool, .nil]⟩ := by rfl
theorem T25 : tab 25 = some ⟨2, 32, true, .struct [(0, 1, false), (1, 1, false)], [.bool, .nil]⟩ := by rfl
theorem T26 : tab 26 = some ⟨3, 40, true, .struct [(0, 2, true), (2, 1, false)], [.bool, .nil, .int .i64]⟩ := by rfl
theorem T27 : tab 27 = some ⟨3, 40, true, .struct [(0, 2, true), (2, 1, false)], [.bool, .nil, .int .i64]⟩ := by rfl
theorem T28 : tab 28 = some ⟨6, 80, true, .struct [(0, 3, true), (3, 3, true)], [.bool, .nil, .int .i64, .bool, .nil, .int .i64]⟩ := by rfl
theorem T29 : tab 29 = some ⟨6, 80, true, .struct [(0, 3, true), (3, 3, true)], [.bool, .nil, .int .i64, .bool, .nil, .int .i64]⟩ := by rfl
theorem T42 : tab 42 = some ⟨1, 2, false, .int .i16, [.int .i16]⟩ := by rfl
theorem T58 : tab 58 = some ⟨1, 1, false, .int .i8, [.int .i8]⟩ := by rfl
theorem T70 : tab 70 = some ⟨9, 120, true, .struct [(0, 6, true), (6, 3, true)], [.bool, .nil, .int .i64, .bool, .nil, .int .i64, .bool, .nil, .int .i64]⟩ := by rfl
theorem T71 : tab 71 = some ⟨9, 120, true, .struct [(0, 6, true), (6, 3, true)], [.bool, .nil, .int .i64, .bool, .nil, .int .i64, .bool, .nil, .int .i64]⟩ := by rfl
theorem T75 : tab 75 = some ⟨36, 480, true, .array 4 71, [.bool, .nil, .int .i64, .bool, .nil, .int .i64, .bool, .nil, .int .i64, .bool, .nil, .int .i64, .bool, .nil, .int .i64, .bool, .nil, .int .i64, .bool, .nil, .int .i64, .bool, .nil, .int .i64, .bool, .nil, .int .i64, .bool, .nil, .int .i64, .bool, .nil, .int .i64, .bool, .nil, .int .i64]⟩ := by rfl
theorem T79 : tab 79 = some ⟨6, 80, true, .struct [(0, 3, true), (3, 3, true)], [.bool, .nil, .int .i64, .bool, .nil, .int .i64]⟩ := by rfl
theorem T80 : tab 80 = some ⟨6, 80, true, .struct [(0, 3, true), (3, 3, true)], [.bool, .nil, .int .i64, .bool, .nil, .int .i64]⟩ := by rfl
theorem T83 : tab 83 = some ⟨1, 8, false, .int .i64, [.int .i64]⟩ := by rfl
theorem T95 : tab 95 = some ⟨6, 80, true, .array 2 27, [.bool, .nil, .int .i64, .bool, .nil, .int .i64]⟩ := by rfl
theorem T97 : tab 97 = some ⟨4, 32, true, .array 4 3, [.int .i64, .int .i64, .int .i64, .int .i64]⟩ := by rfl
theorem T98 : tab 98 = some ⟨3, 24, true, .array 3 3, [.int .i64, .int .i64, .int .i64]⟩ := by rfl
theorem T99 : tab 99 = some ⟨9, 72, true, .array 3 98, [.int .i64, .int .i64, .int .i64, .int .i64, .int .i64, .int .i64, .int .i64, .int .i64, .int .i64]⟩ := by rfl
theorem T100 : tab 100 = some ⟨2, 16, true, .array 2 2, [.int .i64, .int .i64]⟩ := by rfl
theorem T101 : tab 101 = some ⟨18, 144, true, .array 9 100, [.int .i64, .int .i64, .int .i64, .int .i64, .int .i64, .int .i64, .int .i64, .int .i64, .int .i64, .int .i64, .int .i64, .int .i64, .int .i64, .int .i64, .int .i64, .int .i64, .int .i64, .int .i64]⟩ := by rfl
theorem T110 : tab 110 = some ⟨1, 4, false, .int .u32, [.int .u32]⟩ := by rfl
theorem T116 : tab 116 = some ⟨9, 120, true, .struct [(0, 6, true), (6, 3, true)], [.bool, .nil, .int .i64, .bool, .nil, .int .i64, .bool, .nil, .int .i64]⟩ := by rfl
theorem T117 : tab 117 = some ⟨9, 120, true, .struct [(0, 6, true), (6, 3, true)], [.bool, .nil, .int .i64, .bool, .nil, .int .i64, .bool, .nil, .int .i64]⟩ := by rfl
theorem T120 : tab 120 = some ⟨12, 160, true, .struct [(0, 6, true), (6, 6, true)], [.bool, .nil, .int .i64, .bool, .nil, .int .i64, .bool, .nil, .int .i64, .bool, .nil, .int .i64]⟩ := by rfl
theorem T121 : tab 121 = some ⟨12, 160, true, .struct [(0, 6, true), (6, 6, true)], [.bool, .nil, .int .i64, .bool, .nil, .int .i64, .bool, .nil, .int .i64, .bool, .nil, .int .i64]⟩ := by rfl
theorem T124 : tab 124 = some ⟨24, 320, true, .array 4 29, [.bool, .nil, .int .i64, .bool, .nil, .int .i64, .bool, .nil, .int .i64, .bool, .nil, .int .i64, .bool, .nil, .int .i64, .bool, .nil, .int .i64, .bool, .nil, .int .i64, .bool, .nil, .int .i64]⟩ := by rfl
theorem T131 : tab 131 = some ⟨12, 160, true, .array 4 27, [.bool, .nil, .int .i64, .bool, .nil, .int .i64, .bool, .nil, .int .i64, .bool, .nil, .int .i64]⟩ := by rfl
theorem T132 : tab 132 = some ⟨1, 24, false, .slice 27, [.nil]⟩ := by rfl
theorem T133 : tab 133 = some ⟨1, 8, false, .int .u64, [.int .u64]⟩ := by rfl
theorem T134 : tab 134 = some ⟨1, 8, false, .int .u64, [.int .u64]⟩ := by rfl
theorem T155 : tab 155 = some ⟨32, 32, true, .array 32 5, [.int .u8, .int .u8, .int .u8, .int .u8, .int .u8, .int .u8, .int .u8, .int .u8, .int .u8, .int .u8, .int .u8, .int .u8, .int .u8, .int .u8, .int .u8, .int .u8, .int .u8, .int .u8, .int .u8, .int .u8, .int .u8, .int .u8, .int .u8, .int .u8, .int .u8, .int .u8, .int .u8, .int .u8, .int .u8, .int .u8, .int .u8, .int .u8]⟩ := by rfl
theorem T160 : tab 160 = some ⟨4, 40, true, .struct [(0, 1, false), (1, 1, false), (2, 1, false), (3, 1, false)], [.ptr, .ptr, .ptr, .str]⟩ := by rfl
theorem T161 : tab 161 = some ⟨4, 40, true, .struct [(0, 1, false), (1, 1, false), (2, 1, false), (3, 1, false)], [.ptr, .ptr, .ptr, .str]⟩ := by rfl
theorem T162 : tab 162 = some ⟨0, 0, true, .array 0 16, []⟩ := by rfl
theorem T166 : tab 166 = some ⟨1, 1, false, .int .u8, [.int .u8]⟩ := by rfl
theorem T167 : tab 167 = some ⟨1, 1, false, .int .u8, [.int .u8]⟩ := by rfl
theorem T170 : tab 170 = some ⟨1, 4, false, .int .i32, [.int .i32]⟩ := by rfl
theorem T171 : tab 171 = some ⟨1, 4, false, .int .i32, [.int .i32]⟩ := by rfl
theorem T172 : tab 172 = some ⟨11, 48, true, .struct [(0, 1, false), (1, 1, false), (2, 1, false), (3, 1, false), (4, 1, false), (5, 1, false), (6, 1, false), (7, 1, false), (8, 1, false), (9, 1, false), (10, 1, false)], [.int .u64, .int .u64, .int .u32, .int .u8, .int .u8, .int .u8, .int .u8, .func, .ptr, .int .i32, .int .i32]⟩ := by rfl
theorem T173 : tab 173 = some ⟨11, 48, true, .struct [(0, 1, false), (1, 1, false), (2, 1, false), (3, 1, false), (4, 1, false), (5, 1, false), (6, 1, false), (7, 1, false), (8, 1, false), (9, 1, false), (10, 1, false)], [.int .u64, .int .u64, .int .u32, .int .u8, .int .u8, .int .u8, .int .u8, .func, .ptr, .int .i32, .int .i32]⟩ := by rfl
end Go.Ev.Ar
