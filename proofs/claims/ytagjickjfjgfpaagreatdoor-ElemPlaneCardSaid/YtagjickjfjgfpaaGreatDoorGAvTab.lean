/- Contracts of the given functions, on data. Conditions stand in each theorem. -/
import Derived.Test.YtagjickjfjgfpaaGreatDoorProg
import Derived.Test.YtagjickjfjgfpaaGreatDoorGEvQ
import Derived.Test.YtagjickjfjgfpaaGreatDoorGEvY
set_option linter.unusedSimpArgs false
set_option linter.unusedVariables false
namespace Go.Ev.Ar
open Go Go.Ev
def tabL : List (Nat × Ty) := [
  (2, ⟨1, 8, false, .int .i64, [.int .i64]⟩),
  (3, ⟨1, 8, false, .int .i64, [.int .i64]⟩),
  (4, ⟨1, 1, false, .bool, [.bool]⟩),
  (5, ⟨1, 1, false, .int .u8, [.int .u8]⟩),
  (6, ⟨1, 1, false, .int .u8, [.int .u8]⟩),
  (7, ⟨4, 24, true, .struct [(0, 1, false), (1, 1, false), (2, 1, false), (3, 1, false)], [.int .i64, .int .i64, .bool, .int .u8]⟩),
  (8, ⟨4, 24, true, .struct [(0, 1, false), (1, 1, false), (2, 1, false), (3, 1, false)], [.int .i64, .int .i64, .bool, .int .u8]⟩),
  (9, ⟨1, 16, false, .str, [.str]⟩),
  (10, ⟨1, 16, false, .str, [.str]⟩),
  (11, ⟨1, 16, false, .str, [.str]⟩),
  (12, ⟨1, 8, false, .int .u64, [.int .u64]⟩),
  (13, ⟨2, 24, true, .struct [(0, 1, false), (1, 1, false)], [.str, .int .u64]⟩),
  (14, ⟨2, 24, true, .struct [(0, 1, false), (1, 1, false)], [.str, .int .u64]⟩),
  (18, ⟨1, 8, true, .struct [(0, 1, false)], [.ptr]⟩),
  (19, ⟨1, 8, true, .struct [(0, 1, false)], [.ptr]⟩),
  (21, ⟨1, 4, false, .int .i32, [.int .i32]⟩),
  (22, ⟨1, 2, false, .int .i16, [.int .i16]⟩),
  (24, ⟨1, 24, false, .slice 138, [.nil]⟩),
  (25, ⟨2, 32, true, .struct [(0, 1, false), (1, 1, false)], [.bool, .nil]⟩),
  (26, ⟨2, 32, true, .struct [(0, 1, false), (1, 1, false)], [.bool, .nil]⟩),
  (27, ⟨3, 40, true, .struct [(0, 2, true), (2, 1, false)], [.bool, .nil, .int .i64]⟩),
  (28, ⟨3, 40, true, .struct [(0, 2, true), (2, 1, false)], [.bool, .nil, .int .i64]⟩),
  (30, ⟨6, 80, true, .struct [(0, 3, true), (3, 3, true)], [.bool, .nil, .int .i64, .bool, .nil, .int .i64]⟩),
  (31, ⟨6, 80, true, .struct [(0, 3, true), (3, 3, true)], [.bool, .nil, .int .i64, .bool, .nil, .int .i64]⟩),
  (32, ⟨9, 120, true, .array 3 28, [.bool, .nil, .int .i64, .bool, .nil, .int .i64, .bool, .nil, .int .i64]⟩),
  (34, ⟨1, 8, false, .int .i64, [.int .i64]⟩),
  (54, ⟨6, 80, true, .struct [(0, 3, true), (3, 3, true)], [.bool, .nil, .int .i64, .bool, .nil, .int .i64]⟩),
  (55, ⟨6, 80, true, .struct [(0, 3, true), (3, 3, true)], [.bool, .nil, .int .i64, .bool, .nil, .int .i64]⟩),
  (56, ⟨12, 160, true, .struct [(0, 6, true), (6, 6, true)], [.bool, .nil, .int .i64, .bool, .nil, .int .i64, .bool, .nil, .int .i64, .bool, .nil, .int .i64]⟩),
  (57, ⟨12, 160, true, .struct [(0, 6, true), (6, 6, true)], [.bool, .nil, .int .i64, .bool, .nil, .int .i64, .bool, .nil, .int .i64, .bool, .nil, .int .i64]⟩),
  (67, ⟨1, 24, false, .slice 92, [.nil]⟩),
  (68, ⟨1, 24, false, .slice 92, [.nil]⟩),
  (73, ⟨12, 160, true, .struct [(0, 6, true), (6, 6, true)], [.bool, .nil, .int .i64, .bool, .nil, .int .i64, .bool, .nil, .int .i64, .bool, .nil, .int .i64]⟩),
  (74, ⟨12, 160, true, .struct [(0, 6, true), (6, 6, true)], [.bool, .nil, .int .i64, .bool, .nil, .int .i64, .bool, .nil, .int .i64, .bool, .nil, .int .i64]⟩),
  (86, ⟨1, 24, false, .slice 55, [.nil]⟩),
  (91, ⟨10, 112, true, .struct [(0, 1, false), (1, 1, false), (2, 1, false), (3, 1, false), (4, 6, true)], [.int .i64, .int .i64, .int .i64, .int .i64, .bool, .nil, .int .i64, .bool, .nil, .int .i64]⟩),
  (92, ⟨10, 112, true, .struct [(0, 1, false), (1, 1, false), (2, 1, false), (3, 1, false), (4, 6, true)], [.int .i64, .int .i64, .int .i64, .int .i64, .bool, .nil, .int .i64, .bool, .nil, .int .i64]⟩),
  (108, ⟨1, 24, false, .slice 3, [.nil]⟩),
  (109, ⟨1, 24, false, .slice 111, [.nil]⟩),
  (110, ⟨12, 160, true, .struct [(0, 6, true), (6, 6, true)], [.bool, .nil, .int .i64, .bool, .nil, .int .i64, .bool, .nil, .int .i64, .bool, .nil, .int .i64]⟩),
  (111, ⟨12, 160, true, .struct [(0, 6, true), (6, 6, true)], [.bool, .nil, .int .i64, .bool, .nil, .int .i64, .bool, .nil, .int .i64, .bool, .nil, .int .i64]⟩),
  (114, ⟨1, 24, false, .slice 74, [.nil]⟩),
  (117, ⟨1, 24, false, .slice 57, [.nil]⟩),
  (120, ⟨1, 24, true, .struct [(0, 1, false)], [.nil]⟩),
  (121, ⟨1, 24, true, .struct [(0, 1, false)], [.nil]⟩),
  (122, ⟨1, 24, false, .slice 4, [.nil]⟩),
  (125, ⟨1, 24, false, .slice 86, [.nil]⟩),
  (138, ⟨1, 4, false, .int .u32, [.int .u32]⟩),
  (139, ⟨1, 8, false, .int .u64, [.int .u64]⟩),
  (141, ⟨1, 8, false, .int .u64, [.int .u64]⟩),
  (142, ⟨12, 160, true, .array 4 28, [.bool, .nil, .int .i64, .bool, .nil, .int .i64, .bool, .nil, .int .i64, .bool, .nil, .int .i64]⟩),
  (143, ⟨1, 24, false, .slice 28, [.nil]⟩),
  (173, ⟨4, 32, true, .array 4 3, [.int .i64, .int .i64, .int .i64, .int .i64]⟩),
  (175, ⟨32, 32, true, .array 32 5, [.int .u8, .int .u8, .int .u8, .int .u8, .int .u8, .int .u8, .int .u8, .int .u8, .int .u8, .int .u8, .int .u8, .int .u8, .int .u8, .int .u8, .int .u8, .int .u8, .int .u8, .int .u8, .int .u8, .int .u8, .int .u8, .int .u8, .int .u8, .int .u8, .int .u8, .int .u8, .int .u8, .int .u8, .int .u8, .int .u8, .int .u8, .int .u8]⟩),
  (182, ⟨4, 40, true, .struct [(0, 1, false), (1, 1, false), (2, 1, false), (3, 1, false)], [.ptr, .ptr, .ptr, .str]⟩),
  (183, ⟨4, 40, true, .struct [(0, 1, false), (1, 1, false), (2, 1, false), (3, 1, false)], [.ptr, .ptr, .ptr, .str]⟩),
  (184, ⟨0, 0, true, .array 0 16, []⟩),
  (188, ⟨1, 1, false, .int .u8, [.int .u8]⟩),
  (189, ⟨1, 1, false, .int .u8, [.int .u8]⟩),
  (192, ⟨1, 4, false, .int .i32, [.int .i32]⟩),
  (193, ⟨1, 4, false, .int .i32, [.int .i32]⟩),
  (194, ⟨11, 48, true, .struct [(0, 1, false), (1, 1, false), (2, 1, false), (3, 1, false), (4, 1, false), (5, 1, false), (6, 1, false), (7, 1, false), (8, 1, false), (9, 1, false), (10, 1, false)], [.int .u64, .int .u64, .int .u32, .int .u8, .int .u8, .int .u8, .int .u8, .func, .ptr, .int .i32, .int .i32]⟩),
  (195, ⟨11, 48, true, .struct [(0, 1, false), (1, 1, false), (2, 1, false), (3, 1, false), (4, 1, false), (5, 1, false), (6, 1, false), (7, 1, false), (8, 1, false), (9, 1, false), (10, 1, false)], [.int .u64, .int .u64, .int .u32, .int .u8, .int .u8, .int .u8, .int .u8, .func, .ptr, .int .i32, .int .i32]⟩)]
def tab : Tab := lk tabL
theorem tabL_ok : (tabL.all fun x => x.2.chk Go.Proofs.Tryz.prog x.1) = true := by kernel_rfl
theorem lk_mem {α : Type} : ∀ {l : List (Nat × α)} {t : Nat} {y : α}, lk l t = some y → (t, y) ∈ l
  | [], _, _, h => by simp [lk] at h
  | (k, x) :: l, t, y, h => by
    simp only [lk] at h
    split at h
    · rename_i e; subst e; cases h; simp
    · exact List.mem_cons_of_mem _ (lk_mem h)
theorem tab_ok : TabOk Go.Proofs.Tryz.prog tab := ⟨fun t y h => List.all_eq_true.1 tabL_ok (t, y) (lk_mem h), by kernel_rfl⟩
end Go.Ev.Ar

namespace Go.Ev.Ar
open Go Go.Ev Go.Proofs
/-- What lies in the variables. -/
abbrev G0 : Glob := fun | 0 => deBD | _ => []

def at_ (l : List UInt32) (i : Int) : Nat := if 0 ≤ i then (l.getD i.toNat 0).toNat else 0
theorem at_lt (l : List UInt32) (i : Int) : at_ l i < 4294967296 := by unfold at_; split <;> first | exact u32_lt _ | decide
theorem at_nat (l : List UInt32) (i : Nat) : at_ l i = (l.getD i 0).toNat := by unfold at_; simp

theorem at_sim (l : List UInt32) (i : Int) : Sim Tryz.prog G0 true 223 [sl l, .int .i64 i] (.int .u64 (at_ l i)) := by
  refine sim_mk tab_ok Tryz.func223 rfl (by kernel_rfl) rfl ⟨Nat.le_of_ble_eq_true rfl, Nat.le_of_ble_eq_true rfl⟩ ?_
  repeat' ((conv => whnf); first
    | refine RegE.early (Cd.mk (show regOk _ _ _ _ = true by kernel_rfl) ?_)
    | refine Cd.mk rfl ?_
    | refine Br.t ?_
    | refine Br.f ?_
    | with_reducible refine Br.dec (fun _ => ?_) (fun _ => ?_)
    | refine NthE.mk _ (limbs_drop _ _ (by omega)) ?_
    | refine Res.mk ?_
    | ((with_reducible refine EqE.idW ?_); with_reducible refine EqE.mk _ (wrap_u64_u32 _) ?_)
    | refine Cd.mk (by first | omega | (dsimp only; omega) | (simp only [length_limbs, length_la, Nat.mul_one, List.length_set, List.length_take, List.length_drop, List.length_replicate, List.length_append, Int.toNat_natCast]; omega) | (rw [length_la, Nat.mul_one]) | (rw [length_limbs, Nat.mul_one]) | (refine ⟨⟨Int.le_refl _, ?_⟩, ?_⟩ <;> first | omega | (rw [Int.toNat_zero]; omega)) | (simp only [length_limbs, length_la, Nat.mul_one, List.length_set, List.length_take, List.length_drop, List.length_replicate]; exact Nat.le_refl _)) ?_)
  · show _ = D.int _ _; unfold at_; rw [if_neg (by omega)]; rfl
  · show _ = D.int _ _; unfold at_; rw [if_pos (by omega), getD_big (by omega)]; rfl
  · show _ = D.int _ _; unfold at_; rw [if_pos (by omega)]

theorem cut_sim (l : List UInt32) (hl : l.length < 2^40) : Sim Tryz.prog G0 false 218 [sl l] (sl (ofN (nv l))) := by
  refine sim_mk tab_ok Tryz.func218 rfl (by kernel_rfl) rfl ⟨Nat.le_of_ble_eq_true rfl, Nat.le_of_ble_eq_true rfl⟩ ?_
  repeat' ((conv => whnf); first
    | refine RegE.early (Cd.mk (show regOk _ _ _ _ = true by kernel_rfl) ?_))
  refine ⟨[], [0], [], fun m xs h => ∃ l' : List UInt32, m = l'.length ∧ m ≤ l.length ∧ nv l' = nv l ∧ xs = [.d (sl l')] ∧ h = [], ⟨_, _, _, ⟨.inl rfl, rfl, rfl, rfl⟩, l, rfl, Nat.le_refl _, rfl, rfl, rfl⟩, ?_⟩
  rintro m xs h ⟨l', rfl, hle, hcut, rfl, rfl⟩
  repeat' ((conv => whnf); first
    | refine RegE.early (Cd.mk (show regOk _ _ _ _ = true by kernel_rfl) ?_)
    | refine Cd.mk rfl ?_
    | refine Br.t ?_
    | refine Br.f ?_
    | with_reducible refine Br.dec (fun _ => ?_) (fun _ => ?_)
    | refine NthE.mk _ (limbs_drop _ _ (by omega)) ?_
    | refine Res.mk ?_
    | refine LoopEnd.go _ _ ⟨.inl rfl, rfl, rfl, by first | rfl | (repeat first | exact all_nil _ | refine all_la _ _ _ _ _ ?_)⟩ ?_
    | ((with_reducible refine EqE.idW ?_); with_reducible refine EqE.mk _ (wrap_in (by omega) (by omega)) ?_)
    | ((with_reducible refine EqE.idL ?_); refine EqE.mk _ (sl_slice _ _ _ (by omega) (by omega) (by omega)) ?_)
    | refine Cd.mk (by first | omega | (dsimp only; omega) | (simp only [length_limbs, length_la, Nat.mul_one, List.length_set, List.length_take, List.length_drop, List.length_replicate, List.length_append, Int.toNat_natCast]; omega) | (rw [length_la, Nat.mul_one]) | (rw [length_limbs, Nat.mul_one]) | (refine ⟨⟨Int.le_refl _, ?_⟩, ?_⟩ <;> first | omega | (rw [Int.toNat_zero]; omega)) | (simp only [length_limbs, length_la, Nat.mul_one, List.length_set, List.length_take, List.length_drop, List.length_replicate]; exact Nat.le_refl _)) ?_)
  · rename_i h0 h1
    refine ⟨_, ⟨_, rfl, by simp; omega, ?_, rfl, rfl⟩, by simp; omega⟩
    have e : ((l'.length : Int) - 1).toNat = l'.length - 1 := by omega
    rw [e] at h1
    simp only [Int.sub_zero, e, Int.toNat_zero, List.drop_zero]
    rw [nv_dropTop (by intro e; simp [e] at h0) (by omega), hcut]
  · rename_i h0 h1
    have e : ((l'.length : Int) - 1).toNat = l'.length - 1 := by omega
    show _ = sl l'
    rw [← hcut, ofN_of (.inr (by rw [← e]; omega))]
  · rename_i h0
    show _ = sl l'
    rw [← hcut, ofN_of (.inl (List.eq_nil_of_length_eq_zero (by omega)))]

theorem add_sim (a b : List UInt32) (ha : a.length < 2^30) (hb : b.length < 2^30) : Sim Tryz.prog G0 false 214 [sl a, sl b] (sl (ofN (nv a + nv b))) := by
  refine sim_mk tab_ok Tryz.func214 rfl (by kernel_rfl) rfl ⟨Nat.le_of_ble_eq_true rfl, Nat.le_of_ble_eq_true rfl⟩ ?_
  repeat' ((conv => whnf); first
    | refine RegE.early (Cd.mk (show regOk _ _ _ _ = true by kernel_rfl) ?_)
    | refine Cd.mk rfl ?_
    | ((with_reducible refine EqE.idW ?_); with_reducible refine EqE.mk _ (n_succ _ (by omega)) ?_)
    | ((with_reducible refine EqE.idI ?_); with_reducible refine EqE.mk _ (max_nat _ _) ?_)
    | ((with_reducible refine EqE.idR ?_); refine EqE.mk _ (la_rep _) ?_)
    | refine Cd.mk (by first | omega | (dsimp only; omega) | (simp only [length_limbs, length_la, Nat.mul_one, List.length_set, List.length_take, List.length_drop, List.length_replicate, List.length_append, Int.toNat_natCast]; omega) | (rw [length_la, Nat.mul_one]) | (rw [length_limbs, Nat.mul_one]) | (refine ⟨⟨Int.le_refl _, ?_⟩, ?_⟩ <;> first | omega | (rw [Int.toNat_zero]; omega)) | (simp only [length_limbs, length_la, Nat.mul_one, List.length_set, List.length_take, List.length_drop, List.length_replicate]; exact Nat.le_refl _)) ?_)
  refine ⟨[], [0,1,5,6,16,17], [14], fun m xs h => ∃ (n i c : Nat) (l : List UInt32), m = n - i ∧ n = max a.length b.length + 1 ∧ i ≤ n ∧ c ≤ 1 ∧ l.length = n ∧ nv l + Pw i * c = nv (a.take i) + nv (b.take i) ∧ (∀ j, i ≤ j → (l.getD j 0).toNat = 0) ∧
    xs = [.d (sl a), .d (sl b), .own 14 0 n 1, .d (.int .u64 c), .d (.int .i64 n), .d (.int .i64 i)] ∧ h = [(14, false, la l)],
    ⟨_, _, _, ⟨.inl rfl, rfl, rfl, by first | rfl | (repeat first | exact all_nil _ | refine all_la _ _ _ _ _ ?_)⟩, _, 0, 0, _, rfl, by omega, by omega, by omega, by simp, by simp [nv_replicate], fun j _ => getD_rep _ _, rfl, rfl⟩, ?_⟩
  rintro m xs h ⟨n, i, c, l, rfl, hn, hi, hc, hl, hv, hz, rfl, rfl⟩
  have hxa := at_lt a i
  have hxb := at_lt b i
  repeat' ((conv => whnf); first
    | with_reducible refine CallX.data ?_
    | refine CallE.mk _ _ (at_sim _ _) ?_
    | refine CallE.mk _ _ (cut_sim _ (by omega)) ?_
    | refine RegE.early (Cd.mk (show regOk _ _ _ _ = true by kernel_rfl) ?_)
    | refine Cd.mk rfl ?_
    | with_reducible refine Br.dec (fun _ => ?_) (fun _ => ?_)
    | refine Res.mk ?_
    | refine DsE.mk (limbs _) rfl ?_
    | refine LoopEnd.go _ _ ⟨.inl rfl, rfl, rfl, by first | rfl | (repeat first | exact all_nil _ | refine all_la _ _ _ _ _ ?_)⟩ ?_
    | ((with_reducible refine EqE.idW ?_); first | with_reducible refine EqE.mk _ (n_add _ _ (by omega)) ?_ | with_reducible refine EqE.mk _ (n_u32 _) ?_ | with_reducible refine EqE.mk _ (n_succ _ (by omega)) ?_)
    | ((with_reducible refine EqE.idF ?_); refine EqE.mk _ (n_shr _ 4294967296 _ _ rfl) ?_)
    | ((with_reducible refine EqE.idS ?_); refine EqE.mk _ (la_setN _ _ _ _ (by first | with_reducible exact own_ix _ | with_reducible exact own_ixI _ | exact own_ix _ | exact own_ixI _ | rfl) (by first | omega | (simp only [List.length_set]; omega)) (by omega)) ?_)
    | ((with_reducible refine EqE.idL ?_); refine EqE.mk _ (sl_own _ _ _ _ (by omega) (by omega) rfl) ?_)
    | refine Cd.mk (by first | omega | (dsimp only; omega) | (simp only [length_limbs, length_la, Nat.mul_one, List.length_set, List.length_take, List.length_drop, List.length_replicate, List.length_append, Int.toNat_natCast]; omega) | (rw [length_la, Nat.mul_one]) | (rw [length_limbs, Nat.mul_one]) | (refine ⟨⟨Int.le_refl _, ?_⟩, ?_⟩ <;> first | omega | (rw [Int.toNat_zero]; omega)) | (simp only [length_limbs, length_la, Nat.mul_one, List.length_set, List.length_take, List.length_drop, List.length_replicate]; exact Nat.le_refl _)) ?_)
  · rename_i h0
    refine ⟨_, ⟨n, i + 1, (c + (at_ a i + at_ b i)) / 4294967296, _, rfl, hn, by omega, by omega, ?_, ?_, ?_, rfl, rfl⟩, by omega⟩
    · simp [hl]
    · have hz := hz i (Nat.le_refl _)
      rw [nv_set0 (by omega) hz (by omega), nv_take_succ', nv_take_succ', Pw_succ, Nat.add_assoc, limb_step, at_nat, at_nat, Nat.mul_add, Nat.mul_add]
      omega
    · intro j hj
      rw [getD_set_ne (by omega)]; exact hz j (by omega)
  · rename_i h0
    show _ = sl _
    have e : i = n := by omega
    have h1 := nv_lt a
    have h2 := nv_lt b
    have h3 := Pw_mono (show a.length ≤ n - 1 by omega)
    have h4 := Pw_mono (show b.length ≤ n - 1 by omega)
    have h5 := Pw_succ (n - 1)
    rw [show n - 1 + 1 = n by omega] at h5
    rw [List.take_of_length_le (by omega), List.take_of_length_le (by omega), e] at hv
    have : c = 0 := by
      rcases (show c = 0 ∨ c = 1 by omega) with h | h
      · exact h
      · subst h; omega
    subst this
    rw [← hv]; rfl
end Go.Ev.Ar

namespace Go.Ev.Ar
open Go Go.Ev Go.Proofs

theorem clone_sim (l : List UInt32) (hl : l.length < 2^32) : Sim Tryz.prog G0 false 231 [sl l] (sl l) := by
  refine sim_mk tab_ok Tryz.func231 rfl (by kernel_rfl) rfl ⟨Nat.le_of_ble_eq_true rfl, Nat.le_of_ble_eq_true rfl⟩ ?_
  repeat' ((conv => whnf); first
    | refine RegE.early (Cd.mk (show regOk _ _ _ _ = true by kernel_rfl) ?_)
    | refine Cd.mk rfl ?_
    | refine Br.t ?_
    | refine Br.f ?_
    | refine And.intro (fun _ => ?_) ?_
    | refine Res.mk ?_
    | refine DsE.mk (limbs _) rfl ?_
    | refine DsE.mk [] rfl ?_
    | ((with_reducible refine EqE.idA ?_); refine EqE.mk _ (la_app0 _) ?_)
    | ((with_reducible refine EqE.idL ?_); refine EqE.mk _ (sl_own _ _ _ _ (by omega) (by omega) rfl) ?_)
    | refine Cd.mk ⟨rfl, rfl⟩ ?_
    | refine Cd.mk (limbs_one _) ?_
    | refine Cd.mk (by first | omega | (dsimp only; omega) | (simp only [length_limbs, length_la, Nat.mul_one, List.length_set, List.length_take, List.length_drop, List.length_replicate, List.length_append, Int.toNat_natCast]; omega) | (rw [length_la, Nat.mul_one]) | (rw [length_limbs, Nat.mul_one]) | (refine ⟨⟨Int.le_refl _, ?_⟩, ?_⟩ <;> first | omega | (rw [Int.toNat_zero]; omega)) | (simp only [length_limbs, length_la, Nat.mul_one, List.length_set, List.length_take, List.length_drop, List.length_replicate]; exact Nat.le_refl _)) ?_)
  · rename_i h
    have h : l = [] := by simpa [limbs] using h
    subst h; rfl
  · rfl

theorem trim_sim (l : List UInt32) (hl : l.length < 2^32) : Sim Tryz.prog G0 false 224 [sl l] (sl (ofN (nv l))) := by
  refine sim_mk tab_ok Tryz.func224 rfl (by kernel_rfl) rfl ⟨Nat.le_of_ble_eq_true rfl, Nat.le_of_ble_eq_true rfl⟩ ?_
  have h := ofN_len_nv l
  repeat' ((conv => whnf); first
    | with_reducible refine CallX.data ?_
    | refine CallE.mk _ _ (cut_sim _ (by omega)) ?_
    | refine CallE.mk _ _ (clone_sim _ (by omega)) ?_
    | refine RegE.early (Cd.mk (show regOk _ _ _ _ = true by kernel_rfl) ?_)
    | refine Res.mk ?_)
  rfl

theorem is_sim (l : List UInt32) (hl : l.length < 2^32) : Sim Tryz.prog G0 true 220 [sl l] (.bool (cutOk l)) := by
  refine sim_mk tab_ok Tryz.func220 rfl (by kernel_rfl) rfl ⟨Nat.le_of_ble_eq_true rfl, Nat.le_of_ble_eq_true rfl⟩ ?_
  repeat' ((conv => whnf); first
    | refine RegE.early (Cd.mk (show regOk _ _ _ _ = true by kernel_rfl) ?_)
    | refine Cd.mk rfl ?_
    | refine Br.t ?_
    | refine Br.f ?_
    | with_reducible refine Br.dec (fun _ => ?_) (fun _ => ?_)
    | refine NthE.mk _ (limbs_drop _ _ (by omega)) ?_
    | refine Res.mk ?_
    | ((with_reducible refine EqE.idW ?_); with_reducible refine EqE.mk _ (wrap_in (by omega) (by omega)) ?_)
    | refine Cd.mk (by first | omega | (dsimp only; omega) | (simp only [length_limbs, length_la, Nat.mul_one, List.length_set, List.length_take, List.length_drop, List.length_replicate, List.length_append, Int.toNat_natCast]; omega) | (rw [length_la, Nat.mul_one]) | (rw [length_limbs, Nat.mul_one]) | (refine ⟨⟨Int.le_refl _, ?_⟩, ?_⟩ <;> first | omega | (rw [Int.toNat_zero]; omega)) | (simp only [length_limbs, length_la, Nat.mul_one, List.length_set, List.length_take, List.length_drop, List.length_replicate]; exact Nat.le_refl _)) ?_)
  · rename_i h
    show D.bool _ = D.bool _
    rw [(cutOk_iff l).2 (.inl (List.eq_nil_of_length_eq_zero (by omega)))]
  · rename_i h
    show D.bool _ = D.bool _
    congr 1
    have e : ((l.length : Int) - 1).toNat = l.length - 1 := by omega
    rw [e, Bool.eq_iff_iff, cutOk_iff]
    have : l ≠ [] := by intro e; simp [e] at h
    simp only [this, false_or, Bool.not_eq_true', decide_eq_false_iff_not]
    omega

end Go.Ev.Ar

namespace Go.Ev.Ar
open Go Go.Ev Go.Proofs
theorem nb_le8 (n : Nat) : nb (n % 256) ≤ 8 := nb_le.2 (by omega)
set_option maxHeartbeats 1000000 in
theorem len32_sim (x : UInt32) : Sim Tryz.prog G0 true 219 [.int .u32 x.toNat] (.int .i64 (nb x.toNat)) := by
  refine sim_mk tab_ok Tryz.func219 rfl (by kernel_rfl) rfl ⟨Nat.le_of_ble_eq_true rfl, Nat.le_of_ble_eq_true rfl⟩ ?_
  have hx := u32_lt x
  repeat' ((conv => whnf); first
    | refine Cd.mk (str_ix 256 (by kernel_rfl) (by omega)) ?_
    | refine EqE.mk _ (tab_get nb 256 _ (by kernel_rfl) rfl (by omega)) ?_
    | refine RegE.early (Cd.mk (show regOk _ _ _ _ = true by kernel_rfl) ?_)
    | refine Cd.mk rfl ?_
    | with_reducible refine Br.dec (fun _ => ?_) (fun _ => ?_)
    | refine Res.mk ?_
    | ((with_reducible refine EqE.idW ?_); first | with_reducible refine EqE.mk _ (n_i64 _ (Nat.lt_of_le_of_lt (nb_le.2 (show _ < 2 ^ 8 by omega)) (by decide))) ?_ | with_reducible refine EqE.mk _ (n_u8 _) ?_ | with_reducible refine EqE.mk _ (n_succ _ (by omega)) ?_ | with_reducible refine EqE.mk _ (wrap_in (by omega) (by omega)) ?_ | refine EqE.mk _ rfl ?_)
    | ((with_reducible refine EqE.idF ?_); first | refine EqE.mk _ (n_shr _ 65536 _ _ rfl) ?_ | refine EqE.mk _ (n_shr _ 256 _ _ rfl) ?_)
    | refine Cd.mk (by first | omega | (dsimp only; omega) | (simp only [length_limbs, length_la, Nat.mul_one, List.length_set, List.length_take, List.length_drop, List.length_replicate, List.length_append, Int.toNat_natCast]; omega) | (rw [length_la, Nat.mul_one]) | (rw [length_limbs, Nat.mul_one]) | (refine ⟨⟨Int.le_refl _, ?_⟩, ?_⟩ <;> first | omega | (rw [Int.toNat_zero]; omega)) | (simp only [length_limbs, length_la, Nat.mul_one, List.length_set, List.length_take, List.length_drop, List.length_replicate]; exact Nat.le_refl _)) ?_)
  all_goals show D.int _ _ = D.int _ _
  · have h1 := nb_le8 (x.toNat / 65536 / 256)
    have h2 : nb x.toNat = 16 + nb (x.toNat / 65536) := nb_div (k := 16) (by omega)
    have h3 : nb (x.toNat / 65536) = 8 + nb (x.toNat / 65536 / 256) := nb_div (k := 8) (by omega)
    rw [Nat.mod_eq_of_lt (show x.toNat / 65536 / 256 < 256 by omega)] at h1 ⊢
    rw [wrap_in (by omega) (by omega), h2, h3]; congr 1; omega
  · have h1 := nb_le8 (x.toNat / 65536)
    have h2 : nb x.toNat = 16 + nb (x.toNat / 65536) := nb_div (k := 16) (by omega)
    rw [Nat.mod_eq_of_lt (show x.toNat / 65536 < 256 by omega)] at h1 ⊢
    rw [wrap_in (by omega) (by omega), h2]; congr 1
  · have h1 := nb_le8 (x.toNat / 256)
    have h2 : nb x.toNat = 8 + nb (x.toNat / 256) := nb_div (k := 8) (by omega)
    rw [Nat.mod_eq_of_lt (show x.toNat / 256 < 256 by omega)] at h1 ⊢
    rw [wrap_in (by omega) (by omega), h2]; congr 1
  · have h1 := nb_le8 x.toNat
    rw [Nat.mod_eq_of_lt (show x.toNat < 256 by omega)] at h1 ⊢
    rw [wrap_in (by omega) (by omega)]; congr 1; omega
end Go.Ev.Ar
