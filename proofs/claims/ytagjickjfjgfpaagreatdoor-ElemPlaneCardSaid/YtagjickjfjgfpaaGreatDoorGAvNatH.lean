/- Contracts of the given functions, on data. Conditions stand in each theorem. -/
import Derived.Test.YtagjickjfjgfpaaGreatDoorGAvNatF
import Derived.Test.YtagjickjfjgfpaaGreatDoorGEvU
set_option linter.unusedSimpArgs false
set_option linter.unusedVariables false
namespace Go.Ev.Ar
open Go Go.Ev Go.Proofs

theorem rens_la (ρ : List (Nat × Nat)) (l : List UInt32) : A.rens ρ (la l) = la l := A.rens_map _ _
theorem refs_la (ks : List Nat) (l : List UInt32) : A.refsIns ks (la l) = true := A.refsIns_map _ _
theorem cutA_sim (L : List UInt32) (n : Nat) (hn : n ≤ L.length) (hL : L.length < 2^40) :
    SimA Tryz.prog G0 218 [.own 1000000 0 n 1] [(1000000, false, la L)] (.own 1000000 0 (ofN (nv (L.take n))).length 1) [(1000000, false, la L)] := by
  refine simA_mk tab_ok Tryz.func218 rfl (by kernel_rfl) ⟨Nat.le_of_ble_eq_true rfl, Nat.le_of_ble_eq_true rfl⟩ rfl (by intro x hx; simp only [List.mem_cons, List.not_mem_nil, or_false] at hx <;> first | (subst hx; first | rfl | exact refs_la _ _) | (rcases hx with rfl | rfl <;> first | rfl | exact refs_la _ _)) rfl (by intro x hx; simp only [List.mem_cons, List.not_mem_nil, or_false] at hx <;> first | (subst hx; first | rfl | exact refs_la _ _) | (rcases hx with rfl | rfl <;> first | rfl | exact refs_la _ _)) ?_
  repeat' ((conv => whnf); first
    | refine RegE.early (Cd.mk (show regOk _ _ _ _ = true by kernel_rfl) ?_))
  refine ⟨[], [0], [1000000], fun m xs h => ∃ k : Nat, m = k ∧ k ≤ n ∧ nv (L.take k) = nv (L.take n) ∧ xs = [.own 1000000 0 k 1] ∧ h = [(1000000, false, la L)], ⟨_, _, _, ⟨.inl rfl, rfl, rfl, by first | rfl | (repeat first | exact all_nil _ | refine all_la _ _ _ _ _ ?_)⟩, n, rfl, Nat.le_refl _, rfl, rfl, rfl⟩, ?_⟩
  rintro m xs h ⟨k, rfl, hle, hcut, rfl, rfl⟩
  repeat' ((conv => whnf); first
    | refine RegE.early (Cd.mk (show regOk _ _ _ _ = true by kernel_rfl) ?_)
    | refine Cd.mk rfl ?_
    | refine Br.t ?_
    | refine Br.f ?_
    | with_reducible refine Br.dec (fun _ => ?_) (fun _ => ?_)
    | refine NthE.mk _ (la_get _ _ _ (by first | with_reducible exact own_ix _ | with_reducible exact own_ixI _ | exact own_ix _ | exact own_ixI _ | rfl) (by first | omega | (simp only [List.length_set]; omega))) ?_
    | refine LoopEnd.go _ _ ⟨.inl rfl, rfl, rfl, by first | rfl | (repeat first | exact all_nil _ | refine all_la _ _ _ _ _ ?_)⟩ ?_
    | ((with_reducible refine EqE.idW ?_); with_reducible refine EqE.mk _ (wrap_in (by omega) (by omega)) ?_)
    | refine Cd.mk (by first | omega | (dsimp only; omega) | (simp only [length_limbs, length_la, Nat.mul_one, List.length_set, List.length_take, List.length_drop, List.length_replicate, List.length_append, Int.toNat_natCast]; omega) | (rw [length_la, Nat.mul_one]) | (rw [length_limbs, Nat.mul_one]) | (refine ⟨⟨Int.le_refl _, ?_⟩, ?_⟩ <;> first | omega | (rw [Int.toNat_zero]; omega)) | (simp only [length_limbs, length_la, Nat.mul_one, List.length_set, List.length_take, List.length_drop, List.length_replicate]; exact Nat.le_refl _)) ?_)
  · rename_i h0 h1
    have e : ((m : Int) - 1).toNat = m - 1 := by omega
    have e0 : ((m : Int) - 1 - 0).toNat = m - 1 := by omega
    rw [e] at h1
    refine ⟨_, ⟨m - 1, rfl, by omega, ?_, ?_, rfl⟩, by omega⟩
    · rw [← hcut, show m = m - 1 + 1 by omega, nv_take_succ', show m - 1 + 1 - 1 = m - 1 by omega, show (L.getD (m - 1) 0).toNat = 0 by omega]; simp
    · show [A.own 1000000 0 ((m : Int) - 1 - 0).toNat 1] = _
      rw [e0]
  · rename_i h0 h1
    have e : ((m : Int) - 1).toNat = m - 1 := by omega
    rw [e] at h1
    have hl : (L.take m).length = m := by rw [List.length_take]; omega
    have := ofN_of (l := L.take m) (.inr (by rw [hl, List.getD_eq_getElem?_getD, List.getElem?_take, if_pos (by omega), ← List.getD_eq_getElem?_getD]; omega))
    refine RetA.own 2 rfl ?_ rfl
    show A.own 1000000 0 m 1 = _
    rw [← hcut, this, hl]
  · rename_i h0
    obtain rfl : m = 0 := by omega
    refine RetA.own 2 rfl ?_ rfl
    show A.own 1000000 0 0 1 = _
    rw [← hcut, List.take_zero, nv_nil, ofN_zero]; rfl
set_option maxHeartbeats 2000000 in
/-- As nat.Up's, the memory told: a block of the limbs of a, so many more, and one. -/
theorem upA_sim (a : List UInt32) (n : Int) (ha : a.length < 2^30) (hn : n ≤ 2^30) (h0 : nv a ≠ 0) :
    SimA Tryz.prog G0 216 [.d (sl a), .d (.int .i64 n)] [] (.own 25 0 (ofN (nv a * 2 ^ n.toNat)).length 1) [(25, false, la (padN (nv a * 2 ^ n.toNat) ((ofN (nv a)).length + n.toNat / 32 + 1)))] := by
  have h1 := ofN_len_nv a
  have h0' : (ofN (nv a)).length ≠ 0 := fun h => h0 (ofN_len_zero.1 h)
  refine simA_mk tab_ok Tryz.func216 rfl (by kernel_rfl) ⟨Nat.le_of_ble_eq_true rfl, Nat.le_of_ble_eq_true rfl⟩ rfl (by intro x hx; simp only [List.mem_cons, List.not_mem_nil, or_false] at hx <;> first | (subst hx; first | rfl | exact refs_la _ _) | (rcases hx with rfl | rfl <;> first | rfl | exact refs_la _ _)) rfl (by intro x hx; simp only [List.mem_cons, List.not_mem_nil, or_false] at hx <;> first | (subst hx; first | rfl | exact refs_la _ _) | (rcases hx with rfl | rfl <;> first | rfl | exact refs_la _ _)) ?_
  repeat' ((conv => whnf); first
    | with_reducible refine CallX.data ?_
    | with_reducible refine Br.dec (fun h => absurd h (by omega)) (fun _ => ?_)
    | refine CallE.mk _ _ (cut_sim _ (by omega)) ?_
    | refine RegE.early (Cd.mk (show regOk _ _ _ _ = true by kernel_rfl) ?_)
    | refine Cd.mk rfl ?_
    | ((with_reducible refine EqE.idW ?_); first | refine EqE.mk _ (n_quo _ 32 (by omega)) ?_ | with_reducible refine EqE.mk _ (n_i64 _ (by omega)) ?_ | with_reducible refine EqE.mk _ (n_succ _ (by omega)) ?_)
    | ((with_reducible refine EqE.idM ?_); refine EqE.mk _ (n_rem _ 32) ?_)
    | ((with_reducible refine EqE.idI ?_); refine EqE.mk _ (max0 _) ?_)
    | ((with_reducible refine EqE.idR ?_); refine EqE.mk _ (la_rep _) ?_)
    | refine Cd.mk (by first | omega | (dsimp only; omega) | (simp only [length_limbs, length_la, Nat.mul_one, List.length_set, List.length_take, List.length_drop, List.length_replicate, List.length_append, Int.toNat_natCast]; omega) | (rw [length_la, Nat.mul_one]) | (rw [length_limbs, Nat.mul_one]) | (refine ⟨⟨Int.le_refl _, ?_⟩, ?_⟩ <;> first | omega | (rw [Int.toNat_zero]; omega)) | (simp only [length_limbs, length_la, Nat.mul_one, List.length_set, List.length_take, List.length_drop, List.length_replicate]; exact Nat.le_refl _)) ?_)
  generalize hA : ofN (nv a) = A at *
  have hvA : nv A = nv a := by rw [← hA, nv_ofN]
  have hs : n.toNat % 32 < 32 := Nat.mod_lt _ (by decide)
  have hN : n.toNat = 32 * (n.toNat / 32) + n.toNat % 32 := (Nat.div_add_mod _ _).symm
  have hN2 : n.toNat ≤ 2^30 := by omega
  generalize hqe : n.toNat / 32 = q at *
  generalize hse : n.toNat % 32 = s at *
  skip
  refine ⟨[], [0,5,6,7,29,30], [25], fun m xs h => ∃ (n i : Nat) (l : List UInt32), m = A.length + 1 - i ∧ n = A.length + q + 1 ∧ i ≤ A.length + 1 ∧ l.length = n ∧ nv l + Pw (q + i) * (at_ A (i - 1) * 2 ^ s / 4294967296) = Pw q * (nv (A.take i) * 2 ^ s) ∧ (∀ j, q + i ≤ j → (l.getD j 0).toNat = 0) ∧
    xs = [.d (sl A), .d (.int .i64 q), .d (.int .i64 s), .own 25 0 n 1, .d (.int .i64 ((n - q : Int).toNat : Nat)), .d (.int .i64 i)] ∧ h = [(25, false, la l)],
    ⟨_, _, _, ⟨.inl rfl, rfl, rfl, by first | rfl | (repeat first | exact all_nil _ | refine all_la _ _ _ _ _ ?_)⟩, _, 0, _, rfl, ?_, by omega, by simp, ?_, fun j _ => getD_rep _ _, rfl, rfl⟩, ?_⟩
  · omega
  · rw [show at_ A ((0 : Nat) - 1 : Int) = 0 from rfl, nv_replicate]; simp
  rintro m xs h ⟨n', i, l, rfl, hn', hi, hl, hv, hz, rfl, rfl⟩
  have hx1 := at_lt A i
  have hx2 := at_lt A (i - 1)
  have hy1 := shl_lt hx1 hs
  have hy2 := shl_lt hx2 hs
  repeat' ((conv => whnf); first
    | refine CallX.own (CallA.mk (cutA_sim l n' (by omega) (by omega)) [(1000000, 25)] [] (.own 25 0 (ofN (nv (l.take n'))).length 1) [(25, false, la l)] [] (by first | exact ArgsA.nil | exact (ArgsA.own (by first | rfl | exact own_cong (by first | omega | (dsimp only; omega)) (by first | omega | (dsimp only; omega))) ArgsA.nil) | exact (ArgsA.own (by first | rfl | exact own_cong (by first | omega | (dsimp only; omega)) (by first | omega | (dsimp only; omega))) (ArgsA.own (by first | rfl | exact own_cong (by first | omega | (dsimp only; omega)) (by first | omega | (dsimp only; omega))) ArgsA.nil)) | exact (ArgsA.own (by first | rfl | exact own_cong (by first | omega | (dsimp only; omega)) (by first | omega | (dsimp only; omega))) (ArgsA.own (by first | rfl | exact own_cong (by first | omega | (dsimp only; omega)) (by first | omega | (dsimp only; omega))) (ArgsA.own (by first | rfl | exact own_cong (by first | omega | (dsimp only; omega)) (by first | omega | (dsimp only; omega))) ArgsA.nil))) | exact (ArgsA.own (by first | rfl | exact own_cong (by first | omega | (dsimp only; omega)) (by first | omega | (dsimp only; omega))) (ArgsA.own (by first | rfl | exact own_cong (by first | omega | (dsimp only; omega)) (by first | omega | (dsimp only; omega))) (ArgsA.own (by first | rfl | exact own_cong (by first | omega | (dsimp only; omega)) (by first | omega | (dsimp only; omega))) (ArgsA.own (by first | rfl | exact own_cong (by first | omega | (dsimp only; omega)) (by first | omega | (dsimp only; omega))) ArgsA.nil))))) (by first | exact trivial | exact ⟨⟨rfl, rfl⟩, trivial⟩ | (simp only [InOk, rens_la]; repeat' (first | exact trivial | exact rfl | refine And.intro ?_ ?_))) rfl rfl (by first | rfl | (simp only [renH, List.map_cons, List.map_nil, rens_la]; rfl)) ?_)
    | refine CallE.mk _ _ (at_sim _ _) ?_
    | refine RegE.early (Cd.mk (show regOk _ _ _ _ = true by kernel_rfl) ?_)
    | refine Cd.mk rfl ?_
    | with_reducible refine Br.dec (fun _ => ?_) (fun _ => ?_)
    | refine LoopEnd.go _ _ ⟨.inl rfl, rfl, rfl, by first | rfl | (repeat first | exact all_nil _ | refine all_la _ _ _ _ _ ?_)⟩ ?_
    | ((with_reducible refine EqE.idW ?_); first | with_reducible refine EqE.mk _ (n_shl _ _ (by omega) (by omega)) ?_ | with_reducible refine EqE.mk _ (n_or _ _ (by omega) (by omega)) ?_ | with_reducible refine EqE.mk _ (n_u32 _) ?_ | with_reducible refine EqE.mk _ (n_i64 _ (by omega)) ?_ | with_reducible refine EqE.mk _ (n_succ _ (by omega)) ?_ | with_reducible refine EqE.mk _ (wrap_in (by omega) (by omega)) ?_)
    | ((with_reducible refine EqE.idF ?_); refine EqE.mk _ (n_shr _ 4294967296 _ _ rfl) ?_)
    | ((with_reducible refine EqE.idS ?_); refine EqE.mk _ (la_setN _ _ _ _ (by first | with_reducible exact own_ix _ | with_reducible exact own_ixI _ | exact own_ix _ | exact own_ixI _ | rfl) (by first | omega | (simp only [List.length_set]; omega)) (by omega)) ?_)
    | refine Cd.mk (by first | omega | (dsimp only; omega) | (simp only [length_limbs, length_la, Nat.mul_one, List.length_set, List.length_take, List.length_drop, List.length_replicate, List.length_append, Int.toNat_natCast]; omega) | (rw [length_la, Nat.mul_one]) | (rw [length_limbs, Nat.mul_one]) | (refine ⟨⟨Int.le_refl _, ?_⟩, ?_⟩ <;> first | omega | (rw [Int.toNat_zero]; omega)) | (simp only [length_limbs, length_la, Nat.mul_one, List.length_set, List.length_take, List.length_drop, List.length_replicate]; exact Nat.le_refl _)) ?_)
  · rename_i h0
    refine ⟨_, ⟨n', i + 1, _, rfl, hn', by omega, ?_, ?_, ?_, rfl, rfl⟩, by omega⟩
    · simp [hl]
    · have hc := shl_carry hx2 hs
      have hd := shl_div (x := at_ A i) hs hc
      rw [or_add hc, nv_set0 (by omega) (hz _ (by omega)) (by omega), nv_take_succ', ← at_nat, show q + (i + 1) = q + i + 1 from rfl, Pw_succ, show ((i + 1 : Nat) : Int) - 1 = i by omega, ← hd]
      have h5 := limb_step (Pw (q + i)) (at_ A i * 2 ^ s + at_ A (i - 1) * 2 ^ s / 4294967296)
      have h6 : Pw q * ((nv (A.take i) + Pw i * at_ A i) * 2 ^ s) = Pw q * (nv (A.take i) * 2 ^ s) + Pw (q + i) * (at_ A i * 2 ^ s) := by
        rw [Pw_add]; grind
      rw [h6]
      rw [Nat.mul_add] at h5
      omega
    · intro j hj
      rw [getD_set_ne (by omega)]; exact hz j (by omega)
  · rename_i h2
    have e : i = A.length + 1 := by omega
    have e0 : at_ A (i - 1) = 0 := by rw [show (i : Int) - 1 = ((A.length : Nat) : Int) by omega, at_nat, getD_big (by omega)]
    rw [e0, List.take_of_length_le (by omega), hvA] at hv
    have hnl : nv l = nv a * 2 ^ n.toNat := by
      rw [hN, ← Pw_shift, show nv l = Pw q * (nv a * 2 ^ s) by simpa using hv]; grind
    refine RetA.own 4 rfl ?_ ?_
    · show Ev.A.own 25 0 _ 1 = Ev.A.own 25 0 _ 1
      rw [List.take_of_length_le (by omega), hnl]
    · show [(25, false, la l)] = _
      rw [← padN_of (l := l) (by omega) hnl]
theorem shlA_sim (a : List UInt32) (n : Nat) (ha : a.length < 2^30) (hn : n ≤ 31) (h0 : nv a ≠ 0) :
    SimA Tryz.prog G0 235 [.d (sl a), .d (.int .i64 n)] [] (.own 8 0 (ofN (nv a * 2 ^ n)).length 1) [(8, false, la (ofN (nv a * 2 ^ n)))] := by
  have h := (upA_sim a n ha (by omega) h0).shrink ((ofN (nv a * 2 ^ n)).length)
  rw [Int.toNat_natCast] at h
  rw [show (la (padN (nv a * 2 ^ n) ((ofN (nv a)).length + n / 32 + 1))).take (ofN (nv a * 2 ^ n)).length = la (ofN (nv a * 2 ^ n)) by
    unfold la limbs; rw [← List.map_take, ← List.map_take, padN_take]] at h
  generalize ofN (nv a * 2 ^ n) = A at *
  refine simA_mk tab_ok Tryz.func235 rfl (by kernel_rfl) ⟨Nat.le_of_ble_eq_true rfl, Nat.le_of_ble_eq_true rfl⟩ rfl (by intro x hx; simp only [List.mem_cons, List.not_mem_nil, or_false] at hx <;> first | (subst hx; first | rfl | exact refs_la _ _) | (rcases hx with rfl | rfl <;> first | rfl | exact refs_la _ _)) rfl (by intro x hx; simp only [List.mem_cons, List.not_mem_nil, or_false] at hx <;> first | (subst hx; first | rfl | exact refs_la _ _) | (rcases hx with rfl | rfl <;> first | rfl | exact refs_la _ _)) ?_
  have hh := held_sim n
  rw [show min (max (n : Int) 0) 100000 = n by omega] at hh
  repeat' ((conv => whnf); first
    | refine CallX.own (CallA.mk (h) [] [(25, 8)] (.own 8 0 A.length 1) [(8, false, la A)] [] (by first | exact ArgsA.nil | exact (ArgsA.own (by first | rfl | exact own_cong (by first | omega | (dsimp only; omega)) (by first | omega | (dsimp only; omega))) ArgsA.nil) | exact (ArgsA.own (by first | rfl | exact own_cong (by first | omega | (dsimp only; omega)) (by first | omega | (dsimp only; omega))) (ArgsA.own (by first | rfl | exact own_cong (by first | omega | (dsimp only; omega)) (by first | omega | (dsimp only; omega))) ArgsA.nil)) | exact (ArgsA.own (by first | rfl | exact own_cong (by first | omega | (dsimp only; omega)) (by first | omega | (dsimp only; omega))) (ArgsA.own (by first | rfl | exact own_cong (by first | omega | (dsimp only; omega)) (by first | omega | (dsimp only; omega))) (ArgsA.own (by first | rfl | exact own_cong (by first | omega | (dsimp only; omega)) (by first | omega | (dsimp only; omega))) ArgsA.nil))) | exact (ArgsA.own (by first | rfl | exact own_cong (by first | omega | (dsimp only; omega)) (by first | omega | (dsimp only; omega))) (ArgsA.own (by first | rfl | exact own_cong (by first | omega | (dsimp only; omega)) (by first | omega | (dsimp only; omega))) (ArgsA.own (by first | rfl | exact own_cong (by first | omega | (dsimp only; omega)) (by first | omega | (dsimp only; omega))) (ArgsA.own (by first | rfl | exact own_cong (by first | omega | (dsimp only; omega)) (by first | omega | (dsimp only; omega))) ArgsA.nil))))) (by first | exact trivial | exact ⟨⟨rfl, rfl⟩, trivial⟩ | (simp only [InOk, rens_la]; repeat' (first | exact trivial | exact rfl | refine And.intro ?_ ?_))) rfl rfl (by first | rfl | (simp only [renH, List.map_cons, List.map_nil, rens_la]; rfl)) ?_)
    | refine CallE.mk _ _ (hh) ?_
    | refine CallX.data ?_
    | refine RegE.early (Cd.mk (show regOk _ _ _ _ = true by kernel_rfl) ?_))
  exact RetA.own 4 rfl rfl rfl
end Go.Ev.Ar

namespace Go.Ev.Ar
open Go Go.Ev Go.Proofs

/-- The last parts of nat.step's text. -/
noncomputable def stepAll : Code := match Tryz.f236.body with | some c => c | none => .skip
noncomputable def stepIn : Code := Ev.Code.inner (Ev.Code.snd stepAll)
noncomputable def stepRest : Code := Ev.Code.snd (Ev.Code.snd (Ev.Code.snd (Ev.Code.snd (Ev.Code.snd stepIn))))
noncomputable def stepTail : Code := Ev.Code.snd stepRest
theorem la_room (A W : List UInt32) (i : Int) (j : Nat) (e : i = j) (h : j < W.length) : A.length + i.toNat * 1 + 1 ≤ (la (A ++ W)).length := by
  subst e; rw [length_la, List.length_append, Int.toNat_natCast]; omega
theorem getD_of_drop {a b : List UInt32} {i : Nat} (h : a.drop i = b.drop i) : a.getD i 0 = b.getD i 0 := by
  have := congrArg (fun l => l.getD 0 0) h
  simpa [List.getD_eq_getElem?_getD] using this
theorem drop_set_succ (a : List UInt32) (i : Nat) (v : UInt32) : (a.set i v).drop (i + 1) = a.drop (i + 1) := by
  rw [List.drop_set_of_lt (by omega)]
theorem take_set_self (a : List UInt32) (i : Nat) (v : UInt32) : (a.set i v).take i = a.take i := by
  rw [List.take_set_of_le (by omega)]
theorem nv_take_set (a : List UInt32) (i v : Nat) (hi : i < a.length) (hv : v < 4294967296) : nv ((a.set i (UInt32.ofNat v)).take (i + 1)) = nv (a.take i) + Pw i * v := by
  rw [nv_take_succ', take_set_self, getD_set_self hi, toNat_ofNat hv]
theorem row_split (a b : List UInt32) (n N : Nat) (hl : n ≤ a.length) (hd : a.drop n = b.drop n) (hn : nv (a.take n) = N) : a = padN N n ++ b.drop n := by
  rw [← hd, ← padN_of (l := a.take n) (by rw [List.length_take]; omega) hn, List.take_append_drop]
/-- What is left of a row, and the rest of its memory. -/
def stepW (W v : List UInt32) : List UInt32 := padN (nv (W.take (v.length + 1)) % nv v) (v.length + 1) ++ W.drop (v.length + 1)
/-- What is promised of nat.step. -/
abbrev stepQ (A W v : List UInt32) : Exit → St → Prop := retA tab Tryz.f236.results.toList (.d (.int .u32 (nv (W.take (v.length + 1)) / nv v : Nat))) [(1000000, false, la (A ++ stepW W v))]

set_option maxHeartbeats 4000000 in
/-- The multiple is taken away; where it was one too many, one is given back. -/
theorem step_tail (A W v : List UInt32) (g : Nat) (hA : A.length + W.length < 2^32) (hn : 2 ≤ v.length) (hW : v.length + 1 ≤ W.length) (hV : 0 < nv v) (hg : g < 4294967296)
    (hq : nv (W.take (v.length + 1)) / nv v = g ∨ nv (W.take (v.length + 1)) / nv v + 1 = g) :
    Wp' Tryz.prog G0 stepTail (stepQ A W v) ⟨164, [0, 1, 5, 8].zip [.own 1000000 A.length (v.length + 1) 1, .d (sl v), .d (.int .i64 v.length), .d (.int .u64 g)], [(1000000, false, la (A ++ W))]⟩ := by
  generalize hnl : v.length = n at *
  generalize hU : nv (W.take (n + 1)) = U at *
  generalize hVe : nv v = V at *
  refine awp_sound tab_ok _ _ _ ?_
  repeat' ((conv => whnf); first
    | refine RegE.early (Cd.mk (show regOk _ _ _ _ = true by kernel_rfl) ?_))
  refine ⟨[], [0, 1, 5, 8, 10, 11, 74, 75], [1000000], fun m xs h => ∃ (i c b : Nat) (W1 : List UInt32), m = n - i ∧ i ≤ n ∧ c < 4294967296 ∧ b ≤ 1 ∧ W1.length = W.length ∧ W1.drop i = W.drop i ∧ nv (W1.take i) + g * nv (v.take i) = nv (W.take i) + Pw i * (c + b) ∧
    xs = [.own 1000000 A.length (n + 1) 1, .d (sl v), .d (.int .i64 n), .d (.int .u64 g), .d (.int .u64 b), .d (.int .u64 c), .d (.int .i64 n), .d (.int .i64 i)] ∧ h = [(1000000, false, la (A ++ W1))],
    ⟨_, _, _, ⟨.inl rfl, rfl, rfl, by first | rfl | (repeat first | exact all_nil _ | refine all_la _ _ _ _ _ ?_)⟩, 0, 0, 0, W, rfl, by omega, by decide, by decide, rfl, rfl, by simp, rfl, rfl⟩, ?_⟩
  rintro m xs h ⟨i, c, b, W1, rfl, hi, hc, hb, hl1, hd1, hs1, rfl, rfl⟩
  by_cases hlt : i < n
  · have hvi := u32_lt (v.getD i 0)
    have hui := u32_lt (W1.getD i 0)
    have hgv : g * (v.getD i 0).toNat ≤ 18446744065119617025 := Nat.mul_le_mul (show g ≤ 4294967295 by omega) (show (v.getD i 0).toNat ≤ 4294967295 by omega)
    have hgv2 := mul_lt64 hg hvi
    repeat' ((conv => whnf); first
      | with_reducible refine Br.dec (fun _ => ?_) (fun h => absurd (by omega) h)
      | refine NthE.mk _ (limbs_at v _ i rfl (by omega)) ?_
      | refine NthE.mk _ (la_getA A W1 _ i rfl (by omega)) ?_
      | refine RegE.early (Cd.mk (show regOk _ _ _ _ = true by kernel_rfl) ?_)
      | refine Cd.mk rfl ?_
      | refine LoopEnd.go _ _ ⟨.inl rfl, rfl, rfl, by first | rfl | (repeat first | exact all_nil _ | refine all_la _ _ _ _ _ ?_)⟩ ?_
      | ((with_reducible refine EqE.idW ?_); first | refine EqE.mk _ (n_mul _ _ hgv2) ?_ | with_reducible refine EqE.mk _ (wrap_u64_u32 _) ?_ | with_reducible refine EqE.mk _ (n_add _ _ (by omega)) ?_ | with_reducible refine EqE.mk _ (n_sub _ _ (by omega) (by omega)) ?_ | with_reducible refine EqE.mk _ (n_and1 _ (by omega)) ?_ | with_reducible refine EqE.mk _ (n_andm _ (by omega)) ?_ | with_reducible refine EqE.mk _ (n_u32 _) ?_ | with_reducible refine EqE.mk _ (n_succ _ (by omega)) ?_)
      | ((with_reducible refine EqE.idF ?_); refine EqE.mk _ (n_shr _ 4294967296 _ _ rfl) ?_)
      | ((with_reducible refine EqE.idS ?_); refine EqE.mk _ (la_setA A W1 _ i _ rfl (by omega) (by omega)) ?_)
      | refine Cd.mk (by first | omega | (dsimp only; omega) | (simp only [length_limbs, length_la, Nat.mul_one, List.length_set, List.length_take, List.length_drop, List.length_replicate, List.length_append, Int.toNat_natCast]; omega) | (rw [length_la, Nat.mul_one]) | (rw [length_limbs, Nat.mul_one]) | (refine ⟨⟨Int.le_refl _, ?_⟩, ?_⟩ <;> first | omega | (rw [Int.toNat_zero]; omega)) | (simp only [length_limbs, length_la, Nat.mul_one, List.length_set, List.length_take, List.length_drop, List.length_replicate]; exact Nat.le_refl _)) ?_)
    obtain ⟨x, hx⟩ : ∃ x, x = (((W1.getD i 0).toNat + 18446744073709551616 - (c + g * (v.getD i 0).toNat) % 4294967296) % 18446744073709551616 + 18446744073709551616 - b) % 18446744073709551616 := ⟨_, rfl⟩
    obtain ⟨r1, r2, r3, r4⟩ := sub_round (p := Pw i) hui hvi hg hc hb hx
    rw [← hx]
    refine ⟨_, ⟨i + 1, _, _, W1.set i (UInt32.ofNat (x % 4294967296)), rfl, by omega, r2, r3, by rw [List.length_set, hl1], ?_, ?_, rfl, rfl⟩, by omega⟩
    · rw [drop_set_succ, ← List.drop_drop, ← List.drop_drop, hd1]
    · have e1 : (W.getD i 0).toNat = (W1.getD i 0).toNat := by rw [getD_of_drop hd1]
      rw [nv_take_set _ _ _ (by omega) (by omega), nv_take_succ', nv_take_succ', e1, Pw_succ, Nat.mul_add g]
      omega
  obtain rfl : i = n := by omega
  clear hi hlt
  rw [List.take_of_length_le (show v.length ≤ i by omega), hVe] at hs1
  have hui := u32_lt (W1.getD i 0)
  have e1 : (W.getD i 0).toNat = (W1.getD i 0).toNat := by rw [getD_of_drop hd1]
  have hU1 : nv (W1.take i) + g * V + Pw i * (W1.getD i 0).toNat = U + Pw i * (c + b) := by
    rw [← hU, nv_take_succ', e1]; omega
  obtain ⟨x, hx⟩ : ∃ x, x = (((W1.getD i 0).toNat + 18446744073709551616 - c) % 18446744073709551616 + 18446744073709551616 - b) % 18446744073709551616 := ⟨_, rfl⟩
  have hVn : V < Pw i := by rw [← hVe, ← hnl]; exact nv_lt v
  have hdm := Nat.div_add_mod U V
  have hml := Nat.mod_lt U hV
  have hWl : nv (W1.take i) < Pw i := nv_take_lt W1 i
  have hqg : g * V = V * (U / V) ∨ g * V = V * (U / V) + V := by
    rcases hq with h | h <;> rw [← h]
    · exact .inl (Nat.mul_comm _ _)
    · right; rw [Nat.mul_comm, Nat.mul_add, Nat.mul_one]
  have hx2 : (c + b ≤ (W1.getD i 0).toNat ∧ x = (W1.getD i 0).toNat - (c + b)) ∨ ((W1.getD i 0).toNat < c + b ∧ x % 4294967296 + (c + b) = (W1.getD i 0).toNat + 4294967296 ∧ x / 4294967296 % 2 = 1) := by omega
  repeat' ((conv => whnf); first
    | with_reducible refine Br.dec (fun h => absurd h (by omega)) (fun _ => ?_)
    | refine NthE.mk _ (la_getA A W1 _ i rfl (by omega)) ?_
    | refine RegE.early (Cd.mk (show regOk _ _ _ _ = true by kernel_rfl) ?_)
    | refine Cd.mk rfl ?_
    | with_reducible refine Br.dec (fun _ => ?_) (fun _ => ?_)
    | ((with_reducible refine EqE.idW ?_); first | with_reducible refine EqE.mk _ (wrap_u64_u32 _) ?_ | with_reducible refine EqE.mk _ (n_sub _ _ (by omega) (by omega)) ?_ | with_reducible refine EqE.mk _ (n_and1 _ (by omega)) ?_ | with_reducible refine EqE.mk _ (n_u32 _) ?_)
    | ((with_reducible refine EqE.idF ?_); refine EqE.mk _ (n_shr _ 4294967296 _ _ rfl) ?_)
    | ((with_reducible refine EqE.idS ?_); refine EqE.mk _ (la_setA A W1 _ i _ rfl (by omega) (by omega)) ?_)
    | refine Cd.mk (by first | omega | (dsimp only; omega) | (simp only [length_limbs, length_la, Nat.mul_one, List.length_set, List.length_take, List.length_drop, List.length_replicate, List.length_append, Int.toNat_natCast]; omega) | (rw [length_la, Nat.mul_one]) | (rw [length_limbs, Nat.mul_one]) | (refine ⟨⟨Int.le_refl _, ?_⟩, ?_⟩ <;> first | omega | (rw [Int.toNat_zero]; omega)) | (simp only [length_limbs, length_la, Nat.mul_one, List.length_set, List.length_take, List.length_drop, List.length_replicate]; exact Nat.le_refl _)) ?_)
  · rename_i h0
    rw [← hx] at h0
    have hc1 : c + b ≤ (W1.getD i 0).toNat ∧ x = (W1.getD i 0).toNat - (c + b) := by
      rcases hx2 with h | h
      · exact h
      · omega
    have hr : nv (W1.take i) + Pw i * x + g * V = U := by
      have : Pw i * x + Pw i * (c + b) = Pw i * (W1.getD i 0).toNat := by rw [← Nat.mul_add]; congr 1; omega
      omega
    have hgq : U / V = g := by
      rcases hq with h | h
      · exact h
      · have : g * V = V * (U / V) + V := by rw [← h, Nat.mul_comm, Nat.mul_add, Nat.mul_one]
        omega
    have hgV : g * V = V * (U / V) := by rw [← hgq, Nat.mul_comm]
    refine RetA.data _ ?_ rfl
    refine ⟨?_, ?_⟩
    · show D.int .u32 _ = D.int .u32 _
      rw [hnl, hU, hVe, hgq, Nat.mod_eq_of_lt hg]
    · show [(1000000, false, la (A ++ W1.set i (UInt32.ofNat _)))] = _
      rw [← hx]
      have e2 : W1.set i (UInt32.ofNat (x % 4294967296)) = stepW W v := by
        unfold stepW
        rw [hnl, hU, hVe]
        refine row_split _ _ _ _ (by rw [List.length_set]; omega) ?_ ?_
        · rw [drop_set_succ, ← List.drop_drop, ← List.drop_drop, hd1]
        · rw [nv_take_set _ _ _ (by omega) (by omega), Nat.mod_eq_of_lt (by omega)]; omega
      rw [e2]
  · rename_i h0
    rw [← hx] at h0
    have hc1 : (W1.getD i 0).toNat < c + b ∧ x % 4294967296 + (c + b) = (W1.getD i 0).toNat + 4294967296 := by
      rcases hx2 with h | h
      · omega
      · exact ⟨h.1, h.2.1⟩
    rw [← hx]
    generalize hy : x % 4294967296 = y at *
    have hyl : y < 4294967296 := by omega
    have hP := Pw_succ i
    have hr : nv (W1.take i) + Pw i * y + g * V = U + Pw (i + 1) := by
      have : Pw i * y + Pw i * (c + b) = Pw i * (W1.getD i 0).toNat + Pw (i + 1) := by rw [hP, Nat.mul_comm 4294967296, ← Nat.mul_add, ← Nat.mul_add]; congr 1; omega
      omega
    have hUP : U < Pw (i + 1) := by rw [← hU]; exact nv_take_lt _ _
    have hyP : Pw i * y + Pw i ≤ Pw (i + 1) := by
      rw [hP, Nat.mul_comm 4294967296]
      have := Nat.mul_le_mul_left (Pw i) (show y + 1 ≤ 4294967296 by omega)
      rw [Nat.mul_add, Nat.mul_one] at this; exact this
    have hgq : U / V + 1 = g := by
      rcases hq with h | h
      · have : g * V = V * (U / V) := by rw [← h, Nat.mul_comm]
        omega
      · exact h
    have hgV : g * V = V * (U / V) + V := by rw [← hgq, Nat.mul_comm, Nat.mul_add, Nat.mul_one]
    have hW2n : nv ((W1.set i (UInt32.ofNat y)).take i) = nv (W1.take i) := by rw [take_set_self]
    have hW2d : (W1.set i (UInt32.ofNat y)).drop (i + 1) = W.drop (i + 1) := by rw [drop_set_succ, ← List.drop_drop, ← List.drop_drop, hd1]
    have hW2l : (W1.set i (UInt32.ofNat y)).length = W.length := by rw [List.length_set, hl1]
    have hW2y : ((W1.set i (UInt32.ofNat y)).getD i 0).toNat = y := by rw [getD_set_self (by omega), toNat_ofNat hyl]
    generalize W1.set i (UInt32.ofNat y) = W2 at *
    refine ⟨[], [0, 1, 5, 8, 11, 128, 129], [1000000], fun m xs h => ∃ (j c : Nat) (W3 : List UInt32), m = i - j ∧ j ≤ i ∧ c ≤ 1 ∧ W3.length = W.length ∧ W3.drop j = W2.drop j ∧ nv (W3.take j) + Pw j * c = nv (W2.take j) + nv (v.take j) ∧
      xs = [.own 1000000 A.length (i + 1) 1, .d (sl v), .d (.int .i64 i), .d (.int .u64 g), .d (.int .u64 c), .d (.int .i64 i), .d (.int .i64 j)] ∧ h = [(1000000, false, la (A ++ W3))],
      ⟨_, _, _, ⟨.inl rfl, rfl, rfl, by first | rfl | (repeat first | exact all_nil _ | refine all_la _ _ _ _ _ ?_)⟩, 0, 0, W2, rfl, by omega, by decide, hW2l, rfl, by simp, rfl, rfl⟩, ?_⟩
    rintro m xs h ⟨j, c', W3, rfl, hj, hc', hl3, hd3, hs3, rfl, rfl⟩
    by_cases hlt : j < i
    · have hvi := u32_lt (v.getD j 0)
      have hu3 := u32_lt (W3.getD j 0)
      have e3 : (W2.getD j 0).toNat = (W3.getD j 0).toNat := by rw [getD_of_drop hd3]
      repeat' ((conv => whnf); first
        | with_reducible refine Br.dec (fun _ => ?_) (fun h => absurd (by omega) h)
        | refine NthE.mk _ (limbs_at v _ j rfl (by omega)) ?_
        | refine NthE.mk _ (la_getA A W3 _ j rfl (by omega)) ?_
        | refine Cd.mk (la_room A W3 _ j rfl (by omega)) ?_
        | refine RegE.early (Cd.mk (show regOk _ _ _ _ = true by kernel_rfl) ?_)
        | refine Cd.mk rfl ?_
        | refine LoopEnd.go _ _ ⟨.inl rfl, rfl, rfl, by first | rfl | (repeat first | exact all_nil _ | refine all_la _ _ _ _ _ ?_)⟩ ?_
        | ((with_reducible refine EqE.idW ?_); first | with_reducible refine EqE.mk _ (wrap_u64_u32 _) ?_ | with_reducible refine EqE.mk _ (n_add _ _ (by omega)) ?_ | with_reducible refine EqE.mk _ (n_u32 _) ?_ | with_reducible refine EqE.mk _ (n_succ _ (by omega)) ?_)
        | ((with_reducible refine EqE.idF ?_); refine EqE.mk _ (n_shr _ 4294967296 _ _ rfl) ?_)
        | ((with_reducible refine EqE.idS ?_); refine EqE.mk _ (la_setA A W3 _ j _ rfl (by omega) (by omega)) ?_)
        | refine Cd.mk (by first | omega | (dsimp only; omega) | (simp only [length_limbs, length_la, Nat.mul_one, List.length_set, List.length_take, List.length_drop, List.length_replicate, List.length_append, Int.toNat_natCast]; omega) | (rw [length_la, Nat.mul_one]) | (rw [length_limbs, Nat.mul_one]) | (refine ⟨⟨Int.le_refl _, ?_⟩, ?_⟩ <;> first | omega | (rw [Int.toNat_zero]; omega)) | (simp only [length_limbs, length_la, Nat.mul_one, List.length_set, List.length_take, List.length_drop, List.length_replicate]; exact Nat.le_refl _)) ?_)
      generalize hz : (c' + ((W3.getD j 0).toNat + (v.getD j 0).toNat)) = z at *
      refine ⟨_, ⟨j + 1, z / 4294967296, W3.set j (UInt32.ofNat (z % 4294967296)), rfl, by omega, by omega, by rw [List.length_set, hl3], ?_, ?_, rfl, rfl⟩, by omega⟩
      · rw [drop_set_succ, ← List.drop_drop, ← List.drop_drop, hd3]
      · have h5 := limb_step (Pw j) z
        rw [nv_take_set _ _ _ (by omega) (by omega), nv_take_succ', nv_take_succ', e3, Pw_succ]
        rw [← hz, Nat.mul_add, Nat.mul_add] at h5
        rw [← hz]
        omega
    · obtain rfl : j = i := by omega
      have hu3 := u32_lt (W3.getD j 0)
      have e3 : (W2.getD j 0).toNat = (W3.getD j 0).toNat := by rw [getD_of_drop hd3]
      rw [hW2y] at e3
      rw [List.take_of_length_le (show v.length ≤ j by omega), hVe, hW2n] at hs3
      repeat' ((conv => whnf); first
        | with_reducible refine Br.dec (fun h => absurd h (by omega)) (fun _ => ?_)
        | refine NthE.mk _ (la_getA A W3 _ j rfl (by omega)) ?_
        | refine Cd.mk (la_room A W3 _ j rfl (by omega)) ?_
        | refine RegE.early (Cd.mk (show regOk _ _ _ _ = true by kernel_rfl) ?_)
        | refine Cd.mk rfl ?_
        | ((with_reducible refine EqE.idW ?_); first | with_reducible refine EqE.mk _ (n_add32 _ _) ?_ | with_reducible refine EqE.mk _ (n_u32 _) ?_ | with_reducible refine EqE.mk _ (wrap_u32 _) ?_ | refine EqE.mk _ rfl ?_)
        | ((with_reducible refine EqE.idS ?_); refine EqE.mk _ (la_setA A W3 _ j _ rfl (by omega) (by omega)) ?_)
        | refine Cd.mk (by first | omega | (dsimp only; omega) | (simp only [length_limbs, length_la, Nat.mul_one, List.length_set, List.length_take, List.length_drop, List.length_replicate, List.length_append, Int.toNat_natCast]; omega) | (rw [length_la, Nat.mul_one]) | (rw [length_limbs, Nat.mul_one]) | (refine ⟨⟨Int.le_refl _, ?_⟩, ?_⟩ <;> first | omega | (rw [Int.toNat_zero]; omega)) | (simp only [length_limbs, length_la, Nat.mul_one, List.length_set, List.length_take, List.length_drop, List.length_replicate]; exact Nat.le_refl _)) ?_)
      have hS : nv (W3.take j) + Pw j * (y + c') + g * V = U + Pw (j + 1) + V := by rw [Nat.mul_add]; omega
      have hW3l := nv_take_lt W3 j
      have hyc : y + c' = 4294967296 := by
        apply Classical.byContradiction
        intro hne
        have h1 : Pw j * (y + c') + Pw j ≤ Pw (j + 1) := by
          rw [hP, Nat.mul_comm 4294967296]
          have := Nat.mul_le_mul_left (Pw j) (show y + c' + 1 ≤ 4294967296 by omega)
          rw [Nat.mul_add, Nat.mul_one] at this; exact this
        omega
      rw [hyc, Nat.mul_comm, ← hP] at hS
      have e : IntKind.u32.wrap (IntKind.u64.wrap ((g : Int) - 1)) = ((U / V : Nat) : Int) := by
        have hg1 : 1 ≤ g := by rw [← hgq]; exact Nat.le_add_left 1 _
        rw [n_sub1 g hg1 (by omega), n_u32, Nat.mod_eq_of_lt (by omega), ← hgq, Nat.add_sub_cancel]
      refine RetA.data _ ?_ rfl
      refine ⟨?_, ?_⟩
      · show D.int .u32 (IntKind.u32.wrap (IntKind.u64.wrap ((g : Int) - 1))) = D.int .u32 _
        rw [hnl, hU, hVe, e]
      · show [(1000000, false, la (A ++ W3.set j (UInt32.ofNat _)))] = _
        rw [← e3, Nat.mod_eq_of_lt (show c' < 4294967296 by omega), hyc]
        have e2 : W3.set j (UInt32.ofNat (4294967296 % 4294967296)) = stepW W v := by
          unfold stepW
          rw [hnl, hU, hVe]
          refine row_split _ _ _ _ (by rw [List.length_set]; omega) ?_ ?_
          · rw [drop_set_succ, ← List.drop_drop, hd3, List.drop_drop, hW2d]
          · rw [nv_take_set _ _ _ (by omega) (by omega)]; omega
        rw [e2]
theorem pos_of_mul {x y z : Nat} (h : z < x * y) : 1 ≤ x := by
  cases x with
  | zero => rw [Nat.zero_mul] at h; omega
  | succ x => omega
theorem guess_dec {g d r top : Nat} (h : g * d + r = top) (hg : 1 ≤ g) : (g - 1) * d + (r + d) = top := by
  cases g with
  | zero => omega
  | succ g => rw [Nat.add_mul, Nat.one_mul] at h; rw [Nat.add_sub_cancel]; omega
theorem guess_fall {g d r top v u : Nat} (h : g * d + r = top) (hr : 4294967296 ≤ r) (hg : g < 4294967296) (hv : v < 4294967296) : g * (v + 4294967296 * d) ≤ u + 4294967296 * top := by
  have h1 : g * v ≤ 4294967295 * 4294967295 := Nat.mul_le_mul (by omega) (by omega)
  rw [← h, Nat.mul_add, Nat.mul_left_comm]
  generalize g * v = a at *
  generalize g * d = b at *
  omega
theorem guess_ok {g d r top v u : Nat} (h : g * d + r = top) (hc : g * v ≤ r * 4294967296 + u) : g * (v + 4294967296 * d) ≤ u + 4294967296 * top := by
  rw [← h, Nat.mul_add, Nat.mul_left_comm]
  generalize g * v = a at *
  generalize g * d = b at *
  omega
theorem guess_no {g d r top v u : Nat} (h : g * d + r = top) (hc : r * 4294967296 + u < g * v) : u + 4294967296 * top < g * (v + 4294967296 * d) := by
  rw [← h, Nat.mul_add g, Nat.mul_left_comm g]
  generalize g * v = a at *
  generalize g * d = b at *
  omega
/-- What is guessed, held against the quotient. -/
structure Guess (U V P u0 v0 u2 v2 d top : Nat) : Prop where
  hU : U = u0 + P * (u2 + 4294967296 * top)
  hV : V = v0 + P * (v2 + 4294967296 * d)
  hu : u0 < P
  hv : v0 < P
  hV0 : 0 < V
  hv2 : v2 < 4294967296
  hu2 : u2 < 4294967296
  hd : 2147483648 ≤ d
  hlt : U < 4294967296 * V
theorem Guess.q_lt {U V P u0 v0 u2 v2 d top : Nat} (G : Guess U V P u0 v0 u2 v2 d top) : U / V < 4294967296 := Nat.div_lt_of_lt_mul (by rw [Nat.mul_comm]; exact G.hlt)
theorem Guess.top_le {U V P u0 v0 u2 v2 d top : Nat} (G : Guess U V P u0 v0 u2 v2 d top) : top ≤ v2 + 4294967296 * d := by
  have h1 := G.hlt
  rw [G.hU, G.hV] at h1
  have h2 : P * (u2 + 4294967296 * top) < P * (4294967296 * (v2 + 4294967296 * d + 1)) := by
    have e : P * (4294967296 * (v2 + 4294967296 * d + 1)) = 4294967296 * (P * (v2 + 4294967296 * d)) + 4294967296 * P := by
      rw [Nat.mul_add, Nat.mul_one, Nat.mul_add, Nat.mul_left_comm, Nat.mul_comm P 4294967296]
    rw [e]
    have := G.hv
    generalize P * (v2 + 4294967296 * d) = a at *
    generalize P * (u2 + 4294967296 * top) = b at *
    omega
  have := Nat.lt_of_mul_lt_mul_left h2
  omega
theorem Guess.first {U V P u0 v0 u2 v2 d top : Nat} (G : Guess U V P u0 v0 u2 v2 d top) : U / V ≤ top / d ∧ top / d ≤ 4294967297 := by
  have hd := G.hd
  refine ⟨(Nat.le_div_iff_mul_le (by omega)).2 ?_, ?_⟩
  · have h1 := guess_ge (q := U / V) G.hU G.hV G.hu (Nat.div_mul_le_self U V)
    rw [Nat.mul_add, Nat.mul_left_comm] at h1
    have := G.hu2
    generalize (U / V) * d = a at *
    generalize (U / V) * v2 = b at *
    omega
  · have h1 := G.top_le
    have h2 := G.hv2
    have h3 : top < d * 4294967298 := by omega
    have := Nat.div_lt_of_lt_mul h3
    omega
theorem Guess.small {U V P u0 v0 u2 v2 d top g r : Nat} (G : Guess U V P u0 v0 u2 v2 d top) (h : g * d + r = top) (hg : 4294967297 ≤ g) : r + d < 4294967296 := by
  have h1 := G.top_le
  have h2 := G.hv2
  have h3 := Nat.mul_le_mul_right d hg
  generalize g * d = a at *
  omega
theorem Guess.done {U V P u0 v0 u2 v2 d top g : Nat} (G : Guess U V P u0 v0 u2 v2 d top) (h : g * (v2 + 4294967296 * d) ≤ u2 + 4294967296 * top) (hg : g < 4294967296) (hq : U / V ≤ g) : U / V = g ∨ U / V + 1 = g := by
  have hd := G.hd
  have h1 := guess_near G.hU G.hV G.hv h (by omega)
  rcases quot_of G.hV0 hq h1 with h2 | h2
  · exact .inl h2
  · by_cases h0 : g = 0
    · left; rw [h0] at h2 ⊢; exact h2
    · right; omega
theorem Guess.more {U V P u0 v0 u2 v2 d top g : Nat} (G : Guess U V P u0 v0 u2 v2 d top) (h : u2 + 4294967296 * top < g * (v2 + 4294967296 * d)) : U / V < g := by
  have := guess_gt G.hU G.hV G.hu h
  exact (Nat.div_lt_iff_lt_mul G.hV0).2 this
/-- The head's state. -/
abbrev stepI (A W v : List UInt32) (d top q : Nat) : Nat → List Ev.A → Hp → Prop := fun m xs h => ∃ g r : Nat, m = g ∧ g * d + r = top ∧ r < 4294967296 ∧ q ≤ g ∧ g ≤ 4294967297 ∧
  xs = [.own 1000000 A.length (v.length + 1) 1, .d (sl v), .d (.int .i64 v.length), .d (.int .u64 d), .d (.int .u64 g), .d (.int .u64 r)] ∧ h = [(1000000, false, la (A ++ W))]
abbrev stepX (A W v : List UInt32) (d top q m : Nat) : Exit → St → Prop := fun e σ' => match e with
  | .goto l' => Cd (l' = 0) (LoopEnd (stepI A W v d top q) m [0, 1, 5, 7, 8, 9] [1000000] σ')
  | e => stepQ A W v e σ'
set_option maxHeartbeats 4000000 in
theorem step_rest (A W v : List UInt32) (d top u0 v0 : Nat) (hA : A.length + W.length < 2^32) (hn : 2 ≤ v.length) (hW : v.length + 1 ≤ W.length) (hd : (v.getD (v.length - 1) 0).toNat = d)
    (G : Guess (nv (W.take (v.length + 1))) (nv v) (Pw (v.length - 2)) u0 v0 (W.getD (v.length - 2) 0).toNat (v.getD (v.length - 2) 0).toNat d top) (g : Nat) (xs : List Ev.A) (h : Hp) (hI : stepI A W v d top (nv (W.take (v.length + 1)) / nv v) g xs h) :
    Wp' Tryz.prog G0 stepRest (stepX A W v d top (nv (W.take (v.length + 1)) / nv v) g) ⟨164, [0, 1, 5, 7, 8, 9].zip xs, h⟩ := by
  obtain ⟨_, r, rfl, hgr, hr, hqg, hg1, rfl, rfl⟩ := hI
  have T := fun g' hg' hq' => step_tail A W v g' hA hn hW G.hV0 hg' hq'
  generalize hU : nv (W.take (v.length + 1)) = U at *
  generalize hVe : nv v = V at *
  have hu2 := u32_lt (W.getD (v.length - 2) 0)
  have hv2 := u32_lt (v.getD (v.length - 2) 0)
  have hd1 := u32_lt (v.getD (v.length - 1) 0)
  have hd0 := G.hd
  rw [hd] at hd1
  have hdl := G.q_lt
  refine wps_seq tab_ok ?_
  generalize hnl : v.length = n at *
  repeat' ((conv => whnf); first
    | refine NthE.mk _ (limbs_at v _ (n - 2) (by omega) (by omega)) ?_
    | refine NthE.mk _ (la_getA A W _ (n - 2) (by omega) (by omega)) ?_
    | refine RegE.early (Cd.mk (show regOk _ _ _ _ = true by kernel_rfl) ?_)
    | refine Cd.mk rfl ?_
    | refine Br.t ?_
    | refine Br.f ?_
    | with_reducible refine Br.dec (fun _ => ?_) (fun _ => ?_)
    | with_reducible refine Br.ndec (fun _ => ?_) (fun _ => ?_)
    | refine LoopEnd.go _ _ ⟨.inl rfl, rfl, rfl, by first | rfl | (repeat first | exact all_nil _ | refine all_la _ _ _ _ _ ?_)⟩ ?_
    | ((with_reducible refine EqE.idW ?_); first | with_reducible refine EqE.mk _ (n_mul _ _ (mul_lt64 (by omega) hv2)) ?_ | with_reducible refine EqE.mk _ (n_orhi _ _ (by omega) (by omega)) ?_ | with_reducible refine EqE.mk _ (n_sub1 _ (by omega) (by omega)) ?_ | with_reducible refine EqE.mk _ (n_sub1 _ (pos_of_mul (y := (v.getD (n - 2) 0).toNat) (z := r * 4294967296 + (W.getD (n - 2) 0).toNat) (by omega)) (by omega)) ?_ | with_reducible refine EqE.mk _ (wrap_u64_u32 _) ?_ | with_reducible refine EqE.mk _ (n_add _ _ (by omega)) ?_ | with_reducible refine EqE.mk _ (n_shl32 _ (by omega)) ?_ | with_reducible refine EqE.mk _ (wrap_in (by omega) (by omega)) ?_)
    | ((with_reducible refine EqE.idF ?_); refine EqE.mk _ (n_shr _ 4294967296 _ _ rfl) ?_)
    | refine Cd.mk (by first | omega | (dsimp only; omega) | (simp only [length_limbs, length_la, Nat.mul_one, List.length_set, List.length_take, List.length_drop, List.length_replicate, List.length_append, Int.toNat_natCast]; omega) | (rw [length_la, Nat.mul_one]) | (rw [length_limbs, Nat.mul_one]) | (refine ⟨⟨Int.le_refl _, ?_⟩, ?_⟩ <;> first | omega | (rw [Int.toNat_zero]; omega)) | (simp only [length_limbs, length_la, Nat.mul_one, List.length_set, List.length_take, List.length_drop, List.length_replicate]; exact Nat.le_refl _)) ?_)
  · rename_i h1 h2
    subst hnl
    have hm : 4294967296 ≤ g := by omega
    have hmq : U / V ≤ g - 1 := Nat.le_sub_one_of_lt (Nat.lt_of_lt_of_le hdl hm)
    exact ⟨_, ⟨g - 1, r + d, rfl, guess_dec hgr (by omega), by omega, hmq, by omega, rfl, rfl⟩, by omega⟩
  · rename_i h1 h2
    subst hnl
    have hm : 4294967296 ≤ g := by omega
    have hmq : U / V ≤ g - 1 := Nat.le_sub_one_of_lt (Nat.lt_of_lt_of_le hdl hm)
    have hg' : g ≤ 4294967296 := by
      apply Classical.byContradiction
      intro hc
      have := G.small hgr (by omega)
      omega
    have hg2 : g - 1 < 4294967296 := by omega
    have hdn := G.done (guess_fall (u := (W.getD (v.length - 2) 0).toNat) (guess_dec hgr (by omega)) (show 4294967296 ≤ r + d by omega) hg2 hv2) hg2 hmq
    intro _
    refine wps_cut [0, 1, 5, 8] [1000000] _ _ ⟨.inl rfl, rfl, rfl, by first | rfl | (repeat first | exact all_nil _ | refine all_la _ _ _ _ _ ?_)⟩ (wps_mono ?_ (T (g - 1) hg2 hdn))
    intro e σ' he
    cases e with
    | goto l => exact he.elim
    | _ => exact he
  · rename_i h1 h2 h3
    subst hnl
    have hm := G.more (guess_no hgr (show r * 4294967296 + (W.getD (v.length - 2) 0).toNat < g * (v.getD (v.length - 2) 0).toNat by omega))
    have hm1 : 1 ≤ g := Nat.lt_of_le_of_lt (Nat.zero_le _) hm
    have hmq : U / V ≤ g - 1 := Nat.le_sub_one_of_lt hm
    exact ⟨_, ⟨g - 1, r + d, rfl, guess_dec hgr (by omega), by omega, hmq, by omega, rfl, rfl⟩, by omega⟩
  · rename_i h1 h2 h3
    subst hnl
    have hm := G.more (guess_no hgr (show r * 4294967296 + (W.getD (v.length - 2) 0).toNat < g * (v.getD (v.length - 2) 0).toNat by omega))
    have hm1 : 1 ≤ g := Nat.lt_of_le_of_lt (Nat.zero_le _) hm
    have hmq : U / V ≤ g - 1 := Nat.le_sub_one_of_lt hm
    have hg2 : g - 1 < 4294967296 := by omega
    have hdn := G.done (guess_fall (u := (W.getD (v.length - 2) 0).toNat) (guess_dec hgr (by omega)) (show 4294967296 ≤ r + d by omega) hg2 hv2) hg2 hmq
    intro _
    refine wps_cut [0, 1, 5, 8] [1000000] _ _ ⟨.inl rfl, rfl, rfl, by first | rfl | (repeat first | exact all_nil _ | refine all_la _ _ _ _ _ ?_)⟩ (wps_mono ?_ (T (g - 1) hg2 hdn))
    intro e σ' he
    cases e with
    | goto l => exact he.elim
    | _ => exact he
  · rename_i h1 h2
    subst hnl
    have hg2 : g < 4294967296 := by omega
    have hdn := G.done (guess_ok (u := (W.getD (v.length - 2) 0).toNat) hgr (show g * (v.getD (v.length - 2) 0).toNat ≤ r * 4294967296 + (W.getD (v.length - 2) 0).toNat by omega)) hg2 hqg
    intro _
    refine wps_cut [0, 1, 5, 8] [1000000] _ _ ⟨.inl rfl, rfl, rfl, by first | rfl | (repeat first | exact all_nil _ | refine all_la _ _ _ _ _ ?_)⟩ (wps_mono ?_ (T g hg2 hdn))
    intro e σ' he
    cases e with
    | goto l => exact he.elim
    | _ => exact he
set_option maxHeartbeats 4000000 in
theorem stepA_sim (A W v : List UInt32) (hA : A.length + W.length < 2^32) (hn : 2 ≤ v.length) (hW : v.length + 1 ≤ W.length) (htop : 2147483648 ≤ (v.getD (v.length - 1) 0).toNat) (hlt : nv (W.take (v.length + 1)) < 4294967296 * nv v) :
    SimA Tryz.prog G0 236 [.own 1000000 A.length (v.length + 1) 1, .d (sl v)] [(1000000, false, la (A ++ W))] (.d (.int .u32 (nv (W.take (v.length + 1)) / nv v : Nat))) [(1000000, false, la (A ++ stepW W v))] := by
  generalize hd : (v.getD (v.length - 1) 0).toNat = d at *
  have htk : ∀ j, j ≤ v.length → (W.take (v.length + 1)).getD j 0 = W.getD j 0 := by
    intro j hj
    rw [List.getD_eq_getElem?_getD, List.getElem?_take, if_pos (by omega), ← List.getD_eq_getElem?_getD]
  have hU3 := nv_top3 (W.take (v.length + 1)) v.length (by rw [List.length_take]; omega) hn
  have hV3 := nv_top2 v v.length rfl hn
  rw [htk _ (by omega), htk _ (by omega), htk _ (by omega), List.take_take, Nat.min_eq_left (by omega)] at hU3
  rw [hd] at hV3
  obtain ⟨top, htop2⟩ : ∃ t, t = (W.getD (v.length - 1) 0).toNat + 4294967296 * (W.getD v.length 0).toNat := ⟨_, rfl⟩
  rw [← htop2] at hU3
  have hun := u32_lt (W.getD v.length 0)
  have hu1 := u32_lt (W.getD (v.length - 1) 0)
  have hd1 := u32_lt (v.getD (v.length - 1) 0)
  rw [hd] at hd1
  have G : Guess (nv (W.take (v.length + 1))) (nv v) (Pw (v.length - 2)) (nv (W.take (v.length - 2))) (nv (v.take (v.length - 2))) (W.getD (v.length - 2) 0).toNat (v.getD (v.length - 2) 0).toNat d top :=
    ⟨hU3, hV3, nv_take_lt _ _, nv_take_lt _ _, by
      have := Nat.mul_pos (Pw_pos (v.length - 2)) (show 0 < (v.getD (v.length - 2) 0).toNat + 4294967296 * d by omega)
      omega, u32_lt _, u32_lt _, htop, hlt⟩
  have R := fun g xs h hI => step_rest A W v d top _ _ hA hn hW hd G g xs h hI
  obtain ⟨g1, g2⟩ := G.first
  have hdm := Nat.div_add_mod top d
  have hml := Nat.mod_lt top (show d > 0 by omega)
  refine simA_mk tab_ok Tryz.func236 rfl (by kernel_rfl) ⟨Nat.le_of_ble_eq_true rfl, Nat.le_of_ble_eq_true rfl⟩ rfl (by intro x hx; simp only [List.mem_cons, List.not_mem_nil, or_false] at hx <;> first | (subst hx; first | rfl | exact refs_la _ _) | (rcases hx with rfl | rfl <;> first | rfl | exact refs_la _ _)) rfl (by intro x hx; simp only [List.mem_cons, List.not_mem_nil, or_false] at hx <;> first | (subst hx; first | rfl | exact refs_la _ _) | (rcases hx with rfl | rfl <;> first | rfl | exact refs_la _ _)) ?_
  repeat' ((conv => whnf); first
    | refine RegE.early (Cd.mk (show regOk _ _ _ _ = true by kernel_rfl) ?_))
  refine wp_scopeW 0 rfl [0, 1, 5, 7, 8, 9] [1000000] (stepI A W v d top (nv (W.take (v.length + 1)) / nv v)) ?_ ?_
  · refine wps_seq tab_ok ?_
    repeat' ((conv => whnf); first
      | refine RegE.early (Cd.mk (show regOk _ _ _ _ = true by kernel_rfl) ?_))
    intro _
    refine wps_seq tab_ok ?_
    repeat' ((conv => whnf); first
      | refine NthE.mk _ (la_getA A W _ (v.length - 1) (by omega) (by omega)) ?_
      | refine NthE.mk _ (la_getA A W _ v.length rfl (by omega)) ?_
      | refine RegE.early (Cd.mk (show regOk _ _ _ _ = true by kernel_rfl) ?_)
      | refine Cd.mk rfl ?_
      | ((with_reducible refine EqE.idW ?_); first | with_reducible refine EqE.mk _ (n_orhi _ _ (by omega) (by omega)) ?_ | with_reducible refine EqE.mk _ (wrap_u64_u32 _) ?_ | with_reducible refine EqE.mk _ (n_shl32 _ (by omega)) ?_ | with_reducible refine EqE.mk _ (wrap_in (by omega) (by omega)) ?_)
      | refine Cd.mk (by first | omega | (dsimp only; omega) | (simp only [length_limbs, length_la, Nat.mul_one, List.length_set, List.length_take, List.length_drop, List.length_replicate, List.length_append, Int.toNat_natCast]; omega) | (rw [length_la, Nat.mul_one]) | (rw [length_limbs, Nat.mul_one]) | (refine ⟨⟨Int.le_refl _, ?_⟩, ?_⟩ <;> first | omega | (rw [Int.toNat_zero]; omega)) | (simp only [length_limbs, length_la, Nat.mul_one, List.length_set, List.length_take, List.length_drop, List.length_replicate]; exact Nat.le_refl _)) ?_)
    intro _
    refine wps_seq tab_ok ?_
    repeat' ((conv => whnf); first
      | refine NthE.mk _ (limbs_at v _ (v.length - 1) (by omega) (by omega)) ?_
      | refine RegE.early (Cd.mk (show regOk _ _ _ _ = true by kernel_rfl) ?_)
      | refine Cd.mk rfl ?_
      | ((with_reducible refine EqE.idW ?_); first | with_reducible refine EqE.mk _ (wrap_u64_u32 _) ?_ | with_reducible refine EqE.mk _ (wrap_in (by omega) (by omega)) ?_)
      | refine Cd.mk (by first | omega | (dsimp only; omega) | (simp only [length_limbs, length_la, Nat.mul_one, List.length_set, List.length_take, List.length_drop, List.length_replicate, List.length_append, Int.toNat_natCast]; omega) | (rw [length_la, Nat.mul_one]) | (rw [length_limbs, Nat.mul_one]) | (refine ⟨⟨Int.le_refl _, ?_⟩, ?_⟩ <;> first | omega | (rw [Int.toNat_zero]; omega)) | (simp only [length_limbs, length_la, Nat.mul_one, List.length_set, List.length_take, List.length_drop, List.length_replicate]; exact Nat.le_refl _)) ?_)
    intro _
    refine wps_seq tab_ok ?_
    rw [hd]
    rw [show (W.getD v.length 0).toNat * 4294967296 + (W.getD (v.length - 1) 0).toNat = top by omega]
    repeat' ((conv => whnf); first
      | refine RegE.early (Cd.mk (show regOk _ _ _ _ = true by kernel_rfl) ?_)
      | refine Cd.mk rfl ?_
      | ((with_reducible refine EqE.idW ?_); refine EqE.mk _ (n_quo64 _ _ (by omega)) ?_)
      | ((with_reducible refine EqE.idM ?_); refine EqE.mk _ (n_rem _ _) ?_)
      | refine Cd.mk (by first | omega | (dsimp only; omega) | (simp only [length_limbs, length_la, Nat.mul_one, List.length_set, List.length_take, List.length_drop, List.length_replicate, List.length_append, Int.toNat_natCast]; omega) | (rw [length_la, Nat.mul_one]) | (rw [length_limbs, Nat.mul_one]) | (refine ⟨⟨Int.le_refl _, ?_⟩, ?_⟩ <;> first | omega | (rw [Int.toNat_zero]; omega)) | (simp only [length_limbs, length_la, Nat.mul_one, List.length_set, List.length_take, List.length_drop, List.length_replicate]; exact Nat.le_refl _)) ?_)
    intro _
    refine wps_seq tab_ok ?_
    show _ → Wp' _ _ _ _ _
    intro _
    refine wps_cut [0, 1, 5, 7, 8, 9] [1000000] _ _ ⟨.inl rfl, rfl, rfl, by first | rfl | (repeat first | exact all_nil _ | refine all_la _ _ _ _ _ ?_)⟩ (wps_mono ?_ (R (top / d) _ _ ⟨top / d, top % d, rfl, by rw [Nat.mul_comm]; exact hdm, by omega, g1, g2, rfl, rfl⟩))
    intro e σ' he
    cases e with
    | goto l =>
      obtain ⟨h1, m', xs', h', hcut, _, hI⟩ := he
      exact ⟨h1, m', xs', h', hcut, hI⟩
    | _ => exact he
  · intro m xs h hI
    refine wps_seq tab_ok ?_
    show _ → Wp' _ _ _ _ _
    intro _
    exact wps_mono (fun e σ' he => by cases e <;> exact he) (R m xs h hI)
end Go.Ev.Ar
