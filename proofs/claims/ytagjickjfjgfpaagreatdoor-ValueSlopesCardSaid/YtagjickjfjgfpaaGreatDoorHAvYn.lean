/- Contracts of the given functions, on data. Conditions stand in each theorem. -/
import Derived.Test.YtagjickjfjgfpaaGreatDoorHEvR
import Derived.Test.YtagjickjfjgfpaaGreatDoorHAvYj
import Derived.Test.YtagjickjfjgfpaaGreatDoorHAvVz
set_option linter.unusedSimpArgs false
set_option linter.unusedVariables false
namespace Go.Ev.Ar
open Go Go.Ev Go.Proofs
def pZ : List (Option Cq) := [none, some (dof 1 0, dof 0 0)]
theorem a5w : pZ.map vO = [c0, (dof 1 0, dof 0 0)] := rfl
def fm (x : Nd) (P : List (Option Cq)) : Prop := if x.k = 1 then P = pZ else P = (P.map vO).map some
theorem abf {x : Nd} (h : x.k ≠ 1) (R : List Cq) : fm x (R.map some) := by unfold fm; rw [if_neg h, jr]
def ax8 (xs : List Nd) (o : Option (List (List Cq))) : D := match o with
 | some lv => .tup [plO (if (xs.getD (lv.length - 1) Nd.nil).k = 1 then pZ else (lv.getD (lv.length - 1) []).map some), .bool true]
 | none => .tup [.slice 0 [], .bool false]
theorem a1g (xs : List Nd) (o : Option (List (List Cq))) : (ax8 xs o).sc = false := by cases o <;> rfl
theorem a0j {x : Nd} {i : Nat} (h : dy x i = true) (hk : x.k = 2) : x.r.cells = pc x.r.val := by
 obtain ⟨_, _, _, _, _, _, _, f2⟩ := ik h
 obtain ⟨d1, d2⟩ := f2 hk
 obtain ⟨p1, p2, p3, _⟩ := nn d1
 obtain ⟨q1, q2, q3, _⟩ := nn d2
 show [D.bool x.r.b, sl x.r.l, .int .i64 x.r.e, .bool x.r.c, sl x.r.k, .int .i64 x.r.f] = [D.bool (a7 (ak (dof (zv x.r.b x.r.l) x.r.e))), sl (ofN (ak (dof (zv x.r.b x.r.l) x.r.e)).natAbs), .int .i64 (av (dof (zv x.r.b x.r.l) x.r.e)), .bool (a7 (ak (dof (zv x.r.c x.r.k) x.r.f))), sl (ofN (ak (dof (zv x.r.c x.r.k) x.r.f)).natAbs), .int .i64 (av (dof (zv x.r.c x.r.k) x.r.f))]
 rw [p1, p2, p3, q1, q2, q3]
set_option maxRecDepth 10000 in
set_option maxHeartbeats 16000000 in
theorem aqk {xs : List Nd} (hn : xs.length < 2^62) (hl : ∀ x ∈ xs, x.r.l.length ≤ 4194304 ∧ x.r.k.length ≤ 4194304) (hc : ∀ i, i < xs.length → Hc 104 (xs.getD i Nd.nil).r.val) (hx : fu xs = true) (hb : ∀ i, i < xs.length → ef (szL xs i) (xs.getD i Nd.nil) i ≤ 60) :
  Sim Tryz.prog G0 false 59 [nsl xs] (ax8 xs (poL xs xs.length)) := by
 have s0 := uk xs hn hl
 rw [hx] at s0
 unfold fu at hx
 simp only [Bool.and_eq_true, decide_eq_true_eq, List.all_eq_true, List.mem_range] at hx
 obtain ⟨⟨n0, n40⟩, hall⟩ := hx
 have s1 : Sim Tryz.prog G0 false 42 [.int .i64 1, .int .i64 0] (cxD (dof 1 0, dof 0 0)) := vx 1 0 (by decide) (by decide) (by decide) (by decide)
 refine ao (hs := (a1g _ _)) af Tryz.func59 ?_
 repeat' ((conv => whnf); first | with_reducible refine ag.data ?_ | refine aa.mk _ _ (s0) ?_ | refine rgE ?_ | refine Br.f ?_)
 refine ⟨[(4, 500, 1)], [0, 4, 5], [500], fun m ys h => ∃ (i : Nat) (ls : List (List (Option Cq))), m = xs.length - i ∧ i ≤ xs.length ∧ ls.length = i ∧ poL xs i = some (lvO ls) ∧ PH xs (lvO ls) ∧ (∀ j, j < ls.length → fm (xs.getD j Nd.nil) (ls.getD j [])) ∧
   ys = [.d (nsl xs), .own 500 0 i 1, .d (.int .i64 i)] ∧ h = [(500, false, fa plc ls)],
  ⟨rfl, rfl, ⟨Nat.le_of_ble_eq_true rfl, Nat.le_of_ble_eq_true rfl⟩, _, _, _, ⟨.inl rfl, rfl, rfl, rfl⟩, 0, [], rfl, by omega, rfl, rfl, ⟨fun j h => absurd h (by simp [lvO]), fun j h => absurd h (by simp [lvO])⟩, fun j h => absurd h (by simp), rfl, rfl⟩, ?_⟩
 rintro m ys h ⟨i, ls, rfl, hi, hvl, hpo, hph, hfm, rfl, rfl⟩
 by_cases hlt : i < xs.length
 ·subst hvl
  have lvl := ar0 ls
  have hx' := hall _ hlt
  have hcx := hc _ hlt
  have fx := ik hx'
  have hab := zt hx'
  have hpw : (xs.getD ls.length Nd.nil).k = 7 → ∀ j, j ≤ (xs.getD ls.length Nd.nil).n.toNat → (∀ i, i < j → (lj ((lvO ls).getD (xs.getD ls.length Nd.nil).a.toNat []) i).length ≤ 25) → br 10800 (lj ((lvO ls).getD (xs.getD ls.length Nd.nil).a.toNat []) j) := fun k7 j hj hl25 => by
   have a0 := hab.1 (by omega)
   have n0 := hab.2.2 k7
   have hsz := hb _ hlt
   have okk : aqt xs ls.length := fun j hj => hb j (by omega)
   have s1 := ahi okk (xs.getD ls.length Nd.nil).a.toNat (by omega)
   have h1 := hph.h (xs.getD ls.length Nd.nil).a.toNat (by omega)
   rw [lvl] at h1
   unfold ef at hsz
   rw [if_pos ⟨k7, dg.2 a0⟩] at hsz
   generalize (szL xs ls.length).getD (xs.getD ls.length Nd.nil).a.toNat 0 = u at *
   generalize (lvO ls).getD (xs.getD ls.length Nd.nil).a.toNat [] = pa at *
   obtain ⟨U, rfl⟩ := Int.eq_ofNat_of_zero_le (show 0 ≤ u by omega)
   obtain ⟨N, hN⟩ := Int.eq_ofNat_of_zero_le n0.1
   rw [hN] at hsz hj n0
   rw [Int.toNat_natCast] at hj
   rw [show (max 1 (min (N : Int) 64) : Int) = ((max 1 N : Nat) : Int) by omega, ← Int.natCast_mul] at hsz
   refine (br.lj h1 j hl25).mono ?_
   unfold szH
   rw [Int.toNat_natCast]
   have e1 : j * (180 * U - 70 + 26) ≤ j * (180 * U) := Nat.mul_le_mul_left _ (by omega)
   have e2 : j * (180 * U) = 180 * (U * j) := by rw [Nat.mul_comm j, Nat.mul_assoc]
   have e3 : U * j ≤ U * max 1 N := Nat.mul_le_mul_left _ (by omega)
   omega
  have ok := fun (P : List (Option Cq)) (hv : fi (lvO ls) (xs.getD ls.length Nd.nil) = some (P.map vO)) (hP : P.length ≤ 25) (hf : fm (xs.getD ls.length Nd.nil) P) => (by
   have hp2 := amz (p := P.map vO) hph (by rw [lvl]; exact hlt) (by rw [lvl]; exact hx') (by rw [lvl]; exact hcx) hb (by rw [lvl]; exact hv)
   have e := ax7 (p := P.map vO) hpo rfl hv (by rw [rk]; exact hP)
   rw [← arz] at e
   have g := hph.add hp2 (by rw [rk]; exact hP)
   rw [← arz] at g
   refine ⟨e, g, fun j hj => ?_⟩
   rw [List.length_append] at hj
   have : j < ls.length ∨ j = ls.length := by simp at hj; omega
   rcases this with q | rfl
   ·rw [kp q]; exact hfm j q
   ·rw [gj]; exact hf : poL xs (ls.length + 1) = some (lvO (ls ++ [P])) ∧ PH xs (lvO (ls ++ [P])) ∧ ∀ j, j < (ls ++ [P]).length → fm (xs.getD j Nd.nil) ((ls ++ [P]).getD j []))
  have big := fun (p : List Cq) (hv : fi (lvO ls) (xs.getD ls.length Nd.nil) = some p) (hP : 25 < p.length) => a1f (n := xs.length) hpo rfl hv hP hlt
  have non := fun (hv : fi (lvO ls) (xs.getD ls.length Nd.nil) = none) => a3z (n := xs.length) hpo rfl hv hlt
  have hh : ∀ a : Int, 0 ≤ a ∧ a < (ls.length : Int) → br 10730 ((ls.getD a.toNat []).map vO) ∧ ((ls.getD a.toNat []).map vO).length ≤ 25 ∧ (ls.getD a.toNat []).length ≤ 25 ∧ (lvO ls).getD a.toNat [] = (ls.getD a.toNat []).map vO := fun a ha => by
   have h1 := hph.h a.toNat (by omega)
   have h2 := hph.l a.toNat (by omega)
   rw [akn] at h1 h2
   rw [lvl] at h1
   have h3 : (szL xs ls.length).getD a.toNat 0 ≤ 60 := by rw [sk xs _ _ (by omega)]; exact hb _ (by omega)
   exact ⟨h1.mono (ay7 h3), h2, by rw [rk] at h2; exact h2, akn⟩
  clear hb hall hc hpo hph hfm
  obtain ⟨kk1, kk10, fa', fb', ga, gb, f7, f2⟩ := fx
  obtain ⟨qa, qb, qn⟩ := hab
  have hcell := fun h => a0j hx' h
  clear fa' fb' f2 hx'
  generalize hxx : xs.getD ls.length Nd.nil = x at *
  obtain ⟨k, a, b, n', ⟨b1, l1, e1, c1, k1, f1⟩⟩ := x
  dsimp only at kk1 kk10 ga gb f7 qa qb qn hpw hcell hcx
  have kc : k = 1 ∨ k = 2 ∨ k = 3 ∨ k = 4 ∨ k = 5 ∨ k = 6 ∨ k = 7 ∨ (8 ≤ k ∧ k ≤ 10) := by omega
  rcases kc with rfl | rfl | rfl | rfl | rfl | rfl | rfl | k8
  ·have hv : fi (lvO ls) ⟨1, a, b, n', ⟨b1, l1, e1, c1, k1, f1⟩⟩ = some (pZ.map vO) := by unfold fi; rw [if_pos rfl, a5w]
   obtain ⟨g1, g2, g3⟩ := ok pZ hv (by decide) (by unfold fm; rw [if_pos rfl])
   clear hv ok big non hh hpw hcell
   repeat' ((conv => whnf); first | with_reducible refine ag.data ?_ | refine cx.ao6 107 [7] rfl ?_ | ((with_reducible refine Br.ck ?hpp ?_); case hpp => first | omega | (dsimp only; omega)) | ((with_reducible refine Br.b4 ?hpp ?_); case hpp => first | omega | (dsimp only; omega)) | refine Cd.mk (ba xs _ (by omega)) ?_ | ((with_reducible show TkE (List.drop _ (List.flatMap Nd.cells _)) _ _ _); refine TkE.mk _ ((cg xs ls.length hlt).trans (congrArg Nd.cells hxx)) rfl ?_) | refine aa.mk _ _ (s1) ?_ | refine DsE.mk (pZ.flatMap pO) rfl ?_ | refine Cd.mk (du vu _) ?_ | refine Cd.mk (show (ls.length + 1) * 24 ≤ 70368744177664 by omega) ?_ | refine Cd.mk (di rfl) ?_ | ((with_reducible show DsE (fa plc ls) _); refine DsE.mk (ls.flatMap plc) rfl ?_) | refine DsE.mk [plO pZ] rfl ?_ | ((with_reducible show EqE (fa plc ls ++ _) _); refine EqE.mk _ (y7 ls pZ) ?_) | refine an.cu _ _ ?_ | refine rgE ?_ | refine Cd.mk rfl ?_ | refine Br.t ?_ | refine ah.mk _ rfl ?_ | ((with_reducible refine EqE.idW ?_); first | with_reducible refine EqE.mk _ (qx _ (by omega)) ?_ | with_reducible refine EqE.mk _ (ax _ (by omega)) ?_) | ((with_reducible refine EqE.idS ?_); (refine EqE.fP ?_; (conv => whnf); fail_if_success (show ae _ _))) | ((with_reducible refine EqE.idL ?_); refine EqE.mk (plO pZ) rfl ?_) | refine Cd.ol ?_ | refine Cd.mk ⟨rfl, rfl⟩ ?_)
   exact ⟨_, ⟨ls.length + 1, ls ++ [pZ], rfl, by omega, by simp, g1, g2, g3, rfl, rfl⟩, by omega⟩
  ·have hcell := hcell rfl
   have st := y8 [(⟨b1, l1, e1, c1, k1, f1⟩ : RC).val] (by simp) (br.of fun c hc => by simp only [List.mem_cons, List.not_mem_nil, or_false] at hc; subst hc; exact hcx.mono (by decide))
   have e : pl [(⟨b1, l1, e1, c1, k1, f1⟩ : RC).val] = D.slice 1 [.bool b1, sl l1, .int .i64 e1, .bool c1, sl k1, .int .i64 f1] := by
    unfold pl
    show D.slice 1 (pc _ ++ []) = _
    rw [List.append_nil, ← hcell] <;> rfl
   rw [e, ac8] at st
   have hv : fi (lvO ls) ⟨2, a, b, n', ⟨b1, l1, e1, c1, k1, f1⟩⟩ = some (((j9 [(⟨b1, l1, e1, c1, k1, f1⟩ : RC).val]).map some).map vO) := by unfold fi; rw [if_neg (show ¬ (2 : Int) = 1 by decide), if_pos rfl, jr]
   have hPl : ((j9 [(⟨b1, l1, e1, c1, k1, f1⟩ : RC).val]).map some).length ≤ 1 := by rw [List.length_map]; exact yd _
   have hf := abf (x := ⟨2, a, b, n', ⟨b1, l1, e1, c1, k1, f1⟩⟩) (show ¬ (2 : Int) = 1 by decide) (j9 [(⟨b1, l1, e1, c1, k1, f1⟩ : RC).val])
   generalize (j9 [(⟨b1, l1, e1, c1, k1, f1⟩ : RC).val]).map some = P at *
   obtain ⟨g1, g2, g3⟩ := ok P hv (by omega) hf
   clear hv ok big non hh hpw
   repeat' ((conv => whnf); first | with_reducible refine ag.data ?_ | refine cx.ao6 107 [7] rfl ?_ | ((with_reducible refine Br.ck ?hpp ?_); case hpp => first | omega | (dsimp only; omega)) | ((with_reducible refine Br.b4 ?hpp ?_); case hpp => first | omega | (dsimp only; omega)) | refine Cd.mk (ba xs _ (by omega)) ?_ | ((with_reducible show TkE (List.drop _ (List.flatMap Nd.cells _)) _ _ _); refine TkE.mk _ ((cg xs ls.length hlt).trans (congrArg Nd.cells hxx)) rfl ?_) | refine aa.mk _ _ (st) ?_ | refine DsE.mk [.bool b1, sl l1, .int .i64 e1, .bool c1, sl k1, .int .i64 f1] rfl ?_ | refine Cd.mk (du vu _) ?_ | refine Cd.mk (show (ls.length + 1) * 24 ≤ 70368744177664 by omega) ?_ | refine Cd.mk (di rfl) ?_ | ((with_reducible show DsE (fa plc ls) _); refine DsE.mk (ls.flatMap plc) rfl ?_) | refine DsE.mk [plO P] rfl ?_ | ((with_reducible show EqE (fa plc ls ++ _) _); refine EqE.mk _ (y7 ls P) ?_) | refine an.cu _ _ ?_ | refine rgE ?_ | refine Cd.mk rfl ?_ | refine Br.t ?_ | refine ah.mk _ rfl ?_ | (refine TkE.fL ?_; (conv => whnf); fail_if_success (show ae _ _)) | ((with_reducible refine EqE.idW ?_); first | refine EqE.mk ((P.length : Int) - 1) (aj (by omega) (by omega)) ?_ | with_reducible refine EqE.mk _ (ax _ (by omega)) ?_) | ((with_reducible refine EqE.idS ?_); (refine EqE.fP ?_; (conv => whnf); fail_if_success (show ae _ _))) | ((with_reducible refine EqE.idL ?_); refine EqE.mk _ rfl ?_) | refine Cd.ol ?_ | refine Cd.mk ⟨rfl, rfl⟩ ?_)
   exact ⟨_, ⟨ls.length + 1, ls ++ [P], rfl, by omega, by simp, g1, g2, g3, rfl, rfl⟩, by omega⟩
  ·have a0 := qa (by omega)
   have b0 := qb (by omega) (by omega)
   obtain ⟨A1, A2, A3, A4⟩ := hh a a0
   obtain ⟨B1, B2, B3, B4⟩ := hh b b0
   have T1 := xv (ls := ls) a0.1 (by omega)
   have T2 := xv (ls := ls) b0.1 (by omega)
   generalize hpa : ls.getD a.toNat [] = pa at *
   generalize hpb : ls.getD b.toNat [] = pb at *
   have I1 : (0 ≤ a ∧ a < (ls.length : Int)) := a0
   have I2 : (0 ≤ b ∧ b < (ls.length : Int)) := b0
   have st := am7 (pa.map vO) (pb.map vO) (by omega) (by omega) (A1.mono (by decide)) (B1.mono (by decide))
   have hRl : (ov (pa.map vO) (pb.map vO)).length ≤ 25 := by unfold ov; refine Nat.le_trans (yd _) ?_; rw [te]; omega
   have hv : fi (lvO ls) ⟨3, a, b, n', ⟨b1, l1, e1, c1, k1, f1⟩⟩ = some (((ov (pa.map vO) (pb.map vO)).map some).map vO) := by unfold fi; rw [if_neg (show ¬ (3 : Int) = 1 by decide), if_neg (show ¬ (3 : Int) = 2 by decide), if_pos rfl]; dsimp only; rw [A4, B4, jr]
   rw [ac8 (ov _ _)] at st
   have st := ae4 st
   have hPl : ((ov (pa.map vO) (pb.map vO)).map some).length ≤ 25 := by rw [List.length_map]; exact hRl
   have hf := abf (x := ⟨3, a, b, n', ⟨b1, l1, e1, c1, k1, f1⟩⟩) (show ¬ (3 : Int) = 1 by decide) (ov (pa.map vO) (pb.map vO))
   generalize (ov (pa.map vO) (pb.map vO)).map some = P at *
   obtain ⟨g1, g2, g3⟩ := ok P hv hPl hf
   clear hv ok big non hh hpw hcell A1 A2 B1 B2 A4 B4 hRl
   repeat' ((conv => whnf); first | refine cx.ao6 107 [7] rfl ?_ | ((with_reducible refine Br.ck ?hpp ?_); case hpp => first | omega | (dsimp only; omega)) | ((with_reducible refine Br.b4 ?hpp ?_); case hpp => first | omega | (dsimp only; omega)) | refine Cd.mk (ba xs _ (by omega)) ?_ | ((with_reducible show TkE (List.drop _ (List.flatMap Nd.cells _)) _ _ _); refine TkE.mk _ ((cg xs ls.length hlt).trans (congrArg Nd.cells hxx)) rfl ?_) | refine aa.mk _ _ (st) ?_ | ((with_reducible show ah (fa plc ls) _ _); first | refine ah.mk _ T1 ?_ | refine ah.mk _ T2 ?_) | refine Cd.mk I1 ?_ | refine Cd.mk I2 ?_ | refine Cd.mk (du vu _) ?_ | refine Cd.mk (show (ls.length + 1) * 24 ≤ 70368744177664 by omega) ?_ | refine Cd.mk (di rfl) ?_ | ((with_reducible show DsE (fa plc ls) _); refine DsE.mk (ls.flatMap plc) rfl ?_) | refine DsE.mk [plO P] rfl ?_ | ((with_reducible show EqE (fa plc ls ++ _) _); refine EqE.mk _ (y7 ls P) ?_) | refine an.cu _ _ ?_ | refine rgE ?_ | refine Cd.mk rfl ?_ | refine Br.t ?_ | refine ah.mk _ rfl ?_ | ((with_reducible refine EqE.idW ?_); first | refine EqE.mk ((P.length : Int) - 1) (aj (by omega) (by omega)) ?_ | with_reducible refine EqE.mk _ (ax _ (by omega)) ?_) | ((with_reducible refine EqE.idS ?_); (refine EqE.fP ?_; (conv => whnf); fail_if_success (show ae _ _))) | refine Cd.ol ?_ | refine Cd.mk ⟨rfl, rfl⟩ ?_)
   exact ⟨_, ⟨ls.length + 1, ls ++ [P], rfl, by omega, by simp, g1, g2, g3, rfl, rfl⟩, by omega⟩
  ·have a0 := qa (by omega)
   have b0 := qb (by omega) (by omega)
   obtain ⟨A1, A2, A3, A4⟩ := hh a a0
   obtain ⟨B1, B2, B3, B4⟩ := hh b b0
   have T1 := xv (ls := ls) a0.1 (by omega)
   have T2 := xv (ls := ls) b0.1 (by omega)
   generalize hpa : ls.getD a.toNat [] = pa at *
   generalize hpb : ls.getD b.toNat [] = pb at *
   have I1 : (0 ≤ a ∧ a < (ls.length : Int)) := a0
   have I2 : (0 ≤ b ∧ b < (ls.length : Int)) := b0
   have sn := ax5 (pb.map vO) (by omega) (B1.mono (by decide))
   have hnl : (j7 (pb.map vO)).length ≤ 25 := by unfold j7; rw [List.length_map]; exact B2
   have st := am7 (pa.map vO) (((j7 (pb.map vO)).map some).map vO) (by omega) (by rw [jr]; omega) (A1.mono (by decide)) (by rw [jr]; exact B1.j7.mono (by decide))
   have e4 : ((j7 (pb.map vO)).map some).map vO = j7 (pb.map vO) := jr _
   have hRl : (ov (pa.map vO) (((j7 (pb.map vO)).map some).map vO)).length ≤ 25 := by rw [e4]; unfold ov; refine Nat.le_trans (yd _) ?_; rw [te]; omega
   have hv : fi (lvO ls) ⟨4, a, b, n', ⟨b1, l1, e1, c1, k1, f1⟩⟩ = some (((ov (pa.map vO) (((j7 (pb.map vO)).map some).map vO)).map some).map vO) := by unfold fi; rw [if_neg (show ¬ (4 : Int) = 1 by decide), if_neg (show ¬ (4 : Int) = 2 by decide), if_neg (show ¬ (4 : Int) = 3 by decide), if_pos rfl]; dsimp only; rw [A4, B4, jr, jr]
   rw [ac8 (ov _ _)] at st
   have st := ae4 st
   rw [ac8 (j7 _)] at sn
   have sn := a1r sn
   have hPl : ((ov (pa.map vO) (((j7 (pb.map vO)).map some).map vO)).map some).length ≤ 25 := by rw [List.length_map]; exact hRl
   clear e4 hRl hnl
   have hf := abf (x := ⟨4, a, b, n', ⟨b1, l1, e1, c1, k1, f1⟩⟩) (show ¬ (4 : Int) = 1 by decide) (ov (pa.map vO) (((j7 (pb.map vO)).map some).map vO))
   generalize (ov (pa.map vO) (((j7 (pb.map vO)).map some).map vO)).map some = P at *
   generalize (j7 (pb.map vO)).map some = pn at *
   obtain ⟨g1, g2, g3⟩ := ok P hv hPl hf
   clear hv ok big non hh hpw hcell A1 A2 B1 B2 A4 B4
   repeat' ((conv => whnf); first | refine cx.ao6 107 [7] rfl ?_ | ((with_reducible refine Br.ck ?hpp ?_); case hpp => first | omega | (dsimp only; omega)) | ((with_reducible refine Br.b4 ?hpp ?_); case hpp => first | omega | (dsimp only; omega)) | refine Cd.mk (ba xs _ (by omega)) ?_ | ((with_reducible show TkE (List.drop _ (List.flatMap Nd.cells _)) _ _ _); refine TkE.mk _ ((cg xs ls.length hlt).trans (congrArg Nd.cells hxx)) rfl ?_) | refine aa.mk _ _ (st) ?_ | refine aa.mk _ _ (sn) ?_ | ((with_reducible show ah (fa plc ls) _ _); first | refine ah.mk _ T1 ?_ | refine ah.mk _ T2 ?_) | refine Cd.mk I1 ?_ | refine Cd.mk I2 ?_ | refine Cd.mk (du vu _) ?_ | refine Cd.mk (show (ls.length + 1) * 24 ≤ 70368744177664 by omega) ?_ | refine Cd.mk (di rfl) ?_ | ((with_reducible show DsE (fa plc ls) _); refine DsE.mk (ls.flatMap plc) rfl ?_) | refine DsE.mk [plO P] rfl ?_ | ((with_reducible show EqE (fa plc ls ++ _) _); refine EqE.mk _ (y7 ls P) ?_) | refine an.cu _ _ ?_ | refine rgE ?_ | refine Cd.mk rfl ?_ | refine Br.t ?_ | refine ah.mk _ rfl ?_ | ((with_reducible refine EqE.idW ?_); first | refine EqE.mk ((P.length : Int) - 1) (aj (by omega) (by omega)) ?_ | with_reducible refine EqE.mk _ (ax _ (by omega)) ?_) | ((with_reducible refine EqE.idS ?_); (refine EqE.fP ?_; (conv => whnf); fail_if_success (show ae _ _))) | refine Cd.ol ?_ | refine Cd.mk ⟨rfl, rfl⟩ ?_)
   exact ⟨_, ⟨ls.length + 1, ls ++ [P], rfl, by omega, by simp, g1, g2, g3, rfl, rfl⟩, by omega⟩
  ·have a0 := qa (by omega)
   have b0 := qb (by omega) (by omega)
   obtain ⟨A1, A2, A3, A4⟩ := hh a a0
   obtain ⟨B1, B2, B3, B4⟩ := hh b b0
   have T1 := xv (ls := ls) a0.1 (by omega)
   have T2 := xv (ls := ls) b0.1 (by omega)
   generalize hpa : ls.getD a.toNat [] = pa at *
   generalize hpb : ls.getD b.toNat [] = pb at *
   have I1 : (0 ≤ a ∧ a < (ls.length : Int)) := a0
   have I2 : (0 ≤ b ∧ b < (ls.length : Int)) := b0
   have st := anc (pa.map vO) (pb.map vO) (by omega) (by omega) A1 B1 (by decide) (by decide) (by decide)
   have hRl := amt (pa.map vO) (pb.map vO)
   have hv : fi (lvO ls) ⟨5, a, b, n', ⟨b1, l1, e1, c1, k1, f1⟩⟩ = some (((oo (pa.map vO) (pb.map vO)).map some).map vO) := by unfold fi; rw [if_neg (show ¬ (5 : Int) = 1 by decide), if_neg (show ¬ (5 : Int) = 2 by decide), if_neg (show ¬ (5 : Int) = 3 by decide), if_neg (show ¬ (5 : Int) = 4 by decide), if_pos rfl]; dsimp only; rw [A4, B4, jr]
   rw [ac8 (oo _ _)] at st
   have st := ae4 st
   have hPl : ((oo (pa.map vO) (pb.map vO)).map some).length ≤ 50 := by rw [List.length_map]; omega
   have hf := abf (x := ⟨5, a, b, n', ⟨b1, l1, e1, c1, k1, f1⟩⟩) (show ¬ (5 : Int) = 1 by decide) (oo (pa.map vO) (pb.map vO))
   generalize (oo (pa.map vO) (pb.map vO)).map some = P at *
   clear A1 A2 B1 B2 A4 B4 hRl
   by_cases hP : P.length ≤ 25
   ·obtain ⟨g1, g2, g3⟩ := ok P hv hP hf
    clear hv ok big non hh hpw hcell
    repeat' ((conv => whnf); first | refine cx.ao6 107 [7] rfl ?_ | ((with_reducible refine Br.ck ?hpp ?_); case hpp => first | omega | (dsimp only; omega)) | ((with_reducible refine Br.b4 ?hpp ?_); case hpp => first | omega | (dsimp only; omega)) | refine Cd.mk (ba xs _ (by omega)) ?_ | ((with_reducible show TkE (List.drop _ (List.flatMap Nd.cells _)) _ _ _); refine TkE.mk _ ((cg xs ls.length hlt).trans (congrArg Nd.cells hxx)) rfl ?_) | refine aa.mk _ _ (st) ?_ | ((with_reducible show ah (fa plc ls) _ _); first | refine ah.mk _ T1 ?_ | refine ah.mk _ T2 ?_) | refine Cd.mk I1 ?_ | refine Cd.mk I2 ?_ | refine Cd.mk (du vu _) ?_ | refine Cd.mk (show (ls.length + 1) * 24 ≤ 70368744177664 by omega) ?_ | refine Cd.mk (di rfl) ?_ | ((with_reducible show DsE (fa plc ls) _); refine DsE.mk (ls.flatMap plc) rfl ?_) | refine DsE.mk [plO P] rfl ?_ | ((with_reducible show EqE (fa plc ls ++ _) _); refine EqE.mk _ (y7 ls P) ?_) | refine an.cu _ _ ?_ | refine rgE ?_ | refine Cd.mk rfl ?_ | refine Br.t ?_ | refine ah.mk _ rfl ?_ | ((with_reducible refine EqE.idW ?_); first | refine EqE.mk ((P.length : Int) - 1) (aj (by omega) (by omega)) ?_ | with_reducible refine EqE.mk _ (ax _ (by omega)) ?_) | ((with_reducible refine EqE.idS ?_); (refine EqE.fP ?_; (conv => whnf); fail_if_success (show ae _ _))) | refine Cd.ol ?_ | refine Cd.mk ⟨rfl, rfl⟩ ?_)
    exact ⟨_, ⟨ls.length + 1, ls ++ [P], rfl, by omega, by simp, g1, g2, g3, rfl, rfl⟩, by omega⟩
   ·rw [big (P.map vO) hv (by rw [rk]; omega)]
    clear hv ok big non hh hpw hcell
    repeat' ((conv => whnf); first | ((with_reducible refine Br.ck ?hpp ?_); case hpp => first | omega | (dsimp only; omega)) | ((with_reducible refine Br.b4 ?hpp ?_); case hpp => first | omega | (dsimp only; omega)) | refine Cd.mk (ba xs _ (by omega)) ?_ | ((with_reducible show TkE (List.drop _ (List.flatMap Nd.cells _)) _ _ _); refine TkE.mk _ ((cg xs ls.length hlt).trans (congrArg Nd.cells hxx)) rfl ?_) | refine aa.mk _ _ (st) ?_ | ((with_reducible show ah (fa plc ls) _ _); first | refine ah.mk _ T1 ?_ | refine ah.mk _ T2 ?_) | refine Cd.mk I1 ?_ | refine Cd.mk I2 ?_ | refine rgE ?_ | refine Cd.mk rfl ?_ | refine Br.t ?_ | refine ah.mk _ rfl ?_ | refine Res.mk ?_ | ((with_reducible refine EqE.idW ?_); refine EqE.mk ((P.length : Int) - 1) (aj (by omega) (by omega)) ?_) | ((with_reducible refine EqE.idS ?_); (refine EqE.fP ?_; (conv => whnf); fail_if_success (show ae _ _))) | refine Cd.ol ?_)
    all_goals rfl
  ·have hv : fi (lvO ls) ⟨6, a, b, n', ⟨b1, l1, e1, c1, k1, f1⟩⟩ = none := by unfold fi; rw [if_neg (show ¬ (6 : Int) = 1 by decide), if_neg (show ¬ (6 : Int) = 2 by decide), if_neg (show ¬ (6 : Int) = 3 by decide), if_neg (show ¬ (6 : Int) = 4 by decide), if_neg (show ¬ (6 : Int) = 5 by decide), if_neg (show ¬ (6 : Int) = 7 by decide)]
   rw [non hv]
   clear hv ok big non hh hpw hcell
   repeat' ((conv => whnf); first | ((with_reducible refine Br.ck ?hpp ?_); case hpp => first | omega | (dsimp only; omega)) | ((with_reducible refine Br.b4 ?hpp ?_); case hpp => first | omega | (dsimp only; omega)) | refine Cd.mk (ba xs _ (by omega)) ?_ | ((with_reducible show TkE (List.drop _ (List.flatMap Nd.cells _)) _ _ _); refine TkE.mk _ ((cg xs ls.length hlt).trans (congrArg Nd.cells hxx)) rfl ?_) | refine rgE ?_ | refine Cd.mk rfl ?_ | refine ah.mk _ rfl ?_ | refine Res.mk ?_ | ((with_reducible refine EqE.idS ?_); (refine EqE.fP ?_; (conv => whnf); fail_if_success (show ae _ _))) | refine Cd.ol ?_)
   all_goals rfl
  ·have a0 := qa (by omega)
   have n0 := qn rfl
   obtain ⟨A1, A2, A3, A4⟩ := hh a a0
   have hpw := hpw rfl
   rw [A4] at hpw
   have T1 := xv (ls := ls) a0.1 (by omega)
   generalize hpa : ls.getD a.toNat [] = pa at *
   have I1 : (0 ≤ a ∧ a < (ls.length : Int)) := a0
   obtain ⟨N, rfl⟩ := Int.eq_ofNat_of_zero_le n0.1
   rw [Int.toNat_natCast] at hpw
   have hw : -64 ≤ ((pa.length : Int) - 1) * (N : Int) ∧ ((pa.length : Int) - 1) * (N : Int) ≤ 1536 := by
    have u1 := Int.mul_le_mul_of_nonneg_right (show (pa.length : Int) - 1 ≤ 24 by omega) n0.1
    have u2 := Int.mul_le_mul_of_nonneg_right (show -1 ≤ (pa.length : Int) - 1 by omega) n0.1
    omega
   have hpl : (pa.map vO).length = pa.length := rk pa
   by_cases hd : ((pa.length : Int) - 1) * (N : Int) > 24
   ·have hv : fi (lvO ls) ⟨7, a, b, (N : Int), ⟨b1, l1, e1, c1, k1, f1⟩⟩ = none := by unfold fi; rw [if_neg (show ¬ (7 : Int) = 1 by decide), if_neg (show ¬ (7 : Int) = 2 by decide), if_neg (show ¬ (7 : Int) = 3 by decide), if_neg (show ¬ (7 : Int) = 4 by decide), if_neg (show ¬ (7 : Int) = 5 by decide), if_pos rfl]; dsimp only; rw [A4, hpl, if_pos hd]
    rw [non hv]
    clear hv ok big non hh hpw hcell
    repeat' ((conv => whnf); first | with_reducible refine ag.data ?_ | ((with_reducible refine Br.ck ?hpp ?_); case hpp => first | omega | (dsimp only; omega)) | ((with_reducible refine Br.b4 ?hpp ?_); case hpp => first | omega | (dsimp only; omega)) | refine aa.mk _ _ (s1) ?_ | refine Cd.mk (ba xs _ (by omega)) ?_ | ((with_reducible show TkE (List.drop _ (List.flatMap Nd.cells _)) _ _ _); refine TkE.mk _ ((cg xs ls.length hlt).trans (congrArg Nd.cells hxx)) rfl ?_) | ((with_reducible show ah (fa plc ls) _ _); refine ah.mk _ T1 ?_) | refine Cd.mk I1 ?_ | refine rgE ?_ | refine Cd.mk rfl ?_ | refine Br.t ?_ | refine ah.mk _ rfl ?_ | refine Res.mk ?_ | ((with_reducible refine EqE.idW ?_); first | refine EqE.mk ((pa.length : Int) - 1) (aj (by omega) (by omega)) ?_ | refine EqE.mk (((pa.length : Int) - 1) * (N : Int)) (show IntKind.i64.wrap (((pa.length : Int) - 1) * (N : Int)) = _ from aj (by omega) (by omega)) ?_) | ((with_reducible refine EqE.idS ?_); (refine EqE.fP ?_; (conv => whnf); fail_if_success (show ae _ _))) | refine Cd.ol ?_)
    all_goals rfl
   ·have hlen : ∀ j, j ≤ N → (lj (pa.map vO) j).length ≤ 25 := fun j hj => by
     refine Nat.le_trans (agz _ j) ?_
     rw [hpl]
     by_cases z0 : pa.length = 0
     ·rw [z0]; simp
     ·have h1 : ((pa.length : Int) - 1) * (N : Int) = (((pa.length - 1) * N : Nat) : Int) := by
       rw [Int.natCast_mul]; congr 1; omega
      rw [h1] at hd
      have h2 : (pa.length - 1) * j ≤ (pa.length - 1) * N := Nat.mul_le_mul_left _ hj
      omega
    have hv : fi (lvO ls) ⟨7, a, b, (N : Int), ⟨b1, l1, e1, c1, k1, f1⟩⟩ = some (lj (pa.map vO) N) := by unfold fi; rw [if_neg (show ¬ (7 : Int) = 1 by decide), if_neg (show ¬ (7 : Int) = 2 by decide), if_neg (show ¬ (7 : Int) = 3 by decide), if_neg (show ¬ (7 : Int) = 4 by decide), if_neg (show ¬ (7 : Int) = 5 by decide), if_pos rfl]; dsimp only; rw [A4, hpl, if_neg hd, Int.toNat_natCast]
    have hpw := fun j (hj : j ≤ N) => hpw j hj fun i hi => hlen i (by omega)
    have sm : ∀ j : Nat, j < N → Sim Tryz.prog G0 false 112 [plO ((lj (pa.map vO) j).map some), plO pa] (plO ((lj (pa.map vO) (j + 1)).map some)) := fun j hj => by
     have h1 := hpw j (by omega)
     have h2 := hlen j (by omega)
     have := anc (((lj (pa.map vO) j).map some).map vO) (pa.map vO) (by rw [jr]; omega) (by omega) (by rw [jr]; exact h1) A1 (by decide) (by decide) (by decide)
     rw [ac8 (oo _ _)] at this
     have := ae4 this
     rw [jr] at this
     exact this
    have h0 : ([some (dof 1 0, dof 0 0)] : List (Option Cq)) = (lj (pa.map vO) 0).map some := rfl
    have fin := ok ((lj (pa.map vO) N).map some) (by rw [hv, jr]) (by rw [List.length_map]; exact hlen N (Nat.le_refl _)) (abf (x := ⟨7, a, b, (N : Int), ⟨b1, l1, e1, c1, k1, f1⟩⟩) (show ¬ (7 : Int) = 1 by decide) _)
    have hQl : ((lj (pa.map vO) N).map some).length ≤ 25 := by rw [List.length_map]; exact hlen N (Nat.le_refl _)
    clear hv ok big non hh hcell hlen hpw A1 A2 A4 hpl
    generalize hpv : pa.map vO = va at *
    repeat' ((conv => whnf); first | with_reducible refine ag.data ?_ | refine cx.ao6 8 [7] rfl ?_ | ((with_reducible refine Br.ck ?hpp ?_); case hpp => first | omega | (dsimp only; omega)) | ((with_reducible refine Br.b4 ?hpp ?_); case hpp => first | omega | (dsimp only; omega)) | refine aa.mk _ _ (s1) ?_ | refine Cd.mk (ba xs _ (by omega)) ?_ | ((with_reducible show TkE (List.drop _ (List.flatMap Nd.cells _)) _ _ _); refine TkE.mk _ ((cg xs ls.length hlt).trans (congrArg Nd.cells hxx)) rfl ?_) | ((with_reducible show ah (fa plc ls) _ _); refine ah.mk _ T1 ?_) | refine Cd.mk I1 ?_ | refine DsE.mk (pc (dof 1 0, dof 0 0)) rfl ?_ | refine rgE ?_ | refine Cd.mk rfl ?_ | refine Br.t ?_ | refine ah.mk _ rfl ?_ | ((with_reducible refine EqE.idW ?_); first | refine EqE.mk ((pa.length : Int) - 1) (aj (by omega) (by omega)) ?_ | refine EqE.mk (((pa.length : Int) - 1) * (N : Int)) (show IntKind.i64.wrap (((pa.length : Int) - 1) * (N : Int)) = _ from aj (by omega) (by omega)) ?_) | ((with_reducible refine EqE.idS ?_); (refine EqE.fP ?_; (conv => whnf); fail_if_success (show ae _ _))) | ((with_reducible refine EqE.idL ?_); refine EqE.mk (plO [some (dof 1 0, dof 0 0)]) rfl ?_) | refine Cd.ol ?_)
    refine ⟨[], [0, 4, 5, 6, 7, 8], [6, 500], fun m ys h => ∃ j : Nat, m = N - j ∧ j ≤ N ∧ ys = [.d (nsl xs), .own 500 0 ls.length 1, .d (.int .i64 ls.length), .ptr 6 0, .d (plO ((lj va j).map some)), .d (.int .i64 j)] ∧
      h = [(6, false, [.d (.int .i64 7), .d (.int .i64 a), .d (.int .i64 b), .d (.int .i64 N), .d (.bool b1), .d (sl l1), .d (.int .i64 e1), .d (.bool c1), .d (sl k1), .d (.int .i64 f1)]), (500, false, fa plc ls)],
     ⟨_, _, _, ⟨.inl rfl, rfl, rfl, by first | rfl | (repeat first | exact all_nil _ | refine bm _ _ _ _ _ ?_ | refine avj _ _ _ _ _ _ ?_)⟩, 0, rfl, by omega, by rw [← h0]; rfl, rfl⟩, ?_⟩
    rintro m2 ys h ⟨j, rfl, hj, rfl, rfl⟩
    by_cases hlj : j < N
    ·have st := sm j hlj
     clear sm fin h0 hQl
     generalize hq1 : (lj va (j + 1)).map some = Q2 at *
     generalize (lj va j).map some = Q at *
     repeat' ((conv => whnf); first | with_reducible refine ag.data ?_ | ((with_reducible refine Br.ck ?hpp ?_); case hpp => first | omega | (dsimp only; omega)) | refine aa.mk _ _ (st) ?_ | ((with_reducible show ah (fa plc ls) _ _); refine ah.mk _ T1 ?_) | refine Cd.mk I1 ?_ | refine rgE ?_ | refine Cd.mk rfl ?_ | refine ah.mk _ rfl ?_ | refine an.cu _ _ ?_ | ((with_reducible refine EqE.idW ?_); with_reducible refine EqE.mk _ (ax _ (by omega)) ?_))
     exact ⟨_, ⟨j + 1, rfl, by omega, by rw [hq1]; rfl, rfl⟩, by omega⟩
    ·have e : j = N := by omega
     subst e
     clear sm h0
     obtain ⟨g1, g2, g3⟩ := fin
     generalize (lj va j).map some = Q at *
     repeat' ((conv => whnf); first | refine cx.ao6 107 [7] rfl ?_ | ((with_reducible refine Br.b4 ?hpp ?_); case hpp => first | omega | (dsimp only; omega)) | refine Cd.mk (du vu _) ?_ | refine Cd.mk (show (ls.length + 1) * 24 ≤ 70368744177664 by omega) ?_ | refine Cd.mk (di rfl) ?_ | ((with_reducible show DsE (fa plc ls) _); refine DsE.mk (ls.flatMap plc) rfl ?_) | refine DsE.mk [plO Q] rfl ?_ | ((with_reducible show EqE (fa plc ls ++ _) _); refine EqE.mk _ (y7 ls Q) ?_) | refine an.cu _ _ ?_ | refine rgE ?_ | refine Cd.mk rfl ?_ | refine ah.mk _ rfl ?_ | ((with_reducible refine EqE.idW ?_); first | refine EqE.mk ((Q.length : Int) - 1) (aj (by omega) (by omega)) ?_ | with_reducible refine EqE.mk _ (ax _ (by omega)) ?_) | refine Cd.ol ?_ | refine Cd.mk ⟨rfl, rfl⟩ ?_)
     exact ⟨_, ⟨ls.length + 1, ls ++ [Q], rfl, by omega, by simp, g1, g2, g3, rfl, rfl⟩, by omega⟩
  ·have hv : fi (lvO ls) ⟨k, a, b, n', ⟨b1, l1, e1, c1, k1, f1⟩⟩ = none := by unfold fi; rw [if_neg (show ¬ (k : Int) = 1 by omega), if_neg (show ¬ (k : Int) = 2 by omega), if_neg (show ¬ (k : Int) = 3 by omega), if_neg (show ¬ (k : Int) = 4 by omega), if_neg (show ¬ (k : Int) = 5 by omega), if_neg (show ¬ (k : Int) = 7 by omega)]
   rw [non hv]
   clear hv ok big non hh hpw hcell
   repeat' ((conv => whnf); first | ((with_reducible refine Br.ck ?hpp ?_); case hpp => first | omega | (dsimp only; omega)) | ((with_reducible refine Br.b4 ?hpp ?_); case hpp => first | omega | (dsimp only; omega)) | refine Cd.mk (ba xs _ (by omega)) ?_ | ((with_reducible show TkE (List.drop _ (List.flatMap Nd.cells _)) _ _ _); refine TkE.mk _ ((cg xs ls.length hlt).trans (congrArg Nd.cells hxx)) rfl ?_) | refine rgE ?_ | refine Cd.mk rfl ?_ | refine ah.mk _ rfl ?_ | refine Res.mk ?_ | ((with_reducible refine EqE.idS ?_); (refine EqE.fP ?_; (conv => whnf); fail_if_success (show ae _ _))) | refine Cd.ol ?_)
   all_goals rfl
 ·have e : i = xs.length := by omega
  subst e
  obtain ⟨n, hn1⟩ : ∃ n, ls.length = n + 1 := ⟨ls.length - 1, by omega⟩
  have T1 := xv (ls := ls) (a := (n : Int)) (by omega) (by omega)
  rw [Int.toNat_natCast] at T1
  rw [hpo]
  have hr : ax8 xs (some (lvO ls)) = .tup [plO (ls.getD n []), .bool true] := by
   have f := hfm n (by omega)
   unfold fm at f
   unfold ax8
   dsimp only
   rw [ar0, hn1, Nat.add_sub_cancel, akn]
   split
   ·rename_i k; rw [if_pos k] at f; rw [f]
   ·rename_i k; rw [if_neg k] at f; rw [← f]
  rw [hr]
  have e2 : ((xs.length : Nat) : Int) - 1 = (n : Int) := by omega
  have I1 : (0 ≤ (n : Int) ∧ (n : Int) < (xs.length : Int)) := by omega
  generalize ls.getD n [] = P at *
  repeat' ((conv => whnf); first | ((with_reducible refine Br.b4 ?hpp ?_); case hpp => first | omega | (dsimp only; omega)) | ((with_reducible show ah (fa plc ls) _ _); refine ah.mk _ T1 ?_) | refine Cd.mk I1 ?_ | refine rgE ?_ | refine Cd.mk rfl ?_ | refine Res.mk ?_ | ((with_reducible refine EqE.idW ?_); refine EqE.mk (n : Int) ((aj (by omega) (by omega)).trans e2) ?_))
  all_goals rfl
theorem a2e {xs : List Nd} : ∀ {i : Nat} {lv : List (List Cq)}, poL xs i = some lv → ∀ j, j < i → (xs.getD j Nd.nil).k = 1 → lv.getD j [] = pZ.map vO
 | 0, _, _, j, hj, _ => absurd hj (by omega)
 | i + 1, lv, h, j, hj, hk => by
  unfold poL at h
  rw [Option.bind_eq_some_iff] at h
  obtain ⟨us, hu, h⟩ := h
  rw [Option.map_eq_some_iff] at h
  obtain ⟨p, hp, rfl⟩ := h
  have hul := vv hu
  rcases Nat.lt_succ_iff_lt_or_eq.1 hj with g | rfl
  ·rw [kp (by rw [hul]; exact g)]; exact a2e hu j g hk
  ·have e := gj us p []
   rw [hul] at e
   rw [e]
   unfold ahv fi at hp
   rw [if_pos hk] at hp
   cases hp; rfl
theorem aur {xs : List Nd} (hn : xs.length < 2^62) (hl : ∀ x ∈ xs, x.r.l.length ≤ 4194304 ∧ x.r.k.length ≤ 4194304) (hc : ∀ i, i < xs.length → Hc 104 (xs.getD i Nd.nil).r.val) (hx : fu xs = true) (hb : ∀ i, i < xs.length → ef (szL xs i) (xs.getD i Nd.nil) i ≤ 60) :
  Sim Tryz.prog G0 false 59 [nsl xs] (poR (poL xs xs.length)) := by
 refine anz (aqk hn hl hc hx hb) fun S w v h => ?_
 cases hp : poL xs xs.length with
 | none => rw [hp] at h; exact h
 | some lv =>
  rw [hp] at h
  unfold ax8 at h
  unfold poR
  dsimp only at h ⊢
  simp only [DR, DRs] at h ⊢
  obtain ⟨vs, hv, u, us, e1, h1, rest⟩ := h
  refine ⟨vs, hv, u, us, e1, ?_, rest⟩
  have h2 := ajq h1
  split at h2
  ·rename_i k
   have hl := vv hp
   rw [a2e hp (lv.length - 1) (by unfold fu at hx; simp only [Bool.and_eq_true, decide_eq_true_eq] at hx; omega) k]; exact h2
  ·rw [jr] at h2; exact h2
end Go.Ev.Ar

namespace Go.Ev.Ar
open Go Go.Ev Go.Proofs
theorem n9 {bs : List Bool} {m a : Nat} (h : bs.getD m false = true) : (bs.set a true).getD m false = true := by
 rw [List.getD_eq_getElem?_getD] at *
 rw [List.getElem?_set]
 split
 ·split
  ·rfl
  ·rename_i e g; subst e; rw [List.getElem?_eq_none (by omega)] at h; exact h
 ·exact h
theorem si {bs : List Bool} {a : Nat} (h : a < bs.length) : (bs.set a true).getD a false = true := by simp [h]
theorem ya {bs : List Bool} {m a : Nat} (h : a ≠ m) : (bs.set a true).getD m false = bs.getD m false := by
 rw [List.getD_eq_getElem?_getD, List.getElem?_set, if_neg h, List.getD_eq_getElem?_getD]
theorem avh {bs : List Bool} {i m : Nat} {x : Nd} (h : bs.getD m false = true) : (akS bs i x).getD m false = true := by
 unfold akS; split
 ·split
  ·exact n9 (n9 h)
  ·exact n9 h
 ·exact h
theorem atd {bs : List Bool} {i m : Nat} {x : Nd} (ha : 3 ≤ x.k → 0 ≤ x.a ∧ x.a < i) (hb : 3 ≤ x.k → x.k ≤ 6 → 0 ≤ x.b ∧ x.b < i) (h : i ≤ m) : (akS bs i x).getD m false = bs.getD m false := by
 unfold akS; split
 ·rename_i c
  have := ha c.2
  split
  ·rename_i k
   have := hb c.2 k
   rw [ya (by omega), ya (by omega)]
  ·rw [ya (by omega)]
 ·rfl
theorem afh (xs : List Nd) {m : Nat} : ∀ {j k : Nat}, j ≤ k → (akL xs j).getD m false = true → (akL xs k).getD m false = true
 | j, 0, h, g => by rw [show j = 0 by omega] at g; exact g
 | j, k + 1, h, g => by
  by_cases e : j = k + 1
  ·rw [← e]; exact g
  ·rw [akL]; exact avh (afh xs (show j ≤ k by omega) g)
theorem ah2 {xs : List Nd} (hx : ∀ i, i < xs.length → dy (xs.getD i Nd.nil) i = true) {m : Nat} : ∀ k, k ≤ xs.length → xs.length - 1 - m ≤ k → m < xs.length → (akL xs k).getD m false = (akL xs (xs.length - 1 - m)).getD m false
 | 0, h, g, hm => by rw [show xs.length - 1 - m = 0 by omega]
 | k + 1, h, g, hm => by
  by_cases e : xs.length - 1 - m = k + 1
  ·rw [e]
  ·obtain ⟨ga, gb, _⟩ := zt (hx (xs.length - 1 - k) (by omega))
   rw [akL, atd ga gb (by omega)]
   exact ah2 hx k (by omega) (by omega) hm
theorem avn {xs : List Nd} (n0 : 0 < xs.length) : (akL xs xs.length).getD (xs.length - 1) false = true :=
 afh xs (Nat.zero_le _) (by rw [akL]; exact si (by simp; omega))
theorem a2r {xs : List Nd} (hx : ∀ i, i < xs.length → dy (xs.getD i Nd.nil) i = true) {i : Nat} (hi : i < xs.length) (h : (akL xs xs.length).getD i false = true) (k3 : 3 ≤ (xs.getD i Nd.nil).k) :
  (akL xs xs.length).getD (xs.getD i Nd.nil).a.toNat false = true ∧ ((xs.getD i Nd.nil).k ≤ 6 → (akL xs xs.length).getD (xs.getD i Nd.nil).b.toNat false = true) := by
 obtain ⟨ga, gb, _⟩ := zt (hx i hi)
 rw [ah2 hx _ (Nat.le_refl _) (by omega) hi] at h
 have hl := aau xs (xs.length - 1 - i)
 have e : akL xs (xs.length - 1 - i + 1) = akS (akL xs (xs.length - 1 - i)) i (xs.getD i Nd.nil) := by
  rw [akL, show xs.length - 1 - (xs.length - 1 - i) = i by omega]
 have ha := ga k3
 have key : ∀ m, (akL xs (xs.length - 1 - i + 1)).getD m false = true → (akL xs xs.length).getD m false = true := fun m => afh xs (by omega)
 rw [e] at key
 generalize xs.getD i Nd.nil = x at *
 constructor
 ·refine key _ ?_
  unfold akS
  rw [if_pos ⟨h, k3⟩]
  split
  ·exact n9 (si (by omega))
  ·exact si (by omega)
 ·intro k6
  have hb := gb k3 k6
  refine key _ ?_
  unfold akS
  rw [if_pos ⟨h, k3⟩, if_pos k6]
  exact si (by rw [List.length_set]; omega)
theorem ahk (n : Nat) : tc (dof (n : Int) 0, 0) = Cr.ofQ ((n : Nat) : Rat) := by
 refine Cr.ext ?_ fq
 show (dof (n : Int) 0).toRat = _
 rw [aep] <;> rfl
theorem a39 {es : List Nd} {ds : List Int} {x : Nd} {i : Nat} {z : Cr} {va vb : Du} (h : Gn es) (hi : i ≤ es.length) (hx : dy x i = true) (hg : gk x) (h2 : x.k ≠ 2)
  (ha : 3 ≤ x.k → vAt es z x.a = va.a ∧ (-1 ≤ ds.getD x.a.toNat 0 ∧ ds.getD x.a.toNat 0 < es.length) ∧ vAt es z (ds.getD x.a.toNat 0) = va.b)
  (hb : 3 ≤ x.k → x.k ≤ 6 → vAt es z x.b = vb.a ∧ (-1 ≤ ds.getD x.b.toNat 0 ∧ ds.getD x.b.toNat 0 < es.length) ∧ vAt es z (ds.getD x.b.toNat 0) = vb.b) :
  Ex es (slF es i x ds) ∧ vAt (slF es i x ds).1 z (slF es i x ds).2 = if x.k = 1 then 1 else if x.k = 3 then va.b + vb.b else if x.k = 4 then va.b - vb.b else if x.k = 5 then va.a * vb.b + va.b * vb.a else (duP va x.n.toNat).b := by
 obtain ⟨ga, gb, gn⟩ := zt hx
 rcases hg with k | k | k | k | k | k
 ·unfold slF
  rw [if_pos k, if_pos k]
  obtain ⟨g1, g2⟩ := av3 (z := z) h (n := 1) (by decide) (by decide)
  refine ⟨g1, g2.trans ?_⟩
  have := ahk 1
  exact this
 ·exact absurd k h2
 ·obtain ⟨a1, a2, a3⟩ := ha (by omega)
  obtain ⟨b1, b2, b3⟩ := hb (by omega) (by omega)
  have e : slF es i x ds = plF es (ds.getD x.a.toNat 0) (ds.getD x.b.toNat 0) x.k := by unfold slF; dsimp only; rw [if_neg (by omega), if_pos (.inl k)]
  rw [e, if_neg (by omega), if_pos k]
  obtain ⟨g1, g2⟩ := ap2 (z := z) (.inl k) h a2 b2
  refine ⟨g1, g2.trans ?_⟩
  rw [a3, b3]; unfold pm; rw [if_pos k]
 ·obtain ⟨a1, a2, a3⟩ := ha (by omega)
  obtain ⟨b1, b2, b3⟩ := hb (by omega) (by omega)
  have e : slF es i x ds = plF es (ds.getD x.a.toNat 0) (ds.getD x.b.toNat 0) x.k := by unfold slF; dsimp only; rw [if_neg (by omega), if_pos (.inr k)]
  rw [e, if_neg (by omega), if_neg (by omega), if_pos k]
  obtain ⟨g1, g2⟩ := ap2 (z := z) (.inr k) h a2 b2
  refine ⟨g1, g2.trans ?_⟩
  rw [a3, b3]; unfold pm; rw [if_neg (by omega)]
 ·obtain ⟨a1, a2, a3⟩ := ha (by omega)
  obtain ⟨b1, b2, b3⟩ := hb (by omega) (by omega)
  have a0 := ga (by omega)
  have b0 := gb (by omega) (by omega)
  have e : slF es i x ds = plF (tmF (tmF es (ds.getD x.a.toNat 0) x.b).1 x.a (ds.getD x.b.toNat 0)).1 (tmF es (ds.getD x.a.toNat 0) x.b).2 (tmF (tmF es (ds.getD x.a.toNat 0) x.b).1 x.a (ds.getD x.b.toNat 0)).2 3 := by unfold slF; dsimp only; rw [if_neg (by omega), if_neg (by omega), if_pos k]
  rw [e, if_neg (by omega), if_neg (by omega), if_neg (by omega), if_pos k]
  generalize ds.getD x.a.toNat 0 = dA at *
  generalize ds.getD x.b.toNat 0 = dB at *
  obtain ⟨g1, g2⟩ := ald (z := z) (x := dA) (y := x.b) h a2 (by omega)
  have l1 := g1.len
  obtain ⟨f1, f2⟩ := ald (z := z) (x := x.a) (y := dB) g1.gn (by omega) (by omega)
  have l2 := f1.len
  have v1 := f1.val (z := z) g1.rng
  obtain ⟨p1, p2⟩ := ap2 (z := z) (k := 3) (x := (tmF es dA x.b).2) (.inl rfl) f1.gn (by have := g1.rng; omega) f1.rng
  refine ⟨g1.trans (f1.trans p1), p2.trans ?_⟩
  have e1 := g1.val (z := z) (d := x.a) (by omega)
  have e2 := g1.val (z := z) (d := dB) b2
  rw [v1, g2, f2, e1, e2, a3, b1, a1, b3]
  unfold pm; rw [if_pos rfl]; grind
 ·obtain ⟨a1, a2, a3⟩ := ha (by omega)
  have a0 := ga (by omega)
  have n0 := gn k
  rw [if_neg (by omega), if_neg (by omega), if_neg (by omega), if_neg (by omega)]
  by_cases d1 : ds.getD x.a.toNat 0 = -1
  ·have e : slF es i x ds = (es, -1) := by unfold slF; dsimp only; rw [if_neg (by omega), if_neg (by omega), if_neg (by omega), if_neg (by omega), if_pos d1]
   rw [e]
   refine ⟨Ex.at h (by omega), ?_⟩
   show (0 : Cr) = _
   rw [d1] at a3
   have a3 : (0 : Cr) = va.b := a3
   rcases Nat.eq_zero_or_pos x.n.toNat with g | g
   ·rw [g] <;> rfl
   ·obtain ⟨m, hm⟩ : ∃ m, x.n.toNat = m + 1 := ⟨x.n.toNat - 1, by omega⟩
    rw [hm, arj, ← a3]; grind
  ·by_cases z0 : x.n = 0
   ·have e : slF es i x ds = (es, -1) := by unfold slF; dsimp only; rw [if_neg (by omega), if_neg (by omega), if_neg (by omega), if_neg (by omega), if_neg d1, if_pos k, if_pos z0]
    rw [e, z0]
    exact ⟨Ex.at h (by omega), rfl⟩
   ·have e : slF es i x ds = (let l := adF es ⟨7, x.a, 0, x.n - 1, RC.nil⟩; let c := adF l.1 (cN x.n); let t := tmF c.1 c.2 l.2; tmF t.1 t.2 (ds.getD x.a.toNat 0)) := by unfold slF; dsimp only; rw [if_neg (by omega), if_neg (by omega), if_neg (by omega), if_neg (by omega), if_neg d1, if_pos k, if_neg z0]
    rw [e]
    dsimp only
    generalize ds.getD x.a.toNat 0 = dA at *
    have q1 : Ex es (adF es ⟨7, x.a, 0, x.n - 1, RC.nil⟩) := Ex.ad h (aw7 (by omega) (by omega)) (.inr (.inr (.inr (.inr (.inr rfl))))) (jx ..)
    have q2 : vAt (adF es ⟨7, x.a, 0, x.n - 1, RC.nil⟩).1 z (adF es ⟨7, x.a, 0, x.n - 1, RC.nil⟩).2 = aj3 va.a (x.n - 1).toNat := by
     show vAt (es ++ [_]) z es.length = _
     rw [ae5]
     unfold ndC
     rw [if_neg (show ¬ (7 : Int) = 1 by decide), if_neg (show ¬ (7 : Int) = 2 by decide), if_neg (show ¬ (7 : Int) = 3 by decide), if_neg (show ¬ (7 : Int) = 4 by decide), if_neg (show ¬ (7 : Int) = 5 by decide)]
     dsimp only
     rw [so a0.1, a1]
    have l1 := q1.len
    obtain ⟨c1, c2⟩ := av3 (z := z) (n := x.n) q1.gn (by omega) (by omega)
    have l2 := c1.len
    have lr : -1 ≤ (adF es ⟨7, x.a, 0, x.n - 1, RC.nil⟩).2 ∧ (adF es ⟨7, x.a, 0, x.n - 1, RC.nil⟩).2 < (adF (adF es ⟨7, x.a, 0, x.n - 1, RC.nil⟩).1 (cN x.n)).1.length := by have := q1.rng; omega
    obtain ⟨t1, t2⟩ := ald (z := z) c1.gn c1.rng lr
    have l3 := t1.len
    obtain ⟨u1, u2⟩ := ald (z := z) (y := dA) t1.gn t1.rng (by omega)
    refine ⟨q1.trans (c1.trans (t1.trans u1)), u2.trans ?_⟩
    have w1 := t1.val (z := z) (d := dA) (by omega)
    have w2 := c1.val (z := z) (d := dA) (by omega)
    have w3 := q1.val (z := z) a2
    have w4 := c1.val (z := z) q1.rng
    rw [t2, w1, w2, w3, a3, c2, w4, q2]
    obtain ⟨m, hm⟩ : ∃ m, x.n.toNat = m + 1 := ⟨x.n.toNat - 1, by omega⟩
    rw [hm, arj, show (x.n - 1).toNat = m by omega]
    have := ahk (m + 1)
    rw [show (((m + 1 : Nat) : Int)) = x.n by omega] at this
    rw [this]
structure SV (xs : List Nd) (z : Cr) (i : Nat) (s : List Nd × List Int) : Prop where
 pre : ∃ t, s.1 = xs ++ t
 gn : Gn s.1
 dl : s.2.length = xs.length
 rng : ∀ j, -1 ≤ s.2.getD j 0 ∧ s.2.getD j 0 < s.1.length
 val : ∀ j, j < i → (akL xs xs.length).getD j false = true → vAt s.1 z (s.2.getD j 0) = ((duL xs ⟨z, 1⟩ xs.length).getD j (dcn 0)).b
theorem aij {ds : List Int} {i j : Nat} {v : Int} (h : i ≠ j) : (ds.set i v).getD j 0 = ds.getD j 0 := by
 rw [List.getD_eq_getElem?_getD, List.getElem?_set, if_neg h, List.getD_eq_getElem?_getD]
theorem a10 {xs t : List Nd} {z : Cr} {a : Int} (h : 0 ≤ a ∧ a < xs.length) : vAt (xs ++ t) z a = (cvL xs z xs.length).getD a.toNat 0 := by
 rw [ali t (by omega), so h.1]
theorem SV.step {xs : List Nd} {z : Cr} {i : Nat} {s : List Nd × List Int} (h : SV xs z i s) (hx : ∀ j, j < xs.length → dy (xs.getD j Nd.nil) j = true ∧ gk (xs.getD j Nd.nil)) (hi : i < xs.length) :
  SV xs z (i + 1) (slS s i (xs.getD i Nd.nil) ((akL xs xs.length).getD i false)) := by
 have hxx := hx i hi
 obtain ⟨ga, gb, gn⟩ := zt hxx.1
 have r1 := ae3 (i := i) (v := -1) h.rng (by omega)
 have hD := yq xs ⟨z, 1⟩ _ i hi
 obtain ⟨t0, e0⟩ := h.pre
 have hle : xs.length ≤ s.1.length := by rw [e0, List.length_append]; omega
 have old : ∀ j, j < i → (s.2.set i (-1)).getD j 0 = s.2.getD j 0 := fun j hj => aij (by omega)
 have va := fun a (ha : 0 ≤ a ∧ a < (i : Int)) => a4y (es := xs) z 1 hx a.toNat (by omega)
 unfold slS
 by_cases c : (akL xs xs.length).getD i false = true ∧ (xs.getD i Nd.nil).k ≠ 2
 ·rw [if_pos c]
  have hak := fun k3 => a2r (fun j hj => (hx j hj).1) hi c.1 k3
  have side : ∀ a : Int, 0 ≤ a ∧ a < (i : Int) → (akL xs xs.length).getD a.toNat false = true → vAt s.1 z a = ((duL xs ⟨z, 1⟩ xs.length).getD a.toNat (dcn 0)).a ∧ (-1 ≤ (s.2.set i (-1)).getD a.toNat 0 ∧ (s.2.set i (-1)).getD a.toNat 0 < s.1.length) ∧ vAt s.1 z ((s.2.set i (-1)).getD a.toNat 0) = ((duL xs ⟨z, 1⟩ xs.length).getD a.toNat (dcn 0)).b := fun a ha hk => by
   refine ⟨?_, r1 _, ?_⟩
   ·rw [va a ha, e0]; exact a10 (by omega)
   ·rw [old _ (by omega)]; exact h.val a.toNat (by omega) hk
  have ok := a39 (i := i) (x := xs.getD i Nd.nil) (ds := s.2.set i (-1)) (z := z) (va := (duL xs ⟨z, 1⟩ xs.length).getD (xs.getD i Nd.nil).a.toNat (dcn 0)) (vb := (duL xs ⟨z, 1⟩ xs.length).getD (xs.getD i Nd.nil).b.toNat (dcn 0)) h.gn (by omega) hxx.1 hxx.2 c.2
   (fun k3 => side _ (ga k3) (hak k3).1) (fun k3 k6 => side _ (gb k3 k6) ((hak k3).2 k6))
  have hval : ((duL xs ⟨z, 1⟩ xs.length).getD i (dcn 0)).b = if (xs.getD i Nd.nil).k = 1 then 1 else if (xs.getD i Nd.nil).k = 3 then ((duL xs ⟨z, 1⟩ xs.length).getD (xs.getD i Nd.nil).a.toNat (dcn 0)).b + ((duL xs ⟨z, 1⟩ xs.length).getD (xs.getD i Nd.nil).b.toNat (dcn 0)).b else if (xs.getD i Nd.nil).k = 4 then ((duL xs ⟨z, 1⟩ xs.length).getD (xs.getD i Nd.nil).a.toNat (dcn 0)).b - ((duL xs ⟨z, 1⟩ xs.length).getD (xs.getD i Nd.nil).b.toNat (dcn 0)).b else if (xs.getD i Nd.nil).k = 5 then ((duL xs ⟨z, 1⟩ xs.length).getD (xs.getD i Nd.nil).a.toNat (dcn 0)).a * ((duL xs ⟨z, 1⟩ xs.length).getD (xs.getD i Nd.nil).b.toNat (dcn 0)).b + ((duL xs ⟨z, 1⟩ xs.length).getD (xs.getD i Nd.nil).a.toNat (dcn 0)).b * ((duL xs ⟨z, 1⟩ xs.length).getD (xs.getD i Nd.nil).b.toNat (dcn 0)).a else (duP ((duL xs ⟨z, 1⟩ xs.length).getD (xs.getD i Nd.nil).a.toNat (dcn 0)) (xs.getD i Nd.nil).n.toNat).b := by
   rw [hD]
   have st := fun a (ha : 0 ≤ a ∧ a < (i : Int)) => z8 xs ⟨z, 1⟩ i xs.length a.toNat (by omega) (by omega)
   unfold amy
   rcases hxx.2 with k | k | k | k | k | k
   ·rw [if_pos k, if_pos k]
   ·exact absurd k c.2
   ·rw [if_neg (by omega), if_neg (by omega), if_pos k, if_neg (by omega), if_pos k, st _ (ga (by omega)), st _ (gb (by omega) (by omega))] <;> rfl
   ·rw [if_neg (by omega), if_neg (by omega), if_neg (by omega), if_pos k, if_neg (by omega), if_neg (by omega), if_pos k, st _ (ga (by omega)), st _ (gb (by omega) (by omega))]
    show _ + - _ = _ - _
    grind
   ·rw [if_neg (by omega), if_neg (by omega), if_neg (by omega), if_neg (by omega), if_pos k, if_neg (by omega), if_neg (by omega), if_neg (by omega), if_pos k, st _ (ga (by omega)), st _ (gb (by omega) (by omega))] <;> rfl
   ·rw [if_neg (by omega), if_neg (by omega), if_neg (by omega), if_neg (by omega), if_neg (by omega), if_neg (by omega), if_neg (by omega), if_neg (by omega), if_neg (by omega), st _ (ga (by omega))]
  rw [← hval] at ok
  generalize slF s.1 i (xs.getD i Nd.nil) (s.2.set i (-1)) = r at *
  obtain ⟨g1, g2⟩ := ok
  obtain ⟨t, e⟩ := g1.app
  have hl := g1.len
  refine ⟨⟨t0 ++ t, by dsimp only; rw [e, e0, List.append_assoc]⟩, g1.gn, by simp [h.dl], ?_, fun j hj hk => ?_⟩
  ·exact ae3 (m := r.1.length) (ds := s.2.set i (-1)) (fun j => ⟨(r1 j).1, by have := (r1 j).2; omega⟩) g1.rng
  ·dsimp only
   rcases Nat.lt_succ_iff_lt_or_eq.1 hj with g | rfl
   ·rw [aij (by omega), old _ g, g1.val (h.rng j)]
    exact h.val j g hk
   ·have : ((s.2.set j (-1)).set j r.2).getD j 0 = r.2 := by
     rw [List.getD_eq_getElem?_getD, List.getElem?_set, if_pos rfl, if_pos (by rw [List.length_set, h.dl]; exact hi)] <;> rfl
    rw [this]; exact g2
 ·rw [if_neg c]
  refine ⟨h.pre, h.gn, by simp [h.dl], r1, fun j hj hk => ?_⟩
  dsimp only
  rcases Nat.lt_succ_iff_lt_or_eq.1 hj with g | rfl
  ·rw [old _ g]; exact h.val j g hk
  ·have k2 : (xs.getD j Nd.nil).k = 2 := Classical.byContradiction fun g => c ⟨hk, g⟩
   have : (s.2.set j (-1)).getD j 0 = -1 := by
    rw [List.getD_eq_getElem?_getD, List.getElem?_set, if_pos rfl, if_pos (by rw [h.dl]; exact hi)] <;> rfl
   rw [this, hD]
   unfold amy
   rw [if_neg (by omega), if_pos k2] <;> rfl
theorem SV.all {xs : List Nd} (z : Cr) (n0 : 0 < xs.length) (hx : ∀ j, j < xs.length → dy (xs.getD j Nd.nil) j = true ∧ gk (xs.getD j Nd.nil)) (hf : ∀ j, j < xs.length → aeb (xs.getD j Nd.nil)) : ∀ i, i ≤ xs.length → SV xs z i (slL xs i)
 | 0, _ => ⟨⟨[], by simp [slL]⟩, ⟨fun j hj => ⟨(hx j hj).1, (hx j hj).2, hf j hj⟩⟩, by simp [slL], fun j => by
   have : (List.replicate xs.length (0 : Int)).getD j 0 = 0 := by
    rw [List.getD_eq_getElem?_getD, List.getElem?_replicate]; split <;> rfl
   rw [show (slL xs 0).2 = List.replicate xs.length 0 from rfl, this, show (slL xs 0).1 = xs from rfl]; omega, fun j hj => absurd hj (by omega)⟩
 | i + 1, h => (SV.all z n0 hx hf i (by omega)).step hx (by omega)
end Go.Ev.Ar

namespace Go.Ev.Ar
open Go Go.Ev Go.Proofs
def GQ (es r : List Nd) : Prop := ∃ t, r = es ++ t ∧ ∀ x ∈ t, aeb x
theorem GQ.refl (es : List Nd) : GQ es es := ⟨[], by simp, by simp⟩
theorem GQ.trans {a b c : List Nd} (h : GQ a b) (g : GQ b c) : GQ a c := by
 obtain ⟨t, e, f⟩ := h
 obtain ⟨u, e', f'⟩ := g
 refine ⟨t ++ u, by rw [e', e, List.append_assoc], fun x hx => ?_⟩
 rcases List.mem_append.1 hx with h | h
 ·exact f x h
 ·exact f' x h
theorem GQ.ad (es : List Nd) {x : Nd} (h : aeb x) : GQ es (adF es x).1 := ⟨[x], rfl, by simpa using h⟩
theorem GQ.tm (es : List Nd) (x y : Int) : GQ es (tmF es x y).1 := by
 unfold tmF; split
 ·exact .refl es
 ·exact .ad es (jx ..)
theorem GQ.pl (es : List Nd) (x y k : Int) : GQ es (plF es x y k).1 := by
 unfold plF; split
 ·exact .refl es
 ·split
  ·exact .refl es
  ·split
   ·exact (GQ.ad es (yk (n := 0) (by decide) (by decide) 0).2).trans (GQ.ad (es ++ [cN 0]) (jx ..))
   ·exact .ad es (jx ..)
theorem GQ.slF (es : List Nd) (i : Int) (n : Nd) (ds : List Int) (hn : n.k = 7 → 0 ≤ n.n ∧ n.n ≤ 64) : GQ es (slF es i n ds).1 := by
 unfold Ar.slF
 dsimp only
 generalize ds.getD n.a.toNat 0 = dA at *
 generalize ds.getD n.b.toNat 0 = dB at *
 split
 ·exact .ad es (yk (n := 1) (by decide) (by decide) 0).2
 split
 ·exact .pl es _ _ _
 split
 ·exact (GQ.tm es dA n.b).trans ((GQ.tm _ n.a dB).trans (GQ.pl _ _ _ _))
 split
 ·have g := (GQ.tm es dA n.b).trans ((GQ.tm _ n.a dB).trans (GQ.pl (tmF (tmF es dA n.b).1 n.a dB).1 (tmF es dA n.b).2 (tmF (tmF es dA n.b).1 n.a dB).2 4))
  generalize plF (tmF (tmF es dA n.b).1 n.a dB).1 (tmF es dA n.b).2 (tmF (tmF es dA n.b).1 n.a dB).2 4 = u at *
  split
  ·exact g
  ·exact g.trans ((GQ.tm u.1 n.b n.b).trans (GQ.ad _ (jx ..)))
 split
 ·exact .refl es
 split
 ·rename_i h7
  have hn := hn h7
  split
  ·exact .refl es
  ·exact (GQ.ad es (jx ..)).trans ((GQ.ad _ (yk (n := n.n) (by omega) (by omega) 0).2).trans ((GQ.tm _ _ _).trans (GQ.tm _ _ _)))
 split
 ·exact .tm es _ _
 split
 ·exact (GQ.ad es (jx ..)).trans (GQ.tm _ _ _)
 ·exact (GQ.ad es (jx ..)).trans ((GQ.ad _ (yk (n := -1) (by decide) (by decide) 0).2).trans ((GQ.tm _ _ _).trans (GQ.tm _ _ _)))
theorem GQ.all {xs : List Nd} (hn : ∀ i, i < xs.length → (xs.getD i Nd.nil).k = 7 → 0 ≤ (xs.getD i Nd.nil).n ∧ (xs.getD i Nd.nil).n ≤ 64) : ∀ i, i ≤ xs.length → GQ xs (slL xs i).1
 | 0, _ => .refl xs
 | i + 1, h => by
  refine (GQ.all hn i (by omega)).trans ?_
  show GQ _ (slS (slL xs i) i (xs.getD i Nd.nil) ((akL xs xs.length).getD i false)).1
  unfold slS
  split
  ·exact GQ.slF _ _ _ _ (hn i (by omega))
  ·exact .refl _
theorem GQ.few {xs es : List Nd} (h : GQ xs es) (hf : ∀ x ∈ xs, aeb x) : ∀ x ∈ es, aeb x := by
 obtain ⟨t, rfl, f⟩ := h
 intro x hx
 rcases List.mem_append.1 hx with h | h
 ·exact hf x h
 ·exact f x h
theorem Vl.a4r {p : Rq} {u : Cr} (h : Vl p u) : ∀ n, Vl (rm p n) (aj3 u n)
 | 0 => ⟨by show ai ≠ (0, 0); decide, by show tc ai = 1 * tc ai; grind⟩
 | n + 1 => (Vl.a4r h n).times h
theorem arl {es : List Nd} (z : Cq) (h : ∀ j, j < es.length → dy (es.getD j Nd.nil) j = true ∧ gk (es.getD j Nd.nil)) : ∀ i, i ≤ es.length → ∃ ps, wq es z i = some ps ∧ ∀ j, j < i → Vl (ps.getD j (ai, ai)) ((cvL es (tc z) i).getD j 0)
 | 0, _ => ⟨[], rfl, fun j h => absurd h (by omega)⟩
 | i + 1, hi => by
  obtain ⟨ps, h1, h2⟩ := arl z h i (by omega)
  have hl := af1 h1
  obtain ⟨hx, hg⟩ := h i (by omega)
  obtain ⟨ga, gb, gn⟩ := zt hx
  have va : ∀ a : Int, 0 ≤ a ∧ a < (i : Int) → Vl (ps.getD a.toNat (ai, ai)) ((cvL es (tc z) i).getD a.toNat 0) := fun a ha => h2 a.toNat (by omega)
  have main : ∃ q, eu ps (es.getD i Nd.nil) z = some q ∧ Vl q (ndC (cvL es (tc z) i) (es.getD i Nd.nil) (tc z)) := by
   generalize es.getD i Nd.nil = x at *
   unfold ndC
   rcases hg with k | k | k | k | k | k
   ·rw [if_pos k]
    exact ⟨_, by unfold eu jn; rw [if_neg (by omega), if_neg (by omega), if_pos k], alm z⟩
   ·rw [if_neg (by omega), if_pos k]
    exact ⟨_, by unfold eu jn; rw [if_neg (by omega), if_neg (by omega), if_neg (by omega), if_pos k], alm _⟩
   ·rw [if_neg (by omega), if_neg (by omega), if_pos k]
    exact ⟨_, by unfold eu; rw [if_pos k], (va _ (ga (by omega))).a5b (va _ (gb (by omega) (by omega)))⟩
   ·rw [if_neg (by omega), if_neg (by omega), if_neg (by omega), if_pos k]
    exact ⟨_, by unfold eu; rw [if_neg (by omega), if_pos k], (va _ (ga (by omega))).a5t (va _ (gb (by omega) (by omega)))⟩
   ·rw [if_neg (by omega), if_neg (by omega), if_neg (by omega), if_neg (by omega), if_pos k]
    exact ⟨_, by unfold eu jn; rw [if_neg (by omega), if_neg (by omega), if_neg (by omega), if_neg (by omega), if_neg (by omega), if_neg (by omega), if_pos k], (va _ (ga (by omega))).times (va _ (gb (by omega) (by omega)))⟩
   ·rw [if_neg (by omega), if_neg (by omega), if_neg (by omega), if_neg (by omega), if_neg (by omega)]
    exact ⟨_, by unfold eu jn; rw [if_neg (by omega), if_neg (by omega), if_neg (by omega), if_neg (by omega), if_neg (by omega), if_neg (by omega), if_neg (by omega), if_neg (by omega), if_pos k], (va _ (ga (by omega))).a4r _⟩
  obtain ⟨q, hq, hv⟩ := main
  refine ⟨ps ++ [q], aie h1 rfl hq hv.ne, fun j hj => ?_⟩
  rcases Nat.lt_succ_iff_lt_or_eq.1 hj with g | rfl
  ·rw [kp (by rw [hl]; exact g), u6 es (tc z) (i + 1) i j (by omega) g]; exact h2 j g
  ·have e := gj ps q (ai, ai)
   rw [hl] at e
   rw [e, yl es (tc z) _ j (by omega)]; exact hv
def slN (es : List Nd) (d : Int) : List Nd := if d = -1 then [⟨2, 0, 0, 0, RC.nil⟩] else es.take (d + 1).toNat
theorem auz {xs : List Nd} {es : List Nd} {d : Int} {lv : List (List Cq)} (z : Cq) (n0 : 0 < xs.length) (hx : ∀ j, j < xs.length → dy (xs.getD j Nd.nil) j = true) (hf : ∀ j, j < xs.length → aeb (xs.getD j Nd.nil)) (hp : poL xs xs.length = some lv) (hes : (slL xs xs.length).1 = es) (hd : (slL xs xs.length).2.getD (xs.length - 1) 0 = d) :
  ∃ ps, wq (slN es d) z (slN es d).length = some ps ∧ ps.length = (slN es d).length ∧ 0 < ps.length ∧ Vl (ps.getD (ps.length - 1) (ai, ai)) (tc (atP (zj (lv.getD (lv.length - 1) [])) z)) := by
 obtain ⟨hg, _⟩ := ak1 ⟨tc z, 0⟩ hx _ (Nat.le_refl _) lv hp
 obtain ⟨_, hval⟩ := ak1 ⟨tc z, 1⟩ hx _ (Nat.le_refl _) lv hp
 have hxx : ∀ j, j < xs.length → dy (xs.getD j Nd.nil) j = true ∧ gk (xs.getD j Nd.nil) := fun j hj => ⟨hx j hj, hg j hj⟩
 have sv := SV.all (tc z) n0 hxx hf xs.length (Nat.le_refl _)
 have v := sv.val (xs.length - 1) (by omega) (avn n0)
 have rg := sv.rng (xs.length - 1)
 have gn := sv.gn
 rw [hd, hes] at v rg
 rw [hes] at gn
 rw [a3y, ax4, vv hp, hval _ (by omega), ← v]
 unfold slN
 by_cases h : d = -1
 ·rw [if_pos h, h]
  refine ⟨[((RC.nil : RC).val, ai)], rfl, rfl, by simp, ?_⟩
  have := alm (RC.nil : RC).val
  show Vl (((RC.nil : RC).val, ai) : Rq) 0
  have e : tc (RC.nil : RC).val = 0 := by
   rw [show (RC.nil : RC).val = (0, 0) by kernel_rfl]; exact p6
  rw [e] at this; exact this
 ·rw [if_neg h]
  have hl : (es.take (d + 1).toNat).length = (d + 1).toNat := by rw [List.length_take]; omega
  have gt := gn.take (d + 1).toNat
  obtain ⟨ps, h1, h2⟩ := arl z (fun j hj => ⟨(gt.nd j hj).1, (gt.nd j hj).2.1⟩) _ (Nat.le_refl _)
  have pl := af1 h1
  refine ⟨ps, h1, pl, by omega, ?_⟩
  have k := h2 (ps.length - 1) (by omega)
  have e : vAt es (tc z) d = (cvL (es.take (d + 1).toNat) (tc z) (es.take (d + 1).toNat).length).getD (ps.length - 1) 0 := by
   have ap := aem (es.take (d + 1).toNat) (es.drop (d + 1).toNat) (tc z) _ (Nat.le_refl _)
   rw [List.take_append_drop] at ap
   rw [← ap]
   unfold vAt
   rw [if_neg h, show ps.length - 1 = d.toNat by omega]
   exact u6 es (tc z) _ _ _ (by omega) (by omega)
  rw [e]; exact k
end Go.Ev.Ar
