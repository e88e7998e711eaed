/- Contracts of the given functions, on data. Conditions stand in each theorem. -/
import Derived.BigCall
import Derived.BigGuard
import Derived.Deep.RegionWith
import Derived.Shelf.RegionOpenPlain
import Derived.Test.YtdpjainjjpjldaaDoorGEvK
import Derived.Test.YtdpjainjjpjldaaDoorGAtRefA
set_option linter.unusedSimpArgs false
set_option linter.unusedVariables false
-- STR
namespace Go.Ev.Ar
open Go Go.Ev Go.Proofs Go.RowKit
def lbD (l : List UInt8) : List D := l.map fun x => D.int .u8 (x.toNat : Int)
theorem vu (l : List UInt8) : lb l = (lbD l).map A.d := by simp [lb, lbD]
theorem aju (ρ : List (Nat × Nat)) (l : List UInt8) : A.lj ρ (lb l) = lb l := by rw [vu, A.l5]
theorem ajt (ρ : List (Nat × Nat)) (b : Nat) (l : List UInt8) (c : Nat) (h : rn ρ b = c) : re ρ [(b, false, lb l)] = [(c, false, lb l)] := by
 simp [re, aju, h]
theorem akz (l m : List UInt8) (n : Nat) (h : l.length = n) : ((lbD (l ++ m)).drop 0).take n = l.map fun x => D.int .u8 (x.toNat : Int) := by
 rw [List.drop_zero, lbD, List.map_append, List.take_left' (by simpa using h)]
theorem acx (v : Nat) (h : v < 18446744073709551616) : Sim Tryd.prog G0 true 49 [.int .u64 v, .int .i64 10] (.str (bst (fu 10 v))) := by
 by_cases h1 : v < 100
 ·have s := af3 v h1
  refine cl ay Tryd.func49 ?_
  repeat' ((conv => whnf); first | refine aw.data ?_ | with_reducible refine Br.bt fun _ => ?_ | refine cE s ?_ | refine rgE ?_ | refine Cd.mk rfl ?_ | refine Br.t ?_ | refine Br.f ?_ | with_reducible refine Br.dec (fun _ => ?_) (fun _ => ?_) | with_reducible refine Br.br (fun _ => ?_) (fun _ => ?_) | refine Br.mk (fun _ => ?_) (fun _ => ?_) | refine ao.mk _ (az _ _ (by omega)) ?_ | refine ao.mk _ (a6 _ _ (by omega)) ?_ | refine ao.mk _ (cv _ _ _ (by first | with_reducible exact af _ | with_reducible exact ab _ | exact af _ | exact ab _ | rfl) (by first | omega | (simp only [List.length_set]; omega))) ?_ | refine ao.mk _ rfl ?_ | refine And.intro (fun _ => ?_) ?_ | (refine TkE.fL ?_; (conv => whnf); fail_if_success (show ag _ _)) | refine TkE.mk _ rfl rfl ?_ | refine Res.mk ?_ | refine a8.mk (by repeat first | exact True.intro | refine And.intro (by kernel_rfl) ?_) ?_ | refine DsE.mk (ba _) rfl ?_ | refine DsE.mk [] rfl ?_ | refine ai.cu _ _ ?_ | ((with_reducible refine EqE.idT ?_); first | ((conv => arg 1; simp only [ak, List.toList_toArray, an, ae, aa, Int.toNat_natCast, Int.toNat_zero, Int.toNat_one, b4, b5, List.drop_zero, Nat.sub_zero, List.cons_append, List.nil_append]); refine EqE.mk _ rfl ?_) | refine EqE.mk _ rfl ?_) | ((with_reducible refine EqE.idP ?_); first | ((conv => arg 1; simp only [ak, List.toList_toArray, bz, b3]); refine EqE.mk _ rfl ?_) | refine EqE.mk _ rfl ?_) | ((with_reducible refine EqE.idN ?_); first | ((conv => arg 1; simp only [ak, List.toList_toArray, aa, bb, Int.toNat_natCast, Int.toNat_zero, Int.toNat_one, List.length_cons, List.length_nil, Nat.zero_add]); refine EqE.mk _ rfl ?_)) | ((with_reducible refine EqE.idW ?_); first | with_reducible refine EqE.mk _ (av _) ?_ | with_reducible refine EqE.mk _ (ed _ _ (by omega)) ?_ | with_reducible refine EqE.mk _ (bx _ (by omega)) ?_ | with_reducible refine EqE.mk _ (et _ _ (by omega) (by omega)) ?_ | with_reducible refine EqE.mk _ (ep _ _ (by omega)) ?_ | with_reducible refine EqE.mk _ (eg _ _ (by omega) (by omega)) ?_ | with_reducible refine EqE.mk _ (c6 _ (by omega)) ?_ | with_reducible refine EqE.mk _ (dd _ (by omega)) ?_ | with_reducible refine EqE.mk _ (n_and1_32 _ (by omega)) ?_ | with_reducible refine EqE.mk _ (eo _ _ (by omega) (by omega)) ?_ | with_reducible refine EqE.mk _ (ig _ _ (by omega) (by omega)) ?_ | refine EqE.mk _ (er _ 32 (by omega)) ?_ | with_reducible refine EqE.mk _ (cc _) ?_ | with_reducible refine EqE.mk _ (gu _) ?_ | with_reducible refine EqE.mk _ (ey _ (by omega)) ?_ | with_reducible refine EqE.mk _ (a7 _ (by omega)) ?_ | with_reducible refine EqE.mk _ (ar _ (by omega)) ?_ | with_reducible refine EqE.mk _ (n_iadd _ _ (by omega)) ?_ | with_reducible refine EqE.mk _ (wrap_u64 (by omega) (by omega)) ?_ | with_reducible refine EqE.mk _ (wrap_u32 _) ?_ | with_reducible refine EqE.mk _ (ah (by omega) (by omega)) ?_ | refine EqE.mk _ rfl ?_) | ((with_reducible refine EqE.idF ?_); first | with_reducible refine EqE.mk _ (n_shr63 _) ?_ | with_reducible refine EqE.mk _ (cg _ _ (by omega)) ?_ | with_reducible refine EqE.mk _ (n_shrv32 _ _ (by omega)) ?_ | with_reducible refine EqE.mk _ (n_shr1_32 _) ?_ | refine EqE.mk _ (aj _ 4294967296 _ _ rfl) ?_ | refine EqE.mk _ (aj _ 65536 _ _ rfl) ?_ | refine EqE.mk _ (aj _ 256 _ _ rfl) ?_ | refine EqE.mk _ (aj _ 134217728 _ _ rfl) ?_ | refine EqE.mk _ (aj _ 2 _ _ rfl) ?_ | refine EqE.mk _ (aj _ 16 _ _ rfl) ?_ | refine EqE.mk _ rfl ?_) | ((with_reducible refine EqE.idM ?_); first | refine EqE.mk _ (bm _ 32) ?_ | refine EqE.mk _ (bm _ _) ?_ | refine EqE.mk _ rfl ?_) | ((with_reducible refine EqE.idI ?_); first | refine EqE.mk _ (ib _) ?_ | with_reducible refine EqE.mk _ (b9 _ _) ?_ | refine EqE.mk _ (max_eq _ _) ?_ | refine EqE.mk _ (min_eq _ _) ?_) | ((with_reducible refine EqE.idS ?_); first | refine EqE.mk _ (bo _ _ _ _ (by first | with_reducible exact af _ | with_reducible exact ab _ | exact af _ | exact ab _ | rfl) (by first | omega | (simp only [List.length_set]; omega)) (by omega)) ?_ | refine EqE.mk _ (db _ _ _ _ (by first | with_reducible exact af _ | with_reducible exact ab _ | exact af _ | exact ab _ | rfl) (by omega) (by omega) (by omega)) ?_ | (refine EqE.fP ?_; (conv => whnf); fail_if_success (show ag _ _)) | refine EqE.mk _ rfl ?_) | ((with_reducible refine EqE.idA ?_); first | refine EqE.mk _ (b8 _) ?_ | refine EqE.mk _ (da _ _) ?_ | refine EqE.mk _ rfl ?_) | ((with_reducible refine EqE.idR ?_); first | refine EqE.mk _ (ca _) ?_ | refine EqE.mk _ rfl ?_) | ((with_reducible refine EqE.idL ?_); first | refine EqE.mk _ (ax _ _ _ _ (by omega) (by omega) rfl) ?_ | refine EqE.mk _ (sl_sliceN _ _ (by omega)) ?_ | refine EqE.mk _ (bn _ _ _ (by omega) (by omega) (by omega)) ?_ | refine EqE.mk _ rfl ?_) | refine EqE.mk _ rfl ?_ | refine Cd.ro ?_ | refine Cd.dc ?_ | refine Cd.ob ?_ | refine Cd.ol ?_ | refine Cd.mk ⟨rfl, rfl⟩ ?_ | refine Cd.mk (bd _) ?_ | refine Cd.om ?_ | refine Cd.mk ?_ ?_ | refine DsE.mk [_] rfl ?_ | refine DsE.mk [_, _, _] rfl ?_)
  rfl
 ·have h0 : v ≠ 0 := by omega
  have hn := jr (b := 10) (by omega) 20 v (by omega)
  obtain ⟨n, hnn⟩ : ∃ n, (dg 10 v).length = n := ⟨_, rfl⟩
  have s1 := abf v h0 h
  have s2 := ag9 v [0, 0, 0, 0, 0, 0, 0, 0, 0, 0, 0, 0, 0, 0, 0, 0, 0, 0, 0, 0, 0, 0, 0, 0] h0 h (by simp; omega) (by simp)
  rw [hnn] at s1 s2 hn
  obtain ⟨z, hz⟩ : ∃ z, [(0 : UInt8), 0, 0, 0, 0, 0, 0, 0, 0, 0, 0, 0, 0, 0, 0, 0, 0, 0, 0, 0, 0, 0, 0, 0].drop n = z := ⟨_, rfl⟩
  rw [hz] at s2
  have hl : ((dg 10 v).map ch).length = n := by simpa using hnn
  have hzl : z.length = 24 - n := by rw [← hz]; simp
  have hL : (lb ((dg 10 v).map ch ++ z)).length = 24 := by simp only [lb, List.length_map, List.length_append, hzl] at *; omega
  refine cl ay Tryd.func49 ?_
  repeat' ((conv => whnf); first | refine aw.own (ni.au s2 [(1000000, 5)] [] (.d (.tup [])) [(5, false, lb ((dg 10 v).map ch ++ z))] [] ?_ (ho := ajt _ _ _ _ rfl)) | refine aw.data ?_ | with_reducible refine Br.bf fun _ => ?_ | with_reducible refine Br.bt fun _ => ?_ | refine cE s1 ?_ | refine DsE.mk _ (vu _) ?_ | refine BtE.mk _ (akz _ _ _ hl) ?_ | refine rgE ?_ | refine Cd.mk rfl ?_ | refine Br.t ?_ | refine Br.f ?_ | with_reducible refine Br.dec (fun _ => ?_) (fun _ => ?_) | with_reducible refine Br.br (fun _ => ?_) (fun _ => ?_) | refine Br.mk (fun _ => ?_) (fun _ => ?_) | refine ao.mk _ (az _ _ (by omega)) ?_ | refine ao.mk _ (a6 _ _ (by omega)) ?_ | refine ao.mk _ (cv _ _ _ (by first | with_reducible exact af _ | with_reducible exact ab _ | exact af _ | exact ab _ | rfl) (by first | omega | (simp only [List.length_set]; omega))) ?_ | refine ao.mk _ rfl ?_ | refine And.intro (fun _ => ?_) ?_ | (refine TkE.fL ?_; (conv => whnf); fail_if_success (show ag _ _)) | refine TkE.mk _ rfl rfl ?_ | refine Res.mk ?_ | refine a8.mk (by repeat first | exact True.intro | refine And.intro (by kernel_rfl) ?_) ?_ | refine DsE.mk (ba _) rfl ?_ | refine DsE.mk [] rfl ?_ | refine ai.cu _ _ ?_ | ((with_reducible refine EqE.idT ?_); first | ((conv => arg 1; simp only [ak, List.toList_toArray, an, ae, aa, Int.toNat_natCast, Int.toNat_zero, Int.toNat_one, b4, b5, List.drop_zero, Nat.sub_zero, List.cons_append, List.nil_append]); refine EqE.mk _ rfl ?_) | refine EqE.mk _ rfl ?_) | ((with_reducible refine EqE.idP ?_); first | ((conv => arg 1; simp only [ak, List.toList_toArray, bz, b3]); refine EqE.mk _ rfl ?_) | refine EqE.mk _ rfl ?_) | ((with_reducible refine EqE.idN ?_); first | ((conv => arg 1; simp only [ak, List.toList_toArray, aa, bb, Int.toNat_natCast, Int.toNat_zero, Int.toNat_one, List.length_cons, List.length_nil, Nat.zero_add]); refine EqE.mk _ rfl ?_)) | ((with_reducible refine EqE.idW ?_); first | with_reducible refine EqE.mk _ (av _) ?_ | with_reducible refine EqE.mk _ (ed _ _ (by omega)) ?_ | with_reducible refine EqE.mk _ (bx _ (by omega)) ?_ | with_reducible refine EqE.mk _ (et _ _ (by omega) (by omega)) ?_ | with_reducible refine EqE.mk _ (ep _ _ (by omega)) ?_ | with_reducible refine EqE.mk _ (eg _ _ (by omega) (by omega)) ?_ | with_reducible refine EqE.mk _ (c6 _ (by omega)) ?_ | with_reducible refine EqE.mk _ (dd _ (by omega)) ?_ | with_reducible refine EqE.mk _ (n_and1_32 _ (by omega)) ?_ | with_reducible refine EqE.mk _ (eo _ _ (by omega) (by omega)) ?_ | with_reducible refine EqE.mk _ (ig _ _ (by omega) (by omega)) ?_ | refine EqE.mk _ (er _ 32 (by omega)) ?_ | with_reducible refine EqE.mk _ (cc _) ?_ | with_reducible refine EqE.mk _ (gu _) ?_ | with_reducible refine EqE.mk _ (ey _ (by omega)) ?_ | with_reducible refine EqE.mk _ (a7 _ (by omega)) ?_ | with_reducible refine EqE.mk _ (ar _ (by omega)) ?_ | with_reducible refine EqE.mk _ (n_iadd _ _ (by omega)) ?_ | with_reducible refine EqE.mk _ (wrap_u64 (by omega) (by omega)) ?_ | with_reducible refine EqE.mk _ (wrap_u32 _) ?_ | with_reducible refine EqE.mk _ (ah (by omega) (by omega)) ?_ | refine EqE.mk _ rfl ?_) | ((with_reducible refine EqE.idF ?_); first | with_reducible refine EqE.mk _ (n_shr63 _) ?_ | with_reducible refine EqE.mk _ (cg _ _ (by omega)) ?_ | with_reducible refine EqE.mk _ (n_shrv32 _ _ (by omega)) ?_ | with_reducible refine EqE.mk _ (n_shr1_32 _) ?_ | refine EqE.mk _ (aj _ 4294967296 _ _ rfl) ?_ | refine EqE.mk _ (aj _ 65536 _ _ rfl) ?_ | refine EqE.mk _ (aj _ 256 _ _ rfl) ?_ | refine EqE.mk _ (aj _ 134217728 _ _ rfl) ?_ | refine EqE.mk _ (aj _ 2 _ _ rfl) ?_ | refine EqE.mk _ (aj _ 16 _ _ rfl) ?_ | refine EqE.mk _ rfl ?_) | ((with_reducible refine EqE.idM ?_); first | refine EqE.mk _ (bm _ 32) ?_ | refine EqE.mk _ (bm _ _) ?_ | refine EqE.mk _ rfl ?_) | ((with_reducible refine EqE.idI ?_); first | refine EqE.mk _ (ib _) ?_ | with_reducible refine EqE.mk _ (b9 _ _) ?_ | refine EqE.mk _ (max_eq _ _) ?_ | refine EqE.mk _ (min_eq _ _) ?_) | ((with_reducible refine EqE.idS ?_); first | refine EqE.mk _ (bo _ _ _ _ (by first | with_reducible exact af _ | with_reducible exact ab _ | exact af _ | exact ab _ | rfl) (by first | omega | (simp only [List.length_set]; omega)) (by omega)) ?_ | refine EqE.mk _ (db _ _ _ _ (by first | with_reducible exact af _ | with_reducible exact ab _ | exact af _ | exact ab _ | rfl) (by omega) (by omega) (by omega)) ?_ | (refine EqE.fP ?_; (conv => whnf); fail_if_success (show ag _ _)) | refine EqE.mk _ rfl ?_) | ((with_reducible refine EqE.idA ?_); first | refine EqE.mk _ (b8 _) ?_ | refine EqE.mk _ (da _ _) ?_ | refine EqE.mk _ rfl ?_) | ((with_reducible refine EqE.idR ?_); first | refine EqE.mk _ (ca _) ?_ | refine EqE.mk _ rfl ?_) | ((with_reducible refine EqE.idL ?_); first | refine EqE.mk _ (ax _ _ _ _ (by omega) (by omega) rfl) ?_ | refine EqE.mk _ (sl_sliceN _ _ (by omega)) ?_ | refine EqE.mk _ (bn _ _ _ (by omega) (by omega) (by omega)) ?_ | refine EqE.mk _ rfl ?_) | refine EqE.mk _ rfl ?_ | refine Cd.ro ?_ | refine Cd.dc ?_ | refine Cd.ob ?_ | refine Cd.ol ?_ | refine Cd.mk ⟨rfl, rfl⟩ ?_ | refine Cd.mk (bd _) ?_ | refine Cd.om ?_ | refine Cd.mk ?_ ?_ | refine DsE.mk [_] rfl ?_ | refine DsE.mk [_, _, _] rfl ?_)
  show D.str _ = D.str _
  rw [fu, if_neg h0, fp]
theorem air : Sim Tryd.prog G0 true 89 [.int .u64 16] (.int .i64 4) := by
 refine cl ay Tryd.func89 ?_
 repeat' ((conv => whnf); first | refine aw.data ?_ | refine rgE ?_ | refine Cd.mk rfl ?_ | refine Br.t ?_ | refine Br.f ?_ | with_reducible refine Br.dec (fun _ => ?_) (fun _ => ?_) | with_reducible refine Br.br (fun _ => ?_) (fun _ => ?_) | refine Br.mk (fun _ => ?_) (fun _ => ?_) | refine ao.mk _ (az _ _ (by omega)) ?_ | refine ao.mk _ (a6 _ _ (by omega)) ?_ | refine ao.mk _ (cv _ _ _ (by first | with_reducible exact af _ | with_reducible exact ab _ | exact af _ | exact ab _ | rfl) (by first | omega | (simp only [List.length_set]; omega))) ?_ | refine ao.mk _ rfl ?_ | refine And.intro (fun _ => ?_) ?_ | (refine TkE.fL ?_; (conv => whnf); fail_if_success (show ag _ _)) | refine TkE.mk _ rfl rfl ?_ | refine Res.mk ?_ | refine a8.mk (by repeat first | exact True.intro | refine And.intro (by kernel_rfl) ?_) ?_ | refine DsE.mk (ba _) rfl ?_ | refine DsE.mk [] rfl ?_ | refine ai.cu _ _ ?_ | ((with_reducible refine EqE.idT ?_); first | ((conv => arg 1; simp only [ak, List.toList_toArray, an, ae, aa, Int.toNat_natCast, Int.toNat_zero, Int.toNat_one, b4, b5, List.drop_zero, Nat.sub_zero, List.cons_append, List.nil_append]); refine EqE.mk _ rfl ?_) | refine EqE.mk _ rfl ?_) | ((with_reducible refine EqE.idP ?_); first | ((conv => arg 1; simp only [ak, List.toList_toArray, bz, b3]); refine EqE.mk _ rfl ?_) | refine EqE.mk _ rfl ?_) | ((with_reducible refine EqE.idN ?_); first | ((conv => arg 1; simp only [ak, List.toList_toArray, aa, bb, Int.toNat_natCast, Int.toNat_zero, Int.toNat_one, List.length_cons, List.length_nil, Nat.zero_add]); refine EqE.mk _ rfl ?_)) | ((with_reducible refine EqE.idW ?_); first | refine EqE.mk 18446744073709551600 (by decide) ?_ | refine EqE.mk 16 (by decide) ?_ | refine EqE.mk 4573923408821661840 (by decide) ?_ | refine EqE.mk 4 (by decide) ?_ | with_reducible refine EqE.mk _ (av _) ?_ | with_reducible refine EqE.mk _ (ed _ _ (by omega)) ?_ | with_reducible refine EqE.mk _ (bx _ (by omega)) ?_ | with_reducible refine EqE.mk _ (et _ _ (by omega) (by omega)) ?_ | with_reducible refine EqE.mk _ (ep _ _ (by omega)) ?_ | with_reducible refine EqE.mk _ (eg _ _ (by omega) (by omega)) ?_ | with_reducible refine EqE.mk _ (c6 _ (by omega)) ?_ | with_reducible refine EqE.mk _ (dd _ (by omega)) ?_ | with_reducible refine EqE.mk _ (n_and1_32 _ (by omega)) ?_ | with_reducible refine EqE.mk _ (eo _ _ (by omega) (by omega)) ?_ | with_reducible refine EqE.mk _ (ig _ _ (by omega) (by omega)) ?_ | refine EqE.mk _ (er _ 32 (by omega)) ?_ | with_reducible refine EqE.mk _ (cc _) ?_ | with_reducible refine EqE.mk _ (gu _) ?_ | with_reducible refine EqE.mk _ (ey _ (by omega)) ?_ | with_reducible refine EqE.mk _ (a7 _ (by omega)) ?_ | with_reducible refine EqE.mk _ (ar _ (by omega)) ?_ | with_reducible refine EqE.mk _ (n_iadd _ _ (by omega)) ?_ | with_reducible refine EqE.mk _ (wrap_u64 (by omega) (by omega)) ?_ | with_reducible refine EqE.mk _ (wrap_u32 _) ?_ | with_reducible refine EqE.mk _ (ah (by omega) (by omega)) ?_ | refine EqE.mk _ rfl ?_) | ((with_reducible refine EqE.idF ?_); first | refine EqE.mk 15 (by decide) ?_ | with_reducible refine EqE.mk _ (n_shr63 _) ?_ | with_reducible refine EqE.mk _ (cg _ _ (by omega)) ?_ | with_reducible refine EqE.mk _ (n_shrv32 _ _ (by omega)) ?_ | with_reducible refine EqE.mk _ (n_shr1_32 _) ?_ | refine EqE.mk _ (aj _ 4294967296 _ _ rfl) ?_ | refine EqE.mk _ (aj _ 65536 _ _ rfl) ?_ | refine EqE.mk _ (aj _ 256 _ _ rfl) ?_ | refine EqE.mk _ (aj _ 134217728 _ _ rfl) ?_ | refine EqE.mk _ (aj _ 2 _ _ rfl) ?_ | refine EqE.mk _ (aj _ 16 _ _ rfl) ?_ | refine EqE.mk _ rfl ?_) | ((with_reducible refine EqE.idM ?_); first | refine EqE.mk _ (bm _ 32) ?_ | refine EqE.mk _ (bm _ _) ?_ | refine EqE.mk _ rfl ?_) | ((with_reducible refine EqE.idI ?_); first | refine EqE.mk _ (ib _) ?_ | with_reducible refine EqE.mk _ (b9 _ _) ?_ | refine EqE.mk _ (max_eq _ _) ?_ | refine EqE.mk _ (min_eq _ _) ?_) | ((with_reducible refine EqE.idS ?_); first | refine EqE.mk _ (bo _ _ _ _ (by first | with_reducible exact af _ | with_reducible exact ab _ | exact af _ | exact ab _ | rfl) (by first | omega | (simp only [List.length_set]; omega)) (by omega)) ?_ | refine EqE.mk _ (db _ _ _ _ (by first | with_reducible exact af _ | with_reducible exact ab _ | exact af _ | exact ab _ | rfl) (by omega) (by omega) (by omega)) ?_ | (refine EqE.fP ?_; (conv => whnf); fail_if_success (show ag _ _)) | refine EqE.mk _ rfl ?_) | ((with_reducible refine EqE.idA ?_); first | refine EqE.mk _ (b8 _) ?_ | refine EqE.mk _ (da _ _) ?_ | refine EqE.mk _ rfl ?_) | ((with_reducible refine EqE.idR ?_); first | refine EqE.mk _ (ca _) ?_ | refine EqE.mk _ rfl ?_) | ((with_reducible refine EqE.idL ?_); first | refine EqE.mk _ (ax _ _ _ _ (by omega) (by omega) rfl) ?_ | refine EqE.mk _ (sl_sliceN _ _ (by omega)) ?_ | refine EqE.mk _ (bn _ _ _ (by omega) (by omega) (by omega)) ?_ | refine EqE.mk _ rfl ?_) | refine EqE.mk _ rfl ?_ | refine Cd.ro ?_ | refine Cd.dc ?_ | refine Cd.ob ?_ | refine Cd.ol ?_ | refine Cd.mk ⟨rfl, rfl⟩ ?_ | refine Cd.mk (bd _) ?_ | refine Cd.om ?_ | refine Cd.mk ?_ ?_ | refine DsE.mk [_] rfl ?_ | refine DsE.mk [_, _, _] rfl ?_)
 rfl
theorem amb : Sim Tryd.prog G0 true 78 [.int .u64 16] (.int .i64 4) := by
 refine cl ay Tryd.func78 ?_
 repeat' ((conv => whnf); first | refine aw.data ?_ | refine cE air ?_ | refine rgE ?_ | refine Cd.mk rfl ?_ | refine Br.t ?_ | refine Br.f ?_ | with_reducible refine Br.dec (fun _ => ?_) (fun _ => ?_) | with_reducible refine Br.br (fun _ => ?_) (fun _ => ?_) | refine Br.mk (fun _ => ?_) (fun _ => ?_) | refine ao.mk _ (az _ _ (by omega)) ?_ | refine ao.mk _ (a6 _ _ (by omega)) ?_ | refine ao.mk _ (cv _ _ _ (by first | with_reducible exact af _ | with_reducible exact ab _ | exact af _ | exact ab _ | rfl) (by first | omega | (simp only [List.length_set]; omega))) ?_ | refine ao.mk _ rfl ?_ | refine And.intro (fun _ => ?_) ?_ | (refine TkE.fL ?_; (conv => whnf); fail_if_success (show ag _ _)) | refine TkE.mk _ rfl rfl ?_ | refine Res.mk ?_ | refine a8.mk (by repeat first | exact True.intro | refine And.intro (by kernel_rfl) ?_) ?_ | refine DsE.mk (ba _) rfl ?_ | refine DsE.mk [] rfl ?_ | refine ai.cu _ _ ?_ | ((with_reducible refine EqE.idT ?_); first | ((conv => arg 1; simp only [ak, List.toList_toArray, an, ae, aa, Int.toNat_natCast, Int.toNat_zero, Int.toNat_one, b4, b5, List.drop_zero, Nat.sub_zero, List.cons_append, List.nil_append]); refine EqE.mk _ rfl ?_) | refine EqE.mk _ rfl ?_) | ((with_reducible refine EqE.idP ?_); first | ((conv => arg 1; simp only [ak, List.toList_toArray, bz, b3]); refine EqE.mk _ rfl ?_) | refine EqE.mk _ rfl ?_) | ((with_reducible refine EqE.idN ?_); first | ((conv => arg 1; simp only [ak, List.toList_toArray, aa, bb, Int.toNat_natCast, Int.toNat_zero, Int.toNat_one, List.length_cons, List.length_nil, Nat.zero_add]); refine EqE.mk _ rfl ?_)) | ((with_reducible refine EqE.idW ?_); first | with_reducible refine EqE.mk _ (av _) ?_ | with_reducible refine EqE.mk _ (ed _ _ (by omega)) ?_ | with_reducible refine EqE.mk _ (bx _ (by omega)) ?_ | with_reducible refine EqE.mk _ (et _ _ (by omega) (by omega)) ?_ | with_reducible refine EqE.mk _ (ep _ _ (by omega)) ?_ | with_reducible refine EqE.mk _ (eg _ _ (by omega) (by omega)) ?_ | with_reducible refine EqE.mk _ (c6 _ (by omega)) ?_ | with_reducible refine EqE.mk _ (dd _ (by omega)) ?_ | with_reducible refine EqE.mk _ (n_and1_32 _ (by omega)) ?_ | with_reducible refine EqE.mk _ (eo _ _ (by omega) (by omega)) ?_ | with_reducible refine EqE.mk _ (ig _ _ (by omega) (by omega)) ?_ | refine EqE.mk _ (er _ 32 (by omega)) ?_ | with_reducible refine EqE.mk _ (cc _) ?_ | with_reducible refine EqE.mk _ (gu _) ?_ | with_reducible refine EqE.mk _ (ey _ (by omega)) ?_ | with_reducible refine EqE.mk _ (a7 _ (by omega)) ?_ | with_reducible refine EqE.mk _ (ar _ (by omega)) ?_ | with_reducible refine EqE.mk _ (n_iadd _ _ (by omega)) ?_ | with_reducible refine EqE.mk _ (wrap_u64 (by omega) (by omega)) ?_ | with_reducible refine EqE.mk _ (wrap_u32 _) ?_ | with_reducible refine EqE.mk _ (ah (by omega) (by omega)) ?_ | refine EqE.mk _ rfl ?_) | ((with_reducible refine EqE.idF ?_); first | with_reducible refine EqE.mk _ (n_shr63 _) ?_ | with_reducible refine EqE.mk _ (cg _ _ (by omega)) ?_ | with_reducible refine EqE.mk _ (n_shrv32 _ _ (by omega)) ?_ | with_reducible refine EqE.mk _ (n_shr1_32 _) ?_ | refine EqE.mk _ (aj _ 4294967296 _ _ rfl) ?_ | refine EqE.mk _ (aj _ 65536 _ _ rfl) ?_ | refine EqE.mk _ (aj _ 256 _ _ rfl) ?_ | refine EqE.mk _ (aj _ 134217728 _ _ rfl) ?_ | refine EqE.mk _ (aj _ 2 _ _ rfl) ?_ | refine EqE.mk _ (aj _ 16 _ _ rfl) ?_ | refine EqE.mk _ rfl ?_) | ((with_reducible refine EqE.idM ?_); first | refine EqE.mk _ (bm _ 32) ?_ | refine EqE.mk _ (bm _ _) ?_ | refine EqE.mk _ rfl ?_) | ((with_reducible refine EqE.idI ?_); first | refine EqE.mk _ (ib _) ?_ | with_reducible refine EqE.mk _ (b9 _ _) ?_ | refine EqE.mk _ (max_eq _ _) ?_ | refine EqE.mk _ (min_eq _ _) ?_) | ((with_reducible refine EqE.idS ?_); first | refine EqE.mk _ (bo _ _ _ _ (by first | with_reducible exact af _ | with_reducible exact ab _ | exact af _ | exact ab _ | rfl) (by first | omega | (simp only [List.length_set]; omega)) (by omega)) ?_ | refine EqE.mk _ (db _ _ _ _ (by first | with_reducible exact af _ | with_reducible exact ab _ | exact af _ | exact ab _ | rfl) (by omega) (by omega) (by omega)) ?_ | (refine EqE.fP ?_; (conv => whnf); fail_if_success (show ag _ _)) | refine EqE.mk _ rfl ?_) | ((with_reducible refine EqE.idA ?_); first | refine EqE.mk _ (b8 _) ?_ | refine EqE.mk _ (da _ _) ?_ | refine EqE.mk _ rfl ?_) | ((with_reducible refine EqE.idR ?_); first | refine EqE.mk _ (ca _) ?_ | refine EqE.mk _ rfl ?_) | ((with_reducible refine EqE.idL ?_); first | refine EqE.mk _ (ax _ _ _ _ (by omega) (by omega) rfl) ?_ | refine EqE.mk _ (sl_sliceN _ _ (by omega)) ?_ | refine EqE.mk _ (bn _ _ _ (by omega) (by omega) (by omega)) ?_ | refine EqE.mk _ rfl ?_) | refine EqE.mk _ rfl ?_ | refine Cd.ro ?_ | refine Cd.dc ?_ | refine Cd.ob ?_ | refine Cd.ol ?_ | refine Cd.mk ⟨rfl, rfl⟩ ?_ | refine Cd.mk (bd _) ?_ | refine Cd.om ?_ | refine Cd.mk ?_ ?_ | refine DsE.mk [_] rfl ?_ | refine DsE.mk [_, _, _] rfl ?_)
 rfl
theorem afq : Sim Tryd.prog G0 true 77 [.int .i64 16] (.bool true) := by
 refine cl ay Tryd.func77 ?_
 repeat' ((conv => whnf); first | refine aw.data ?_ | refine rgE ?_ | refine Cd.mk rfl ?_ | refine Br.t ?_ | refine Br.f ?_ | with_reducible refine Br.dec (fun _ => ?_) (fun _ => ?_) | with_reducible refine Br.br (fun _ => ?_) (fun _ => ?_) | refine Br.mk (fun _ => ?_) (fun _ => ?_) | refine ao.mk _ (az _ _ (by omega)) ?_ | refine ao.mk _ (a6 _ _ (by omega)) ?_ | refine ao.mk _ (cv _ _ _ (by first | with_reducible exact af _ | with_reducible exact ab _ | exact af _ | exact ab _ | rfl) (by first | omega | (simp only [List.length_set]; omega))) ?_ | refine ao.mk _ rfl ?_ | refine And.intro (fun _ => ?_) ?_ | (refine TkE.fL ?_; (conv => whnf); fail_if_success (show ag _ _)) | refine TkE.mk _ rfl rfl ?_ | refine Res.mk ?_ | refine a8.mk (by repeat first | exact True.intro | refine And.intro (by kernel_rfl) ?_) ?_ | refine DsE.mk (ba _) rfl ?_ | refine DsE.mk [] rfl ?_ | refine ai.cu _ _ ?_ | ((with_reducible refine EqE.idT ?_); first | ((conv => arg 1; simp only [ak, List.toList_toArray, an, ae, aa, Int.toNat_natCast, Int.toNat_zero, Int.toNat_one, b4, b5, List.drop_zero, Nat.sub_zero, List.cons_append, List.nil_append]); refine EqE.mk _ rfl ?_) | refine EqE.mk _ rfl ?_) | ((with_reducible refine EqE.idP ?_); first | ((conv => arg 1; simp only [ak, List.toList_toArray, bz, b3]); refine EqE.mk _ rfl ?_) | refine EqE.mk _ rfl ?_) | ((with_reducible refine EqE.idN ?_); first | ((conv => arg 1; simp only [ak, List.toList_toArray, aa, bb, Int.toNat_natCast, Int.toNat_zero, Int.toNat_one, List.length_cons, List.length_nil, Nat.zero_add]); refine EqE.mk _ rfl ?_)) | ((with_reducible refine EqE.idW ?_); first | refine EqE.mk 0 (by decide) ?_ | with_reducible refine EqE.mk _ (av _) ?_ | with_reducible refine EqE.mk _ (ed _ _ (by omega)) ?_ | with_reducible refine EqE.mk _ (bx _ (by omega)) ?_ | with_reducible refine EqE.mk _ (et _ _ (by omega) (by omega)) ?_ | with_reducible refine EqE.mk _ (ep _ _ (by omega)) ?_ | with_reducible refine EqE.mk _ (eg _ _ (by omega) (by omega)) ?_ | with_reducible refine EqE.mk _ (c6 _ (by omega)) ?_ | with_reducible refine EqE.mk _ (dd _ (by omega)) ?_ | with_reducible refine EqE.mk _ (n_and1_32 _ (by omega)) ?_ | with_reducible refine EqE.mk _ (eo _ _ (by omega) (by omega)) ?_ | with_reducible refine EqE.mk _ (ig _ _ (by omega) (by omega)) ?_ | refine EqE.mk _ (er _ 32 (by omega)) ?_ | with_reducible refine EqE.mk _ (cc _) ?_ | with_reducible refine EqE.mk _ (gu _) ?_ | with_reducible refine EqE.mk _ (ey _ (by omega)) ?_ | with_reducible refine EqE.mk _ (a7 _ (by omega)) ?_ | with_reducible refine EqE.mk _ (ar _ (by omega)) ?_ | with_reducible refine EqE.mk _ (n_iadd _ _ (by omega)) ?_ | with_reducible refine EqE.mk _ (wrap_u64 (by omega) (by omega)) ?_ | with_reducible refine EqE.mk _ (wrap_u32 _) ?_ | with_reducible refine EqE.mk _ (ah (by omega) (by omega)) ?_ | refine EqE.mk _ rfl ?_) | ((with_reducible refine EqE.idF ?_); first | with_reducible refine EqE.mk _ (n_shr63 _) ?_ | with_reducible refine EqE.mk _ (cg _ _ (by omega)) ?_ | with_reducible refine EqE.mk _ (n_shrv32 _ _ (by omega)) ?_ | with_reducible refine EqE.mk _ (n_shr1_32 _) ?_ | refine EqE.mk _ (aj _ 4294967296 _ _ rfl) ?_ | refine EqE.mk _ (aj _ 65536 _ _ rfl) ?_ | refine EqE.mk _ (aj _ 256 _ _ rfl) ?_ | refine EqE.mk _ (aj _ 134217728 _ _ rfl) ?_ | refine EqE.mk _ (aj _ 2 _ _ rfl) ?_ | refine EqE.mk _ (aj _ 16 _ _ rfl) ?_ | refine EqE.mk _ rfl ?_) | ((with_reducible refine EqE.idM ?_); first | refine EqE.mk _ (bm _ 32) ?_ | refine EqE.mk _ (bm _ _) ?_ | refine EqE.mk _ rfl ?_) | ((with_reducible refine EqE.idI ?_); first | refine EqE.mk _ (ib _) ?_ | with_reducible refine EqE.mk _ (b9 _ _) ?_ | refine EqE.mk _ (max_eq _ _) ?_ | refine EqE.mk _ (min_eq _ _) ?_) | ((with_reducible refine EqE.idS ?_); first | refine EqE.mk _ (bo _ _ _ _ (by first | with_reducible exact af _ | with_reducible exact ab _ | exact af _ | exact ab _ | rfl) (by first | omega | (simp only [List.length_set]; omega)) (by omega)) ?_ | refine EqE.mk _ (db _ _ _ _ (by first | with_reducible exact af _ | with_reducible exact ab _ | exact af _ | exact ab _ | rfl) (by omega) (by omega) (by omega)) ?_ | (refine EqE.fP ?_; (conv => whnf); fail_if_success (show ag _ _)) | refine EqE.mk _ rfl ?_) | ((with_reducible refine EqE.idA ?_); first | refine EqE.mk _ (b8 _) ?_ | refine EqE.mk _ (da _ _) ?_ | refine EqE.mk _ rfl ?_) | ((with_reducible refine EqE.idR ?_); first | refine EqE.mk _ (ca _) ?_ | refine EqE.mk _ rfl ?_) | ((with_reducible refine EqE.idL ?_); first | refine EqE.mk _ (ax _ _ _ _ (by omega) (by omega) rfl) ?_ | refine EqE.mk _ (sl_sliceN _ _ (by omega)) ?_ | refine EqE.mk _ (bn _ _ _ (by omega) (by omega) (by omega)) ?_ | refine EqE.mk _ rfl ?_) | refine EqE.mk _ rfl ?_ | refine Cd.ro ?_ | refine Cd.dc ?_ | refine Cd.ob ?_ | refine Cd.ol ?_ | refine Cd.mk ⟨rfl, rfl⟩ ?_ | refine Cd.mk (bd _) ?_ | refine Cd.om ?_ | refine Cd.mk ?_ ?_ | refine DsE.mk [_] rfl ?_ | refine DsE.mk [_, _, _] rfl ?_)
 rfl
theorem qd {l : List UInt8} {i o : Nat} {x : UInt8} {e : Int} (ho : o = i) (he : e = ((x.toNat : Nat) : Int)) : setAt (lb l) o [A.d (.int .u8 e)] = lb (l.set i x) := by
 subst ho he
 simp [setAt, lb, List.map_set]
theorem drop_set {l : List UInt8} {i : Nat} {x : UInt8} (h : i < l.length) : (l.set i x).drop i = x :: l.drop (i + 1) := by
 rw [List.drop_eq_getElem_cons (by simpa using h), List.drop_set, if_pos (by omega)]
 simp
theorem alu {l m : List UInt8} {o i n : Nat} (ho : o = i) (hm : l.drop i = m) (hn : l.length - i ≤ n) : ((lbD l).drop o).take n = m.map fun x => D.int .u8 (x.toNat : Int) := by
 subst ho hm
 rw [lbD, ← List.map_drop, List.take_of_length_le (by simpa using hn)]
theorem ac5 (ks : List Nat) (k : Nat) (f : Bool) (l : List UInt8) : List.all [(k, f, lb l)] (fun x => A.bc ks x.2.2) = true := by
 simp [zn]
theorem akw {d : Nat} (h : d < 16) : (((nth 0 (ByteArray.mk #[48, 49, 50, 51, 52, 53, 54, 55, 56, 57, 97, 98, 99, 100, 101, 102, 103, 104, 105, 106, 107, 108, 109, 110, 111, 112, 113, 114, 115, 116, 117, 118, 119, 120, 121, 122]).data.toList ((d : Nat) : Int).toNat).toNat : Nat) : Int) = (((ch d).toNat : Nat) : Int) := by
 rw [Int.toNat_natCast]
 have : ∀ d : Fin 16, nth 0 #[(48 : UInt8), 49, 50, 51, 52, 53, 54, 55, 56, 57, 97, 98, 99, 100, 101, 102, 103, 104, 105, 106, 107, 108, 109, 110, 111, 112, 113, 114, 115, 116, 117, 118, 119, 120, 121, 122].toList d.1 = ch d.1 := by decide
 rw [show (nth 0 (ByteArray.mk #[48, 49, 50, 51, 52, 53, 54, 55, 56, 57, 97, 98, 99, 100, 101, 102, 103, 104, 105, 106, 107, 108, 109, 110, 111, 112, 113, 114, 115, 116, 117, 118, 119, 120, 121, 122]).data.toList d) = ch d from this ⟨d, h⟩]
theorem agq {m : Nat} (h : m < 4294967296) : IntKind.u64.wrap (BitVec.ofInt IntKind.u64.bits ((m : Nat) : Int) &&& BitVec.ofInt IntKind.u64.bits 15).toNat = ((m % 16 : Nat) : Int) := by
 have := eo m 15 (by omega) (by omega)
 rw [show ((15 : Nat) : Int) = 15 from rfl] at this
 rw [this, show (15 : Nat) = 2 ^ 4 - 1 from rfl, Nat.and_two_pow_sub_one_eq_mod]
theorem ah3 {i : Nat} (h : 0 < i) (h2 : i < 1000) : IntKind.i64.wrap ((i : Int) - 1) = ((i - 1 : Nat) : Int) := by rw [ah (by omega) (by omega)]; omega
theorem alx {i : Nat} : 0 + ((i : Nat) : Int).toNat * 1 = i := by rw [Int.toNat_natCast]; omega
theorem alh {b v : Nat} (hb : 2 ≤ b) (h0 : v ≠ 0) (h : v < b) : dg b v = [v] := by rw [ga hb h0, Nat.div_eq_of_lt h, en, Nat.mod_eq_of_lt h]; rfl
set_option maxHeartbeats 1000000 in
theorem acf (v : Nat) (h : v < 4294967296) : Sim Tryd.prog G0 false 65 [.slice 0 [], .int .u64 v, .int .i64 16, .bool false, .bool false] (.tup [.slice 0 [], .str (bst (fu 16 v))]) := by
 refine cl ay Tryd.func65 ?_
 repeat' ((conv => whnf); first | refine aw.data ?_ | with_reducible refine Br.bt fun _ => ?_ | with_reducible refine Br.bf fun _ => ?_ | refine cE afq ?_ | refine cE amb ?_ | refine rgE ?_ | refine Cd.mk rfl ?_ | refine Br.t ?_ | refine Br.f ?_ | with_reducible refine Br.dec (fun _ => ?_) (fun _ => ?_) | with_reducible refine Br.br (fun _ => ?_) (fun _ => ?_) | refine Br.mk (fun _ => ?_) (fun _ => ?_) | refine ao.mk _ (az _ _ (by omega)) ?_ | refine ao.mk _ (a6 _ _ (by omega)) ?_ | refine ao.mk _ (cv _ _ _ (by first | with_reducible exact af _ | with_reducible exact ab _ | exact af _ | exact ab _ | rfl) (by first | omega | (simp only [List.length_set]; omega))) ?_ | refine ao.mk _ rfl ?_ | refine And.intro (fun _ => ?_) ?_ | (refine TkE.fL ?_; (conv => whnf); fail_if_success (show ag _ _)) | refine TkE.mk _ rfl rfl ?_ | refine Res.mk ?_ | refine a8.mk (by repeat first | exact True.intro | refine And.intro (by kernel_rfl) ?_) ?_ | refine DsE.mk (ba _) rfl ?_ | refine DsE.mk [] rfl ?_ | refine ai.cu _ _ ?_ | ((with_reducible refine EqE.idT ?_); first | ((conv => arg 1; simp only [ak, List.toList_toArray, an, ae, aa, Int.toNat_natCast, Int.toNat_zero, Int.toNat_one, b4, b5, List.drop_zero, Nat.sub_zero, List.cons_append, List.nil_append]); refine EqE.mk _ rfl ?_) | refine EqE.mk _ rfl ?_) | ((with_reducible refine EqE.idP ?_); first | ((conv => arg 1; simp only [ak, List.toList_toArray, bz, b3]); refine EqE.mk _ rfl ?_) | refine EqE.mk _ rfl ?_) | ((with_reducible refine EqE.idN ?_); first | ((conv => arg 1; simp only [ak, List.toList_toArray, aa, bb, Int.toNat_natCast, Int.toNat_zero, Int.toNat_one, List.length_cons, List.length_nil, Nat.zero_add]); refine EqE.mk _ rfl ?_)) | ((with_reducible refine EqE.idW ?_); first | refine EqE.mk 16 (by decide) ?_ | refine EqE.mk 15 (by decide) ?_ | refine EqE.mk 4 (by decide) ?_ | with_reducible refine EqE.mk _ (av _) ?_ | with_reducible refine EqE.mk _ (ed _ _ (by omega)) ?_ | with_reducible refine EqE.mk _ (bx _ (by omega)) ?_ | with_reducible refine EqE.mk _ (et _ _ (by omega) (by omega)) ?_ | with_reducible refine EqE.mk _ (ep _ _ (by omega)) ?_ | with_reducible refine EqE.mk _ (eg _ _ (by omega) (by omega)) ?_ | with_reducible refine EqE.mk _ (c6 _ (by omega)) ?_ | with_reducible refine EqE.mk _ (dd _ (by omega)) ?_ | with_reducible refine EqE.mk _ (n_and1_32 _ (by omega)) ?_ | with_reducible refine EqE.mk _ (eo _ _ (by omega) (by omega)) ?_ | with_reducible refine EqE.mk _ (ig _ _ (by omega) (by omega)) ?_ | refine EqE.mk _ (er _ 32 (by omega)) ?_ | with_reducible refine EqE.mk _ (cc _) ?_ | with_reducible refine EqE.mk _ (gu _) ?_ | with_reducible refine EqE.mk _ (ey _ (by omega)) ?_ | with_reducible refine EqE.mk _ (a7 _ (by omega)) ?_ | with_reducible refine EqE.mk _ (ar _ (by omega)) ?_ | with_reducible refine EqE.mk _ (n_iadd _ _ (by omega)) ?_ | with_reducible refine EqE.mk _ (wrap_u64 (by omega) (by omega)) ?_ | with_reducible refine EqE.mk _ (wrap_u32 _) ?_ | with_reducible refine EqE.mk _ (ah (by omega) (by omega)) ?_ | refine EqE.mk _ rfl ?_) | ((with_reducible refine EqE.idF ?_); first | with_reducible refine EqE.mk _ (n_shr63 _) ?_ | with_reducible refine EqE.mk _ (cg _ _ (by omega)) ?_ | with_reducible refine EqE.mk _ (n_shrv32 _ _ (by omega)) ?_ | with_reducible refine EqE.mk _ (n_shr1_32 _) ?_ | refine EqE.mk _ (aj _ 4294967296 _ _ rfl) ?_ | refine EqE.mk _ (aj _ 65536 _ _ rfl) ?_ | refine EqE.mk _ (aj _ 256 _ _ rfl) ?_ | refine EqE.mk _ (aj _ 134217728 _ _ rfl) ?_ | refine EqE.mk _ (aj _ 2 _ _ rfl) ?_ | refine EqE.mk _ (aj _ 16 _ _ rfl) ?_ | refine EqE.mk _ rfl ?_) | ((with_reducible refine EqE.idM ?_); first | refine EqE.mk _ (bm _ 32) ?_ | refine EqE.mk _ (bm _ _) ?_ | refine EqE.mk _ rfl ?_) | ((with_reducible refine EqE.idI ?_); first | refine EqE.mk _ (ib _) ?_ | with_reducible refine EqE.mk _ (b9 _ _) ?_ | refine EqE.mk _ (max_eq _ _) ?_ | refine EqE.mk _ (min_eq _ _) ?_) | ((with_reducible refine EqE.idS ?_); first | refine EqE.mk _ (bo _ _ _ _ (by first | with_reducible exact af _ | with_reducible exact ab _ | exact af _ | exact ab _ | rfl) (by first | omega | (simp only [List.length_set]; omega)) (by omega)) ?_ | refine EqE.mk _ (db _ _ _ _ (by first | with_reducible exact af _ | with_reducible exact ab _ | exact af _ | exact ab _ | rfl) (by omega) (by omega) (by omega)) ?_ | (refine EqE.fP ?_; (conv => whnf); fail_if_success (show ag _ _)) | refine EqE.mk _ rfl ?_) | ((with_reducible refine EqE.idA ?_); first | refine EqE.mk _ (b8 _) ?_ | refine EqE.mk _ (da _ _) ?_ | refine EqE.mk _ rfl ?_) | ((with_reducible refine EqE.idR ?_); first | refine EqE.mk _ (ca _) ?_ | refine EqE.mk _ rfl ?_) | ((with_reducible refine EqE.idL ?_); first | refine EqE.mk _ (ax _ _ _ _ (by omega) (by omega) rfl) ?_ | refine EqE.mk _ (sl_sliceN _ _ (by omega)) ?_ | refine EqE.mk _ (bn _ _ _ (by omega) (by omega) (by omega)) ?_ | refine EqE.mk _ rfl ?_) | refine EqE.mk _ rfl ?_ | refine Cd.ro ?_ | refine Cd.dc ?_ | refine Cd.ob ?_ | refine Cd.ol ?_ | refine Cd.mk ⟨rfl, rfl⟩ ?_ | refine Cd.mk (bd _) ?_ | refine Cd.om ?_ | refine Cd.mk ?_ ?_ | refine DsE.mk [_] rfl ?_ | refine DsE.mk [_, _, _] rfl ?_)
 refine ⟨[], [1, 2, 3, 4, 12, 13, 14, 15, 16, 10], [12], fun m xs h => ∃ (u i : Nat) (l : List UInt8) (ds : List Nat), m = u ∧ u ≤ v ∧ (v ≠ 0 → u ≠ 0) ∧ l.length = 65 ∧ i + ds.length = 65 ∧ l.drop i = ds.map ch ∧ dg 16 v = dg 16 u ++ ds ∧
   xs = [.d (.int .u64 u), .d (.int .i64 16), .d (.bool false), .d (.bool false), .ptr 12 0, .d (.int .i64 i), .d (.int .u64 4), .d (.int .u64 16), .d (.int .u64 15), .d .nil] ∧ h = [(12, false, lb l)],
  ⟨_, _, _, ⟨.inl rfl, rfl, rfl, by first | rfl | (repeat first | exact all_nil _ | refine cz _ _ _ _ _ ?_)⟩, v, 65, List.replicate 65 0, [], rfl, Nat.le_refl _, fun h => h, by simp, by simp, by simp, by simp, rfl, rfl⟩, ?_⟩
 rintro m xs h ⟨_, i, l, ds, rfl, hm, hz, hl, hi, hd, hg, rfl, rfl⟩
 have hn := jr (b := 16) (by omega) 8 v (by omega)
 have hL : (lb l).length = 65 := by simpa [lb] using hl
 have hds : (dg 16 m).length + ds.length ≤ 8 := by rw [hg, List.length_append] at hn; exact hn
 by_cases hb : 16 ≤ m
 ·have h0 : m ≠ 0 := by omega
  rw [ga (by omega) h0, List.length_append] at hds
  simp only [List.length_singleton] at hds
  repeat' ((conv => whnf); first | refine aw.data ?_ | with_reducible refine Br.bt fun _ => ?_ | refine ai.cu _ _ ?_ (cut := ⟨.inl rfl, rfl, rfl, ac5 _ _ _ _⟩) | refine rgE ?_ | refine Cd.mk rfl ?_ | refine Br.t ?_ | refine Br.f ?_ | with_reducible refine Br.dec (fun _ => ?_) (fun _ => ?_) | with_reducible refine Br.br (fun _ => ?_) (fun _ => ?_) | refine Br.mk (fun _ => ?_) (fun _ => ?_) | refine ao.mk _ (az _ _ (by omega)) ?_ | refine ao.mk _ (a6 _ _ (by omega)) ?_ | refine ao.mk _ (cv _ _ _ (by first | with_reducible exact af _ | with_reducible exact ab _ | exact af _ | exact ab _ | rfl) (by first | omega | (simp only [List.length_set]; omega))) ?_ | refine ao.mk _ rfl ?_ | refine And.intro (fun _ => ?_) ?_ | (refine TkE.fL ?_; (conv => whnf); fail_if_success (show ag _ _)) | refine TkE.mk _ rfl rfl ?_ | refine Res.mk ?_ | refine a8.mk (by repeat first | exact True.intro | refine And.intro (by kernel_rfl) ?_) ?_ | refine DsE.mk (ba _) rfl ?_ | refine DsE.mk [] rfl ?_ | refine ai.cu _ _ ?_ | ((with_reducible refine EqE.idT ?_); first | ((conv => arg 1; simp only [ak, List.toList_toArray, an, ae, aa, Int.toNat_natCast, Int.toNat_zero, Int.toNat_one, b4, b5, List.drop_zero, Nat.sub_zero, List.cons_append, List.nil_append]); refine EqE.mk _ rfl ?_) | refine EqE.mk _ rfl ?_) | ((with_reducible refine EqE.idP ?_); first | ((conv => arg 1; simp only [ak, List.toList_toArray, bz, b3]); refine EqE.mk _ rfl ?_) | refine EqE.mk _ rfl ?_) | ((with_reducible refine EqE.idN ?_); first | refine EqE.mk _ (akw (d := m % 16) (Nat.mod_lt _ (by omega))) ?_ | ((conv => arg 1; simp only [ak, List.toList_toArray, aa, bb, Int.toNat_natCast, Int.toNat_zero, Int.toNat_one, List.length_cons, List.length_nil, Nat.zero_add]); refine EqE.mk _ rfl ?_)) | ((with_reducible refine EqE.idW ?_); first | refine EqE.mk _ (agq (m := m) (by omega)) ?_ | refine EqE.mk _ (ah3 (i := i) (by omega) (by omega)) ?_ | with_reducible refine EqE.mk _ (av _) ?_ | with_reducible refine EqE.mk _ (ed _ _ (by omega)) ?_ | with_reducible refine EqE.mk _ (bx _ (by omega)) ?_ | with_reducible refine EqE.mk _ (et _ _ (by omega) (by omega)) ?_ | with_reducible refine EqE.mk _ (ep _ _ (by omega)) ?_ | with_reducible refine EqE.mk _ (eg _ _ (by omega) (by omega)) ?_ | with_reducible refine EqE.mk _ (c6 _ (by omega)) ?_ | with_reducible refine EqE.mk _ (dd _ (by omega)) ?_ | with_reducible refine EqE.mk _ (n_and1_32 _ (by omega)) ?_ | with_reducible refine EqE.mk _ (eo _ _ (by omega) (by omega)) ?_ | with_reducible refine EqE.mk _ (ig _ _ (by omega) (by omega)) ?_ | refine EqE.mk _ (er _ 32 (by omega)) ?_ | with_reducible refine EqE.mk _ (cc _) ?_ | with_reducible refine EqE.mk _ (gu _) ?_ | with_reducible refine EqE.mk _ (ey _ (by omega)) ?_ | with_reducible refine EqE.mk _ (a7 _ (by omega)) ?_ | with_reducible refine EqE.mk _ (ar _ (by omega)) ?_ | with_reducible refine EqE.mk _ (n_iadd _ _ (by omega)) ?_ | with_reducible refine EqE.mk _ (wrap_u64 (by omega) (by omega)) ?_ | with_reducible refine EqE.mk _ (wrap_u32 _) ?_ | with_reducible refine EqE.mk _ (ah (by omega) (by omega)) ?_ | refine EqE.mk _ rfl ?_) | ((with_reducible refine EqE.idF ?_); first | with_reducible refine EqE.mk _ (n_shr63 _) ?_ | with_reducible refine EqE.mk _ (cg _ _ (by omega)) ?_ | with_reducible refine EqE.mk _ (n_shrv32 _ _ (by omega)) ?_ | with_reducible refine EqE.mk _ (n_shr1_32 _) ?_ | refine EqE.mk _ (aj _ 4294967296 _ _ rfl) ?_ | refine EqE.mk _ (aj _ 65536 _ _ rfl) ?_ | refine EqE.mk _ (aj _ 256 _ _ rfl) ?_ | refine EqE.mk _ (aj _ 134217728 _ _ rfl) ?_ | refine EqE.mk _ (aj _ 2 _ _ rfl) ?_ | refine EqE.mk _ (aj _ 16 _ _ rfl) ?_ | refine EqE.mk _ rfl ?_) | ((with_reducible refine EqE.idM ?_); first | refine EqE.mk _ (bm _ 32) ?_ | refine EqE.mk _ (bm _ _) ?_ | refine EqE.mk _ rfl ?_) | ((with_reducible refine EqE.idI ?_); first | refine EqE.mk _ (ib _) ?_ | with_reducible refine EqE.mk _ (b9 _ _) ?_ | refine EqE.mk _ (max_eq _ _) ?_ | refine EqE.mk _ (min_eq _ _) ?_) | ((with_reducible refine EqE.idS ?_); first | refine EqE.mk _ (qd (i := i - 1) (x := ch (m % 16)) alx rfl) ?_ | refine EqE.mk _ (bo _ _ _ _ (by first | with_reducible exact af _ | with_reducible exact ab _ | exact af _ | exact ab _ | rfl) (by first | omega | (simp only [List.length_set]; omega)) (by omega)) ?_ | refine EqE.mk _ (db _ _ _ _ (by first | with_reducible exact af _ | with_reducible exact ab _ | exact af _ | exact ab _ | rfl) (by omega) (by omega) (by omega)) ?_ | (refine EqE.fP ?_; (conv => whnf); fail_if_success (show ag _ _)) | refine EqE.mk _ rfl ?_) | ((with_reducible refine EqE.idA ?_); first | refine EqE.mk _ (b8 _) ?_ | refine EqE.mk _ (da _ _) ?_ | refine EqE.mk _ rfl ?_) | ((with_reducible refine EqE.idR ?_); first | refine EqE.mk _ (ca _) ?_ | refine EqE.mk _ rfl ?_) | ((with_reducible refine EqE.idL ?_); first | refine EqE.mk _ (ax _ _ _ _ (by omega) (by omega) rfl) ?_ | refine EqE.mk _ (sl_sliceN _ _ (by omega)) ?_ | refine EqE.mk _ (bn _ _ _ (by omega) (by omega) (by omega)) ?_ | refine EqE.mk _ rfl ?_) | refine EqE.mk _ rfl ?_ | refine Cd.ro ?_ | refine Cd.dc ?_ | refine Cd.ob ?_ | refine Cd.ol ?_ | refine Cd.mk ⟨rfl, rfl⟩ ?_ | refine Cd.mk (bd _) ?_ | refine Cd.om ?_ | refine Cd.mk ?_ ?_ | refine DsE.mk [_] rfl ?_ | refine DsE.mk [_, _, _] rfl ?_)
  refine ⟨_, ⟨m / 16, i - 1, l.set (i - 1) (ch (m % 16)), (m % 16) :: ds, rfl, Nat.le_trans (Nat.div_le_self _ _) hm, by omega, by simpa using hl, by simp only [List.length_cons]; omega, ?_, ?_, rfl, rfl⟩, Nat.div_lt_self (by omega) (by omega)⟩
  ·rw [drop_set (by omega), show i - 1 + 1 = i by omega, hd]; rfl
  ·rw [hg, ga (by omega) h0, List.append_assoc]; rfl
 ·have hi1 : 0 < i := by omega
  have hr : (l.set (i - 1) (ch m)).drop (i - 1) = fu 16 v := by
   rw [drop_set (by omega), show i - 1 + 1 = i by omega, hd, fu]
   by_cases hv : v = 0
   ·subst hv
    have hm0 : m = 0 := by omega
    subst hm0
    rw [en, List.nil_append] at hg
    rw [if_pos rfl, ← hg]; rfl
   ·rw [if_neg hv, hg, alh (by omega) (hz hv) (by omega)]; rfl
  have hL2 : (lb (l.set (i - 1) (ch m))).length = 65 := by simpa [lb] using hl
  have hl2 : (l.set (i - 1) (ch m)).length = 65 := by simpa using hl
  repeat' ((conv => whnf); first | refine aw.data ?_ | with_reducible refine Br.bf fun _ => ?_ | refine DsE.mk _ (vu _) ?_ | refine BtE.mk _ (alu (i := i - 1) (o := _) (by dsimp only; omega) hr (by rw [hl2]; omega)) ?_ | refine rgE ?_ | refine Cd.mk rfl ?_ | refine Br.t ?_ | refine Br.f ?_ | with_reducible refine Br.dec (fun _ => ?_) (fun _ => ?_) | with_reducible refine Br.br (fun _ => ?_) (fun _ => ?_) | refine Br.mk (fun _ => ?_) (fun _ => ?_) | refine ao.mk _ (az _ _ (by omega)) ?_ | refine ao.mk _ (a6 _ _ (by omega)) ?_ | refine ao.mk _ (cv _ _ _ (by first | with_reducible exact af _ | with_reducible exact ab _ | exact af _ | exact ab _ | rfl) (by first | omega | (simp only [List.length_set]; omega))) ?_ | refine ao.mk _ rfl ?_ | refine And.intro (fun _ => ?_) ?_ | (refine TkE.fL ?_; (conv => whnf); fail_if_success (show ag _ _)) | refine TkE.mk _ rfl rfl ?_ | refine Res.mk ?_ | refine a8.mk (by repeat first | exact True.intro | refine And.intro (by kernel_rfl) ?_) ?_ | refine DsE.mk (ba _) rfl ?_ | refine DsE.mk [] rfl ?_ | refine ai.cu _ _ ?_ | ((with_reducible refine EqE.idT ?_); first | ((conv => arg 1; simp only [ak, List.toList_toArray, an, ae, aa, Int.toNat_natCast, Int.toNat_zero, Int.toNat_one, b4, b5, List.drop_zero, Nat.sub_zero, List.cons_append, List.nil_append]); refine EqE.mk _ rfl ?_) | refine EqE.mk _ rfl ?_) | ((with_reducible refine EqE.idP ?_); first | ((conv => arg 1; simp only [ak, List.toList_toArray, bz, b3]); refine EqE.mk _ rfl ?_) | refine EqE.mk _ rfl ?_) | ((with_reducible refine EqE.idN ?_); first | refine EqE.mk _ (akw (d := m) (by omega)) ?_ | ((conv => arg 1; simp only [ak, List.toList_toArray, aa, bb, Int.toNat_natCast, Int.toNat_zero, Int.toNat_one, List.length_cons, List.length_nil, Nat.zero_add]); refine EqE.mk _ rfl ?_)) | ((with_reducible refine EqE.idW ?_); first | refine EqE.mk _ (ah3 (i := i) (by omega) (by omega)) ?_ | with_reducible refine EqE.mk _ (av _) ?_ | with_reducible refine EqE.mk _ (ed _ _ (by omega)) ?_ | with_reducible refine EqE.mk _ (bx _ (by omega)) ?_ | with_reducible refine EqE.mk _ (et _ _ (by omega) (by omega)) ?_ | with_reducible refine EqE.mk _ (ep _ _ (by omega)) ?_ | with_reducible refine EqE.mk _ (eg _ _ (by omega) (by omega)) ?_ | with_reducible refine EqE.mk _ (c6 _ (by omega)) ?_ | with_reducible refine EqE.mk _ (dd _ (by omega)) ?_ | with_reducible refine EqE.mk _ (n_and1_32 _ (by omega)) ?_ | with_reducible refine EqE.mk _ (eo _ _ (by omega) (by omega)) ?_ | with_reducible refine EqE.mk _ (ig _ _ (by omega) (by omega)) ?_ | refine EqE.mk _ (er _ 32 (by omega)) ?_ | with_reducible refine EqE.mk _ (cc _) ?_ | with_reducible refine EqE.mk _ (gu _) ?_ | with_reducible refine EqE.mk _ (ey _ (by omega)) ?_ | with_reducible refine EqE.mk _ (a7 _ (by omega)) ?_ | with_reducible refine EqE.mk _ (ar _ (by omega)) ?_ | with_reducible refine EqE.mk _ (n_iadd _ _ (by omega)) ?_ | with_reducible refine EqE.mk _ (wrap_u64 (by omega) (by omega)) ?_ | with_reducible refine EqE.mk _ (wrap_u32 _) ?_ | with_reducible refine EqE.mk _ (ah (by omega) (by omega)) ?_ | refine EqE.mk _ rfl ?_) | ((with_reducible refine EqE.idF ?_); first | with_reducible refine EqE.mk _ (n_shr63 _) ?_ | with_reducible refine EqE.mk _ (cg _ _ (by omega)) ?_ | with_reducible refine EqE.mk _ (n_shrv32 _ _ (by omega)) ?_ | with_reducible refine EqE.mk _ (n_shr1_32 _) ?_ | refine EqE.mk _ (aj _ 4294967296 _ _ rfl) ?_ | refine EqE.mk _ (aj _ 65536 _ _ rfl) ?_ | refine EqE.mk _ (aj _ 256 _ _ rfl) ?_ | refine EqE.mk _ (aj _ 134217728 _ _ rfl) ?_ | refine EqE.mk _ (aj _ 2 _ _ rfl) ?_ | refine EqE.mk _ (aj _ 16 _ _ rfl) ?_ | refine EqE.mk _ rfl ?_) | ((with_reducible refine EqE.idM ?_); first | refine EqE.mk _ (bm _ 32) ?_ | refine EqE.mk _ (bm _ _) ?_ | refine EqE.mk _ rfl ?_) | ((with_reducible refine EqE.idI ?_); first | refine EqE.mk _ (ib _) ?_ | with_reducible refine EqE.mk _ (b9 _ _) ?_ | refine EqE.mk _ (max_eq _ _) ?_ | refine EqE.mk _ (min_eq _ _) ?_) | ((with_reducible refine EqE.idS ?_); first | refine EqE.mk _ (qd (i := i - 1) (x := ch m) alx rfl) ?_ | refine EqE.mk _ (bo _ _ _ _ (by first | with_reducible exact af _ | with_reducible exact ab _ | exact af _ | exact ab _ | rfl) (by first | omega | (simp only [List.length_set]; omega)) (by omega)) ?_ | refine EqE.mk _ (db _ _ _ _ (by first | with_reducible exact af _ | with_reducible exact ab _ | exact af _ | exact ab _ | rfl) (by omega) (by omega) (by omega)) ?_ | (refine EqE.fP ?_; (conv => whnf); fail_if_success (show ag _ _)) | refine EqE.mk _ rfl ?_) | ((with_reducible refine EqE.idA ?_); first | refine EqE.mk _ (b8 _) ?_ | refine EqE.mk _ (da _ _) ?_ | refine EqE.mk _ rfl ?_) | ((with_reducible refine EqE.idR ?_); first | refine EqE.mk _ (ca _) ?_ | refine EqE.mk _ rfl ?_) | ((with_reducible refine EqE.idL ?_); first | refine EqE.mk _ (ax _ _ _ _ (by omega) (by omega) rfl) ?_ | refine EqE.mk _ (sl_sliceN _ _ (by omega)) ?_ | refine EqE.mk _ (bn _ _ _ (by omega) (by omega) (by omega)) ?_ | refine EqE.mk _ rfl ?_) | refine EqE.mk _ rfl ?_ | refine Cd.ro ?_ | refine Cd.dc ?_ | refine Cd.ob ?_ | refine Cd.ol ?_ | refine Cd.mk ⟨rfl, rfl⟩ ?_ | refine Cd.mk (bd _) ?_ | refine Cd.om ?_ | refine Cd.mk ?_ ?_ | refine DsE.mk [_] rfl ?_ | refine DsE.mk [_, _, _] rfl ?_)
  show D.tup _ = D.tup _
  rw [fp]; rfl
theorem acy (v : Nat) (h : v < 4294967296) : Sim Tryd.prog G0 true 49 [.int .u64 v, .int .i64 16] (.str (bst (fu 16 v))) := by
 have s := acf v h
 refine cl ay Tryd.func49 ?_
 repeat' ((conv => whnf); first | refine aw.data ?_ | with_reducible refine Br.bf fun _ => ?_ | refine cE s ?_ | refine rgE ?_ | refine Cd.mk rfl ?_ | refine Br.t ?_ | refine Br.f ?_ | with_reducible refine Br.dec (fun _ => ?_) (fun _ => ?_) | with_reducible refine Br.br (fun _ => ?_) (fun _ => ?_) | refine Br.mk (fun _ => ?_) (fun _ => ?_) | refine ao.mk _ (az _ _ (by omega)) ?_ | refine ao.mk _ (a6 _ _ (by omega)) ?_ | refine ao.mk _ (cv _ _ _ (by first | with_reducible exact af _ | with_reducible exact ab _ | exact af _ | exact ab _ | rfl) (by first | omega | (simp only [List.length_set]; omega))) ?_ | refine ao.mk _ rfl ?_ | refine And.intro (fun _ => ?_) ?_ | (refine TkE.fL ?_; (conv => whnf); fail_if_success (show ag _ _)) | refine TkE.mk _ rfl rfl ?_ | refine Res.mk ?_ | refine a8.mk (by repeat first | exact True.intro | refine And.intro (by kernel_rfl) ?_) ?_ | refine DsE.mk (ba _) rfl ?_ | refine DsE.mk [] rfl ?_ | refine ai.cu _ _ ?_ | ((with_reducible refine EqE.idT ?_); first | ((conv => arg 1; simp only [ak, List.toList_toArray, an, ae, aa, Int.toNat_natCast, Int.toNat_zero, Int.toNat_one, b4, b5, List.drop_zero, Nat.sub_zero, List.cons_append, List.nil_append]); refine EqE.mk _ rfl ?_) | refine EqE.mk _ rfl ?_) | ((with_reducible refine EqE.idP ?_); first | ((conv => arg 1; simp only [ak, List.toList_toArray, bz, b3]); refine EqE.mk _ rfl ?_) | refine EqE.mk _ rfl ?_) | ((with_reducible refine EqE.idN ?_); first | ((conv => arg 1; simp only [ak, List.toList_toArray, aa, bb, Int.toNat_natCast, Int.toNat_zero, Int.toNat_one, List.length_cons, List.length_nil, Nat.zero_add]); refine EqE.mk _ rfl ?_)) | ((with_reducible refine EqE.idW ?_); first | with_reducible refine EqE.mk _ (av _) ?_ | with_reducible refine EqE.mk _ (ed _ _ (by omega)) ?_ | with_reducible refine EqE.mk _ (bx _ (by omega)) ?_ | with_reducible refine EqE.mk _ (et _ _ (by omega) (by omega)) ?_ | with_reducible refine EqE.mk _ (ep _ _ (by omega)) ?_ | with_reducible refine EqE.mk _ (eg _ _ (by omega) (by omega)) ?_ | with_reducible refine EqE.mk _ (c6 _ (by omega)) ?_ | with_reducible refine EqE.mk _ (dd _ (by omega)) ?_ | with_reducible refine EqE.mk _ (n_and1_32 _ (by omega)) ?_ | with_reducible refine EqE.mk _ (eo _ _ (by omega) (by omega)) ?_ | with_reducible refine EqE.mk _ (ig _ _ (by omega) (by omega)) ?_ | refine EqE.mk _ (er _ 32 (by omega)) ?_ | with_reducible refine EqE.mk _ (cc _) ?_ | with_reducible refine EqE.mk _ (gu _) ?_ | with_reducible refine EqE.mk _ (ey _ (by omega)) ?_ | with_reducible refine EqE.mk _ (a7 _ (by omega)) ?_ | with_reducible refine EqE.mk _ (ar _ (by omega)) ?_ | with_reducible refine EqE.mk _ (n_iadd _ _ (by omega)) ?_ | with_reducible refine EqE.mk _ (wrap_u64 (by omega) (by omega)) ?_ | with_reducible refine EqE.mk _ (wrap_u32 _) ?_ | with_reducible refine EqE.mk _ (ah (by omega) (by omega)) ?_ | refine EqE.mk _ rfl ?_) | ((with_reducible refine EqE.idF ?_); first | with_reducible refine EqE.mk _ (n_shr63 _) ?_ | with_reducible refine EqE.mk _ (cg _ _ (by omega)) ?_ | with_reducible refine EqE.mk _ (n_shrv32 _ _ (by omega)) ?_ | with_reducible refine EqE.mk _ (n_shr1_32 _) ?_ | refine EqE.mk _ (aj _ 4294967296 _ _ rfl) ?_ | refine EqE.mk _ (aj _ 65536 _ _ rfl) ?_ | refine EqE.mk _ (aj _ 256 _ _ rfl) ?_ | refine EqE.mk _ (aj _ 134217728 _ _ rfl) ?_ | refine EqE.mk _ (aj _ 2 _ _ rfl) ?_ | refine EqE.mk _ (aj _ 16 _ _ rfl) ?_ | refine EqE.mk _ rfl ?_) | ((with_reducible refine EqE.idM ?_); first | refine EqE.mk _ (bm _ 32) ?_ | refine EqE.mk _ (bm _ _) ?_ | refine EqE.mk _ rfl ?_) | ((with_reducible refine EqE.idI ?_); first | refine EqE.mk _ (ib _) ?_ | with_reducible refine EqE.mk _ (b9 _ _) ?_ | refine EqE.mk _ (max_eq _ _) ?_ | refine EqE.mk _ (min_eq _ _) ?_) | ((with_reducible refine EqE.idS ?_); first | refine EqE.mk _ (bo _ _ _ _ (by first | with_reducible exact af _ | with_reducible exact ab _ | exact af _ | exact ab _ | rfl) (by first | omega | (simp only [List.length_set]; omega)) (by omega)) ?_ | refine EqE.mk _ (db _ _ _ _ (by first | with_reducible exact af _ | with_reducible exact ab _ | exact af _ | exact ab _ | rfl) (by omega) (by omega) (by omega)) ?_ | (refine EqE.fP ?_; (conv => whnf); fail_if_success (show ag _ _)) | refine EqE.mk _ rfl ?_) | ((with_reducible refine EqE.idA ?_); first | refine EqE.mk _ (b8 _) ?_ | refine EqE.mk _ (da _ _) ?_ | refine EqE.mk _ rfl ?_) | ((with_reducible refine EqE.idR ?_); first | refine EqE.mk _ (ca _) ?_ | refine EqE.mk _ rfl ?_) | ((with_reducible refine EqE.idL ?_); first | refine EqE.mk _ (ax _ _ _ _ (by omega) (by omega) rfl) ?_ | refine EqE.mk _ (sl_sliceN _ _ (by omega)) ?_ | refine EqE.mk _ (bn _ _ _ (by omega) (by omega) (by omega)) ?_ | refine EqE.mk _ rfl ?_) | refine EqE.mk _ rfl ?_ | refine Cd.ro ?_ | refine Cd.dc ?_ | refine Cd.ob ?_ | refine Cd.ol ?_ | refine Cd.mk ⟨rfl, rfl⟩ ?_ | refine Cd.mk (bd _) ?_ | refine Cd.om ?_ | refine Cd.mk ?_ ?_ | refine DsE.mk [_] rfl ?_ | refine DsE.mk [_, _, _] rfl ?_)
 rfl
theorem ajg {b v : Nat} (hb : b = 10 ∨ b = 16) (h : v < 4294967296) : Sim Tryd.prog G0 true 37 [.int .u64 v, .int .i64 b] (.str (bst (fu b v))) := by
 have s : Sim Tryd.prog G0 true 49 [.int .u64 v, .int .i64 b] (.str (bst (fu b v))) := by
  rcases hb with rfl | rfl
  ·exact acx v (by omega)
  ·exact acy v h
 refine cl ay Tryd.func37 ?_
 repeat' ((conv => whnf); first | refine aw.data ?_ | refine cE s ?_ | refine rgE ?_ | refine Cd.mk rfl ?_ | refine Br.t ?_ | refine Br.f ?_ | with_reducible refine Br.dec (fun _ => ?_) (fun _ => ?_) | with_reducible refine Br.br (fun _ => ?_) (fun _ => ?_) | refine Br.mk (fun _ => ?_) (fun _ => ?_) | refine ao.mk _ (az _ _ (by omega)) ?_ | refine ao.mk _ (a6 _ _ (by omega)) ?_ | refine ao.mk _ (cv _ _ _ (by first | with_reducible exact af _ | with_reducible exact ab _ | exact af _ | exact ab _ | rfl) (by first | omega | (simp only [List.length_set]; omega))) ?_ | refine ao.mk _ rfl ?_ | refine And.intro (fun _ => ?_) ?_ | (refine TkE.fL ?_; (conv => whnf); fail_if_success (show ag _ _)) | refine TkE.mk _ rfl rfl ?_ | refine Res.mk ?_ | refine a8.mk (by repeat first | exact True.intro | refine And.intro (by kernel_rfl) ?_) ?_ | refine DsE.mk (ba _) rfl ?_ | refine DsE.mk [] rfl ?_ | refine ai.cu _ _ ?_ | ((with_reducible refine EqE.idT ?_); first | ((conv => arg 1; simp only [ak, List.toList_toArray, an, ae, aa, Int.toNat_natCast, Int.toNat_zero, Int.toNat_one, b4, b5, List.drop_zero, Nat.sub_zero, List.cons_append, List.nil_append]); refine EqE.mk _ rfl ?_) | refine EqE.mk _ rfl ?_) | ((with_reducible refine EqE.idP ?_); first | ((conv => arg 1; simp only [ak, List.toList_toArray, bz, b3]); refine EqE.mk _ rfl ?_) | refine EqE.mk _ rfl ?_) | ((with_reducible refine EqE.idN ?_); first | ((conv => arg 1; simp only [ak, List.toList_toArray, aa, bb, Int.toNat_natCast, Int.toNat_zero, Int.toNat_one, List.length_cons, List.length_nil, Nat.zero_add]); refine EqE.mk _ rfl ?_)) | ((with_reducible refine EqE.idW ?_); first | with_reducible refine EqE.mk _ (av _) ?_ | with_reducible refine EqE.mk _ (ed _ _ (by omega)) ?_ | with_reducible refine EqE.mk _ (bx _ (by omega)) ?_ | with_reducible refine EqE.mk _ (et _ _ (by omega) (by omega)) ?_ | with_reducible refine EqE.mk _ (ep _ _ (by omega)) ?_ | with_reducible refine EqE.mk _ (eg _ _ (by omega) (by omega)) ?_ | with_reducible refine EqE.mk _ (c6 _ (by omega)) ?_ | with_reducible refine EqE.mk _ (dd _ (by omega)) ?_ | with_reducible refine EqE.mk _ (n_and1_32 _ (by omega)) ?_ | with_reducible refine EqE.mk _ (eo _ _ (by omega) (by omega)) ?_ | with_reducible refine EqE.mk _ (ig _ _ (by omega) (by omega)) ?_ | refine EqE.mk _ (er _ 32 (by omega)) ?_ | with_reducible refine EqE.mk _ (cc _) ?_ | with_reducible refine EqE.mk _ (gu _) ?_ | with_reducible refine EqE.mk _ (ey _ (by omega)) ?_ | with_reducible refine EqE.mk _ (a7 _ (by omega)) ?_ | with_reducible refine EqE.mk _ (ar _ (by omega)) ?_ | with_reducible refine EqE.mk _ (n_iadd _ _ (by omega)) ?_ | with_reducible refine EqE.mk _ (wrap_u64 (by omega) (by omega)) ?_ | with_reducible refine EqE.mk _ (wrap_u32 _) ?_ | with_reducible refine EqE.mk _ (ah (by omega) (by omega)) ?_ | refine EqE.mk _ rfl ?_) | ((with_reducible refine EqE.idF ?_); first | with_reducible refine EqE.mk _ (n_shr63 _) ?_ | with_reducible refine EqE.mk _ (cg _ _ (by omega)) ?_ | with_reducible refine EqE.mk _ (n_shrv32 _ _ (by omega)) ?_ | with_reducible refine EqE.mk _ (n_shr1_32 _) ?_ | refine EqE.mk _ (aj _ 4294967296 _ _ rfl) ?_ | refine EqE.mk _ (aj _ 65536 _ _ rfl) ?_ | refine EqE.mk _ (aj _ 256 _ _ rfl) ?_ | refine EqE.mk _ (aj _ 134217728 _ _ rfl) ?_ | refine EqE.mk _ (aj _ 2 _ _ rfl) ?_ | refine EqE.mk _ (aj _ 16 _ _ rfl) ?_ | refine EqE.mk _ rfl ?_) | ((with_reducible refine EqE.idM ?_); first | refine EqE.mk _ (bm _ 32) ?_ | refine EqE.mk _ (bm _ _) ?_ | refine EqE.mk _ rfl ?_) | ((with_reducible refine EqE.idI ?_); first | refine EqE.mk _ (ib _) ?_ | with_reducible refine EqE.mk _ (b9 _ _) ?_ | refine EqE.mk _ (max_eq _ _) ?_ | refine EqE.mk _ (min_eq _ _) ?_) | ((with_reducible refine EqE.idS ?_); first | refine EqE.mk _ (bo _ _ _ _ (by first | with_reducible exact af _ | with_reducible exact ab _ | exact af _ | exact ab _ | rfl) (by first | omega | (simp only [List.length_set]; omega)) (by omega)) ?_ | refine EqE.mk _ (db _ _ _ _ (by first | with_reducible exact af _ | with_reducible exact ab _ | exact af _ | exact ab _ | rfl) (by omega) (by omega) (by omega)) ?_ | (refine EqE.fP ?_; (conv => whnf); fail_if_success (show ag _ _)) | refine EqE.mk _ rfl ?_) | ((with_reducible refine EqE.idA ?_); first | refine EqE.mk _ (b8 _) ?_ | refine EqE.mk _ (da _ _) ?_ | refine EqE.mk _ rfl ?_) | ((with_reducible refine EqE.idR ?_); first | refine EqE.mk _ (ca _) ?_ | refine EqE.mk _ rfl ?_) | ((with_reducible refine EqE.idL ?_); first | refine EqE.mk _ (ax _ _ _ _ (by omega) (by omega) rfl) ?_ | refine EqE.mk _ (sl_sliceN _ _ (by omega)) ?_ | refine EqE.mk _ (bn _ _ _ (by omega) (by omega) (by omega)) ?_ | refine EqE.mk _ rfl ?_) | refine EqE.mk _ rfl ?_ | refine Cd.ro ?_ | refine Cd.dc ?_ | refine Cd.ob ?_ | refine Cd.ol ?_ | refine Cd.mk ⟨rfl, rfl⟩ ?_ | refine Cd.mk (bd _) ?_ | refine Cd.om ?_ | refine Cd.mk ?_ ?_ | refine DsE.mk [_] rfl ?_ | refine DsE.mk [_, _, _] rfl ?_)
 rfl
theorem wm (x : UInt8) : ∀ c : Nat, Lib.repeatL [x] c = List.replicate c x
 | 0 => rfl
 | c + 1 => by rw [Lib.repeatL, wm x c]; rfl
theorem adt {c : Nat} (h : c < 1000) : Sim Tryd.prog G0 true 38 [.str ⟨#[48]⟩, .int .i64 c] (.str (bst (List.replicate c 48))) := by
 refine aad (vs := [.string ⟨#[48]⟩, .int .i64 c]) (rv := .string ⟨(Lib.repeatL [48] c).toArray⟩) (by kernel_rfl) rfl (fun S w => ?_) fun w => ?_
 ·simp only [DR]; rw [wm, fp]
 ·exact Tryd.strings_Repeat ⟨#[48]⟩ c w (by omega) (by show 1 * c ≤ _; omega)
theorem alq {b v k : Nat} (hb : 2 ≤ b) (hk : 0 < k) (h : v < b ^ k) : (fu b v).length ≤ k := by
 unfold fu
 split
 ·show 1 ≤ k; omega
 ·rw [List.length_map]; exact jr hb k v h
theorem alz {b v k : Nat} (hb : 2 ≤ b) (hk : 0 < k) (h : v < b ^ k) : List.replicate (k - (fu b v).length) 48 ++ fu b v = (pad k (dg b v)).map ch := by
 unfold pad fu
 rw [List.map_append, List.map_replicate, xo]
 by_cases h0 : v = 0
 ·subst h0
  rw [if_pos rfl, en]
  simp only [List.map_cons, List.map_nil, List.length_cons, List.length_nil, Nat.zero_add, Nat.sub_zero, List.append_nil, xo]
  rw [← List.replicate_succ', Nat.sub_add_cancel hk]
 ·rw [if_neg h0]; simp
theorem wc {b k v : Nat} (hb : (b = 10 ∧ k = 9) ∨ (b = 16 ∧ k = 8)) (h : v < b ^ k) : Sim Tryd.prog G0 true 21 [.int .u32 v, .int .i64 b, .int .i64 k] (.str (bst ((pad k (dg b v)).map ch))) := by
 have hb2 : 2 ≤ b ∧ 0 < k ∧ k < 10 := by omega
 have hv : v < 4294967296 := by
  rcases hb with ⟨rfl, rfl⟩ | ⟨rfl, rfl⟩ <;> omega
 have s := ajg (b := b) (v := v) (by omega) hv
 have hl := alq hb2.1 hb2.2.1 h
 have e := alz hb2.1 hb2.2.1 h
 obtain ⟨f, hf⟩ : ∃ f, fu b v = f := ⟨_, rfl⟩
 rw [hf] at s hl e
 have s2 := adt (c := ((k : Int) - f.length).toNat) (by omega)
 rw [← show ((k : Int) - f.length).toNat = k - f.length by omega] at e
 rw [← e]
 refine cl ay Tryd.func21 ?_
 repeat' ((conv => whnf); first | refine aw.data ?_ | refine cE s ?_ | refine cE s2 ?_ | refine rgE ?_ | refine Cd.mk rfl ?_ | refine Br.t ?_ | refine Br.f ?_ | with_reducible refine Br.dec (fun _ => ?_) (fun _ => ?_) | with_reducible refine Br.br (fun _ => ?_) (fun _ => ?_) | refine Br.mk (fun _ => ?_) (fun _ => ?_) | refine ao.mk _ (az _ _ (by omega)) ?_ | refine ao.mk _ (a6 _ _ (by omega)) ?_ | refine ao.mk _ (cv _ _ _ (by first | with_reducible exact af _ | with_reducible exact ab _ | exact af _ | exact ab _ | rfl) (by first | omega | (simp only [List.length_set]; omega))) ?_ | refine ao.mk _ rfl ?_ | refine And.intro (fun _ => ?_) ?_ | (refine TkE.fL ?_; (conv => whnf); fail_if_success (show ag _ _)) | refine TkE.mk _ rfl rfl ?_ | refine Res.mk ?_ | refine a8.mk (by repeat first | exact True.intro | refine And.intro (by kernel_rfl) ?_) ?_ | refine DsE.mk (ba _) rfl ?_ | refine DsE.mk [] rfl ?_ | refine ai.cu _ _ ?_ | ((with_reducible refine EqE.idT ?_); first | ((conv => arg 1; simp only [ak, List.toList_toArray, an, ae, aa, Int.toNat_natCast, Int.toNat_zero, Int.toNat_one, b4, b5, List.drop_zero, Nat.sub_zero, List.cons_append, List.nil_append]); refine EqE.mk _ rfl ?_) | refine EqE.mk _ rfl ?_) | ((with_reducible refine EqE.idP ?_); first | ((conv => arg 1; simp only [ak, List.toList_toArray, bz, b3]); refine EqE.mk _ rfl ?_) | refine EqE.mk _ rfl ?_) | ((with_reducible refine EqE.idN ?_); first | ((conv => arg 1; simp only [ak, List.toList_toArray, aa, bb, Int.toNat_natCast, Int.toNat_zero, Int.toNat_one, List.length_cons, List.length_nil, Nat.zero_add]); refine EqE.mk _ rfl ?_)) | ((with_reducible refine EqE.idW ?_); first | with_reducible refine EqE.mk _ (av _) ?_ | with_reducible refine EqE.mk _ (ed _ _ (by omega)) ?_ | with_reducible refine EqE.mk _ (bx _ (by omega)) ?_ | with_reducible refine EqE.mk _ (et _ _ (by omega) (by omega)) ?_ | with_reducible refine EqE.mk _ (ep _ _ (by omega)) ?_ | with_reducible refine EqE.mk _ (eg _ _ (by omega) (by omega)) ?_ | with_reducible refine EqE.mk _ (c6 _ (by omega)) ?_ | with_reducible refine EqE.mk _ (dd _ (by omega)) ?_ | with_reducible refine EqE.mk _ (n_and1_32 _ (by omega)) ?_ | with_reducible refine EqE.mk _ (eo _ _ (by omega) (by omega)) ?_ | with_reducible refine EqE.mk _ (ig _ _ (by omega) (by omega)) ?_ | refine EqE.mk _ (er _ 32 (by omega)) ?_ | with_reducible refine EqE.mk _ (cc _) ?_ | with_reducible refine EqE.mk _ (gu _) ?_ | with_reducible refine EqE.mk _ (ey _ (by omega)) ?_ | with_reducible refine EqE.mk _ (a7 _ (by omega)) ?_ | with_reducible refine EqE.mk _ (ar _ (by omega)) ?_ | with_reducible refine EqE.mk _ (n_iadd _ _ (by omega)) ?_ | with_reducible refine EqE.mk _ (wrap_u64 (by omega) (by omega)) ?_ | with_reducible refine EqE.mk _ (wrap_u32 _) ?_ | with_reducible refine EqE.mk _ (ah (by omega) (by omega)) ?_ | refine EqE.mk _ rfl ?_) | ((with_reducible refine EqE.idF ?_); first | with_reducible refine EqE.mk _ (n_shr63 _) ?_ | with_reducible refine EqE.mk _ (cg _ _ (by omega)) ?_ | with_reducible refine EqE.mk _ (n_shrv32 _ _ (by omega)) ?_ | with_reducible refine EqE.mk _ (n_shr1_32 _) ?_ | refine EqE.mk _ (aj _ 4294967296 _ _ rfl) ?_ | refine EqE.mk _ (aj _ 65536 _ _ rfl) ?_ | refine EqE.mk _ (aj _ 256 _ _ rfl) ?_ | refine EqE.mk _ (aj _ 134217728 _ _ rfl) ?_ | refine EqE.mk _ (aj _ 2 _ _ rfl) ?_ | refine EqE.mk _ (aj _ 16 _ _ rfl) ?_ | refine EqE.mk _ rfl ?_) | ((with_reducible refine EqE.idM ?_); first | refine EqE.mk _ (bm _ 32) ?_ | refine EqE.mk _ (bm _ _) ?_ | refine EqE.mk _ rfl ?_) | ((with_reducible refine EqE.idI ?_); first | refine EqE.mk _ (ib _) ?_ | with_reducible refine EqE.mk _ (b9 _ _) ?_ | refine EqE.mk _ (max_eq _ _) ?_ | refine EqE.mk _ (min_eq _ _) ?_) | ((with_reducible refine EqE.idS ?_); first | refine EqE.mk _ (bo _ _ _ _ (by first | with_reducible exact af _ | with_reducible exact ab _ | exact af _ | exact ab _ | rfl) (by first | omega | (simp only [List.length_set]; omega)) (by omega)) ?_ | refine EqE.mk _ (db _ _ _ _ (by first | with_reducible exact af _ | with_reducible exact ab _ | exact af _ | exact ab _ | rfl) (by omega) (by omega) (by omega)) ?_ | (refine EqE.fP ?_; (conv => whnf); fail_if_success (show ag _ _)) | refine EqE.mk _ rfl ?_) | ((with_reducible refine EqE.idA ?_); first | refine EqE.mk _ (b8 _) ?_ | refine EqE.mk _ (da _ _) ?_ | refine EqE.mk _ rfl ?_) | ((with_reducible refine EqE.idR ?_); first | refine EqE.mk _ (ca _) ?_ | refine EqE.mk _ rfl ?_) | ((with_reducible refine EqE.idL ?_); first | refine EqE.mk _ (ax _ _ _ _ (by omega) (by omega) rfl) ?_ | refine EqE.mk _ (sl_sliceN _ _ (by omega)) ?_ | refine EqE.mk _ (bn _ _ _ (by omega) (by omega) (by omega)) ?_ | refine EqE.mk _ rfl ?_) | refine EqE.mk _ rfl ?_ | refine Cd.ro ?_ | refine Cd.dc ?_ | refine Cd.ob ?_ | refine Cd.ol ?_ | refine Cd.mk ⟨rfl, rfl⟩ ?_ | refine Cd.mk (bd _) ?_ | refine Cd.om ?_ | refine Cd.mk ?_ ?_ | refine DsE.mk [_] rfl ?_ | refine DsE.mk [_, _, _] rfl ?_)
 rfl
end Go.Ev.Ar

namespace Go.Ev.Ar
open Go Go.Ev Go.Proofs
theorem agx (L : List UInt32) (n : Nat) (hn : n ≤ L.length) (hL : L.length < 2^40) :
  qp Tryd.prog G0 30 [.own 1000000 0 n 1] [(1000000, false, la L)] (.own 1000000 0 (ofN (nv (L.take n))).length 1) [(1000000, false, la L)] := by
 refine ae5 ay Tryd.func30 ?_
 repeat' ((conv => whnf); first | refine rgE ?_)
 refine ⟨[], [0], [1000000], fun m xs h => ∃ k : Nat, m = k ∧ k ≤ n ∧ nv (L.take k) = nv (L.take n) ∧ xs = [.own 1000000 0 k 1] ∧ h = [(1000000, false, la L)], ⟨_, _, _, ⟨.inl rfl, rfl, rfl, by first | rfl | (repeat first | exact all_nil _ | refine cz _ _ _ _ _ ?_)⟩, n, rfl, Nat.le_refl _, rfl, rfl, rfl⟩, ?_⟩
 rintro m xs h ⟨k, rfl, hle, hcut, rfl, rfl⟩
 repeat' ((conv => whnf); first | refine rgE ?_ | refine Cd.mk rfl ?_ | refine Br.t ?_ | refine Br.f ?_ | with_reducible refine Br.dec (fun _ => ?_) (fun _ => ?_) | refine ao.mk _ (cv _ _ _ (by first | with_reducible exact af _ | with_reducible exact ab _ | exact af _ | exact ab _ | rfl) (by first | omega | (simp only [List.length_set]; omega))) ?_ | refine ai.cu _ _ ?_ | ((with_reducible refine EqE.idW ?_); with_reducible refine EqE.mk _ (ah (by omega) (by omega)) ?_) | refine Cd.om ?_)
 ·rename_i h0 h1
  have e : ((m : Int) - 1).toNat = m - 1 := by omega
  have e0 : ((m : Int) - 1 - 0).toNat = m - 1 := by omega
  rw [e] at h1
  refine ⟨_, ⟨m - 1, rfl, by omega, ?_, ?_, rfl⟩, by omega⟩
  ·rw [← hcut, show m = m - 1 + 1 by omega, bp, show m - 1 + 1 - 1 = m - 1 by omega, show (L.getD (m - 1) 0).toNat = 0 by omega]; simp
  ·show [A.own 1000000 0 ((m : Int) - 1 - 0).toNat 1] = _
   rw [e0]
 ·rename_i h0 h1
  have e : ((m : Int) - 1).toNat = m - 1 := by omega
  rw [e] at h1
  have hl : (L.take m).length = m := by rw [List.length_take]; omega
  have := zt (l := L.take m) (.inr (by rw [hl, List.getD_eq_getElem?_getD, List.getElem?_take, if_pos (by omega), ← List.getD_eq_getElem?_getD]; omega))
  refine aam.own 2 rfl ?_ rfl
  show A.own 1000000 0 m 1 = _
  rw [← hcut, this, hl]
 ·rename_i h0
  obtain rfl : m = 0 := by omega
  refine aam.own 2 rfl ?_ rfl
  show A.own 1000000 0 0 1 = _
  rw [← hcut, List.take_zero, mr, dj]; rfl
set_option maxHeartbeats 2000000 in
theorem akn (a : List UInt32) (n : Int) (ha : a.length < 2^30) (hn : n ≤ 2^30) (h0 : nv a ≠ 0) :
  qp Tryd.prog G0 45 [.d (sl a), .d (.int .i64 n)] [] (.own 25 0 (ofN (nv a * 2 ^ n.toNat)).length 1) [(25, false, la (tw (nv a * 2 ^ n.toNat) ((ofN (nv a)).length + n.toNat / 32 + 1)))] := by
 have h1 := ee a
 have h0' : (ofN (nv a)).length ≠ 0 := fun h => h0 (cw.1 h)
 refine ae5 ay Tryd.func45 ?_
 repeat' ((conv => whnf); first | refine aw.data ?_ | with_reducible refine Br.bf fun _ => ?_ | refine cE (fm _ (by omega)) ?_ | refine rgE ?_ | refine Cd.mk rfl ?_ | ((with_reducible refine EqE.idW ?_); first | refine EqE.mk _ (er _ 32 (by omega)) ?_ | with_reducible refine EqE.mk _ (a7 _ (by omega)) ?_ | with_reducible refine EqE.mk _ (ar _ (by omega)) ?_) | ((with_reducible refine EqE.idM ?_); refine EqE.mk _ (bm _ 32) ?_) | ((with_reducible refine EqE.idI ?_); refine EqE.mk _ (ib _) ?_) | ((with_reducible refine EqE.idR ?_); refine EqE.mk _ (ca _) ?_) | refine Cd.om ?_)
 generalize hA : ofN (nv a) = A at *
 have hvA : nv A = nv a := by rw [← hA, di]
 have hs : n.toNat % 32 < 32 := Nat.mod_lt _ (by decide)
 have hN : n.toNat = 32 * (n.toNat / 32) + n.toNat % 32 := (Nat.div_add_mod _ _).symm
 have hN2 : n.toNat ≤ 2^30 := by omega
 generalize hqe : n.toNat / 32 = q at *
 generalize hse : n.toNat % 32 = s at *
 skip
 refine ⟨[], [0,5,6,7,29,30], [25], fun m xs h => ∃ (n i : Nat) (l : List UInt32), m = A.length + 1 - i ∧ n = A.length + q + 1 ∧ i ≤ A.length + 1 ∧ l.length = n ∧ nv l + Pw (q + i) * (at_ A (i - 1) * 2 ^ s / 4294967296) = Pw q * (nv (A.take i) * 2 ^ s) ∧ (∀ j, q + i ≤ j → (l.getD j 0).toNat = 0) ∧
  xs = [.d (sl A), .d (.int .i64 q), .d (.int .i64 s), .own 25 0 n 1, .d (.int .i64 ((n - q : Int).toNat : Nat)), .d (.int .i64 i)] ∧ h = [(25, false, la l)],
  ⟨_, _, _, ⟨.inl rfl, rfl, rfl, by first | rfl | (repeat first | exact all_nil _ | refine cz _ _ _ _ _ ?_)⟩, _, 0, _, rfl, ?_, by omega, by simp, ?_, fun j _ => n5 _ _, rfl, rfl⟩, ?_⟩
 ·omega
 ·rw [show at_ A ((0 : Nat) - 1 : Int) = 0 from rfl, dw]; simp
 rintro m xs h ⟨n', i, l, rfl, hn', hi, hl, hv, hz, rfl, rfl⟩
 have hx1 := sr A i
 have hx2 := sr A (i - 1)
 have hy1 := aac hx1 hs
 have hy2 := aac hx2 hs
 repeat' ((conv => whnf); first | refine aw.own (ni.au (agx l n' (by omega) (by omega)) [(1000000, 25)] [] (.own 25 0 (ofN (nv (l.take n'))).length 1) [(25, false, la l)] [] ?_) | refine cE (y3 _ _) ?_ | refine rgE ?_ | refine Cd.mk rfl ?_ | with_reducible refine Br.dec (fun _ => ?_) (fun _ => ?_) | refine ai.cu _ _ ?_ | ((with_reducible refine EqE.idW ?_); first | with_reducible refine EqE.mk _ (et _ _ (by omega) (by omega)) ?_ | with_reducible refine EqE.mk _ (ig _ _ (by omega) (by omega)) ?_ | with_reducible refine EqE.mk _ (cc _) ?_ | with_reducible refine EqE.mk _ (a7 _ (by omega)) ?_ | with_reducible refine EqE.mk _ (ar _ (by omega)) ?_ | with_reducible refine EqE.mk _ (ah (by omega) (by omega)) ?_) | ((with_reducible refine EqE.idF ?_); refine EqE.mk _ (aj _ 4294967296 _ _ rfl) ?_) | ((with_reducible refine EqE.idS ?_); refine EqE.mk _ (bo _ _ _ _ (by first | with_reducible exact af _ | with_reducible exact ab _ | exact af _ | exact ab _ | rfl) (by first | omega | (simp only [List.length_set]; omega)) (by omega)) ?_) | refine Cd.om ?_)
 ·rename_i h0
  refine ⟨_, ⟨n', i + 1, _, rfl, hn', by omega, ?_, ?_, ?_, rfl, rfl⟩, by omega⟩
  ·simp [hl]
  ·have hc := ym hx2 hs
   have hd := ae3 (x := at_ A i) hs hc
   rw [adn hc, q7 (by omega) (hz _ (by omega)) (by omega), bp, ← nm, show q + (i + 1) = q + i + 1 from rfl, fk, show ((i + 1 : Nat) : Int) - 1 = i by omega, ← hd]
   have h5 := ly (Pw (q + i)) (at_ A i * 2 ^ s + at_ A (i - 1) * 2 ^ s / 4294967296)
   have h6 : Pw q * ((nv (A.take i) + Pw i * at_ A i) * 2 ^ s) = Pw q * (nv (A.take i) * 2 ^ s) + Pw (q + i) * (at_ A i * 2 ^ s) := by
    rw [rp]; grind
   rw [h6]
   rw [Nat.mul_add] at h5
   omega
  ·intro j hj
   rw [getD_set_ne (by omega)]; exact hz j (by omega)
 ·rename_i h2
  have e : i = A.length + 1 := by omega
  have e0 : at_ A (i - 1) = 0 := by rw [show (i : Int) - 1 = ((A.length : Nat) : Int) by omega, nm, n4 (by omega)]
  rw [e0, List.take_of_length_le (by omega), hvA] at hv
  have hnl : nv l = nv a * 2 ^ n.toNat := by
   rw [hN, ← uq, show nv l = Pw q * (nv a * 2 ^ s) by simpa using hv]; grind
  refine aam.own 4 rfl ?_ ?_
  ·show Ev.A.own 25 0 _ 1 = Ev.A.own 25 0 _ 1
   rw [List.take_of_length_le (by omega), hnl]
  ·show [(25, false, la l)] = _
   rw [← aev (l := l) (by omega) hnl]
theorem aih (a : List UInt32) (n : Nat) (ha : a.length < 2^30) (hn : n ≤ 31) (h0 : nv a ≠ 0) :
  qp Tryd.prog G0 29 [.d (sl a), .d (.int .i64 n)] [] (.own 8 0 (ofN (nv a * 2 ^ n)).length 1) [(8, false, la (ofN (nv a * 2 ^ n)))] := by
 have h := (akn a n ha (by omega) h0).shrink ((ofN (nv a * 2 ^ n)).length)
 rw [Int.toNat_natCast] at h
 rw [show (la (tw (nv a * 2 ^ n) ((ofN (nv a)).length + n / 32 + 1))).take (ofN (nv a * 2 ^ n)).length = la (ofN (nv a * 2 ^ n)) by
  unfold la ba; rw [← List.map_take, ← List.map_take, afx]] at h
 generalize ofN (nv a * 2 ^ n) = A at *
 refine ae5 ay Tryd.func29 ?_
 have hh := vq n
 rw [show min (max (n : Int) 0) 100000 = n by omega] at hh
 repeat' ((conv => whnf); first | refine aw.own (ni.au (h) [] [(25, 8)] (.own 8 0 A.length 1) [(8, false, la A)] [] ?_) | refine cE hh ?_ | refine aw.data ?_ | refine rgE ?_)
 exact aam.own 4 rfl rfl rfl
end Go.Ev.Ar

namespace Go.Ev
open Go
theorem ahd {U V u0 v0 P U3 V2 q : Nat} (hU : U = u0 + P * U3) (hV : V = v0 + P * V2) (hu : u0 < P) (hq : q * V ≤ U) : q * V2 ≤ U3 := by
 subst hU hV
 have h1 : P * (q * V2) ≤ q * (v0 + P * V2) := by
  rw [Nat.mul_add, ← Nat.mul_assoc q P V2, Nat.mul_comm q P, Nat.mul_assoc]; omega
 have h2 : P * (q * V2) < P * (U3 + 1) := by rw [Nat.mul_add, Nat.mul_one]; omega
 have := Nat.lt_of_mul_lt_mul_left h2
 omega
theorem ahe {U V u0 v0 P U3 V2 g : Nat} (hU : U = u0 + P * U3) (hV : V = v0 + P * V2) (hu : u0 < P) (hg : U3 < g * V2) : U < g * V := by
 subst hU hV
 have h1 : P * (U3 + 1) ≤ P * (g * V2) := Nat.mul_le_mul_left _ hg
 have h2 : P * (g * V2) ≤ g * (v0 + P * V2) := by
  rw [Nat.mul_add, ← Nat.mul_assoc g P V2, Nat.mul_comm g P, Nat.mul_assoc]; omega
 rw [Nat.mul_add, Nat.mul_one] at h1
 omega
theorem acw {U V u0 v0 P U3 V2 g : Nat} (hU : U = u0 + P * U3) (hV : V = v0 + P * V2) (hv : v0 < P) (hg : g * V2 ≤ U3) (hgV : g ≤ V2 + 1) : (g - 1) * V ≤ U := by
 cases g with
 | zero => simp
 | succ g =>
  subst hU hV
  rw [Nat.add_sub_cancel]
  have h1 : g * (V2 + 1) ≤ U3 := by
   rw [Nat.mul_add, Nat.mul_one]
   rw [Nat.add_mul, Nat.one_mul] at hg; omega
  have h2 : g * (v0 + P * V2) ≤ P * (g * (V2 + 1)) := by
   rw [Nat.mul_add, Nat.mul_add V2 1 |> fun h => Nat.mul_add g V2 1, Nat.mul_one, Nat.mul_add P, ← Nat.mul_assoc g P V2, Nat.mul_comm g P, Nat.mul_assoc, Nat.mul_comm P g]
   have := Nat.mul_le_mul_left g (Nat.le_of_lt hv)
   omega
  have h3 : P * (g * (V2 + 1)) ≤ P * U3 := Nat.mul_le_mul_left _ h1
  omega
theorem akc {U V g : Nat} (hV : 0 < V) (h1 : U / V ≤ g) (h2 : (g - 1) * V ≤ U) : U / V = g ∨ U / V = g - 1 := by
 have := (Nat.le_div_iff_mul_le hV).2 h2
 omega
theorem aj4 (l : List UInt32) (n : Nat) (hl : l.length = n + 1) (hn : 2 ≤ n) : nv l = nv (l.take (n - 2)) + Pw (n - 2) * ((l.getD (n - 2) 0).toNat + 4294967296 * ((l.getD (n - 1) 0).toNat + 4294967296 * (l.getD n 0).toNat)) := by
 rw [gd l (n - 2) (by omega), gj l (n - 2), gj l (n - 2 + 1), gj l (n - 2 + 1 + 1), show n - 2 + 1 = n - 1 by omega, show n - 1 + 1 = n by omega, List.drop_eq_nil_of_le (by omega), mr, Nat.mul_zero, Nat.add_zero]
theorem aj3 (l : List UInt32) (n : Nat) (hl : l.length = n) (hn : 2 ≤ n) : nv l = nv (l.take (n - 2)) + Pw (n - 2) * ((l.getD (n - 2) 0).toNat + 4294967296 * (l.getD (n - 1) 0).toNat) := by
 rw [gd l (n - 2) (by omega), gj l (n - 2), gj l (n - 2 + 1), show n - 2 + 1 = n - 1 by omega, show n - 1 + 1 = n by omega, List.drop_eq_nil_of_le (by omega), mr, Nat.mul_zero, Nat.add_zero]
theorem kk (l : List UInt32) (k : Nat) : nv (l.take k) < Pw k := by
 have := gk (l.take k)
 refine Nat.lt_of_lt_of_le this (im ?_)
 rw [List.length_take]; omega
theorem af9 {p u v g c b : Nat} (hu : u < 4294967296) (hv : v < 4294967296) (hg : g < 4294967296) (hc : c < 4294967296) (hb : b ≤ 1) {x : Nat} (hx : x = ((u + 18446744073709551616 - (c + g * v) % 4294967296) % 18446744073709551616 + 18446744073709551616 - b) % 18446744073709551616) :
  p * (x % 4294967296) + g * (p * v) + p * (c + b) = p * u + 4294967296 * p * ((c + g * v) / 4294967296 + x / 4294967296 % 2) ∧ (c + g * v) / 4294967296 < 4294967296 ∧ x / 4294967296 % 2 ≤ 1 ∧ c + g * v < 18446744073709551616 := by
 have h1 : g * v ≤ 4294967295 * 4294967295 := Nat.mul_le_mul (by omega) (by omega)
 generalize hw : g * v = w at *
 have h2 : x % 4294967296 + (c + w) % 4294967296 + b = u + 4294967296 * (x / 4294967296 % 2) := by omega
 have h3 : x % 4294967296 + w + (c + b) = u + 4294967296 * ((c + w) / 4294967296 + x / 4294967296 % 2) := by omega
 have h4 := congrArg (p * ·) h3
 simp only [Nat.mul_add] at h4
 refine ⟨?_, by omega, by omega, by omega⟩
 have e1 : g * (p * v) = p * w := by rw [← hw]; simp only [Nat.mul_left_comm]
 have e2 : ∀ y, p * (4294967296 * y) = 4294967296 * p * y := fun y => by rw [Nat.mul_left_comm, Nat.mul_assoc]
 simp only [Nat.mul_add, e1] at h4 ⊢
 rw [e2, e2] at h4
 omega
end Go.Ev

namespace Go.Ev.Ar
open Go Go.Ev Go.Proofs
noncomputable def akf : Code := match Tryd.f35.body with | some c => c | none => .skip
noncomputable def al8 : Code := Ev.Code.inner (Ev.Code.snd akf)
noncomputable def abu : Code := Ev.Code.snd (Ev.Code.snd (Ev.Code.snd (Ev.Code.snd (Ev.Code.snd al8))))
noncomputable def aik : Code := Ev.Code.snd abu
theorem q4 (A W : List UInt32) (i : Int) (j : Nat) (e : i = j) (h : j < W.length) : A.length + i.toNat * 1 + 1 ≤ (la (A ++ W)).length := by
 subst e; rw [lx, List.length_append, Int.toNat_natCast]; omega
theorem jw {a b : List UInt32} {i : Nat} (h : a.drop i = b.drop i) : a.getD i 0 = b.getD i 0 := by
 have := congrArg (fun l => l.getD 0 0) h
 simpa [List.getD_eq_getElem?_getD] using this
theorem fq (a : List UInt32) (i : Nat) (v : UInt32) : (a.set i v).drop (i + 1) = a.drop (i + 1) := by
 rw [List.drop_set_of_lt (by omega)]
theorem pq (a : List UInt32) (i : Nat) (v : UInt32) : (a.set i v).take i = a.take i := by
 rw [List.take_set_of_le (by omega)]
theorem k6 (a : List UInt32) (i v : Nat) (hi : i < a.length) (hv : v < 4294967296) : nv ((a.set i (UInt32.ofNat v)).take (i + 1)) = nv (a.take i) + Pw i * v := by
 rw [bp, pq, lh hi, toNat_ofNat hv]
theorem yj (a b : List UInt32) (n N : Nat) (hl : n ≤ a.length) (hd : a.drop n = b.drop n) (hn : nv (a.take n) = N) : a = tw N n ++ b.drop n := by
 rw [← hd, ← aev (l := a.take n) (by rw [List.length_take]; omega) hn, List.take_append_drop]
def fz (W v : List UInt32) : List UInt32 := tw (nv (W.take (v.length + 1)) % nv v) (v.length + 1) ++ W.drop (v.length + 1)
abbrev ak9 (A W v : List UInt32) : Exit → St → Prop := al4 tab Tryd.f35.results.toList (.d (.int .u32 (nv (W.take (v.length + 1)) / nv v : Nat))) [(1000000, false, la (A ++ fz W v))]
set_option maxHeartbeats 4000000 in
theorem af7 (A W v : List UInt32) (g : Nat) (hA : A.length + W.length < 2^32) (hn : 2 ≤ v.length) (hW : v.length + 1 ≤ W.length) (hV : 0 < nv v) (hg : g < 4294967296)
  (hq : nv (W.take (v.length + 1)) / nv v = g ∨ nv (W.take (v.length + 1)) / nv v + 1 = g) :
  Wp' Tryd.prog G0 aik (ak9 A W v) ⟨164, [0, 1, 5, 8].zip [.own 1000000 A.length (v.length + 1) 1, .d (sl v), .d (.int .i64 v.length), .d (.int .u64 g)], [(1000000, false, la (A ++ W))]⟩ := by
 generalize hnl : v.length = n at *
 generalize hU : nv (W.take (n + 1)) = U at *
 generalize hVe : nv v = V at *
 refine eb ay _ _ _ ?_
 repeat' ((conv => whnf); first | refine rgE ?_)
 refine ⟨[], [0, 1, 5, 8, 10, 11, 74, 75], [1000000], fun m xs h => ∃ (i c b : Nat) (W1 : List UInt32), m = n - i ∧ i ≤ n ∧ c < 4294967296 ∧ b ≤ 1 ∧ W1.length = W.length ∧ W1.drop i = W.drop i ∧ nv (W1.take i) + g * nv (v.take i) = nv (W.take i) + Pw i * (c + b) ∧
  xs = [.own 1000000 A.length (n + 1) 1, .d (sl v), .d (.int .i64 n), .d (.int .u64 g), .d (.int .u64 b), .d (.int .u64 c), .d (.int .i64 n), .d (.int .i64 i)] ∧ h = [(1000000, false, la (A ++ W1))],
  ⟨_, _, _, ⟨.inl rfl, rfl, rfl, by first | rfl | (repeat first | exact all_nil _ | refine cz _ _ _ _ _ ?_)⟩, 0, 0, 0, W, rfl, by omega, by decide, by decide, rfl, rfl, by simp, rfl, rfl⟩, ?_⟩
 rintro m xs h ⟨i, c, b, W1, rfl, hi, hc, hb, hl1, hd1, hs1, rfl, rfl⟩
 by_cases hlt : i < n
 ·have hvi := ck (v.getD i 0)
  have hui := ck (W1.getD i 0)
  have hgv : g * (v.getD i 0).toNat ≤ 18446744065119617025 := Nat.mul_le_mul (show g ≤ 4294967295 by omega) (show (v.getD i 0).toNat ≤ 4294967295 by omega)
  have hgv2 := abe hg hvi
  repeat' ((conv => whnf); first | with_reducible refine Br.bt fun _ => ?_ | refine ao.mk _ (kj v _ i rfl (by omega)) ?_ | refine ao.mk _ (mm A W1 _ i rfl (by omega)) ?_ | refine rgE ?_ | refine Cd.mk rfl ?_ | refine ai.cu _ _ ?_ | ((with_reducible refine EqE.idW ?_); first | refine EqE.mk _ (ep _ _ hgv2) ?_ | with_reducible refine EqE.mk _ (av _) ?_ | with_reducible refine EqE.mk _ (ed _ _ (by omega)) ?_ | with_reducible refine EqE.mk _ (eg _ _ (by omega) (by omega)) ?_ | with_reducible refine EqE.mk _ (c6 _ (by omega)) ?_ | with_reducible refine EqE.mk _ (dd _ (by omega)) ?_ | with_reducible refine EqE.mk _ (cc _) ?_ | with_reducible refine EqE.mk _ (ar _ (by omega)) ?_) | ((with_reducible refine EqE.idF ?_); refine EqE.mk _ (aj _ 4294967296 _ _ rfl) ?_) | ((with_reducible refine EqE.idS ?_); refine EqE.mk _ (mn A W1 _ i _ rfl (by omega) (by omega)) ?_) | refine Cd.om ?_)
  obtain ⟨x, hx⟩ : ∃ x, x = (((W1.getD i 0).toNat + 18446744073709551616 - (c + g * (v.getD i 0).toNat) % 4294967296) % 18446744073709551616 + 18446744073709551616 - b) % 18446744073709551616 := ⟨_, rfl⟩
  obtain ⟨r1, r2, r3, r4⟩ := af9 (p := Pw i) hui hvi hg hc hb hx
  rw [← hx]
  refine ⟨_, ⟨i + 1, _, _, W1.set i (UInt32.ofNat (x % 4294967296)), rfl, by omega, r2, r3, by rw [List.length_set, hl1], ?_, ?_, rfl, rfl⟩, by omega⟩
  ·rw [fq, ← List.drop_drop, ← List.drop_drop, hd1]
  ·have e1 : (W.getD i 0).toNat = (W1.getD i 0).toNat := by rw [jw hd1]
   rw [k6 _ _ _ (by omega) (by omega), bp, bp, e1, fk, Nat.mul_add g]
   omega
 obtain rfl : i = n := by omega
 clear hi hlt
 rw [List.take_of_length_le (show v.length ≤ i by omega), hVe] at hs1
 have hui := ck (W1.getD i 0)
 have e1 : (W.getD i 0).toNat = (W1.getD i 0).toNat := by rw [jw hd1]
 have hU1 : nv (W1.take i) + g * V + Pw i * (W1.getD i 0).toNat = U + Pw i * (c + b) := by
  rw [← hU, bp, e1]; omega
 obtain ⟨x, hx⟩ : ∃ x, x = (((W1.getD i 0).toNat + 18446744073709551616 - c) % 18446744073709551616 + 18446744073709551616 - b) % 18446744073709551616 := ⟨_, rfl⟩
 have hVn : V < Pw i := by rw [← hVe, ← hnl]; exact gk v
 have hdm := Nat.div_add_mod U V
 have hml := Nat.mod_lt U hV
 have hWl : nv (W1.take i) < Pw i := kk W1 i
 have hqg : g * V = V * (U / V) ∨ g * V = V * (U / V) + V := by
  rcases hq with h | h <;> rw [← h]
  ·exact .inl (Nat.mul_comm _ _)
  ·right; rw [Nat.mul_comm, Nat.mul_add, Nat.mul_one]
 have hx2 : (c + b ≤ (W1.getD i 0).toNat ∧ x = (W1.getD i 0).toNat - (c + b)) ∨ ((W1.getD i 0).toNat < c + b ∧ x % 4294967296 + (c + b) = (W1.getD i 0).toNat + 4294967296 ∧ x / 4294967296 % 2 = 1) := by omega
 repeat' ((conv => whnf); first | with_reducible refine Br.bf fun _ => ?_ | refine ao.mk _ (mm A W1 _ i rfl (by omega)) ?_ | refine rgE ?_ | refine Cd.mk rfl ?_ | with_reducible refine Br.dec (fun _ => ?_) (fun _ => ?_) | ((with_reducible refine EqE.idW ?_); first | with_reducible refine EqE.mk _ (av _) ?_ | with_reducible refine EqE.mk _ (eg _ _ (by omega) (by omega)) ?_ | with_reducible refine EqE.mk _ (c6 _ (by omega)) ?_ | with_reducible refine EqE.mk _ (cc _) ?_) | ((with_reducible refine EqE.idF ?_); refine EqE.mk _ (aj _ 4294967296 _ _ rfl) ?_) | ((with_reducible refine EqE.idS ?_); refine EqE.mk _ (mn A W1 _ i _ rfl (by omega) (by omega)) ?_) | refine Cd.om ?_)
 ·rename_i h0
  rw [← hx] at h0
  have hc1 : c + b ≤ (W1.getD i 0).toNat ∧ x = (W1.getD i 0).toNat - (c + b) := by
   rcases hx2 with h | h
   ·exact h
   ·omega
  have hr : nv (W1.take i) + Pw i * x + g * V = U := by
   have : Pw i * x + Pw i * (c + b) = Pw i * (W1.getD i 0).toNat := by rw [← Nat.mul_add]; congr 1; omega
   omega
  have hgq : U / V = g := by
   rcases hq with h | h
   ·exact h
   ·have : g * V = V * (U / V) + V := by rw [← h, Nat.mul_comm, Nat.mul_add, Nat.mul_one]
    omega
  have hgV : g * V = V * (U / V) := by rw [← hgq, Nat.mul_comm]
  refine aam.data _ ?_ rfl
  refine ⟨?_, ?_⟩
  ·show D.int .u32 _ = D.int .u32 _
   rw [hnl, hU, hVe, hgq, Nat.mod_eq_of_lt hg]
  ·show [(1000000, false, la (A ++ W1.set i (UInt32.ofNat _)))] = _
   rw [← hx]
   have e2 : W1.set i (UInt32.ofNat (x % 4294967296)) = fz W v := by
    unfold fz
    rw [hnl, hU, hVe]
    refine yj _ _ _ _ (by rw [List.length_set]; omega) ?_ ?_
    ·rw [fq, ← List.drop_drop, ← List.drop_drop, hd1]
    ·rw [k6 _ _ _ (by omega) (by omega), Nat.mod_eq_of_lt (by omega)]; omega
   rw [e2]
 ·rename_i h0
  rw [← hx] at h0
  have hc1 : (W1.getD i 0).toNat < c + b ∧ x % 4294967296 + (c + b) = (W1.getD i 0).toNat + 4294967296 := by
   rcases hx2 with h | h
   ·omega
   ·exact ⟨h.1, h.2.1⟩
  rw [← hx]
  generalize hy : x % 4294967296 = y at *
  have hyl : y < 4294967296 := by omega
  have hP := fk i
  have hr : nv (W1.take i) + Pw i * y + g * V = U + Pw (i + 1) := by
   have : Pw i * y + Pw i * (c + b) = Pw i * (W1.getD i 0).toNat + Pw (i + 1) := by rw [hP, Nat.mul_comm 4294967296, ← Nat.mul_add, ← Nat.mul_add]; congr 1; omega
   omega
  have hUP : U < Pw (i + 1) := by rw [← hU]; exact kk _ _
  have hyP : Pw i * y + Pw i ≤ Pw (i + 1) := by
   rw [hP, Nat.mul_comm 4294967296]
   have := Nat.mul_le_mul_left (Pw i) (show y + 1 ≤ 4294967296 by omega)
   rw [Nat.mul_add, Nat.mul_one] at this; exact this
  have hgq : U / V + 1 = g := by
   rcases hq with h | h
   ·have : g * V = V * (U / V) := by rw [← h, Nat.mul_comm]
    omega
   ·exact h
  have hgV : g * V = V * (U / V) + V := by rw [← hgq, Nat.mul_comm, Nat.mul_add, Nat.mul_one]
  have hW2n : nv ((W1.set i (UInt32.ofNat y)).take i) = nv (W1.take i) := by rw [pq]
  have hW2d : (W1.set i (UInt32.ofNat y)).drop (i + 1) = W.drop (i + 1) := by rw [fq, ← List.drop_drop, ← List.drop_drop, hd1]
  have hW2l : (W1.set i (UInt32.ofNat y)).length = W.length := by rw [List.length_set, hl1]
  have hW2y : ((W1.set i (UInt32.ofNat y)).getD i 0).toNat = y := by rw [lh (by omega), toNat_ofNat hyl]
  generalize W1.set i (UInt32.ofNat y) = W2 at *
  refine ⟨[], [0, 1, 5, 8, 11, 128, 129], [1000000], fun m xs h => ∃ (j c : Nat) (W3 : List UInt32), m = i - j ∧ j ≤ i ∧ c ≤ 1 ∧ W3.length = W.length ∧ W3.drop j = W2.drop j ∧ nv (W3.take j) + Pw j * c = nv (W2.take j) + nv (v.take j) ∧
   xs = [.own 1000000 A.length (i + 1) 1, .d (sl v), .d (.int .i64 i), .d (.int .u64 g), .d (.int .u64 c), .d (.int .i64 i), .d (.int .i64 j)] ∧ h = [(1000000, false, la (A ++ W3))],
   ⟨_, _, _, ⟨.inl rfl, rfl, rfl, by first | rfl | (repeat first | exact all_nil _ | refine cz _ _ _ _ _ ?_)⟩, 0, 0, W2, rfl, by omega, by decide, hW2l, rfl, by simp, rfl, rfl⟩, ?_⟩
  rintro m xs h ⟨j, c', W3, rfl, hj, hc', hl3, hd3, hs3, rfl, rfl⟩
  by_cases hlt : j < i
  ·have hvi := ck (v.getD j 0)
   have hu3 := ck (W3.getD j 0)
   have e3 : (W2.getD j 0).toNat = (W3.getD j 0).toNat := by rw [jw hd3]
   repeat' ((conv => whnf); first | with_reducible refine Br.bt fun _ => ?_ | refine ao.mk _ (kj v _ j rfl (by omega)) ?_ | refine ao.mk _ (mm A W3 _ j rfl (by omega)) ?_ | refine Cd.mk (q4 A W3 _ j rfl (by omega)) ?_ | refine rgE ?_ | refine Cd.mk rfl ?_ | refine ai.cu _ _ ?_ | ((with_reducible refine EqE.idW ?_); first | with_reducible refine EqE.mk _ (av _) ?_ | with_reducible refine EqE.mk _ (ed _ _ (by omega)) ?_ | with_reducible refine EqE.mk _ (cc _) ?_ | with_reducible refine EqE.mk _ (ar _ (by omega)) ?_) | ((with_reducible refine EqE.idF ?_); refine EqE.mk _ (aj _ 4294967296 _ _ rfl) ?_) | ((with_reducible refine EqE.idS ?_); refine EqE.mk _ (mn A W3 _ j _ rfl (by omega) (by omega)) ?_) | refine Cd.om ?_)
   generalize hz : (c' + ((W3.getD j 0).toNat + (v.getD j 0).toNat)) = z at *
   refine ⟨_, ⟨j + 1, z / 4294967296, W3.set j (UInt32.ofNat (z % 4294967296)), rfl, by omega, by omega, by rw [List.length_set, hl3], ?_, ?_, rfl, rfl⟩, by omega⟩
   ·rw [fq, ← List.drop_drop, ← List.drop_drop, hd3]
   ·have h5 := ly (Pw j) z
    rw [k6 _ _ _ (by omega) (by omega), bp, bp, e3, fk]
    rw [← hz, Nat.mul_add, Nat.mul_add] at h5
    rw [← hz]
    omega
  ·obtain rfl : j = i := by omega
   have hu3 := ck (W3.getD j 0)
   have e3 : (W2.getD j 0).toNat = (W3.getD j 0).toNat := by rw [jw hd3]
   rw [hW2y] at e3
   rw [List.take_of_length_le (show v.length ≤ j by omega), hVe, hW2n] at hs3
   repeat' ((conv => whnf); first | with_reducible refine Br.bf fun _ => ?_ | refine ao.mk _ (mm A W3 _ j rfl (by omega)) ?_ | refine Cd.mk (q4 A W3 _ j rfl (by omega)) ?_ | refine rgE ?_ | refine Cd.mk rfl ?_ | ((with_reducible refine EqE.idW ?_); first | with_reducible refine EqE.mk _ (ajz _ _) ?_ | with_reducible refine EqE.mk _ (cc _) ?_ | with_reducible refine EqE.mk _ (wrap_u32 _) ?_ | refine EqE.mk _ rfl ?_) | ((with_reducible refine EqE.idS ?_); refine EqE.mk _ (mn A W3 _ j _ rfl (by omega) (by omega)) ?_) | refine Cd.om ?_)
   have hS : nv (W3.take j) + Pw j * (y + c') + g * V = U + Pw (j + 1) + V := by rw [Nat.mul_add]; omega
   have hW3l := kk W3 j
   have hyc : y + c' = 4294967296 := by
    apply Classical.byContradiction
    intro hne
    have h1 : Pw j * (y + c') + Pw j ≤ Pw (j + 1) := by
     rw [hP, Nat.mul_comm 4294967296]
     have := Nat.mul_le_mul_left (Pw j) (show y + c' + 1 ≤ 4294967296 by omega)
     rw [Nat.mul_add, Nat.mul_one] at this; exact this
    omega
   rw [hyc, Nat.mul_comm, ← hP] at hS
   have e : IntKind.u32.wrap (IntKind.u64.wrap ((g : Int) - 1)) = ((U / V : Nat) : Int) := by
    have hg1 : 1 ≤ g := by rw [← hgq]; exact Nat.le_add_left 1 _
    rw [ada g hg1 (by omega), cc, Nat.mod_eq_of_lt (by omega), ← hgq, Nat.add_sub_cancel]
   refine aam.data _ ?_ rfl
   refine ⟨?_, ?_⟩
   ·show D.int .u32 (IntKind.u32.wrap (IntKind.u64.wrap ((g : Int) - 1))) = D.int .u32 _
    rw [hnl, hU, hVe, e]
   ·show [(1000000, false, la (A ++ W3.set j (UInt32.ofNat _)))] = _
    rw [← e3, Nat.mod_eq_of_lt (show c' < 4294967296 by omega), hyc]
    have e2 : W3.set j (UInt32.ofNat (4294967296 % 4294967296)) = fz W v := by
     unfold fz
     rw [hnl, hU, hVe]
     refine yj _ _ _ _ (by rw [List.length_set]; omega) ?_ ?_
     ·rw [fq, ← List.drop_drop, hd3, List.drop_drop, hW2d]
     ·rw [k6 _ _ _ (by omega) (by omega)]; omega
    rw [e2]
theorem adp {x y z : Nat} (h : z < x * y) : 1 ≤ x := by
 cases x with
 | zero => rw [Nat.zero_mul] at h; omega
 | succ x => omega
theorem oz {g d r top : Nat} (h : g * d + r = top) (hg : 1 ≤ g) : (g - 1) * d + (r + d) = top := by
 cases g with
 | zero => omega
 | succ g => rw [Nat.add_mul, Nat.one_mul] at h; rw [Nat.add_sub_cancel]; omega
theorem vo {g d r top v u : Nat} (h : g * d + r = top) (hr : 4294967296 ≤ r) (hg : g < 4294967296) (hv : v < 4294967296) : g * (v + 4294967296 * d) ≤ u + 4294967296 * top := by
 have h1 : g * v ≤ 4294967295 * 4294967295 := Nat.mul_le_mul (by omega) (by omega)
 rw [← h, Nat.mul_add, Nat.mul_left_comm]
 generalize g * v = a at *
 generalize g * d = b at *
 omega
theorem ahf {g d r top v u : Nat} (h : g * d + r = top) (hc : g * v ≤ r * 4294967296 + u) : g * (v + 4294967296 * d) ≤ u + 4294967296 * top := by
 rw [← h, Nat.mul_add, Nat.mul_left_comm]
 generalize g * v = a at *
 generalize g * d = b at *
 omega
theorem aa1 {g d r top v u : Nat} (h : g * d + r = top) (hc : r * 4294967296 + u < g * v) : u + 4294967296 * top < g * (v + 4294967296 * d) := by
 rw [← h, Nat.mul_add g, Nat.mul_left_comm g]
 generalize g * v = a at *
 generalize g * d = b at *
 omega
structure ku (U V P u0 v0 u2 v2 d top : Nat) : Prop where
 hU : U = u0 + P * (u2 + 4294967296 * top)
 hV : V = v0 + P * (v2 + 4294967296 * d)
 hu : u0 < P
 hv : v0 < P
 hV0 : 0 < V
 hv2 : v2 < 4294967296
 hu2 : u2 < 4294967296
 hd : 2147483648 ≤ d
 hlt : U < 4294967296 * V
theorem ku.am5 {U V P u0 v0 u2 v2 d top : Nat} (G : ku U V P u0 v0 u2 v2 d top) : U / V < 4294967296 := Nat.div_lt_of_lt_mul (by rw [Nat.mul_comm]; exact G.hlt)
theorem ku.aio {U V P u0 v0 u2 v2 d top : Nat} (G : ku U V P u0 v0 u2 v2 d top) : top ≤ v2 + 4294967296 * d := by
 have h1 := G.hlt
 rw [G.hU, G.hV] at h1
 have h2 : P * (u2 + 4294967296 * top) < P * (4294967296 * (v2 + 4294967296 * d + 1)) := by
  have e : P * (4294967296 * (v2 + 4294967296 * d + 1)) = 4294967296 * (P * (v2 + 4294967296 * d)) + 4294967296 * P := by
   rw [Nat.mul_add, Nat.mul_one, Nat.mul_add, Nat.mul_left_comm, Nat.mul_comm P 4294967296]
  rw [e]
  have := G.hv
  generalize P * (v2 + 4294967296 * d) = a at *
  generalize P * (u2 + 4294967296 * top) = b at *
  omega
 have := Nat.lt_of_mul_lt_mul_left h2
 omega
theorem ku.first {U V P u0 v0 u2 v2 d top : Nat} (G : ku U V P u0 v0 u2 v2 d top) : U / V ≤ top / d ∧ top / d ≤ 4294967297 := by
 have hd := G.hd
 refine ⟨(Nat.le_div_iff_mul_le (by omega)).2 ?_, ?_⟩
 ·have h1 := ahd (q := U / V) G.hU G.hV G.hu (Nat.div_mul_le_self U V)
  rw [Nat.mul_add, Nat.mul_left_comm] at h1
  have := G.hu2
  generalize (U / V) * d = a at *
  generalize (U / V) * v2 = b at *
  omega
 ·have h1 := G.aio
  have h2 := G.hv2
  have h3 : top < d * 4294967298 := by omega
  have := Nat.div_lt_of_lt_mul h3
  omega
theorem ku.small {U V P u0 v0 u2 v2 d top g r : Nat} (G : ku U V P u0 v0 u2 v2 d top) (h : g * d + r = top) (hg : 4294967297 ≤ g) : r + d < 4294967296 := by
 have h1 := G.aio
 have h2 := G.hv2
 have h3 := Nat.mul_le_mul_right d hg
 generalize g * d = a at *
 omega
theorem ku.done {U V P u0 v0 u2 v2 d top g : Nat} (G : ku U V P u0 v0 u2 v2 d top) (h : g * (v2 + 4294967296 * d) ≤ u2 + 4294967296 * top) (hg : g < 4294967296) (hq : U / V ≤ g) : U / V = g ∨ U / V + 1 = g := by
 have hd := G.hd
 have h1 := acw G.hU G.hV G.hv h (by omega)
 rcases akc G.hV0 hq h1 with h2 | h2
 ·exact .inl h2
 ·by_cases h0 : g = 0
  ·left; rw [h0] at h2 ⊢; exact h2
  ·right; omega
theorem ku.more {U V P u0 v0 u2 v2 d top g : Nat} (G : ku U V P u0 v0 u2 v2 d top) (h : u2 + 4294967296 * top < g * (v2 + 4294967296 * d)) : U / V < g := by
 have := ahe G.hU G.hV G.hu h
 exact (Nat.div_lt_iff_lt_mul G.hV0).2 this
abbrev aij (A W v : List UInt32) (d top q : Nat) : Nat → List Ev.A → Hp → Prop := fun m xs h => ∃ g r : Nat, m = g ∧ g * d + r = top ∧ r < 4294967296 ∧ q ≤ g ∧ g ≤ 4294967297 ∧
 xs = [.own 1000000 A.length (v.length + 1) 1, .d (sl v), .d (.int .i64 v.length), .d (.int .u64 d), .d (.int .u64 g), .d (.int .u64 r)] ∧ h = [(1000000, false, la (A ++ W))]
abbrev amx (A W v : List UInt32) (d top q m : Nat) : Exit → St → Prop := fun e σ' => match e with
 | .goto l' => Cd (l' = 0) (ai (aij A W v d top q) m [0, 1, 5, 7, 8, 9] [1000000] σ')
 | e => ak9 A W v e σ'
set_option maxHeartbeats 4000000 in
theorem af6 (A W v : List UInt32) (d top u0 v0 : Nat) (hA : A.length + W.length < 2^32) (hn : 2 ≤ v.length) (hW : v.length + 1 ≤ W.length) (hd : (v.getD (v.length - 1) 0).toNat = d)
  (G : ku (nv (W.take (v.length + 1))) (nv v) (Pw (v.length - 2)) u0 v0 (W.getD (v.length - 2) 0).toNat (v.getD (v.length - 2) 0).toNat d top) (g : Nat) (xs : List Ev.A) (h : Hp) (hI : aij A W v d top (nv (W.take (v.length + 1)) / nv v) g xs h) :
  Wp' Tryd.prog G0 abu (amx A W v d top (nv (W.take (v.length + 1)) / nv v) g) ⟨164, [0, 1, 5, 7, 8, 9].zip xs, h⟩ := by
 obtain ⟨_, r, rfl, hgr, hr, hqg, hg1, rfl, rfl⟩ := hI
 have T := fun g' hg' hq' => af7 A W v g' hA hn hW G.hV0 hg' hq'
 generalize hU : nv (W.take (v.length + 1)) = U at *
 generalize hVe : nv v = V at *
 have hu2 := ck (W.getD (v.length - 2) 0)
 have hv2 := ck (v.getD (v.length - 2) 0)
 have hd1 := ck (v.getD (v.length - 1) 0)
 have hd0 := G.hd
 rw [hd] at hd1
 have hdl := G.am5
 refine my ay ?_
 generalize hnl : v.length = n at *
 repeat' ((conv => whnf); first | refine ao.mk _ (kj v _ (n - 2) (by omega) (by omega)) ?_ | refine ao.mk _ (mm A W _ (n - 2) (by omega) (by omega)) ?_ | refine rgE ?_ | refine Cd.mk rfl ?_ | refine Br.t ?_ | refine Br.f ?_ | with_reducible refine Br.dec (fun _ => ?_) (fun _ => ?_) | with_reducible refine Br.br (fun _ => ?_) (fun _ => ?_) | refine ai.cu _ _ ?_ | ((with_reducible refine EqE.idW ?_); first | with_reducible refine EqE.mk _ (ep _ _ (abe (by omega) hv2)) ?_ | with_reducible refine EqE.mk _ (ac9 _ _ (by omega) (by omega)) ?_ | with_reducible refine EqE.mk _ (ada _ (by omega) (by omega)) ?_ | with_reducible refine EqE.mk _ (ada _ (adp (y := (v.getD (n - 2) 0).toNat) (z := r * 4294967296 + (W.getD (n - 2) 0).toNat) (by omega)) (by omega)) ?_ | with_reducible refine EqE.mk _ (av _) ?_ | with_reducible refine EqE.mk _ (ed _ _ (by omega)) ?_ | with_reducible refine EqE.mk _ (bx _ (by omega)) ?_ | with_reducible refine EqE.mk _ (ah (by omega) (by omega)) ?_) | ((with_reducible refine EqE.idF ?_); refine EqE.mk _ (aj _ 4294967296 _ _ rfl) ?_) | refine Cd.om ?_)
 ·rename_i h1 h2
  subst hnl
  have hm : 4294967296 ≤ g := by omega
  have hmq : U / V ≤ g - 1 := Nat.le_sub_one_of_lt (Nat.lt_of_lt_of_le hdl hm)
  exact ⟨_, ⟨g - 1, r + d, rfl, oz hgr (by omega), by omega, hmq, by omega, rfl, rfl⟩, by omega⟩
 ·rename_i h1 h2
  subst hnl
  have hm : 4294967296 ≤ g := by omega
  have hmq : U / V ≤ g - 1 := Nat.le_sub_one_of_lt (Nat.lt_of_lt_of_le hdl hm)
  have hg' : g ≤ 4294967296 := by
   apply Classical.byContradiction
   intro hc
   have := G.small hgr (by omega)
   omega
  have hg2 : g - 1 < 4294967296 := by omega
  have hdn := G.done (vo (u := (W.getD (v.length - 2) 0).toNat) (oz hgr (by omega)) (show 4294967296 ≤ r + d by omega) hg2 hv2) hg2 hmq
  intro _
  refine ui [0, 1, 5, 8] [1000000] _ _ ⟨.inl rfl, rfl, rfl, by first | rfl | (repeat first | exact all_nil _ | refine cz _ _ _ _ _ ?_)⟩ (ou ?_ (T (g - 1) hg2 hdn))
  intro e σ' he
  cases e with
  | goto l => exact he.elim
  | _ => exact he
 ·rename_i h1 h2 h3
  subst hnl
  have hm := G.more (aa1 hgr (show r * 4294967296 + (W.getD (v.length - 2) 0).toNat < g * (v.getD (v.length - 2) 0).toNat by omega))
  have hm1 : 1 ≤ g := Nat.lt_of_le_of_lt (Nat.zero_le _) hm
  have hmq : U / V ≤ g - 1 := Nat.le_sub_one_of_lt hm
  exact ⟨_, ⟨g - 1, r + d, rfl, oz hgr (by omega), by omega, hmq, by omega, rfl, rfl⟩, by omega⟩
 ·rename_i h1 h2 h3
  subst hnl
  have hm := G.more (aa1 hgr (show r * 4294967296 + (W.getD (v.length - 2) 0).toNat < g * (v.getD (v.length - 2) 0).toNat by omega))
  have hm1 : 1 ≤ g := Nat.lt_of_le_of_lt (Nat.zero_le _) hm
  have hmq : U / V ≤ g - 1 := Nat.le_sub_one_of_lt hm
  have hg2 : g - 1 < 4294967296 := by omega
  have hdn := G.done (vo (u := (W.getD (v.length - 2) 0).toNat) (oz hgr (by omega)) (show 4294967296 ≤ r + d by omega) hg2 hv2) hg2 hmq
  intro _
  refine ui [0, 1, 5, 8] [1000000] _ _ ⟨.inl rfl, rfl, rfl, by first | rfl | (repeat first | exact all_nil _ | refine cz _ _ _ _ _ ?_)⟩ (ou ?_ (T (g - 1) hg2 hdn))
  intro e σ' he
  cases e with
  | goto l => exact he.elim
  | _ => exact he
 ·rename_i h1 h2
  subst hnl
  have hg2 : g < 4294967296 := by omega
  have hdn := G.done (ahf (u := (W.getD (v.length - 2) 0).toNat) hgr (show g * (v.getD (v.length - 2) 0).toNat ≤ r * 4294967296 + (W.getD (v.length - 2) 0).toNat by omega)) hg2 hqg
  intro _
  refine ui [0, 1, 5, 8] [1000000] _ _ ⟨.inl rfl, rfl, rfl, by first | rfl | (repeat first | exact all_nil _ | refine cz _ _ _ _ _ ?_)⟩ (ou ?_ (T g hg2 hdn))
  intro e σ' he
  cases e with
  | goto l => exact he.elim
  | _ => exact he
set_option maxHeartbeats 4000000 in
theorem af4 (A W v : List UInt32) (hA : A.length + W.length < 2^32) (hn : 2 ≤ v.length) (hW : v.length + 1 ≤ W.length) (htop : 2147483648 ≤ (v.getD (v.length - 1) 0).toNat) (hlt : nv (W.take (v.length + 1)) < 4294967296 * nv v) :
  qp Tryd.prog G0 35 [.own 1000000 A.length (v.length + 1) 1, .d (sl v)] [(1000000, false, la (A ++ W))] (.d (.int .u32 (nv (W.take (v.length + 1)) / nv v : Nat))) [(1000000, false, la (A ++ fz W v))] := by
 generalize hd : (v.getD (v.length - 1) 0).toNat = d at *
 have htk : ∀ j, j ≤ v.length → (W.take (v.length + 1)).getD j 0 = W.getD j 0 := by
  intro j hj
  rw [List.getD_eq_getElem?_getD, List.getElem?_take, if_pos (by omega), ← List.getD_eq_getElem?_getD]
 have hU3 := aj4 (W.take (v.length + 1)) v.length (by rw [List.length_take]; omega) hn
 have hV3 := aj3 v v.length rfl hn
 rw [htk _ (by omega), htk _ (by omega), htk _ (by omega), List.take_take, Nat.min_eq_left (by omega)] at hU3
 rw [hd] at hV3
 obtain ⟨top, htop2⟩ : ∃ t, t = (W.getD (v.length - 1) 0).toNat + 4294967296 * (W.getD v.length 0).toNat := ⟨_, rfl⟩
 rw [← htop2] at hU3
 have hun := ck (W.getD v.length 0)
 have hu1 := ck (W.getD (v.length - 1) 0)
 have hd1 := ck (v.getD (v.length - 1) 0)
 rw [hd] at hd1
 have G : ku (nv (W.take (v.length + 1))) (nv v) (Pw (v.length - 2)) (nv (W.take (v.length - 2))) (nv (v.take (v.length - 2))) (W.getD (v.length - 2) 0).toNat (v.getD (v.length - 2) 0).toNat d top :=
  ⟨hU3, hV3, kk _ _, kk _ _, by
   have := Nat.mul_pos (agn (v.length - 2)) (show 0 < (v.getD (v.length - 2) 0).toNat + 4294967296 * d by omega)
   omega, ck _, ck _, htop, hlt⟩
 have R := fun g xs h hI => af6 A W v d top _ _ hA hn hW hd G g xs h hI
 obtain ⟨g1, g2⟩ := G.first
 have hdm := Nat.div_add_mod top d
 have hml := Nat.mod_lt top (show d > 0 by omega)
 refine ae5 ay Tryd.func35 ?_
 repeat' ((conv => whnf); first | refine rgE ?_)
 refine agi 0 rfl [0, 1, 5, 7, 8, 9] [1000000] (aij A W v d top (nv (W.take (v.length + 1)) / nv v)) ?_ ?_
 ·refine my ay ?_
  repeat' ((conv => whnf); first | refine rgE ?_)
  intro _
  refine my ay ?_
  repeat' ((conv => whnf); first | refine ao.mk _ (mm A W _ (v.length - 1) (by omega) (by omega)) ?_ | refine ao.mk _ (mm A W _ v.length rfl (by omega)) ?_ | refine rgE ?_ | refine Cd.mk rfl ?_ | ((with_reducible refine EqE.idW ?_); first | with_reducible refine EqE.mk _ (ac9 _ _ (by omega) (by omega)) ?_ | with_reducible refine EqE.mk _ (av _) ?_ | with_reducible refine EqE.mk _ (bx _ (by omega)) ?_ | with_reducible refine EqE.mk _ (ah (by omega) (by omega)) ?_) | refine Cd.om ?_)
  intro _
  refine my ay ?_
  repeat' ((conv => whnf); first | refine ao.mk _ (kj v _ (v.length - 1) (by omega) (by omega)) ?_ | refine rgE ?_ | refine Cd.mk rfl ?_ | ((with_reducible refine EqE.idW ?_); first | with_reducible refine EqE.mk _ (av _) ?_ | with_reducible refine EqE.mk _ (ah (by omega) (by omega)) ?_) | refine Cd.om ?_)
  intro _
  refine my ay ?_
  rw [hd]
  rw [show (W.getD v.length 0).toNat * 4294967296 + (W.getD (v.length - 1) 0).toNat = top by omega]
  repeat' ((conv => whnf); first | refine rgE ?_ | refine Cd.mk rfl ?_ | ((with_reducible refine EqE.idW ?_); refine EqE.mk _ (aeo _ _ (by omega)) ?_) | ((with_reducible refine EqE.idM ?_); refine EqE.mk _ (bm _ _) ?_) | refine Cd.om ?_)
  intro _
  refine my ay ?_
  show _ → Wp' _ _ _ _ _
  intro _
  refine ui [0, 1, 5, 7, 8, 9] [1000000] _ _ ⟨.inl rfl, rfl, rfl, by first | rfl | (repeat first | exact all_nil _ | refine cz _ _ _ _ _ ?_)⟩ (ou ?_ (R (top / d) _ _ ⟨top / d, top % d, rfl, by rw [Nat.mul_comm]; exact hdm, by omega, g1, g2, rfl, rfl⟩))
  intro e σ' he
  cases e with
  | goto l =>
   obtain ⟨h1, m', xs', h', hcut, _, hI⟩ := he
   exact ⟨h1, m', xs', h', hcut, hI⟩
  | _ => exact he
 ·intro m xs h hI
  refine my ay ?_
  show _ → Wp' _ _ _ _ _
  intro _
  exact ou (fun e σ' he => by cases e <;> exact he) (R m xs h hI)
end Go.Ev.Ar

namespace Go.Ev.Ar
open Go Go.Ev Go.Proofs
theorem aix (j : Nat) (h : 1 ≤ j) (hj : j < 4611686018427387904) : IntKind.i64.wrap ((j : Int) - 1 - 1) = ((j - 1 : Nat) : Int) - 1 := by
 rw [ah (by omega) (by omega)]; omega
theorem aho {r d x : Nat} (hr : r < d) (hx : x < 4294967296) : r * 4294967296 + x < 4294967296 * d := by omega
theorem adx {D Q r d x : Nat} (h : D = Q * d + r) : x + 4294967296 * D = ((r * 4294967296 + x) / d + 4294967296 * Q) * d + (r * 4294967296 + x) % d := by
 have h1 := Nat.div_add_mod (r * 4294967296 + x) d
 rw [Nat.add_mul, Nat.mul_assoc, Nat.mul_comm _ d, h]
 omega
theorem tf (l : List UInt32) (j v : Nat) (hj : 1 ≤ j) (hl : j ≤ l.length) (hv : v < 4294967296) : nv ((l.set (j - 1) (UInt32.ofNat v)).drop (j - 1)) = v + 4294967296 * nv (l.drop j) := by
 rw [gj, lh (by omega), toNat_ofNat hv, show j - 1 + 1 = j by omega]
 have := fq l (j - 1) (UInt32.ofNat v)
 rw [show j - 1 + 1 = j by omega] at this
 rw [this]
theorem ahz (v : Nat) (h : v < 4294967296) : [A.d (D.int .u32 (v : Nat))] = (ba [UInt32.ofNat v]).map A.d := by
 simp only [ba, List.map_cons, List.map_nil, toNat_ofNat h]
set_option maxHeartbeats 2000000 in
theorem af2 (a : List UInt32) (d : Nat) (ha : a.length < 2^30) (hd : 0 < d) (hd2 : d < 4294967296) : Sim Tryd.prog G0 false 33 [sl a, .int .u32 d] (.tup [sl (ofN (nv a / d)), sl (ofN (nv a % d))]) := by
 refine cl ay Tryd.func33 ?_
 repeat' ((conv => whnf); first | refine rgE ?_ | refine Cd.mk rfl ?_ | ((with_reducible refine EqE.idW ?_); with_reducible refine EqE.mk _ (ah (by omega) (by omega)) ?_) | ((with_reducible refine EqE.idR ?_); refine EqE.mk _ (ca _) ?_) | refine Cd.om ?_)
 refine ⟨[], [0, 1, 6, 7, 8], [11], fun m xs h => ∃ (j r : Nat) (Q : List UInt32), m = j ∧ j ≤ a.length ∧ r < d ∧ Q.length = a.length ∧ nv (a.drop j) = nv (Q.drop j) * d + r ∧
  xs = [.d (sl a), .d (.int .u32 d), .own 11 0 a.length 1, .d (.int .u64 r), .d (.int .i64 ((j : Int) - 1))] ∧ h = [(11, false, la Q)],
  ⟨_, _, _, ⟨.inl rfl, rfl, rfl, by first | rfl | (repeat first | exact all_nil _ | refine cz _ _ _ _ _ ?_)⟩, a.length, 0, List.replicate a.length 0, rfl, Nat.le_refl _, hd, by simp, by simp, rfl, rfl⟩, ?_⟩
 rintro j xs h ⟨_, r, Q, rfl, hj, hr, hQ, hv, rfl, rfl⟩
 have hx := ck (a.getD (j - 1) 0)
 have hlt := aho hr hx
 by_cases h1 : 1 ≤ j
 ·have hq := Nat.div_lt_of_lt_mul (show r * 4294967296 + (a.getD (j - 1) 0).toNat < d * 4294967296 by omega)
  have hm := Nat.mod_lt (r * 4294967296 + (a.getD (j - 1) 0).toNat) hd
  repeat' ((conv => whnf); first | with_reducible refine Br.bt fun _ => ?_ | refine ao.mk _ (kj a _ (j - 1) (by omega) (by omega)) ?_ | refine Cd.mk (q4 [] Q _ (j - 1) (by omega) (by omega)) ?_ | refine rgE ?_ | refine Cd.mk rfl ?_ | refine ai.cu _ _ ?_ | ((with_reducible refine EqE.idW ?_); first | refine EqE.mk _ (aix _ h1 (by omega)) ?_ | with_reducible refine EqE.mk _ (ac9 _ _ (by omega) (by omega)) ?_ | with_reducible refine EqE.mk _ (aeo _ _ (by omega)) ?_ | with_reducible refine EqE.mk _ (av _) ?_ | with_reducible refine EqE.mk _ (bx _ (by omega)) ?_ | with_reducible refine EqE.mk _ (cc _) ?_ | with_reducible refine EqE.mk _ (ey _ (by omega)) ?_) | ((with_reducible refine EqE.idM ?_); refine EqE.mk _ (bm _ _) ?_) | ((with_reducible refine EqE.idS ?_); refine EqE.mk _ (mn [] Q _ (j - 1) _ (by omega) (by omega) (by omega)) ?_) | refine Cd.om ?_)
  generalize hxe : (a.getD (j - 1) 0).toNat = x at *
  refine ⟨_, ⟨j - 1, (r * 4294967296 + x) % d, Q.set (j - 1) (UInt32.ofNat ((r * 4294967296 + x) / d % 4294967296)), rfl, by omega, hm, by rw [List.length_set]; omega, ?_, rfl, rfl⟩, by omega⟩
  rw [Nat.mod_eq_of_lt hq, tf _ _ _ h1 (by omega) hq, gj, hxe, show j - 1 + 1 = j by omega]
  exact adx hv
 ·obtain rfl : j = 0 := by omega
  have hrl : nv [UInt32.ofNat (r % 4294967296)] = r := by rw [ef, mr, toNat_ofNat (Nat.mod_lt _ (by decide))]; omega
  rw [List.drop_zero, List.drop_zero] at hv
  repeat' ((conv => whnf); first | refine aw.data ?_ | with_reducible refine Br.bf fun _ => ?_ | refine cE (fm Q (by omega)) ?_ | refine DsE.mk _ (ahz (r % 4294967296) (Nat.mod_lt _ (by decide))) ?_ | refine cE (fm [UInt32.ofNat (r % 4294967296)] (show 1 < 2^40 by decide)) ?_ | refine rgE ?_ | refine Cd.mk rfl ?_ | refine Res.mk ?_ | refine DsE.mk (ba _) rfl ?_ | ((with_reducible refine EqE.idW ?_); with_reducible refine EqE.mk _ (cc _) ?_) | ((with_reducible refine EqE.idL ?_); first | refine EqE.mk (sl [UInt32.ofNat (r % 4294967296)]) rfl ?_ | refine EqE.mk _ (ax _ _ _ _ (by omega) (by omega) rfl) ?_) | refine Cd.ol ?_)
  have hqr : nv Q = nv a / d ∧ r = nv a % d := by
   rw [hv]
   refine ⟨?_, ?_⟩
   ·rw [Nat.mul_comm, Nat.mul_add_div hd, Nat.div_eq_of_lt hr]; rfl
   ·rw [Nat.mul_comm, Nat.mul_add_mod, Nat.mod_eq_of_lt hr]
  rw [← hqr.1, ← hqr.2, hrl]
  rfl
theorem alw (x : UInt32) : Sim Tryd.prog G0 true 34 [.int .u32 x.toNat] (.int .i64 ((32 - nb x.toNat : Nat) : Int)) := by
 have h : nb x.toNat ≤ 32 := n8.2 (ck x)
 refine cl ay Tryd.func34 ?_
 repeat' ((conv => whnf); first | refine aw.data ?_ | refine cE (afs x) ?_ | refine rgE ?_ | refine Cd.mk rfl ?_ | refine Res.mk ?_ | ((with_reducible refine EqE.idW ?_); with_reducible refine EqE.mk _ (ah (by omega) (by omega)) ?_))
 show D.int _ _ = D.int _ _
 congr 1; omega
theorem ahu {b : Nat} (hb : b ≠ 0) : let s := 32 - nb ((ofN b).getD ((ofN b).length - 1) 0).toNat
  s ≤ 31 ∧ (ofN (b * 2 ^ s)).length = (ofN b).length ∧ 2147483648 ≤ ((ofN (b * 2 ^ s)).getD ((ofN (b * 2 ^ s)).length - 1) 0).toNat := by
 intro s
 have hl : 0 < (ofN b).length := by
  have : ¬ (ofN b).length = 0 := fun h => hb (cw.1 h)
  omega
 have h1 := ahq hb
 have ht := ck ((ofN b).getD ((ofN b).length - 1) 0)
 have hnz : ((ofN b).getD ((ofN b).length - 1) 0).toNat ≠ 0 := by
  intro h
  have := (ry _).1 (lu b)
  rcases this with h2 | h2
  ·rw [h2] at hl; simp at hl
  ·exact h2 h
 generalize hT : ((ofN b).getD ((ofN b).length - 1) 0).toNat = T at *
 have hn1 : 1 ≤ nb T := by
  apply Classical.byContradiction; intro h
  have : nb T ≤ 0 := by omega
  have := n8.1 this
  omega
 have hn2 : nb T ≤ 32 := n8.2 ht
 have hb2 : b * 2 ^ s ≠ 0 := by
  have := Nat.mul_pos (Nat.pos_of_ne_zero hb) (Nat.pow_pos (n := s) (show 0 < 2 by decide))
  omega
 have hnb : nb (b * 2 ^ s) = nb b + s := by
  have h2 : 2 ^ s ≤ b * 2 ^ s := by
   have := Nat.mul_le_mul_right (2 ^ s) (Nat.pos_of_ne_zero hb)
   rwa [Nat.one_mul] at this
  rw [se h2, Nat.mul_div_cancel _ (Nat.pow_pos (by decide)), Nat.add_comm]
 have h3 := ahq hb2
 have hl2 : 0 < (ofN (b * 2 ^ s)).length := by
  have : ¬ (ofN (b * 2 ^ s)).length = 0 := fun h => hb2 (cw.1 h)
  omega
 have ht2 := ck ((ofN (b * 2 ^ s)).getD ((ofN (b * 2 ^ s)).length - 1) 0)
 have hnz2 : ((ofN (b * 2 ^ s)).getD ((ofN (b * 2 ^ s)).length - 1) 0).toNat ≠ 0 := by
  intro h
  have := (ry _).1 (lu (b * 2 ^ s))
  rcases this with h2 | h2
  ·rw [h2] at hl2; simp at hl2
  ·exact h2 h
 generalize hT2 : ((ofN (b * 2 ^ s)).getD ((ofN (b * 2 ^ s)).length - 1) 0).toNat = T2 at *
 have hm1 : 1 ≤ nb T2 := by
  apply Classical.byContradiction; intro h
  have : nb T2 ≤ 0 := by omega
  have := n8.1 this
  omega
 have hm2 : nb T2 ≤ 32 := n8.2 ht2
 have hs : s = 32 - nb T := by
  show 32 - nb ((ofN b).getD ((ofN b).length - 1) 0).toNat = _
  rw [hT]
 have hlen : (ofN (b * 2 ^ s)).length = (ofN b).length := by omega
 refine ⟨by omega, hlen, ?_⟩
 have h32 : nb T2 = 32 := by omega
 have := ak1 hnz2
 rw [h32] at this
 exact this
theorem ajv {a b la lb S : Nat} (ha : a < Pw la) (hb : Pw (lb - 1) ≤ b) (hlb : 1 ≤ lb) (hle : lb ≤ la) (hS : 0 < S) : a * S / Pw (la - lb + 1) < b * S := by
 refine Nat.div_lt_of_lt_mul ?_
 have h1 : Pw la = Pw (la - lb + 1) * Pw (lb - 1) := by rw [← rp]; congr 1; omega
 have h2 : Pw (la - lb + 1) * Pw (lb - 1) ≤ Pw (la - lb + 1) * b := Nat.mul_le_mul_left _ hb
 have h3 : a < Pw (la - lb + 1) * b := by omega
 have := Nat.mul_lt_mul_of_pos_right h3 hS
 rwa [Nat.mul_assoc] at this
theorem ag1 {U Q v : List UInt32} {L M j N : Nat} (hU : L ≤ U.length) (hQ : Q.length = M) (hj : 1 ≤ j) (hjM : j ≤ M) (hL : L = M - 1 + v.length + 1) (h1 : 1 ≤ M) (hV : 0 < nv v)
  (hN : nv (U.take L) + nv v * (Pw j * nv (Q.drop j)) = N) (hlt : nv ((U.take L).drop j) < nv v) :
  nv ((U.drop (j - 1)).take (v.length + 1)) < 4294967296 * nv v ∧ nv ((U.drop (j - 1)).take (v.length + 1)) / nv v < 4294967296 ∧ (U.take (j - 1) ++ fz (U.drop (j - 1)) v).length = U.length ∧
  nv ((U.take (j - 1) ++ fz (U.drop (j - 1)) v).take L) + nv v * (Pw (j - 1) * nv ((Q.set (j - 1) (UInt32.ofNat (nv ((U.drop (j - 1)).take (v.length + 1)) / nv v))).drop (j - 1))) = N ∧
  nv (((U.take (j - 1) ++ fz (U.drop (j - 1)) v).take L).drop (j - 1)) < nv v := by
 obtain ⟨k, rfl⟩ : ∃ k, j = k + 1 := ⟨j - 1, by omega⟩
 rw [Nat.add_sub_cancel] at *
 obtain ⟨W, hW⟩ : ∃ W, W = U.drop k := ⟨_, rfl⟩
 have hWl : W.length = U.length - k := by rw [hW]; simp
 -- the window, and what lies above it
 have e1 : (U.take L).drop k = W.take (L - k) := by rw [List.drop_take, hW]
 have e2 : (U.take L).drop (k + 1) = (W.take (L - k)).drop 1 := by rw [← e1, List.drop_drop]
 have hnL : v.length + 1 ≤ L - k := by omega
 have hVn : nv v < Pw v.length := gk v
 have h3 : nv (W.take (L - k)) = ((W.take (L - k)).getD 0 0).toNat + 4294967296 * nv ((U.take L).drop (k + 1)) := by
  have := gj (W.take (L - k)) 0
  rw [List.drop_zero] at this
  rw [this, e2]
 have h4 := ck ((W.take (L - k)).getD 0 0)
 have hw : nv (W.take (L - k)) < 4294967296 * nv v := by omega
 have h5 := gd (W.take (L - k)) (v.length + 1) (by rw [List.length_take]; omega)
 rw [List.take_take, Nat.min_eq_left hnL] at h5
 have h6 : nv ((W.take (L - k)).drop (v.length + 1)) = 0 := by
  apply Classical.byContradiction
  intro h
  have h7 := Nat.mul_le_mul_left (Pw (v.length + 1)) (Nat.pos_of_ne_zero h)
  have h8 := fk v.length
  omega
 rw [h6, Nat.mul_zero, Nat.add_zero] at h5
 rw [h5] at hw
 have hql : nv (W.take (v.length + 1)) / nv v < 4294967296 := Nat.div_lt_of_lt_mul (by rw [Nat.mul_comm]; exact hw)
 have hml := Nat.mod_lt (nv (W.take (v.length + 1))) hV
 have hpl : nv (W.take (v.length + 1)) % nv v < Pw (v.length + 1) := Nat.lt_trans hml (Nat.lt_of_lt_of_le hVn (im (by omega)))
 rw [← hW]
 have hsl : (fz W v).length = W.length := by unfold fz; rw [List.length_append, oa hpl, List.length_drop]; omega
 -- the new window
 have hst : (fz W v).take (L - k) = tw (nv (W.take (v.length + 1)) % nv v) (v.length + 1) ++ (W.take (L - k)).drop (v.length + 1) := by
  unfold fz
  rw [List.take_append, oa hpl, List.take_of_length_le (by rw [oa hpl]; omega), List.drop_take]
 have hsn : nv ((fz W v).take (L - k)) = nv (W.take (v.length + 1)) % nv v := by
  rw [hst, gy, aet, oa hpl, h6, Nat.mul_zero, Nat.add_zero]
 have hkL : (U.take k).length = k := by rw [List.length_take]; omega
 have hT : (U.take k ++ fz W v).take L = U.take k ++ (fz W v).take (L - k) := by
  rw [List.take_append, hkL, List.take_of_length_le (by rw [hkL]; omega)]
 have hTd : ((U.take k ++ fz W v).take L).drop k = (fz W v).take (L - k) := by
  rw [hT, List.drop_append, hkL, Nat.sub_self, List.drop_zero, List.drop_of_length_le (by rw [hkL]; omega), List.nil_append]
 refine ⟨hw, hql, by rw [List.length_append, hkL, hsl, hWl]; omega, ?_, ?_⟩
 ·rw [hT, gy, hkL, hsn]
  have h9 := tf Q (k + 1) (nv (W.take (v.length + 1)) / nv v) (by omega) (by omega) hql
  rw [Nat.add_sub_cancel] at h9
  rw [h9]
  have h10 := gd (U.take L) k (by rw [List.length_take]; omega)
  rw [e1, List.take_take, Nat.min_eq_left (by omega), h5] at h10
  have h11 := Nat.div_add_mod (nv (W.take (v.length + 1))) (nv v)
  rw [h10] at hN
  rw [← hN, fk]
  generalize nv (W.take (v.length + 1)) / nv v = q at *
  generalize nv (W.take (v.length + 1)) % nv v = r at *
  rw [← h11]
  generalize nv (Q.drop (k + 1)) = X
  generalize nv v = V
  generalize Pw k = P
  grind
 ·rw [hTd, hsn]; exact hml
end Go.Ev.Ar

namespace Go.Ev.Ar
open Go Go.Ev Go.Proofs
theorem z8 (U : List UInt32) (n : Nat) (h : n ≤ U.length) : D.slice n (((ba U).drop 0).take (n * 1)) = sl (U.take n) := by
 unfold sl ba
 rw [List.drop_zero, Nat.mul_one, List.map_take, List.length_take, Nat.min_eq_left h]
theorem ae0 (U : List UInt32) (n : Nat) (h : U.length = n) : D.slice n (((ba U).drop 0).take (n * 1)) = sl U := by
 rw [z8 U n (by omega), List.take_of_length_le (by omega)]
theorem af5 (U v : List UInt32) (k : Nat) (hU : U.length < 2^32) (hn : 2 ≤ v.length) (hk : k + v.length + 1 ≤ U.length) (htop : 2147483648 ≤ (v.getD (v.length - 1) 0).toNat) (hlt : nv ((U.drop k).take (v.length + 1)) < 4294967296 * nv v) :
  qp Tryd.prog G0 35 [.own 1000000 k (v.length + 1) 1, .d (sl v)] [(1000000, false, la U)] (.d (.int .u32 (nv ((U.drop k).take (v.length + 1)) / nv v : Nat))) [(1000000, false, la (U.take k ++ fz (U.drop k) v))] := by
 have hl : (U.take k).length = k := by rw [List.length_take]; omega
 have h := af4 (U.take k) (U.drop k) v (by rw [hl, List.length_drop]; omega) hn (by rw [List.length_drop]; omega) htop hlt
 rwa [hl, List.take_append_drop] at h
set_option maxHeartbeats 8000000 in
theorem ahs (a b : List UInt32) (ha : a.length < 2^26) (hb : b.length < 2^26) (h0 : nv b ≠ 0) : Sim Tryd.prog G0 false 20 [sl a, sl b] (.tup [sl (ofN (nv a / nv b)), sl (ofN (nv a % nv b)), .bool true]) := by
 have c1 := fm a (by omega)
 have c2 := fm b (by omega)
 have l1 := ee a
 have l2 := ee b
 have hnt := ahu h0
 dsimp only at hnt
 generalize nv a = x at *
 generalize nv b = y at *
 have vA := di x
 have vB := di y
 have hyl : ¬ (ofN y).length = 0 := fun h => h0 (cw.1 h)
 have hxl := (cj (n := x) (k := (ofN x).length)).1 (Nat.le_refl _)
 have hyp : Pw ((ofN y).length - 1) ≤ y := by
  apply Classical.byContradiction; intro h
  have := (cj (n := y) (k := (ofN y).length - 1)).2 (by omega)
  omega
 have hxp : (ofN x).length ≠ 0 → Pw ((ofN x).length - 1) ≤ x := by
  intro h3
  apply Classical.byContradiction; intro h
  have := (cj (n := x) (k := (ofN x).length - 1)).2 (by omega)
  omega
 generalize hAe : ofN x = A at *
 generalize hBe : ofN y = B at *
 have cm := aja A B (by omega) (by omega)
 rw [vA, vB] at cm
 by_cases hlt : x < y
 ·rw [y6 hlt] at cm
  rw [Nat.div_eq_of_lt hlt, Nat.mod_eq_of_lt hlt, dj, hAe]
  refine cl ay Tryd.func20 ?_
  repeat' ((conv => whnf); first | refine aw.data ?_ | refine cE c1 ?_ | refine cE c2 ?_ | refine cE cm ?_ | refine cE (xp A (by omega)) ?_ | with_reducible refine Br.bf fun _ => ?_ | refine rgE ?_ | refine Cd.mk rfl ?_ | refine Br.t ?_ | refine Res.mk ?_)
  rfl
 have hcm : ¬ xb x y < 0 := by have := (ai9 (a := x) (b := y)).2 (by omega); omega
 have hle : B.length ≤ A.length := by
  apply Classical.byContradiction; intro h
  have := qe (a := x) (b := y) (by rw [hAe, hBe]; omega)
  omega
 by_cases h1 : B.length = 1
 ·have hB1 : B = [B.getD 0 0] := by
   cases B with
   | nil => simp at h1
   | cons z B => simp at h1; subst h1; rfl
  have hd : (B.getD 0 0).toNat = y := by rw [← vB, hB1, ef, mr]; simp
  have sh := af2 A (B.getD 0 0).toNat (by omega) (by omega) (ck _)
  rw [vA, hd] at sh
  refine cl ay Tryd.func20 ?_
  repeat' ((conv => whnf); first | refine aw.data ?_ | refine cE c1 ?_ | refine cE c2 ?_ | refine cE cm ?_ | with_reducible refine Br.bf fun _ => ?_ | with_reducible refine Br.bt fun _ => ?_ | refine ao.mk _ (kj B 0 0 rfl (by omega)) ?_ | refine cE ((hd ▸ sh)) ?_ | refine rgE ?_ | refine Cd.mk rfl ?_ | refine ao.mk _ rfl ?_ | refine Res.mk ?_ | refine Cd.om ?_)
  rw [← hd]; rfl
 have hn2 : 2 ≤ B.length := by omega
 obtain ⟨s, hs⟩ : ∃ s, s = 32 - nb (B.getD (B.length - 1) 0).toNat := ⟨_, rfl⟩
 have lz := alw (B.getD (B.length - 1) 0)
 rw [← hs] at lz hnt
 obtain ⟨hs31, hVl, hVt⟩ := hnt
 have hS : 0 < 2 ^ s := Nat.pow_pos (by decide)
 have hSB : 2 ^ s < 4294967296 := Nat.lt_of_le_of_lt (Nat.pow_le_pow_right (by decide) hs31) (by decide)
 have sV := ae4 B s (by omega) (by omega)
 rw [vB, Int.toNat_natCast] at sV
 have sN := aih A s (by omega) hs31 (by rw [vA]; omega)
 rw [vA] at sN
 have hx0 : A.length ≠ 0 := by omega
 have hxp := hxp hx0
 -- how long the dividend is
 have hNl : A.length ≤ (ofN (x * 2 ^ s)).length := by
  apply Classical.byContradiction; intro h
  have h3 := (cj (n := x * 2 ^ s) (k := A.length - 1)).1 (by omega)
  have h4 := Nat.mul_le_mul_left x hS
  rw [Nat.mul_one] at h4
  omega
 have hNu : (ofN (x * 2 ^ s)).length ≤ A.length + 1 := by
  refine cj.2 ?_
  rw [fk, Nat.mul_comm 4294967296]
  exact Nat.mul_lt_mul'' hxl hSB
 have hlead := ajv (b := y) hxl hyp (by omega) hle hS
 have vV := di (y * 2 ^ s)
 have vN := di (x * 2 ^ s)
 have hV0 : 0 < y * 2 ^ s := Nat.mul_pos (Nat.pos_of_ne_zero h0) hS
 have hdv : x * 2 ^ s / (y * 2 ^ s) = x / y := Nat.mul_div_mul_right _ _ hS
 have hmv : x * 2 ^ s % (y * 2 ^ s) = x % y * 2 ^ s := Nat.mul_mod_mul_right _ _ _
 generalize hVe : ofN (y * 2 ^ s) = V at *
 generalize hNe : ofN (x * 2 ^ s) = N at *
 refine cl ay Tryd.func20 ?_
 repeat' ((conv => whnf); first | refine aw.own (ni.au (sN) [] [(8, 55)] (.own 55 0 N.length 1) [(55, false, la N)] [] ?_) | refine aw.data ?_ | refine cE c1 ?_ | refine cE c2 ?_ | refine cE cm ?_ | with_reducible refine Br.bf fun _ => ?_ | refine ao.mk _ (kj B _ (B.length - 1) (by omega) (by omega)) ?_ | refine cE lz ?_ | refine cE sV ?_ | refine EqE.mk (la (N ++ [0, 0])) (da N [0, 0]) ?_ | refine DsE.mk (ba [0, 0]) rfl ?_ | refine Cd.mk (show ∀ c ∈ ba [0, 0], (Ev.A.d c).one = true from bd [0, 0]) ?_ | refine rgE ?_ | refine Cd.mk rfl ?_ | refine DsE.mk (ba _) rfl ?_ | ((with_reducible refine EqE.idW ?_); first | with_reducible refine EqE.mk _ (ar _ (by omega)) ?_ | with_reducible refine EqE.mk _ (ah (by omega) (by omega)) ?_) | ((with_reducible refine EqE.idR ?_); refine EqE.mk _ (ca _) ?_) | refine Cd.ol ?_ | refine Cd.mk ⟨rfl, rfl⟩ ?_ | refine Cd.om ?_)
 have hM : ((A.length : Int) - B.length + 1).toNat = A.length - B.length + 1 := by omega
 have hU0 : nv ((N ++ [0, 0]).take (A.length + 1)) = x * 2 ^ s := by
  have : (N ++ [0, 0]).take (A.length + 1) = N ++ ([0, 0] : List UInt32).take (A.length + 1 - N.length) := by rw [List.take_append, List.take_of_length_le hNu]
  rw [this, gy, vN]
  have : nv (([0, 0] : List UInt32).take (A.length + 1 - N.length)) = 0 := by
   have h5 := adh ([0, 0] : List UInt32) (A.length + 1 - N.length)
   have h6 : nv ([0, 0] : List UInt32) = 0 := rfl
   omega
  rw [this]; simp
 refine ⟨[], [9, 10, 11, 12, 13], [55, 68], fun m xs h => ∃ (o : Bool) (j : Nat) (U Q : List UInt32), m = j ∧ j ≤ A.length - B.length + 1 ∧ U.length = N.length + 2 ∧ Q.length = A.length - B.length + 1 ∧
   nv (U.take (A.length + 1)) + nv V * (Pw j * nv (Q.drop j)) = x * 2 ^ s ∧ nv ((U.take (A.length + 1)).drop j) < nv V ∧
   xs = [.d (.int .i64 s), .d (sl V), .own 55 0 ((A.length : Int) + 1 - 0).toNat 1, .own 68 0 ((A.length : Int) - B.length + 1).toNat 1, .d (.int .i64 ((j : Int) - 1))] ∧ h = bif o then [(55, false, la U), (68, false, la Q)] else [(68, false, la Q), (55, false, la U)],
  ⟨_, _, _, ⟨.inl rfl, rfl, rfl, by first | rfl | (repeat first | exact all_nil _ | refine cz _ _ _ _ _ ?_)⟩, false, ((A.length : Int) - B.length + 1).toNat, N ++ [0, 0], List.replicate ((A.length : Int) - B.length + 1).toNat 0, rfl, by omega, by simp, by rw [List.length_replicate]; exact hM, ?_, ?_, rfl, rfl⟩, ?_⟩
 ·rw [hU0, fj, dw, Nat.zero_div, Nat.mul_zero, Nat.mul_zero, Nat.add_zero]
 ·rw [fj, hU0, vV, hM]; exact hlead
 rintro j xs h ⟨o, _, U, Q, rfl, hj, hU, hQ, hv, hlt2, rfl, rfl⟩
 rw [vV] at hv hlt2
 by_cases hj1 : 1 ≤ j
 ·obtain ⟨d1, d2, d3, d4, d5⟩ := ag1 (v := V) (M := A.length - B.length + 1) (N := x * 2 ^ s) (U := U) (Q := Q) (L := A.length + 1) (j := j) (by omega) hQ hj1 hj (by omega) (by omega) (by omega) (by rw [vV]; exact hv) (by rw [vV]; exact hlt2)
  have st := af5 U V (j - 1) (by omega) (by omega) (by omega) hVt d1
  obtain ⟨q, hq⟩ : ∃ q, q = nv ((U.drop (j - 1)).take (V.length + 1)) / nv V := ⟨_, rfl⟩
  obtain ⟨U2, hU2⟩ : ∃ q, q = U.take (j - 1) ++ fz (U.drop (j - 1)) V := ⟨_, rfl⟩
  rw [← hq, ← hU2] at st
  rw [← hq] at d2 d4
  rw [← hU2] at d3 d4 d5
  cases o <;> simp only [cond_true, cond_false]
  ·repeat' ((conv => whnf); first | refine aw.own (ni.au (st) [(1000000, 55)] [] (.d (.int .u32 q)) [(55, false, la U2)] [] ?_) | with_reducible refine Br.bt fun _ => ?_ | refine Cd.mk (q4 [] Q _ (j - 1) (by omega) (by omega)) ?_ | refine rgE ?_ | refine Cd.mk rfl ?_ | refine ai.cu _ _ ?_ | ((with_reducible refine EqE.idW ?_); first | refine EqE.mk _ (aix _ hj1 (by omega)) ?_ | with_reducible refine EqE.mk _ (ah (by omega) (by omega)) ?_) | ((with_reducible refine EqE.idS ?_); refine EqE.mk _ (mn [] Q _ (j - 1) _ (by omega) (by omega) (by omega)) ?_) | refine Cd.om ?_)
   exact ⟨_, ⟨true, j - 1, U2, Q.set (j - 1) (UInt32.ofNat q), rfl, by omega, by omega, by rw [List.length_set]; omega, d4, d5, rfl, rfl⟩, by omega⟩
  ·repeat' ((conv => whnf); first | refine aw.own (ni.au (st) [(1000000, 55)] [] (.d (.int .u32 q)) [(55, false, la U2)] [] ?_) | with_reducible refine Br.bt fun _ => ?_ | refine Cd.mk (q4 [] Q _ (j - 1) (by omega) (by omega)) ?_ | refine rgE ?_ | refine Cd.mk rfl ?_ | refine ai.cu _ _ ?_ | ((with_reducible refine EqE.idW ?_); first | refine EqE.mk _ (aix _ hj1 (by omega)) ?_ | with_reducible refine EqE.mk _ (ah (by omega) (by omega)) ?_) | ((with_reducible refine EqE.idS ?_); refine EqE.mk _ (mn [] Q _ (j - 1) _ (by omega) (by omega) (by omega)) ?_) | refine Cd.om ?_)
   exact ⟨_, ⟨true, j - 1, U2, Q.set (j - 1) (UInt32.ofNat q), rfl, by omega, by omega, by rw [List.length_set]; omega, d4, d5, rfl, rfl⟩, by omega⟩
 ·obtain rfl : j = 0 := by omega
  rw [List.drop_zero, show Pw 0 = 1 from rfl, Nat.one_mul] at hv
  rw [List.drop_zero] at hlt2
  have hqx : nv Q = x / y ∧ nv (U.take (A.length + 1)) = x % y * 2 ^ s := by
   rw [← hdv, ← hmv, ← hv]
   refine ⟨?_, ?_⟩
   ·rw [Nat.add_mul_div_left _ _ hV0, Nat.div_eq_of_lt hlt2, Nat.zero_add]
   ·rw [Nat.add_mul_mod_self_left, Nat.mod_eq_of_lt hlt2]
  have cq := fm Q (by omega)
  rw [hqx.1] at cq
  have cr := akd (U.take (A.length + 1)) s (by rw [List.length_take]; omega) (by omega)
  rw [hqx.2, Int.toNat_natCast, Nat.mul_div_cancel _ hS] at cr
  have eL : ((A.length : Int) + 1 - 0).toNat = A.length + 1 := by omega
  cases o <;> simp only [cond_true, cond_false, eL]
  ·repeat' ((conv => whnf); first | refine aw.data ?_ | with_reducible refine Br.bf fun _ => ?_ | refine cE cq ?_ | refine cE cr ?_ | refine rgE ?_ | refine Cd.mk rfl ?_ | refine Res.mk ?_ | refine DsE.mk (ba _) rfl ?_ | ((with_reducible refine EqE.idL ?_); first | refine EqE.mk _ (ae0 Q _ (by omega)) ?_ | refine EqE.mk _ (z8 U _ (by omega)) ?_))
   rfl
  ·repeat' ((conv => whnf); first | refine aw.data ?_ | with_reducible refine Br.bf fun _ => ?_ | refine cE cq ?_ | refine cE cr ?_ | refine rgE ?_ | refine Cd.mk rfl ?_ | refine Res.mk ?_ | refine DsE.mk (ba _) rfl ?_ | ((with_reducible refine EqE.idL ?_); first | refine EqE.mk _ (ae0 Q _ (by omega)) ?_ | refine EqE.mk _ (z8 U _ (by omega)) ?_))
   rfl
end Go.Ev.Ar

-- STR
namespace Go.Ev.Ar
open Go Go.Ev Go.Proofs Go.RowKit
theorem wu (neg : Bool) (l : List UInt8) (hl : l.length < 576460752303423488) : Sim Tryd.prog G0 true 23 [.bool neg, .str (bst l)]
    (.str (bst (if l.dropWhile (· == 48) = [] then [48] else if neg then 45 :: l.dropWhile (· == 48) else l.dropWhile (· == 48)))) := by
  have s := agb l (by omega)
  have hz : (l.dropWhile (· == 48)).length ≤ l.length := (List.dropWhile_sublist _).length_le
  obtain ⟨z, hz2⟩ : ∃ z, l.dropWhile (· == 48) = z := ⟨_, rfl⟩
  rw [hz2] at s hz ⊢
  refine cl ay Tryd.func23 ?_
  repeat' ((conv => whnf); first | refine aw.data ?_ | refine cE s ?_ | refine rgE ?_ | refine Cd.mk rfl ?_ | refine Br.t ?_ | refine Br.f ?_ | with_reducible refine Br.dec (fun _ => ?_) (fun _ => ?_) | with_reducible refine Br.br (fun _ => ?_) (fun _ => ?_) | refine Br.mk (fun _ => ?_) (fun _ => ?_) | refine ao.mk _ (az _ _ (by omega)) ?_ | refine ao.mk _ (a6 _ _ (by omega)) ?_ | refine ao.mk _ (cv _ _ _ (by first | with_reducible exact af _ | with_reducible exact ab _ | exact af _ | exact ab _ | rfl) (by first | omega | (simp only [List.length_set]; omega))) ?_ | refine ao.mk _ rfl ?_ | refine And.intro (fun _ => ?_) ?_ | (refine TkE.fL ?_; (conv => whnf); fail_if_success (show ag _ _)) | refine TkE.mk _ rfl rfl ?_ | refine Res.mk ?_ | refine a8.mk (by repeat first | exact True.intro | refine And.intro (by kernel_rfl) ?_) ?_ | refine DsE.mk (ba _) rfl ?_ | refine DsE.mk [] rfl ?_ | refine ai.cu _ _ ?_ | ((with_reducible refine EqE.idT ?_); first | ((conv => arg 1; simp only [ak, List.toList_toArray, an, ae, aa, Int.toNat_natCast, Int.toNat_zero, Int.toNat_one, b4, b5, List.drop_zero, Nat.sub_zero, List.cons_append, List.nil_append]); refine EqE.mk _ rfl ?_) | refine EqE.mk _ rfl ?_) | ((with_reducible refine EqE.idP ?_); first | ((conv => arg 1; simp only [ak, List.toList_toArray, bz, b3]); refine EqE.mk _ rfl ?_) | refine EqE.mk _ rfl ?_) | ((with_reducible refine EqE.idN ?_); first | ((conv => arg 1; simp only [ak, List.toList_toArray, aa, bb, Int.toNat_natCast, Int.toNat_zero, Int.toNat_one, List.length_cons, List.length_nil, Nat.zero_add]); refine EqE.mk _ rfl ?_)) | ((with_reducible refine EqE.idW ?_); first | with_reducible refine EqE.mk _ (av _) ?_ | with_reducible refine EqE.mk _ (ed _ _ (by omega)) ?_ | with_reducible refine EqE.mk _ (bx _ (by omega)) ?_ | with_reducible refine EqE.mk _ (et _ _ (by omega) (by omega)) ?_ | with_reducible refine EqE.mk _ (ep _ _ (by omega)) ?_ | with_reducible refine EqE.mk _ (eg _ _ (by omega) (by omega)) ?_ | with_reducible refine EqE.mk _ (c6 _ (by omega)) ?_ | with_reducible refine EqE.mk _ (dd _ (by omega)) ?_ | with_reducible refine EqE.mk _ (n_and1_32 _ (by omega)) ?_ | with_reducible refine EqE.mk _ (eo _ _ (by omega) (by omega)) ?_ | with_reducible refine EqE.mk _ (ig _ _ (by omega) (by omega)) ?_ | refine EqE.mk _ (er _ 32 (by omega)) ?_ | with_reducible refine EqE.mk _ (cc _) ?_ | with_reducible refine EqE.mk _ (gu _) ?_ | with_reducible refine EqE.mk _ (ey _ (by omega)) ?_ | with_reducible refine EqE.mk _ (a7 _ (by omega)) ?_ | with_reducible refine EqE.mk _ (ar _ (by omega)) ?_ | with_reducible refine EqE.mk _ (n_iadd _ _ (by omega)) ?_ | with_reducible refine EqE.mk _ (wrap_u64 (by omega) (by omega)) ?_ | with_reducible refine EqE.mk _ (wrap_u32 _) ?_ | with_reducible refine EqE.mk _ (ah (by omega) (by omega)) ?_ | refine EqE.mk _ rfl ?_) | ((with_reducible refine EqE.idF ?_); first | with_reducible refine EqE.mk _ (n_shr63 _) ?_ | with_reducible refine EqE.mk _ (cg _ _ (by omega)) ?_ | with_reducible refine EqE.mk _ (n_shrv32 _ _ (by omega)) ?_ | with_reducible refine EqE.mk _ (n_shr1_32 _) ?_ | refine EqE.mk _ (aj _ 4294967296 _ _ rfl) ?_ | refine EqE.mk _ (aj _ 65536 _ _ rfl) ?_ | refine EqE.mk _ (aj _ 256 _ _ rfl) ?_ | refine EqE.mk _ (aj _ 134217728 _ _ rfl) ?_ | refine EqE.mk _ (aj _ 2 _ _ rfl) ?_ | refine EqE.mk _ (aj _ 16 _ _ rfl) ?_ | refine EqE.mk _ rfl ?_) | ((with_reducible refine EqE.idM ?_); first | refine EqE.mk _ (bm _ 32) ?_ | refine EqE.mk _ (bm _ _) ?_ | refine EqE.mk _ rfl ?_) | ((with_reducible refine EqE.idI ?_); first | refine EqE.mk _ (ib _) ?_ | with_reducible refine EqE.mk _ (b9 _ _) ?_ | refine EqE.mk _ (max_eq _ _) ?_ | refine EqE.mk _ (min_eq _ _) ?_) | ((with_reducible refine EqE.idS ?_); first | refine EqE.mk _ (bo _ _ _ _ (by first | with_reducible exact af _ | with_reducible exact ab _ | exact af _ | exact ab _ | rfl) (by first | omega | (simp only [List.length_set]; omega)) (by omega)) ?_ | refine EqE.mk _ (db _ _ _ _ (by first | with_reducible exact af _ | with_reducible exact ab _ | exact af _ | exact ab _ | rfl) (by omega) (by omega) (by omega)) ?_ | (refine EqE.fP ?_; (conv => whnf); fail_if_success (show ag _ _)) | refine EqE.mk _ rfl ?_) | ((with_reducible refine EqE.idA ?_); first | refine EqE.mk _ (b8 _) ?_ | refine EqE.mk _ (da _ _) ?_ | refine EqE.mk _ rfl ?_) | ((with_reducible refine EqE.idR ?_); first | refine EqE.mk _ (ca _) ?_ | refine EqE.mk _ rfl ?_) | ((with_reducible refine EqE.idL ?_); first | refine EqE.mk _ (ax _ _ _ _ (by omega) (by omega) rfl) ?_ | refine EqE.mk _ (sl_sliceN _ _ (by omega)) ?_ | refine EqE.mk _ (bn _ _ _ (by omega) (by omega) (by omega)) ?_ | refine EqE.mk _ rfl ?_) | refine EqE.mk _ rfl ?_ | refine Cd.ro ?_ | refine Cd.dc ?_ | refine Cd.ob ?_ | refine Cd.ol ?_ | refine Cd.mk ⟨rfl, rfl⟩ ?_ | refine Cd.mk (bd _) ?_ | refine Cd.om ?_ | refine Cd.mk ?_ ?_ | refine DsE.mk [_] rfl ?_ | refine DsE.mk [_, _, _] rfl ?_)
  · rename_i h
    show D.str _ = D.str _
    rw [if_pos (of_decide_eq_true h), ak]
  · rename_i h h2
    show D.str _ = D.str _
    rw [if_neg (of_decide_eq_false h), if_pos h2]
  · rename_i h h2
    show D.str _ = D.str _
    rw [if_neg (of_decide_eq_false h), h2]; rfl
def qi : Nat → Code → Code
 | n + 1, .seq _ b => qi n b
 | _, c => c
theorem agc (neg : Bool) (m : List UInt32) : (if (dg 16 (nv m)).map ch = [] then [48] else if neg = true then 45 :: (dg 16 (nv m)).map ch else (dg 16 (nv m)).map ch) = txt 16 neg (nv m) := by
 unfold txt
 by_cases h : nv m = 0
 ·rw [h, if_pos (by rw [en]; rfl), if_pos rfl]
 ·rw [if_neg h, if_neg (by simp [ow (show 2 ≤ 16 by omega), h])]
  cases neg <;> simp
def wz (n : Nat) (s : ByteArray) (w : World) : Exit → Act → World → Prop
 | .ret, a', w' => a'.defers = [] ∧ a'.tmps.size = n ∧ a'.tmps.getD 2 undef = .string s ∧ Below w.heap.size w w'
 | _, _, _ => False
noncomputable def aei : Code := qi 2 ((Tryd.f16.body).getD .skip)
theorem sk {fresh : Bool} {f : FuncId} {args : List D} {vs : List Value} {r : D} {rv : Value} (h : Sim Tryd.prog G0 fresh f args r) (ha : ∀ S w, DRs S w args vs) (hr : ∀ S w v, DR S w r v → v = rv) {S : Imm} {w : World} (hS : ∀ k o, S k o → k < w.heap.size) (hG : ∀ g, DRL S w g 0 (G0 g)) :
  Calls Tryd.prog f vs.toArray w fun e w' => e = .returned rv ∧ Below w.heap.size w w' := by
 refine (h.run S w vs hS hG (ha S w)).mono ?_
 rintro e w' ⟨v, rfl, hb, S', _, hv⟩
 exact ⟨by rw [hr _ _ _ hv], hb⟩
theorem qa {S : Imm} {w w' : World} {B : Nat} (hb : Below B w w') (hS : ∀ k o, S k o → k < B) (hG : ∀ g, DRL S w g 0 (G0 g)) : ∀ g, DRL S w' g 0 (G0 g) :=
 fun g => (hG g).mono (fun _ _ h => h) fun b o h => cell_of_heap (hb.block b (hS b o h))
theorem nh {p : Prop} (h : p) : Hid p := h
theorem su {T e : TypeId} {B b : Nat} {p : Value} {bs : List Value} {w w' : World} (h : Lib.BuilderAt T e B b p bs w) (hb : Below w.heap.size w w') : Lib.BuilderAt T e B b p bs w' := by
 obtain ⟨hB, v, hbk, hown, hne⟩ := h
 have old : ∀ k o, w.heap[k]? = some o → w'.heap[k]? = some o := fun k o hk => (hb.block k (lt_of_heap hk)).trans hk
 refine ⟨hB, v, old _ _ hbk, ⟨hown.1, hown.2.imp id ?_⟩, hne⟩
 rintro ⟨g, cap, cur, h1, h2, h3, h4⟩
 exact ⟨g, cap, cur, h1, h2, old _ _ h3, h4⟩
theorem afe {T e : TypeId} {B b : Nat} {bs : List Value} {w w' : World} (h : Lib.IsBuilder T e B b bs w) (hb : Below w.heap.size w w') : Lib.IsBuilder T e B b bs w' :=
 h.imp (fun h => su h hb) (fun h => su h hb)
def zi (m : List UInt32) (k : Nat) : List UInt8 := (grp 16 8 ((m.reverse.take k).map UInt32.toNat)).map ch
theorem aa4 (m : List UInt32) (k : Nat) : (zi m k).length ≤ 8 * m.length := by
 have h := (acs (b := 16) (k := 8) (by omega) ((m.reverse.take k).map UInt32.toNat) (by
  intro v hv; rw [List.mem_map] at hv; obtain ⟨x, _, rfl⟩ := hv; exact x.toNat_lt)).2
 simp only [zi, List.length_map, h, List.length_take, List.length_reverse]
 omega
theorem afn {m : List UInt32} {k j : Nat} (hj : j + 1 + k = m.length) : zi m (k + 1) = zi m k ++ (pad 8 (dg 16 (m.getD j 0).toNat)).map ch := by
 have : m.reverse.take (k + 1) = m.reverse.take k ++ [m.getD j 0] := by
  rw [List.take_add_one, List.getElem?_reverse (by omega)]
  rw [show m.length - 1 - k = j by omega, List.getD_eq_getElem?_getD, List.getElem?_eq_getElem (by omega)]
  rfl
 simp only [zi, this, grp, List.map_append, List.flatMap_append, List.map_cons, List.map_nil, List.flatMap_cons, List.flatMap_nil, List.append_nil]
theorem ahg (m : List UInt32) : (zi m m.length).dropWhile (· == 48) = (dg 16 (nv m)).map ch := by
  rw [zi, List.take_of_length_le (by simp)]
  exact agd m
set_option maxRecDepth 100000 in
set_option maxHeartbeats 1000000 in
theorem ahh (u0 u2 u4 u5 u6 u7 u8 u9 u10 u11 u12 u13 u14 u15 u16 u17 u18 u19 u20 u21 u22 u23 u24 u25 : Value) (neg : Bool) (m : List UInt32) (k1 c : Nat) (sa : Option Addr) (w : World) (S : Imm)
    (hS : ∀ k o, S k o → k < w.heap.size) (hG : ∀ g, DRL S w g 0 (G0 g)) (hk : k1 < w.heap.size ∧ w.cell? ⟨k1, 0, none⟩ = some (.bool neg)) (hc : m.length ≤ c) (hm : m.length < 1000000)
    (hsa : m.length = 0 ∨ ∃ bk o, sa = some ⟨bk, o, none⟩ ∧ bk < w.heap.size ∧ ∀ j, j < m.length → w.cell? ⟨bk, o + j, none⟩ = some (.int .u32 ((m.getD j 0).toNat : Int))) :
    aei.wp Tryd.prog (wz 26 (bst (txt 16 neg (nv m))) w)
      ⟨#[u0, .pointer (some ⟨k1, 0, none⟩), u2, .slice sa m.length c, u4, u5, u6, u7, u8, u9, u10, u11, u12, u13, u14, u15, u16, u17, u18, u19, u20, u21, u22, u23, u24, u25], []⟩ w := by
  unfold aei
  show Code.wp _ (qi 2 (Code.seq _ _)) _ _ _
  simp only [qi]
  go_wp2
  go_loopw [5] (fun i wr => ∃ k : Nat, k ≤ m.length ∧ i = .int .i64 ((m.length : Int) - 1 - k) ∧ Hid (Lib.IsBuilder 48 5 w.heap.size w.heap.size (Lib.byteCells (zi m k)) wr) ∧ Hid (Below w.heap.size w wr)) (fun i _ => (intOf i + 1).toNat)
  case atStart => exact ⟨0, Nat.zero_le _, by simp, nh (Lib.fresh_isBuilder _ _ _), nh ((Below.refl _ _).alloc (Nat.le_refl _) _)⟩
  case round =>
    obtain ⟨k, hk', rfl, HB, HW⟩ := hrel
    by_cases hkn : k < m.length
    · obtain ⟨bk, o, rfl, hbk, hcells⟩ : ∃ bk o, sa = some ⟨bk, o, none⟩ ∧ bk < w.heap.size ∧ ∀ j, j < m.length → w.cell? ⟨bk, o + j, none⟩ = some (.int .u32 ((m.getD j 0).toNat : Int)) := by
        rcases hsa with h | h
        · omega
        · exact h
      obtain ⟨j, hj⟩ : ∃ j : Nat, (m.length : Int) - 1 - k = j := ⟨m.length - 1 - k, by omega⟩
      have hjlt : j < m.length := by omega
      have hcj : wr.cell? ⟨bk, o + j, none⟩ = some (.int .u32 ((m.getD j 0).toNat : Int)) := (HW.out.cell (p := ⟨bk, o + j, none⟩) hbk).trans (hcells j hjlt)
      rw [hj]
      have hx : (m.getD j 0).toNat < 16 ^ 8 := (m.getD j 0).toNat_lt
      have hnext := afn (m := m) (k := k) (j := j) (by omega)
      have hlen := aa4 m k
      generalize m.getD j 0 = x at hx hnext hcj
      go_wp2_with fail
      refine (sk (vs := [.int .u32 (x.toNat : Int), .int .i64 16, .int .i64 8]) (wc (b := 16) (k := 8) (v := x.toNat) (by omega) hx) (fun S w => by simp [DRs, DR]) (fun S w v h => by simpa [DR] using h) (fun k o h => Nat.lt_of_lt_of_le (hS k o h) HW.out.size) (qa HW.out hS hG)).mono ?_
      rintro e w1 ⟨rfl, hb1⟩
      have HB1 := nh (afe HB.out hb1)
      have HW1 := nh (HW.out.trans (hb1.mono HW.out.size))
      clear HB hb1
      go_wp2_with fail
      refine (Tryd.Builder_WriteString w.heap.size w.heap.size _ _ w1 HB1.out (by rw [Lib.byteCells_length, aa, List.length_map, zz (jr (by omega) 8 _ hx)]; omega) HW1.out.size).mono ?_
      rintro e w2 ⟨rfl, hB2, hb2⟩
      have HB2 := nh (Or.inr hB2 : Lib.IsBuilder _ _ _ _ _ w2)
      have HW2 := nh (HW1.out.trans hb2)
      clear hB2 hb2
      go_wp2
      refine ⟨⟨k + 1, by omega, by congr 1; omega, nh ?_, HW2⟩, by simp only [intOf]; omega⟩
      have h2 := HB2.out
      rw [Lib.strCells_eq, nn, ← Lib.byteCells_append, ← hnext] at h2
      exact h2
    · have hkm : k = m.length := by omega
      subst hkm
      have hcb : wr.cell? ⟨k1, 0, none⟩ = some (.bool neg) := (HW.out.cell (p := ⟨k1, 0, none⟩) hk.1).trans hk.2
      go_wp2_with fail
      have h8 := ahg m
      have hlen := aa4 m m.length
      generalize zi m m.length = hw at h8 hlen HB
      have mixed : Tryd.prog.follows .mixedOrders = true := by kernel_rfl
      have T1 := nh (Tryd.Builder_String_any w.heap.size w.heap.size hw wr.drew HB HW.out.size)
      have hcb' : wr.drew.cell? ⟨k1, 0, none⟩ = some (.bool neg) := hcb
      have t2 : ∀ w5, Below w.heap.size w w5 → Calls Tryd.prog 23 #[.bool neg, .string ⟨hw.toArray⟩] w5 fun e w' => e = .returned (.string (bst (txt 16 neg (nv m)))) ∧ Below w5.heap.size w5 w' := by
        intro w5 hb
        have e : (if hw.dropWhile (· == 48) = [] then [48] else if neg then 45 :: hw.dropWhile (· == 48) else hw.dropWhile (· == 48)) = txt 16 neg (nv m) := by
          rw [h8]
          exact (agc neg m)
        refine (sk (vs := [.bool neg, .string ⟨hw.toArray⟩]) (wu neg hw (by omega)) (fun S w => by simp [DRs, DR, fp]) (fun S w v h => by simpa [DR, e] using h) (fun k o h => Nat.lt_of_lt_of_le (hS k o h) hb.size) (qa (B := w.heap.size) hb hS hG))
      have T2 := nh t2
      clear t2
      go_region_with_o (first
        | (refine T1.out.mono ?_
           rintro e w5 ⟨rfl, hb5⟩
           have hcb5 : w5.cell? ⟨k1, 0, none⟩ = some (.bool neg) := (hb5.cell (p := ⟨k1, 0, none⟩) hk.1).trans hcb'
           have HW5 := nh ((HW.out.drew).trans hb5))
        | (refine (T2.out _ HW5.out).mono ?_
           rintro e w6 ⟨rfl, hb6⟩))
      all_goals (
        go_wp2
        exact ⟨rfl, rfl, rfl, HW5.out.trans (hb6.mono HW5.out.size)⟩)
end Go.Ev.Ar

-- STR
namespace Go.Ev.Ar
open Go Go.Ev Go.Proofs Go.RowKit
theorem amh {ts : Array Value} (h : ts.size = 26) : ts = #[ts.getD 0 undef, ts.getD 1 undef, ts.getD 2 undef, ts.getD 3 undef, ts.getD 4 undef, ts.getD 5 undef, ts.getD 6 undef, ts.getD 7 undef, ts.getD 8 undef, ts.getD 9 undef, ts.getD 10 undef, ts.getD 11 undef, ts.getD 12 undef, ts.getD 13 undef, ts.getD 14 undef, ts.getD 15 undef, ts.getD 16 undef, ts.getD 17 undef, ts.getD 18 undef, ts.getD 19 undef, ts.getD 20 undef, ts.getD 21 undef, ts.getD 22 undef, ts.getD 23 undef, ts.getD 24 undef, ts.getD 25 undef] := by
 obtain ⟨l⟩ := ts
 have h2 : l.length = 26 := h
 match l, h2 with
 | [x0, x1, x2, x3, x4, x5, x6, x7, x8, x9, x10, x11, x12, x13, x14, x15, x16, x17, x18, x19, x20, x21, x22, x23, x24, x25], _ => rfl
theorem ac6 {S : Imm} {w : World} {m : List UInt32} {v : Value} (h : DR S w (sl m) v) (hS : ∀ k o, S k o → k < w.heap.size) : ∃ sa c, v = .slice sa m.length c ∧ m.length ≤ c ∧
  (m.length = 0 ∨ ∃ bk o, sa = some ⟨bk, o, none⟩ ∧ bk < w.heap.size ∧ ∀ j, j < m.length → w.cell? ⟨bk, o + j, none⟩ = some (.int .u32 ((m.getD j 0).toNat : Int))) := by
 unfold sl at h
 simp only [DR] at h
 obtain ⟨a, c, rfl, hc, h⟩ := h
 refine ⟨a, c, rfl, hc, ?_⟩
 rcases h with h | ⟨b, o, rfl, h⟩
 ·left
  have := congrArg List.length h
  simpa [ba] using this
 ·by_cases h0 : m.length = 0
  ·exact .inl h0
  ·right
   have hj : ∀ j, j < m.length → S b (o + j) ∧ w.cell? ⟨b, o + j, none⟩ = some (.int .u32 ((m.getD j 0).toNat : Int)) := by
    intro j hj
    obtain ⟨h1, u, h2, h3⟩ := ju h (j := j) (x := .int .u32 ((m.getD j 0).toNat : Int)) (by simp [ba, hj])
    simp only [DR] at h3
    exact ⟨h1, by rw [h2, h3]⟩
   exact ⟨b, o, rfl, hS _ _ (hj 0 (by omega)).1, fun j h => (hj j h).2⟩
theorem aa2 {c : Code} {σ : St} {n : Nat} {s : ByteArray} {rs : List ResultVar} (hrs : rs = [.tmp 2]) (hn : σ.n = n) (hsm : n ≤ 1000000)
  (h : ∀ w0 M S0 a w β S, Rel G0 w0 M S0 σ a w β S → c.wp Tryd.prog (wz n s w) a w) : ad8 Tryd.prog G0 c (wo tab rs (.str s)) σ := by
 refine ⟨fun w0 M S0 a w β S hr => wp_mono (h w0 M S0 a w β S hr) ?_⟩
 rintro e a' w' hp
 cases e <;> try exact hp.elim
 obtain ⟨h1, h2, h3, h4⟩ := hp
 refine ⟨⟨n, [(2, .d (.str s))], []⟩, _, S, ?_, hr.fresh h4 h1 h2 hsm ?_, by simp [hn]⟩
 ·subst hrs
  show po _ _ _ _
  simp only [po, St.get, lk, if_true, Option.getD_some, gx, e8]
  exact ⟨rfl⟩
 ·intro t x hx
  simp only [lk] at hx
  split at hx
  ·rename_i e; subst e; cases hx
   simp only [AR, DR]; exact h3
  ·cases hx
theorem zj {x : D} {n : Int} (hx : ZR x n) (hl : (ofN n.natAbs).length < 100000) : Sim Tryd.prog G0 true 16 [x] (.str (bst (txt 16 (dm n) n.natAbs))) := by
 have s1 := gf hx
 obtain ⟨b, l, hl0⟩ := hx
 have e : txt 16 (dm (zv b l)) (zv b l).natAbs = txt 16 b (nv (ofN (zv b l).natAbs)) := by
  rw [di, aah, pd]
  by_cases h : nv l = 0
  ·rw [h]; rfl
  ·rw [show (b && decide (0 < nv l)) = b by simp; omega]
 rw [e]
 refine amw 2 ay Tryd.func16 rfl ?_ (by kernel_rfl) rfl ⟨Nat.le_of_ble_eq_true rfl, Nat.le_of_ble_eq_true rfl⟩
 repeat' ((conv => whnf); first | refine aw.data ?_ | refine cE s1 ?_ | refine rgE ?_ | refine Cd.mk rfl ?_ | refine Br.t ?_ | refine Br.f ?_ | with_reducible refine Br.eqd ?_ | with_reducible refine Br.eqb ?_ | with_reducible refine Br.dec (fun _ => ?_) (fun _ => ?_) | with_reducible refine Br.br (fun _ => ?_) (fun _ => ?_) | refine Br.mk (fun _ => ?_) (fun _ => ?_) | refine ao.mk _ rfl ?_ | refine And.intro (fun _ => ?_) ?_ | (refine TkE.fL ?_; (conv => whnf); fail_if_success (show ag _ _)) | refine TkE.mk _ rfl rfl ?_ | refine Res.mk ?_ | refine a8.mk (by repeat first | exact True.intro | refine And.intro (by kernel_rfl) ?_) ?_ | refine DsE.mk [] rfl ?_ | refine ai.cu _ _ ?_ | ((with_reducible refine EqE.idT ?_); first | ((conv => arg 1; simp only [ak, List.toList_toArray, an, ae, aa, Int.toNat_natCast, Int.toNat_zero, Int.toNat_one, b4, b5, List.drop_zero, Nat.sub_zero, List.cons_append, List.nil_append]); refine EqE.mk _ rfl ?_) | refine EqE.mk _ rfl ?_) | ((with_reducible refine EqE.idP ?_); first | ((conv => arg 1; simp only [ak, List.toList_toArray, bz, b3]); refine EqE.mk _ rfl ?_) | refine EqE.mk _ rfl ?_) | ((with_reducible refine EqE.idN ?_); first | ((conv => arg 1; simp only [ak, List.toList_toArray, aa, bb, Int.toNat_natCast, Int.toNat_zero, Int.toNat_one, List.length_cons, List.length_nil, Nat.zero_add]); refine EqE.mk _ rfl ?_)) | ((with_reducible refine EqE.idW ?_); first | with_reducible refine EqE.mk _ (a7 _ (by omega)) ?_ | with_reducible refine EqE.mk _ (ar _ (by omega)) ?_ | refine EqE.mk _ (ah (by omega) (by omega)) ?_ | refine EqE.mk _ rfl ?_) | ((with_reducible refine EqE.idM ?_); refine EqE.mk _ rfl ?_) | ((with_reducible refine EqE.idI ?_); first | refine EqE.mk _ (max_eq _ _) ?_ | refine EqE.mk _ (min_eq _ _) ?_) | ((with_reducible refine EqE.idS ?_); first | (refine EqE.fP ?_; (conv => whnf); fail_if_success (show ag _ _)) | refine EqE.mk _ rfl ?_) | ((with_reducible refine EqE.idL ?_); first | refine EqE.mk _ (ax _ _ _ _ (by omega) (by omega) rfl) ?_ | refine EqE.mk _ rfl ?_) | refine EqE.mk _ rfl ?_ | refine Cd.ro ?_ | refine Cd.dc ?_ | refine Cd.ob ?_ | refine Cd.ol ?_ | refine Cd.mk ⟨rfl, rfl⟩ ?_ | refine Cd.os ?_ | refine Cd.mk ?_ ?_ | refine DsE.mk [_] rfl ?_ | refine DsE.mk [_, _, _] rfl ?_)
 refine aa2 (n := 26) rfl rfl (by omega) fun w0 M S0 a w β S hr => ?_
 have g1 : AR β S w (.ptr 1 0) (a.tmps.getD 1 undef) := hr.get 1
 have g3 : AR β S w (.d (sl (ofN (zv b l).natAbs))) (a.tmps.getD 3 undef) := hr.get 3
 simp only [AR] at g1 g3
 obtain ⟨k1, hk1, hv1⟩ := g1
 obtain ⟨sa, c, hv3, hc, hsa⟩ := ac6 g3 hr.imm
 obtain ⟨C, T, hC, _, hcc⟩ := hr.rd 1 k1 false _ hk1 rfl
 obtain ⟨u, hu, hR⟩ := hcc 0 (.d (.bool b)) rfl
 simp only [AR, DR] at hR
 subst hR
 have hd := hr.defers
 have hs : a.tmps.size = 26 := hr.size
 have hS := hr.imm
 have hG := hr.glob
 clear hr
 obtain ⟨ts, df⟩ := a
 simp only at hd hs hv1 hv3
 subst hd
 rw [amh hs, hv1, hv3]
 exact ahh _ _ _ _ _ _ _ _ _ _ _ _ _ _ _ _ _ _ _ _ _ _ _ _ b (ofN (zv b l).natAbs) k1 c sa w S hS hG ⟨lt_of_heap hC, by rw [cp hC]; exact hu⟩ hc (by omega) hsa
end Go.Ev.Ar

-- STR
namespace Go.Ev.Ar
open Go Go.Ev Go.Proofs Go.RowKit
def sg (neg : Bool) (l : List UInt8) : List UInt8 := if l.dropWhile (· == 48) = [] then [48] else if neg then 45 :: l.dropWhile (· == 48) else l.dropWhile (· == 48)
def gW (gs : List (List UInt8)) (k : Nat) : List UInt8 := (gs.reverse.take k).flatten
theorem ahb (gs : List (List UInt8)) (k : Nat) : (gW gs k).length ≤ gs.flatten.length := by
 have h1 : gs.reverse.flatten.length = gs.flatten.length := by simp [List.length_flatten, List.sum_reverse]
 have h2 : gs.reverse.flatten = gW gs k ++ (gs.reverse.drop k).flatten := by rw [gW, ← List.flatten_append, List.take_append_drop]
 rw [← h1, h2, List.length_append]; omega
theorem aji {gs : List (List UInt8)} {k j : Nat} (hj : j + 1 + k = gs.length) : gW gs (k + 1) = gW gs k ++ gs.getD j [] := by
 have : gs.reverse.take (k + 1) = gs.reverse.take k ++ [gs.getD j []] := by
  rw [List.take_add_one, List.getElem?_reverse (by omega)]
  rw [show gs.length - 1 - k = j by omega, List.getD_eq_getElem?_getD, List.getElem?_eq_getElem (by omega)]
  rfl
 simp [gW, this]
noncomputable def abz : Code := qi 4 ((Tryd.f7.body).getD .skip)
set_option maxRecDepth 100000 in
set_option maxHeartbeats 1000000 in
theorem aga (u0 u2 u3 u5 u6 u7 u8 u9 u10 u11 u12 u13 u14 u15 u16 u17 u18 u19 u20 u21 u22 u23 u24 u25 u26 u27 u28 u29 u30 u31 u32 u33 u34 u35 u36 u37 u38 u39 u40 u41 u42 u43 u44 u45 u46 u47 u48 u49 u50 u51 : Value) (neg : Bool) (gs : List (List UInt8)) (k1 c : Nat) (sa : Option Addr) (w : World) (S : Imm)
    (hS : ∀ k o, S k o → k < w.heap.size) (hG : ∀ g, DRL S w g 0 (G0 g)) (hk : k1 < w.heap.size ∧ w.cell? ⟨k1, 0, none⟩ = some (.bool neg)) (hc : gs.length ≤ c) (hm : gs.length < 1000000) (hml : gs.flatten.length < 1000000000)
    (hsa : gs.length = 0 ∨ ∃ bk o, sa = some ⟨bk, o, none⟩ ∧ bk < w.heap.size ∧ ∀ j, j < gs.length → w.cell? ⟨bk, o + j, none⟩ = some (.string (bst (gs.getD j [])))) :
    abz.wp Tryd.prog (wz 52 (bst (sg neg gs.reverse.flatten)) w)
      ⟨#[u0, .pointer (some ⟨k1, 0, none⟩), u2, u3, .slice sa gs.length c, u5, u6, u7, u8, u9, u10, u11, u12, u13, u14, u15, u16, u17, u18, u19, u20, u21, u22, u23, u24, u25, u26, u27, u28, u29, u30, u31, u32, u33, u34, u35, u36, u37, u38, u39, u40, u41, u42, u43, u44, u45, u46, u47, u48, u49, u50, u51], []⟩ w := by
  unfold abz
  show Code.wp _ (qi 4 (Code.seq _ _)) _ _ _
  simp only [qi]
  go_wp2
  go_loopw [10] (fun i wr => ∃ k : Nat, k ≤ gs.length ∧ i = .int .i64 ((gs.length : Int) - 1 - k) ∧ Hid (Lib.IsBuilder 48 5 w.heap.size w.heap.size (Lib.byteCells (gW gs k)) wr) ∧ Hid (Below w.heap.size w wr)) (fun i _ => (intOf i + 1).toNat)
  case atStart => exact ⟨0, Nat.zero_le _, by simp, nh (Lib.fresh_isBuilder _ _ _), nh ((Below.refl _ _).alloc (Nat.le_refl _) _)⟩
  case round =>
    obtain ⟨k, hk', rfl, HB, HW⟩ := hrel
    by_cases hkn : k < gs.length
    · obtain ⟨bk, o, rfl, hbk, hcells⟩ : ∃ bk o, sa = some ⟨bk, o, none⟩ ∧ bk < w.heap.size ∧ ∀ j, j < gs.length → w.cell? ⟨bk, o + j, none⟩ = some (.string (bst (gs.getD j []))) := by
        rcases hsa with h | h
        · omega
        · exact h
      obtain ⟨j, hj⟩ : ∃ j : Nat, (gs.length : Int) - 1 - k = j := ⟨gs.length - 1 - k, by omega⟩
      have hjlt : j < gs.length := by omega
      have hcj : wr.cell? ⟨bk, o + j, none⟩ = some (.string (bst (gs.getD j []))) := (HW.out.cell (p := ⟨bk, o + j, none⟩) hbk).trans (hcells j hjlt)
      rw [hj]
      have hnext := aji (gs := gs) (k := k) (j := j) (by omega)
      have hlen := ahb gs (k + 1)
      rw [hnext, List.length_append] at hlen
      generalize gs.getD j [] = x at hnext hcj hlen
      go_wp2_with fail
      refine (Tryd.Builder_WriteString w.heap.size w.heap.size _ _ wr HB.out (by rw [Lib.byteCells_length, aa]; omega) HW.out.size).mono ?_
      rintro e w2 ⟨rfl, hB2, hb2⟩
      have HB2 := nh (Or.inr hB2 : Lib.IsBuilder _ _ _ _ _ w2)
      have HW2 := nh (HW.out.trans hb2)
      clear hB2 hb2
      go_wp2
      refine ⟨⟨k + 1, by omega, by congr 1; omega, nh ?_, HW2⟩, by simp only [intOf]; omega⟩
      have h2 := HB2.out
      rw [Lib.strCells_eq, nn, ← Lib.byteCells_append, ← hnext] at h2
      exact h2
    · have hkm : k = gs.length := by omega
      subst hkm
      have hcb : wr.cell? ⟨k1, 0, none⟩ = some (.bool neg) := (HW.out.cell (p := ⟨k1, 0, none⟩) hk.1).trans hk.2
      go_wp2_with fail
      have hall : gW gs gs.length = gs.reverse.flatten := by rw [gW, List.take_of_length_le (by simp)]
      have hlen := ahb gs gs.length
      rw [hall] at HB hlen
      generalize hgw : gs.reverse.flatten = hw at hlen HB
      have mixed : Tryd.prog.follows .mixedOrders = true := by kernel_rfl
      have T1 := nh (Tryd.Builder_String_any w.heap.size w.heap.size hw wr.drew HB HW.out.size)
      have hcb' : wr.drew.cell? ⟨k1, 0, none⟩ = some (.bool neg) := hcb
      have t2 : ∀ w5, Below w.heap.size w w5 → Calls Tryd.prog 23 #[.bool neg, .string ⟨hw.toArray⟩] w5 fun e w' => e = .returned (.string (bst (sg neg hw))) ∧ Below w5.heap.size w5 w' := by
        intro w5 hb
        refine (sk (vs := [.bool neg, .string ⟨hw.toArray⟩]) (wu neg hw (by omega)) (fun S w => by simp [DRs, DR, fp]) (fun S w v h => by simp only [DR] at h; exact h) (fun k o h => Nat.lt_of_lt_of_le (hS k o h) hb.size) (qa (B := w.heap.size) hb hS hG))
      have T2 := nh t2
      clear t2
      go_region_with_o (first
        | (refine T1.out.mono ?_
           rintro e w5 ⟨rfl, hb5⟩
           have hcb5 : w5.cell? ⟨k1, 0, none⟩ = some (.bool neg) := (hb5.cell (p := ⟨k1, 0, none⟩) hk.1).trans hcb'
           have HW5 := nh ((HW.out.drew).trans hb5))
        | (refine (T2.out _ HW5.out).mono ?_
           rintro e w6 ⟨rfl, hb6⟩))
      all_goals (
        go_wp2
        exact ⟨rfl, rfl, hgw ▸ rfl, HW5.out.trans (hb6.mono HW5.out.size)⟩)
theorem ami {ts : Array Value} (h : ts.size = 52) : ts = #[ts.getD 0 undef, ts.getD 1 undef, ts.getD 2 undef, ts.getD 3 undef, ts.getD 4 undef, ts.getD 5 undef, ts.getD 6 undef, ts.getD 7 undef, ts.getD 8 undef, ts.getD 9 undef, ts.getD 10 undef, ts.getD 11 undef, ts.getD 12 undef, ts.getD 13 undef, ts.getD 14 undef, ts.getD 15 undef, ts.getD 16 undef, ts.getD 17 undef, ts.getD 18 undef, ts.getD 19 undef, ts.getD 20 undef, ts.getD 21 undef, ts.getD 22 undef, ts.getD 23 undef, ts.getD 24 undef, ts.getD 25 undef, ts.getD 26 undef, ts.getD 27 undef, ts.getD 28 undef, ts.getD 29 undef, ts.getD 30 undef, ts.getD 31 undef, ts.getD 32 undef, ts.getD 33 undef, ts.getD 34 undef, ts.getD 35 undef, ts.getD 36 undef, ts.getD 37 undef, ts.getD 38 undef, ts.getD 39 undef, ts.getD 40 undef, ts.getD 41 undef, ts.getD 42 undef, ts.getD 43 undef, ts.getD 44 undef, ts.getD 45 undef, ts.getD 46 undef, ts.getD 47 undef, ts.getD 48 undef, ts.getD 49 undef, ts.getD 50 undef, ts.getD 51 undef] := by
 obtain ⟨l⟩ := ts
 have h2 : l.length = 52 := h
 match l, h2 with
 | x0 :: x1 :: x2 :: x3 :: x4 :: x5 :: x6 :: x7 :: x8 :: x9 :: x10 :: x11 :: x12 :: x13 :: x14 :: x15 :: x16 :: x17 :: x18 :: x19 :: x20 :: x21 :: x22 :: x23 :: x24 :: x25 :: x26 :: x27 :: x28 :: x29 :: x30 :: x31 :: x32 :: x33 :: x34 :: x35 :: x36 :: x37 :: x38 :: x39 :: x40 :: x41 :: x42 :: x43 :: x44 :: x45 :: x46 :: x47 :: x48 :: x49 :: x50 :: x51 :: [], _ => rfl
end Go.Ev.Ar

-- STR
namespace Go.Ev.Ar
open Go Go.Ev Go.Proofs Go.RowKit
def sd (x : List UInt8) : List D := [.str (bst x)]
def pg (v : Nat) : List UInt8 := (pad 9 (dg 10 v)).map ch
theorem abm {l : List D} (h : l.all (fun c => (A.d c).one) = true) : ∀ c ∈ l, (A.d c).one = true := List.all_eq_true.1 h
theorem aid (x : List UInt8) : (sd x).length = 1 := rfl
theorem al5 (gs : List (List UInt8)) (x : List UInt8) : fa sd gs ++ [D.str (bst x)].map A.d = fa sd (gs ++ [x]) := by
 simp [fa, sd]
theorem ak3 {k : Nat} (hk : (ofN k).length < 2 ^ 26) : Sim Tryd.prog G0 false 20 [sl (ofN k), sl [1000000000]] (.tup [sl (ofN (k / 1000000000)), sl (ofN (k % 1000000000)), .bool true]) := by
 have e : nv [1000000000] = 1000000000 := rfl
 have h := ahs (ofN k) [1000000000] hk (by simp) (by omega)
 rw [di, e] at h; exact h
theorem amp {k : Nat} (h0 : k ≠ 0) (h : k < 4294967296) : (ba (ofN k))[0]? = some (.int .u32 ((k : Nat) : Int)) := by
 rw [o4 h0]
 show some (D.int .u32 (((UInt32.ofNat k).toNat : Nat) : Int)) = _
 simp only [UInt32.toNat_ofNat']
 rw [Nat.mod_eq_of_lt (by omega)]
theorem aie : ∀ gs : List (List UInt8), gs.flatMap sd = gs.map fun x => D.str (bst x)
 | [] => rfl
 | x :: l => by rw [List.flatMap_cons, aie l]; rfl
theorem af8 {S : Imm} {w : World} {gs : List (List UInt8)} {v : Value} (h : DR S w (.slice gs.length (gs.flatMap sd)) v) (hS : ∀ k o, S k o → k < w.heap.size) : ∃ sa c, v = .slice sa gs.length c ∧ gs.length ≤ c ∧
  (gs.length = 0 ∨ ∃ bk o, sa = some ⟨bk, o, none⟩ ∧ bk < w.heap.size ∧ ∀ j, j < gs.length → w.cell? ⟨bk, o + j, none⟩ = some (.string (bst (gs.getD j [])))) := by
 simp only [DR] at h
 obtain ⟨a, c, rfl, hc, h⟩ := h
 refine ⟨a, c, rfl, hc, ?_⟩
 have hm : gs.flatMap sd = gs.map fun x => D.str (bst x) := aie gs
 rw [hm] at h
 rcases h with h | ⟨b, o, rfl, h⟩
 ·left
  have := congrArg List.length h
  simpa using this
 ·by_cases h0 : gs.length = 0
  ·exact .inl h0
  ·right
   have hj : ∀ j, j < gs.length → S b (o + j) ∧ w.cell? ⟨b, o + j, none⟩ = some (.string (bst (gs.getD j []))) := by
    intro j hj
    obtain ⟨h1, u, h2, h3⟩ := ju h (j := j) (x := .str (bst (gs.getD j []))) (by simp [hj])
    simp only [DR] at h3
    exact ⟨h1, by rw [h2, h3]⟩
   exact ⟨b, o, rfl, hS _ _ (hj 0 (by omega)).1, fun j h => (hj j h).2⟩
theorem aj6 (vs : List Nat) : ((vs.reverse.map pg).reverse.flatten) = (grp 10 9 vs).map ch := by
 rw [← List.map_reverse, List.reverse_reverse]
 induction vs with
 | nil => rfl
 | cons v l ih =>
  rw [List.map_cons, List.flatten_cons, ih]
  simp [grp, pg]
theorem al6 (b : Bool) (N : Nat) : sg b ((grp 10 9 (dg 1000000000 N)).map ch) = txt 10 b N := by
 unfold sg
 rw [ad3]
 unfold txt
 by_cases h : N = 0
 ·rw [h, if_pos (by rw [en]; rfl), if_pos rfl]
 ·rw [if_neg h, if_neg (by simp [ow (show 2 ≤ 10 by omega), h])]
  cases b <;> simp
set_option maxHeartbeats 1000000 in
theorem l9 {x : D} {n : Int} (hx : ZR x n) (hl : (ofN n.natAbs).length < 1000) : Sim Tryd.prog G0 true 7 [x] (.str (bst (txt 10 (dm n) n.natAbs))) := by
 have s1 := gf hx
 obtain ⟨b, l, hl0⟩ := hx
 have e : txt 10 (dm (zv b l)) (zv b l).natAbs = sg b ((grp 10 9 (dg 1000000000 (zv b l).natAbs)).map ch) := by
  rw [al6, aah, pd]
  by_cases h : nv l = 0
  ·rw [h]; rfl
  ·rw [show (b && decide (0 < nv l)) = b by simp; omega]
 rw [e]
 have hB := afi 1000000000 (by omega) (n := (zv b l).natAbs) (k := 1000) (by omega)
 refine amw 4 ay Tryd.func7 rfl ?_ (by kernel_rfl) rfl ⟨Nat.le_of_ble_eq_true rfl, Nat.le_of_ble_eq_true rfl⟩
 repeat' ((conv => whnf); first | refine aw.data ?_ | refine cE s1 ?_ | refine rgE ?_ | refine Cd.mk rfl ?_ | refine Br.t ?_ | refine Br.f ?_ | with_reducible refine Br.eqd ?_ | with_reducible refine Br.eqb ?_ | with_reducible refine Br.dec (fun _ => ?_) (fun _ => ?_) | with_reducible refine Br.br (fun _ => ?_) (fun _ => ?_) | refine Br.mk (fun _ => ?_) (fun _ => ?_) | refine ao.mk _ rfl ?_ | refine And.intro (fun _ => ?_) ?_ | (refine TkE.fL ?_; (conv => whnf); fail_if_success (show ag _ _)) | refine TkE.mk _ rfl rfl ?_ | refine Res.mk ?_ | refine a8.mk (by repeat first | exact True.intro | refine And.intro (by kernel_rfl) ?_) ?_ | refine DsE.mk [] rfl ?_ | refine ai.cu _ _ ?_ | ((with_reducible refine EqE.idT ?_); first | ((conv => arg 1; simp only [ak, List.toList_toArray, an, ae, aa, Int.toNat_natCast, Int.toNat_zero, Int.toNat_one, b4, b5, List.drop_zero, Nat.sub_zero, List.cons_append, List.nil_append]); refine EqE.mk _ rfl ?_) | refine EqE.mk _ rfl ?_) | ((with_reducible refine EqE.idP ?_); first | ((conv => arg 1; simp only [ak, List.toList_toArray, bz, b3]); refine EqE.mk _ rfl ?_) | refine EqE.mk _ rfl ?_) | ((with_reducible refine EqE.idN ?_); first | ((conv => arg 1; simp only [ak, List.toList_toArray, aa, bb, Int.toNat_natCast, Int.toNat_zero, Int.toNat_one, List.length_cons, List.length_nil, Nat.zero_add]); refine EqE.mk _ rfl ?_)) | ((with_reducible refine EqE.idW ?_); first | with_reducible refine EqE.mk _ (a7 _ (by omega)) ?_ | with_reducible refine EqE.mk _ (ar _ (by omega)) ?_ | refine EqE.mk _ (ah (by omega) (by omega)) ?_ | refine EqE.mk _ rfl ?_) | ((with_reducible refine EqE.idM ?_); refine EqE.mk _ rfl ?_) | ((with_reducible refine EqE.idI ?_); first | refine EqE.mk _ (max_eq _ _) ?_ | refine EqE.mk _ (min_eq _ _) ?_) | ((with_reducible refine EqE.idS ?_); first | (refine EqE.fP ?_; (conv => whnf); fail_if_success (show ag _ _)) | refine EqE.mk _ rfl ?_) | ((with_reducible refine EqE.idL ?_); first | refine EqE.mk _ (ax _ _ _ _ (by omega) (by omega) rfl) ?_ | refine EqE.mk _ rfl ?_) | refine EqE.mk _ rfl ?_ | refine Cd.ro ?_ | refine Cd.dc ?_ | refine Cd.ob ?_ | refine Cd.ol ?_ | refine Cd.mk ⟨rfl, rfl⟩ ?_ | refine Cd.os ?_ | refine Cd.mk ?_ ?_ | refine DsE.mk [_] rfl ?_ | refine DsE.mk [_, _, _] rfl ?_)
 refine ⟨[(4, 500, 1)], [1, 2, 3, 4], [1, 500], fun m xs h => ∃ (k : Nat) (vs : List Nat), m = k ∧ k ≤ (zv b l).natAbs ∧ dg 1000000000 (zv b l).natAbs = dg 1000000000 k ++ vs ∧
   xs = [.ptr 1 0, .d (.str ⟨#[]⟩), .d (sl (ofN k)), .own 500 0 (vs.reverse.map pg).length 1] ∧ h = [(500, false, fa sd (vs.reverse.map pg)), (1, false, [.d (.bool b), .d (sl l)])],
  ⟨rfl, rfl, ⟨Nat.le_of_ble_eq_true rfl, Nat.le_of_ble_eq_true rfl⟩, _, _, _, ⟨.inl rfl, rfl, rfl, rfl⟩, (zv b l).natAbs, [], rfl, Nat.le_refl _, by simp, rfl, rfl⟩, ?_⟩
 rintro m xs h ⟨_, vs, rfl, hk, hd, rfl, rfl⟩
 have hkl := ahw hk hl
 have hvl : vs.length ≤ 32000 := by have := congrArg List.length hd; simp only [List.length_append] at this; omega
 obtain ⟨gs, hgs⟩ : ∃ gs, vs.reverse.map pg = gs := ⟨_, rfl⟩
 have hgl : gs.length ≤ 32000 := by rw [← hgs]; simpa using hvl
 rw [hgs]
 by_cases h0 : m = 0
 ·subst h0
  rw [en, List.nil_append] at hd
  have hz : (ofN 0).length = 0 := cw.2 rfl
  have hfl : gs.reverse.flatten = (grp 10 9 (dg 1000000000 (zv b l).natAbs)).map ch := by rw [← hgs, aj6, hd]
  have hfl2 : gs.flatten.length < 1000000000 := by
   have h1 : ∀ g ∈ gs, g.length ≤ 9 := by
    intro g hg
    rw [← hgs, List.mem_map] at hg
    obtain ⟨v, hv, rfl⟩ := hg
    rw [List.mem_reverse, ← hd] at hv
    have := sy (b := 1000000000) (by omega) _ v hv
    simp only [pg, List.length_map]
    rw [zz (jr (by omega) 9 v this)]; exact Nat.le_refl _
   have h2 : ∀ gs : List (List UInt8), (∀ g ∈ gs, g.length ≤ 9) → gs.flatten.length ≤ 9 * gs.length := by
    intro gs
    induction gs with
    | nil => intro _; simp
    | cons x l ih =>
     intro h
     have h3 := ih fun g hg => h g (List.mem_cons_of_mem _ hg)
     have h4 := h x (List.mem_cons_self ..)
     simp only [List.flatten_cons, List.length_append, List.length_cons]; omega
   have := h2 gs h1; omega
  repeat' ((conv => whnf); first | refine aw.data ?_ | with_reducible refine Br.bf fun _ => ?_ | refine rgE ?_ | refine Cd.mk rfl ?_ | refine Br.t ?_ | refine Br.f ?_ | with_reducible refine Br.eqd ?_ | with_reducible refine Br.eqb ?_ | with_reducible refine Br.dec (fun _ => ?_) (fun _ => ?_) | with_reducible refine Br.br (fun _ => ?_) (fun _ => ?_) | refine Br.mk (fun _ => ?_) (fun _ => ?_) | refine ao.mk _ rfl ?_ | refine And.intro (fun _ => ?_) ?_ | (refine TkE.fL ?_; (conv => whnf); fail_if_success (show ag _ _)) | refine TkE.mk _ rfl rfl ?_ | refine Res.mk ?_ | refine a8.mk (by repeat first | exact True.intro | refine And.intro (by kernel_rfl) ?_) ?_ | refine DsE.mk [] rfl ?_ | refine ai.cu _ _ ?_ | ((with_reducible refine EqE.idT ?_); first | ((conv => arg 1; simp only [ak, List.toList_toArray, an, ae, aa, Int.toNat_natCast, Int.toNat_zero, Int.toNat_one, b4, b5, List.drop_zero, Nat.sub_zero, List.cons_append, List.nil_append]); refine EqE.mk _ rfl ?_) | refine EqE.mk _ rfl ?_) | ((with_reducible refine EqE.idP ?_); first | ((conv => arg 1; simp only [ak, List.toList_toArray, bz, b3]); refine EqE.mk _ rfl ?_) | refine EqE.mk _ rfl ?_) | ((with_reducible refine EqE.idN ?_); first | ((conv => arg 1; simp only [ak, List.toList_toArray, aa, bb, Int.toNat_natCast, Int.toNat_zero, Int.toNat_one, List.length_cons, List.length_nil, Nat.zero_add]); refine EqE.mk _ rfl ?_)) | ((with_reducible refine EqE.idW ?_); first | with_reducible refine EqE.mk _ (a7 _ (by omega)) ?_ | with_reducible refine EqE.mk _ (ar _ (by omega)) ?_ | refine EqE.mk _ (ah (by omega) (by omega)) ?_ | refine EqE.mk _ rfl ?_) | ((with_reducible refine EqE.idM ?_); refine EqE.mk _ rfl ?_) | ((with_reducible refine EqE.idI ?_); first | refine EqE.mk _ (max_eq _ _) ?_ | refine EqE.mk _ (min_eq _ _) ?_) | ((with_reducible refine EqE.idS ?_); first | (refine EqE.fP ?_; (conv => whnf); fail_if_success (show ag _ _)) | refine EqE.mk _ rfl ?_) | ((with_reducible refine EqE.idL ?_); first | refine EqE.mk _ (ax _ _ _ _ (by omega) (by omega) rfl) ?_ | refine EqE.mk _ rfl ?_) | refine EqE.mk _ rfl ?_ | refine Cd.ro ?_ | refine Cd.dc ?_ | refine Cd.ob ?_ | refine Cd.ol ?_ | refine Cd.mk ⟨rfl, rfl⟩ ?_ | refine Cd.os ?_ | refine Cd.mk ?_ ?_ | refine DsE.mk [_] rfl ?_ | refine DsE.mk [_, _, _] rfl ?_)
  rw [← hfl]
  (conv => whnf)
  refine aa2 (n := 52) rfl rfl (by omega) fun w0 M S0 a w β S hr => ?_
  have g1 : AR β S w (.ptr 1 0) (a.tmps.getD 1 undef) := hr.get 1
  have g4 : AR β S w (.own 500 0 gs.length 1) (a.tmps.getD 4 undef) := hr.get 4
  obtain ⟨d, bs, hbs, hfb, hdr⟩ := me hr (K := fun x bs => x = .slice gs.length (gs.flatMap sd)) (by
   refine DsE.mk (gs.flatMap sd) rfl (EqE.mk _ rfl ?_)
   rw [List.drop_zero, List.take_of_length_le (by rw [vl aid]; omega)]) g4
  subst hbs
  have hdr := hdr bs fun _ h => h
  have hrf := hr.freeze hfb
  simp only [AR] at g1
  obtain ⟨k1, hk1, hv1⟩ := g1
  obtain ⟨sa, c, hv4, hc, hsa⟩ := af8 hdr hrf.imm
  obtain ⟨C, T, hC, _, hcc⟩ := hr.rd 1 k1 false _ hk1 rfl
  obtain ⟨u, hu, hR⟩ := hcc 0 (.d (.bool b)) rfl
  simp only [AR, DR] at hR
  subst hR
  have hd := hr.defers
  have hs : a.tmps.size = 52 := hr.size
  have hS := hrf.imm
  have hG := hrf.glob
  clear hr hrf
  obtain ⟨ts, df⟩ := a
  simp only at hd hs hv1 hv4
  subst hd
  rw [ami hs, hv1, hv4]
  exact aga _ _ _ _ _ _ _ _ _ _ _ _ _ _ _ _ _ _ _ _ _ _ _ _ _ _ _ _ _ _ _ _ _ _ _ _ _ _ _ _ _ _ _ _ _ _ _ _ _ _ b gs k1 c sa w _ hS hG ⟨lt_of_heap hC, by rw [cp hC]; exact hu⟩ hc (by omega) hfl2 hsa
 ·have h2 : 0 < (ofN m).length := by rw [List.length_pos_iff]; exact jg h0
  have h3 : m % 1000000000 < 1000000000 := Nat.mod_lt _ (by omega)
  have s3 := wc (b := 10) (k := 9) (v := m % 1000000000) (by omega) h3
  have L1 : (fa sd gs).length = gs.length * 1 := alk aid gs
  have A1 := al5 gs (pg (m % 1000000000))
  have hlast : (m / 1000000000) < m ∧ m / 1000000000 ≤ (zv b l).natAbs := ⟨Nat.div_lt_self (by omega) (by omega), Nat.le_trans (Nat.div_le_self _ _) hk⟩
  have hd2 : dg 1000000000 (zv b l).natAbs = dg 1000000000 (m / 1000000000) ++ (m % 1000000000) :: vs := by rw [hd, ga (by omega) h0, List.append_assoc]; rfl
  have hg2 : ((m % 1000000000) :: vs).reverse.map pg = gs ++ [pg (m % 1000000000)] := by rw [List.reverse_cons, List.map_append, hgs]; rfl
  have hl2 : (gs ++ [pg (m % 1000000000)]).length = gs.length + 1 := by simp
  by_cases h4 : m % 1000000000 = 0
  ·have hz : (ofN (m % 1000000000)).length = 0 := cw.2 h4
   rw [h4] at s3 A1
   repeat' ((conv => whnf); first | refine aw.data ?_ | with_reducible refine Br.bt fun _ => ?_ | with_reducible refine Br.bf fun _ => ?_ | refine cE ((ak3 (k := m) (by omega))) ?_ | refine cE s3 ?_ | refine DsE.mk (ba [1000000000]) rfl ?_ | refine Cd.mk L1 ?_ | refine Cd.mk (abm rfl) ?_ | ((with_reducible show DsE (fa sd _) _); refine DsE.mk (List.flatMap sd _) rfl ?_) | ((with_reducible show EqE (fa sd _ ++ _) _); refine EqE.mk _ A1 ?_) | refine ai.cu _ _ ?_ (cut := ⟨.inl rfl, rfl, rfl, acb _ _ _ _ _ _ rfl⟩) | refine rgE ?_ | refine Cd.mk rfl ?_ | refine Br.t ?_ | refine Br.f ?_ | with_reducible refine Br.eqd ?_ | with_reducible refine Br.eqb ?_ | with_reducible refine Br.dec (fun _ => ?_) (fun _ => ?_) | with_reducible refine Br.br (fun _ => ?_) (fun _ => ?_) | refine Br.mk (fun _ => ?_) (fun _ => ?_) | refine ao.mk _ rfl ?_ | refine And.intro (fun _ => ?_) ?_ | (refine TkE.fL ?_; (conv => whnf); fail_if_success (show ag _ _)) | refine TkE.mk _ rfl rfl ?_ | refine Res.mk ?_ | refine a8.mk (by repeat first | exact True.intro | refine And.intro (by kernel_rfl) ?_) ?_ | refine DsE.mk [] rfl ?_ | refine ai.cu _ _ ?_ | ((with_reducible refine EqE.idT ?_); first | ((conv => arg 1; simp only [ak, List.toList_toArray, an, ae, aa, Int.toNat_natCast, Int.toNat_zero, Int.toNat_one, b4, b5, List.drop_zero, Nat.sub_zero, List.cons_append, List.nil_append]); refine EqE.mk _ rfl ?_) | refine EqE.mk _ rfl ?_) | ((with_reducible refine EqE.idP ?_); first | ((conv => arg 1; simp only [ak, List.toList_toArray, bz, b3]); refine EqE.mk _ rfl ?_) | refine EqE.mk _ rfl ?_) | ((with_reducible refine EqE.idN ?_); first | ((conv => arg 1; simp only [ak, List.toList_toArray, aa, bb, Int.toNat_natCast, Int.toNat_zero, Int.toNat_one, List.length_cons, List.length_nil, Nat.zero_add]); refine EqE.mk _ rfl ?_)) | ((with_reducible refine EqE.idW ?_); first | with_reducible refine EqE.mk _ (a7 _ (by omega)) ?_ | with_reducible refine EqE.mk _ (ar _ (by omega)) ?_ | refine EqE.mk _ (ah (by omega) (by omega)) ?_ | refine EqE.mk _ rfl ?_) | ((with_reducible refine EqE.idM ?_); refine EqE.mk _ rfl ?_) | ((with_reducible refine EqE.idI ?_); first | refine EqE.mk _ (max_eq _ _) ?_ | refine EqE.mk _ (min_eq _ _) ?_) | ((with_reducible refine EqE.idS ?_); first | (refine EqE.fP ?_; (conv => whnf); fail_if_success (show ag _ _)) | refine EqE.mk _ rfl ?_) | ((with_reducible refine EqE.idL ?_); first | refine EqE.mk (sl [1000000000]) rfl ?_ | refine EqE.mk _ (ax _ _ _ _ (by omega) (by omega) rfl) ?_ | refine EqE.mk _ rfl ?_) | refine EqE.mk _ rfl ?_ | refine Cd.ro ?_ | refine Cd.dc ?_ | refine Cd.ob ?_ | refine Cd.ol ?_ | refine Cd.mk ⟨rfl, rfl⟩ ?_ | refine Cd.os ?_ | refine Cd.mk ?_ ?_ | refine DsE.mk [_] rfl ?_ | refine DsE.mk [_, _, _] rfl ?_)
   refine ⟨_, ⟨m / 1000000000, (m % 1000000000) :: vs, rfl, hlast.2, hd2, ?_, ?_⟩, hlast.1⟩
   ·rw [hg2, hl2]; rfl
   ·rw [hg2, h4]; rfl
  ·have h5 : 0 < (ofN (m % 1000000000)).length := by rw [List.length_pos_iff]; exact jg h4
   have hn := amp h4 (by omega)
   repeat' ((conv => whnf); first | refine aw.data ?_ | with_reducible refine Br.bt fun _ => ?_ | with_reducible refine Br.bf fun _ => ?_ | refine cE ((ak3 (k := m) (by omega))) ?_ | refine cE s3 ?_ | refine ao.mk _ hn ?_ | refine DsE.mk (ba [1000000000]) rfl ?_ | refine Cd.mk L1 ?_ | refine Cd.mk (abm rfl) ?_ | ((with_reducible show DsE (fa sd _) _); refine DsE.mk (List.flatMap sd _) rfl ?_) | ((with_reducible show EqE (fa sd _ ++ _) _); refine EqE.mk _ A1 ?_) | refine ai.cu _ _ ?_ (cut := ⟨.inl rfl, rfl, rfl, acb _ _ _ _ _ _ rfl⟩) | refine rgE ?_ | refine Cd.mk rfl ?_ | refine Br.t ?_ | refine Br.f ?_ | with_reducible refine Br.eqd ?_ | with_reducible refine Br.eqb ?_ | with_reducible refine Br.dec (fun _ => ?_) (fun _ => ?_) | with_reducible refine Br.br (fun _ => ?_) (fun _ => ?_) | refine Br.mk (fun _ => ?_) (fun _ => ?_) | refine ao.mk _ rfl ?_ | refine And.intro (fun _ => ?_) ?_ | (refine TkE.fL ?_; (conv => whnf); fail_if_success (show ag _ _)) | refine TkE.mk _ rfl rfl ?_ | refine Res.mk ?_ | refine a8.mk (by repeat first | exact True.intro | refine And.intro (by kernel_rfl) ?_) ?_ | refine DsE.mk [] rfl ?_ | refine ai.cu _ _ ?_ | ((with_reducible refine EqE.idT ?_); first | ((conv => arg 1; simp only [ak, List.toList_toArray, an, ae, aa, Int.toNat_natCast, Int.toNat_zero, Int.toNat_one, b4, b5, List.drop_zero, Nat.sub_zero, List.cons_append, List.nil_append]); refine EqE.mk _ rfl ?_) | refine EqE.mk _ rfl ?_) | ((with_reducible refine EqE.idP ?_); first | ((conv => arg 1; simp only [ak, List.toList_toArray, bz, b3]); refine EqE.mk _ rfl ?_) | refine EqE.mk _ rfl ?_) | ((with_reducible refine EqE.idN ?_); first | ((conv => arg 1; simp only [ak, List.toList_toArray, aa, bb, Int.toNat_natCast, Int.toNat_zero, Int.toNat_one, List.length_cons, List.length_nil, Nat.zero_add]); refine EqE.mk _ rfl ?_)) | ((with_reducible refine EqE.idW ?_); first | with_reducible refine EqE.mk _ (a7 _ (by omega)) ?_ | with_reducible refine EqE.mk _ (ar _ (by omega)) ?_ | refine EqE.mk _ (ah (by omega) (by omega)) ?_ | refine EqE.mk _ rfl ?_) | ((with_reducible refine EqE.idM ?_); refine EqE.mk _ rfl ?_) | ((with_reducible refine EqE.idI ?_); first | refine EqE.mk _ (max_eq _ _) ?_ | refine EqE.mk _ (min_eq _ _) ?_) | ((with_reducible refine EqE.idS ?_); first | (refine EqE.fP ?_; (conv => whnf); fail_if_success (show ag _ _)) | refine EqE.mk _ rfl ?_) | ((with_reducible refine EqE.idL ?_); first | refine EqE.mk (sl [1000000000]) rfl ?_ | refine EqE.mk _ (ax _ _ _ _ (by omega) (by omega) rfl) ?_ | refine EqE.mk _ rfl ?_) | refine EqE.mk _ rfl ?_ | refine Cd.ro ?_ | refine Cd.dc ?_ | refine Cd.ob ?_ | refine Cd.ol ?_ | refine Cd.mk ⟨rfl, rfl⟩ ?_ | refine Cd.os ?_ | refine Cd.mk ?_ ?_ | refine DsE.mk [_] rfl ?_ | refine DsE.mk [_, _, _] rfl ?_)
   refine ⟨_, ⟨m / 1000000000, (m % 1000000000) :: vs, rfl, hlast.2, hd2, ?_, ?_⟩, hlast.1⟩
   ·rw [hg2, hl2]; rfl
   ·rw [hg2]; rfl
end Go.Ev.Ar

-- STR
namespace Go.Ev.Ar
open Go Go.Ev Go.Proofs Go.RowKit
theorem ps1 : Sim Tryd.prog G0 false 8 [.str ⟨#[45, 49, 50]⟩] (.tup [zD (-12), .int .i64 3, .int .i64 0]) := by
 have h := j6 [45, 49, 50] (by decide)
 rw [show prs [45, 49, 50] = (-12, 3, 0) by kernel_rfl, ← fp] at h
 exact h
theorem ps2 : Sim Tryd.prog G0 false 8 [.str ⟨#[49, 120]⟩] (.tup [zD 0, .int .i64 1, .int .i64 14]) := by
 have h := j6 [49, 120] (by decide)
 rw [show prs [49, 120] = (0, 1, 14) by kernel_rfl, ← fp] at h
 exact h
theorem ps3 : Sim Tryd.prog G0 false 8 [.str ⟨#[45]⟩] (.tup [zD 0, .int .i64 1, .int .i64 15]) := by
 have h := j6 [45] (by decide)
 rw [show prs [45] = (0, 1, 15) by kernel_rfl, ← fp] at h
 exact h
theorem aks : Zt 134217728 (-12) := Zt.small (by decide) (by decide)
theorem ak0 : (ofN (-12 : Int).natAbs).length ≤ 2 := Zt.len (h := 64) (by decide) (Zt.small (by decide) (by decide))
theorem ts1 : Sim Tryd.prog G0 true 7 [zD (-12)] (.str ⟨#[45, 49, 50]⟩) := by
 have h := l9 (.of aks) (Nat.lt_of_le_of_lt ak0 (by decide))
 rw [show txt 10 (dm (-12)) (-12 : Int).natAbs = [45, 49, 50] by kernel_rfl, ← fp] at h
 exact h
theorem ts2 : Sim Tryd.prog G0 true 16 [zD (-12)] (.str ⟨#[45, 99]⟩) := by
 have h := zj (.of aks) (Nat.lt_of_le_of_lt ak0 (by decide))
 rw [show txt 16 (dm (-12)) (-12 : Int).natAbs = [45, 99] by kernel_rfl, ← fp] at h
 exact h
theorem qc : Sim Tryd.prog G0 true 6 [] (.bool true) := by
 have p1 := ps1
 have p2 := ps2
 have p3 := ps3
 have t1 := ts1
 have t2 := ts2
 have o1 := adv (-12) (by decide) (by decide)
 have e1 := rh aks aks
 rw [show decide ((-12 : Int) = -12) = true by decide] at e1
 refine cl ay Tryd.func6 ?_
 repeat' ((conv => whnf); first | refine aw.data ?_ | refine cE p1 ?_ | refine cE p2 ?_ | refine cE p3 ?_ | refine cE t1 ?_ | refine cE t2 ?_ | refine cE o1 ?_ | refine cE e1 ?_ | refine rgE ?_ | refine Cd.mk rfl ?_ | refine Br.t ?_ | refine Br.f ?_ | with_reducible refine Br.eqd ?_ | with_reducible refine Br.eqb ?_ | with_reducible refine Br.dec (fun _ => ?_) (fun _ => ?_) | with_reducible refine Br.br (fun _ => ?_) (fun _ => ?_) | refine Br.mk (fun _ => ?_) (fun _ => ?_) | refine ao.mk _ rfl ?_ | refine And.intro (fun _ => ?_) ?_ | (refine TkE.fL ?_; (conv => whnf); fail_if_success (show ag _ _)) | refine TkE.mk _ rfl rfl ?_ | refine Res.mk ?_ | refine a8.mk (by repeat first | exact True.intro | refine And.intro (by kernel_rfl) ?_) ?_ | refine DsE.mk [] rfl ?_ | refine ai.cu _ _ ?_ | ((with_reducible refine EqE.idT ?_); first | ((conv => arg 1; simp only [ak, List.toList_toArray, an, ae, aa, Int.toNat_natCast, Int.toNat_zero, Int.toNat_one, b4, b5, List.drop_zero, Nat.sub_zero, List.cons_append, List.nil_append]); refine EqE.mk _ rfl ?_) | refine EqE.mk _ rfl ?_) | ((with_reducible refine EqE.idP ?_); first | ((conv => arg 1; simp only [ak, List.toList_toArray, bz, b3]); refine EqE.mk _ rfl ?_) | refine EqE.mk _ rfl ?_) | ((with_reducible refine EqE.idN ?_); first | ((conv => arg 1; simp only [ak, List.toList_toArray, aa, bb, Int.toNat_natCast, Int.toNat_zero, Int.toNat_one, List.length_cons, List.length_nil, Nat.zero_add]); refine EqE.mk _ rfl ?_)) | ((with_reducible refine EqE.idW ?_); first | with_reducible refine EqE.mk _ (a7 _ (by omega)) ?_ | with_reducible refine EqE.mk _ (ar _ (by omega)) ?_ | refine EqE.mk _ (ah (by omega) (by omega)) ?_ | refine EqE.mk _ rfl ?_) | ((with_reducible refine EqE.idM ?_); refine EqE.mk _ rfl ?_) | ((with_reducible refine EqE.idI ?_); first | refine EqE.mk _ (max_eq _ _) ?_ | refine EqE.mk _ (min_eq _ _) ?_) | ((with_reducible refine EqE.idS ?_); first | (refine EqE.fP ?_; (conv => whnf); fail_if_success (show ag _ _)) | refine EqE.mk _ rfl ?_) | ((with_reducible refine EqE.idL ?_); first | refine EqE.mk _ (ax _ _ _ _ (by omega) (by omega) rfl) ?_ | refine EqE.mk _ rfl ?_) | refine EqE.mk _ rfl ?_ | refine Cd.ro ?_ | refine Cd.dc ?_ | refine Cd.ob ?_ | refine Cd.ol ?_ | refine Cd.mk ⟨rfl, rfl⟩ ?_ | refine Cd.os ?_ | refine Cd.mk ?_ ?_ | refine DsE.mk [_] rfl ?_ | refine DsE.mk [_, _, _] rfl ?_)
 all_goals rfl
end Go.Ev.Ar

-- STR
namespace Go.Ev.Ar
open Go Go.Ev Go.Proofs Go.RowKit
theorem akr (n : Int) : zs (dm n) n.natAbs = n := by
 unfold zs dm
 split <;> rename_i h <;> simp at h <;> omega
theorem ae7 {b : Nat} (hb : 2 ≤ b) {neg : Bool} {n k : Nat} (h : n < b ^ k) : (txt b neg n).length ≤ k + 2 := by
 unfold txt
 split
 ·simp
 ·have := jr hb k n h
  cases neg <;> simp [sgn] <;> omega
theorem aew : (2 : Nat) ^ 512 < 10 ^ 200 := by decide +kernel
set_option exponentiation.threshold 1000 in
set_option maxHeartbeats 4000000 in
theorem ve (b : Bool) (l : List UInt32) (c : Int) (hl : l.length ≤ 9223372036854775807) (hc : 0 ≤ c ∧ c ≤ 255) : Sim Tryd.prog G0 true 3 [.agg [.bool b, sl l], .int .u8 c] (.bool true) := by
 have k1 := qc
 by_cases c1 : 16 < l.length
 ·refine cl ay Tryd.func3 ?_
  repeat' ((conv => whnf); first | refine aw.data ?_ | refine cE k1 ?_ | with_reducible refine Br.bt fun _ => ?_ | with_reducible refine Br.bf fun _ => ?_ | refine rgE ?_ | refine Cd.mk rfl ?_ | refine Br.t ?_ | refine Br.f ?_ | with_reducible refine Br.eqd ?_ | with_reducible refine Br.eqb ?_ | with_reducible refine Br.dec (fun _ => ?_) (fun _ => ?_) | with_reducible refine Br.br (fun _ => ?_) (fun _ => ?_) | refine Br.mk (fun _ => ?_) (fun _ => ?_) | refine ao.mk _ rfl ?_ | refine And.intro (fun _ => ?_) ?_ | (refine TkE.fL ?_; (conv => whnf); fail_if_success (show ag _ _)) | refine TkE.mk _ rfl rfl ?_ | refine Res.mk ?_ | refine a8.mk (by repeat first | exact True.intro | refine And.intro (by kernel_rfl) ?_) ?_ | refine DsE.mk [] rfl ?_ | refine ai.cu _ _ ?_ | ((with_reducible refine EqE.idT ?_); first | ((conv => arg 1; simp only [ak, List.toList_toArray, an, ae, aa, Int.toNat_natCast, Int.toNat_zero, Int.toNat_one, b4, b5, List.drop_zero, Nat.sub_zero, List.cons_append, List.nil_append]); refine EqE.mk _ rfl ?_) | refine EqE.mk _ rfl ?_) | ((with_reducible refine EqE.idP ?_); first | ((conv => arg 1; simp only [ak, List.toList_toArray, bz, b3]); refine EqE.mk _ rfl ?_) | refine EqE.mk _ rfl ?_) | ((with_reducible refine EqE.idN ?_); first | ((conv => arg 1; simp only [ak, List.toList_toArray, aa, bb, Int.toNat_natCast, Int.toNat_zero, Int.toNat_one, List.length_cons, List.length_nil, Nat.zero_add]); refine EqE.mk _ rfl ?_)) | ((with_reducible refine EqE.idW ?_); first | with_reducible refine EqE.mk _ (a7 _ (by omega)) ?_ | with_reducible refine EqE.mk _ (ar _ (by omega)) ?_ | refine EqE.mk _ (ah (by omega) (by omega)) ?_ | refine EqE.mk _ rfl ?_) | ((with_reducible refine EqE.idM ?_); refine EqE.mk _ rfl ?_) | ((with_reducible refine EqE.idI ?_); first | refine EqE.mk _ (max_eq _ _) ?_ | refine EqE.mk _ (min_eq _ _) ?_) | ((with_reducible refine EqE.idS ?_); first | (refine EqE.fP ?_; (conv => whnf); fail_if_success (show ag _ _)) | refine EqE.mk _ rfl ?_) | ((with_reducible refine EqE.idL ?_); first | refine EqE.mk _ (ax _ _ _ _ (by omega) (by omega) rfl) ?_ | refine EqE.mk _ rfl ?_) | refine EqE.mk _ rfl ?_ | refine Cd.ro ?_ | refine Cd.dc ?_ | refine Cd.ob ?_ | refine Cd.ol ?_ | refine Cd.mk ⟨rfl, rfl⟩ ?_ | refine Cd.os ?_ | refine Cd.mk ?_ ?_ | refine DsE.mk [_] rfl ?_ | refine DsE.mk [_, _, _] rfl ?_)
  all_goals rfl
 obtain ⟨x, rfl⟩ : ∃ x : UInt8, c = ((x.toNat : Nat) : Int) := ⟨UInt8.ofNat c.toNat, by simp; omega⟩
 have hz : ZR (.agg [.bool b, sl l]) (zv b l) := .mk b l (by omega)
 have hzt : Zt 512 (zv b l) := Zt.adk (k := 16) (by omega) (by decide)
 have hzl : (ofN (zv b l).natAbs).length ≤ 16 := Zt.len (h := 512) (by decide) hzt
 have s1 := l9 hz (by omega)
 have s2 := pb hz
 obtain ⟨v, hv⟩ : ∃ v, zv b l = v := ⟨_, rfl⟩
 rw [hv] at s1 s2 hzt
 have hlt : v.natAbs < 10 ^ 200 := Nat.lt_trans (by unfold Zt at hzt; exact hzt) aew
 have hle : v.natAbs < 10 ^ 399 := Nat.lt_of_lt_of_le hlt (Nat.pow_le_pow_right (by decide) (by decide))
 have p1 := akb (neg := dm v) (n := v.natAbs) (Nat.lt_of_lt_of_le hlt (Nat.pow_le_pow_right (by decide) (by decide)))
 have p2 := ah5 (neg := dm v) (n := v.natAbs) hle x
 have p3 := aiq (neg := dm v) (n := v.natAbs) (c := x)
 have p4 := ae7 (b := 10) (by omega) (neg := dm v) hlt
 rw [akr] at p1
 obtain ⟨t, ht⟩ : ∃ t, txt 10 (dm v) v.natAbs = t := ⟨_, rfl⟩
 rw [ht] at s1 p1 p2 p3 p4
 have s3 := j6 t (by omega)
 have s4 := j6 (t ++ [x]) (by rw [List.length_append, List.length_singleton]; omega)
 rw [p1] at s3
 have s5 := rh (hzt.mono (by decide)) (hzt.mono (by decide))
 rw [decide_eq_true rfl] at s5
 have happ : bst t ++ ⟨[x].toArray⟩ = bst (t ++ [x]) := by rw [← an, fp]
 unfold pD at s3 s4
 simp only at s3
 by_cases c2 : v.natAbs ≠ 0 ∧ jf x = true
 ·rw [if_pos c2] at p2
  obtain ⟨w, hw⟩ : ∃ w, zs (dm v) (v.natAbs * 10 + (x.toNat - 48)) = w := ⟨_, rfl⟩
  rw [p2, hw] at s4
  simp only at s4
  have hwn : w.natAbs = v.natAbs * 10 + (x.toNat - 48) := by
   rw [← hw]; unfold zs; split <;> omega
  have hwz : dm w = dm v := by
   unfold zs at hw
   have h0 := c2.1
   unfold dm at hw ⊢
   by_cases h : v < 0
   ·rw [if_pos (by simpa using h)] at hw; simp only [h, decide_true]; simp <;> omega
   ·rw [if_neg (by simpa using h)] at hw; simp only [h, decide_false]; simp <;> omega
  have hx : jf x = true := c2.2
  simp only [jf, Bool.and_eq_true, decide_eq_true_eq] at hx
  have hwt : w.natAbs < 10 ^ 202 := by
   have h10 : 10 ^ 202 = 10 ^ 200 * 100 := by rw [show 202 = 200 + 2 by rfl, Nat.pow_add]
   have : x.toNat < 256 := x.toNat_lt
   rw [hwn, h10]; omega
  have hwz2 : Zt 808 w := by
   unfold Zt
   refine Nat.lt_of_lt_of_le hwt ?_
   rw [show 808 = 4 * 202 by rfl, Nat.pow_mul]
   exact Nat.pow_le_pow_left (by decide) _
  have s6 := l9 (.of (n := w) (hwz2.mono (by decide))) (Nat.lt_of_le_of_lt (Zt.len (k := 26) (by decide) hwz2) (by decide))
  rw [hwz, hwn, p3 c2.1 c2.2] at s6
  refine cl ay Tryd.func3 ?_
  repeat' ((conv => whnf); first | refine aw.data ?_ | refine cE k1 ?_ | with_reducible refine Br.bt fun _ => ?_ | with_reducible refine Br.bf fun _ => ?_ | refine cE s1 ?_ | refine cE s2 ?_ | refine cE s3 ?_ | refine cE s4 ?_ | refine cE s5 ?_ | refine cE s6 ?_ | refine BtE.mk [x] rfl ?_ | refine rgE ?_ | refine Cd.mk rfl ?_ | refine Br.t ?_ | refine Br.f ?_ | with_reducible refine Br.eqd ?_ | with_reducible refine Br.eqb ?_ | with_reducible refine Br.dec (fun _ => ?_) (fun _ => ?_) | with_reducible refine Br.br (fun _ => ?_) (fun _ => ?_) | refine Br.mk (fun _ => ?_) (fun _ => ?_) | refine ao.mk _ rfl ?_ | refine And.intro (fun _ => ?_) ?_ | (refine TkE.fL ?_; (conv => whnf); fail_if_success (show ag _ _)) | refine TkE.mk _ rfl rfl ?_ | refine Res.mk ?_ | refine a8.mk (by repeat first | exact True.intro | refine And.intro (by kernel_rfl) ?_) ?_ | refine DsE.mk [] rfl ?_ | refine ai.cu _ _ ?_ | ((with_reducible refine EqE.idT ?_); first | refine EqE.mk _ happ ?_ | ((conv => arg 1; simp only [ak, List.toList_toArray, an, ae, aa, Int.toNat_natCast, Int.toNat_zero, Int.toNat_one, b4, b5, List.drop_zero, Nat.sub_zero, List.cons_append, List.nil_append]); refine EqE.mk _ rfl ?_) | refine EqE.mk _ rfl ?_) | ((with_reducible refine EqE.idP ?_); first | ((conv => arg 1; simp only [ak, List.toList_toArray, bz, b3]); refine EqE.mk _ rfl ?_) | refine EqE.mk _ rfl ?_) | ((with_reducible refine EqE.idN ?_); first | ((conv => arg 1; simp only [ak, List.toList_toArray, aa, bb, Int.toNat_natCast, Int.toNat_zero, Int.toNat_one, List.length_cons, List.length_nil, Nat.zero_add]); refine EqE.mk _ rfl ?_)) | ((with_reducible refine EqE.idW ?_); first | with_reducible refine EqE.mk _ (a7 _ (by omega)) ?_ | with_reducible refine EqE.mk _ (ar _ (by omega)) ?_ | refine EqE.mk _ (ah (by omega) (by omega)) ?_ | refine EqE.mk _ rfl ?_) | ((with_reducible refine EqE.idM ?_); refine EqE.mk _ rfl ?_) | ((with_reducible refine EqE.idI ?_); first | refine EqE.mk _ (max_eq _ _) ?_ | refine EqE.mk _ (min_eq _ _) ?_) | ((with_reducible refine EqE.idS ?_); first | (refine EqE.fP ?_; (conv => whnf); fail_if_success (show ag _ _)) | refine EqE.mk _ rfl ?_) | ((with_reducible refine EqE.idL ?_); first | refine EqE.mk _ (ax _ _ _ _ (by omega) (by omega) rfl) ?_ | refine EqE.mk _ rfl ?_) | refine EqE.mk _ rfl ?_ | refine Cd.ro ?_ | refine Cd.dc ?_ | refine Cd.ob ?_ | refine Cd.ol ?_ | refine Cd.mk ⟨rfl, rfl⟩ ?_ | refine Cd.os ?_ | refine Cd.mk ?_ ?_ | refine DsE.mk [_] rfl ?_ | refine DsE.mk [_, _, _] rfl ?_)
  all_goals first | (exfalso; omega) | rfl | (simp only [Int.sign_zero, decide_true, eq_self_iff_true]; rfl)
 ·rw [if_neg c2] at p2
  rw [p2] at s4
  simp only at s4
  have s6 := af1 (.of (n := 0) (Zt.small (by decide) (by decide)))
  refine cl ay Tryd.func3 ?_
  repeat' ((conv => whnf); first | refine aw.data ?_ | refine cE k1 ?_ | with_reducible refine Br.bt fun _ => ?_ | with_reducible refine Br.bf fun _ => ?_ | refine cE s1 ?_ | refine cE s2 ?_ | refine cE s3 ?_ | refine cE s4 ?_ | refine cE s5 ?_ | refine cE s6 ?_ | refine BtE.mk [x] rfl ?_ | refine rgE ?_ | refine Cd.mk rfl ?_ | refine Br.t ?_ | refine Br.f ?_ | with_reducible refine Br.eqd ?_ | with_reducible refine Br.eqb ?_ | with_reducible refine Br.dec (fun _ => ?_) (fun _ => ?_) | with_reducible refine Br.br (fun _ => ?_) (fun _ => ?_) | refine Br.mk (fun _ => ?_) (fun _ => ?_) | refine ao.mk _ rfl ?_ | refine And.intro (fun _ => ?_) ?_ | (refine TkE.fL ?_; (conv => whnf); fail_if_success (show ag _ _)) | refine TkE.mk _ rfl rfl ?_ | refine Res.mk ?_ | refine a8.mk (by repeat first | exact True.intro | refine And.intro (by kernel_rfl) ?_) ?_ | refine DsE.mk [] rfl ?_ | refine ai.cu _ _ ?_ | ((with_reducible refine EqE.idT ?_); first | refine EqE.mk _ happ ?_ | ((conv => arg 1; simp only [ak, List.toList_toArray, an, ae, aa, Int.toNat_natCast, Int.toNat_zero, Int.toNat_one, b4, b5, List.drop_zero, Nat.sub_zero, List.cons_append, List.nil_append]); refine EqE.mk _ rfl ?_) | refine EqE.mk _ rfl ?_) | ((with_reducible refine EqE.idP ?_); first | ((conv => arg 1; simp only [ak, List.toList_toArray, bz, b3]); refine EqE.mk _ rfl ?_) | refine EqE.mk _ rfl ?_) | ((with_reducible refine EqE.idN ?_); first | ((conv => arg 1; simp only [ak, List.toList_toArray, aa, bb, Int.toNat_natCast, Int.toNat_zero, Int.toNat_one, List.length_cons, List.length_nil, Nat.zero_add]); refine EqE.mk _ rfl ?_)) | ((with_reducible refine EqE.idW ?_); first | with_reducible refine EqE.mk _ (a7 _ (by omega)) ?_ | with_reducible refine EqE.mk _ (ar _ (by omega)) ?_ | refine EqE.mk _ (ah (by omega) (by omega)) ?_ | refine EqE.mk _ rfl ?_) | ((with_reducible refine EqE.idM ?_); refine EqE.mk _ rfl ?_) | ((with_reducible refine EqE.idI ?_); first | refine EqE.mk _ (max_eq _ _) ?_ | refine EqE.mk _ (min_eq _ _) ?_) | ((with_reducible refine EqE.idS ?_); first | (refine EqE.fP ?_; (conv => whnf); fail_if_success (show ag _ _)) | refine EqE.mk _ rfl ?_) | ((with_reducible refine EqE.idL ?_); first | refine EqE.mk _ (ax _ _ _ _ (by omega) (by omega) rfl) ?_ | refine EqE.mk _ rfl ?_) | refine EqE.mk _ rfl ?_ | refine Cd.ro ?_ | refine Cd.dc ?_ | refine Cd.ob ?_ | refine Cd.ol ?_ | refine Cd.mk ⟨rfl, rfl⟩ ?_ | refine Cd.os ?_ | refine Cd.mk ?_ ?_ | refine DsE.mk [_] rfl ?_ | refine DsE.mk [_, _, _] rfl ?_)
  all_goals first | (exfalso; omega) | rfl | (simp only [Int.sign_zero, decide_true, eq_self_iff_true]; rfl)
end Go.Ev.Ar

-- STR
namespace Go.Ev.Ar
open Go Go.Ev Go.Proofs Go.RowKit
def fd (c i : Nat) : Nat := (c + i) % 256 % 10
def fl (c m i : Nat) : List UInt8 := (List.range i).map (fun j => ch (fd c j)) ++ List.replicate (m - i) 0
theorem vl {c m i : Nat} (h : i ≤ m) : (fl c m i).length = m := by simp [fl]; omega
theorem alo {c m i : Nat} (h : i < m) : (fl c m i).set i (ch (fd c i)) = fl c m (i + 1) := by
 unfold fl
 rw [List.set_append_right _ _ (by simp), List.length_map, List.length_range, Nat.sub_self, show m - i = (m - (i + 1)) + 1 by omega, List.replicate_succ, List.set_cons_zero, List.range_succ, List.map_append, List.map_singleton, List.append_assoc]
 rfl
theorem alm (c m : Nat) : fl c (m + 1) (m + 1) = ch (fd c 0) :: (List.range m).map (fun j => ch (fd c (j + 1))) := by
 unfold fl
 rw [Nat.sub_self, List.replicate_zero, List.append_nil, List.range_succ_eq_map, List.map_cons, List.map_map]
 rfl
theorem ajf (c m : Nat) : fl c m 0 = List.replicate m 0 := by simp [fl]
theorem ag7 (c i : Nat) : fd c i < 10 := Nat.mod_lt _ (by omega)
theorem aln (c n : Nat) : ij (n : Int).toNat (k9 [.int .u8]) = lb (fl c n 0) := by
 rw [Int.toNat_natCast, ajf]
 unfold ij lb
 rw [List.map_replicate]
 induction n with
 | zero => rfl
 | succ n ih => rw [List.replicate_succ, List.replicate_succ, List.flatten_cons, ih]; rfl
set_option exponentiation.threshold 2000 in
set_option maxHeartbeats 4000000 in
theorem vf (n c : Int) (neg : Bool) (hn : 0 ≤ n ∧ n ≤ 255) (hc : 0 ≤ c ∧ c ≤ 255) : Sim Tryd.prog G0 true 4 [.int .u8 n, .int .u8 c, .bool neg] (.bool true) := by
 have k1 := qc
 obtain ⟨c, rfl⟩ : ∃ x : Nat, c = (x : Int) := ⟨c.toNat, by omega⟩
 have htm : n.tmod 3 = n % 3 := Int.tmod_eq_emod_of_nonneg hn.1
 obtain ⟨k, hk⟩ : ∃ k : Nat, n.tmod 3 = (k : Int) := ⟨(n % 3).toNat, by rw [htm]; omega⟩
 have hk3 : k < 3 := by rw [htm] at hk; omega
 have hw1 : IntKind.i64.wrap (n.tmod 3) = (k : Int) := by rw [hk, ah (by omega) (by omega)]
 have hw2 : IntKind.i64.wrap (400 + (k : Int)) = ((400 + k : Nat) : Int) := by rw [ah (by omega) (by omega)]; omega
 obtain ⟨m, hm⟩ : ∃ m : Nat, 399 + k = m + 1 := ⟨398 + k, by omega⟩
 have hw3 : IntKind.i64.wrap (((400 + k : Nat) : Int) - 1) = ((m + 1 : Nat) : Int) := by rw [ah (by omega) (by omega)]; omega
 have hc256 : c < 256 := by omega
 have hu1 : ∀ i : Nat, IntKind.u8.wrap ((c : Int) + ((i % 256 : Nat) : Int)) = (((c + i) % 256 : Nat) : Int) := fun i => by
  rw [show (c : Int) + ((i % 256 : Nat) : Int) = ((c + i % 256 : Nat) : Int) by omega, gu]; omega
 have hu2 : ∀ i : Nat, ((((c + i) % 256 : Nat) : Int)).tmod 10 = ((fd c i : Nat) : Int) := fun i => by
  rw [Int.tmod_eq_emod_of_nonneg (by omega)]; unfold fd; omega
 have hu3 : ∀ i : Nat, IntKind.u8.wrap (48 + ((fd c i : Nat) : Int)) = ((48 + fd c i : Nat) : Int) := fun i => by
  have := ag7 c i
  rw [show 48 + ((fd c i : Nat) : Int) = ((48 + fd c i : Nat) : Int) by omega, gu, Nat.mod_eq_of_lt (by omega)]
 have hv1 : ((c : Int)).tmod 9 = ((c % 9 : Nat) : Int) := by rw [Int.tmod_eq_emod_of_nonneg (by omega)]; omega
 have hv2 : IntKind.u8.wrap (49 + ((c % 9 : Nat) : Int)) = ((48 + (1 + c % 9) : Nat) : Int) := by
  rw [show 49 + ((c % 9 : Nat) : Int) = ((48 + (1 + c % 9) : Nat) : Int) by omega, gu, Nat.mod_eq_of_lt (by omega)]
 refine cl ay Tryd.func4 ?_
 repeat' ((conv => whnf); first | refine aw.data ?_ | refine cE k1 ?_ | with_reducible refine Br.bt fun _ => ?_ | with_reducible refine Br.bf fun _ => ?_ | ((with_reducible show EqE (ij _ _) _); refine EqE.mk _ (aln c (m + 1)) ?_) | refine rgE ?_ | refine Cd.mk rfl ?_ | refine Br.t ?_ | refine Br.f ?_ | with_reducible refine Br.eqd ?_ | with_reducible refine Br.eqb ?_ | with_reducible refine Br.dec (fun _ => ?_) (fun _ => ?_) | with_reducible refine Br.br (fun _ => ?_) (fun _ => ?_) | refine Br.mk (fun _ => ?_) (fun _ => ?_) | refine ao.mk _ rfl ?_ | refine And.intro (fun _ => ?_) ?_ | (refine TkE.fL ?_; (conv => whnf); fail_if_success (show ag _ _)) | refine TkE.mk _ rfl rfl ?_ | refine Res.mk ?_ | refine a8.mk (by repeat first | exact True.intro | refine And.intro (by kernel_rfl) ?_) ?_ | refine DsE.mk [] rfl ?_ | refine ai.cu _ _ ?_ | ((with_reducible refine EqE.idT ?_); first | ((conv => arg 1; simp only [ak, List.toList_toArray, an, ae, aa, Int.toNat_natCast, Int.toNat_zero, Int.toNat_one, b4, b5, List.drop_zero, Nat.sub_zero, List.cons_append, List.nil_append]); refine EqE.mk _ rfl ?_) | refine EqE.mk _ rfl ?_) | ((with_reducible refine EqE.idP ?_); first | ((conv => arg 1; simp only [ak, List.toList_toArray, bz, b3]); refine EqE.mk _ rfl ?_) | refine EqE.mk _ rfl ?_) | ((with_reducible refine EqE.idN ?_); first | ((conv => arg 1; simp only [ak, List.toList_toArray, aa, bb, Int.toNat_natCast, Int.toNat_zero, Int.toNat_one, List.length_cons, List.length_nil, Nat.zero_add]); refine EqE.mk _ rfl ?_)) | ((with_reducible refine EqE.idW ?_); first | refine EqE.mk _ hw1 ?_ | refine EqE.mk _ hw2 ?_ | refine EqE.mk _ hw3 ?_ | with_reducible refine EqE.mk _ (a7 _ (by omega)) ?_ | with_reducible refine EqE.mk _ (ar _ (by omega)) ?_ | refine EqE.mk _ (ah (by omega) (by omega)) ?_ | refine EqE.mk _ rfl ?_) | ((with_reducible refine EqE.idM ?_); refine EqE.mk _ rfl ?_) | ((with_reducible refine EqE.idI ?_); first | refine EqE.mk _ (max_eq _ _) ?_ | refine EqE.mk _ (min_eq _ _) ?_) | ((with_reducible refine EqE.idS ?_); first | (refine EqE.fP ?_; (conv => whnf); fail_if_success (show ag _ _)) | refine EqE.mk _ rfl ?_) | ((with_reducible refine EqE.idL ?_); first | refine EqE.mk _ (ax _ _ _ _ (by omega) (by omega) rfl) ?_ | refine EqE.mk _ rfl ?_) | refine EqE.mk _ rfl ?_ | refine Cd.ro ?_ | refine Cd.dc ?_ | refine Cd.ob ?_ | refine Cd.ol ?_ | refine Cd.mk ⟨rfl, rfl⟩ ?_ | refine Cd.os ?_ | refine Cd.mk ?_ ?_ | refine DsE.mk [_] rfl ?_ | refine DsE.mk [_, _, _] rfl ?_)
 refine ⟨[], [1, 2, 6, 7, 8], [21], fun j xs h => ∃ i : Nat, j = m + 1 - i ∧ i ≤ m + 1 ∧ xs = [.d (.int .u8 (c : Nat)), .d (.bool neg), .d (.bool false), .own 21 0 (m + 1) 1, .d (.int .i64 (i : Nat))] ∧ h = [(21, false, lb (fl c (m + 1) i))], ⟨_, _, _, ⟨.inl rfl, rfl, rfl, ac5 _ _ _ _⟩, 0, rfl, Nat.zero_le _, rfl, rfl⟩, ?_⟩
 rintro j xs h ⟨i, rfl, hi, rfl, rfl⟩
 have hL : (lb (fl c (m + 1) i)).length = m + 1 := by rw [lb, List.length_map, vl hi]
 by_cases c1 : i < m + 1
 ·have hsu1 := hu1 i
  have hsu2 := hu2 i
  have hsu3 := hu3 i
  have hch : ((48 + fd c i : Nat) : Int) = (((ch (fd c i)).toNat : Nat) : Int) := by rw [acg (ag7 c i)]
  repeat' ((conv => whnf); first | refine aw.data ?_ | with_reducible refine Br.bt fun _ => ?_ | with_reducible refine Br.bf fun _ => ?_ | refine ai.cu _ _ ?_ (cut := ⟨.inl rfl, rfl, rfl, ac5 _ _ _ _⟩) | refine rgE ?_ | refine Cd.mk rfl ?_ | refine Br.t ?_ | refine Br.f ?_ | with_reducible refine Br.eqd ?_ | with_reducible refine Br.eqb ?_ | with_reducible refine Br.dec (fun _ => ?_) (fun _ => ?_) | with_reducible refine Br.br (fun _ => ?_) (fun _ => ?_) | refine Br.mk (fun _ => ?_) (fun _ => ?_) | refine ao.mk _ rfl ?_ | refine And.intro (fun _ => ?_) ?_ | (refine TkE.fL ?_; (conv => whnf); fail_if_success (show ag _ _)) | refine TkE.mk _ rfl rfl ?_ | refine Res.mk ?_ | refine a8.mk (by repeat first | exact True.intro | refine And.intro (by kernel_rfl) ?_) ?_ | refine DsE.mk [] rfl ?_ | refine ai.cu _ _ ?_ | ((with_reducible refine EqE.idT ?_); first | ((conv => arg 1; simp only [ak, List.toList_toArray, an, ae, aa, Int.toNat_natCast, Int.toNat_zero, Int.toNat_one, b4, b5, List.drop_zero, Nat.sub_zero, List.cons_append, List.nil_append]); refine EqE.mk _ rfl ?_) | refine EqE.mk _ rfl ?_) | ((with_reducible refine EqE.idP ?_); first | ((conv => arg 1; simp only [ak, List.toList_toArray, bz, b3]); refine EqE.mk _ rfl ?_) | refine EqE.mk _ rfl ?_) | ((with_reducible refine EqE.idN ?_); first | ((conv => arg 1; simp only [ak, List.toList_toArray, aa, bb, Int.toNat_natCast, Int.toNat_zero, Int.toNat_one, List.length_cons, List.length_nil, Nat.zero_add]); refine EqE.mk _ rfl ?_)) | ((with_reducible refine EqE.idW ?_); first | refine EqE.mk _ (gu i) ?_ | refine EqE.mk _ hsu1 ?_ | refine EqE.mk _ hsu3 ?_ | with_reducible refine EqE.mk _ (a7 _ (by omega)) ?_ | with_reducible refine EqE.mk _ (ar _ (by omega)) ?_ | refine EqE.mk _ (ah (by omega) (by omega)) ?_ | refine EqE.mk _ rfl ?_) | ((with_reducible refine EqE.idM ?_); first | refine EqE.mk _ hsu2 ?_ | refine EqE.mk _ rfl ?_) | ((with_reducible refine EqE.idI ?_); first | refine EqE.mk _ (max_eq _ _) ?_ | refine EqE.mk _ (min_eq _ _) ?_) | ((with_reducible refine EqE.idS ?_); first | refine EqE.mk _ (qd (i := i) (x := ch (fd c i)) alx hch) ?_ | (refine EqE.fP ?_; (conv => whnf); fail_if_success (show ag _ _)) | refine EqE.mk _ rfl ?_) | ((with_reducible refine EqE.idL ?_); first | refine EqE.mk _ (ax _ _ _ _ (by omega) (by omega) rfl) ?_ | refine EqE.mk _ rfl ?_) | refine EqE.mk _ rfl ?_ | refine Cd.ro ?_ | refine Cd.dc ?_ | refine Cd.ob ?_ | refine Cd.ol ?_ | refine Cd.mk ⟨rfl, rfl⟩ ?_ | refine Cd.os ?_ | refine Cd.mk ?_ ?_ | refine DsE.mk [_] rfl ?_ | refine DsE.mk [_, _, _] rfl ?_)
  exact ⟨_, ⟨i + 1, rfl, by omega, rfl, by rw [alo c1]; rfl⟩, by omega⟩
 ·obtain rfl : i = m + 1 := by omega
  have hch : ((48 + (1 + c % 9) : Nat) : Int) = (((ch (1 + c % 9)).toNat : Nat) : Int) := by rw [acg (by omega)]
  have he : ((fl c (m + 1) (m + 1)).set 0 (ch (1 + c % 9))) = ((1 + c % 9) :: (List.range m).map (fun j => fd c (j + 1))).map ch := by
   rw [alm, List.set_cons_zero, List.map_cons, List.map_map]; rfl
  obtain ⟨ds, hds⟩ : ∃ ds, (List.range m).map (fun j => fd c (j + 1)) = ds := ⟨_, rfl⟩
  have hdl : ds.length = m := by rw [← hds]; simp
  have hlt : ∀ d ∈ (1 + c % 9) :: ds, d < 10 := by
   intro d hd
   rcases List.mem_cons.1 hd with rfl | hd
   ·omega
   ·rw [← hds, List.mem_map] at hd
    obtain ⟨j, _, rfl⟩ := hd
    exact ag7 _ _
  rw [hds] at he
  have p1 := ah4 (neg := neg) hlt (by omega)
  have p2 := ama (b := 10) neg (by omega) hlt (by omega)
  have p3 := ag5 (b := 10) (by omega) hlt (by omega)
  have p4 := vi hlt
  rw [List.length_cons, hdl] at p4
  rw [hdl] at p1
  obtain ⟨l, hl⟩ : ∃ l, ((1 + c % 9) :: ds).map ch = l := ⟨_, rfl⟩
  have hll : l.length = m + 1 := by rw [← hl]; simp [hdl]
  obtain ⟨v, hv⟩ : ∃ v, dv 10 ((1 + c % 9) :: ds) = v := ⟨_, rfl⟩
  rw [hl] at he p1 p2
  rw [hv] at p1 p2 p3 p4
  have hbt : ((lbD l).drop 0).take (m + 1) = l.map fun x => D.int .u8 (x.toNat : Int) := by
   have := akz l [] (m + 1) hll
   rwa [List.append_nil] at this
  have happ : (⟨#[45]⟩ : ByteArray) ++ bst l = bst (45 :: l) := by rw [fp [45], an]; rfl
  have hlb : 1 = 1 ∧ 0 + (m + 1) ≤ (lb l).length := ⟨rfl, by rw [lb, List.length_map]; omega⟩
  have hzt : Zt 1608 (zs neg v) := by
   have e : (zs neg v).natAbs = v := by unfold zs; split <;> omega
   unfold Zt
   rw [e]
   refine Nat.lt_of_lt_of_le p4 (Nat.le_trans (Nat.pow_le_pow_left (m := 16) (by decide) _) ?_)
   rw [show 16 = 2 ^ 4 by rfl, ← Nat.pow_mul]
   exact Nat.pow_le_pow_right (by decide) (by omega)
  have hzn : dm (zs neg v) = neg := by
   have h0 := p3.1
   unfold zs dm
   cases neg <;> simp <;> omega
  have e : (zs neg v).natAbs = v := by unfold zs; split <;> omega
  have s2 := l9 (.of (n := zs neg v) (hzt.mono (by decide))) (Nat.lt_of_le_of_lt (Zt.len (k := 51) (by decide) hzt) (by decide))
  rw [hzn, e, p2] at s2
  have s1 := j6 (sgn neg ++ l) (by rw [List.length_append, hll]; cases neg <;> simp [sgn] <;> omega)
  rw [p1] at s1
  have b1 : (⟨l.toArray⟩ : ByteArray) = bst l := fp l
  by_cases c2 : 400 < m + 1
  ·rw [if_pos c2] at s1
   unfold pD at s1
   simp only at s1
   cases neg
   ·simp only [sgn, Bool.false_eq_true, if_false, List.nil_append, ← fp] at s1 s2
    repeat' ((conv => whnf); first | refine aw.data ?_ | with_reducible refine Br.bt fun _ => ?_ | with_reducible refine Br.bf fun _ => ?_ | refine Cd.mk hlb ?_ | refine DsE.mk _ (vu _) ?_ | refine BtE.mk l hbt ?_ | refine cE s1 ?_ | refine cE s2 ?_ | refine rgE ?_ | refine Cd.mk rfl ?_ | refine Br.t ?_ | refine Br.f ?_ | with_reducible refine Br.eqd ?_ | with_reducible refine Br.eqb ?_ | with_reducible refine Br.dec (fun _ => ?_) (fun _ => ?_) | with_reducible refine Br.br (fun _ => ?_) (fun _ => ?_) | refine Br.mk (fun _ => ?_) (fun _ => ?_) | refine ao.mk _ rfl ?_ | refine And.intro (fun _ => ?_) ?_ | (refine TkE.fL ?_; (conv => whnf); fail_if_success (show ag _ _)) | refine TkE.mk _ rfl rfl ?_ | refine Res.mk ?_ | refine a8.mk (by repeat first | exact True.intro | refine And.intro (by kernel_rfl) ?_) ?_ | refine DsE.mk [] rfl ?_ | refine ai.cu _ _ ?_ | ((with_reducible refine EqE.idT ?_); first | refine EqE.mk _ happ ?_ | ((conv => arg 1; simp only [ak, List.toList_toArray, an, ae, aa, Int.toNat_natCast, Int.toNat_zero, Int.toNat_one, b4, b5, List.drop_zero, Nat.sub_zero, List.cons_append, List.nil_append]); refine EqE.mk _ rfl ?_) | refine EqE.mk _ rfl ?_) | ((with_reducible refine EqE.idP ?_); first | ((conv => arg 1; simp only [ak, List.toList_toArray, bz, b3]); refine EqE.mk _ rfl ?_) | refine EqE.mk _ rfl ?_) | ((with_reducible refine EqE.idN ?_); first | ((conv => arg 1; simp only [ak, List.toList_toArray, aa, bb, Int.toNat_natCast, Int.toNat_zero, Int.toNat_one, List.length_cons, List.length_nil, Nat.zero_add]); refine EqE.mk _ rfl ?_)) | ((with_reducible refine EqE.idW ?_); first | refine EqE.mk _ hv2 ?_ | with_reducible refine EqE.mk _ (a7 _ (by omega)) ?_ | with_reducible refine EqE.mk _ (ar _ (by omega)) ?_ | refine EqE.mk _ (ah (by omega) (by omega)) ?_ | refine EqE.mk _ rfl ?_) | ((with_reducible refine EqE.idM ?_); first | refine EqE.mk _ hv1 ?_ | refine EqE.mk _ rfl ?_) | ((with_reducible refine EqE.idI ?_); first | refine EqE.mk _ (max_eq _ _) ?_ | refine EqE.mk _ (min_eq _ _) ?_) | ((with_reducible refine EqE.idS ?_); first | refine EqE.mk _ ((qd (i := 0) (x := ch (1 + c % 9)) rfl hch).trans (congrArg lb he)) ?_ | (refine EqE.fP ?_; (conv => whnf); fail_if_success (show ag _ _)) | refine EqE.mk _ rfl ?_) | ((with_reducible refine EqE.idL ?_); first | refine EqE.mk _ (ax _ _ _ _ (by omega) (by omega) rfl) ?_ | refine EqE.mk _ rfl ?_) | refine EqE.mk _ rfl ?_ | refine Cd.ro ?_ | refine Cd.dc ?_ | refine Cd.ob ?_ | refine Cd.ol ?_ | refine Cd.mk ⟨rfl, rfl⟩ ?_ | refine Cd.os ?_ | refine Cd.mk ?_ ?_ | refine DsE.mk [_] rfl ?_ | refine DsE.mk [_, _, _] rfl ?_)
    all_goals first | rfl | (exfalso; omega) | (rename_i h; exact absurd rfl h) | (simp only [decide_true]; rfl)
   ·simp only [sgn, if_true, List.singleton_append] at s1 s2
    repeat' ((conv => whnf); first | refine aw.data ?_ | with_reducible refine Br.bt fun _ => ?_ | with_reducible refine Br.bf fun _ => ?_ | refine Cd.mk hlb ?_ | refine DsE.mk _ (vu _) ?_ | refine BtE.mk l hbt ?_ | refine cE s1 ?_ | refine cE s2 ?_ | refine rgE ?_ | refine Cd.mk rfl ?_ | refine Br.t ?_ | refine Br.f ?_ | with_reducible refine Br.eqd ?_ | with_reducible refine Br.eqb ?_ | with_reducible refine Br.dec (fun _ => ?_) (fun _ => ?_) | with_reducible refine Br.br (fun _ => ?_) (fun _ => ?_) | refine Br.mk (fun _ => ?_) (fun _ => ?_) | refine ao.mk _ rfl ?_ | refine And.intro (fun _ => ?_) ?_ | (refine TkE.fL ?_; (conv => whnf); fail_if_success (show ag _ _)) | refine TkE.mk _ rfl rfl ?_ | refine Res.mk ?_ | refine a8.mk (by repeat first | exact True.intro | refine And.intro (by kernel_rfl) ?_) ?_ | refine DsE.mk [] rfl ?_ | refine ai.cu _ _ ?_ | ((with_reducible refine EqE.idT ?_); first | refine EqE.mk _ happ ?_ | ((conv => arg 1; simp only [ak, List.toList_toArray, an, ae, aa, Int.toNat_natCast, Int.toNat_zero, Int.toNat_one, b4, b5, List.drop_zero, Nat.sub_zero, List.cons_append, List.nil_append]); refine EqE.mk _ rfl ?_) | refine EqE.mk _ rfl ?_) | ((with_reducible refine EqE.idP ?_); first | ((conv => arg 1; simp only [ak, List.toList_toArray, bz, b3]); refine EqE.mk _ rfl ?_) | refine EqE.mk _ rfl ?_) | ((with_reducible refine EqE.idN ?_); first | ((conv => arg 1; simp only [ak, List.toList_toArray, aa, bb, Int.toNat_natCast, Int.toNat_zero, Int.toNat_one, List.length_cons, List.length_nil, Nat.zero_add]); refine EqE.mk _ rfl ?_)) | ((with_reducible refine EqE.idW ?_); first | refine EqE.mk _ hv2 ?_ | with_reducible refine EqE.mk _ (a7 _ (by omega)) ?_ | with_reducible refine EqE.mk _ (ar _ (by omega)) ?_ | refine EqE.mk _ (ah (by omega) (by omega)) ?_ | refine EqE.mk _ rfl ?_) | ((with_reducible refine EqE.idM ?_); first | refine EqE.mk _ hv1 ?_ | refine EqE.mk _ rfl ?_) | ((with_reducible refine EqE.idI ?_); first | refine EqE.mk _ (max_eq _ _) ?_ | refine EqE.mk _ (min_eq _ _) ?_) | ((with_reducible refine EqE.idS ?_); first | refine EqE.mk _ ((qd (i := 0) (x := ch (1 + c % 9)) rfl hch).trans (congrArg lb he)) ?_ | (refine EqE.fP ?_; (conv => whnf); fail_if_success (show ag _ _)) | refine EqE.mk _ rfl ?_) | ((with_reducible refine EqE.idL ?_); first | refine EqE.mk _ (ax _ _ _ _ (by omega) (by omega) rfl) ?_ | refine EqE.mk _ rfl ?_) | refine EqE.mk _ rfl ?_ | refine Cd.ro ?_ | refine Cd.dc ?_ | refine Cd.ob ?_ | refine Cd.ol ?_ | refine Cd.mk ⟨rfl, rfl⟩ ?_ | refine Cd.os ?_ | refine Cd.mk ?_ ?_ | refine DsE.mk [_] rfl ?_ | refine DsE.mk [_, _, _] rfl ?_)
    all_goals first | rfl | (exfalso; omega) | (rename_i h; exact absurd rfl h) | (simp only [decide_true]; rfl)
  ·rw [if_neg c2] at s1
   unfold pD at s1
   simp only at s1
   cases neg
   ·simp only [sgn, Bool.false_eq_true, if_false, List.nil_append, ← fp] at s1 s2
    repeat' ((conv => whnf); first | refine aw.data ?_ | with_reducible refine Br.bt fun _ => ?_ | with_reducible refine Br.bf fun _ => ?_ | refine Cd.mk hlb ?_ | refine DsE.mk _ (vu _) ?_ | refine BtE.mk l hbt ?_ | refine cE s1 ?_ | refine cE s2 ?_ | refine rgE ?_ | refine Cd.mk rfl ?_ | refine Br.t ?_ | refine Br.f ?_ | with_reducible refine Br.eqd ?_ | with_reducible refine Br.eqb ?_ | with_reducible refine Br.dec (fun _ => ?_) (fun _ => ?_) | with_reducible refine Br.br (fun _ => ?_) (fun _ => ?_) | refine Br.mk (fun _ => ?_) (fun _ => ?_) | refine ao.mk _ rfl ?_ | refine And.intro (fun _ => ?_) ?_ | (refine TkE.fL ?_; (conv => whnf); fail_if_success (show ag _ _)) | refine TkE.mk _ rfl rfl ?_ | refine Res.mk ?_ | refine a8.mk (by repeat first | exact True.intro | refine And.intro (by kernel_rfl) ?_) ?_ | refine DsE.mk [] rfl ?_ | refine ai.cu _ _ ?_ | ((with_reducible refine EqE.idT ?_); first | refine EqE.mk _ happ ?_ | ((conv => arg 1; simp only [ak, List.toList_toArray, an, ae, aa, Int.toNat_natCast, Int.toNat_zero, Int.toNat_one, b4, b5, List.drop_zero, Nat.sub_zero, List.cons_append, List.nil_append]); refine EqE.mk _ rfl ?_) | refine EqE.mk _ rfl ?_) | ((with_reducible refine EqE.idP ?_); first | ((conv => arg 1; simp only [ak, List.toList_toArray, bz, b3]); refine EqE.mk _ rfl ?_) | refine EqE.mk _ rfl ?_) | ((with_reducible refine EqE.idN ?_); first | ((conv => arg 1; simp only [ak, List.toList_toArray, aa, bb, Int.toNat_natCast, Int.toNat_zero, Int.toNat_one, List.length_cons, List.length_nil, Nat.zero_add]); refine EqE.mk _ rfl ?_)) | ((with_reducible refine EqE.idW ?_); first | refine EqE.mk _ hv2 ?_ | with_reducible refine EqE.mk _ (a7 _ (by omega)) ?_ | with_reducible refine EqE.mk _ (ar _ (by omega)) ?_ | refine EqE.mk _ (ah (by omega) (by omega)) ?_ | refine EqE.mk _ rfl ?_) | ((with_reducible refine EqE.idM ?_); first | refine EqE.mk _ hv1 ?_ | refine EqE.mk _ rfl ?_) | ((with_reducible refine EqE.idI ?_); first | refine EqE.mk _ (max_eq _ _) ?_ | refine EqE.mk _ (min_eq _ _) ?_) | ((with_reducible refine EqE.idS ?_); first | refine EqE.mk _ ((qd (i := 0) (x := ch (1 + c % 9)) rfl hch).trans (congrArg lb he)) ?_ | (refine EqE.fP ?_; (conv => whnf); fail_if_success (show ag _ _)) | refine EqE.mk _ rfl ?_) | ((with_reducible refine EqE.idL ?_); first | refine EqE.mk _ (ax _ _ _ _ (by omega) (by omega) rfl) ?_ | refine EqE.mk _ rfl ?_) | refine EqE.mk _ rfl ?_ | refine Cd.ro ?_ | refine Cd.dc ?_ | refine Cd.ob ?_ | refine Cd.ol ?_ | refine Cd.mk ⟨rfl, rfl⟩ ?_ | refine Cd.os ?_ | refine Cd.mk ?_ ?_ | refine DsE.mk [_] rfl ?_ | refine DsE.mk [_, _, _] rfl ?_)
    all_goals first | rfl | (exfalso; omega) | (rename_i h; exact absurd rfl h) | (simp only [decide_true]; rfl)
   ·simp only [sgn, if_true, List.singleton_append] at s1 s2
    repeat' ((conv => whnf); first | refine aw.data ?_ | with_reducible refine Br.bt fun _ => ?_ | with_reducible refine Br.bf fun _ => ?_ | refine Cd.mk hlb ?_ | refine DsE.mk _ (vu _) ?_ | refine BtE.mk l hbt ?_ | refine cE s1 ?_ | refine cE s2 ?_ | refine rgE ?_ | refine Cd.mk rfl ?_ | refine Br.t ?_ | refine Br.f ?_ | with_reducible refine Br.eqd ?_ | with_reducible refine Br.eqb ?_ | with_reducible refine Br.dec (fun _ => ?_) (fun _ => ?_) | with_reducible refine Br.br (fun _ => ?_) (fun _ => ?_) | refine Br.mk (fun _ => ?_) (fun _ => ?_) | refine ao.mk _ rfl ?_ | refine And.intro (fun _ => ?_) ?_ | (refine TkE.fL ?_; (conv => whnf); fail_if_success (show ag _ _)) | refine TkE.mk _ rfl rfl ?_ | refine Res.mk ?_ | refine a8.mk (by repeat first | exact True.intro | refine And.intro (by kernel_rfl) ?_) ?_ | refine DsE.mk [] rfl ?_ | refine ai.cu _ _ ?_ | ((with_reducible refine EqE.idT ?_); first | refine EqE.mk _ happ ?_ | ((conv => arg 1; simp only [ak, List.toList_toArray, an, ae, aa, Int.toNat_natCast, Int.toNat_zero, Int.toNat_one, b4, b5, List.drop_zero, Nat.sub_zero, List.cons_append, List.nil_append]); refine EqE.mk _ rfl ?_) | refine EqE.mk _ rfl ?_) | ((with_reducible refine EqE.idP ?_); first | ((conv => arg 1; simp only [ak, List.toList_toArray, bz, b3]); refine EqE.mk _ rfl ?_) | refine EqE.mk _ rfl ?_) | ((with_reducible refine EqE.idN ?_); first | ((conv => arg 1; simp only [ak, List.toList_toArray, aa, bb, Int.toNat_natCast, Int.toNat_zero, Int.toNat_one, List.length_cons, List.length_nil, Nat.zero_add]); refine EqE.mk _ rfl ?_)) | ((with_reducible refine EqE.idW ?_); first | refine EqE.mk _ hv2 ?_ | with_reducible refine EqE.mk _ (a7 _ (by omega)) ?_ | with_reducible refine EqE.mk _ (ar _ (by omega)) ?_ | refine EqE.mk _ (ah (by omega) (by omega)) ?_ | refine EqE.mk _ rfl ?_) | ((with_reducible refine EqE.idM ?_); first | refine EqE.mk _ hv1 ?_ | refine EqE.mk _ rfl ?_) | ((with_reducible refine EqE.idI ?_); first | refine EqE.mk _ (max_eq _ _) ?_ | refine EqE.mk _ (min_eq _ _) ?_) | ((with_reducible refine EqE.idS ?_); first | refine EqE.mk _ ((qd (i := 0) (x := ch (1 + c % 9)) rfl hch).trans (congrArg lb he)) ?_ | (refine EqE.fP ?_; (conv => whnf); fail_if_success (show ag _ _)) | refine EqE.mk _ rfl ?_) | ((with_reducible refine EqE.idL ?_); first | refine EqE.mk _ (ax _ _ _ _ (by omega) (by omega) rfl) ?_ | refine EqE.mk _ rfl ?_) | refine EqE.mk _ rfl ?_ | refine Cd.ro ?_ | refine Cd.dc ?_ | refine Cd.ob ?_ | refine Cd.ol ?_ | refine Cd.mk ⟨rfl, rfl⟩ ?_ | refine Cd.os ?_ | refine Cd.mk ?_ ?_ | refine DsE.mk [_] rfl ?_ | refine DsE.mk [_, _, _] rfl ?_)
    all_goals first | rfl | (exfalso; omega) | (rename_i h; exact absurd rfl h) | (simp only [decide_true]; rfl)
end Go.Ev.Ar
