/- Contracts of the given functions, on data. Conditions stand in each theorem. -/
import Derived.Shelf.Strings.Builder1
import Derived.Shelf.Strings.OnBuilder
import Derived.Shelf.Small.Strs
import Derived.Shelf.Strconv.Itoa0
import Derived.Shelf.Strconv.Itoa1
import Derived.Shelf.LaysM
import Derived.Shelf.Strconv.Itoa2
import Derived.Shelf.Strconv.Itoa3
import Derived.Shelf.LaysC
import Derived.Shelf.Strconv.AtoiAll
import Derived.Shelf.Strconv.ErrVarAll
import Derived.Ground.MpProg
import Derived.Shelf.Pu.ParseUintPublic10
import Derived.Shelf.Strings.Search1
import Derived.Shelf.Strings.Repeat
import Derived.Ground.SlgnProg
import Derived.Test.YtdpjainjjpjldaaGreatDoorProg
import Derived.Test.YtdpjainjjpjldaaGreatDoorGEvK
set_option linter.unusedSimpArgs false
set_option linter.unusedVariables false
-- STR
namespace Go.Ev.Ar
open Go Go.Ev Go.Proofs
theorem n48 {x : UInt8} : ((x.toNat : Nat) : Int) = 48 ↔ x = 48 := by
 constructor
 ·intro h; exact UInt8.toNat_inj.1 (by have : (48 : UInt8).toNat = 48 := rfl; omega)
 ·rintro rfl; rfl
theorem n45 {x : UInt8} : ((x.toNat : Nat) : Int) = 45 ↔ x = 45 := by
 constructor
 ·intro h; exact UInt8.toNat_inj.1 (by have : (45 : UInt8).toNat = 45 := rfl; omega)
 ·rintro rfl; rfl
theorem rr (l : List UInt8) (hl : l.length < 4611686018427387904) : Sim Tryz.prog G0 true 212 [.str (bst l), .int .u8 48] (.str (bst (l.dropWhile (· == 48)))) := by
  refine ck ax Tryz.func212 ?_
  repeat' ((conv => whnf); first | refine aw.data ?_ | refine rgE ?_ | refine Cd.mk rfl ?_ | refine Br.t ?_ | refine Br.f ?_ | with_reducible refine Br.dec (fun _ => ?_) (fun _ => ?_) | with_reducible refine Br.br (fun _ => ?_) (fun _ => ?_) | refine Br.mk (fun _ => ?_) (fun _ => ?_) | refine an.mk _ (az _ _ (by omega)) ?_ | refine an.mk _ (a1 _ _ (by omega)) ?_ | refine an.mk _ (cp _ _ _ (by first | with_reducible exact ae _ | with_reducible exact ab _ | exact ae _ | exact ab _ | rfl) (by first | omega | (simp only [List.length_set]; omega))) ?_ | refine an.mk _ rfl ?_ | refine And.intro (fun _ => ?_) ?_ | (refine TkE.fL ?_; (conv => whnf); fail_if_success (show ag _ _)) | refine TkE.mk _ rfl rfl ?_ | refine Res.mk ?_ | refine a7.mk (by repeat first | exact True.intro | refine And.intro (by kernel_rfl) ?_) ?_ | refine DsE.mk (a8 _) rfl ?_ | refine DsE.mk [] rfl ?_ | refine ai.cu _ _ ?_ | ((with_reducible refine EqE.idT ?_); first | ((conv => arg 1; simp only [ak, List.toList_toArray, ao, af, aa, Int.toNat_natCast, Int.toNat_zero, Int.toNat_one, b3, b4, List.drop_zero, Nat.sub_zero, List.cons_append, List.nil_append]); refine EqE.mk _ rfl ?_) | refine EqE.mk _ rfl ?_) | ((with_reducible refine EqE.idP ?_); first | ((conv => arg 1; simp only [ak, List.toList_toArray, bx, bz]); refine EqE.mk _ rfl ?_) | refine EqE.mk _ rfl ?_) | ((with_reducible refine EqE.idN ?_); first | ((conv => arg 1; simp only [ak, List.toList_toArray, aa, ba, Int.toNat_natCast, Int.toNat_zero, Int.toNat_one, List.length_cons, List.length_nil, Nat.zero_add]); refine EqE.mk _ rfl ?_)) | ((with_reducible refine EqE.idW ?_); first | with_reducible refine EqE.mk _ (ar _) ?_ | with_reducible refine EqE.mk _ (dy _ _ (by omega)) ?_ | with_reducible refine EqE.mk _ (b6 _ (by omega)) ?_ | with_reducible refine EqE.mk _ (eh _ _ (by omega) (by omega)) ?_ | with_reducible refine EqE.mk _ (eg _ _ (by omega)) ?_ | with_reducible refine EqE.mk _ (ei _ _ (by omega) (by omega)) ?_ | with_reducible refine EqE.mk _ (c8 _ (by omega)) ?_ | with_reducible refine EqE.mk _ (di _ (by omega)) ?_ | with_reducible refine EqE.mk _ (bd _ (by omega)) ?_ | with_reducible refine EqE.mk _ (ek _ _ (by omega) (by omega)) ?_ | with_reducible refine EqE.mk _ (gl _ _ (by omega) (by omega)) ?_ | refine EqE.mk _ (dx _ 32 (by omega)) ?_ | with_reducible refine EqE.mk _ (cl _) ?_ | with_reducible refine EqE.mk _ (gu _) ?_ | with_reducible refine EqE.mk _ (ed _ (by omega)) ?_ | with_reducible refine EqE.mk _ (a6 _ (by omega)) ?_ | with_reducible refine EqE.mk _ (aq _ (by omega)) ?_ | with_reducible refine EqE.mk _ (n_iadd _ _ (by omega)) ?_ | with_reducible refine EqE.mk _ (wrap_u64 (by omega) (by omega)) ?_ | with_reducible refine EqE.mk _ (wrap_u32 _) ?_ | with_reducible refine EqE.mk _ (ah (by omega) (by omega)) ?_ | refine EqE.mk _ rfl ?_) | ((with_reducible refine EqE.idF ?_); first | with_reducible refine EqE.mk _ (cf _) ?_ | with_reducible refine EqE.mk _ (cx _ _ (by omega)) ?_ | with_reducible refine EqE.mk _ (bq _ _ (by omega)) ?_ | with_reducible refine EqE.mk _ (bg _) ?_ | refine EqE.mk _ (aj _ 4294967296 _ _ rfl) ?_ | refine EqE.mk _ (aj _ 65536 _ _ rfl) ?_ | refine EqE.mk _ (aj _ 256 _ _ rfl) ?_ | refine EqE.mk _ (aj _ 134217728 _ _ rfl) ?_ | refine EqE.mk _ (aj _ 2 _ _ rfl) ?_ | refine EqE.mk _ (aj _ 16 _ _ rfl) ?_ | refine EqE.mk _ rfl ?_) | ((with_reducible refine EqE.idM ?_); first | refine EqE.mk _ (bn _ 32) ?_ | refine EqE.mk _ (bn _ _) ?_ | refine EqE.mk _ rfl ?_) | ((with_reducible refine EqE.idI ?_); first | refine EqE.mk _ (gq _) ?_ | with_reducible refine EqE.mk _ (b8 _ _) ?_ | refine EqE.mk _ (max_eq _ _) ?_ | refine EqE.mk _ (min_eq _ _) ?_) | ((with_reducible refine EqE.idS ?_); first | refine EqE.mk _ (bl _ _ _ _ (by first | with_reducible exact ae _ | with_reducible exact ab _ | exact ae _ | exact ab _ | rfl) (by first | omega | (simp only [List.length_set]; omega)) (by omega)) ?_ | refine EqE.mk _ (dh _ _ _ _ (by first | with_reducible exact ae _ | with_reducible exact ab _ | exact ae _ | exact ab _ | rfl) (by omega) (by omega) (by omega)) ?_ | (refine EqE.fP ?_; (conv => whnf); fail_if_success (show ag _ _)) | refine EqE.mk _ rfl ?_) | ((with_reducible refine EqE.idA ?_); first | refine EqE.mk _ (cc _) ?_ | refine EqE.mk _ (dd _ _) ?_ | refine EqE.mk _ rfl ?_) | ((with_reducible refine EqE.idR ?_); first | refine EqE.mk _ (b7 _) ?_ | refine EqE.mk _ rfl ?_) | ((with_reducible refine EqE.idL ?_); first | refine EqE.mk _ (av _ _ _ _ (by omega) (by omega) rfl) ?_ | refine EqE.mk _ (bh _ _ (by omega)) ?_ | refine EqE.mk _ (bo _ _ _ (by omega) (by omega) (by omega)) ?_ | refine EqE.mk _ rfl ?_) | refine EqE.mk _ rfl ?_ | refine Cd.ro ?_ | refine Cd.dc ?_ | refine Cd.ob ?_ | refine Cd.ol ?_ | refine Cd.mk ⟨rfl, rfl⟩ ?_ | refine Cd.mk (bc _) ?_ | refine Cd.om ?_ | refine Cd.mk ?_ ?_ | refine DsE.mk [_] rfl ?_ | refine DsE.mk [_, _, _] rfl ?_)
  refine ⟨[], [0, 1], [], fun m xs h => ∃ r : List UInt8, m = r.length ∧ r.length ≤ l.length ∧ r.dropWhile (· == 48) = l.dropWhile (· == 48) ∧ xs = [.d (.str (bst r)), .d (.int .u8 48)] ∧ h = [],
    ⟨_, _, _, ⟨.inl rfl, rfl, rfl, by first | rfl | (repeat first | exact all_nil _ | refine cb _ _ _ _ _ ?_)⟩, l, rfl, Nat.le_refl _, rfl, rfl, rfl⟩, ?_⟩
  rintro m xs h ⟨r, rfl, hr, hd, rfl, rfl⟩
  cases r with
  | nil =>
    repeat' ((conv => whnf); first | refine aw.data ?_ | with_reducible refine Br.bf fun _ => ?_ | refine rgE ?_ | refine Cd.mk rfl ?_ | refine Br.t ?_ | refine Br.f ?_ | with_reducible refine Br.dec (fun _ => ?_) (fun _ => ?_) | with_reducible refine Br.br (fun _ => ?_) (fun _ => ?_) | refine Br.mk (fun _ => ?_) (fun _ => ?_) | refine an.mk _ (az _ _ (by omega)) ?_ | refine an.mk _ (a1 _ _ (by omega)) ?_ | refine an.mk _ (cp _ _ _ (by first | with_reducible exact ae _ | with_reducible exact ab _ | exact ae _ | exact ab _ | rfl) (by first | omega | (simp only [List.length_set]; omega))) ?_ | refine an.mk _ rfl ?_ | refine And.intro (fun _ => ?_) ?_ | (refine TkE.fL ?_; (conv => whnf); fail_if_success (show ag _ _)) | refine TkE.mk _ rfl rfl ?_ | refine Res.mk ?_ | refine a7.mk (by repeat first | exact True.intro | refine And.intro (by kernel_rfl) ?_) ?_ | refine DsE.mk (a8 _) rfl ?_ | refine DsE.mk [] rfl ?_ | refine ai.cu _ _ ?_ | ((with_reducible refine EqE.idT ?_); first | ((conv => arg 1; simp only [ak, List.toList_toArray, ao, af, aa, Int.toNat_natCast, Int.toNat_zero, Int.toNat_one, b3, b4, List.drop_zero, Nat.sub_zero, List.cons_append, List.nil_append]); refine EqE.mk _ rfl ?_) | refine EqE.mk _ rfl ?_) | ((with_reducible refine EqE.idP ?_); first | ((conv => arg 1; simp only [ak, List.toList_toArray, bx, bz]); refine EqE.mk _ rfl ?_) | refine EqE.mk _ rfl ?_) | ((with_reducible refine EqE.idN ?_); first | ((conv => arg 1; simp only [ak, List.toList_toArray, aa, ba, Int.toNat_natCast, Int.toNat_zero, Int.toNat_one, List.length_cons, List.length_nil, Nat.zero_add]); refine EqE.mk _ rfl ?_)) | ((with_reducible refine EqE.idW ?_); first | with_reducible refine EqE.mk _ (ar _) ?_ | with_reducible refine EqE.mk _ (dy _ _ (by omega)) ?_ | with_reducible refine EqE.mk _ (b6 _ (by omega)) ?_ | with_reducible refine EqE.mk _ (eh _ _ (by omega) (by omega)) ?_ | with_reducible refine EqE.mk _ (eg _ _ (by omega)) ?_ | with_reducible refine EqE.mk _ (ei _ _ (by omega) (by omega)) ?_ | with_reducible refine EqE.mk _ (c8 _ (by omega)) ?_ | with_reducible refine EqE.mk _ (di _ (by omega)) ?_ | with_reducible refine EqE.mk _ (bd _ (by omega)) ?_ | with_reducible refine EqE.mk _ (ek _ _ (by omega) (by omega)) ?_ | with_reducible refine EqE.mk _ (gl _ _ (by omega) (by omega)) ?_ | refine EqE.mk _ (dx _ 32 (by omega)) ?_ | with_reducible refine EqE.mk _ (cl _) ?_ | with_reducible refine EqE.mk _ (gu _) ?_ | with_reducible refine EqE.mk _ (ed _ (by omega)) ?_ | with_reducible refine EqE.mk _ (a6 _ (by omega)) ?_ | with_reducible refine EqE.mk _ (aq _ (by omega)) ?_ | with_reducible refine EqE.mk _ (n_iadd _ _ (by omega)) ?_ | with_reducible refine EqE.mk _ (wrap_u64 (by omega) (by omega)) ?_ | with_reducible refine EqE.mk _ (wrap_u32 _) ?_ | with_reducible refine EqE.mk _ (ah (by omega) (by omega)) ?_ | refine EqE.mk _ rfl ?_) | ((with_reducible refine EqE.idF ?_); first | with_reducible refine EqE.mk _ (cf _) ?_ | with_reducible refine EqE.mk _ (cx _ _ (by omega)) ?_ | with_reducible refine EqE.mk _ (bq _ _ (by omega)) ?_ | with_reducible refine EqE.mk _ (bg _) ?_ | refine EqE.mk _ (aj _ 4294967296 _ _ rfl) ?_ | refine EqE.mk _ (aj _ 65536 _ _ rfl) ?_ | refine EqE.mk _ (aj _ 256 _ _ rfl) ?_ | refine EqE.mk _ (aj _ 134217728 _ _ rfl) ?_ | refine EqE.mk _ (aj _ 2 _ _ rfl) ?_ | refine EqE.mk _ (aj _ 16 _ _ rfl) ?_ | refine EqE.mk _ rfl ?_) | ((with_reducible refine EqE.idM ?_); first | refine EqE.mk _ (bn _ 32) ?_ | refine EqE.mk _ (bn _ _) ?_ | refine EqE.mk _ rfl ?_) | ((with_reducible refine EqE.idI ?_); first | refine EqE.mk _ (gq _) ?_ | with_reducible refine EqE.mk _ (b8 _ _) ?_ | refine EqE.mk _ (max_eq _ _) ?_ | refine EqE.mk _ (min_eq _ _) ?_) | ((with_reducible refine EqE.idS ?_); first | refine EqE.mk _ (bl _ _ _ _ (by first | with_reducible exact ae _ | with_reducible exact ab _ | exact ae _ | exact ab _ | rfl) (by first | omega | (simp only [List.length_set]; omega)) (by omega)) ?_ | refine EqE.mk _ (dh _ _ _ _ (by first | with_reducible exact ae _ | with_reducible exact ab _ | exact ae _ | exact ab _ | rfl) (by omega) (by omega) (by omega)) ?_ | (refine EqE.fP ?_; (conv => whnf); fail_if_success (show ag _ _)) | refine EqE.mk _ rfl ?_) | ((with_reducible refine EqE.idA ?_); first | refine EqE.mk _ (cc _) ?_ | refine EqE.mk _ (dd _ _) ?_ | refine EqE.mk _ rfl ?_) | ((with_reducible refine EqE.idR ?_); first | refine EqE.mk _ (b7 _) ?_ | refine EqE.mk _ rfl ?_) | ((with_reducible refine EqE.idL ?_); first | refine EqE.mk _ (av _ _ _ _ (by omega) (by omega) rfl) ?_ | refine EqE.mk _ (bh _ _ (by omega)) ?_ | refine EqE.mk _ (bo _ _ _ (by omega) (by omega) (by omega)) ?_ | refine EqE.mk _ rfl ?_) | refine EqE.mk _ rfl ?_ | refine Cd.ro ?_ | refine Cd.dc ?_ | refine Cd.ob ?_ | refine Cd.ol ?_ | refine Cd.mk ⟨rfl, rfl⟩ ?_ | refine Cd.mk (bc _) ?_ | refine Cd.om ?_ | refine Cd.mk ?_ ?_ | refine DsE.mk [_] rfl ?_ | refine DsE.mk [_, _, _] rfl ?_)
    show D.str _ = D.str _
    rw [← hd]; rfl
  | cons x r =>
    have hlen : (x :: r).length = r.length + 1 := rfl
    by_cases hx : x = 48
    · subst hx
      repeat' ((conv => whnf); first | refine aw.data ?_ | with_reducible refine Br.bt fun _ => ?_ | refine rgE ?_ | refine Cd.mk rfl ?_ | refine Br.t ?_ | refine Br.f ?_ | with_reducible refine Br.dec (fun _ => ?_) (fun _ => ?_) | with_reducible refine Br.br (fun _ => ?_) (fun _ => ?_) | refine Br.mk (fun _ => ?_) (fun _ => ?_) | refine an.mk _ (az _ _ (by omega)) ?_ | refine an.mk _ (a1 _ _ (by omega)) ?_ | refine an.mk _ (cp _ _ _ (by first | with_reducible exact ae _ | with_reducible exact ab _ | exact ae _ | exact ab _ | rfl) (by first | omega | (simp only [List.length_set]; omega))) ?_ | refine an.mk _ rfl ?_ | refine And.intro (fun _ => ?_) ?_ | (refine TkE.fL ?_; (conv => whnf); fail_if_success (show ag _ _)) | refine TkE.mk _ rfl rfl ?_ | refine Res.mk ?_ | refine a7.mk (by repeat first | exact True.intro | refine And.intro (by kernel_rfl) ?_) ?_ | refine DsE.mk (a8 _) rfl ?_ | refine DsE.mk [] rfl ?_ | refine ai.cu _ _ ?_ | ((with_reducible refine EqE.idT ?_); first | ((conv => arg 1; simp only [ak, List.toList_toArray, ao, af, aa, Int.toNat_natCast, Int.toNat_zero, Int.toNat_one, b3, b4, List.drop_zero, Nat.sub_zero, List.cons_append, List.nil_append]); refine EqE.mk _ rfl ?_) | refine EqE.mk _ rfl ?_) | ((with_reducible refine EqE.idP ?_); first | ((conv => arg 1; simp only [ak, List.toList_toArray, bx, bz]); refine EqE.mk _ rfl ?_) | refine EqE.mk _ rfl ?_) | ((with_reducible refine EqE.idN ?_); first | ((conv => arg 1; simp only [ak, List.toList_toArray, aa, ba, Int.toNat_natCast, Int.toNat_zero, Int.toNat_one, List.length_cons, List.length_nil, Nat.zero_add]); refine EqE.mk _ rfl ?_)) | ((with_reducible refine EqE.idW ?_); first | with_reducible refine EqE.mk _ (ar _) ?_ | with_reducible refine EqE.mk _ (dy _ _ (by omega)) ?_ | with_reducible refine EqE.mk _ (b6 _ (by omega)) ?_ | with_reducible refine EqE.mk _ (eh _ _ (by omega) (by omega)) ?_ | with_reducible refine EqE.mk _ (eg _ _ (by omega)) ?_ | with_reducible refine EqE.mk _ (ei _ _ (by omega) (by omega)) ?_ | with_reducible refine EqE.mk _ (c8 _ (by omega)) ?_ | with_reducible refine EqE.mk _ (di _ (by omega)) ?_ | with_reducible refine EqE.mk _ (bd _ (by omega)) ?_ | with_reducible refine EqE.mk _ (ek _ _ (by omega) (by omega)) ?_ | with_reducible refine EqE.mk _ (gl _ _ (by omega) (by omega)) ?_ | refine EqE.mk _ (dx _ 32 (by omega)) ?_ | with_reducible refine EqE.mk _ (cl _) ?_ | with_reducible refine EqE.mk _ (gu _) ?_ | with_reducible refine EqE.mk _ (ed _ (by omega)) ?_ | with_reducible refine EqE.mk _ (a6 _ (by omega)) ?_ | with_reducible refine EqE.mk _ (aq _ (by omega)) ?_ | with_reducible refine EqE.mk _ (n_iadd _ _ (by omega)) ?_ | with_reducible refine EqE.mk _ (wrap_u64 (by omega) (by omega)) ?_ | with_reducible refine EqE.mk _ (wrap_u32 _) ?_ | with_reducible refine EqE.mk _ (ah (by omega) (by omega)) ?_ | refine EqE.mk _ rfl ?_) | ((with_reducible refine EqE.idF ?_); first | with_reducible refine EqE.mk _ (cf _) ?_ | with_reducible refine EqE.mk _ (cx _ _ (by omega)) ?_ | with_reducible refine EqE.mk _ (bq _ _ (by omega)) ?_ | with_reducible refine EqE.mk _ (bg _) ?_ | refine EqE.mk _ (aj _ 4294967296 _ _ rfl) ?_ | refine EqE.mk _ (aj _ 65536 _ _ rfl) ?_ | refine EqE.mk _ (aj _ 256 _ _ rfl) ?_ | refine EqE.mk _ (aj _ 134217728 _ _ rfl) ?_ | refine EqE.mk _ (aj _ 2 _ _ rfl) ?_ | refine EqE.mk _ (aj _ 16 _ _ rfl) ?_ | refine EqE.mk _ rfl ?_) | ((with_reducible refine EqE.idM ?_); first | refine EqE.mk _ (bn _ 32) ?_ | refine EqE.mk _ (bn _ _) ?_ | refine EqE.mk _ rfl ?_) | ((with_reducible refine EqE.idI ?_); first | refine EqE.mk _ (gq _) ?_ | with_reducible refine EqE.mk _ (b8 _ _) ?_ | refine EqE.mk _ (max_eq _ _) ?_ | refine EqE.mk _ (min_eq _ _) ?_) | ((with_reducible refine EqE.idS ?_); first | refine EqE.mk _ (bl _ _ _ _ (by first | with_reducible exact ae _ | with_reducible exact ab _ | exact ae _ | exact ab _ | rfl) (by first | omega | (simp only [List.length_set]; omega)) (by omega)) ?_ | refine EqE.mk _ (dh _ _ _ _ (by first | with_reducible exact ae _ | with_reducible exact ab _ | exact ae _ | exact ab _ | rfl) (by omega) (by omega) (by omega)) ?_ | (refine EqE.fP ?_; (conv => whnf); fail_if_success (show ag _ _)) | refine EqE.mk _ rfl ?_) | ((with_reducible refine EqE.idA ?_); first | refine EqE.mk _ (cc _) ?_ | refine EqE.mk _ (dd _ _) ?_ | refine EqE.mk _ rfl ?_) | ((with_reducible refine EqE.idR ?_); first | refine EqE.mk _ (b7 _) ?_ | refine EqE.mk _ rfl ?_) | ((with_reducible refine EqE.idL ?_); first | refine EqE.mk _ (av _ _ _ _ (by omega) (by omega) rfl) ?_ | refine EqE.mk _ (bh _ _ (by omega)) ?_ | refine EqE.mk _ (bo _ _ _ (by omega) (by omega) (by omega)) ?_ | refine EqE.mk _ rfl ?_) | refine EqE.mk _ rfl ?_ | refine Cd.ro ?_ | refine Cd.dc ?_ | refine Cd.ob ?_ | refine Cd.ol ?_ | refine Cd.mk ⟨rfl, rfl⟩ ?_ | refine Cd.mk (bc _) ?_ | refine Cd.om ?_ | refine Cd.mk ?_ ?_ | refine DsE.mk [_] rfl ?_ | refine DsE.mk [_, _, _] rfl ?_)
      exact ⟨_, ⟨r, rfl, by omega, by rw [← hd]; rfl, rfl, rfl⟩, by omega⟩
    · have hx' := fun h => hx (n48.1 h)
      repeat' ((conv => whnf); first | refine aw.data ?_ | with_reducible refine Br.bt fun _ => ?_ | refine rgE ?_ | refine Cd.mk rfl ?_ | refine Br.t ?_ | refine Br.f ?_ | with_reducible refine Br.dec (fun _ => ?_) (fun _ => ?_) | with_reducible refine Br.br (fun _ => ?_) (fun _ => ?_) | refine Br.mk (fun _ => ?_) (fun _ => ?_) | refine an.mk _ (az _ _ (by omega)) ?_ | refine an.mk _ (a1 _ _ (by omega)) ?_ | refine an.mk _ (cp _ _ _ (by first | with_reducible exact ae _ | with_reducible exact ab _ | exact ae _ | exact ab _ | rfl) (by first | omega | (simp only [List.length_set]; omega))) ?_ | refine an.mk _ rfl ?_ | refine And.intro (fun _ => ?_) ?_ | (refine TkE.fL ?_; (conv => whnf); fail_if_success (show ag _ _)) | refine TkE.mk _ rfl rfl ?_ | refine Res.mk ?_ | refine a7.mk (by repeat first | exact True.intro | refine And.intro (by kernel_rfl) ?_) ?_ | refine DsE.mk (a8 _) rfl ?_ | refine DsE.mk [] rfl ?_ | refine ai.cu _ _ ?_ | ((with_reducible refine EqE.idT ?_); first | ((conv => arg 1; simp only [ak, List.toList_toArray, ao, af, aa, Int.toNat_natCast, Int.toNat_zero, Int.toNat_one, b3, b4, List.drop_zero, Nat.sub_zero, List.cons_append, List.nil_append]); refine EqE.mk _ rfl ?_) | refine EqE.mk _ rfl ?_) | ((with_reducible refine EqE.idP ?_); first | ((conv => arg 1; simp only [ak, List.toList_toArray, bx, bz]); refine EqE.mk _ rfl ?_) | refine EqE.mk _ rfl ?_) | ((with_reducible refine EqE.idN ?_); first | ((conv => arg 1; simp only [ak, List.toList_toArray, aa, ba, Int.toNat_natCast, Int.toNat_zero, Int.toNat_one, List.length_cons, List.length_nil, Nat.zero_add]); refine EqE.mk _ rfl ?_)) | ((with_reducible refine EqE.idW ?_); first | with_reducible refine EqE.mk _ (ar _) ?_ | with_reducible refine EqE.mk _ (dy _ _ (by omega)) ?_ | with_reducible refine EqE.mk _ (b6 _ (by omega)) ?_ | with_reducible refine EqE.mk _ (eh _ _ (by omega) (by omega)) ?_ | with_reducible refine EqE.mk _ (eg _ _ (by omega)) ?_ | with_reducible refine EqE.mk _ (ei _ _ (by omega) (by omega)) ?_ | with_reducible refine EqE.mk _ (c8 _ (by omega)) ?_ | with_reducible refine EqE.mk _ (di _ (by omega)) ?_ | with_reducible refine EqE.mk _ (bd _ (by omega)) ?_ | with_reducible refine EqE.mk _ (ek _ _ (by omega) (by omega)) ?_ | with_reducible refine EqE.mk _ (gl _ _ (by omega) (by omega)) ?_ | refine EqE.mk _ (dx _ 32 (by omega)) ?_ | with_reducible refine EqE.mk _ (cl _) ?_ | with_reducible refine EqE.mk _ (gu _) ?_ | with_reducible refine EqE.mk _ (ed _ (by omega)) ?_ | with_reducible refine EqE.mk _ (a6 _ (by omega)) ?_ | with_reducible refine EqE.mk _ (aq _ (by omega)) ?_ | with_reducible refine EqE.mk _ (n_iadd _ _ (by omega)) ?_ | with_reducible refine EqE.mk _ (wrap_u64 (by omega) (by omega)) ?_ | with_reducible refine EqE.mk _ (wrap_u32 _) ?_ | with_reducible refine EqE.mk _ (ah (by omega) (by omega)) ?_ | refine EqE.mk _ rfl ?_) | ((with_reducible refine EqE.idF ?_); first | with_reducible refine EqE.mk _ (cf _) ?_ | with_reducible refine EqE.mk _ (cx _ _ (by omega)) ?_ | with_reducible refine EqE.mk _ (bq _ _ (by omega)) ?_ | with_reducible refine EqE.mk _ (bg _) ?_ | refine EqE.mk _ (aj _ 4294967296 _ _ rfl) ?_ | refine EqE.mk _ (aj _ 65536 _ _ rfl) ?_ | refine EqE.mk _ (aj _ 256 _ _ rfl) ?_ | refine EqE.mk _ (aj _ 134217728 _ _ rfl) ?_ | refine EqE.mk _ (aj _ 2 _ _ rfl) ?_ | refine EqE.mk _ (aj _ 16 _ _ rfl) ?_ | refine EqE.mk _ rfl ?_) | ((with_reducible refine EqE.idM ?_); first | refine EqE.mk _ (bn _ 32) ?_ | refine EqE.mk _ (bn _ _) ?_ | refine EqE.mk _ rfl ?_) | ((with_reducible refine EqE.idI ?_); first | refine EqE.mk _ (gq _) ?_ | with_reducible refine EqE.mk _ (b8 _ _) ?_ | refine EqE.mk _ (max_eq _ _) ?_ | refine EqE.mk _ (min_eq _ _) ?_) | ((with_reducible refine EqE.idS ?_); first | refine EqE.mk _ (bl _ _ _ _ (by first | with_reducible exact ae _ | with_reducible exact ab _ | exact ae _ | exact ab _ | rfl) (by first | omega | (simp only [List.length_set]; omega)) (by omega)) ?_ | refine EqE.mk _ (dh _ _ _ _ (by first | with_reducible exact ae _ | with_reducible exact ab _ | exact ae _ | exact ab _ | rfl) (by omega) (by omega) (by omega)) ?_ | (refine EqE.fP ?_; (conv => whnf); fail_if_success (show ag _ _)) | refine EqE.mk _ rfl ?_) | ((with_reducible refine EqE.idA ?_); first | refine EqE.mk _ (cc _) ?_ | refine EqE.mk _ (dd _ _) ?_ | refine EqE.mk _ rfl ?_) | ((with_reducible refine EqE.idR ?_); first | refine EqE.mk _ (b7 _) ?_ | refine EqE.mk _ rfl ?_) | ((with_reducible refine EqE.idL ?_); first | refine EqE.mk _ (av _ _ _ _ (by omega) (by omega) rfl) ?_ | refine EqE.mk _ (bh _ _ (by omega)) ?_ | refine EqE.mk _ (bo _ _ _ (by omega) (by omega) (by omega)) ?_ | refine EqE.mk _ rfl ?_) | refine EqE.mk _ rfl ?_ | refine Cd.ro ?_ | refine Cd.dc ?_ | refine Cd.ob ?_ | refine Cd.ol ?_ | refine Cd.mk ⟨rfl, rfl⟩ ?_ | refine Cd.mk (bc _) ?_ | refine Cd.om ?_ | refine Cd.mk ?_ ?_ | refine DsE.mk [_] rfl ?_ | refine DsE.mk [_, _, _] rfl ?_)
      · exact absurd (by assumption) hx'
      · show D.str _ = D.str _
        rw [← hd, List.dropWhile_cons, if_neg (by simpa using hx)]
set_option maxRecDepth 20000 in
theorem agk (l : List UInt8) (hl : l.length < 4611686018427387904) : Sim Tryz.prog G0 true 145 [.str (bst l), .str ⟨#[48]⟩] (.str (bst (l.dropWhile (· == 48)))) := by
  refine ck ax Tryz.func145 ?_
  cases l with
  | nil =>
    repeat' ((conv => whnf); first | refine aw.data ?_ | refine cE ((rr [] hl)) ?_ | refine rgE ?_ | refine Cd.mk rfl ?_ | refine Br.t ?_ | refine Br.f ?_ | with_reducible refine Br.dec (fun _ => ?_) (fun _ => ?_) | with_reducible refine Br.br (fun _ => ?_) (fun _ => ?_) | refine Br.mk (fun _ => ?_) (fun _ => ?_) | refine an.mk _ (az _ _ (by omega)) ?_ | refine an.mk _ (a1 _ _ (by omega)) ?_ | refine an.mk _ (cp _ _ _ (by first | with_reducible exact ae _ | with_reducible exact ab _ | exact ae _ | exact ab _ | rfl) (by first | omega | (simp only [List.length_set]; omega))) ?_ | refine an.mk _ rfl ?_ | refine And.intro (fun _ => ?_) ?_ | (refine TkE.fL ?_; (conv => whnf); fail_if_success (show ag _ _)) | refine TkE.mk _ rfl rfl ?_ | refine Res.mk ?_ | refine a7.mk (by repeat first | exact True.intro | refine And.intro (by kernel_rfl) ?_) ?_ | refine DsE.mk (a8 _) rfl ?_ | refine DsE.mk [] rfl ?_ | refine ai.cu _ _ ?_ | ((with_reducible refine EqE.idT ?_); first | ((conv => arg 1; simp only [ak, List.toList_toArray, ao, af, aa, Int.toNat_natCast, Int.toNat_zero, Int.toNat_one, b3, b4, List.drop_zero, Nat.sub_zero, List.cons_append, List.nil_append]); refine EqE.mk _ rfl ?_) | refine EqE.mk _ rfl ?_) | ((with_reducible refine EqE.idP ?_); first | ((conv => arg 1; simp only [ak, List.toList_toArray, bx, bz]); refine EqE.mk _ rfl ?_) | refine EqE.mk _ rfl ?_) | ((with_reducible refine EqE.idN ?_); first | ((conv => arg 1; simp only [ak, List.toList_toArray, aa, ba, Int.toNat_natCast, Int.toNat_zero, Int.toNat_one, List.length_cons, List.length_nil, Nat.zero_add]); refine EqE.mk _ rfl ?_)) | ((with_reducible refine EqE.idW ?_); first | with_reducible refine EqE.mk _ (ar _) ?_ | with_reducible refine EqE.mk _ (dy _ _ (by omega)) ?_ | with_reducible refine EqE.mk _ (b6 _ (by omega)) ?_ | with_reducible refine EqE.mk _ (eh _ _ (by omega) (by omega)) ?_ | with_reducible refine EqE.mk _ (eg _ _ (by omega)) ?_ | with_reducible refine EqE.mk _ (ei _ _ (by omega) (by omega)) ?_ | with_reducible refine EqE.mk _ (c8 _ (by omega)) ?_ | with_reducible refine EqE.mk _ (di _ (by omega)) ?_ | with_reducible refine EqE.mk _ (bd _ (by omega)) ?_ | with_reducible refine EqE.mk _ (ek _ _ (by omega) (by omega)) ?_ | with_reducible refine EqE.mk _ (gl _ _ (by omega) (by omega)) ?_ | refine EqE.mk _ (dx _ 32 (by omega)) ?_ | with_reducible refine EqE.mk _ (cl _) ?_ | with_reducible refine EqE.mk _ (gu _) ?_ | with_reducible refine EqE.mk _ (ed _ (by omega)) ?_ | with_reducible refine EqE.mk _ (a6 _ (by omega)) ?_ | with_reducible refine EqE.mk _ (aq _ (by omega)) ?_ | with_reducible refine EqE.mk _ (n_iadd _ _ (by omega)) ?_ | with_reducible refine EqE.mk _ (wrap_u64 (by omega) (by omega)) ?_ | with_reducible refine EqE.mk _ (wrap_u32 _) ?_ | with_reducible refine EqE.mk _ (ah (by omega) (by omega)) ?_ | refine EqE.mk _ rfl ?_) | ((with_reducible refine EqE.idF ?_); first | with_reducible refine EqE.mk _ (cf _) ?_ | with_reducible refine EqE.mk _ (cx _ _ (by omega)) ?_ | with_reducible refine EqE.mk _ (bq _ _ (by omega)) ?_ | with_reducible refine EqE.mk _ (bg _) ?_ | refine EqE.mk _ (aj _ 4294967296 _ _ rfl) ?_ | refine EqE.mk _ (aj _ 65536 _ _ rfl) ?_ | refine EqE.mk _ (aj _ 256 _ _ rfl) ?_ | refine EqE.mk _ (aj _ 134217728 _ _ rfl) ?_ | refine EqE.mk _ (aj _ 2 _ _ rfl) ?_ | refine EqE.mk _ (aj _ 16 _ _ rfl) ?_ | refine EqE.mk _ rfl ?_) | ((with_reducible refine EqE.idM ?_); first | refine EqE.mk _ (bn _ 32) ?_ | refine EqE.mk _ (bn _ _) ?_ | refine EqE.mk _ rfl ?_) | ((with_reducible refine EqE.idI ?_); first | refine EqE.mk _ (gq _) ?_ | with_reducible refine EqE.mk _ (b8 _ _) ?_ | refine EqE.mk _ (max_eq _ _) ?_ | refine EqE.mk _ (min_eq _ _) ?_) | ((with_reducible refine EqE.idS ?_); first | refine EqE.mk _ (bl _ _ _ _ (by first | with_reducible exact ae _ | with_reducible exact ab _ | exact ae _ | exact ab _ | rfl) (by first | omega | (simp only [List.length_set]; omega)) (by omega)) ?_ | refine EqE.mk _ (dh _ _ _ _ (by first | with_reducible exact ae _ | with_reducible exact ab _ | exact ae _ | exact ab _ | rfl) (by omega) (by omega) (by omega)) ?_ | (refine EqE.fP ?_; (conv => whnf); fail_if_success (show ag _ _)) | refine EqE.mk _ rfl ?_) | ((with_reducible refine EqE.idA ?_); first | refine EqE.mk _ (cc _) ?_ | refine EqE.mk _ (dd _ _) ?_ | refine EqE.mk _ rfl ?_) | ((with_reducible refine EqE.idR ?_); first | refine EqE.mk _ (b7 _) ?_ | refine EqE.mk _ rfl ?_) | ((with_reducible refine EqE.idL ?_); first | refine EqE.mk _ (av _ _ _ _ (by omega) (by omega) rfl) ?_ | refine EqE.mk _ (bh _ _ (by omega)) ?_ | refine EqE.mk _ (bo _ _ _ (by omega) (by omega) (by omega)) ?_ | refine EqE.mk _ rfl ?_) | refine EqE.mk _ rfl ?_ | refine Cd.ro ?_ | refine Cd.dc ?_ | refine Cd.ob ?_ | refine Cd.ol ?_ | refine Cd.mk ⟨rfl, rfl⟩ ?_ | refine Cd.mk (bc _) ?_ | refine Cd.om ?_ | refine Cd.mk ?_ ?_ | refine DsE.mk [_] rfl ?_ | refine DsE.mk [_, _, _] rfl ?_)
    all_goals rfl
  | cons x r =>
    repeat' ((conv => whnf); first | refine aw.data ?_ | refine cE ((rr (x :: r) hl)) ?_ | refine rgE ?_ | refine Cd.mk rfl ?_ | refine Br.t ?_ | refine Br.f ?_ | with_reducible refine Br.dec (fun _ => ?_) (fun _ => ?_) | with_reducible refine Br.br (fun _ => ?_) (fun _ => ?_) | refine Br.mk (fun _ => ?_) (fun _ => ?_) | refine an.mk _ (az _ _ (by omega)) ?_ | refine an.mk _ (a1 _ _ (by omega)) ?_ | refine an.mk _ (cp _ _ _ (by first | with_reducible exact ae _ | with_reducible exact ab _ | exact ae _ | exact ab _ | rfl) (by first | omega | (simp only [List.length_set]; omega))) ?_ | refine an.mk _ rfl ?_ | refine And.intro (fun _ => ?_) ?_ | (refine TkE.fL ?_; (conv => whnf); fail_if_success (show ag _ _)) | refine TkE.mk _ rfl rfl ?_ | refine Res.mk ?_ | refine a7.mk (by repeat first | exact True.intro | refine And.intro (by kernel_rfl) ?_) ?_ | refine DsE.mk (a8 _) rfl ?_ | refine DsE.mk [] rfl ?_ | refine ai.cu _ _ ?_ | ((with_reducible refine EqE.idT ?_); first | ((conv => arg 1; simp only [ak, List.toList_toArray, ao, af, aa, Int.toNat_natCast, Int.toNat_zero, Int.toNat_one, b3, b4, List.drop_zero, Nat.sub_zero, List.cons_append, List.nil_append]); refine EqE.mk _ rfl ?_) | refine EqE.mk _ rfl ?_) | ((with_reducible refine EqE.idP ?_); first | ((conv => arg 1; simp only [ak, List.toList_toArray, bx, bz]); refine EqE.mk _ rfl ?_) | refine EqE.mk _ rfl ?_) | ((with_reducible refine EqE.idN ?_); first | ((conv => arg 1; simp only [ak, List.toList_toArray, aa, ba, Int.toNat_natCast, Int.toNat_zero, Int.toNat_one, List.length_cons, List.length_nil, Nat.zero_add]); refine EqE.mk _ rfl ?_)) | ((with_reducible refine EqE.idW ?_); first | with_reducible refine EqE.mk _ (ar _) ?_ | with_reducible refine EqE.mk _ (dy _ _ (by omega)) ?_ | with_reducible refine EqE.mk _ (b6 _ (by omega)) ?_ | with_reducible refine EqE.mk _ (eh _ _ (by omega) (by omega)) ?_ | with_reducible refine EqE.mk _ (eg _ _ (by omega)) ?_ | with_reducible refine EqE.mk _ (ei _ _ (by omega) (by omega)) ?_ | with_reducible refine EqE.mk _ (c8 _ (by omega)) ?_ | with_reducible refine EqE.mk _ (di _ (by omega)) ?_ | with_reducible refine EqE.mk _ (bd _ (by omega)) ?_ | with_reducible refine EqE.mk _ (ek _ _ (by omega) (by omega)) ?_ | with_reducible refine EqE.mk _ (gl _ _ (by omega) (by omega)) ?_ | refine EqE.mk _ (dx _ 32 (by omega)) ?_ | with_reducible refine EqE.mk _ (cl _) ?_ | with_reducible refine EqE.mk _ (gu _) ?_ | with_reducible refine EqE.mk _ (ed _ (by omega)) ?_ | with_reducible refine EqE.mk _ (a6 _ (by omega)) ?_ | with_reducible refine EqE.mk _ (aq _ (by omega)) ?_ | with_reducible refine EqE.mk _ (n_iadd _ _ (by omega)) ?_ | with_reducible refine EqE.mk _ (wrap_u64 (by omega) (by omega)) ?_ | with_reducible refine EqE.mk _ (wrap_u32 _) ?_ | with_reducible refine EqE.mk _ (ah (by omega) (by omega)) ?_ | refine EqE.mk _ rfl ?_) | ((with_reducible refine EqE.idF ?_); first | with_reducible refine EqE.mk _ (cf _) ?_ | with_reducible refine EqE.mk _ (cx _ _ (by omega)) ?_ | with_reducible refine EqE.mk _ (bq _ _ (by omega)) ?_ | with_reducible refine EqE.mk _ (bg _) ?_ | refine EqE.mk _ (aj _ 4294967296 _ _ rfl) ?_ | refine EqE.mk _ (aj _ 65536 _ _ rfl) ?_ | refine EqE.mk _ (aj _ 256 _ _ rfl) ?_ | refine EqE.mk _ (aj _ 134217728 _ _ rfl) ?_ | refine EqE.mk _ (aj _ 2 _ _ rfl) ?_ | refine EqE.mk _ (aj _ 16 _ _ rfl) ?_ | refine EqE.mk _ rfl ?_) | ((with_reducible refine EqE.idM ?_); first | refine EqE.mk _ (bn _ 32) ?_ | refine EqE.mk _ (bn _ _) ?_ | refine EqE.mk _ rfl ?_) | ((with_reducible refine EqE.idI ?_); first | refine EqE.mk _ (gq _) ?_ | with_reducible refine EqE.mk _ (b8 _ _) ?_ | refine EqE.mk _ (max_eq _ _) ?_ | refine EqE.mk _ (min_eq _ _) ?_) | ((with_reducible refine EqE.idS ?_); first | refine EqE.mk _ (bl _ _ _ _ (by first | with_reducible exact ae _ | with_reducible exact ab _ | exact ae _ | exact ab _ | rfl) (by first | omega | (simp only [List.length_set]; omega)) (by omega)) ?_ | refine EqE.mk _ (dh _ _ _ _ (by first | with_reducible exact ae _ | with_reducible exact ab _ | exact ae _ | exact ab _ | rfl) (by omega) (by omega) (by omega)) ?_ | (refine EqE.fP ?_; (conv => whnf); fail_if_success (show ag _ _)) | refine EqE.mk _ rfl ?_) | ((with_reducible refine EqE.idA ?_); first | refine EqE.mk _ (cc _) ?_ | refine EqE.mk _ (dd _ _) ?_ | refine EqE.mk _ rfl ?_) | ((with_reducible refine EqE.idR ?_); first | refine EqE.mk _ (b7 _) ?_ | refine EqE.mk _ rfl ?_) | ((with_reducible refine EqE.idL ?_); first | refine EqE.mk _ (av _ _ _ _ (by omega) (by omega) rfl) ?_ | refine EqE.mk _ (bh _ _ (by omega)) ?_ | refine EqE.mk _ (bo _ _ _ (by omega) (by omega) (by omega)) ?_ | refine EqE.mk _ rfl ?_) | refine EqE.mk _ rfl ?_ | refine Cd.ro ?_ | refine Cd.dc ?_ | refine Cd.ob ?_ | refine Cd.ol ?_ | refine Cd.mk ⟨rfl, rfl⟩ ?_ | refine Cd.mk (bc _) ?_ | refine Cd.om ?_ | refine Cd.mk ?_ ?_ | refine DsE.mk [_] rfl ?_ | refine DsE.mk [_, _, _] rfl ?_)
    all_goals rfl
theorem akj (l : List UInt8) (hl : l.length < 4611686018427387904) : Sim Tryz.prog G0 true 199 [.str (bst l), .str ⟨#[45]⟩] (.bool (decide (l.head? = some 45))) := by
 refine ck ax Tryz.func199 ?_
 cases l with
 | nil =>
  repeat' ((conv => whnf); first | refine aw.data ?_ | refine rgE ?_ | refine Cd.mk rfl ?_ | refine Br.t ?_ | refine Br.f ?_ | with_reducible refine Br.dec (fun _ => ?_) (fun _ => ?_) | with_reducible refine Br.br (fun _ => ?_) (fun _ => ?_) | refine Br.mk (fun _ => ?_) (fun _ => ?_) | refine an.mk _ (az _ _ (by omega)) ?_ | refine an.mk _ (a1 _ _ (by omega)) ?_ | refine an.mk _ (cp _ _ _ (by first | with_reducible exact ae _ | with_reducible exact ab _ | exact ae _ | exact ab _ | rfl) (by first | omega | (simp only [List.length_set]; omega))) ?_ | refine an.mk _ rfl ?_ | refine And.intro (fun _ => ?_) ?_ | (refine TkE.fL ?_; (conv => whnf); fail_if_success (show ag _ _)) | refine TkE.mk _ rfl rfl ?_ | refine Res.mk ?_ | refine a7.mk (by repeat first | exact True.intro | refine And.intro (by kernel_rfl) ?_) ?_ | refine DsE.mk (a8 _) rfl ?_ | refine DsE.mk [] rfl ?_ | refine ai.cu _ _ ?_ | ((with_reducible refine EqE.idT ?_); first | ((conv => arg 1; simp only [ak, List.toList_toArray, ao, af, aa, Int.toNat_natCast, Int.toNat_zero, Int.toNat_one, b3, b4, List.drop_zero, Nat.sub_zero, List.cons_append, List.nil_append]); refine EqE.mk _ rfl ?_) | refine EqE.mk _ rfl ?_) | ((with_reducible refine EqE.idP ?_); first | ((conv => arg 1; simp only [ak, List.toList_toArray, bx, bz]); refine EqE.mk _ rfl ?_) | refine EqE.mk _ rfl ?_) | ((with_reducible refine EqE.idN ?_); first | ((conv => arg 1; simp only [ak, List.toList_toArray, aa, ba, Int.toNat_natCast, Int.toNat_zero, Int.toNat_one, List.length_cons, List.length_nil, Nat.zero_add]); refine EqE.mk _ rfl ?_)) | ((with_reducible refine EqE.idW ?_); first | with_reducible refine EqE.mk _ (ar _) ?_ | with_reducible refine EqE.mk _ (dy _ _ (by omega)) ?_ | with_reducible refine EqE.mk _ (b6 _ (by omega)) ?_ | with_reducible refine EqE.mk _ (eh _ _ (by omega) (by omega)) ?_ | with_reducible refine EqE.mk _ (eg _ _ (by omega)) ?_ | with_reducible refine EqE.mk _ (ei _ _ (by omega) (by omega)) ?_ | with_reducible refine EqE.mk _ (c8 _ (by omega)) ?_ | with_reducible refine EqE.mk _ (di _ (by omega)) ?_ | with_reducible refine EqE.mk _ (bd _ (by omega)) ?_ | with_reducible refine EqE.mk _ (ek _ _ (by omega) (by omega)) ?_ | with_reducible refine EqE.mk _ (gl _ _ (by omega) (by omega)) ?_ | refine EqE.mk _ (dx _ 32 (by omega)) ?_ | with_reducible refine EqE.mk _ (cl _) ?_ | with_reducible refine EqE.mk _ (gu _) ?_ | with_reducible refine EqE.mk _ (ed _ (by omega)) ?_ | with_reducible refine EqE.mk _ (a6 _ (by omega)) ?_ | with_reducible refine EqE.mk _ (aq _ (by omega)) ?_ | with_reducible refine EqE.mk _ (n_iadd _ _ (by omega)) ?_ | with_reducible refine EqE.mk _ (wrap_u64 (by omega) (by omega)) ?_ | with_reducible refine EqE.mk _ (wrap_u32 _) ?_ | with_reducible refine EqE.mk _ (ah (by omega) (by omega)) ?_ | refine EqE.mk _ rfl ?_) | ((with_reducible refine EqE.idF ?_); first | with_reducible refine EqE.mk _ (cf _) ?_ | with_reducible refine EqE.mk _ (cx _ _ (by omega)) ?_ | with_reducible refine EqE.mk _ (bq _ _ (by omega)) ?_ | with_reducible refine EqE.mk _ (bg _) ?_ | refine EqE.mk _ (aj _ 4294967296 _ _ rfl) ?_ | refine EqE.mk _ (aj _ 65536 _ _ rfl) ?_ | refine EqE.mk _ (aj _ 256 _ _ rfl) ?_ | refine EqE.mk _ (aj _ 134217728 _ _ rfl) ?_ | refine EqE.mk _ (aj _ 2 _ _ rfl) ?_ | refine EqE.mk _ (aj _ 16 _ _ rfl) ?_ | refine EqE.mk _ rfl ?_) | ((with_reducible refine EqE.idM ?_); first | refine EqE.mk _ (bn _ 32) ?_ | refine EqE.mk _ (bn _ _) ?_ | refine EqE.mk _ rfl ?_) | ((with_reducible refine EqE.idI ?_); first | refine EqE.mk _ (gq _) ?_ | with_reducible refine EqE.mk _ (b8 _ _) ?_ | refine EqE.mk _ (max_eq _ _) ?_ | refine EqE.mk _ (min_eq _ _) ?_) | ((with_reducible refine EqE.idS ?_); first | refine EqE.mk _ (bl _ _ _ _ (by first | with_reducible exact ae _ | with_reducible exact ab _ | exact ae _ | exact ab _ | rfl) (by first | omega | (simp only [List.length_set]; omega)) (by omega)) ?_ | refine EqE.mk _ (dh _ _ _ _ (by first | with_reducible exact ae _ | with_reducible exact ab _ | exact ae _ | exact ab _ | rfl) (by omega) (by omega) (by omega)) ?_ | (refine EqE.fP ?_; (conv => whnf); fail_if_success (show ag _ _)) | refine EqE.mk _ rfl ?_) | ((with_reducible refine EqE.idA ?_); first | refine EqE.mk _ (cc _) ?_ | refine EqE.mk _ (dd _ _) ?_ | refine EqE.mk _ rfl ?_) | ((with_reducible refine EqE.idR ?_); first | refine EqE.mk _ (b7 _) ?_ | refine EqE.mk _ rfl ?_) | ((with_reducible refine EqE.idL ?_); first | refine EqE.mk _ (av _ _ _ _ (by omega) (by omega) rfl) ?_ | refine EqE.mk _ (bh _ _ (by omega)) ?_ | refine EqE.mk _ (bo _ _ _ (by omega) (by omega) (by omega)) ?_ | refine EqE.mk _ rfl ?_) | refine EqE.mk _ rfl ?_ | refine Cd.ro ?_ | refine Cd.dc ?_ | refine Cd.ob ?_ | refine Cd.ol ?_ | refine Cd.mk ⟨rfl, rfl⟩ ?_ | refine Cd.mk (bc _) ?_ | refine Cd.om ?_ | refine Cd.mk ?_ ?_ | refine DsE.mk [_] rfl ?_ | refine DsE.mk [_, _, _] rfl ?_)
  all_goals rfl
 | cons x r =>
  have hlen : (x :: r).length = r.length + 1 := rfl
  repeat' ((conv => whnf); first | refine aw.data ?_ | with_reducible refine Br.bt fun _ => ?_ | refine rgE ?_ | refine Cd.mk rfl ?_ | refine Br.t ?_ | refine Br.f ?_ | with_reducible refine Br.dec (fun _ => ?_) (fun _ => ?_) | with_reducible refine Br.br (fun _ => ?_) (fun _ => ?_) | refine Br.mk (fun _ => ?_) (fun _ => ?_) | refine an.mk _ (az _ _ (by omega)) ?_ | refine an.mk _ (a1 _ _ (by omega)) ?_ | refine an.mk _ (cp _ _ _ (by first | with_reducible exact ae _ | with_reducible exact ab _ | exact ae _ | exact ab _ | rfl) (by first | omega | (simp only [List.length_set]; omega))) ?_ | refine an.mk _ rfl ?_ | refine And.intro (fun _ => ?_) ?_ | (refine TkE.fL ?_; (conv => whnf); fail_if_success (show ag _ _)) | refine TkE.mk _ rfl rfl ?_ | refine Res.mk ?_ | refine a7.mk (by repeat first | exact True.intro | refine And.intro (by kernel_rfl) ?_) ?_ | refine DsE.mk (a8 _) rfl ?_ | refine DsE.mk [] rfl ?_ | refine ai.cu _ _ ?_ | ((with_reducible refine EqE.idT ?_); first | ((conv => arg 1; simp only [ak, List.toList_toArray, ao, af, aa, Int.toNat_natCast, Int.toNat_zero, Int.toNat_one, b3, b4, List.drop_zero, Nat.sub_zero, List.cons_append, List.nil_append]); refine EqE.mk _ rfl ?_) | refine EqE.mk _ rfl ?_) | ((with_reducible refine EqE.idP ?_); first | ((conv => arg 1; simp only [ak, List.toList_toArray, bx, bz]); refine EqE.mk _ rfl ?_) | refine EqE.mk _ rfl ?_) | ((with_reducible refine EqE.idN ?_); first | ((conv => arg 1; simp only [ak, List.toList_toArray, aa, ba, Int.toNat_natCast, Int.toNat_zero, Int.toNat_one, List.length_cons, List.length_nil, Nat.zero_add]); refine EqE.mk _ rfl ?_)) | ((with_reducible refine EqE.idW ?_); first | with_reducible refine EqE.mk _ (ar _) ?_ | with_reducible refine EqE.mk _ (dy _ _ (by omega)) ?_ | with_reducible refine EqE.mk _ (b6 _ (by omega)) ?_ | with_reducible refine EqE.mk _ (eh _ _ (by omega) (by omega)) ?_ | with_reducible refine EqE.mk _ (eg _ _ (by omega)) ?_ | with_reducible refine EqE.mk _ (ei _ _ (by omega) (by omega)) ?_ | with_reducible refine EqE.mk _ (c8 _ (by omega)) ?_ | with_reducible refine EqE.mk _ (di _ (by omega)) ?_ | with_reducible refine EqE.mk _ (bd _ (by omega)) ?_ | with_reducible refine EqE.mk _ (ek _ _ (by omega) (by omega)) ?_ | with_reducible refine EqE.mk _ (gl _ _ (by omega) (by omega)) ?_ | refine EqE.mk _ (dx _ 32 (by omega)) ?_ | with_reducible refine EqE.mk _ (cl _) ?_ | with_reducible refine EqE.mk _ (gu _) ?_ | with_reducible refine EqE.mk _ (ed _ (by omega)) ?_ | with_reducible refine EqE.mk _ (a6 _ (by omega)) ?_ | with_reducible refine EqE.mk _ (aq _ (by omega)) ?_ | with_reducible refine EqE.mk _ (n_iadd _ _ (by omega)) ?_ | with_reducible refine EqE.mk _ (wrap_u64 (by omega) (by omega)) ?_ | with_reducible refine EqE.mk _ (wrap_u32 _) ?_ | with_reducible refine EqE.mk _ (ah (by omega) (by omega)) ?_ | refine EqE.mk _ rfl ?_) | ((with_reducible refine EqE.idF ?_); first | with_reducible refine EqE.mk _ (cf _) ?_ | with_reducible refine EqE.mk _ (cx _ _ (by omega)) ?_ | with_reducible refine EqE.mk _ (bq _ _ (by omega)) ?_ | with_reducible refine EqE.mk _ (bg _) ?_ | refine EqE.mk _ (aj _ 4294967296 _ _ rfl) ?_ | refine EqE.mk _ (aj _ 65536 _ _ rfl) ?_ | refine EqE.mk _ (aj _ 256 _ _ rfl) ?_ | refine EqE.mk _ (aj _ 134217728 _ _ rfl) ?_ | refine EqE.mk _ (aj _ 2 _ _ rfl) ?_ | refine EqE.mk _ (aj _ 16 _ _ rfl) ?_ | refine EqE.mk _ rfl ?_) | ((with_reducible refine EqE.idM ?_); first | refine EqE.mk _ (bn _ 32) ?_ | refine EqE.mk _ (bn _ _) ?_ | refine EqE.mk _ rfl ?_) | ((with_reducible refine EqE.idI ?_); first | refine EqE.mk _ (gq _) ?_ | with_reducible refine EqE.mk _ (b8 _ _) ?_ | refine EqE.mk _ (max_eq _ _) ?_ | refine EqE.mk _ (min_eq _ _) ?_) | ((with_reducible refine EqE.idS ?_); first | refine EqE.mk _ (bl _ _ _ _ (by first | with_reducible exact ae _ | with_reducible exact ab _ | exact ae _ | exact ab _ | rfl) (by first | omega | (simp only [List.length_set]; omega)) (by omega)) ?_ | refine EqE.mk _ (dh _ _ _ _ (by first | with_reducible exact ae _ | with_reducible exact ab _ | exact ae _ | exact ab _ | rfl) (by omega) (by omega) (by omega)) ?_ | (refine EqE.fP ?_; (conv => whnf); fail_if_success (show ag _ _)) | refine EqE.mk _ rfl ?_) | ((with_reducible refine EqE.idA ?_); first | refine EqE.mk _ (cc _) ?_ | refine EqE.mk _ (dd _ _) ?_ | refine EqE.mk _ rfl ?_) | ((with_reducible refine EqE.idR ?_); first | refine EqE.mk _ (b7 _) ?_ | refine EqE.mk _ rfl ?_) | ((with_reducible refine EqE.idL ?_); first | refine EqE.mk _ (av _ _ _ _ (by omega) (by omega) rfl) ?_ | refine EqE.mk _ (bh _ _ (by omega)) ?_ | refine EqE.mk _ (bo _ _ _ (by omega) (by omega) (by omega)) ?_ | refine EqE.mk _ rfl ?_) | refine EqE.mk _ rfl ?_ | refine Cd.ro ?_ | refine Cd.dc ?_ | refine Cd.ob ?_ | refine Cd.ol ?_ | refine Cd.mk ⟨rfl, rfl⟩ ?_ | refine Cd.mk (bc _) ?_ | refine Cd.om ?_ | refine Cd.mk ?_ ?_ | refine DsE.mk [_] rfl ?_ | refine DsE.mk [_, _, _] rfl ?_)
  show D.bool _ = D.bool _
  congr 1
  by_cases hx : x = 45 <;> simp [hx]
theorem wx (l : List UInt8) (hl : l.length < 4611686018427387904) : Sim Tryz.prog G0 true 128 [.str (bst l), .str ⟨#[45]⟩] (.bool (decide (l.head? = some 45))) := by
 refine ck ax Tryz.func128 ?_
 repeat' ((conv => whnf); first | refine aw.data ?_ | refine cE ((akj l hl)) ?_ | refine rgE ?_ | refine Cd.mk rfl ?_ | refine Br.t ?_ | refine Br.f ?_ | with_reducible refine Br.dec (fun _ => ?_) (fun _ => ?_) | with_reducible refine Br.br (fun _ => ?_) (fun _ => ?_) | refine Br.mk (fun _ => ?_) (fun _ => ?_) | refine an.mk _ (az _ _ (by omega)) ?_ | refine an.mk _ (a1 _ _ (by omega)) ?_ | refine an.mk _ (cp _ _ _ (by first | with_reducible exact ae _ | with_reducible exact ab _ | exact ae _ | exact ab _ | rfl) (by first | omega | (simp only [List.length_set]; omega))) ?_ | refine an.mk _ rfl ?_ | refine And.intro (fun _ => ?_) ?_ | (refine TkE.fL ?_; (conv => whnf); fail_if_success (show ag _ _)) | refine TkE.mk _ rfl rfl ?_ | refine Res.mk ?_ | refine a7.mk (by repeat first | exact True.intro | refine And.intro (by kernel_rfl) ?_) ?_ | refine DsE.mk (a8 _) rfl ?_ | refine DsE.mk [] rfl ?_ | refine ai.cu _ _ ?_ | ((with_reducible refine EqE.idT ?_); first | ((conv => arg 1; simp only [ak, List.toList_toArray, ao, af, aa, Int.toNat_natCast, Int.toNat_zero, Int.toNat_one, b3, b4, List.drop_zero, Nat.sub_zero, List.cons_append, List.nil_append]); refine EqE.mk _ rfl ?_) | refine EqE.mk _ rfl ?_) | ((with_reducible refine EqE.idP ?_); first | ((conv => arg 1; simp only [ak, List.toList_toArray, bx, bz]); refine EqE.mk _ rfl ?_) | refine EqE.mk _ rfl ?_) | ((with_reducible refine EqE.idN ?_); first | ((conv => arg 1; simp only [ak, List.toList_toArray, aa, ba, Int.toNat_natCast, Int.toNat_zero, Int.toNat_one, List.length_cons, List.length_nil, Nat.zero_add]); refine EqE.mk _ rfl ?_)) | ((with_reducible refine EqE.idW ?_); first | with_reducible refine EqE.mk _ (ar _) ?_ | with_reducible refine EqE.mk _ (dy _ _ (by omega)) ?_ | with_reducible refine EqE.mk _ (b6 _ (by omega)) ?_ | with_reducible refine EqE.mk _ (eh _ _ (by omega) (by omega)) ?_ | with_reducible refine EqE.mk _ (eg _ _ (by omega)) ?_ | with_reducible refine EqE.mk _ (ei _ _ (by omega) (by omega)) ?_ | with_reducible refine EqE.mk _ (c8 _ (by omega)) ?_ | with_reducible refine EqE.mk _ (di _ (by omega)) ?_ | with_reducible refine EqE.mk _ (bd _ (by omega)) ?_ | with_reducible refine EqE.mk _ (ek _ _ (by omega) (by omega)) ?_ | with_reducible refine EqE.mk _ (gl _ _ (by omega) (by omega)) ?_ | refine EqE.mk _ (dx _ 32 (by omega)) ?_ | with_reducible refine EqE.mk _ (cl _) ?_ | with_reducible refine EqE.mk _ (gu _) ?_ | with_reducible refine EqE.mk _ (ed _ (by omega)) ?_ | with_reducible refine EqE.mk _ (a6 _ (by omega)) ?_ | with_reducible refine EqE.mk _ (aq _ (by omega)) ?_ | with_reducible refine EqE.mk _ (n_iadd _ _ (by omega)) ?_ | with_reducible refine EqE.mk _ (wrap_u64 (by omega) (by omega)) ?_ | with_reducible refine EqE.mk _ (wrap_u32 _) ?_ | with_reducible refine EqE.mk _ (ah (by omega) (by omega)) ?_ | refine EqE.mk _ rfl ?_) | ((with_reducible refine EqE.idF ?_); first | with_reducible refine EqE.mk _ (cf _) ?_ | with_reducible refine EqE.mk _ (cx _ _ (by omega)) ?_ | with_reducible refine EqE.mk _ (bq _ _ (by omega)) ?_ | with_reducible refine EqE.mk _ (bg _) ?_ | refine EqE.mk _ (aj _ 4294967296 _ _ rfl) ?_ | refine EqE.mk _ (aj _ 65536 _ _ rfl) ?_ | refine EqE.mk _ (aj _ 256 _ _ rfl) ?_ | refine EqE.mk _ (aj _ 134217728 _ _ rfl) ?_ | refine EqE.mk _ (aj _ 2 _ _ rfl) ?_ | refine EqE.mk _ (aj _ 16 _ _ rfl) ?_ | refine EqE.mk _ rfl ?_) | ((with_reducible refine EqE.idM ?_); first | refine EqE.mk _ (bn _ 32) ?_ | refine EqE.mk _ (bn _ _) ?_ | refine EqE.mk _ rfl ?_) | ((with_reducible refine EqE.idI ?_); first | refine EqE.mk _ (gq _) ?_ | with_reducible refine EqE.mk _ (b8 _ _) ?_ | refine EqE.mk _ (max_eq _ _) ?_ | refine EqE.mk _ (min_eq _ _) ?_) | ((with_reducible refine EqE.idS ?_); first | refine EqE.mk _ (bl _ _ _ _ (by first | with_reducible exact ae _ | with_reducible exact ab _ | exact ae _ | exact ab _ | rfl) (by first | omega | (simp only [List.length_set]; omega)) (by omega)) ?_ | refine EqE.mk _ (dh _ _ _ _ (by first | with_reducible exact ae _ | with_reducible exact ab _ | exact ae _ | exact ab _ | rfl) (by omega) (by omega) (by omega)) ?_ | (refine EqE.fP ?_; (conv => whnf); fail_if_success (show ag _ _)) | refine EqE.mk _ rfl ?_) | ((with_reducible refine EqE.idA ?_); first | refine EqE.mk _ (cc _) ?_ | refine EqE.mk _ (dd _ _) ?_ | refine EqE.mk _ rfl ?_) | ((with_reducible refine EqE.idR ?_); first | refine EqE.mk _ (b7 _) ?_ | refine EqE.mk _ rfl ?_) | ((with_reducible refine EqE.idL ?_); first | refine EqE.mk _ (av _ _ _ _ (by omega) (by omega) rfl) ?_ | refine EqE.mk _ (bh _ _ (by omega)) ?_ | refine EqE.mk _ (bo _ _ _ (by omega) (by omega) (by omega)) ?_ | refine EqE.mk _ rfl ?_) | refine EqE.mk _ rfl ?_ | refine Cd.ro ?_ | refine Cd.dc ?_ | refine Cd.ob ?_ | refine Cd.ol ?_ | refine Cd.mk ⟨rfl, rfl⟩ ?_ | refine Cd.mk (bc _) ?_ | refine Cd.om ?_ | refine Cd.mk ?_ ?_ | refine DsE.mk [_] rfl ?_ | refine DsE.mk [_, _, _] rfl ?_)
 rfl
def oc (l : List UInt8) (i : Nat) : Bool := decide (i < l.length) && jy (nth 0 l i)
set_option maxHeartbeats 1000000 in
theorem th (l : List UInt8) (i : Nat) (hl : l.length < 4611686018427387904) (hi : i < 4611686018427387904) : Sim Tryz.prog G0 true 129 [.str (bst l), .int .i64 i] (.bool (oc l i)) := by
 refine ck ax Tryz.func129 ?_
 repeat' ((conv => whnf); first | refine aw.data ?_ | refine rgE ?_ | refine Cd.mk rfl ?_ | refine Br.t ?_ | refine Br.f ?_ | with_reducible refine Br.dec (fun _ => ?_) (fun _ => ?_) | with_reducible refine Br.br (fun _ => ?_) (fun _ => ?_) | refine Br.mk (fun _ => ?_) (fun _ => ?_) | refine an.mk _ (az _ _ (by omega)) ?_ | refine an.mk _ (a1 _ _ (by omega)) ?_ | refine an.mk _ (cp _ _ _ (by first | with_reducible exact ae _ | with_reducible exact ab _ | exact ae _ | exact ab _ | rfl) (by first | omega | (simp only [List.length_set]; omega))) ?_ | refine an.mk _ rfl ?_ | refine And.intro (fun _ => ?_) ?_ | (refine TkE.fL ?_; (conv => whnf); fail_if_success (show ag _ _)) | refine TkE.mk _ rfl rfl ?_ | refine Res.mk ?_ | refine a7.mk (by repeat first | exact True.intro | refine And.intro (by kernel_rfl) ?_) ?_ | refine DsE.mk (a8 _) rfl ?_ | refine DsE.mk [] rfl ?_ | refine ai.cu _ _ ?_ | ((with_reducible refine EqE.idT ?_); first | ((conv => arg 1; simp only [ak, List.toList_toArray, ao, af, aa, Int.toNat_natCast, Int.toNat_zero, Int.toNat_one, b3, b4, List.drop_zero, Nat.sub_zero, List.cons_append, List.nil_append]); refine EqE.mk _ rfl ?_) | refine EqE.mk _ rfl ?_) | ((with_reducible refine EqE.idP ?_); first | ((conv => arg 1; simp only [ak, List.toList_toArray, bx, bz]); refine EqE.mk _ rfl ?_) | refine EqE.mk _ rfl ?_) | ((with_reducible refine EqE.idN ?_); first | ((conv => arg 1; simp only [ak, List.toList_toArray, aa, ba, Int.toNat_natCast, Int.toNat_zero, Int.toNat_one, List.length_cons, List.length_nil, Nat.zero_add]); refine EqE.mk _ rfl ?_)) | ((with_reducible refine EqE.idW ?_); first | with_reducible refine EqE.mk _ (ar _) ?_ | with_reducible refine EqE.mk _ (dy _ _ (by omega)) ?_ | with_reducible refine EqE.mk _ (b6 _ (by omega)) ?_ | with_reducible refine EqE.mk _ (eh _ _ (by omega) (by omega)) ?_ | with_reducible refine EqE.mk _ (eg _ _ (by omega)) ?_ | with_reducible refine EqE.mk _ (ei _ _ (by omega) (by omega)) ?_ | with_reducible refine EqE.mk _ (c8 _ (by omega)) ?_ | with_reducible refine EqE.mk _ (di _ (by omega)) ?_ | with_reducible refine EqE.mk _ (bd _ (by omega)) ?_ | with_reducible refine EqE.mk _ (ek _ _ (by omega) (by omega)) ?_ | with_reducible refine EqE.mk _ (gl _ _ (by omega) (by omega)) ?_ | refine EqE.mk _ (dx _ 32 (by omega)) ?_ | with_reducible refine EqE.mk _ (cl _) ?_ | with_reducible refine EqE.mk _ (gu _) ?_ | with_reducible refine EqE.mk _ (ed _ (by omega)) ?_ | with_reducible refine EqE.mk _ (a6 _ (by omega)) ?_ | with_reducible refine EqE.mk _ (aq _ (by omega)) ?_ | with_reducible refine EqE.mk _ (n_iadd _ _ (by omega)) ?_ | with_reducible refine EqE.mk _ (wrap_u64 (by omega) (by omega)) ?_ | with_reducible refine EqE.mk _ (wrap_u32 _) ?_ | with_reducible refine EqE.mk _ (ah (by omega) (by omega)) ?_ | refine EqE.mk _ rfl ?_) | ((with_reducible refine EqE.idF ?_); first | with_reducible refine EqE.mk _ (cf _) ?_ | with_reducible refine EqE.mk _ (cx _ _ (by omega)) ?_ | with_reducible refine EqE.mk _ (bq _ _ (by omega)) ?_ | with_reducible refine EqE.mk _ (bg _) ?_ | refine EqE.mk _ (aj _ 4294967296 _ _ rfl) ?_ | refine EqE.mk _ (aj _ 65536 _ _ rfl) ?_ | refine EqE.mk _ (aj _ 256 _ _ rfl) ?_ | refine EqE.mk _ (aj _ 134217728 _ _ rfl) ?_ | refine EqE.mk _ (aj _ 2 _ _ rfl) ?_ | refine EqE.mk _ (aj _ 16 _ _ rfl) ?_ | refine EqE.mk _ rfl ?_) | ((with_reducible refine EqE.idM ?_); first | refine EqE.mk _ (bn _ 32) ?_ | refine EqE.mk _ (bn _ _) ?_ | refine EqE.mk _ rfl ?_) | ((with_reducible refine EqE.idI ?_); first | refine EqE.mk _ (gq _) ?_ | with_reducible refine EqE.mk _ (b8 _ _) ?_ | refine EqE.mk _ (max_eq _ _) ?_ | refine EqE.mk _ (min_eq _ _) ?_) | ((with_reducible refine EqE.idS ?_); first | refine EqE.mk _ (bl _ _ _ _ (by first | with_reducible exact ae _ | with_reducible exact ab _ | exact ae _ | exact ab _ | rfl) (by first | omega | (simp only [List.length_set]; omega)) (by omega)) ?_ | refine EqE.mk _ (dh _ _ _ _ (by first | with_reducible exact ae _ | with_reducible exact ab _ | exact ae _ | exact ab _ | rfl) (by omega) (by omega) (by omega)) ?_ | (refine EqE.fP ?_; (conv => whnf); fail_if_success (show ag _ _)) | refine EqE.mk _ rfl ?_) | ((with_reducible refine EqE.idA ?_); first | refine EqE.mk _ (cc _) ?_ | refine EqE.mk _ (dd _ _) ?_ | refine EqE.mk _ rfl ?_) | ((with_reducible refine EqE.idR ?_); first | refine EqE.mk _ (b7 _) ?_ | refine EqE.mk _ rfl ?_) | ((with_reducible refine EqE.idL ?_); first | refine EqE.mk _ (av _ _ _ _ (by omega) (by omega) rfl) ?_ | refine EqE.mk _ (bh _ _ (by omega)) ?_ | refine EqE.mk _ (bo _ _ _ (by omega) (by omega) (by omega)) ?_ | refine EqE.mk _ rfl ?_) | refine EqE.mk _ rfl ?_ | refine Cd.ro ?_ | refine Cd.dc ?_ | refine Cd.ob ?_ | refine Cd.ol ?_ | refine Cd.mk ⟨rfl, rfl⟩ ?_ | refine Cd.mk (bc _) ?_ | refine Cd.om ?_ | refine Cd.mk ?_ ?_ | refine DsE.mk [_] rfl ?_ | refine DsE.mk [_, _, _] rfl ?_)
 all_goals (show D.bool _ = D.bool _; congr 1; unfold oc jy; rw [Bool.eq_iff_iff]; simp; try omega)
theorem vn (l : List UInt8) (hl : l.length < 4611686018427387904) : Sim Tryz.prog G0 true 56 [.str (bst l)] (.int .i64 (nd l)) := by
 refine ck ax Tryz.func56 ?_
 repeat' ((conv => whnf); first | refine aw.data ?_ | refine rgE ?_ | refine Cd.mk rfl ?_ | refine Br.t ?_ | refine Br.f ?_ | with_reducible refine Br.dec (fun _ => ?_) (fun _ => ?_) | with_reducible refine Br.br (fun _ => ?_) (fun _ => ?_) | refine Br.mk (fun _ => ?_) (fun _ => ?_) | refine an.mk _ (az _ _ (by omega)) ?_ | refine an.mk _ (a1 _ _ (by omega)) ?_ | refine an.mk _ (cp _ _ _ (by first | with_reducible exact ae _ | with_reducible exact ab _ | exact ae _ | exact ab _ | rfl) (by first | omega | (simp only [List.length_set]; omega))) ?_ | refine an.mk _ rfl ?_ | refine And.intro (fun _ => ?_) ?_ | (refine TkE.fL ?_; (conv => whnf); fail_if_success (show ag _ _)) | refine TkE.mk _ rfl rfl ?_ | refine Res.mk ?_ | refine a7.mk (by repeat first | exact True.intro | refine And.intro (by kernel_rfl) ?_) ?_ | refine DsE.mk (a8 _) rfl ?_ | refine DsE.mk [] rfl ?_ | refine ai.cu _ _ ?_ | ((with_reducible refine EqE.idT ?_); first | ((conv => arg 1; simp only [ak, List.toList_toArray, ao, af, aa, Int.toNat_natCast, Int.toNat_zero, Int.toNat_one, b3, b4, List.drop_zero, Nat.sub_zero, List.cons_append, List.nil_append]); refine EqE.mk _ rfl ?_) | refine EqE.mk _ rfl ?_) | ((with_reducible refine EqE.idP ?_); first | ((conv => arg 1; simp only [ak, List.toList_toArray, bx, bz]); refine EqE.mk _ rfl ?_) | refine EqE.mk _ rfl ?_) | ((with_reducible refine EqE.idN ?_); first | ((conv => arg 1; simp only [ak, List.toList_toArray, aa, ba, Int.toNat_natCast, Int.toNat_zero, Int.toNat_one, List.length_cons, List.length_nil, Nat.zero_add]); refine EqE.mk _ rfl ?_)) | ((with_reducible refine EqE.idW ?_); first | with_reducible refine EqE.mk _ (ar _) ?_ | with_reducible refine EqE.mk _ (dy _ _ (by omega)) ?_ | with_reducible refine EqE.mk _ (b6 _ (by omega)) ?_ | with_reducible refine EqE.mk _ (eh _ _ (by omega) (by omega)) ?_ | with_reducible refine EqE.mk _ (eg _ _ (by omega)) ?_ | with_reducible refine EqE.mk _ (ei _ _ (by omega) (by omega)) ?_ | with_reducible refine EqE.mk _ (c8 _ (by omega)) ?_ | with_reducible refine EqE.mk _ (di _ (by omega)) ?_ | with_reducible refine EqE.mk _ (bd _ (by omega)) ?_ | with_reducible refine EqE.mk _ (ek _ _ (by omega) (by omega)) ?_ | with_reducible refine EqE.mk _ (gl _ _ (by omega) (by omega)) ?_ | refine EqE.mk _ (dx _ 32 (by omega)) ?_ | with_reducible refine EqE.mk _ (cl _) ?_ | with_reducible refine EqE.mk _ (gu _) ?_ | with_reducible refine EqE.mk _ (ed _ (by omega)) ?_ | with_reducible refine EqE.mk _ (a6 _ (by omega)) ?_ | with_reducible refine EqE.mk _ (aq _ (by omega)) ?_ | with_reducible refine EqE.mk _ (n_iadd _ _ (by omega)) ?_ | with_reducible refine EqE.mk _ (wrap_u64 (by omega) (by omega)) ?_ | with_reducible refine EqE.mk _ (wrap_u32 _) ?_ | with_reducible refine EqE.mk _ (ah (by omega) (by omega)) ?_ | refine EqE.mk _ rfl ?_) | ((with_reducible refine EqE.idF ?_); first | with_reducible refine EqE.mk _ (cf _) ?_ | with_reducible refine EqE.mk _ (cx _ _ (by omega)) ?_ | with_reducible refine EqE.mk _ (bq _ _ (by omega)) ?_ | with_reducible refine EqE.mk _ (bg _) ?_ | refine EqE.mk _ (aj _ 4294967296 _ _ rfl) ?_ | refine EqE.mk _ (aj _ 65536 _ _ rfl) ?_ | refine EqE.mk _ (aj _ 256 _ _ rfl) ?_ | refine EqE.mk _ (aj _ 134217728 _ _ rfl) ?_ | refine EqE.mk _ (aj _ 2 _ _ rfl) ?_ | refine EqE.mk _ (aj _ 16 _ _ rfl) ?_ | refine EqE.mk _ rfl ?_) | ((with_reducible refine EqE.idM ?_); first | refine EqE.mk _ (bn _ 32) ?_ | refine EqE.mk _ (bn _ _) ?_ | refine EqE.mk _ rfl ?_) | ((with_reducible refine EqE.idI ?_); first | refine EqE.mk _ (gq _) ?_ | with_reducible refine EqE.mk _ (b8 _ _) ?_ | refine EqE.mk _ (max_eq _ _) ?_ | refine EqE.mk _ (min_eq _ _) ?_) | ((with_reducible refine EqE.idS ?_); first | refine EqE.mk _ (bl _ _ _ _ (by first | with_reducible exact ae _ | with_reducible exact ab _ | exact ae _ | exact ab _ | rfl) (by first | omega | (simp only [List.length_set]; omega)) (by omega)) ?_ | refine EqE.mk _ (dh _ _ _ _ (by first | with_reducible exact ae _ | with_reducible exact ab _ | exact ae _ | exact ab _ | rfl) (by omega) (by omega) (by omega)) ?_ | (refine EqE.fP ?_; (conv => whnf); fail_if_success (show ag _ _)) | refine EqE.mk _ rfl ?_) | ((with_reducible refine EqE.idA ?_); first | refine EqE.mk _ (cc _) ?_ | refine EqE.mk _ (dd _ _) ?_ | refine EqE.mk _ rfl ?_) | ((with_reducible refine EqE.idR ?_); first | refine EqE.mk _ (b7 _) ?_ | refine EqE.mk _ rfl ?_) | ((with_reducible refine EqE.idL ?_); first | refine EqE.mk _ (av _ _ _ _ (by omega) (by omega) rfl) ?_ | refine EqE.mk _ (bh _ _ (by omega)) ?_ | refine EqE.mk _ (bo _ _ _ (by omega) (by omega) (by omega)) ?_ | refine EqE.mk _ rfl ?_) | refine EqE.mk _ rfl ?_ | refine Cd.ro ?_ | refine Cd.dc ?_ | refine Cd.ob ?_ | refine Cd.ol ?_ | refine Cd.mk ⟨rfl, rfl⟩ ?_ | refine Cd.mk (bc _) ?_ | refine Cd.om ?_ | refine Cd.mk ?_ ?_ | refine DsE.mk [_] rfl ?_ | refine DsE.mk [_, _, _] rfl ?_)
 refine ⟨[], [0, 3], [], fun m xs h => ∃ i : Nat, m = l.length - i ∧ i ≤ l.length ∧ i + nd (l.drop i) = nd l ∧ xs = [.d (.str (bst l)), .d (.int .i64 i)] ∧ h = [],
  ⟨_, _, _, ⟨.inl rfl, rfl, rfl, by first | rfl | (repeat first | exact all_nil _ | refine cb _ _ _ _ _ ?_)⟩, 0, rfl, Nat.zero_le _, by simp, rfl, rfl⟩, ?_⟩
 rintro m xs h ⟨i, rfl, hi, hd, rfl, rfl⟩
 by_cases hlt : i < l.length
 ·have hx : l.drop i = nth 0 l i :: l.drop (i + 1) := by rw [re, List.drop_eq_getElem_cons hlt]; simp [hlt]
  cases hdg : jy (nth 0 l i) with
  | true =>
   have h1 : 48 ≤ (nth 0 l i).toNat ∧ (nth 0 l i).toNat ≤ 57 := by simpa [jy] using hdg
   repeat' ((conv => whnf); first | refine aw.data ?_ | with_reducible refine Br.bt fun _ => ?_ | refine rgE ?_ | refine Cd.mk rfl ?_ | refine Br.t ?_ | refine Br.f ?_ | with_reducible refine Br.dec (fun _ => ?_) (fun _ => ?_) | with_reducible refine Br.br (fun _ => ?_) (fun _ => ?_) | refine Br.mk (fun _ => ?_) (fun _ => ?_) | refine an.mk _ (az _ _ (by omega)) ?_ | refine an.mk _ (a1 _ _ (by omega)) ?_ | refine an.mk _ (cp _ _ _ (by first | with_reducible exact ae _ | with_reducible exact ab _ | exact ae _ | exact ab _ | rfl) (by first | omega | (simp only [List.length_set]; omega))) ?_ | refine an.mk _ rfl ?_ | refine And.intro (fun _ => ?_) ?_ | (refine TkE.fL ?_; (conv => whnf); fail_if_success (show ag _ _)) | refine TkE.mk _ rfl rfl ?_ | refine Res.mk ?_ | refine a7.mk (by repeat first | exact True.intro | refine And.intro (by kernel_rfl) ?_) ?_ | refine DsE.mk (a8 _) rfl ?_ | refine DsE.mk [] rfl ?_ | refine ai.cu _ _ ?_ | ((with_reducible refine EqE.idT ?_); first | ((conv => arg 1; simp only [ak, List.toList_toArray, ao, af, aa, Int.toNat_natCast, Int.toNat_zero, Int.toNat_one, b3, b4, List.drop_zero, Nat.sub_zero, List.cons_append, List.nil_append]); refine EqE.mk _ rfl ?_) | refine EqE.mk _ rfl ?_) | ((with_reducible refine EqE.idP ?_); first | ((conv => arg 1; simp only [ak, List.toList_toArray, bx, bz]); refine EqE.mk _ rfl ?_) | refine EqE.mk _ rfl ?_) | ((with_reducible refine EqE.idN ?_); first | ((conv => arg 1; simp only [ak, List.toList_toArray, aa, ba, Int.toNat_natCast, Int.toNat_zero, Int.toNat_one, List.length_cons, List.length_nil, Nat.zero_add]); refine EqE.mk _ rfl ?_)) | ((with_reducible refine EqE.idW ?_); first | with_reducible refine EqE.mk _ (ar _) ?_ | with_reducible refine EqE.mk _ (dy _ _ (by omega)) ?_ | with_reducible refine EqE.mk _ (b6 _ (by omega)) ?_ | with_reducible refine EqE.mk _ (eh _ _ (by omega) (by omega)) ?_ | with_reducible refine EqE.mk _ (eg _ _ (by omega)) ?_ | with_reducible refine EqE.mk _ (ei _ _ (by omega) (by omega)) ?_ | with_reducible refine EqE.mk _ (c8 _ (by omega)) ?_ | with_reducible refine EqE.mk _ (di _ (by omega)) ?_ | with_reducible refine EqE.mk _ (bd _ (by omega)) ?_ | with_reducible refine EqE.mk _ (ek _ _ (by omega) (by omega)) ?_ | with_reducible refine EqE.mk _ (gl _ _ (by omega) (by omega)) ?_ | refine EqE.mk _ (dx _ 32 (by omega)) ?_ | with_reducible refine EqE.mk _ (cl _) ?_ | with_reducible refine EqE.mk _ (gu _) ?_ | with_reducible refine EqE.mk _ (ed _ (by omega)) ?_ | with_reducible refine EqE.mk _ (a6 _ (by omega)) ?_ | with_reducible refine EqE.mk _ (aq _ (by omega)) ?_ | with_reducible refine EqE.mk _ (n_iadd _ _ (by omega)) ?_ | with_reducible refine EqE.mk _ (wrap_u64 (by omega) (by omega)) ?_ | with_reducible refine EqE.mk _ (wrap_u32 _) ?_ | with_reducible refine EqE.mk _ (ah (by omega) (by omega)) ?_ | refine EqE.mk _ rfl ?_) | ((with_reducible refine EqE.idF ?_); first | with_reducible refine EqE.mk _ (cf _) ?_ | with_reducible refine EqE.mk _ (cx _ _ (by omega)) ?_ | with_reducible refine EqE.mk _ (bq _ _ (by omega)) ?_ | with_reducible refine EqE.mk _ (bg _) ?_ | refine EqE.mk _ (aj _ 4294967296 _ _ rfl) ?_ | refine EqE.mk _ (aj _ 65536 _ _ rfl) ?_ | refine EqE.mk _ (aj _ 256 _ _ rfl) ?_ | refine EqE.mk _ (aj _ 134217728 _ _ rfl) ?_ | refine EqE.mk _ (aj _ 2 _ _ rfl) ?_ | refine EqE.mk _ (aj _ 16 _ _ rfl) ?_ | refine EqE.mk _ rfl ?_) | ((with_reducible refine EqE.idM ?_); first | refine EqE.mk _ (bn _ 32) ?_ | refine EqE.mk _ (bn _ _) ?_ | refine EqE.mk _ rfl ?_) | ((with_reducible refine EqE.idI ?_); first | refine EqE.mk _ (gq _) ?_ | with_reducible refine EqE.mk _ (b8 _ _) ?_ | refine EqE.mk _ (max_eq _ _) ?_ | refine EqE.mk _ (min_eq _ _) ?_) | ((with_reducible refine EqE.idS ?_); first | refine EqE.mk _ (bl _ _ _ _ (by first | with_reducible exact ae _ | with_reducible exact ab _ | exact ae _ | exact ab _ | rfl) (by first | omega | (simp only [List.length_set]; omega)) (by omega)) ?_ | refine EqE.mk _ (dh _ _ _ _ (by first | with_reducible exact ae _ | with_reducible exact ab _ | exact ae _ | exact ab _ | rfl) (by omega) (by omega) (by omega)) ?_ | (refine EqE.fP ?_; (conv => whnf); fail_if_success (show ag _ _)) | refine EqE.mk _ rfl ?_) | ((with_reducible refine EqE.idA ?_); first | refine EqE.mk _ (cc _) ?_ | refine EqE.mk _ (dd _ _) ?_ | refine EqE.mk _ rfl ?_) | ((with_reducible refine EqE.idR ?_); first | refine EqE.mk _ (b7 _) ?_ | refine EqE.mk _ rfl ?_) | ((with_reducible refine EqE.idL ?_); first | refine EqE.mk _ (av _ _ _ _ (by omega) (by omega) rfl) ?_ | refine EqE.mk _ (bh _ _ (by omega)) ?_ | refine EqE.mk _ (bo _ _ _ (by omega) (by omega) (by omega)) ?_ | refine EqE.mk _ rfl ?_) | refine EqE.mk _ rfl ?_ | refine Cd.ro ?_ | refine Cd.dc ?_ | refine Cd.ob ?_ | refine Cd.ol ?_ | refine Cd.mk ⟨rfl, rfl⟩ ?_ | refine Cd.mk (bc _) ?_ | refine Cd.om ?_ | refine Cd.mk ?_ ?_ | refine DsE.mk [_] rfl ?_ | refine DsE.mk [_, _, _] rfl ?_)
   exact ⟨_, ⟨i + 1, rfl, by omega, by
    rw [← hd, hx]; simp [nd, hdg]; omega, rfl, rfl⟩, by omega⟩
  | false =>
   have h1 : ¬ (48 ≤ (nth 0 l i).toNat ∧ (nth 0 l i).toNat ≤ 57) := by simpa [jy] using hdg
   have h2 : nd l = i := by rw [← hd, hx]; simp [nd, hdg]
   repeat' ((conv => whnf); first | refine aw.data ?_ | with_reducible refine Br.bt fun _ => ?_ | refine rgE ?_ | refine Cd.mk rfl ?_ | refine Br.t ?_ | refine Br.f ?_ | with_reducible refine Br.dec (fun _ => ?_) (fun _ => ?_) | with_reducible refine Br.br (fun _ => ?_) (fun _ => ?_) | refine Br.mk (fun _ => ?_) (fun _ => ?_) | refine an.mk _ (az _ _ (by omega)) ?_ | refine an.mk _ (a1 _ _ (by omega)) ?_ | refine an.mk _ (cp _ _ _ (by first | with_reducible exact ae _ | with_reducible exact ab _ | exact ae _ | exact ab _ | rfl) (by first | omega | (simp only [List.length_set]; omega))) ?_ | refine an.mk _ rfl ?_ | refine And.intro (fun _ => ?_) ?_ | (refine TkE.fL ?_; (conv => whnf); fail_if_success (show ag _ _)) | refine TkE.mk _ rfl rfl ?_ | refine Res.mk ?_ | refine a7.mk (by repeat first | exact True.intro | refine And.intro (by kernel_rfl) ?_) ?_ | refine DsE.mk (a8 _) rfl ?_ | refine DsE.mk [] rfl ?_ | refine ai.cu _ _ ?_ | ((with_reducible refine EqE.idT ?_); first | ((conv => arg 1; simp only [ak, List.toList_toArray, ao, af, aa, Int.toNat_natCast, Int.toNat_zero, Int.toNat_one, b3, b4, List.drop_zero, Nat.sub_zero, List.cons_append, List.nil_append]); refine EqE.mk _ rfl ?_) | refine EqE.mk _ rfl ?_) | ((with_reducible refine EqE.idP ?_); first | ((conv => arg 1; simp only [ak, List.toList_toArray, bx, bz]); refine EqE.mk _ rfl ?_) | refine EqE.mk _ rfl ?_) | ((with_reducible refine EqE.idN ?_); first | ((conv => arg 1; simp only [ak, List.toList_toArray, aa, ba, Int.toNat_natCast, Int.toNat_zero, Int.toNat_one, List.length_cons, List.length_nil, Nat.zero_add]); refine EqE.mk _ rfl ?_)) | ((with_reducible refine EqE.idW ?_); first | with_reducible refine EqE.mk _ (ar _) ?_ | with_reducible refine EqE.mk _ (dy _ _ (by omega)) ?_ | with_reducible refine EqE.mk _ (b6 _ (by omega)) ?_ | with_reducible refine EqE.mk _ (eh _ _ (by omega) (by omega)) ?_ | with_reducible refine EqE.mk _ (eg _ _ (by omega)) ?_ | with_reducible refine EqE.mk _ (ei _ _ (by omega) (by omega)) ?_ | with_reducible refine EqE.mk _ (c8 _ (by omega)) ?_ | with_reducible refine EqE.mk _ (di _ (by omega)) ?_ | with_reducible refine EqE.mk _ (bd _ (by omega)) ?_ | with_reducible refine EqE.mk _ (ek _ _ (by omega) (by omega)) ?_ | with_reducible refine EqE.mk _ (gl _ _ (by omega) (by omega)) ?_ | refine EqE.mk _ (dx _ 32 (by omega)) ?_ | with_reducible refine EqE.mk _ (cl _) ?_ | with_reducible refine EqE.mk _ (gu _) ?_ | with_reducible refine EqE.mk _ (ed _ (by omega)) ?_ | with_reducible refine EqE.mk _ (a6 _ (by omega)) ?_ | with_reducible refine EqE.mk _ (aq _ (by omega)) ?_ | with_reducible refine EqE.mk _ (n_iadd _ _ (by omega)) ?_ | with_reducible refine EqE.mk _ (wrap_u64 (by omega) (by omega)) ?_ | with_reducible refine EqE.mk _ (wrap_u32 _) ?_ | with_reducible refine EqE.mk _ (ah (by omega) (by omega)) ?_ | refine EqE.mk _ rfl ?_) | ((with_reducible refine EqE.idF ?_); first | with_reducible refine EqE.mk _ (cf _) ?_ | with_reducible refine EqE.mk _ (cx _ _ (by omega)) ?_ | with_reducible refine EqE.mk _ (bq _ _ (by omega)) ?_ | with_reducible refine EqE.mk _ (bg _) ?_ | refine EqE.mk _ (aj _ 4294967296 _ _ rfl) ?_ | refine EqE.mk _ (aj _ 65536 _ _ rfl) ?_ | refine EqE.mk _ (aj _ 256 _ _ rfl) ?_ | refine EqE.mk _ (aj _ 134217728 _ _ rfl) ?_ | refine EqE.mk _ (aj _ 2 _ _ rfl) ?_ | refine EqE.mk _ (aj _ 16 _ _ rfl) ?_ | refine EqE.mk _ rfl ?_) | ((with_reducible refine EqE.idM ?_); first | refine EqE.mk _ (bn _ 32) ?_ | refine EqE.mk _ (bn _ _) ?_ | refine EqE.mk _ rfl ?_) | ((with_reducible refine EqE.idI ?_); first | refine EqE.mk _ (gq _) ?_ | with_reducible refine EqE.mk _ (b8 _ _) ?_ | refine EqE.mk _ (max_eq _ _) ?_ | refine EqE.mk _ (min_eq _ _) ?_) | ((with_reducible refine EqE.idS ?_); first | refine EqE.mk _ (bl _ _ _ _ (by first | with_reducible exact ae _ | with_reducible exact ab _ | exact ae _ | exact ab _ | rfl) (by first | omega | (simp only [List.length_set]; omega)) (by omega)) ?_ | refine EqE.mk _ (dh _ _ _ _ (by first | with_reducible exact ae _ | with_reducible exact ab _ | exact ae _ | exact ab _ | rfl) (by omega) (by omega) (by omega)) ?_ | (refine EqE.fP ?_; (conv => whnf); fail_if_success (show ag _ _)) | refine EqE.mk _ rfl ?_) | ((with_reducible refine EqE.idA ?_); first | refine EqE.mk _ (cc _) ?_ | refine EqE.mk _ (dd _ _) ?_ | refine EqE.mk _ rfl ?_) | ((with_reducible refine EqE.idR ?_); first | refine EqE.mk _ (b7 _) ?_ | refine EqE.mk _ rfl ?_) | ((with_reducible refine EqE.idL ?_); first | refine EqE.mk _ (av _ _ _ _ (by omega) (by omega) rfl) ?_ | refine EqE.mk _ (bh _ _ (by omega)) ?_ | refine EqE.mk _ (bo _ _ _ (by omega) (by omega) (by omega)) ?_ | refine EqE.mk _ rfl ?_) | refine EqE.mk _ rfl ?_ | refine Cd.ro ?_ | refine Cd.dc ?_ | refine Cd.ob ?_ | refine Cd.ol ?_ | refine Cd.mk ⟨rfl, rfl⟩ ?_ | refine Cd.mk (bc _) ?_ | refine Cd.om ?_ | refine Cd.mk ?_ ?_ | refine DsE.mk [_] rfl ?_ | refine DsE.mk [_, _, _] rfl ?_)
   all_goals first | (exfalso; omega) | (show D.int _ _ = D.int _ _; rw [h2])
 ·have h2 : nd l = i := by rw [← hd, List.drop_eq_nil_of_le (by omega)]; rfl
  repeat' ((conv => whnf); first | refine aw.data ?_ | with_reducible refine Br.bf fun _ => ?_ | refine rgE ?_ | refine Cd.mk rfl ?_ | refine Br.t ?_ | refine Br.f ?_ | with_reducible refine Br.dec (fun _ => ?_) (fun _ => ?_) | with_reducible refine Br.br (fun _ => ?_) (fun _ => ?_) | refine Br.mk (fun _ => ?_) (fun _ => ?_) | refine an.mk _ (az _ _ (by omega)) ?_ | refine an.mk _ (a1 _ _ (by omega)) ?_ | refine an.mk _ (cp _ _ _ (by first | with_reducible exact ae _ | with_reducible exact ab _ | exact ae _ | exact ab _ | rfl) (by first | omega | (simp only [List.length_set]; omega))) ?_ | refine an.mk _ rfl ?_ | refine And.intro (fun _ => ?_) ?_ | (refine TkE.fL ?_; (conv => whnf); fail_if_success (show ag _ _)) | refine TkE.mk _ rfl rfl ?_ | refine Res.mk ?_ | refine a7.mk (by repeat first | exact True.intro | refine And.intro (by kernel_rfl) ?_) ?_ | refine DsE.mk (a8 _) rfl ?_ | refine DsE.mk [] rfl ?_ | refine ai.cu _ _ ?_ | ((with_reducible refine EqE.idT ?_); first | ((conv => arg 1; simp only [ak, List.toList_toArray, ao, af, aa, Int.toNat_natCast, Int.toNat_zero, Int.toNat_one, b3, b4, List.drop_zero, Nat.sub_zero, List.cons_append, List.nil_append]); refine EqE.mk _ rfl ?_) | refine EqE.mk _ rfl ?_) | ((with_reducible refine EqE.idP ?_); first | ((conv => arg 1; simp only [ak, List.toList_toArray, bx, bz]); refine EqE.mk _ rfl ?_) | refine EqE.mk _ rfl ?_) | ((with_reducible refine EqE.idN ?_); first | ((conv => arg 1; simp only [ak, List.toList_toArray, aa, ba, Int.toNat_natCast, Int.toNat_zero, Int.toNat_one, List.length_cons, List.length_nil, Nat.zero_add]); refine EqE.mk _ rfl ?_)) | ((with_reducible refine EqE.idW ?_); first | with_reducible refine EqE.mk _ (ar _) ?_ | with_reducible refine EqE.mk _ (dy _ _ (by omega)) ?_ | with_reducible refine EqE.mk _ (b6 _ (by omega)) ?_ | with_reducible refine EqE.mk _ (eh _ _ (by omega) (by omega)) ?_ | with_reducible refine EqE.mk _ (eg _ _ (by omega)) ?_ | with_reducible refine EqE.mk _ (ei _ _ (by omega) (by omega)) ?_ | with_reducible refine EqE.mk _ (c8 _ (by omega)) ?_ | with_reducible refine EqE.mk _ (di _ (by omega)) ?_ | with_reducible refine EqE.mk _ (bd _ (by omega)) ?_ | with_reducible refine EqE.mk _ (ek _ _ (by omega) (by omega)) ?_ | with_reducible refine EqE.mk _ (gl _ _ (by omega) (by omega)) ?_ | refine EqE.mk _ (dx _ 32 (by omega)) ?_ | with_reducible refine EqE.mk _ (cl _) ?_ | with_reducible refine EqE.mk _ (gu _) ?_ | with_reducible refine EqE.mk _ (ed _ (by omega)) ?_ | with_reducible refine EqE.mk _ (a6 _ (by omega)) ?_ | with_reducible refine EqE.mk _ (aq _ (by omega)) ?_ | with_reducible refine EqE.mk _ (n_iadd _ _ (by omega)) ?_ | with_reducible refine EqE.mk _ (wrap_u64 (by omega) (by omega)) ?_ | with_reducible refine EqE.mk _ (wrap_u32 _) ?_ | with_reducible refine EqE.mk _ (ah (by omega) (by omega)) ?_ | refine EqE.mk _ rfl ?_) | ((with_reducible refine EqE.idF ?_); first | with_reducible refine EqE.mk _ (cf _) ?_ | with_reducible refine EqE.mk _ (cx _ _ (by omega)) ?_ | with_reducible refine EqE.mk _ (bq _ _ (by omega)) ?_ | with_reducible refine EqE.mk _ (bg _) ?_ | refine EqE.mk _ (aj _ 4294967296 _ _ rfl) ?_ | refine EqE.mk _ (aj _ 65536 _ _ rfl) ?_ | refine EqE.mk _ (aj _ 256 _ _ rfl) ?_ | refine EqE.mk _ (aj _ 134217728 _ _ rfl) ?_ | refine EqE.mk _ (aj _ 2 _ _ rfl) ?_ | refine EqE.mk _ (aj _ 16 _ _ rfl) ?_ | refine EqE.mk _ rfl ?_) | ((with_reducible refine EqE.idM ?_); first | refine EqE.mk _ (bn _ 32) ?_ | refine EqE.mk _ (bn _ _) ?_ | refine EqE.mk _ rfl ?_) | ((with_reducible refine EqE.idI ?_); first | refine EqE.mk _ (gq _) ?_ | with_reducible refine EqE.mk _ (b8 _ _) ?_ | refine EqE.mk _ (max_eq _ _) ?_ | refine EqE.mk _ (min_eq _ _) ?_) | ((with_reducible refine EqE.idS ?_); first | refine EqE.mk _ (bl _ _ _ _ (by first | with_reducible exact ae _ | with_reducible exact ab _ | exact ae _ | exact ab _ | rfl) (by first | omega | (simp only [List.length_set]; omega)) (by omega)) ?_ | refine EqE.mk _ (dh _ _ _ _ (by first | with_reducible exact ae _ | with_reducible exact ab _ | exact ae _ | exact ab _ | rfl) (by omega) (by omega) (by omega)) ?_ | (refine EqE.fP ?_; (conv => whnf); fail_if_success (show ag _ _)) | refine EqE.mk _ rfl ?_) | ((with_reducible refine EqE.idA ?_); first | refine EqE.mk _ (cc _) ?_ | refine EqE.mk _ (dd _ _) ?_ | refine EqE.mk _ rfl ?_) | ((with_reducible refine EqE.idR ?_); first | refine EqE.mk _ (b7 _) ?_ | refine EqE.mk _ rfl ?_) | ((with_reducible refine EqE.idL ?_); first | refine EqE.mk _ (av _ _ _ _ (by omega) (by omega) rfl) ?_ | refine EqE.mk _ (bh _ _ (by omega)) ?_ | refine EqE.mk _ (bo _ _ _ (by omega) (by omega) (by omega)) ?_ | refine EqE.mk _ rfl ?_) | refine EqE.mk _ rfl ?_ | refine Cd.ro ?_ | refine Cd.dc ?_ | refine Cd.ob ?_ | refine Cd.ol ?_ | refine Cd.mk ⟨rfl, rfl⟩ ?_ | refine Cd.mk (bc _) ?_ | refine Cd.om ?_ | refine Cd.mk ?_ ?_ | refine DsE.mk [_] rfl ?_ | refine DsE.mk [_, _, _] rfl ?_)
  show D.int _ _ = D.int _ _
  rw [h2]
end Go.Ev.Ar

namespace Go.Ev.Ar
open Go Go.Ev Go.Proofs
theorem ga (l : List UInt32) (hl : l.length < 2^40) : Sim Tryz.prog G0 false 146 [sl l] (sl (ofN (nv l))) := by
 refine ck ax Tryz.func146 ?_
 repeat' ((conv => whnf); first | refine rgE ?_)
 refine ⟨[], [0, 3], [], fun m xs h => m ≤ l.length ∧ nv (l.take m) = nv l ∧ ∃ i : Int, i = m ∧ xs = [.d (sl l), .d (.int .i64 i)] ∧ h = [],
  ⟨_, _, _, ⟨.inl rfl, rfl, rfl, by first | rfl | (repeat first | exact all_nil _ | refine cb _ _ _ _ _ ?_)⟩, Nat.le_refl _, by rw [List.take_length], _, rfl, rfl, rfl⟩, ?_⟩
 rintro m xs h ⟨hm, hv, i, hi, rfl, rfl⟩
 repeat' ((conv => whnf); first | refine rgE ?_ | refine Cd.mk rfl ?_ | refine Br.t ?_ | refine Br.f ?_ | with_reducible refine Br.dec (fun _ => ?_) (fun _ => ?_) | refine an.mk _ (a1 _ _ (by omega)) ?_ | refine Res.mk ?_ | refine ai.cu _ _ ?_ | ((with_reducible refine EqE.idW ?_); with_reducible refine EqE.mk _ (ah (by omega) (by omega)) ?_) | ((with_reducible refine EqE.idL ?_); refine EqE.mk _ (bo _ _ _ (by omega) (by omega) (by omega)) ?_) | refine Cd.om ?_)
 ·rename_i h0 h1
  have e : (i - 1).toNat = m - 1 := by omega
  rw [e] at h1
  refine ⟨m - 1, ⟨by omega, ?_, _, ?_, rfl, rfl⟩, by omega⟩
  ·have := bb l (m - 1)
   rw [show m - 1 + 1 = m by omega, hv, show (l.getD (m - 1) 0).toNat = 0 by omega] at this
   omega
  ·omega
 ·rename_i h0 h1
  have e : (i - 1).toNat = m - 1 := by omega
  rw [e] at h1
  show sl _ = sl _
  rw [show (i - 0).toNat = m by omega, Int.toNat_zero, List.drop_zero, ← hv, z7 (.inr ?_)]
  rw [List.length_take, Nat.min_eq_left hm]
  have : (l.take m).getD (m - 1) 0 = l.getD (m - 1) 0 := by
   simp only [List.getD_eq_getElem?_getD, List.getElem?_take]
   rw [if_pos (by omega)]
  rw [this]; omega
 ·rename_i h0
  show sl _ = sl _
  rw [show (i - 0).toNat = 0 by omega, Int.toNat_zero, List.drop_zero, ← hv, show m = 0 by omega]
  exact congrArg sl cy
theorem ur (l : List UInt32) (i : Nat) : Sim Tryz.prog G0 true 66 [sl l, .int .i64 i] (.int .u64 (at_ l i)) := by
 refine ck ax Tryz.func66 ?_
 repeat' ((conv => whnf); first | refine rgE ?_ | refine Cd.mk rfl ?_ | with_reducible refine Br.dec (fun _ => ?_) (fun _ => ?_) | refine an.mk _ (az _ _ (by omega)) ?_ | refine Res.mk ?_ | ((with_reducible refine EqE.idW ?_); with_reducible refine EqE.mk _ (ar _) ?_) | refine Cd.om ?_)
 ·show D.int _ _ = D.int _ _; rw [gi]
 ·show D.int _ _ = D.int _ _; rw [gi, kt (by omega)]; rfl
theorem af8 (a b : List UInt32) (ha : a.length < 2^40) (hb : b.length < 2^40) : Sim Tryz.prog G0 true 68 [sl a, sl b] (.bool (decide (a = b))) := by
 refine ck ax Tryz.func68 ?_
 repeat' ((conv => whnf); first | refine rgE ?_ | refine Cd.mk rfl ?_ | with_reducible refine Br.br (fun _ => ?_) (fun _ => ?_) | refine Res.mk ?_)
 ·show D.bool _ = D.bool _
  rw [decide_eq_false]; intro e; subst e; omega
 rename_i h0
 skip
 refine ⟨[], [0, 1, 5], [], fun m xs h => ∃ i : Nat, m = a.length - i ∧ i ≤ a.length ∧ a.take i = b.take i ∧ xs = [.d (sl a), .d (sl b), .d (.int .i64 i)] ∧ h = [],
  ⟨_, _, _, ⟨.inl rfl, rfl, rfl, by first | rfl | (repeat first | exact all_nil _ | refine cb _ _ _ _ _ ?_)⟩, 0, rfl, by omega, rfl, rfl, rfl⟩, ?_⟩
 rintro m xs h ⟨i, rfl, hi, hv, rfl, rfl⟩
 repeat' ((conv => whnf); first | refine rgE ?_ | refine Cd.mk rfl ?_ | with_reducible refine Br.dec (fun _ => ?_) (fun _ => ?_) | with_reducible refine Br.br (fun _ => ?_) (fun _ => ?_) | refine an.mk _ (az _ _ (by omega)) ?_ | refine Res.mk ?_ | refine ai.cu _ _ ?_ | ((with_reducible refine EqE.idW ?_); with_reducible refine EqE.mk _ (aq _ (by omega)) ?_) | refine Cd.om ?_)
 ·rename_i h1 h2
  show D.bool _ = D.bool _
  rw [decide_eq_false]; intro e; subst e; exact h2 rfl
 ·rename_i h1 h2
  refine ⟨_, ⟨i + 1, rfl, by omega, ?_, rfl, rfl⟩, by omega⟩
  have ha' : i < a.length := by omega
  have hb' : i < b.length := by omega
  have h3 : a.getD i 0 = b.getD i 0 := UInt32.toNat_inj.1 (by omega)
  have h4 : a[i] = b[i] := by simpa [ha', hb'] using h3
  rw [List.take_succ_eq_append_getElem ha', List.take_succ_eq_append_getElem hb', hv, h4]
 ·rename_i h1
  show D.bool _ = D.bool _
  rw [List.take_of_length_le (by omega), List.take_of_length_le (by omega)] at hv
  rw [decide_eq_true hv]
theorem abv (a b : List UInt32) (ha : a.length < 2^30) (hb : b.length < 2^30) : Sim Tryz.prog G0 false 131 [sl a, sl b] (sl (ofN (nv a + nv b))) := by
 refine ck ax Tryz.func131 ?_
 repeat' ((conv => whnf); first | refine rgE ?_ | refine Cd.mk rfl ?_ | ((with_reducible refine EqE.idW ?_); with_reducible refine EqE.mk _ (aq _ (by omega)) ?_) | ((with_reducible refine EqE.idI ?_); with_reducible refine EqE.mk _ (b8 _ _) ?_) | ((with_reducible refine EqE.idR ?_); refine EqE.mk _ (b7 _) ?_) | refine Cd.om ?_)
 refine ⟨[], [0,1,5,6,7,8], [16], fun m xs h => ∃ (n i c : Nat) (l : List UInt32), m = n - i ∧ n = max a.length b.length + 1 ∧ i ≤ n ∧ c ≤ 1 ∧ l.length = n ∧ nv l + Pw i * c = nv (a.take i) + nv (b.take i) ∧ (∀ j, i ≤ j → (l.getD j 0).toNat = 0) ∧
  xs = [.d (sl a), .d (sl b), .d (.int .i64 n), .own 16 0 n 1, .d (.int .u64 c), .d (.int .i64 i)] ∧ h = [(16, false, la l)],
  ⟨_, _, _, ⟨.inl rfl, rfl, rfl, by first | rfl | (repeat first | exact all_nil _ | refine cb _ _ _ _ _ ?_)⟩, _, 0, 0, _, rfl, rfl, by omega, by omega, by simp, by simp [cg], fun j _ => gk _ _, rfl, rfl⟩, ?_⟩
 rintro m xs h ⟨n, i, c, l, rfl, hn, hi, hc, hl, hv, hz, rfl, rfl⟩
 have hxa := ld a i
 have hxb := ld b i
 repeat' ((conv => whnf); first | refine aw.data ?_ | refine c7.mk _ _ (ur _ _) ?_ | refine c7.mk _ _ (ga _ (by omega)) ?_ | refine rgE ?_ | refine Cd.mk rfl ?_ | with_reducible refine Br.dec (fun _ => ?_) (fun _ => ?_) | refine Res.mk ?_ | refine DsE.mk (a8 _) rfl ?_ | refine ai.cu _ _ ?_ | ((with_reducible refine EqE.idW ?_); first | with_reducible refine EqE.mk _ (dy _ _ (by omega)) ?_ | with_reducible refine EqE.mk _ (cl _) ?_ | with_reducible refine EqE.mk _ (aq _ (by omega)) ?_) | ((with_reducible refine EqE.idF ?_); refine EqE.mk _ (aj _ 4294967296 _ _ rfl) ?_) | ((with_reducible refine EqE.idS ?_); refine EqE.mk _ (bl _ _ _ _ (by first | with_reducible exact ae _ | with_reducible exact ab _ | exact ae _ | exact ab _ | rfl) (by first | omega | (simp only [List.length_set]; omega)) (by omega)) ?_) | ((with_reducible refine EqE.idL ?_); refine EqE.mk _ (av _ _ _ _ (by omega) (by omega) rfl) ?_) | refine Cd.om ?_)
 ·rename_i h0
  refine ⟨_, ⟨n, i + 1, (c + at_ a i + at_ b i) / 4294967296, _, rfl, hn, by omega, by omega, ?_, ?_, ?_, rfl, rfl⟩, by omega⟩
  ·simp [hl]
  ·have hz := hz i (Nat.le_refl _)
   rw [js (by omega) hz (by omega), bb, bb, dq, Nat.add_assoc, ir, gi, gi, Nat.mul_add, Nat.mul_add]
   omega
  ·intro j hj
   rw [getD_set_ne (by omega)]; exact hz j (by omega)
 ·rename_i h0
  show sl _ = sl _
  have e : i = n := by omega
  have h1 := fi a
  have h2 := fi b
  have h3 := ix (show a.length ≤ n - 1 by omega)
  have h4 := ix (show b.length ≤ n - 1 by omega)
  have h5 := dq (n - 1)
  rw [show n - 1 + 1 = n by omega] at h5
  rw [List.take_of_length_le (by omega), List.take_of_length_le (by omega), e] at hv
  have : c = 0 := by
   rcases (show c = 0 ∨ c = 1 by omega) with h | h
   ·exact h
   ·subst h; omega
  subst this
  rw [← hv]; rfl
end Go.Ev.Ar

namespace Go.Ev.Ar
open Go Go.Ev Go.Proofs
theorem abw (a b : List UInt32) (ha : a.length < 2^32) (hb : b.length < 2^32) : Sim Tryz.prog G0 true 150 [sl a, sl b] (.int .i64 (r6 (nv a) (nv b))) := by
 refine ck ax Tryz.func150 ?_
 have h1 := dj a
 have h2 := dj b
 repeat' ((conv => whnf); first | refine aw.data ?_ | refine c7.mk _ _ (ga _ (by omega)) ?_ | refine rgE ?_ | refine Cd.mk rfl ?_ | with_reducible refine Br.dec (fun _ => ?_) (fun _ => ?_) | with_reducible refine Br.br (fun _ => ?_) (fun _ => ?_) | refine Res.mk ?_ | ((with_reducible refine EqE.idW ?_); with_reducible refine EqE.mk _ (ah (by omega) (by omega)) ?_))
 ·rename_i h3 h4
  show D.int _ _ = D.int _ _
  rw [q0 (ky (by omega))]
 ·rename_i h3 h4
  show D.int _ _ = D.int _ _
  rw [uh (ky (by omega))]
 rename_i h3
 skip
 refine ⟨[], [5, 6, 7], [], fun m xs h => m ≤ (ofN (nv a)).length ∧ nv ((ofN (nv a)).drop m) = nv ((ofN (nv b)).drop m) ∧ ∃ i : Int, i = m - 1 ∧ xs = [.d (sl (ofN (nv a))), .d (sl (ofN (nv b))), .d (.int .i64 i)] ∧ h = [],
  ⟨_, _, _, ⟨.inl rfl, rfl, rfl, by first | rfl | (repeat first | exact all_nil _ | refine cb _ _ _ _ _ ?_)⟩, Nat.le_refl _, ?_, _, rfl, rfl, rfl⟩, ?_⟩
 ·rw [List.drop_eq_nil_of_le (Nat.le_refl _), List.drop_eq_nil_of_le (by omega)]
 rintro m xs h ⟨hm, hv, i, hi, rfl, rfl⟩
 repeat' ((conv => whnf); first | refine rgE ?_ | refine Cd.mk rfl ?_ | with_reducible refine Br.dec (fun _ => ?_) (fun _ => ?_) | refine an.mk _ (a1 _ _ (by omega)) ?_ | refine Res.mk ?_ | refine ai.cu _ _ ?_ | ((with_reducible refine EqE.idW ?_); with_reducible refine EqE.mk _ (ah (by omega) (by omega)) ?_) | refine Cd.om ?_)
 ·rename_i h4 h5
  have e : i.toNat = m - 1 := by omega
  rw [e] at h5
  show D.int _ _ = D.int _ _
  rw [q0]
  have h6 : nv ((ofN (nv a)).drop (m - 1)) < nv ((ofN (nv b)).drop (m - 1)) := by
   rw [gf (ofN (nv a)) (m - 1) (by omega), gf (ofN (nv b)) (m - 1) (by omega), show m - 1 + 1 = m by omega, hv]; omega
  simpa using ni _ h6
 ·rename_i h4 h6 h5
  have e : i.toNat = m - 1 := by omega
  rw [e] at h5
  show D.int _ _ = D.int _ _
  rw [uh]
  have h6 : nv ((ofN (nv b)).drop (m - 1)) < nv ((ofN (nv a)).drop (m - 1)) := by
   rw [gf (ofN (nv a)) (m - 1) (by omega), gf (ofN (nv b)) (m - 1) (by omega), show m - 1 + 1 = m by omega, hv]; omega
  simpa using ni _ h6
 ·rename_i h4 h6 h5
  have e : i.toNat = m - 1 := by omega
  rw [e] at h5 h6
  refine ⟨m - 1, ⟨by omega, ?_, _, ?_, rfl, rfl⟩, by omega⟩
  ·rw [gf (ofN (nv a)) (m - 1) (by omega), gf (ofN (nv b)) (m - 1) (by omega), show m - 1 + 1 = m by omega, hv]; omega
  ·omega
 ·rename_i h4
  have e : m = 0 := by omega
  subst e
  show D.int _ _ = D.int _ _
  rw [ael]
  simpa using hv
theorem aiq (a b : List UInt32) (ha : a.length < 2^30) (hb : b.length < 2^30) : Sim Tryz.prog G0 false 151 [sl a, sl b] (.tup [sl (ofN (nv a - nv b)), .bool (decide (nv b ≤ nv a))]) := by
 refine ck ax Tryz.func151 ?_
 repeat' ((conv => whnf); first | refine aw.data ?_ | refine c7.mk _ _ (abw _ _ (by omega) (by omega)) ?_ | refine rgE ?_ | refine Cd.mk rfl ?_ | with_reducible refine Br.dec (fun _ => ?_) (fun _ => ?_) | refine Res.mk ?_ | ((with_reducible refine EqE.idR ?_); refine EqE.mk _ (b7 _) ?_) | refine Cd.om ?_)
 ·rename_i h
  have h : nv a < nv b := by unfold r6 at h; split at h <;> first | assumption | (split at h <;> simp at h)
  show D.tup _ = D.tup _
  rw [show nv a - nv b = 0 by omega, cy, decide_eq_false (by omega)]; rfl
 rename_i h
 have h : nv b ≤ nv a := by unfold r6 at h; split at h <;> first | (simp at h; done) | omega
 skip
 refine ⟨[], [0,1,6,7,8], [16], fun m xs h => ∃ (n i c : Nat) (l : List UInt32), m = n - i ∧ n = a.length ∧ i ≤ n ∧ c ≤ 1 ∧ l.length = n ∧ nv l + nv (b.take i) = nv (a.take i) + Pw i * c ∧ (∀ j, i ≤ j → (l.getD j 0).toNat = 0) ∧
  xs = [.d (sl a), .d (sl b), .own 16 0 n 1, .d (.int .u64 c), .d (.int .i64 i)] ∧ h = [(16, false, la l)],
  ⟨_, _, _, ⟨.inl rfl, rfl, rfl, by first | rfl | (repeat first | exact all_nil _ | refine cb _ _ _ _ _ ?_)⟩, _, 0, 0, _, rfl, rfl, by omega, by omega, by simp, by simp [cg], fun j _ => gk _ _, rfl, rfl⟩, ?_⟩
 rintro m xs h ⟨n, i, c, l, rfl, hn, hi, hc, hl, hv, hz, rfl, rfl⟩
 have hxa := ld a i
 have hxb := ld b i
 repeat' ((conv => whnf); first | refine aw.data ?_ | refine c7.mk _ _ (ur _ _) ?_ | refine c7.mk _ _ (ga _ (by omega)) ?_ | refine rgE ?_ | refine Cd.mk rfl ?_ | with_reducible refine Br.dec (fun _ => ?_) (fun _ => ?_) | refine Res.mk ?_ | refine DsE.mk (a8 _) rfl ?_ | refine ai.cu _ _ ?_ | ((with_reducible refine EqE.idW ?_); first | with_reducible refine EqE.mk _ (ei _ _ (by omega) (by omega)) ?_ | with_reducible refine EqE.mk _ (cl _) ?_ | with_reducible refine EqE.mk _ (aq _ (by omega)) ?_) | ((with_reducible refine EqE.idF ?_); with_reducible refine EqE.mk _ (cf _) ?_) | ((with_reducible refine EqE.idS ?_); refine EqE.mk _ (bl _ _ _ _ (by first | with_reducible exact ae _ | with_reducible exact ab _ | exact ae _ | exact ab _ | rfl) (by first | omega | (simp only [List.length_set]; omega)) (by omega)) ?_) | ((with_reducible refine EqE.idL ?_); refine EqE.mk _ (av _ _ _ _ (by omega) (by omega) rfl) ?_) | refine Cd.om ?_)
 ·rename_i h0
  refine ⟨_, ⟨n, i + 1, _, _, rfl, hn, by omega, ?_, ?_, ?_, ?_, rfl, rfl⟩, by omega⟩
  ·omega
  ·simp [hl]
  ·have hz := hz i (Nat.le_refl _)
   rw [gi] at hxa hxb
   have := xn (p := Pw i) hxa hxb hc rfl
   rw [js (by omega) hz (by omega), bb, bb, dq, gi, gi]
   omega
  ·intro j hj
   rw [getD_set_ne (by omega)]; exact hz j (by omega)
 ·rename_i h0
  rw [decide_eq_true h]
  show D.tup [sl _, .bool true] = D.tup [sl _, .bool true]
  have e : i = n := by omega
  have h1 := fi a
  have h2 := fi l
  rw [e, List.take_of_length_le (l := a) (by omega), tq, Nat.mod_eq_of_lt (by rw [hn]; omega)] at hv
  rw [hl] at h2
  rw [← hn] at h1
  have : c = 0 := by
   rcases (show c = 0 ∨ c = 1 by omega) with h | h
   ·exact h
   ·subst h; omega
  subst this
  rw [show nv a - nv b = nv l by omega]
end Go.Ev.Ar

namespace Go.Ev.Ar
open Go Go.Ev Go.Proofs
set_option maxHeartbeats 1000000 in
theorem ain (A B : List UInt32) (ha : A.length < 2^30) (hb : B.length < 2^30) : Sim Tryz.prog G0 false 132 [sl A, sl B] (sl (ofN (nv A * nv B))) := by
 refine ck ax Tryz.func132 ?_
 repeat' ((conv => whnf); first | refine rgE ?_ | refine Cd.mk rfl ?_ | ((with_reducible refine EqE.idW ?_); first | with_reducible refine EqE.mk _ (a6 _ (by omega)) ?_ | with_reducible refine EqE.mk _ (aq _ (by omega)) ?_) | ((with_reducible refine EqE.idR ?_); refine EqE.mk _ (b7 _) ?_) | refine Cd.om ?_)
 refine ⟨[], [0,1,5,6], [15], fun m xs h => ∃ (n i : Nat) (l : List UInt32), m = A.length - i ∧ n = A.length + B.length + 1 ∧ i ≤ A.length ∧ l.length = n ∧ nv l = nv (A.take i) * nv B ∧ (∀ j, i + B.length ≤ j → (l.getD j 0).toNat = 0) ∧
  xs = [.d (sl A), .d (sl B), .own 15 0 n 1, .d (.int .i64 i)] ∧ h = [(15, false, la l)],
  ⟨_, _, _, ⟨.inl rfl, rfl, rfl, by first | rfl | (repeat first | exact all_nil _ | refine cb _ _ _ _ _ ?_)⟩, _, 0, _, rfl, rfl, by omega, List.length_replicate, by simp [cg], fun j _ => gk _ _, rfl, rfl⟩, ?_⟩
 rintro m xs h ⟨n, i, l, rfl, hn, hi, hl, hv, hz, rfl, rfl⟩
 repeat' ((conv => whnf); first | refine aw.data ?_ | refine c7.mk _ _ (ga _ (by omega)) ?_ | refine rgE ?_ | refine Cd.mk rfl ?_ | with_reducible refine Br.dec (fun _ => ?_) (fun _ => ?_) | refine Res.mk ?_ | refine DsE.mk (a8 _) rfl ?_ | ((with_reducible refine EqE.idL ?_); refine EqE.mk _ (av _ _ _ _ (by omega) (by omega) rfl) ?_))
 ·rename_i h0
  have hx := ca (A.getD i 0)
  refine ⟨[], [0,1,5,6,7,8], [15], fun m xs h => ∃ (k c : Nat) (l : List UInt32), m = B.length - k ∧ k ≤ B.length ∧ c < 4294967296 ∧ l.length = n ∧ nv l + Pw (i + k) * c = nv (A.take i) * nv B + Pw i * ((A.getD i 0).toNat * nv (B.take k)) ∧ (∀ j, i + B.length ≤ j → (l.getD j 0).toNat = 0) ∧
   xs = [.d (sl A), .d (sl B), .own 15 0 n 1, .d (.int .i64 i), .d (.int .u64 c), .d (.int .i64 k)] ∧ h = [(15, false, la l)],
   ⟨_, _, _, ⟨.inl rfl, rfl, rfl, by first | rfl | (repeat first | exact all_nil _ | refine cb _ _ _ _ _ ?_)⟩, 0, 0, _, rfl, by omega, by omega, hl, by simp [hv], hz, rfl, rfl⟩, ?_⟩
  rintro m xs h ⟨k, c, l, rfl, hk, hc, hl, hv, hz, rfl, rfl⟩
  have ho := ca (l.getD (i + k) 0)
  have hy := ca (B.getD k 0)
  have hxy : (A.getD i 0).toNat * (B.getD k 0).toNat ≤ 4294967295 * 4294967295 := Nat.mul_le_mul (by omega) (by omega)
  repeat' ((conv => whnf); first | refine rgE ?_ | refine Cd.mk rfl ?_ | with_reducible refine Br.dec (fun _ => ?_) (fun _ => ?_) | refine an.mk _ (az _ _ (by omega)) ?_ | refine an.mk _ (cp _ _ _ (by first | with_reducible exact ae _ | with_reducible exact ab _ | exact ae _ | exact ab _ | rfl) (by first | omega | (simp only [List.length_set]; omega))) ?_ | refine ai.cu _ _ ?_ | ((with_reducible refine EqE.idW ?_); first | with_reducible refine EqE.mk _ (ar _) ?_ | with_reducible refine EqE.mk _ (dy _ _ (by omega)) ?_ | with_reducible refine EqE.mk _ (eg _ _ (by omega)) ?_ | with_reducible refine EqE.mk _ (cl _) ?_ | with_reducible refine EqE.mk _ (a6 _ (by omega)) ?_ | with_reducible refine EqE.mk _ (aq _ (by omega)) ?_) | ((with_reducible refine EqE.idF ?_); refine EqE.mk _ (aj _ 4294967296 _ _ rfl) ?_) | ((with_reducible refine EqE.idS ?_); refine EqE.mk _ (bl _ _ _ _ (by first | with_reducible exact ae _ | with_reducible exact ab _ | exact ae _ | exact ab _ | rfl) (by first | omega | (simp only [List.length_set]; omega)) (by omega)) ?_) | refine Cd.om ?_)
  ·rename_i h3
   refine ⟨_, ⟨k + 1, _, _, rfl, by omega, ?_, ?_, ?_, ?_, rfl, rfl⟩, by omega⟩
   ·omega
   ·simp [hl]
   ·have h4 := sq l (i + k) (UInt32.ofNat ((c + (A.getD i 0).toNat * (B.getD k 0).toNat + (l.getD (i + k) 0).toNat) % 4294967296)) (by omega)
    rw [toNat_ofNat (by omega)] at h4
    have h5 := ir (Pw (i + k)) (c + (A.getD i 0).toNat * (B.getD k 0).toNat + (l.getD (i + k) 0).toNat)
    rw [bb, show i + (k + 1) = i + k + 1 from rfl, dq]
    generalize (B.getD k 0).toNat = y at *
    generalize (A.getD i 0).toNat = x at *
    have h6 : Pw i * (x * (nv (B.take k) + Pw k * y)) = Pw i * (x * nv (B.take k)) + Pw (i + k) * (x * y) := by
     rw [p9]; grind
    rw [h6]
    rw [Nat.mul_add, Nat.mul_add] at h5
    omega
   ·intro j hj
    rw [getD_set_ne (by omega)]; exact hz j hj
  ·rename_i h3
   have e : k = B.length := by omega
   subst e
   refine ⟨_, ⟨n, i + 1, _, rfl, hn, by omega, ?_, ?_, ?_, rfl, rfl⟩, by omega⟩
   ·simp [hl]
   ·rw [js (by omega) (hz _ (by omega)) (by omega), bb]
    rw [List.take_of_length_le (Nat.le_refl _)] at hv
    rw [Nat.mod_eq_of_lt hc, hv]
    grind
   ·intro j hj
    rw [getD_set_ne (by omega)]; exact hz j (by omega)
 ·rename_i h0
  show sl _ = sl _
  rw [List.take_of_length_le (by omega)] at hv
  rw [hv]
end Go.Ev.Ar

namespace Go.Ev.Ar
open Go Go.Ev Go.Proofs
theorem af6 (l : List UInt32) (hl : l.length < 2^32) : Sim Tryz.prog G0 true 147 [sl l] (.int .i64 (nb (nv l))) := by
 refine ck ax Tryz.func147 ?_
 have h := dj l
 repeat' ((conv => whnf); first | refine aw.data ?_ | refine c7.mk _ _ (ga _ (by omega)) ?_ | refine rgE ?_ | refine Cd.mk rfl ?_ | with_reducible refine Br.dec (fun _ => ?_) (fun _ => ?_) | refine an.mk _ (a1 _ _ (by omega)) ?_ | refine Res.mk ?_ | ((with_reducible refine EqE.idW ?_); with_reducible refine EqE.mk _ (ah (by omega) (by omega)) ?_) | refine Cd.om ?_)
 ·rename_i h0
  show D.int _ _ = D.int _ _
  rw [da.1 (show (ofN (nv l)).length = 0 by omega)]; rfl
 rename_i h0
 have hn : nv l ≠ 0 := fun e => h0 (by rw [e, cy]; rfl)
 have h4 : nb ((ofN (nv l)).getD ((ofN (nv l)).length - 1) 0).toNat ≤ 32 := lj.2 (ca _)
 have e : (((ofN (nv l)).length : Int) - 1).toNat = (ofN (nv l)).length - 1 := by omega
 have hu := ca ((ofN (nv l)).getD ((ofN (nv l)).length - 1) 0)
 rw [adm hn]
 skip
 rw [e]
 refine ⟨[], [4, 5], [], fun m xs h => ∃ (t : Nat) (c : Int), m = t ∧ t < 4294967296 ∧ c + nb t = 32 * ((ofN (nv l)).length - 1) + nb ((ofN (nv l)).getD ((ofN (nv l)).length - 1) 0).toNat ∧ xs = [.d (.int .i64 c), .d (.int .u32 t)] ∧ h = [],
  ⟨_, _, _, ⟨.inl rfl, rfl, rfl, by first | rfl | (repeat first | exact all_nil _ | refine cb _ _ _ _ _ ?_)⟩, _, _, rfl, hu, ?_, rfl, rfl⟩, ?_⟩
 ·omega
 rintro m xs h ⟨t, c, rfl, ht, hv, rfl, rfl⟩
 have hnb : nb m ≤ 32 := lj.2 ht
 repeat' ((conv => whnf); first | refine rgE ?_ | refine Cd.mk rfl ?_ | with_reducible refine Br.br (fun _ => ?_) (fun _ => ?_) | refine Res.mk ?_ | refine ai.cu _ _ ?_ | ((with_reducible refine EqE.idW ?_); with_reducible refine EqE.mk _ (ah (by omega) (by omega)) ?_) | ((with_reducible refine EqE.idF ?_); with_reducible refine EqE.mk _ (bg _) ?_) | refine Cd.om ?_)
 ·rename_i h5
  refine ⟨_, ⟨_, _, rfl, by omega, ?_, rfl, rfl⟩, by omega⟩
  have := akb (t := m) (by omega)
  omega
 ·rename_i h5
  have e : m = 0 := by omega
  subst e
  show D.int _ _ = D.int _ _
  rw [akc] at hv
  congr 1; omega
theorem aid (l : List UInt32) (i : Nat) (hl : l.length < 2^32) (hi : i < 2^40) : Sim Tryz.prog G0 true 149 [sl l, .int .i64 i] (.bool ((nv l).testBit i)) := by
 refine ck ax Tryz.func149 ?_
 have hx := ca (l.getD (i / 32) 0)
 have hx2 := Nat.div_le_self (l.getD (i / 32) 0).toNat (2 ^ (i % 32))
 repeat' ((conv => whnf); first | refine rgE ?_ | refine Cd.mk rfl ?_ | refine Br.t ?_ | refine Br.f ?_ | with_reducible refine Br.dec (fun _ => ?_) (fun _ => ?_) | refine an.mk _ (az _ _ (by omega)) ?_ | refine Res.mk ?_ | ((with_reducible refine EqE.idW ?_); first | with_reducible refine EqE.mk _ (bd _ (by omega)) ?_ | refine EqE.mk _ (dx _ 32 (by omega)) ?_ | with_reducible refine EqE.mk _ (ed _ (by omega)) ?_) | ((with_reducible refine EqE.idF ?_); with_reducible refine EqE.mk _ (bq _ _ (by omega)) ?_) | ((with_reducible refine EqE.idM ?_); refine EqE.mk _ (bn _ 32) ?_) | refine Cd.om ?_)
 ·rename_i h0
  show D.bool _ = D.bool _
  rw [xj]
  congr 1
  rw [Bool.eq_iff_iff, decide_eq_true_iff, decide_eq_true_iff]; omega
 ·rename_i h0
  show D.bool _ = D.bool _
  rw [xj, kt (by omega)]
  simp
end Go.Ev.Ar

namespace Go.Ev.Ar
open Go Go.Ev Go.Proofs
set_option maxHeartbeats 1000000 in
theorem aio (a : List UInt32) (n : Int) (ha : a.length < 2^30) (hn : n ≤ 100000) : Sim Tryz.prog G0 false 148 [sl a, .int .i64 n] (sl (ofN (nv a * 2 ^ n.toNat))) := by
 refine ck ax Tryz.func148 ?_
 have hN : n.toNat ≤ 100000 := by omega
 have hs : n.toNat % 32 < 32 := Nat.mod_lt _ (by decide)
 repeat' ((conv => whnf); first | refine rgE ?_ | refine Cd.mk rfl ?_ | ((with_reducible refine EqE.idW ?_); first | refine EqE.mk _ (dx _ 32 (by omega)) ?_ | with_reducible refine EqE.mk _ (a6 _ (by omega)) ?_ | with_reducible refine EqE.mk _ (aq _ (by omega)) ?_) | ((with_reducible refine EqE.idI ?_); first | refine EqE.mk _ (ala _ hn) ?_ | refine EqE.mk _ (min_eq _ _) ?_) | ((with_reducible refine EqE.idR ?_); refine EqE.mk _ (b7 _) ?_) | refine Cd.om ?_)
 generalize n.toNat = N at *
 refine ⟨[], [0,5,6,7], [18], fun m xs h => ∃ (n i : Nat) (l : List UInt32), m = a.length - i ∧ n = a.length + N / 32 + 1 ∧ i ≤ a.length ∧ l.length = n ∧ nv l = Pw (N / 32) * (nv (a.take i) * 2 ^ (N % 32)) ∧ (∀ j, i + N / 32 + 1 ≤ j → (l.getD j 0).toNat = 0) ∧ (l.getD (i + N / 32) 0).toNat < 2 ^ (N % 32) ∧
  xs = [.d (sl a), .d (.int .i64 N), .own 18 0 n 1, .d (.int .i64 i)] ∧ h = [(18, false, la l)],
  ⟨_, _, _, ⟨.inl rfl, rfl, rfl, by first | rfl | (repeat first | exact all_nil _ | refine cb _ _ _ _ _ ?_)⟩, _, 0, _, rfl, rfl, by omega, List.length_replicate, by simp [cg], fun j _ => gk _ _, by rw [gk]; exact Nat.two_pow_pos _, rfl, rfl⟩, ?_⟩
 rintro m xs h ⟨n, i, l, rfl, hnn, hi, hl, hv, hz, ho, rfl, rfl⟩
 have hx := ca (a.getD i 0)
 have ho2 := ca (l.getD (i + N / 32) 0)
 have hy := xd hx hs
 have hb := acj (x := (a.getD i 0).toNat) hs ho
 repeat' ((conv => whnf); first | refine aw.data ?_ | refine c7.mk _ _ (ga _ (by omega)) ?_ | refine rgE ?_ | refine Cd.mk rfl ?_ | with_reducible refine Br.dec (fun _ => ?_) (fun _ => ?_) | refine an.mk _ (az _ _ (by omega)) ?_ | refine an.mk _ (cp _ _ _ (by first | with_reducible exact ae _ | with_reducible exact ab _ | exact ae _ | exact ab _ | rfl) (by first | omega | (simp only [List.length_set]; omega))) ?_ | refine Res.mk ?_ | refine DsE.mk (a8 _) rfl ?_ | refine ai.cu _ _ ?_ | ((with_reducible refine EqE.idW ?_); first | with_reducible refine EqE.mk _ (aka _ _ _ hs ho ho2) ?_ | with_reducible refine EqE.mk _ (ar _) ?_ | with_reducible refine EqE.mk _ (eh _ _ (by omega) (by omega)) ?_ | refine EqE.mk _ (dx _ 32 (by omega)) ?_ | with_reducible refine EqE.mk _ (cl _) ?_ | with_reducible refine EqE.mk _ (ed _ (by omega)) ?_ | with_reducible refine EqE.mk _ (a6 _ (by omega)) ?_ | with_reducible refine EqE.mk _ (aq _ (by omega)) ?_) | ((with_reducible refine EqE.idF ?_); refine EqE.mk _ (aj _ 4294967296 _ _ rfl) ?_) | ((with_reducible refine EqE.idM ?_); refine EqE.mk _ (bn _ 32) ?_) | ((with_reducible refine EqE.idS ?_); refine EqE.mk _ (bl _ _ _ _ (by first | with_reducible exact ae _ | with_reducible exact ab _ | exact ae _ | exact ab _ | rfl) (by first | omega | (simp only [List.length_set]; omega)) (by omega)) ?_) | ((with_reducible refine EqE.idL ?_); refine EqE.mk _ (av _ _ _ _ (by omega) (by omega) rfl) ?_) | refine Cd.om ?_)
 ·rename_i h0
  refine ⟨_, ⟨n, i + 1, _, rfl, hnn, by omega, ?_, ?_, ?_, ?_, rfl, rfl⟩, by omega⟩
  ·simp [hl]
  ·have h1 := sq l (i + N / 32) (UInt32.ofNat ((l.getD (i + N / 32) 0).toNat + (a.getD i 0).toNat * 2 ^ (N % 32) % 4294967296)) (by omega)
   rw [toNat_ofNat hb, Nat.mul_add] at h1
   rw [js (by simp; omega) (by rw [getD_set_ne (by omega)]; exact hz _ (by omega)) (by omega), bb, Nat.mod_eq_of_lt (show (a.getD i 0).toNat * 2 ^ (N % 32) / 4294967296 < 4294967296 by omega), dq]
   have h5 := ir (Pw (i + N / 32)) ((a.getD i 0).toNat * 2 ^ (N % 32))
   have h6 : Pw (N / 32) * ((nv (a.take i) + Pw i * (a.getD i 0).toNat) * 2 ^ (N % 32)) = Pw (N / 32) * (nv (a.take i) * 2 ^ (N % 32)) + Pw (i + N / 32) * ((a.getD i 0).toNat * 2 ^ (N % 32)) := by
    rw [p9]; grind
   rw [h6]; omega
  ·intro j hj
   rw [getD_set_ne (by omega), getD_set_ne (by omega)]; exact hz j (by omega)
  ·rw [show i + 1 + N / 32 = i + N / 32 + 1 by omega]
   rw [jr (by simp; omega), toNat_ofNat (by omega), Nat.mod_eq_of_lt (by omega)]
   exact su hx hs
 ·rename_i h0
  show sl _ = sl _
  rw [List.take_of_length_le (by omega)] at hv
  rw [hv, show Pw (N / 32) * (nv a * 2 ^ (N % 32)) = nv a * (Pw (N / 32) * 2 ^ (N % 32)) by grind, l8, Nat.div_add_mod]
theorem aip (a : List UInt32) (n : Int) (ha : a.length < 2^30) (hn : n ≤ 100000) : Sim Tryz.prog G0 false 67 [sl a, .int .i64 n] (sl (ofN (nv a / 2 ^ n.toNat))) := by
 refine ck ax Tryz.func67 ?_
 have hN : n.toNat ≤ 100000 := by omega
 have hs : n.toNat % 32 < 32 := Nat.mod_lt _ (by decide)
 repeat' ((conv => whnf); first | refine rgE ?_ | refine Cd.mk rfl ?_ | with_reducible refine Br.dec (fun _ => ?_) (fun _ => ?_) | refine Res.mk ?_ | ((with_reducible refine EqE.idW ?_); refine EqE.mk _ (dx _ 32 (by omega)) ?_) | ((with_reducible refine EqE.idI ?_); first | refine EqE.mk _ (ala _ hn) ?_ | refine EqE.mk _ (min_eq _ _) ?_) | ((with_reducible refine EqE.idR ?_); refine EqE.mk _ (b7 _) ?_) | ((with_reducible refine EqE.idL ?_); refine EqE.mk _ (bh _ _ (by omega)) ?_) | refine Cd.om ?_)
 ·rename_i h
  have h2 := fi a
  have : nv a < 2 ^ n.toNat := Nat.lt_of_lt_of_le h2 (by rw [ji]; exact Nat.pow_le_pow_right (by decide) (by omega))
  show sl _ = sl []
  rw [Nat.div_eq_of_lt this, cy]
 rename_i h
 generalize n.toNat = N at *
 skip
 generalize hM : a.drop (N / 32) = M at *
 refine ⟨[], [5,6,7,8], [23], fun m xs h => ∃ (n i : Nat) (l : List UInt32), m = n - i ∧ n = M.length ∧ i ≤ n ∧ l.length = n ∧ nv l = (nv M / 2 ^ (N % 32)) % Pw i ∧ (∀ j, i ≤ j → (l.getD j 0).toNat = 0) ∧
  xs = [.d (.int .i64 N), .d (sl M), .own 23 0 n 1, .d (.int .i64 i)] ∧ h = [(23, false, la l)],
  ⟨_, _, _, ⟨.inl rfl, rfl, rfl, by first | rfl | (repeat first | exact all_nil _ | refine cb _ _ _ _ _ ?_)⟩, _, 0, _, rfl, rfl, by omega, List.length_replicate, ?_, fun j _ => gk _ _, rfl, rfl⟩, ?_⟩
 ·rw [cg, aei, Nat.mod_one]
 rintro m xs h ⟨n, i, l, rfl, hnn, hi, hl, hv, hz, rfl, rfl⟩
 have hx1 := ld M (i : Int)
 have hx2 := ld M ((i + 1 : Nat) : Int)
 have hM2 : M.length ≤ a.length := by rw [← hM]; simp
 repeat' ((conv => whnf); first | refine aw.data ?_ | refine c7.mk _ _ (ur _ _) ?_ | refine c7.mk _ _ (ga _ (by omega)) ?_ | refine rgE ?_ | refine Cd.mk rfl ?_ | with_reducible refine Br.dec (fun _ => ?_) (fun _ => ?_) | refine Res.mk ?_ | refine DsE.mk (a8 _) rfl ?_ | refine ai.cu _ _ ?_ | ((with_reducible refine EqE.idW ?_); first | with_reducible refine EqE.mk _ (b6 _ (by omega)) ?_ | with_reducible refine EqE.mk _ (gl _ _ (by omega) (by omega)) ?_ | with_reducible refine EqE.mk _ (cl _) ?_ | with_reducible refine EqE.mk _ (ed _ (by omega)) ?_ | with_reducible refine EqE.mk _ (aq _ (by omega)) ?_) | ((with_reducible refine EqE.idF ?_); with_reducible refine EqE.mk _ (cx _ _ (by omega)) ?_) | ((with_reducible refine EqE.idM ?_); refine EqE.mk _ (bn _ 32) ?_) | ((with_reducible refine EqE.idS ?_); refine EqE.mk _ (bl _ _ _ _ (by first | with_reducible exact ae _ | with_reducible exact ab _ | exact ae _ | exact ab _ | rfl) (by first | omega | (simp only [List.length_set]; omega)) (by omega)) ?_) | ((with_reducible refine EqE.idL ?_); refine EqE.mk _ (av _ _ _ _ (by omega) (by omega) rfl) ?_) | refine Cd.om ?_)
 ·rename_i h0
  refine ⟨_, ⟨n, i + 1, _, rfl, hnn, by omega, ?_, ?_, ?_, rfl, rfl⟩, by omega⟩
  ·simp [hl]
  ·rw [abr hx1, js (by omega) (hz _ (by omega)) (by omega), gi, gi, vp (z := nv (M.drop (i + 1 + 1))) hs, ← fy, ← fy, hv, dq, Nat.mul_comm 4294967296, Nat.mod_mul,
    et, Nat.div_div_eq_div_mul, Nat.div_div_eq_div_mul, Nat.mul_comm (2 ^ _)]
  ·intro j hj
   rw [getD_set_ne (by omega)]; exact hz j (by omega)
 ·rename_i h0
  have e : i = n := by omega
  have h2 := fi M
  have h3 := Nat.div_le_self (nv M) (2 ^ (N % 32))
  show sl _ = sl _
  rw [hv, e, hnn, Nat.mod_eq_of_lt (by omega), ← hM, et, Nat.div_div_eq_div_mul, l8, Nat.div_add_mod]
end Go.Ev.Ar

namespace Go.Ev.Ar
open Go Go.Ev Go.Proofs
theorem yc (l : List UInt32) (hl : l.length < 2^32) : Sim Tryz.prog G0 false 136 [sl l] (sl l) := by
 refine ck ax Tryz.func136 ?_
 repeat' ((conv => whnf); first | refine rgE ?_ | refine Cd.mk rfl ?_ | refine Br.t ?_ | refine Br.f ?_ | refine And.intro (fun _ => ?_) ?_ | refine Res.mk ?_ | refine DsE.mk (a8 _) rfl ?_ | refine DsE.mk [] rfl ?_ | ((with_reducible refine EqE.idA ?_); refine EqE.mk _ (cc _) ?_) | ((with_reducible refine EqE.idL ?_); refine EqE.mk _ (av _ _ _ _ (by omega) (by omega) rfl) ?_) | refine Cd.mk ⟨rfl, rfl⟩ ?_ | refine Cd.mk (bc _) ?_ | refine Cd.om ?_)
 ·rename_i h
  have h : l = [] := by simpa [a8] using h
  subst h; rfl
 ·rfl
theorem ai4 (l : List UInt32) (hl : l.length < 2^32) : Sim Tryz.prog G0 false 203 [sl l] (sl (ofN (nv l))) := by
 refine ck ax Tryz.func203 ?_
 have h := dj l
 repeat' ((conv => whnf); first | refine aw.data ?_ | refine c7.mk _ _ (fv _ (by omega)) ?_ | refine c7.mk _ _ (yc _ (by omega)) ?_ | refine rgE ?_ | refine Res.mk ?_)
 rfl
end Go.Ev.Ar

namespace Go.Ev.Ar
open Go Go.Ev Go.Proofs
theorem z1 (n : Nat) : nb (n % 256) ≤ 8 := lj.2 (by omega)
set_option maxHeartbeats 1000000 in
theorem afy (x : UInt32) : Sim Tryz.prog G0 true 204 [.int .u32 x.toNat] (.int .i64 (nb x.toNat)) := by
 refine ck ax Tryz.func204 ?_
 have hx := ca x
 repeat' ((conv => whnf); first | refine Cd.mk (aml 256 (by kernel_rfl) (by omega)) ?_ | refine EqE.mk _ (akt nb 256 _ (by kernel_rfl) rfl (by omega)) ?_ | refine rgE ?_ | refine Cd.mk rfl ?_ | with_reducible refine Br.dec (fun _ => ?_) (fun _ => ?_) | refine Res.mk ?_ | ((with_reducible refine EqE.idW ?_); first | with_reducible refine EqE.mk _ (a6 _ (Nat.lt_of_le_of_lt (lj.2 (show _ < 2 ^ 8 by omega)) (by decide))) ?_ | with_reducible refine EqE.mk _ (gu _) ?_ | with_reducible refine EqE.mk _ (aq _ (by omega)) ?_ | with_reducible refine EqE.mk _ (ah (by omega) (by omega)) ?_ | refine EqE.mk _ rfl ?_) | ((with_reducible refine EqE.idF ?_); first | refine EqE.mk _ (aj _ 65536 _ _ rfl) ?_ | refine EqE.mk _ (aj _ 256 _ _ rfl) ?_) | refine Cd.om ?_)
 all_goals show D.int _ _ = D.int _ _
 ·have h1 := z1 (x.toNat / 65536 / 256)
  have h2 : nb x.toNat = 16 + nb (x.toNat / 65536) := qi (k := 16) (by omega)
  have h3 : nb (x.toNat / 65536) = 8 + nb (x.toNat / 65536 / 256) := qi (k := 8) (by omega)
  rw [Nat.mod_eq_of_lt (show x.toNat / 65536 / 256 < 256 by omega)] at h1 ⊢
  rw [ah (by omega) (by omega), h2, h3]; congr 1; omega
 ·have h1 := z1 (x.toNat / 65536)
  have h2 : nb x.toNat = 16 + nb (x.toNat / 65536) := qi (k := 16) (by omega)
  rw [Nat.mod_eq_of_lt (show x.toNat / 65536 < 256 by omega)] at h1 ⊢
  rw [ah (by omega) (by omega), h2]; congr 1
 ·have h1 := z1 (x.toNat / 256)
  have h2 : nb x.toNat = 8 + nb (x.toNat / 256) := qi (k := 8) (by omega)
  rw [Nat.mod_eq_of_lt (show x.toNat / 256 < 256 by omega)] at h1 ⊢
  rw [ah (by omega) (by omega), h2]; congr 1
 ·have h1 := z1 x.toNat
  rw [Nat.mod_eq_of_lt (show x.toNat < 256 by omega)] at h1 ⊢
  rw [ah (by omega) (by omega)]; congr 1; omega
end Go.Ev.Ar

namespace Go.Ev.Ar
open Go Go.Ev Go.Proofs
theorem ajm (a b : List UInt32) (ha : a.length < 2^32) (hb : b.length < 2^32) : Sim Tryz.prog G0 true 135 [sl a, sl b] (.int .i64 (r6 (nv a) (nv b))) := by
 refine ck ax Tryz.func135 ?_
 have h1 := dj a
 have h2 := dj b
 repeat' ((conv => whnf); first | refine aw.data ?_ | refine c7.mk _ _ (fv _ (by omega)) ?_ | refine rgE ?_ | refine Cd.mk rfl ?_ | with_reducible refine Br.dec (fun _ => ?_) (fun _ => ?_) | with_reducible refine Br.br (fun _ => ?_) (fun _ => ?_) | refine Res.mk ?_ | ((with_reducible refine EqE.idW ?_); with_reducible refine EqE.mk _ (ah (by omega) (by omega)) ?_))
 ·rename_i h3 h4
  show D.int _ _ = D.int _ _
  rw [q0 (ky (by omega))]
 ·rename_i h3 h4
  show D.int _ _ = D.int _ _
  rw [uh (ky (by omega))]
 rename_i h3
 skip
 refine ⟨[], [0, 1, 5], [], fun m xs h => m ≤ (ofN (nv a)).length ∧ nv ((ofN (nv a)).drop m) = nv ((ofN (nv b)).drop m) ∧ ∃ i : Int, i = m - 1 ∧ xs = [.d (sl (ofN (nv a))), .d (sl (ofN (nv b))), .d (.int .i64 i)] ∧ h = [],
  ⟨_, _, _, ⟨.inl rfl, rfl, rfl, by first | rfl | (repeat first | exact all_nil _ | refine cb _ _ _ _ _ ?_)⟩, Nat.le_refl _, ?_, _, rfl, rfl, rfl⟩, ?_⟩
 ·rw [List.drop_eq_nil_of_le (Nat.le_refl _), List.drop_eq_nil_of_le (by omega)]
 rintro m xs h ⟨hm, hv, i, hi, rfl, rfl⟩
 repeat' ((conv => whnf); first | refine rgE ?_ | refine Cd.mk rfl ?_ | with_reducible refine Br.dec (fun _ => ?_) (fun _ => ?_) | refine an.mk _ (a1 _ _ (by omega)) ?_ | refine Res.mk ?_ | refine ai.cu _ _ ?_ | ((with_reducible refine EqE.idW ?_); with_reducible refine EqE.mk _ (ah (by omega) (by omega)) ?_) | refine Cd.om ?_)
 ·rename_i h4 h5
  have e : i.toNat = m - 1 := by omega
  rw [e] at h5
  show D.int _ _ = D.int _ _
  rw [q0]
  have h6 : nv ((ofN (nv a)).drop (m - 1)) < nv ((ofN (nv b)).drop (m - 1)) := by
   rw [gf (ofN (nv a)) (m - 1) (by omega), gf (ofN (nv b)) (m - 1) (by omega), show m - 1 + 1 = m by omega, hv]; omega
  simpa using ni _ h6
 ·rename_i h4 h6 h5
  have e : i.toNat = m - 1 := by omega
  rw [e] at h5
  show D.int _ _ = D.int _ _
  rw [uh]
  have h6 : nv ((ofN (nv b)).drop (m - 1)) < nv ((ofN (nv a)).drop (m - 1)) := by
   rw [gf (ofN (nv a)) (m - 1) (by omega), gf (ofN (nv b)) (m - 1) (by omega), show m - 1 + 1 = m by omega, hv]; omega
  simpa using ni _ h6
 ·rename_i h4 h6 h5
  have e : i.toNat = m - 1 := by omega
  rw [e] at h5 h6
  refine ⟨m - 1, ⟨by omega, ?_, _, ?_, rfl, rfl⟩, by omega⟩
  ·rw [gf (ofN (nv a)) (m - 1) (by omega), gf (ofN (nv b)) (m - 1) (by omega), show m - 1 + 1 = m by omega, hv]; omega
  ·omega
 ·rename_i h4
  have e : m = 0 := by omega
  subst e
  show D.int _ _ = D.int _ _
  rw [ael]
  simpa using hv
end Go.Ev.Ar

namespace Go.Ev.Ar
open Go Go.Ev Go.Proofs
set_option maxHeartbeats 1000000 in
theorem aj7 (a b : List UInt32) (ha : a.length < 2^30) (hb : b.length < 2^30) : Sim Tryz.prog G0 false 202 [sl a, sl b] (sl (ofN (nv a * nv b))) := by
 refine ck ax Tryz.func202 ?_
 have h1 := dj a
 have h2 := dj b
 repeat' ((conv => whnf); first | refine aw.data ?_ | refine c7.mk _ _ (fv _ (by omega)) ?_ | refine rgE ?_ | refine Cd.mk rfl ?_ | ((with_reducible refine EqE.idW ?_); with_reducible refine EqE.mk _ (a6 _ (by omega)) ?_) | ((with_reducible refine EqE.idR ?_); refine EqE.mk _ (b7 _) ?_) | refine Cd.om ?_)
 generalize hA : ofN (nv a) = A at *
 generalize hB : ofN (nv b) = B at *
 have hvA : nv A = nv a := by rw [← hA, bj]
 have hvB : nv B = nv b := by rw [← hB, bj]
 refine ⟨[], [0,1,5,21,22,23], [20], fun m xs h => ∃ (n i : Nat) (l : List UInt32), m = A.length - i ∧ n = A.length + B.length ∧ i ≤ A.length ∧ l.length = n ∧ nv l = nv (A.take i) * nv B ∧ (∀ j, i + B.length ≤ j → (l.getD j 0).toNat = 0) ∧
  xs = [.d (sl A), .d (sl B), .own 20 0 n 1, .d (sl A), .d (.int .i64 A.length), .d (.int .i64 i)] ∧ h = [(20, false, la l)],
  ⟨_, _, _, ⟨.inl rfl, rfl, rfl, by first | rfl | (repeat first | exact all_nil _ | refine cb _ _ _ _ _ ?_)⟩, _, 0, _, rfl, by omega, by omega, by simp, by simp [cg], fun j _ => gk _ _, rfl, rfl⟩, ?_⟩
 rintro m xs h ⟨n, i, l, rfl, hn, hi, hl, hv, hz, rfl, rfl⟩
 repeat' ((conv => whnf); first | refine aw.data ?_ | refine c7.mk _ _ (fv _ (by omega)) ?_ | refine rgE ?_ | refine Cd.mk rfl ?_ | with_reducible refine Br.dec (fun _ => ?_) (fun _ => ?_) | refine an.mk _ (az _ _ (by omega)) ?_ | refine Res.mk ?_ | refine DsE.mk (a8 _) rfl ?_ | ((with_reducible refine EqE.idL ?_); refine EqE.mk _ (av _ _ _ _ (by omega) (by omega) rfl) ?_) | refine Cd.om ?_)
 ·rename_i h0
  have hx := ca (A.getD i 0)
  generalize hxe : (A.getD i 0).toNat = x at *
  refine ⟨[], [0,1,5,6,7,8,21,22,23,28,29,30], [20], fun m xs h => ∃ (k c : Nat) (l : List UInt32), m = B.length - k ∧ k ≤ B.length ∧ c < 4294967296 ∧ l.length = n ∧ nv l + Pw (i + k) * c = nv (A.take i) * nv B + Pw i * (x * nv (B.take k)) ∧ (∀ j, i + B.length ≤ j → (l.getD j 0).toNat = 0) ∧
   xs = [.d (sl A), .d (sl B), .own 20 0 n 1, .d (.int .i64 i), .d (.int .u32 x), .d (.int .u64 c), .d (sl A), .d (.int .i64 A.length), .d (.int .i64 i), .d (sl B), .d (.int .i64 B.length), .d (.int .i64 k)] ∧ h = [(20, false, la l)],
   ⟨_, _, _, ⟨.inl rfl, rfl, rfl, by first | rfl | (repeat first | exact all_nil _ | refine cb _ _ _ _ _ ?_)⟩, 0, 0, _, rfl, by omega, by omega, hl, by simp [hv], hz, rfl, rfl⟩, ?_⟩
  rintro m xs h ⟨k, c, l, rfl, hk, hc, hl, hv, hz, rfl, rfl⟩
  have ho := ca (l.getD (i + k) 0)
  have hy := ca (B.getD k 0)
  have hxy : x * (B.getD k 0).toNat ≤ 4294967295 * 4294967295 := Nat.mul_le_mul (by omega) (by omega)
  repeat' ((conv => whnf); first | refine rgE ?_ | refine Cd.mk rfl ?_ | with_reducible refine Br.dec (fun _ => ?_) (fun _ => ?_) | refine an.mk _ (az _ _ (by omega)) ?_ | refine an.mk _ (cp _ _ _ (by first | with_reducible exact ae _ | with_reducible exact ab _ | exact ae _ | exact ab _ | rfl) (by first | omega | (simp only [List.length_set]; omega))) ?_ | refine ai.cu _ _ ?_ | ((with_reducible refine EqE.idW ?_); first | with_reducible refine EqE.mk _ (ar _) ?_ | with_reducible refine EqE.mk _ (dy _ _ (by omega)) ?_ | with_reducible refine EqE.mk _ (eg _ _ (by omega)) ?_ | with_reducible refine EqE.mk _ (cl _) ?_ | with_reducible refine EqE.mk _ (ed _ (by omega)) ?_ | with_reducible refine EqE.mk _ (a6 _ (by omega)) ?_ | with_reducible refine EqE.mk _ (aq _ (by omega)) ?_) | ((with_reducible refine EqE.idF ?_); refine EqE.mk _ (aj _ 4294967296 _ _ rfl) ?_) | ((with_reducible refine EqE.idS ?_); refine EqE.mk _ (bl _ _ _ _ (by first | with_reducible exact ae _ | with_reducible exact ab _ | exact ae _ | exact ab _ | rfl) (by first | omega | (simp only [List.length_set]; omega)) (by omega)) ?_) | refine Cd.om ?_)
  ·rename_i h3
   refine ⟨_, ⟨k + 1, _, _, rfl, by omega, ?_, ?_, ?_, ?_, rfl, rfl⟩, by omega⟩
   ·omega
   ·simp [hl]
   ·have h4 := sq l (i + k) (UInt32.ofNat ((c + ((l.getD (i + k) 0).toNat + x * (B.getD k 0).toNat)) % 4294967296)) (by omega)
    rw [toNat_ofNat (by omega)] at h4
    have h5 := ir (Pw (i + k)) (c + ((l.getD (i + k) 0).toNat + x * (B.getD k 0).toNat))
    rw [bb, show i + (k + 1) = i + k + 1 from rfl, dq]
    generalize (B.getD k 0).toNat = y at *
    have h6 : Pw i * (x * (nv (B.take k) + Pw k * y)) = Pw i * (x * nv (B.take k)) + Pw (i + k) * (x * y) := by
     rw [p9]; grind
    rw [h6]
    rw [Nat.mul_add, Nat.mul_add] at h5
    omega
   ·intro j hj
    rw [getD_set_ne (by omega)]; exact hz j hj
  ·rename_i h3
   have e : k = B.length := by omega
   subst e
   refine ⟨_, ⟨n, i + 1, _, rfl, hn, by omega, ?_, ?_, ?_, rfl, rfl⟩, by omega⟩
   ·simp [hl]
   ·rw [js (by omega) (hz _ (by omega)) (by omega), bb, hxe]
    rw [List.take_of_length_le (Nat.le_refl _)] at hv
    rw [Nat.mod_eq_of_lt hc, hv]
    grind
   ·intro j hj
    rw [getD_set_ne (by omega)]; exact hz j (by omega)
 ·rename_i h0
  show sl _ = sl _
  rw [List.take_of_length_le (by omega), hvA, hvB] at hv
  rw [hv]
end Go.Ev.Ar

namespace Go.Ev.Ar
open Go Go.Ev Go.Proofs
theorem amp (a : List UInt32) (n : Int) (ha : a.length < 2^30) (hn : n ≤ 2^30) : Sim Tryz.prog G0 false 205 [sl a, .int .i64 n] (sl (ofN (nv a * 2 ^ n.toNat))) := by
 refine ck ax Tryz.func205 ?_
 have h1 := dj a
 repeat' ((conv => whnf); first | refine aw.data ?_ | refine c7.mk _ _ (fv _ (by omega)) ?_ | refine rgE ?_ | refine Cd.mk rfl ?_ | with_reducible refine Br.dec (fun _ => ?_) (fun _ => ?_) | refine Res.mk ?_ | ((with_reducible refine EqE.idW ?_); first | refine EqE.mk _ (dx _ 32 (by omega)) ?_ | with_reducible refine EqE.mk _ (a6 _ (by omega)) ?_ | with_reducible refine EqE.mk _ (aq _ (by omega)) ?_) | ((with_reducible refine EqE.idM ?_); refine EqE.mk _ (bn _ 32) ?_) | ((with_reducible refine EqE.idI ?_); refine EqE.mk _ (gq _) ?_) | ((with_reducible refine EqE.idR ?_); refine EqE.mk _ (b7 _) ?_) | refine Cd.om ?_)
 ·rename_i h
  have : nv a = 0 := da.1 (by omega)
  show sl _ = sl []
  rw [this, Nat.zero_mul, cy]
 rename_i h
 generalize hA : ofN (nv a) = A at *
 have hvA : nv A = nv a := by rw [← hA, bj]
 have hs : n.toNat % 32 < 32 := Nat.mod_lt _ (by decide)
 have hN : n.toNat = 32 * (n.toNat / 32) + n.toNat % 32 := (Nat.div_add_mod _ _).symm
 have hN2 : n.toNat ≤ 2^30 := by omega
 generalize hqe : n.toNat / 32 = q at *
 generalize hse : n.toNat % 32 = s at *
 skip
 refine ⟨[], [0,5,6,7,29,30], [25], fun m xs h => ∃ (n i : Nat) (l : List UInt32), m = A.length + 1 - i ∧ n = A.length + q + 1 ∧ i ≤ A.length + 1 ∧ l.length = n ∧ nv l + Pw (q + i) * (at_ A (i - 1) * 2 ^ s / 4294967296) = Pw q * (nv (A.take i) * 2 ^ s) ∧ (∀ j, q + i ≤ j → (l.getD j 0).toNat = 0) ∧
  xs = [.d (sl A), .d (.int .i64 q), .d (.int .i64 s), .own 25 0 n 1, .d (.int .i64 ((n - q : Int).toNat : Nat)), .d (.int .i64 i)] ∧ h = [(25, false, la l)],
  ⟨_, _, _, ⟨.inl rfl, rfl, rfl, by first | rfl | (repeat first | exact all_nil _ | refine cb _ _ _ _ _ ?_)⟩, _, 0, _, rfl, ?_, by omega, by simp, ?_, fun j _ => gk _ _, rfl, rfl⟩, ?_⟩
 ·omega
 ·rw [show at_ A ((0 : Nat) - 1 : Int) = 0 from rfl, cg]; simp
 rintro m xs h ⟨n, i, l, rfl, hn, hi, hl, hv, hz, rfl, rfl⟩
 have hx1 := ld A i
 have hx2 := ld A (i - 1)
 have hy1 := xd hx1 hs
 have hy2 := xd hx2 hs
 repeat' ((conv => whnf); first | refine aw.data ?_ | refine c7.mk _ _ (zf _ _) ?_ | refine c7.mk _ _ (fv _ (by omega)) ?_ | refine rgE ?_ | refine Cd.mk rfl ?_ | with_reducible refine Br.dec (fun _ => ?_) (fun _ => ?_) | refine Res.mk ?_ | refine DsE.mk (a8 _) rfl ?_ | refine ai.cu _ _ ?_ | ((with_reducible refine EqE.idW ?_); first | with_reducible refine EqE.mk _ (eh _ _ (by omega) (by omega)) ?_ | with_reducible refine EqE.mk _ (gl _ _ (by omega) (by omega)) ?_ | with_reducible refine EqE.mk _ (cl _) ?_ | with_reducible refine EqE.mk _ (a6 _ (by omega)) ?_ | with_reducible refine EqE.mk _ (aq _ (by omega)) ?_ | with_reducible refine EqE.mk _ (ah (by omega) (by omega)) ?_) | ((with_reducible refine EqE.idF ?_); refine EqE.mk _ (aj _ 4294967296 _ _ rfl) ?_) | ((with_reducible refine EqE.idS ?_); refine EqE.mk _ (bl _ _ _ _ (by first | with_reducible exact ae _ | with_reducible exact ab _ | exact ae _ | exact ab _ | rfl) (by first | omega | (simp only [List.length_set]; omega)) (by omega)) ?_) | ((with_reducible refine EqE.idL ?_); refine EqE.mk _ (av _ _ _ _ (by omega) (by omega) rfl) ?_) | refine Cd.om ?_)
 ·rename_i h0
  refine ⟨_, ⟨n, i + 1, _, rfl, hn, by omega, ?_, ?_, ?_, rfl, rfl⟩, by omega⟩
  ·simp [hl]
  ·have hc := su hx2 hs
   have hd := afa (x := at_ A i) hs hc
   rw [adt hc, js (by omega) (hz _ (by omega)) (by omega), bb, ← gi, show q + (i + 1) = q + i + 1 from rfl, dq, show ((i + 1 : Nat) : Int) - 1 = i by omega, ← hd]
   have h5 := ir (Pw (q + i)) (at_ A i * 2 ^ s + at_ A (i - 1) * 2 ^ s / 4294967296)
   have h6 : Pw q * ((nv (A.take i) + Pw i * at_ A i) * 2 ^ s) = Pw q * (nv (A.take i) * 2 ^ s) + Pw (q + i) * (at_ A i * 2 ^ s) := by
    rw [p9]; grind
   rw [h6]
   rw [Nat.mul_add] at h5
   omega
  ·intro j hj
   rw [getD_set_ne (by omega)]; exact hz j (by omega)
 ·rename_i h0
  have e : i = A.length + 1 := by omega
  have e0 : at_ A (i - 1) = 0 := by rw [show (i : Int) - 1 = ((A.length : Nat) : Int) by omega, gi, kt (by omega)]
  rw [e0, List.take_of_length_le (by omega), hvA] at hv
  show sl _ = sl _
  rw [hN, ← l8, show nv l = Pw q * (nv a * 2 ^ s) by simpa using hv]
  congr 2; grind
theorem ag8 (a : List UInt32) (n : Int) (ha : a.length < 2^30) (hn : n ≤ 2^60) : Sim Tryz.prog G0 false 207 [sl a, .int .i64 n] (sl (ofN (nv a / 2 ^ n.toNat))) := by
 refine ck ax Tryz.func207 ?_
 have h1 := dj a
 repeat' ((conv => whnf); first | refine aw.data ?_ | refine c7.mk _ _ (fv _ (by omega)) ?_ | refine rgE ?_ | refine Cd.mk rfl ?_ | with_reducible refine Br.dec (fun _ => ?_) (fun _ => ?_) | refine Res.mk ?_ | ((with_reducible refine EqE.idW ?_); first | refine EqE.mk _ (dx _ 32 (by omega)) ?_ | with_reducible refine EqE.mk _ (ah (by omega) (by omega)) ?_) | ((with_reducible refine EqE.idM ?_); refine EqE.mk _ (bn _ 32) ?_) | ((with_reducible refine EqE.idI ?_); refine EqE.mk _ (gq _) ?_) | ((with_reducible refine EqE.idR ?_); refine EqE.mk _ (b7 _) ?_) | refine Cd.om ?_)
 ·rename_i h
  have h2 := fi (ofN (nv a))
  rw [bj] at h2
  have : nv a < 2 ^ n.toNat := Nat.lt_of_lt_of_le h2 (by rw [ji]; exact Nat.pow_le_pow_right (by decide) (by omega))
  show sl _ = sl []
  rw [Nat.div_eq_of_lt this, cy]
 rename_i h
 generalize hA : ofN (nv a) = A at *
 have hvA : nv A = nv a := by rw [← hA, bj]
 have hs : n.toNat % 32 < 32 := Nat.mod_lt _ (by decide)
 have hN : n.toNat = 32 * (n.toNat / 32) + n.toNat % 32 := (Nat.div_add_mod _ _).symm
 generalize hqe : n.toNat / 32 = q at *
 generalize hse : n.toNat % 32 = s at *
 skip
 refine ⟨[], [0,5,6,7,27,28], [25], fun m xs h => ∃ (n i : Nat) (l : List UInt32), m = n - i ∧ n + q = A.length ∧ i ≤ n ∧ l.length = n ∧ nv l = (nv (A.drop q) / 2 ^ s) % Pw i ∧ (∀ j, i ≤ j → (l.getD j 0).toNat = 0) ∧
  xs = [.d (sl A), .d (.int .i64 q), .d (.int .i64 s), .own 25 0 n 1, .d (.int .i64 n), .d (.int .i64 i)] ∧ h = [(25, false, la l)],
  ⟨_, _, _, ⟨.inl rfl, rfl, rfl, by first | rfl | (repeat first | exact all_nil _ | refine cb _ _ _ _ _ ?_)⟩, _, 0, _, rfl, ?_, by omega, by simp, ?_, fun j _ => gk _ _, rfl, rfl⟩, ?_⟩
 ·omega
 ·rw [cg, aei, Nat.mod_one]
 rintro m xs h ⟨n, i, l, rfl, hn, hi, hl, hv, hz, rfl, rfl⟩
 have hx1 := ld A ((q + i : Nat) : Int)
 have hx2 := ld A ((q + i + 1 : Nat) : Int)
 repeat' ((conv => whnf); first | refine aw.data ?_ | refine c7.mk _ _ (zf _ _) ?_ | refine c7.mk _ _ (fv _ (by omega)) ?_ | refine rgE ?_ | refine Cd.mk rfl ?_ | with_reducible refine Br.dec (fun _ => ?_) (fun _ => ?_) | refine Res.mk ?_ | refine DsE.mk (a8 _) rfl ?_ | refine ai.cu _ _ ?_ | ((with_reducible refine EqE.idW ?_); first | with_reducible refine EqE.mk _ (b6 _ (by omega)) ?_ | with_reducible refine EqE.mk _ (gl _ _ (by omega) (by omega)) ?_ | with_reducible refine EqE.mk _ (cl _) ?_ | with_reducible refine EqE.mk _ (a6 _ (by omega)) ?_ | with_reducible refine EqE.mk _ (aq _ (by omega)) ?_) | ((with_reducible refine EqE.idF ?_); with_reducible refine EqE.mk _ (cx _ _ (by omega)) ?_) | ((with_reducible refine EqE.idS ?_); refine EqE.mk _ (bl _ _ _ _ (by first | with_reducible exact ae _ | with_reducible exact ab _ | exact ae _ | exact ab _ | rfl) (by first | omega | (simp only [List.length_set]; omega)) (by omega)) ?_) | ((with_reducible refine EqE.idL ?_); refine EqE.mk _ (av _ _ _ _ (by omega) (by omega) rfl) ?_) | refine Cd.om ?_)
 ·rename_i h0
  refine ⟨_, ⟨n, i + 1, _, rfl, hn, by omega, ?_, ?_, ?_, rfl, rfl⟩, by omega⟩
  ·simp [hl]
  ·rw [abr hx1, js (by omega) (hz _ (by omega)) (by omega), gi, gi, vp (z := nv (A.drop (q + i + 1 + 1))) hs, ← fy, ← fy, hv, dq, Nat.mul_comm 4294967296, Nat.mod_mul,
    et, et, p9]
   have e : Pw q * Pw i * 2 ^ s = Pw q * 2 ^ s * Pw i := by grind
   simp only [Nat.div_div_eq_div_mul, e]
  ·intro j hj
   rw [getD_set_ne (by omega)]; exact hz j (by omega)
 ·rename_i h0
  have e : i = n := by omega
  have h2 := fi (A.drop q)
  rw [List.length_drop, show A.length - q = n by omega] at h2
  have h3 := Nat.div_le_self (nv (A.drop q)) (2 ^ s)
  show sl _ = sl _
  rw [hv, e, Nat.mod_eq_of_lt (by omega), et, hvA, Nat.div_div_eq_div_mul, l8, ← hN]
theorem v7 (n : Int) : Sim Tryz.prog G0 true 206 [.int .i64 n] (.int .i64 (min (max n 0) 100000)) := by
 refine ck ax Tryz.func206 ?_
 repeat' ((conv => whnf); first | refine rgE ?_ | refine Res.mk ?_ | ((with_reducible refine EqE.idI ?_); first | refine EqE.mk _ (gq _) ?_ | refine EqE.mk _ (min_eq _ _) ?_))
 show D.int _ _ = D.int _ _
 congr 1; omega
theorem akm (a : List UInt32) (n : Int) (ha : a.length < 2^30) (hn : n ≤ 100000) : Sim Tryz.prog G0 false 139 [sl a, .int .i64 n] (sl (ofN (nv a * 2 ^ n.toNat))) := by
 refine ck ax Tryz.func139 ?_
 repeat' ((conv => whnf); first | refine aw.data ?_ | refine c7.mk _ _ (v7 _) ?_ | refine c7.mk _ _ (amp _ _ (by omega) (by omega)) ?_ | refine rgE ?_ | refine Res.mk ?_)
 show sl _ = sl _
 rw [show (min (max n 0) 100000).toNat = n.toNat by omega]
theorem akn (a : List UInt32) (n : Int) (ha : a.length < 2^30) (hn : n ≤ 100000) : Sim Tryz.prog G0 false 141 [sl a, .int .i64 n] (sl (ofN (nv a / 2 ^ n.toNat))) := by
 refine ck ax Tryz.func141 ?_
 repeat' ((conv => whnf); first | refine aw.data ?_ | refine c7.mk _ _ (v7 _) ?_ | refine c7.mk _ _ (ag8 _ _ (by omega) (by omega)) ?_ | refine rgE ?_ | refine Res.mk ?_)
 show sl _ = sl _
 rw [show (min (max n 0) 100000).toNat = n.toNat by omega]
end Go.Ev.Ar

namespace Go.Ev.Ar
open Go Go.Ev Go.Proofs
theorem aew (n : Nat) : ((ofN n).length : Int) > 0 ↔ 0 < n := by
 have := da (n := n); omega
theorem ajc (b : Bool) (l : List UInt32) (hl : l.length < 2^32) : Sim Tryz.prog G0 false 133 [.bool b, sl l] (zD (zv b l)) := by
 refine ck ax Tryz.func133 ?_
 repeat' ((conv => whnf); first | refine aw.data ?_ | refine cE (ai4 _ (by omega)) ?_ | refine rgE ?_ | refine Cd.mk rfl ?_ | refine Br.t ?_ | refine Br.f ?_ | refine Br.mk (fun _ => ?_) (fun _ => ?_) | refine TkE.fL ?_ | refine Res.mk ?_ | with_reducible refine EqE.fP ?_ | refine Cd.ol ?_)
 all_goals
  show zD _ = D.agg [D.bool _, sl (ofN (nv l))]
  refine (alm ?_).symm
  simp only [aew, *, Bool.true_and, Bool.false_and]
theorem pq {x : D} {n : Int} (hx : ZR x n) : Sim Tryz.prog G0 false 58 [x] (zD n) := by
 obtain ⟨b, l, hl⟩ := hx
 refine ck ax Tryz.func58 ?_
 repeat' ((conv => whnf); first | refine aw.data ?_ | refine cE (ajc _ _ (by omega)) ?_ | refine rgE ?_ | refine Cd.mk rfl ?_ | refine an.mk _ rfl ?_ | refine TkE.fL ?_ | refine Res.mk ?_ | with_reducible refine EqE.fP ?_ | refine Cd.ol ?_)
 rfl
theorem ahs (x y : Nat) : [A.d (D.int .u32 ((x % 4294967296 : Nat) : Int)), A.d (D.int .u32 ((y % 4294967296 : Nat) : Int))] = (a8 [UInt32.ofNat x, UInt32.ofNat y]).map A.d := by
 simp [a8]
theorem nv2 {x : Nat} (h : x < 18446744073709551616) : nv [UInt32.ofNat x, UInt32.ofNat (x / 4294967296)] = x := by
 simp only [ey, nj, UInt32.toNat_ofNat']; omega
end Go.Ev.Ar

namespace Go.Ev.Ar
open Go Go.Ev Go.Proofs
theorem jn {x : D} {n : Int} (hx : ZR x n) : Sim Tryz.prog G0 false 64 [x] (zD n) := by
 obtain ⟨b, l, hl⟩ := hx
 refine ck ax Tryz.func64 ?_
 repeat' ((conv => whnf); first | refine aw.data ?_ | refine cE (ga _ (by omega)) ?_ | refine rgE ?_ | refine Cd.mk rfl ?_ | refine Br.t ?_ | refine Br.f ?_ | refine Br.mk (fun _ => ?_) (fun _ => ?_) | refine an.mk _ rfl ?_ | refine TkE.fL ?_ | refine Res.mk ?_ | with_reducible refine EqE.fP ?_ | refine Cd.ol ?_)
 all_goals
  show zD _ = D.agg [D.bool _, sl (ofN (nv l))]
  refine (alm ?_).symm
  simp only [aew, *, Bool.true_and, Bool.false_and]
theorem rm {m n : Int} (hm : Zt 134217728 m) (hn : Zt 134217728 n) : Sim Tryz.prog G0 true 21 [zD m, zD n] (.bool (decide (m = n))) := by
 have e1 := hm.len (k := 4194304) (by decide)
 have e2 := hn.len (k := 4194304) (by decide)
 refine ck ax Tryz.func21 ?_
 repeat' ((conv => whnf); first | refine aw.data ?_ | refine cE (af8 _ _ (by omega) (by omega)) ?_ | refine rgE ?_ | refine Cd.mk rfl ?_ | refine Br.t ?_ | refine Br.f ?_ | refine Br.mk (fun _ => ?_) (fun _ => ?_) | refine an.mk _ rfl ?_ | refine Res.mk ?_)
 ·rename_i h
  show D.bool _ = D.bool _
  congr 1
  refine decide_eq_decide.2 ⟨fun e => by rw [e], fun e => ?_⟩
  have h1 := akh e
  have h2 := eq_of_beq h
  have h3 : m < 0 ↔ n < 0 := by simpa [gy] using h2
  omega
 ·rename_i h
  show D.bool _ = D.bool _
  congr 1
  refine decide_eq_false fun e => ?_
  subst e; simp at h
theorem ad1 (n : Int) (h1 : -9223372036854775808 ≤ n) (h2 : n ≤ 9223372036854775807) : Sim Tryz.prog G0 false 54 [.int .i64 n] (zD n) := by
 refine ck ax Tryz.func54 ?_
 rcases Int.lt_or_le n 0 with h | h
 ·have w1 : IntKind.u64.wrap n = ((18446744073709551616 - n.natAbs : Nat) : Int) := by
   have e : IntKind.u64.wrap n = if (false && decide (n % 2 ^ 64 ≥ 2 ^ 63)) = true then n % 2 ^ 64 - 2 ^ 64 else n % 2 ^ 64 := rfl
   rw [e, if_neg (by simp)]; omega
  have w2 : IntKind.u64.wrap (0 - ((18446744073709551616 - n.natAbs : Nat) : Int)) = ((n.natAbs : Nat) : Int) := by
   generalize hx : (0 - ((18446744073709551616 - n.natAbs : Nat) : Int)) = x
   have e : IntKind.u64.wrap x = if (false && decide (x % 2 ^ 64 ≥ 2 ^ 63)) = true then x % 2 ^ 64 - 2 ^ 64 else x % 2 ^ 64 := rfl
   rw [e, if_neg (by simp)]; omega
  repeat' ((conv => whnf); first | refine aw.data ?_ | refine cE (jn (.mk _ _ (by simp))) ?_ | refine DsE.mk (a8 [UInt32.ofNat n.natAbs, UInt32.ofNat (n.natAbs / 4294967296)]) (ahs _ _) ?_ | refine rgE ?_ | refine Cd.mk rfl ?_ | with_reducible refine Br.dec (fun _ => ?_) (fun _ => ?_) | refine TkE.fL ?_ | refine Res.mk ?_ | ((with_reducible refine EqE.idW ?_); first | refine EqE.mk _ w1 ?_ | refine EqE.mk _ w2 ?_ | with_reducible refine EqE.mk _ (cl _) ?_) | ((with_reducible refine EqE.idF ?_); first | with_reducible refine EqE.mk _ (cx _ _ (by omega)) ?_ | refine EqE.mk _ (aj _ 4294967296 _ _ rfl) ?_) | with_reducible refine EqE.fP ?_ | ((with_reducible refine EqE.idL ?_); refine EqE.mk (sl [UInt32.ofNat n.natAbs, UInt32.ofNat (n.natAbs / 4294967296)]) rfl ?_) | refine Cd.ol ?_ | refine Cd.om ?_)
  ·show zD _ = zD (zv (decide (n < 0)) _)
   rw [decide_eq_true h, ak2, nv2 (by omega)]; congr 1; omega
  ·omega
 ·have w1 : IntKind.u64.wrap n = ((n.natAbs : Nat) : Int) := by rw [wrap_u64 h (by omega)]; omega
  repeat' ((conv => whnf); first | refine aw.data ?_ | refine cE (jn (.mk _ _ (by simp))) ?_ | refine DsE.mk (a8 [UInt32.ofNat n.natAbs, UInt32.ofNat (n.natAbs / 4294967296)]) (ahs _ _) ?_ | refine rgE ?_ | refine Cd.mk rfl ?_ | with_reducible refine Br.dec (fun _ => ?_) (fun _ => ?_) | refine TkE.fL ?_ | refine Res.mk ?_ | ((with_reducible refine EqE.idW ?_); first | refine EqE.mk _ w1 ?_ | with_reducible refine EqE.mk _ (ei _ _ (by omega) (by omega)) ?_ | with_reducible refine EqE.mk _ (cl _) ?_) | ((with_reducible refine EqE.idF ?_); first | with_reducible refine EqE.mk _ (cx _ _ (by omega)) ?_ | refine EqE.mk _ (aj _ 4294967296 _ _ rfl) ?_) | with_reducible refine EqE.fP ?_ | ((with_reducible refine EqE.idL ?_); refine EqE.mk (sl [UInt32.ofNat n.natAbs, UInt32.ofNat (n.natAbs / 4294967296)]) rfl ?_) | refine Cd.ol ?_ | refine Cd.om ?_)
  ·omega
  ·show zD _ = zD (zv (decide (n < 0)) _)
   rw [decide_eq_false (by omega), ajf, nv2 (by omega)]; congr 1; omega
end Go.Ev.Ar

namespace Go.Ev.Ar
open Go Go.Ev Go.Proofs
set_option maxHeartbeats 2000000 in
theorem aih (a b : List UInt32) (ha : a.length < 2^26) (hb : b.length < 2^26) (hb0 : nv b ≠ 0) : Sim Tryz.prog G0 false 65 [sl a, sl b] (.tup [sl (ofN (nv a / nv b)), sl (ofN (nv a % nv b)), .bool true]) := by
 refine ck ax Tryz.func65 ?_
 have h1 := dj a
 have h2 := dj b
 have h3 := fi (ofN (nv a))
 rw [bj, ji] at h3
 have hnb := lj.2 h3
 have hnb2 : nb (nv (ofN (nv a))) ≤ 32 * (ofN (nv a)).length := by rw [bj]; exact hnb
 repeat' ((conv => whnf); first | refine aw.data ?_ | refine c7.mk _ _ (ga _ (by omega)) ?_ | refine c7.mk _ _ (af6 _ (by omega)) ?_ | refine rgE ?_ | refine Cd.mk rfl ?_ | with_reducible refine Br.dec (fun _ => ?_) (fun _ => ?_) | refine Res.mk ?_ | ((with_reducible refine EqE.idW ?_); with_reducible refine EqE.mk _ (ah (by omega) (by omega)) ?_) | ((with_reducible refine EqE.idR ?_); refine EqE.mk _ (b7 _) ?_) | refine Cd.om ?_)
 ·rename_i h
  exact absurd (da.1 (show (ofN (nv b)).length = 0 by omega)) hb0
 rename_i h4
 rw [bj]
 skip
 refine ⟨[], [7, 8, 9, 10, 11], [21], fun m xs h => ∃ (i : Int) (n : Nat) (r q : List UInt32), i = m - 1 ∧ n = (ofN (nv a)).length ∧ m ≤ nb (nv a) ∧ r = ofN (nv a / 2 ^ m % nv b) ∧ nv q = nv a / 2 ^ m / nv b * 2 ^ m ∧ q.length = n ∧
   xs = [.d (sl (ofN (nv a))), .d (sl (ofN (nv b))), .own 21 0 n 1, .d (sl r), .d (.int .i64 i)] ∧ h = [(21, false, la q)],
  ⟨_, _, _, ⟨.inr rfl, rfl, rfl, by first | rfl | (repeat first | exact all_nil _ | refine cb _ _ _ _ _ ?_)⟩, _, _, [], _, rfl, rfl, Nat.le_refl _, ?_, ?_, List.length_replicate, rfl, rfl⟩, ?_⟩
 ·rw [Nat.div_eq_of_lt (ahz _), Nat.zero_mod, cy]
 ·rw [Nat.div_eq_of_lt (ahz _), Nat.zero_div, Nat.zero_mul, cg]
 rintro m xs h ⟨i, n, r, q, hi, hn, hm, hr, hq, hql, rfl, rfl⟩
 rcases m with _ | k
 ·repeat' ((conv => whnf); first | refine aw.data ?_ | refine c7.mk _ _ (ga _ (by omega)) ?_ | refine rgE ?_ | refine Cd.mk rfl ?_ | with_reducible refine Br.dec (fun _ => ?_) (fun _ => ?_) | refine Res.mk ?_ | refine DsE.mk (a8 _) rfl ?_ | ((with_reducible refine EqE.idL ?_); refine EqE.mk _ (av _ _ _ _ (by omega) (by omega) rfl) ?_))
  ·omega
  ·rename_i h5
   show D.tup [sl _, sl _, .bool true] = D.tup [sl _, sl _, .bool true]
   simp only [Nat.pow_zero, Nat.div_one, Nat.mul_one] at hr hq
   rw [hr, hq]
 obtain rfl : i = (k : Int) := by omega
 have hs : k % 32 < 32 := Nat.mod_lt _ (by decide)
 obtain ⟨c, hc⟩ := adf hq
 have ho := ca (q.getD (k / 32) 0)
 have hlt := ah9 hs ho hc
 have hrb : nv r < nv b := by rw [hr, bj]; exact Nat.mod_lt _ (by omega)
 have hrl : r.length ≤ b.length := by rw [hr]; exact cz.2 (Nat.lt_trans (by rw [← bj (_ % _), ← hr]; exact hrb) (fi b))
 have hr1 : (ofN (nv r * 2 ^ (Int.toNat 1))).length ≤ b.length + 1 := cz.2 (by rw [dq]; have := fi b; show nv r * 2 < _; omega)
 have hr2 : (ofN (nv (ofN (nv r * 2 ^ (Int.toNat 1))) + nv [1])).length ≤ b.length + 1 := cz.2 (by rw [dq, bj]; have := fi b; show nv r * 2 + 1 < _; omega)
 have hst := ag6 (nv a) (nv b) k _ (by omega) rfl
 have hrv : nv r = nv a / 2 ^ (k + 1) % nv b := by rw [hr, bj]
 repeat' ((conv => whnf); first | refine aw.data ?_ | refine c7.mk _ _ (aio _ _ (by omega) (by omega)) ?_ | refine c7.mk _ _ (aid _ _ (by omega) (by omega)) ?_ | refine c7.mk _ _ (abv _ _ (by omega) (by simp)) ?_ | refine c7.mk _ _ (abw _ _ (by omega) (by omega)) ?_ | refine c7.mk _ _ (aiq _ _ (by omega) (by omega)) ?_ | refine DsE.mk (a8 [1]) rfl ?_ | refine Cd.mk (show 0 + 1 ≤ List.length (jh 1 _) from Nat.le_of_ble_eq_true rfl) ?_ | refine rgE ?_ | refine Cd.mk rfl ?_ | refine Br.t ?_ | with_reducible refine Br.dec (fun _ => ?_) (fun _ => ?_) | refine Br.mk (fun _ => ?_) (fun _ => ?_) | refine an.mk _ (cp _ _ _ (by first | with_reducible exact ae _ | with_reducible exact ab _ | exact ae _ | exact ab _ | rfl) (by first | omega | (simp only [List.length_set]; omega))) ?_ | refine an.mk _ rfl ?_ | refine ai.cu _ _ ?_ | ((with_reducible refine EqE.idW ?_); first | with_reducible refine EqE.mk _ (af2 _ hs) ?_ | with_reducible refine EqE.mk _ (aj9 hs ho hc) ?_ | refine EqE.mk _ (dx _ 32 (by omega)) ?_ | with_reducible refine EqE.mk _ (ed _ (by omega)) ?_ | with_reducible refine EqE.mk _ (ah (by omega) (by omega)) ?_) | ((with_reducible refine EqE.idM ?_); refine EqE.mk _ (bn _ 32) ?_) | ((with_reducible refine EqE.idS ?_); refine EqE.mk _ (bl _ _ _ _ (by first | with_reducible exact ae _ | with_reducible exact ab _ | exact ae _ | exact ab _ | rfl) (by first | omega | (simp only [List.length_set]; omega)) (by omega)) ?_) | ((with_reducible refine EqE.idL ?_); refine EqE.mk (sl [1]) rfl ?_) | refine Cd.om ?_)
 ·rename_i hbit hcmp
  have e1 : nv (ofN (nv (ofN (nv r * 2 ^ Int.toNat 1)) + nv [1])) = nv r * 2 + 1 := by rw [bj, bj]; rfl
  rw [bj] at hbit
  rw [qz] at hcmp
  rw [bj, e1] at hcmp
  rw [hbit, ← hrv] at hst
  simp only [Bool.toNat_true, Nat.add_zero] at hst
  rw [if_pos hcmp, if_pos hcmp] at hst
  refine ⟨k, ⟨_, n, _, _, rfl, hn, by omega, ?_, ?_, ?_, rfl, rfl⟩, by omega⟩
  ·rw [hst.1, e1, bj]
  ·rw [yu (by omega) hlt, hq, hst.2, Nat.pow_succ]; grind
  ·rw [List.length_set, hql]
 ·rename_i hbit hcmp
  have e1 : nv (ofN (nv (ofN (nv r * 2 ^ Int.toNat 1)) + nv [1])) = nv r * 2 + 1 := by rw [bj, bj]; rfl
  rw [bj] at hbit
  rw [qz] at hcmp
  rw [bj, e1] at hcmp
  rw [hbit, ← hrv] at hst
  simp only [Bool.toNat_true, Nat.add_zero] at hst
  rw [if_neg hcmp, if_neg hcmp] at hst
  refine ⟨k, ⟨_, n, _, _, rfl, hn, by omega, ?_, ?_, ?_, rfl, rfl⟩, by omega⟩
  ·rw [hst.1, ← e1, bj, bj]
  ·rw [hq, hst.2, Nat.pow_succ]; grind
  ·exact hql
 ·rename_i hbit hcmp
  have e1 : nv (ofN (nv r * 2 ^ Int.toNat 1)) = nv r * 2 := by rw [bj]; rfl
  rw [bj] at hbit
  rw [qz] at hcmp
  rw [bj, e1] at hcmp
  rw [hbit, ← hrv] at hst
  simp only [Bool.toNat_false, Nat.add_zero] at hst
  rw [if_pos hcmp, if_pos hcmp] at hst
  refine ⟨k, ⟨_, n, _, _, rfl, hn, by omega, ?_, ?_, ?_, rfl, rfl⟩, by omega⟩
  ·rw [hst.1, e1, bj]
  ·rw [yu (by omega) hlt, hq, hst.2, Nat.pow_succ]; grind
  ·rw [List.length_set, hql]
 ·rename_i hbit hcmp
  have e1 : nv (ofN (nv r * 2 ^ Int.toNat 1)) = nv r * 2 := by rw [bj]; rfl
  rw [bj] at hbit
  rw [qz] at hcmp
  rw [bj, e1] at hcmp
  rw [hbit, ← hrv] at hst
  simp only [Bool.toNat_false, Nat.add_zero] at hst
  rw [if_neg hcmp, if_neg hcmp] at hst
  refine ⟨k, ⟨_, n, _, _, rfl, hn, by omega, ?_, ?_, ?_, rfl, rfl⟩, by omega⟩
  ·rw [hst.1, ← e1, bj]
  ·rw [hq, hst.2, Nat.pow_succ]; grind
  ·exact hql
end Go.Ev.Ar

-- STR
namespace Go.Ev.Ar
open Go Go.Ev Go.Proofs
theorem anb {k j : Nat} (w : List UInt32) (hw : nv w = j) (hl : w.length < 2 ^ 26) (hk : (ofN k).length < 2 ^ 26) (h0 : j ≠ 0) : Sim Tryz.prog G0 false 65 [sl (ofN k), sl w] (.tup [sl (ofN (k / j)), sl (ofN (k % j)), .bool true]) := by
 have h := aih (ofN k) w hk hl (by omega)
 rw [bj, hw] at h; exact h
theorem am8 : nv [10] = 10 := rfl
theorem amv {k : Nat} (h : k < 4294967296) : at_ (ofN k) 0 = k := by
 by_cases h0 : k = 0
 ·subst h0; rw [cy]; rfl
 ·rw [ln h0]; show (UInt32.ofNat k).toNat = k
  simp only [UInt32.toNat_ofNat']; omega
theorem ag0 {d : Nat} (h : d < 10) : UInt8.ofNat (48 + d) = ch d := by unfold ch; rw [if_pos h]
theorem wm {k m : Nat} (h : k ≤ m) {c : Nat} (hm : (ofN m).length < c) : (ofN k).length < c := by
 have h1 : (ofN m).length ≤ c - 1 := by omega
 rw [cz] at h1
 have h2 : (ofN k).length ≤ c - 1 := cz.2 (by omega)
 omega
theorem w48 {d : Nat} (h : d < 10) : IntKind.u64.wrap (48 + (d : Int)) = ((48 + d : Nat) : Int) := by rw [wrap_u64 (by omega) (by omega)]; omega
theorem w8 {d : Nat} (h : d < 10) : IntKind.u8.wrap ((48 + d : Nat) : Int) = ((48 + d : Nat) : Int) := by rw [gu, Nat.mod_eq_of_lt (by omega)]
theorem h48 {d : Nat} (h : d < 10) : [D.int .u8 ((48 + d : Nat) : Int)] = [ch d].map fun x => D.int .u8 (x.toNat : Int) := by
 simp only [List.map_cons, List.map_nil, alp h]
theorem anr {d : Nat} (h : d < 10) : Sim Tryz.prog G0 true 66 [sl (ofN d), .int .i64 0] (.int .u64 (d : Int)) := by
 have s := ur (ofN d) 0
 have e : at_ (ofN d) (0 : Nat) = d := amv (by omega)
 rw [e] at s; exact s
theorem afe (b : Nat) (hb : 2 ≤ b) (n : Int) : (if (dg b n.natAbs).map ch = [] then [48] else if gy n then [45] ++ (dg b n.natAbs).map ch else (dg b n.natAbs).map ch) = txt b (gy n) n.natAbs := by
 unfold txt
 by_cases h : n.natAbs = 0
 ·rw [h, if_pos (by rw [en]; rfl), if_pos rfl]
 ·rw [if_neg h, if_neg (by simp [o7 hb]; omega)]
  cases gy n <;> simp
theorem yd (b : Nat) (hb : 2 ≤ b) {n k : Nat} (h : (ofN n).length ≤ k) : (dg b n).length ≤ 32 * k := by
 refine od hb _ _ (Nat.lt_of_lt_of_le (cz.1 h) ?_)
 rw [ji]
 exact Nat.pow_le_pow_left hb _
theorem aa2 (b : Nat) (hb : 2 ≤ b) {n : Nat} (h : (ofN n).length < 2 ^ 20) : (dg b n).length ≤ 33554432 := by
 have := yd b hb (n := n) (k := 1048575) (by omega)
 omega
theorem af9 {x : D} {n : Int} (hx : ZR x n) (hl : (ofN n.natAbs).length < 2 ^ 20) : Sim Tryz.prog G0 true 18 [x] (.str (bst (txt 10 (gy n) n.natAbs))) := by
 have s1 := jn hx
 have hB := aa2 10 (by omega) hl
 obtain ⟨b, l, hl0⟩ := hx
 refine ck ax Tryz.func18 ?_
 repeat' ((conv => whnf); first | refine aw.data ?_ | refine cE s1 ?_ | refine rgE ?_ | refine Cd.mk rfl ?_ | refine Br.t ?_ | refine Br.f ?_ | with_reducible refine Br.eqd ?_ | with_reducible refine Br.eqb ?_ | with_reducible refine Br.dec (fun _ => ?_) (fun _ => ?_) | with_reducible refine Br.br (fun _ => ?_) (fun _ => ?_) | refine Br.mk (fun _ => ?_) (fun _ => ?_) | refine an.mk _ rfl ?_ | refine And.intro (fun _ => ?_) ?_ | (refine TkE.fL ?_; (conv => whnf); fail_if_success (show ag _ _)) | refine TkE.mk _ rfl rfl ?_ | refine Res.mk ?_ | refine a7.mk (by repeat first | exact True.intro | refine And.intro (by kernel_rfl) ?_) ?_ | refine DsE.mk [] rfl ?_ | refine ai.cu _ _ ?_ | ((with_reducible refine EqE.idT ?_); first | ((conv => arg 1; simp only [ak, List.toList_toArray, ao, af, aa, Int.toNat_natCast, Int.toNat_zero, Int.toNat_one, b3, b4, List.drop_zero, Nat.sub_zero, List.cons_append, List.nil_append]); refine EqE.mk _ rfl ?_) | refine EqE.mk _ rfl ?_) | ((with_reducible refine EqE.idP ?_); first | ((conv => arg 1; simp only [ak, List.toList_toArray, bx, bz]); refine EqE.mk _ rfl ?_) | refine EqE.mk _ rfl ?_) | ((with_reducible refine EqE.idN ?_); first | ((conv => arg 1; simp only [ak, List.toList_toArray, aa, ba, Int.toNat_natCast, Int.toNat_zero, Int.toNat_one, List.length_cons, List.length_nil, Nat.zero_add]); refine EqE.mk _ rfl ?_)) | ((with_reducible refine EqE.idW ?_); first | with_reducible refine EqE.mk _ (a6 _ (by omega)) ?_ | with_reducible refine EqE.mk _ (aq _ (by omega)) ?_ | refine EqE.mk _ (ah (by omega) (by omega)) ?_ | refine EqE.mk _ rfl ?_) | ((with_reducible refine EqE.idM ?_); refine EqE.mk _ rfl ?_) | ((with_reducible refine EqE.idI ?_); first | refine EqE.mk _ (max_eq _ _) ?_ | refine EqE.mk _ (min_eq _ _) ?_) | ((with_reducible refine EqE.idS ?_); first | (refine EqE.fP ?_; (conv => whnf); fail_if_success (show ag _ _)) | refine EqE.mk _ rfl ?_) | ((with_reducible refine EqE.idL ?_); first | refine EqE.mk _ (av _ _ _ _ (by omega) (by omega) rfl) ?_ | refine EqE.mk _ rfl ?_) | refine EqE.mk _ rfl ?_ | refine Cd.ro ?_ | refine Cd.dc ?_ | refine Cd.ob ?_ | refine Cd.ol ?_ | refine Cd.mk ⟨rfl, rfl⟩ ?_ | refine Cd.os ?_ | refine Cd.mk ?_ ?_ | refine DsE.mk [_] rfl ?_ | refine DsE.mk [_, _, _] rfl ?_)
 refine ⟨[], [4, 5, 3], [3], fun m xs h => ∃ (k : Nat) (ds : List Nat), m = k ∧ k ≤ (zv b l).natAbs ∧ dg 10 (zv b l).natAbs = dg 10 k ++ ds ∧ xs = [.d (.str (bst (ds.map ch))), .d (sl (ofN k)), .ptr 3 0] ∧ h = [(3, false, [.d (.bool (gy (zv b l))), .d (sl (ofN (zv b l).natAbs))])],
  ⟨_, _, _, ⟨.inl rfl, rfl, rfl, by first | rfl | (repeat first | exact all_nil _ | refine cb _ _ _ _ _ ?_)⟩, (zv b l).natAbs, [], rfl, Nat.le_refl _, by simp, by rw [List.map_nil, aek]; rfl, rfl⟩, ?_⟩
 rintro m xs h ⟨_, ds, rfl, hk, hd, rfl, rfl⟩
 have hkl := wm hk hl
 have hds : ds.length ≤ 33554432 := by have := congrArg List.length hd; simp only [List.length_append] at this; omega
 by_cases h0 : m = 0
 ·subst h0
  have e := afe 10 (by omega) (zv b l)
  rw [hd, en, List.nil_append] at e
  have hz : (ofN 0).length = 0 := da.2 rfl
  repeat' ((conv => whnf); first | refine aw.data ?_ | with_reducible refine Br.bf fun _ => ?_ | refine rgE ?_ | refine Cd.mk rfl ?_ | refine Br.t ?_ | refine Br.f ?_ | with_reducible refine Br.eqd ?_ | with_reducible refine Br.eqb ?_ | with_reducible refine Br.dec (fun _ => ?_) (fun _ => ?_) | with_reducible refine Br.br (fun _ => ?_) (fun _ => ?_) | refine Br.mk (fun _ => ?_) (fun _ => ?_) | refine an.mk _ rfl ?_ | refine And.intro (fun _ => ?_) ?_ | (refine TkE.fL ?_; (conv => whnf); fail_if_success (show ag _ _)) | refine TkE.mk _ rfl rfl ?_ | refine Res.mk ?_ | refine a7.mk (by repeat first | exact True.intro | refine And.intro (by kernel_rfl) ?_) ?_ | refine DsE.mk [] rfl ?_ | refine ai.cu _ _ ?_ | ((with_reducible refine EqE.idT ?_); first | ((conv => arg 1; simp only [ak, List.toList_toArray, ao, af, aa, Int.toNat_natCast, Int.toNat_zero, Int.toNat_one, b3, b4, List.drop_zero, Nat.sub_zero, List.cons_append, List.nil_append]); refine EqE.mk _ rfl ?_) | refine EqE.mk _ rfl ?_) | ((with_reducible refine EqE.idP ?_); first | ((conv => arg 1; simp only [ak, List.toList_toArray, bx, bz]); refine EqE.mk _ rfl ?_) | refine EqE.mk _ rfl ?_) | ((with_reducible refine EqE.idN ?_); first | ((conv => arg 1; simp only [ak, List.toList_toArray, aa, ba, Int.toNat_natCast, Int.toNat_zero, Int.toNat_one, List.length_cons, List.length_nil, Nat.zero_add]); refine EqE.mk _ rfl ?_)) | ((with_reducible refine EqE.idW ?_); first | with_reducible refine EqE.mk _ (a6 _ (by omega)) ?_ | with_reducible refine EqE.mk _ (aq _ (by omega)) ?_ | refine EqE.mk _ (ah (by omega) (by omega)) ?_ | refine EqE.mk _ rfl ?_) | ((with_reducible refine EqE.idM ?_); refine EqE.mk _ rfl ?_) | ((with_reducible refine EqE.idI ?_); first | refine EqE.mk _ (max_eq _ _) ?_ | refine EqE.mk _ (min_eq _ _) ?_) | ((with_reducible refine EqE.idS ?_); first | (refine EqE.fP ?_; (conv => whnf); fail_if_success (show ag _ _)) | refine EqE.mk _ rfl ?_) | ((with_reducible refine EqE.idL ?_); first | refine EqE.mk _ (av _ _ _ _ (by omega) (by omega) rfl) ?_ | refine EqE.mk _ rfl ?_) | refine EqE.mk _ rfl ?_ | refine Cd.ro ?_ | refine Cd.dc ?_ | refine Cd.ob ?_ | refine Cd.ol ?_ | refine Cd.mk ⟨rfl, rfl⟩ ?_ | refine Cd.os ?_ | refine Cd.mk ?_ ?_ | refine DsE.mk [_] rfl ?_ | refine DsE.mk [_, _, _] rfl ?_)
  all_goals show D.str _ = D.str _
  ·rename_i h1
   have h1 := of_decide_eq_true h1
   rw [← e, if_pos h1, ak]
  ·rename_i h1 h2
   have h1 := of_decide_eq_false h1
   rw [← e, if_neg h1, if_pos h2]; rfl
  ·rename_i h1 h2
   have h1 := of_decide_eq_false h1
   rw [← e, if_neg h1, if_neg (by simp [h2])]
 ·have h1 := gm h0
  have h2 : 0 < (ofN m).length := by rw [List.length_pos_iff]; exact h1
  have h3 : m % 10 < 10 := Nat.mod_lt _ (by omega)
  repeat' ((conv => whnf); first | refine aw.data ?_ | with_reducible refine Br.bt fun _ => ?_ | refine cE ((anb (j := 10) [10] am8 (by simp) (by omega) (by omega))) ?_ | refine cE ((anr h3)) ?_ | refine DsE.mk (a8 [10]) rfl ?_ | refine BtE.mk [ch (m % 10)] (h48 h3) ?_ | refine rgE ?_ | refine Cd.mk rfl ?_ | refine Br.t ?_ | refine Br.f ?_ | with_reducible refine Br.eqd ?_ | with_reducible refine Br.eqb ?_ | with_reducible refine Br.dec (fun _ => ?_) (fun _ => ?_) | with_reducible refine Br.br (fun _ => ?_) (fun _ => ?_) | refine Br.mk (fun _ => ?_) (fun _ => ?_) | refine an.mk _ rfl ?_ | refine And.intro (fun _ => ?_) ?_ | (refine TkE.fL ?_; (conv => whnf); fail_if_success (show ag _ _)) | refine TkE.mk _ rfl rfl ?_ | refine Res.mk ?_ | refine a7.mk (by repeat first | exact True.intro | refine And.intro (by kernel_rfl) ?_) ?_ | refine DsE.mk [] rfl ?_ | refine ai.cu _ _ ?_ | ((with_reducible refine EqE.idT ?_); first | ((conv => arg 1; simp only [ak, List.toList_toArray, ao, af, aa, Int.toNat_natCast, Int.toNat_zero, Int.toNat_one, b3, b4, List.drop_zero, Nat.sub_zero, List.cons_append, List.nil_append]); refine EqE.mk _ rfl ?_) | refine EqE.mk _ rfl ?_) | ((with_reducible refine EqE.idP ?_); first | ((conv => arg 1; simp only [ak, List.toList_toArray, bx, bz]); refine EqE.mk _ rfl ?_) | refine EqE.mk _ rfl ?_) | ((with_reducible refine EqE.idN ?_); first | ((conv => arg 1; simp only [ak, List.toList_toArray, aa, ba, Int.toNat_natCast, Int.toNat_zero, Int.toNat_one, List.length_cons, List.length_nil, Nat.zero_add]); refine EqE.mk _ rfl ?_)) | ((with_reducible refine EqE.idW ?_); first | refine EqE.mk ((48 + m % 10 : Nat) : Int) (w48 h3) ?_ | refine EqE.mk ((48 + m % 10 : Nat) : Int) (w8 h3) ?_ | with_reducible refine EqE.mk _ (a6 _ (by omega)) ?_ | with_reducible refine EqE.mk _ (aq _ (by omega)) ?_ | refine EqE.mk _ (ah (by omega) (by omega)) ?_ | refine EqE.mk _ rfl ?_) | ((with_reducible refine EqE.idM ?_); refine EqE.mk _ rfl ?_) | ((with_reducible refine EqE.idI ?_); first | refine EqE.mk _ (max_eq _ _) ?_ | refine EqE.mk _ (min_eq _ _) ?_) | ((with_reducible refine EqE.idS ?_); first | (refine EqE.fP ?_; (conv => whnf); fail_if_success (show ag _ _)) | refine EqE.mk _ rfl ?_) | ((with_reducible refine EqE.idL ?_); first | refine EqE.mk (sl [10]) rfl ?_ | refine EqE.mk _ (av _ _ _ _ (by omega) (by omega) rfl) ?_ | refine EqE.mk _ rfl ?_) | refine EqE.mk _ rfl ?_ | refine Cd.ro ?_ | refine Cd.dc ?_ | refine Cd.ob ?_ | refine Cd.ol ?_ | refine Cd.mk ⟨rfl, rfl⟩ ?_ | refine Cd.os ?_ | refine Cd.mk ?_ ?_ | refine DsE.mk [_] rfl ?_ | refine DsE.mk [_, _, _] rfl ?_)
  refine ⟨_, ⟨m / 10, (m % 10) :: ds, rfl, Nat.le_trans (Nat.div_le_self _ _) hk, ?_, rfl, rfl⟩, Nat.div_lt_self (by omega) (by omega)⟩
  rw [hd, fw (by omega) h0, List.append_assoc]; rfl
theorem anc {k : Nat} (hk : (ofN k).length < 2 ^ 30) : Sim Tryz.prog G0 false 67 [sl (ofN k), .int .i64 4] (sl (ofN (k / 16))) := by
 have h := aip (ofN k) 4 hk (by omega)
 rw [bj] at h; exact h
theorem ano {d : Nat} (h : d < 16) : (⟨#[48, 49, 50, 51, 52, 53, 54, 55, 56, 57, 97, 98, 99, 100, 101, 102]⟩ : ByteArray).extract ((d : Nat) : Int).toNat ((d + 1 : Nat) : Int).toNat = bst [ch d] := by
 rw [ak, af, Int.toNat_natCast, Int.toNat_natCast]
 congr 1
 have : ∀ d : Fin 16, List.take (d.1 + 1 - d.1) (List.drop d.1 #[(48 : UInt8), 49, 50, 51, 52, 53, 54, 55, 56, 57, 97, 98, 99, 100, 101, 102].toList) = [ch d.1] := by decide
 exact this ⟨d, h⟩
theorem ams {k : Nat} : IntKind.u32.wrap (BitVec.ofInt IntKind.u32.bits (((UInt32.ofNat k).toNat : Nat) : Int) &&& BitVec.ofInt IntKind.u32.bits 15).toNat = ((k % 16 : Nat) : Int) := by
 rw [show (15 : Int) = ((15 : Nat) : Int) from rfl]
 have e : (BitVec.ofInt IntKind.u32.bits (((UInt32.ofNat k).toNat : Nat) : Int) &&& BitVec.ofInt IntKind.u32.bits ((15 : Nat) : Int)).toNat = k % 16 := by
  simp only [BitVec.toNat_and, BitVec.ofInt_natCast, BitVec.toNat_ofNat, UInt32.toNat_ofNat']
  show (k % 4294967296 % 4294967296) &&& (15 % 4294967296) = _
  rw [show (15 % 4294967296 : Nat) = 2 ^ 4 - 1 from rfl, Nat.and_two_pow_sub_one_eq_mod]
  omega
 rw [e, cl]; omega
theorem anu {d : Nat} (h : d < 16) : IntKind.u32.wrap ((d : Int) + 1) = ((d + 1 : Nat) : Int) := by rw [wrap_u32]; omega
theorem aim {x : D} {n : Int} (hx : ZR x n) (hl : (ofN n.natAbs).length < 2 ^ 20) : Sim Tryz.prog G0 true 20 [x] (.str (bst (txt 16 (gy n) n.natAbs))) := by
 have s1 := jn hx
 have hB := aa2 16 (by omega) hl
 obtain ⟨b, l, hl0⟩ := hx
 refine ck ax Tryz.func20 ?_
 repeat' ((conv => whnf); first | refine aw.data ?_ | refine cE s1 ?_ | refine rgE ?_ | refine Cd.mk rfl ?_ | refine Br.t ?_ | refine Br.f ?_ | with_reducible refine Br.eqd ?_ | with_reducible refine Br.eqb ?_ | with_reducible refine Br.dec (fun _ => ?_) (fun _ => ?_) | with_reducible refine Br.br (fun _ => ?_) (fun _ => ?_) | refine Br.mk (fun _ => ?_) (fun _ => ?_) | refine an.mk _ rfl ?_ | refine And.intro (fun _ => ?_) ?_ | (refine TkE.fL ?_; (conv => whnf); fail_if_success (show ag _ _)) | refine TkE.mk _ rfl rfl ?_ | refine Res.mk ?_ | refine a7.mk (by repeat first | exact True.intro | refine And.intro (by kernel_rfl) ?_) ?_ | refine DsE.mk [] rfl ?_ | refine ai.cu _ _ ?_ | ((with_reducible refine EqE.idT ?_); first | ((conv => arg 1; simp only [ak, List.toList_toArray, ao, af, aa, Int.toNat_natCast, Int.toNat_zero, Int.toNat_one, b3, b4, List.drop_zero, Nat.sub_zero, List.cons_append, List.nil_append]); refine EqE.mk _ rfl ?_) | refine EqE.mk _ rfl ?_) | ((with_reducible refine EqE.idP ?_); first | ((conv => arg 1; simp only [ak, List.toList_toArray, bx, bz]); refine EqE.mk _ rfl ?_) | refine EqE.mk _ rfl ?_) | ((with_reducible refine EqE.idN ?_); first | ((conv => arg 1; simp only [ak, List.toList_toArray, aa, ba, Int.toNat_natCast, Int.toNat_zero, Int.toNat_one, List.length_cons, List.length_nil, Nat.zero_add]); refine EqE.mk _ rfl ?_)) | ((with_reducible refine EqE.idW ?_); first | with_reducible refine EqE.mk _ (a6 _ (by omega)) ?_ | with_reducible refine EqE.mk _ (aq _ (by omega)) ?_ | refine EqE.mk _ (ah (by omega) (by omega)) ?_ | refine EqE.mk _ rfl ?_) | ((with_reducible refine EqE.idM ?_); refine EqE.mk _ rfl ?_) | ((with_reducible refine EqE.idI ?_); first | refine EqE.mk _ (max_eq _ _) ?_ | refine EqE.mk _ (min_eq _ _) ?_) | ((with_reducible refine EqE.idS ?_); first | (refine EqE.fP ?_; (conv => whnf); fail_if_success (show ag _ _)) | refine EqE.mk _ rfl ?_) | ((with_reducible refine EqE.idL ?_); first | refine EqE.mk _ (av _ _ _ _ (by omega) (by omega) rfl) ?_ | refine EqE.mk _ rfl ?_) | refine EqE.mk _ rfl ?_ | refine Cd.ro ?_ | refine Cd.dc ?_ | refine Cd.ob ?_ | refine Cd.ol ?_ | refine Cd.mk ⟨rfl, rfl⟩ ?_ | refine Cd.os ?_ | refine Cd.mk ?_ ?_ | refine DsE.mk [_] rfl ?_ | refine DsE.mk [_, _, _] rfl ?_)
 refine ⟨[], [5, 6, 4, 3], [3], fun m xs h => ∃ (k : Nat) (ds : List Nat), m = k ∧ k ≤ (zv b l).natAbs ∧ dg 16 (zv b l).natAbs = dg 16 k ++ ds ∧ xs = [.d (.str (bst (ds.map ch))), .d (sl (ofN k)), .d (.str ⟨#[48, 49, 50, 51, 52, 53, 54, 55, 56, 57, 97, 98, 99, 100, 101, 102]⟩), .ptr 3 0] ∧ h = [(3, false, [.d (.bool (gy (zv b l))), .d (sl (ofN (zv b l).natAbs))])],
  ⟨_, _, _, ⟨.inl rfl, rfl, rfl, by first | rfl | (repeat first | exact all_nil _ | refine cb _ _ _ _ _ ?_)⟩, (zv b l).natAbs, [], rfl, Nat.le_refl _, by simp, by rw [List.map_nil, aek]; rfl, rfl⟩, ?_⟩
 rintro m xs h ⟨_, ds, rfl, hk, hd, rfl, rfl⟩
 have hkl := wm hk hl
 have hds : ds.length ≤ 33554432 := by have := congrArg List.length hd; simp only [List.length_append] at this; omega
 by_cases h0 : m = 0
 ·subst h0
  have e := afe 16 (by omega) (zv b l)
  rw [hd, en, List.nil_append] at e
  have hz : (ofN 0).length = 0 := da.2 rfl
  repeat' ((conv => whnf); first | refine aw.data ?_ | with_reducible refine Br.bf fun _ => ?_ | refine rgE ?_ | refine Cd.mk rfl ?_ | refine Br.t ?_ | refine Br.f ?_ | with_reducible refine Br.eqd ?_ | with_reducible refine Br.eqb ?_ | with_reducible refine Br.dec (fun _ => ?_) (fun _ => ?_) | with_reducible refine Br.br (fun _ => ?_) (fun _ => ?_) | refine Br.mk (fun _ => ?_) (fun _ => ?_) | refine an.mk _ rfl ?_ | refine And.intro (fun _ => ?_) ?_ | (refine TkE.fL ?_; (conv => whnf); fail_if_success (show ag _ _)) | refine TkE.mk _ rfl rfl ?_ | refine Res.mk ?_ | refine a7.mk (by repeat first | exact True.intro | refine And.intro (by kernel_rfl) ?_) ?_ | refine DsE.mk [] rfl ?_ | refine ai.cu _ _ ?_ | ((with_reducible refine EqE.idT ?_); first | ((conv => arg 1; simp only [ak, List.toList_toArray, ao, af, aa, Int.toNat_natCast, Int.toNat_zero, Int.toNat_one, b3, b4, List.drop_zero, Nat.sub_zero, List.cons_append, List.nil_append]); refine EqE.mk _ rfl ?_) | refine EqE.mk _ rfl ?_) | ((with_reducible refine EqE.idP ?_); first | ((conv => arg 1; simp only [ak, List.toList_toArray, bx, bz]); refine EqE.mk _ rfl ?_) | refine EqE.mk _ rfl ?_) | ((with_reducible refine EqE.idN ?_); first | ((conv => arg 1; simp only [ak, List.toList_toArray, aa, ba, Int.toNat_natCast, Int.toNat_zero, Int.toNat_one, List.length_cons, List.length_nil, Nat.zero_add]); refine EqE.mk _ rfl ?_)) | ((with_reducible refine EqE.idW ?_); first | with_reducible refine EqE.mk _ (a6 _ (by omega)) ?_ | with_reducible refine EqE.mk _ (aq _ (by omega)) ?_ | refine EqE.mk _ (ah (by omega) (by omega)) ?_ | refine EqE.mk _ rfl ?_) | ((with_reducible refine EqE.idM ?_); refine EqE.mk _ rfl ?_) | ((with_reducible refine EqE.idI ?_); first | refine EqE.mk _ (max_eq _ _) ?_ | refine EqE.mk _ (min_eq _ _) ?_) | ((with_reducible refine EqE.idS ?_); first | (refine EqE.fP ?_; (conv => whnf); fail_if_success (show ag _ _)) | refine EqE.mk _ rfl ?_) | ((with_reducible refine EqE.idL ?_); first | refine EqE.mk _ (av _ _ _ _ (by omega) (by omega) rfl) ?_ | refine EqE.mk _ rfl ?_) | refine EqE.mk _ rfl ?_ | refine Cd.ro ?_ | refine Cd.dc ?_ | refine Cd.ob ?_ | refine Cd.ol ?_ | refine Cd.mk ⟨rfl, rfl⟩ ?_ | refine Cd.os ?_ | refine Cd.mk ?_ ?_ | refine DsE.mk [_] rfl ?_ | refine DsE.mk [_, _, _] rfl ?_)
  all_goals show D.str _ = D.str _
  ·rename_i h1
   have h1 := of_decide_eq_true h1
   rw [← e, if_pos h1, ak]
  ·rename_i h1 h2
   have h1 := of_decide_eq_false h1
   rw [← e, if_neg h1, if_pos h2]; rfl
  ·rename_i h1 h2
   have h1 := of_decide_eq_false h1
   rw [← e, if_neg h1, if_neg (by simp [h2])]
 ·have h2 : 0 < (ofN m).length := by rw [List.length_pos_iff]; exact gm h0
  have h3 : m % 16 < 16 := Nat.mod_lt _ (by omega)
  have s2 := anc (k := m) (by omega)
  have hq : ofN m = UInt32.ofNat m :: ofN (m / 4294967296) := ln h0
  have hc : (ofN m).length = (ofN (m / 4294967296)).length + 1 := by rw [hq]; rfl
  have hn : (a8 (ofN m))[0]? = some (.int .u32 (((UInt32.ofNat m).toNat : Nat) : Int)) := by rw [hq]; rfl
  repeat' ((conv => whnf); first | refine aw.data ?_ | with_reducible refine Br.bt fun _ => ?_ | refine cE s2 ?_ | refine an.mk _ hn ?_ | refine rgE ?_ | refine Cd.mk rfl ?_ | refine Br.t ?_ | refine Br.f ?_ | with_reducible refine Br.eqd ?_ | with_reducible refine Br.eqb ?_ | with_reducible refine Br.dec (fun _ => ?_) (fun _ => ?_) | with_reducible refine Br.br (fun _ => ?_) (fun _ => ?_) | refine Br.mk (fun _ => ?_) (fun _ => ?_) | refine an.mk _ rfl ?_ | refine And.intro (fun _ => ?_) ?_ | (refine TkE.fL ?_; (conv => whnf); fail_if_success (show ag _ _)) | refine TkE.mk _ rfl rfl ?_ | refine Res.mk ?_ | refine a7.mk (by repeat first | exact True.intro | refine And.intro (by kernel_rfl) ?_) ?_ | refine DsE.mk [] rfl ?_ | refine ai.cu _ _ ?_ | ((with_reducible refine EqE.idT ?_); first | refine EqE.mk _ (ano h3) ?_ | ((conv => arg 1; simp only [ak, List.toList_toArray, ao, af, aa, Int.toNat_natCast, Int.toNat_zero, Int.toNat_one, b3, b4, List.drop_zero, Nat.sub_zero, List.cons_append, List.nil_append]); refine EqE.mk _ rfl ?_) | refine EqE.mk _ rfl ?_) | ((with_reducible refine EqE.idP ?_); first | ((conv => arg 1; simp only [ak, List.toList_toArray, bx, bz]); refine EqE.mk _ rfl ?_) | refine EqE.mk _ rfl ?_) | ((with_reducible refine EqE.idN ?_); first | ((conv => arg 1; simp only [ak, List.toList_toArray, aa, ba, Int.toNat_natCast, Int.toNat_zero, Int.toNat_one, List.length_cons, List.length_nil, Nat.zero_add]); refine EqE.mk _ rfl ?_)) | ((with_reducible refine EqE.idW ?_); first | refine EqE.mk ((m % 16 : Nat) : Int) ams ?_ | refine EqE.mk _ (anu h3) ?_ | with_reducible refine EqE.mk _ (a6 _ (by omega)) ?_ | with_reducible refine EqE.mk _ (aq _ (by omega)) ?_ | refine EqE.mk _ (ah (by omega) (by omega)) ?_ | refine EqE.mk _ rfl ?_) | ((with_reducible refine EqE.idM ?_); refine EqE.mk _ rfl ?_) | ((with_reducible refine EqE.idI ?_); first | refine EqE.mk _ (max_eq _ _) ?_ | refine EqE.mk _ (min_eq _ _) ?_) | ((with_reducible refine EqE.idS ?_); first | (refine EqE.fP ?_; (conv => whnf); fail_if_success (show ag _ _)) | refine EqE.mk _ rfl ?_) | ((with_reducible refine EqE.idL ?_); first | refine EqE.mk _ (av _ _ _ _ (by omega) (by omega) rfl) ?_ | refine EqE.mk _ rfl ?_) | refine EqE.mk _ rfl ?_ | refine Cd.ro ?_ | refine Cd.dc ?_ | refine Cd.ob ?_ | refine Cd.ol ?_ | refine Cd.mk ⟨rfl, rfl⟩ ?_ | refine Cd.os ?_ | refine Cd.mk ?_ ?_ | refine DsE.mk [_] rfl ?_ | refine DsE.mk [_, _, _] rfl ?_)
  refine ⟨_, ⟨m / 16, (m % 16) :: ds, rfl, Nat.le_trans (Nat.div_le_self _ _) hk, ?_, rfl, rfl⟩, Nat.div_lt_self (by omega) (by omega)⟩
  rw [hd, fw (by omega) h0, List.append_assoc]; rfl
end Go.Ev.Ar

-- STR
namespace Go.Ev.Ar
open Go Go.Ev Go.Proofs
theorem wk {l : List Nat} (h : ∀ d ∈ l, d < 10) : (ofN (dv 10 l)).length ≤ l.length := by
 refine cz.2 (Nat.lt_of_lt_of_le (vq h) ?_)
 rw [ji, Nat.pow_mul]
 exact Nat.pow_le_pow_left (by omega) _
def core (l : List UInt8) : List UInt8 := l.filter (· != 45)
theorem afo {l : List UInt8} {x : UInt8} (h : x ≠ 45) : core (l ++ [x]) = core l ++ [x] := by simp [core, h]
theorem acv {l : List UInt8} : core (l ++ [45]) = core l := by simp [core]
theorem mu {l : List UInt8} (h : ∀ x ∈ l, jy x = true) : ∀ d ∈ dgs l, d < 10 := by
 intro d hd
 simp only [dgs, List.mem_map] at hd
 obtain ⟨x, hx, rfl⟩ := hd
 have := h x hx
 simp only [jy, Bool.and_eq_true, decide_eq_true_eq] at this
 omega
theorem aem {l : List UInt8} (h : ∀ x ∈ l, x = 45 ∨ jy x = true) : ∀ x ∈ core l, jy x = true := by
 intro x hx
 simp only [core, List.mem_filter, bne_iff_ne] at hx
 rcases h x hx.1 with h | h
 ·exact absurd h hx.2
 ·exact h
theorem ag3 {l : List UInt8} {x : UInt8} : dgs (l ++ [x]) = dgs l ++ [x.toNat - 48] := by simp [dgs]
theorem ag1 (l : List UInt8) : (dgs (core l)).length ≤ l.length := by simp only [dgs, List.length_map]; exact List.length_filter_le _ _
theorem ank {x : UInt8} (h : 48 ≤ x.toNat) : IntKind.u8.wrap (((x.toNat : Nat) : Int) - 48) = ((x.toNat - 48 : Nat) : Int) := by
 have := x.toNat_lt
 rw [show ((x.toNat : Nat) : Int) - 48 = ((x.toNat - 48 : Nat) : Int) by omega, gu, Nat.mod_eq_of_lt (by omega)]
theorem amo {d : Nat} (h : d < 256) : IntKind.u32.wrap ((d : Nat) : Int) = ((d : Nat) : Int) := by rw [cl, Nat.mod_eq_of_lt (by omega)]
theorem sl1 {d : Nat} (h : d < 256) : D.slice 1 [D.int .u32 ((d : Nat) : Int)] = sl [UInt32.ofNat d] := by
 show _ = D.slice 1 [D.int .u32 (((UInt32.ofNat d).toNat : Nat) : Int)]
 simp only [UInt32.toNat_ofNat']
 rw [Nat.mod_eq_of_lt (by omega)]
theorem amg {k : Nat} (hk : (ofN k).length < 2 ^ 30) : Sim Tryz.prog G0 false 132 [sl (ofN k), sl [10]] (sl (ofN (k * 10))) := by
 have h := ain (ofN k) [10] hk (by simp)
 rw [bj, am8] at h; exact h
theorem ana {k d : Nat} (hk : (ofN k).length < 2 ^ 30) (hd : d < 256) : Sim Tryz.prog G0 false 131 [sl (ofN k), sl [UInt32.ofNat d]] (sl (ofN (k + d))) := by
 have h := abv (ofN k) [UInt32.ofNat d] hk (by simp)
 have e : nv [UInt32.ofNat d] = d := by
  show (UInt32.ofNat d).toNat + 4294967296 * 0 = d
  simp only [UInt32.toNat_ofNat']; omega
 rw [bj, e] at h; exact h
theorem xc (l : List UInt8) (hl : l.length < 2 ^ 20) (hd : ∀ x ∈ l, x = 45 ∨ jy x = true) :
  Sim Tryz.prog G0 false 57 [.str (bst l)] (zD (zv (decide (l.head? = some 45)) (ofN (dv 10 (dgs (core l)))))) := by
 refine ck ax Tryz.func57 ?_
 repeat' ((conv => whnf); first | refine aw.data ?_ | refine rgE ?_ | refine Cd.mk rfl ?_ | refine Br.t ?_ | refine Br.f ?_ | with_reducible refine Br.eqd ?_ | with_reducible refine Br.eqb ?_ | with_reducible refine Br.dec (fun _ => ?_) (fun _ => ?_) | with_reducible refine Br.br (fun _ => ?_) (fun _ => ?_) | refine Br.mk (fun _ => ?_) (fun _ => ?_) | refine an.mk _ rfl ?_ | refine And.intro (fun _ => ?_) ?_ | (refine TkE.fL ?_; (conv => whnf); fail_if_success (show ag _ _)) | refine TkE.mk _ rfl rfl ?_ | refine Res.mk ?_ | refine a7.mk (by repeat first | exact True.intro | refine And.intro (by kernel_rfl) ?_) ?_ | refine DsE.mk [] rfl ?_ | refine ai.cu _ _ ?_ | ((with_reducible refine EqE.idT ?_); first | ((conv => arg 1; simp only [ak, List.toList_toArray, ao, af, aa, Int.toNat_natCast, Int.toNat_zero, Int.toNat_one, b3, b4, List.drop_zero, Nat.sub_zero, List.cons_append, List.nil_append]); refine EqE.mk _ rfl ?_) | refine EqE.mk _ rfl ?_) | ((with_reducible refine EqE.idP ?_); first | ((conv => arg 1; simp only [ak, List.toList_toArray, bx, bz]); refine EqE.mk _ rfl ?_) | refine EqE.mk _ rfl ?_) | ((with_reducible refine EqE.idN ?_); first | ((conv => arg 1; simp only [ak, List.toList_toArray, aa, ba, Int.toNat_natCast, Int.toNat_zero, Int.toNat_one, List.length_cons, List.length_nil, Nat.zero_add]); refine EqE.mk _ rfl ?_)) | ((with_reducible refine EqE.idW ?_); first | with_reducible refine EqE.mk _ (a6 _ (by omega)) ?_ | with_reducible refine EqE.mk _ (aq _ (by omega)) ?_ | refine EqE.mk _ (ah (by omega) (by omega)) ?_ | refine EqE.mk _ rfl ?_) | ((with_reducible refine EqE.idM ?_); refine EqE.mk _ rfl ?_) | ((with_reducible refine EqE.idI ?_); first | refine EqE.mk _ (max_eq _ _) ?_ | refine EqE.mk _ (min_eq _ _) ?_) | ((with_reducible refine EqE.idS ?_); first | (refine EqE.fP ?_; (conv => whnf); fail_if_success (show ag _ _)) | refine EqE.mk _ rfl ?_) | ((with_reducible refine EqE.idL ?_); first | refine EqE.mk _ (av _ _ _ _ (by omega) (by omega) rfl) ?_ | refine EqE.mk _ rfl ?_) | refine EqE.mk _ rfl ?_ | refine Cd.ro ?_ | refine Cd.dc ?_ | refine Cd.ob ?_ | refine Cd.ol ?_ | refine Cd.mk ⟨rfl, rfl⟩ ?_ | refine Cd.os ?_ | refine Cd.mk ?_ ?_ | refine DsE.mk [_] rfl ?_ | refine DsE.mk [_, _, _] rfl ?_)
 refine ⟨[], [0, 2, 3, 4], [2], fun m xs h => ∃ i : Nat, m = l.length - i ∧ i ≤ l.length ∧ xs = [.d (.str (bst l)), .ptr 2 0, .d (sl (ofN (dv 10 (dgs (core (l.take i)))))), .d (.int .i64 i)] ∧ h = [(2, false, [.d (.bool false), .d .nil])],
  ⟨_, _, _, ⟨.inr rfl, rfl, rfl, by first | rfl | (repeat first | exact all_nil _ | refine cb _ _ _ _ _ ?_)⟩, 0, rfl, Nat.zero_le _, by rw [List.take_zero, show dv 10 (dgs (core [])) = 0 from rfl, cy]; rfl, rfl⟩, ?_⟩
 rintro m xs h ⟨i, rfl, hi, rfl, rfl⟩
 have hdd : ∀ x ∈ l.take i, x = 45 ∨ jy x = true := fun x hx => hd x (List.mem_of_mem_take hx)
 have hb := wk (mu (aem hdd))
 have hb2 := ag1 (l.take i)
 simp only [List.length_take] at hb2
 obtain ⟨v, hv⟩ : ∃ v, dv 10 (dgs (core (l.take i))) = v := ⟨_, rfl⟩
 rw [hv] at hb ⊢
 by_cases hlt : i < l.length
 ·have hx : l.take (i + 1) = l.take i ++ [nth 0 l i] := by rw [re, List.take_add_one]; simp [hlt]
  have hm : nth 0 l i ∈ l := by rw [re]; simp [hlt]
  obtain ⟨x, hxx⟩ : ∃ x, nth 0 l i = x := ⟨_, rfl⟩
  rw [hxx] at hx hm
  have hx2 : dv 10 (dgs (core (l.take (i + 1)))) = dv 10 (dgs (core (l.take i ++ [x]))) := by rw [hx]
  have hb3 : (ofN (v * 10)).length < 2 ^ 30 := by
   have h1 : v * 10 = dv 10 (dgs (core (l.take i)) ++ [0]) := by rw [uj, hv]; omega
   have h2 := wk (l := dgs (core (l.take i)) ++ [0]) (by
    intro d hd; rw [List.mem_append, List.mem_singleton] at hd
    rcases hd with hd | rfl
    ·exact mu (aem hdd) d hd
    ·omega)
   rw [← h1, List.length_append] at h2
   simp only [List.length_singleton] at h2; omega
  by_cases h45 : x = 45
  ·subst h45
   rw [acv] at hx2
   repeat' ((conv => whnf); first | refine aw.data ?_ | with_reducible refine Br.bt fun _ => ?_ | refine rgE ?_ | refine Cd.mk rfl ?_ | refine Br.t ?_ | refine Br.f ?_ | with_reducible refine Br.eqd ?_ | with_reducible refine Br.eqb ?_ | with_reducible refine Br.dec (fun _ => ?_) (fun _ => ?_) | with_reducible refine Br.br (fun _ => ?_) (fun _ => ?_) | refine Br.mk (fun _ => ?_) (fun _ => ?_) | refine an.mk _ rfl ?_ | refine And.intro (fun _ => ?_) ?_ | (refine TkE.fL ?_; (conv => whnf); fail_if_success (show ag _ _)) | refine TkE.mk _ rfl rfl ?_ | refine Res.mk ?_ | refine a7.mk (by repeat first | exact True.intro | refine And.intro (by kernel_rfl) ?_) ?_ | refine DsE.mk [] rfl ?_ | refine ai.cu _ _ ?_ | ((with_reducible refine EqE.idT ?_); first | ((conv => arg 1; simp only [ak, List.toList_toArray, ao, af, aa, Int.toNat_natCast, Int.toNat_zero, Int.toNat_one, b3, b4, List.drop_zero, Nat.sub_zero, List.cons_append, List.nil_append]); refine EqE.mk _ rfl ?_) | refine EqE.mk _ rfl ?_) | ((with_reducible refine EqE.idP ?_); first | ((conv => arg 1; simp only [ak, List.toList_toArray, bx, bz]); refine EqE.mk _ rfl ?_) | refine EqE.mk _ rfl ?_) | ((with_reducible refine EqE.idN ?_); first | refine EqE.mk _ (ixx hxx) ?_ | ((conv => arg 1; simp only [ak, List.toList_toArray, aa, ba, Int.toNat_natCast, Int.toNat_zero, Int.toNat_one, List.length_cons, List.length_nil, Nat.zero_add]); refine EqE.mk _ rfl ?_)) | ((with_reducible refine EqE.idW ?_); first | with_reducible refine EqE.mk _ (a6 _ (by omega)) ?_ | with_reducible refine EqE.mk _ (aq _ (by omega)) ?_ | refine EqE.mk _ (ah (by omega) (by omega)) ?_ | refine EqE.mk _ rfl ?_) | ((with_reducible refine EqE.idM ?_); refine EqE.mk _ rfl ?_) | ((with_reducible refine EqE.idI ?_); first | refine EqE.mk _ (max_eq _ _) ?_ | refine EqE.mk _ (min_eq _ _) ?_) | ((with_reducible refine EqE.idS ?_); first | (refine EqE.fP ?_; (conv => whnf); fail_if_success (show ag _ _)) | refine EqE.mk _ rfl ?_) | ((with_reducible refine EqE.idL ?_); first | refine EqE.mk _ (av _ _ _ _ (by omega) (by omega) rfl) ?_ | refine EqE.mk _ rfl ?_) | refine EqE.mk _ rfl ?_ | refine Cd.ro ?_ | refine Cd.dc ?_ | refine Cd.ob ?_ | refine Cd.ol ?_ | refine Cd.mk ⟨rfl, rfl⟩ ?_ | refine Cd.os ?_ | refine Cd.mk ?_ ?_ | refine DsE.mk [_] rfl ?_ | refine DsE.mk [_, _, _] rfl ?_)
   refine ⟨_, ⟨i + 1, rfl, by omega, ?_, rfl⟩, by omega⟩
   rw [hx2, hv]; rfl
  ·have hdx : jy x = true := (hd x hm).resolve_left h45
   have hdx2 : 48 ≤ x.toNat ∧ x.toNat ≤ 57 := by simpa [jy] using hdx
   have h45' : x.toNat ≠ 45 := by omega
   rw [afo h45, ag3, uj, hv] at hx2
   repeat' ((conv => whnf); first | refine aw.data ?_ | with_reducible refine Br.bt fun _ => ?_ | refine cE ((amg (k := v) (by omega))) ?_ | refine cE ((ana (k := v * 10) (d := x.toNat - 48) (by omega) (by omega))) ?_ | refine DsE.mk (a8 [10]) rfl ?_ | refine rgE ?_ | refine Cd.mk rfl ?_ | refine Br.t ?_ | refine Br.f ?_ | with_reducible refine Br.eqd ?_ | with_reducible refine Br.eqb ?_ | with_reducible refine Br.dec (fun _ => ?_) (fun _ => ?_) | with_reducible refine Br.br (fun _ => ?_) (fun _ => ?_) | refine Br.mk (fun _ => ?_) (fun _ => ?_) | refine an.mk _ rfl ?_ | refine And.intro (fun _ => ?_) ?_ | (refine TkE.fL ?_; (conv => whnf); fail_if_success (show ag _ _)) | refine TkE.mk _ rfl rfl ?_ | refine Res.mk ?_ | refine a7.mk (by repeat first | exact True.intro | refine And.intro (by kernel_rfl) ?_) ?_ | refine DsE.mk [] rfl ?_ | refine ai.cu _ _ ?_ | ((with_reducible refine EqE.idT ?_); first | ((conv => arg 1; simp only [ak, List.toList_toArray, ao, af, aa, Int.toNat_natCast, Int.toNat_zero, Int.toNat_one, b3, b4, List.drop_zero, Nat.sub_zero, List.cons_append, List.nil_append]); refine EqE.mk _ rfl ?_) | refine EqE.mk _ rfl ?_) | ((with_reducible refine EqE.idP ?_); first | ((conv => arg 1; simp only [ak, List.toList_toArray, bx, bz]); refine EqE.mk _ rfl ?_) | refine EqE.mk _ rfl ?_) | ((with_reducible refine EqE.idN ?_); first | refine EqE.mk _ (ixx hxx) ?_ | ((conv => arg 1; simp only [ak, List.toList_toArray, aa, ba, Int.toNat_natCast, Int.toNat_zero, Int.toNat_one, List.length_cons, List.length_nil, Nat.zero_add]); refine EqE.mk _ rfl ?_)) | ((with_reducible refine EqE.idW ?_); first | refine EqE.mk _ (ank hdx2.1) ?_ | refine EqE.mk _ (amo (d := x.toNat - 48) (by omega)) ?_ | with_reducible refine EqE.mk _ (a6 _ (by omega)) ?_ | with_reducible refine EqE.mk _ (aq _ (by omega)) ?_ | refine EqE.mk _ (ah (by omega) (by omega)) ?_ | refine EqE.mk _ rfl ?_) | ((with_reducible refine EqE.idM ?_); refine EqE.mk _ rfl ?_) | ((with_reducible refine EqE.idI ?_); first | refine EqE.mk _ (max_eq _ _) ?_ | refine EqE.mk _ (min_eq _ _) ?_) | ((with_reducible refine EqE.idS ?_); first | (refine EqE.fP ?_; (conv => whnf); fail_if_success (show ag _ _)) | refine EqE.mk _ rfl ?_) | ((with_reducible refine EqE.idL ?_); first | refine EqE.mk (sl [10]) rfl ?_ | refine EqE.mk _ (sl1 (d := x.toNat - 48) (by omega)) ?_ | refine EqE.mk _ (av _ _ _ _ (by omega) (by omega) rfl) ?_ | refine EqE.mk _ rfl ?_) | refine EqE.mk _ rfl ?_ | refine Cd.ro ?_ | refine Cd.dc ?_ | refine Cd.ob ?_ | refine Cd.ol ?_ | refine Cd.mk ⟨rfl, rfl⟩ ?_ | refine Cd.os ?_ | refine Cd.mk ?_ ?_ | refine DsE.mk [_] rfl ?_ | refine DsE.mk [_, _, _] rfl ?_)
   all_goals first | omega | skip
   refine ⟨_, ⟨i + 1, rfl, by omega, ?_, rfl⟩, by omega⟩
   rw [hx2]; rfl
 ·have : l.take i = l := List.take_of_length_le (by omega)
  rw [this] at hv
  have hz := mn (decide (l.head? = some 45)) (ofN v)
  rw [hv]
  cases l with
  | nil =>
   repeat' ((conv => whnf); first | refine aw.data ?_ | with_reducible refine Br.bf fun _ => ?_ | refine cE ((jn (.mk _ _ (by omega)))) ?_ | refine rgE ?_ | refine Cd.mk rfl ?_ | refine Br.t ?_ | refine Br.f ?_ | with_reducible refine Br.eqd ?_ | with_reducible refine Br.eqb ?_ | with_reducible refine Br.dec (fun _ => ?_) (fun _ => ?_) | with_reducible refine Br.br (fun _ => ?_) (fun _ => ?_) | refine Br.mk (fun _ => ?_) (fun _ => ?_) | refine an.mk _ rfl ?_ | refine And.intro (fun _ => ?_) ?_ | (refine TkE.fL ?_; (conv => whnf); fail_if_success (show ag _ _)) | refine TkE.mk _ rfl rfl ?_ | refine Res.mk ?_ | refine a7.mk (by repeat first | exact True.intro | refine And.intro (by kernel_rfl) ?_) ?_ | refine DsE.mk [] rfl ?_ | refine ai.cu _ _ ?_ | ((with_reducible refine EqE.idT ?_); first | ((conv => arg 1; simp only [ak, List.toList_toArray, ao, af, aa, Int.toNat_natCast, Int.toNat_zero, Int.toNat_one, b3, b4, List.drop_zero, Nat.sub_zero, List.cons_append, List.nil_append]); refine EqE.mk _ rfl ?_) | refine EqE.mk _ rfl ?_) | ((with_reducible refine EqE.idP ?_); first | ((conv => arg 1; simp only [ak, List.toList_toArray, bx, bz]); refine EqE.mk _ rfl ?_) | refine EqE.mk _ rfl ?_) | ((with_reducible refine EqE.idN ?_); first | ((conv => arg 1; simp only [ak, List.toList_toArray, aa, ba, Int.toNat_natCast, Int.toNat_zero, Int.toNat_one, List.length_cons, List.length_nil, Nat.zero_add]); refine EqE.mk _ rfl ?_)) | ((with_reducible refine EqE.idW ?_); first | with_reducible refine EqE.mk _ (a6 _ (by omega)) ?_ | with_reducible refine EqE.mk _ (aq _ (by omega)) ?_ | refine EqE.mk _ (ah (by omega) (by omega)) ?_ | refine EqE.mk _ rfl ?_) | ((with_reducible refine EqE.idM ?_); refine EqE.mk _ rfl ?_) | ((with_reducible refine EqE.idI ?_); first | refine EqE.mk _ (max_eq _ _) ?_ | refine EqE.mk _ (min_eq _ _) ?_) | ((with_reducible refine EqE.idS ?_); first | (refine EqE.fP ?_; (conv => whnf); fail_if_success (show ag _ _)) | refine EqE.mk _ rfl ?_) | ((with_reducible refine EqE.idL ?_); first | refine EqE.mk _ (av _ _ _ _ (by omega) (by omega) rfl) ?_ | refine EqE.mk _ rfl ?_) | refine EqE.mk _ rfl ?_ | refine Cd.ro ?_ | refine Cd.dc ?_ | refine Cd.ob ?_ | refine Cd.ol ?_ | refine Cd.mk ⟨rfl, rfl⟩ ?_ | refine Cd.os ?_ | refine Cd.mk ?_ ?_ | refine DsE.mk [_] rfl ?_ | refine DsE.mk [_, _, _] rfl ?_)
   rfl
  | cons y r =>
   have hlen : (y :: r).length = r.length + 1 := rfl
   have hb5 : (ofN v).length ≤ 4194304 := by omega
   by_cases hy : y = 45
   ·subst hy
    repeat' ((conv => whnf); first | refine aw.data ?_ | with_reducible refine Br.bf fun _ => ?_ | with_reducible refine Br.bt fun _ => ?_ | refine cE ((jn (.mk true (ofN v) hb5))) ?_ | refine rgE ?_ | refine Cd.mk rfl ?_ | refine Br.t ?_ | refine Br.f ?_ | with_reducible refine Br.eqd ?_ | with_reducible refine Br.eqb ?_ | with_reducible refine Br.dec (fun _ => ?_) (fun _ => ?_) | with_reducible refine Br.br (fun _ => ?_) (fun _ => ?_) | refine Br.mk (fun _ => ?_) (fun _ => ?_) | refine an.mk _ rfl ?_ | refine And.intro (fun _ => ?_) ?_ | (refine TkE.fL ?_; (conv => whnf); fail_if_success (show ag _ _)) | refine TkE.mk _ rfl rfl ?_ | refine Res.mk ?_ | refine a7.mk (by repeat first | exact True.intro | refine And.intro (by kernel_rfl) ?_) ?_ | refine DsE.mk [] rfl ?_ | refine ai.cu _ _ ?_ | ((with_reducible refine EqE.idT ?_); first | ((conv => arg 1; simp only [ak, List.toList_toArray, ao, af, aa, Int.toNat_natCast, Int.toNat_zero, Int.toNat_one, b3, b4, List.drop_zero, Nat.sub_zero, List.cons_append, List.nil_append]); refine EqE.mk _ rfl ?_) | refine EqE.mk _ rfl ?_) | ((with_reducible refine EqE.idP ?_); first | ((conv => arg 1; simp only [ak, List.toList_toArray, bx, bz]); refine EqE.mk _ rfl ?_) | refine EqE.mk _ rfl ?_) | ((with_reducible refine EqE.idN ?_); first | ((conv => arg 1; simp only [ak, List.toList_toArray, aa, ba, Int.toNat_natCast, Int.toNat_zero, Int.toNat_one, List.length_cons, List.length_nil, Nat.zero_add]); refine EqE.mk _ rfl ?_)) | ((with_reducible refine EqE.idW ?_); first | with_reducible refine EqE.mk _ (a6 _ (by omega)) ?_ | with_reducible refine EqE.mk _ (aq _ (by omega)) ?_ | refine EqE.mk _ (ah (by omega) (by omega)) ?_ | refine EqE.mk _ rfl ?_) | ((with_reducible refine EqE.idM ?_); refine EqE.mk _ rfl ?_) | ((with_reducible refine EqE.idI ?_); first | refine EqE.mk _ (max_eq _ _) ?_ | refine EqE.mk _ (min_eq _ _) ?_) | ((with_reducible refine EqE.idS ?_); first | (refine EqE.fP ?_; (conv => whnf); fail_if_success (show ag _ _)) | refine EqE.mk _ rfl ?_) | ((with_reducible refine EqE.idL ?_); first | refine EqE.mk _ (av _ _ _ _ (by omega) (by omega) rfl) ?_ | refine EqE.mk _ rfl ?_) | refine EqE.mk _ rfl ?_ | refine Cd.ro ?_ | refine Cd.dc ?_ | refine Cd.ob ?_ | refine Cd.ol ?_ | refine Cd.mk ⟨rfl, rfl⟩ ?_ | refine Cd.os ?_ | refine Cd.mk ?_ ?_ | refine DsE.mk [_] rfl ?_ | refine DsE.mk [_, _, _] rfl ?_)
    rfl
   ·have hyy : ((y.toNat : Nat) : Int) ≠ 45 := fun h => hy (n45.1 h)
    have he : decide ((y :: r).head? = some 45) = false := decide_eq_false (by simpa using hy)
    rw [he]
    repeat' ((conv => whnf); first | refine aw.data ?_ | with_reducible refine Br.bf fun _ => ?_ | with_reducible refine Br.bt fun _ => ?_ | refine cE ((jn (.mk _ (ofN v) hb5))) ?_ | refine rgE ?_ | refine Cd.mk rfl ?_ | refine Br.t ?_ | refine Br.f ?_ | with_reducible refine Br.eqd ?_ | with_reducible refine Br.eqb ?_ | with_reducible refine Br.dec (fun _ => ?_) (fun _ => ?_) | with_reducible refine Br.br (fun _ => ?_) (fun _ => ?_) | refine Br.mk (fun _ => ?_) (fun _ => ?_) | refine an.mk _ rfl ?_ | refine And.intro (fun _ => ?_) ?_ | (refine TkE.fL ?_; (conv => whnf); fail_if_success (show ag _ _)) | refine TkE.mk _ rfl rfl ?_ | refine Res.mk ?_ | refine a7.mk (by repeat first | exact True.intro | refine And.intro (by kernel_rfl) ?_) ?_ | refine DsE.mk [] rfl ?_ | refine ai.cu _ _ ?_ | ((with_reducible refine EqE.idT ?_); first | ((conv => arg 1; simp only [ak, List.toList_toArray, ao, af, aa, Int.toNat_natCast, Int.toNat_zero, Int.toNat_one, b3, b4, List.drop_zero, Nat.sub_zero, List.cons_append, List.nil_append]); refine EqE.mk _ rfl ?_) | refine EqE.mk _ rfl ?_) | ((with_reducible refine EqE.idP ?_); first | ((conv => arg 1; simp only [ak, List.toList_toArray, bx, bz]); refine EqE.mk _ rfl ?_) | refine EqE.mk _ rfl ?_) | ((with_reducible refine EqE.idN ?_); first | ((conv => arg 1; simp only [ak, List.toList_toArray, aa, ba, Int.toNat_natCast, Int.toNat_zero, Int.toNat_one, List.length_cons, List.length_nil, Nat.zero_add]); refine EqE.mk _ rfl ?_)) | ((with_reducible refine EqE.idW ?_); first | with_reducible refine EqE.mk _ (a6 _ (by omega)) ?_ | with_reducible refine EqE.mk _ (aq _ (by omega)) ?_ | refine EqE.mk _ (ah (by omega) (by omega)) ?_ | refine EqE.mk _ rfl ?_) | ((with_reducible refine EqE.idM ?_); refine EqE.mk _ rfl ?_) | ((with_reducible refine EqE.idI ?_); first | refine EqE.mk _ (max_eq _ _) ?_ | refine EqE.mk _ (min_eq _ _) ?_) | ((with_reducible refine EqE.idS ?_); first | (refine EqE.fP ?_; (conv => whnf); fail_if_success (show ag _ _)) | refine EqE.mk _ rfl ?_) | ((with_reducible refine EqE.idL ?_); first | refine EqE.mk _ (av _ _ _ _ (by omega) (by omega) rfl) ?_ | refine EqE.mk _ rfl ?_) | refine EqE.mk _ rfl ?_ | refine Cd.ro ?_ | refine Cd.dc ?_ | refine Cd.ob ?_ | refine Cd.ol ?_ | refine Cd.mk ⟨rfl, rfl⟩ ?_ | refine Cd.os ?_ | refine Cd.mk ?_ ?_ | refine DsE.mk [_] rfl ?_ | refine DsE.mk [_, _, _] rfl ?_)
    have h : decide (((y.toNat : Nat) : Int) = 45) = false := decide_eq_false hyy
    show zD _ = zD (zv (decide (((y.toNat : Nat) : Int) = 45)) (ofN v))
    rw [h]
end Go.Ev.Ar

namespace Go.Proofs
open Go.Shelf
def Tryz.tj : Go.Shelf.Ren := ⟨fun | 169 => 63 | n => n, fun | 70 => 93 | 9 => 9 | 0 => 0 | 72 => 95 | 37 => 47 | 127 => 156 | 3 => 3 | 5 => 5 | n => n, fun | n => n⟩
theorem Tryz.ajz : Go.Proofs.Lays.n169 Tryz.prog Tryz.tj := {
 mixed := by kernel_rfl
 f169 := Tryz.func63.trans (congrArg some (by kernel_rfl))
 t0 := Tryz.underlying0
 a0 := Tryz.isAgg0
 z0 := Tryz.sizeOf0
 v0 := Tryz.zeroValue0
 t3 := Tryz.underlying3
 a3 := Tryz.isAgg3
 z3 := Tryz.sizeOf3
 v3 := Tryz.zeroValue3
 t9 := Tryz.underlying9
 a9 := Tryz.isAgg9
 z9 := Tryz.sizeOf9
 v9 := Tryz.zeroValue9
 t37 := Tryz.underlying47
 a37 := Tryz.isAgg47
 z37 := Tryz.sizeOf47
 v37 := Tryz.zeroValue47
 t70 := Tryz.underlying93
 a70 := Tryz.isAgg93
 z70 := Tryz.sizeOf93
 v70 := Tryz.zeroValue93
 t72 := Tryz.underlying95
 a72 := Tryz.isAgg95
 z72 := Tryz.sizeOf95
 v72 := Tryz.zeroValue95
 t127 := Tryz.underlying156
 a127 := Tryz.isAgg156
 z127 := Tryz.sizeOf156
 v127 := Tryz.zeroValue156 }
theorem Tryz.qt : Builder.Extra Tryz.prog Tryz.tj := {
 sizeBuilder := by kernel_rfl
 liesBuilder := by kernel_rfl
 t5 := Tryz.underlying5
 a5 := Tryz.isAgg5
 z5 := Tryz.sizeOf5
 v5 := Tryz.zeroValue5
 infoByte := by kernel_rfl
 cellsByte := by kernel_rfl
 sizeByte := by kernel_rfl
 neB5 := by decide }
open Go.RowKit in
theorem Tryz.Builder_String_any (B b : Nat) (l : List UInt8) (w : World) (h : Lib.IsBuilder 95 5 B b (Lib.byteCells l) w) (hBw : B ≤ w.heap.size) :
  Calls Tryz.prog 63 #[.pointer (some ⟨b, 0, none⟩)] w fun e w' => e = .returned (.string ⟨l.toArray⟩) ∧ Below B w w' := Any.Builder_String_any Tryz.ajz Tryz.qt B b l w h hBw
open Go.RowKit in
open Go.RowKit in
open Go.RowKit in
def Tryz.abd : Go.Shelf.Ren := ⟨fun | 129 => 273 | n => n, fun | 53 => 102 | 3 => 3 | 4 => 4 | 46 => 142 | 5 => 5 | 9 => 9 | n => n, fun | n => n⟩
theorem Tryz.ajy : Go.Proofs.Lays.n129 Tryz.prog Tryz.abd := {
 mixed := by kernel_rfl
 f129 := Tryz.func273.trans (congrArg some (by kernel_rfl))
 t3 := Tryz.underlying3
 a3 := Tryz.isAgg3
 z3 := Tryz.sizeOf3
 v3 := Tryz.zeroValue3
 t4 := Tryz.underlying4
 a4 := Tryz.isAgg4
 z4 := Tryz.sizeOf4
 v4 := Tryz.zeroValue4
 t5 := Tryz.underlying5
 a5 := Tryz.isAgg5
 z5 := Tryz.sizeOf5
 v5 := Tryz.zeroValue5
 t9 := Tryz.underlying9
 a9 := Tryz.isAgg9
 z9 := Tryz.sizeOf9
 v9 := Tryz.zeroValue9
 t46 := Tryz.underlying142
 a46 := Tryz.isAgg142
 z46 := Tryz.sizeOf142
 v46 := Tryz.zeroValue142
 t53 := Tryz.underlying102
 a53 := Tryz.isAgg102
 z53 := Tryz.sizeOf102
 v53 := Tryz.zeroValue102 }
theorem Tryz.bits_Len64 (x : Int) (w : World) (h0 : 0 ≤ x) (h1 : x ≤ 18446744073709551615) :
  Calls Tryz.prog 273 #[.int .u64 x] w fun e w' => e = .returned (.int .i64 (Lib.bitLen x.toNat)) ∧ w' = w := Any.bits_Len64 Tryz.ajy x w h0 h1
def Tryz.abe : Go.Shelf.Ren := ⟨fun | 283 => 243 | n => n, fun | 3 => 3 | 9 => 9 | 4 => 4 | n => n, fun | n => n⟩
theorem Tryz.aj0 : Go.Proofs.Lays.n283 Tryz.prog Tryz.abe := {
 mixed := by kernel_rfl
 f283 := Tryz.func243.trans (congrArg some (by kernel_rfl))
 t3 := Tryz.underlying3
 a3 := Tryz.isAgg3
 z3 := Tryz.sizeOf3
 v3 := Tryz.zeroValue3
 t4 := Tryz.underlying4
 a4 := Tryz.isAgg4
 z4 := Tryz.sizeOf4
 v4 := Tryz.zeroValue4
 t9 := Tryz.underlying9
 a9 := Tryz.isAgg9
 z9 := Tryz.sizeOf9
 v9 := Tryz.zeroValue9 }
open Go.Lib in
theorem Tryz.internal_strconv_small (i : Nat) (h : i < 100) (w : World) :
  Calls Tryz.prog 243 #[.int .i64 i] w fun e w' => e = .returned (.string ⟨(Lib.decDigits i).toArray⟩) ∧ w' = w := Any.internal_strconv_small Tryz.aj0 i h w
open Go.Lib in
def Tryz.abf : Go.Shelf.Ren := ⟨fun | 285 => 245 | n => n, fun | 37 => 47 | 53 => 102 | 3 => 3 | 4 => 4 | 51 => 91 | 9 => 9 | 5 => 5 | 0 => 0 | n => n, fun | n => n⟩
theorem Tryz.aj1 : Go.Proofs.Lays.n285 Tryz.prog Tryz.abf := {
 mixed := by kernel_rfl
 f285 := Tryz.func245.trans (congrArg some (by kernel_rfl))
 t0 := Tryz.underlying0
 a0 := Tryz.isAgg0
 z0 := Tryz.sizeOf0
 v0 := Tryz.zeroValue0
 t3 := Tryz.underlying3
 a3 := Tryz.isAgg3
 z3 := Tryz.sizeOf3
 v3 := Tryz.zeroValue3
 t4 := Tryz.underlying4
 a4 := Tryz.isAgg4
 z4 := Tryz.sizeOf4
 v4 := Tryz.zeroValue4
 t5 := Tryz.underlying5
 a5 := Tryz.isAgg5
 z5 := Tryz.sizeOf5
 v5 := Tryz.zeroValue5
 t9 := Tryz.underlying9
 a9 := Tryz.isAgg9
 z9 := Tryz.sizeOf9
 v9 := Tryz.zeroValue9
 t37 := Tryz.underlying47
 a37 := Tryz.isAgg47
 z37 := Tryz.sizeOf47
 v37 := Tryz.zeroValue47
 t51 := Tryz.underlying91
 a51 := Tryz.isAgg91
 z51 := Tryz.sizeOf91
 v51 := Tryz.zeroValue91
 t53 := Tryz.underlying102
 a53 := Tryz.isAgg102
 z53 := Tryz.sizeOf102
 v53 := Tryz.zeroValue102 }
open Go.RowKit Go.Sort Go.Lib in
theorem Tryz.internal_strconv_formatBase10 (blk off cap : Nat) (u : Nat) (d : Array UInt8) (w : World) (hH : Holds (fun (b : UInt8) => Value.int .u8 (b.toNat : Int)) w blk off d) (hu : u < 10 ^ d.size) (hu64 : u < 18446744073709551616) (hsz : d.size < 4611686018427387904) :
  Calls Tryz.prog 245 #[.slice (some ⟨blk, off, none⟩) d.size cap, .int .u64 u] w fun e w' =>
   e = .returned (.tuple #[]) ∧ ∃ (n v' : Nat) (dk : Array UInt8), w' = (putRow (fun (b : UInt8) => Value.int .u8 (b.toNat : Int)) w blk off dk).drewN n ∧ FmtInv d.size u 0 v' dk := Any.internal_strconv_formatBase10 Tryz.aj1 blk off cap u d w hH hu hu64 hsz
open Go.RowKit Go.Sort Go.Lib in
open Go.RowKit in
open Go.RowKit in
open Go.RowKit in
def Tryz.zx : Go.Shelf.Ren := ⟨fun | 14 => 200 | 16 => 240 | 17 => 241 | 19 => 266 | 20 => 267 | 21 => 268 | 22 => 269 | 23 => 270 | 24 => 271 | 25 => 282 | 27 => 84 | 26 => 283 | 28 => 162 | 29 => 220 | 30 => 243 | 31 => 244 | 32 => 245 | 33 => 246 | 35 => 273 | 34 => 272 | 36 => 274 | 37 => 275 | 38 => 276 | 39 => 253 | 40 => 284 | n => n, fun | 9 => 9 | 3 => 3 | 22 => 102 | 24 => 97 | 25 => 186 | 4 => 4 | 34 => 226 | 5 => 5 | 36 => 142 | 37 => 47 | 0 => 0 | 39 => 228 | 21 => 21 | 44 => 241 | 47 => 156 | 50 => 251 | 48 => 249 | 2 => 2 | 52 => 209 | 55 => 212 | 59 => 232 | 60 => 91 | 20 => 20 | 61 => 233 | 65 => 236 | 66 => 252 | 67 => 101 | n => n, fun | 0 => 3 | 1 => 4 | 2 => 0 | 3 => 2 | 4 => 7 | n => n⟩
theorem Tryz.aho : Go.Proofs.LaysPu.n14 Tryz.prog Tryz.zx := {
 mixed := by kernel_rfl
 f14 := Tryz.func200.trans (congrArg some (by kernel_rfl))
 f16 := Tryz.func240.trans (congrArg some (by kernel_rfl))
 f17 := Tryz.func241.trans (congrArg some (by kernel_rfl))
 f19 := Tryz.func266.trans (congrArg some (by kernel_rfl))
 f20 := Tryz.func267.trans (congrArg some (by kernel_rfl))
 f21 := Tryz.func268.trans (congrArg some (by kernel_rfl))
 f22 := Tryz.func269.trans (congrArg some (by kernel_rfl))
 f23 := Tryz.func270.trans (congrArg some (by kernel_rfl))
 f24 := Tryz.func271.trans (congrArg some (by kernel_rfl))
 f25 := Tryz.func282.trans (congrArg some (by kernel_rfl))
 f26 := Tryz.func283.trans (congrArg some (by kernel_rfl))
 f27 := Tryz.func84.trans (congrArg some (by kernel_rfl))
 f28 := Tryz.func162.trans (congrArg some (by kernel_rfl))
 f29 := Tryz.func220.trans (congrArg some (by kernel_rfl))
 f30 := Tryz.func243.trans (congrArg some (by kernel_rfl))
 f31 := Tryz.func244.trans (congrArg some (by kernel_rfl))
 f32 := Tryz.func245.trans (congrArg some (by kernel_rfl))
 f33 := Tryz.func246.trans (congrArg some (by kernel_rfl))
 f34 := Tryz.func272.trans (congrArg some (by kernel_rfl))
 f35 := Tryz.func273.trans (congrArg some (by kernel_rfl))
 f36 := Tryz.func274.trans (congrArg some (by kernel_rfl))
 f37 := Tryz.func275.trans (congrArg some (by kernel_rfl))
 f38 := Tryz.func276.trans (congrArg some (by kernel_rfl))
 f39 := Tryz.func253.trans (congrArg some (by kernel_rfl))
 f40 := Tryz.func284.trans (congrArg some (by kernel_rfl))
 t0 := Tryz.underlying0
 a0 := Tryz.isAgg0
 z0 := Tryz.sizeOf0
 v0 := Tryz.zeroValue0
 i0 := by kernel_rfl
 t2 := Tryz.underlying2
 a2 := Tryz.isAgg2
 z2 := Tryz.sizeOf2
 v2 := Tryz.zeroValue2
 i2 := by kernel_rfl
 t3 := Tryz.underlying3
 a3 := Tryz.isAgg3
 z3 := Tryz.sizeOf3
 v3 := Tryz.zeroValue3
 i3 := by kernel_rfl
 t4 := Tryz.underlying4
 a4 := Tryz.isAgg4
 z4 := Tryz.sizeOf4
 v4 := Tryz.zeroValue4
 i4 := by kernel_rfl
 t5 := Tryz.underlying5
 a5 := Tryz.isAgg5
 z5 := Tryz.sizeOf5
 v5 := Tryz.zeroValue5
 i5 := by kernel_rfl
 t9 := Tryz.underlying9
 a9 := Tryz.isAgg9
 z9 := Tryz.sizeOf9
 v9 := Tryz.zeroValue9
 i9 := by kernel_rfl
 t20 := Tryz.underlying20
 a20 := Tryz.isAgg20
 z20 := Tryz.sizeOf20
 v20 := Tryz.zeroValue20
 i20 := by kernel_rfl
 t21 := Tryz.underlying21
 a21 := Tryz.isAgg21
 z21 := Tryz.sizeOf21
 v21 := Tryz.zeroValue21
 i21 := by kernel_rfl
 t22 := Tryz.underlying102
 a22 := Tryz.isAgg102
 z22 := Tryz.sizeOf102
 v22 := Tryz.zeroValue102
 i22 := by kernel_rfl
 t24 := Tryz.underlying97
 a24 := Tryz.isAgg97
 z24 := Tryz.sizeOf97
 v24 := Tryz.zeroValue97
 i24 := by kernel_rfl
 t25 := Tryz.underlying186
 a25 := Tryz.isAgg186
 z25 := Tryz.sizeOf186
 v25 := Tryz.zeroValue186
 i25 := by kernel_rfl
 t34 := Tryz.underlying226
 a34 := Tryz.isAgg226
 z34 := Tryz.sizeOf226
 v34 := Tryz.zeroValue226
 i34 := by kernel_rfl
 c34 := by kernel_rfl
 t36 := Tryz.underlying142
 a36 := Tryz.isAgg142
 z36 := Tryz.sizeOf142
 v36 := Tryz.zeroValue142
 i36 := by kernel_rfl
 t37 := Tryz.underlying47
 a37 := Tryz.isAgg47
 z37 := Tryz.sizeOf47
 v37 := Tryz.zeroValue47
 i37 := by kernel_rfl
 t39 := Tryz.underlying228
 a39 := Tryz.isAgg228
 z39 := Tryz.sizeOf228
 v39 := Tryz.zeroValue228
 i39 := by kernel_rfl
 t44 := Tryz.underlying241
 a44 := Tryz.isAgg241
 z44 := Tryz.sizeOf241
 v44 := Tryz.zeroValue241
 i44 := by kernel_rfl
 t47 := Tryz.underlying156
 a47 := Tryz.isAgg156
 z47 := Tryz.sizeOf156
 v47 := Tryz.zeroValue156
 i47 := by kernel_rfl
 t48 := Tryz.underlying249
 a48 := Tryz.isAgg249
 z48 := Tryz.sizeOf249
 v48 := Tryz.zeroValue249
 i48 := by kernel_rfl
 t50 := Tryz.underlying251
 a50 := Tryz.isAgg251
 z50 := Tryz.sizeOf251
 v50 := Tryz.zeroValue251
 i50 := by kernel_rfl
 t52 := Tryz.underlying209
 a52 := Tryz.isAgg209
 z52 := Tryz.sizeOf209
 v52 := Tryz.zeroValue209
 i52 := by kernel_rfl
 t55 := Tryz.underlying212
 a55 := Tryz.isAgg212
 z55 := Tryz.sizeOf212
 v55 := Tryz.zeroValue212
 i55 := by kernel_rfl
 t59 := Tryz.underlying232
 a59 := Tryz.isAgg232
 z59 := Tryz.sizeOf232
 v59 := Tryz.zeroValue232
 i59 := by kernel_rfl
 t60 := Tryz.underlying91
 a60 := Tryz.isAgg91
 z60 := Tryz.sizeOf91
 v60 := Tryz.zeroValue91
 i60 := by kernel_rfl
 t61 := Tryz.underlying233
 a61 := Tryz.isAgg233
 z61 := Tryz.sizeOf233
 t65 := Tryz.underlying236
 a65 := Tryz.isAgg236
 z65 := Tryz.sizeOf236
 v65 := Tryz.zeroValue236
 i65 := by kernel_rfl
 t66 := Tryz.underlying252
 a66 := Tryz.isAgg252
 z66 := Tryz.sizeOf252
 v66 := Tryz.zeroValue252
 i66 := by kernel_rfl
 t67 := Tryz.underlying101
 a67 := Tryz.isAgg101
 z67 := Tryz.sizeOf101
 v67 := Tryz.zeroValue101
 i67 := by kernel_rfl
 g0 := by kernel_rfl
 m0 := by kernel_rfl
 g1 := by kernel_rfl
 m1 := by kernel_rfl
 g2 := by kernel_rfl
 m2 := by kernel_rfl
 g3 := by kernel_rfl
 m3 := by kernel_rfl
 g4 := by kernel_rfl
 m4 := by kernel_rfl }
open Go.RowKit in
theorem Tryz.strconv_ParseUint_10_at32_ok (s : ByteArray) (hmax : s.size ≤ 9223372036854775806) (u : Nat) (h : Lib.parseUintB 32 s.data.toList = .ok u) (w : World) :
  Calls Tryz.prog 200 #[.string s, .int .i64 10, .int .i64 32] w fun e w' => e = .returned (.tuple #[.int .u64 u, .nilIface]) ∧ (w' = w ∨ w' = Lib.bytesWorld w 5 s) := Any.strconv_ParseUint_10_at32_ok Tryz.aho s hmax u h w
def Tryz.ti : Go.Shelf.Ren := ⟨fun | 105 => 143 | 212 => 209 | 99 => 128 | 165 => 158 | 166 => 61 | 170 => 210 | 169 => 63 | 263 => 247 | 264 => 248 | 206 => 199 | 240 => 144 | 241 => 217 | 276 => 211 | 277 => 252 | n => n, fun | 9 => 9 | 3 => 3 | 4 => 4 | 20 => 20 | 0 => 0 | 46 => 142 | 109 => 188 | 5 => 5 | 72 => 95 | 76 => 98 | 51 => 91 | 146 => 214 | 53 => 102 | 148 => 216 | 70 => 93 | 37 => 47 | 75 => 97 | 127 => 156 | 164 => 191 | 80 => 101 | n => n, fun | n => n⟩
theorem Tryz.aev : Go.Proofs.Lays.n105 Tryz.prog Tryz.ti := {
 mixed := by kernel_rfl
 f99 := Tryz.func128.trans (congrArg some (by kernel_rfl))
 f105 := Tryz.func143.trans (congrArg some (by kernel_rfl))
 f165 := Tryz.func158.trans (congrArg some (by kernel_rfl))
 f166 := Tryz.func61.trans (congrArg some (by kernel_rfl))
 f169 := Tryz.func63.trans (congrArg some (by kernel_rfl))
 f170 := Tryz.func210.trans (congrArg some (by kernel_rfl))
 f206 := Tryz.func199.trans (congrArg some (by kernel_rfl))
 f212 := Tryz.func209.trans (congrArg some (by kernel_rfl))
 f240 := Tryz.func144.trans (congrArg some (by kernel_rfl))
 f241 := Tryz.func217.trans (congrArg some (by kernel_rfl))
 f263 := Tryz.func247.trans (congrArg some (by kernel_rfl))
 f264 := Tryz.func248.trans (congrArg some (by kernel_rfl))
 f276 := Tryz.func211.trans (congrArg some (by kernel_rfl))
 f277 := Tryz.func252.trans (congrArg some (by kernel_rfl))
 t0 := Tryz.underlying0
 a0 := Tryz.isAgg0
 z0 := Tryz.sizeOf0
 v0 := Tryz.zeroValue0
 t3 := Tryz.underlying3
 a3 := Tryz.isAgg3
 z3 := Tryz.sizeOf3
 v3 := Tryz.zeroValue3
 t4 := Tryz.underlying4
 a4 := Tryz.isAgg4
 z4 := Tryz.sizeOf4
 v4 := Tryz.zeroValue4
 t5 := Tryz.underlying5
 a5 := Tryz.isAgg5
 z5 := Tryz.sizeOf5
 v5 := Tryz.zeroValue5
 t9 := Tryz.underlying9
 a9 := Tryz.isAgg9
 z9 := Tryz.sizeOf9
 v9 := Tryz.zeroValue9
 t20 := Tryz.underlying20
 a20 := Tryz.isAgg20
 z20 := Tryz.sizeOf20
 v20 := Tryz.zeroValue20
 t37 := Tryz.underlying47
 a37 := Tryz.isAgg47
 z37 := Tryz.sizeOf47
 v37 := Tryz.zeroValue47
 t46 := Tryz.underlying142
 a46 := Tryz.isAgg142
 z46 := Tryz.sizeOf142
 v46 := Tryz.zeroValue142
 t51 := Tryz.underlying91
 a51 := Tryz.isAgg91
 z51 := Tryz.sizeOf91
 v51 := Tryz.zeroValue91
 t53 := Tryz.underlying102
 a53 := Tryz.isAgg102
 z53 := Tryz.sizeOf102
 v53 := Tryz.zeroValue102
 t70 := Tryz.underlying93
 a70 := Tryz.isAgg93
 z70 := Tryz.sizeOf93
 v70 := Tryz.zeroValue93
 t72 := Tryz.underlying95
 a72 := Tryz.isAgg95
 z72 := Tryz.sizeOf95
 v72 := Tryz.zeroValue95
 t75 := Tryz.underlying97
 a75 := Tryz.isAgg97
 z75 := Tryz.sizeOf97
 v75 := Tryz.zeroValue97
 t76 := Tryz.underlying98
 a76 := Tryz.isAgg98
 z76 := Tryz.sizeOf98
 v76 := Tryz.zeroValue98
 t109 := Tryz.underlying188
 a109 := Tryz.isAgg188
 z109 := Tryz.sizeOf188
 v109 := Tryz.zeroValue188
 t127 := Tryz.underlying156
 a127 := Tryz.isAgg156
 z127 := Tryz.sizeOf156
 v127 := Tryz.zeroValue156
 t146 := Tryz.underlying214
 a146 := Tryz.isAgg214
 z146 := Tryz.sizeOf214
 v146 := Tryz.zeroValue214
 t148 := Tryz.underlying216
 a148 := Tryz.isAgg216
 z148 := Tryz.sizeOf216
 v148 := Tryz.zeroValue216
 t164 := Tryz.underlying191
 a164 := Tryz.isAgg191
 z164 := Tryz.sizeOf191
 v164 := Tryz.zeroValue191 }
theorem Tryz.k7 : Builder.Extra Tryz.prog Tryz.ti := {
 sizeBuilder := by kernel_rfl
 liesBuilder := by kernel_rfl
 t5 := Tryz.underlying5
 a5 := Tryz.isAgg5
 z5 := Tryz.sizeOf5
 v5 := Tryz.zeroValue5
 infoByte := by kernel_rfl
 cellsByte := by kernel_rfl
 sizeByte := by kernel_rfl
 neB5 := by decide }
open Go.RowKit Go.Lib in
theorem Tryz.strings_Repeat (s : ByteArray) (c : Nat) (w : World) (hc : c ≤ 9223372036854775807) (hlen : s.size * c ≤ 140737488355328) :
  Calls Tryz.prog 143 #[.string s, .int .i64 c] w fun e w' => e = .returned (.string ⟨(Lib.repeatL s.data.toList c).toArray⟩) ∧ Below w.heap.size w w' := Any.strings_Repeat Tryz.aev Tryz.k7 s c w hc hlen
open Go.RowKit in
theorem Tryz.Builder_WriteString (B b : Nat) (bs : List Value) (s : ByteArray) (w : World) (h : Lib.IsBuilder 95 5 B b bs w) (hlen : bs.length + s.size ≤ 140737488355328) (hBw : B ≤ w.heap.size) :
  Calls Tryz.prog 61 #[.pointer (some ⟨b, 0, none⟩), .string s] w fun e w' => e = .returned (.tuple #[.int .i64 s.size, .nilIface]) ∧ (Lib.BuilderAt 95 5 B b (.pointer (some ⟨b, 0, none⟩)) (bs ++ Lib.strCells s) w' ∧ Below B w w') := Any.Builder_WriteString { Tryz.aev with } Tryz.k7 B b bs s w h hlen hBw
end Go.Proofs

-- STR
namespace Go.Ev
open Go Go.RowKit
def D.v0 : D → Option Value
 | .bool b => some (.bool b)
 | .int k n => some (.int k n)
 | .str s => some (.string s)
 | .raw v => some v
 | _ => none
def D.vs0 : List D → Option (List Value)
 | [] => some []
 | x :: l => match x.v0, D.vs0 l with
  | some v, some vs => some (v :: vs)
  | _, _ => none
theorem amr {S : Imm} {w : World} {x : D} {v u : Value} (h : x.v0 = some v) (hd : DR S w x u) : u = v := by
 cases x <;> simp_all [D.v0, DR]
theorem agt {S : Imm} {w : World} : ∀ {l : List D} {vs us : List Value}, D.vs0 l = some vs → DRs S w l us → us = vs
 | [], vs, us, h, hd => by
  simp only [D.vs0, Option.some.injEq] at h
  simp only [DRs] at hd
  rw [hd, h]
 | x :: l, vs, us, h, hd => by
  simp only [DRs] at hd
  obtain ⟨u, us', rfl, h1, h2⟩ := hd
  simp only [D.vs0] at h
  split at h
  ·rename_i v vs' hv hvs
   cases h
   rw [amr hv h1, agt hvs h2]
  ·cases h
theorem aak {P : Program} {G : bw} {f : FuncId} {args : List D} {vs : List Value} {r : D} {rv : Value} (hc : fm P f = true) (ha : D.vs0 args = some vs) (hr : ∀ S w, DR S w r rv)
  (h : ∀ w, Calls P f vs.toArray w fun e w' => e = .returned rv ∧ Below w.heap.size w w') : Sim P G true f args r := by
 refine ⟨hc, fun S w us hS hG hd => ?_⟩
 rw [agt ha hd]
 refine (h w).mono ?_
 rintro e w' ⟨rfl, hb⟩
 exact ⟨_, rfl, hb, fun _ _ => False, fun _ _ h => h.elim, hr _ _⟩
theorem aby {P : Program} {G : bw} {f : FuncId} {args : List D} {vs : List Value} {r : D} {rv : Value} (hc : fm P f = true) (ha : D.vs0 args = some vs) (hr : ∀ S w, DR S w r rv)
  (h : ∀ w, Calls P f vs.toArray w fun e w' => e = .returned rv ∧ w' = w) : Sim P G true f args r :=
 aak hc ha hr fun w => (h w).mono (by rintro e w' ⟨rfl, rfl⟩; exact ⟨rfl, Below.refl _ _⟩)
end Go.Ev
namespace Go.Ev.Ar
open Go Go.Ev Go.Proofs Go.RowKit
def fu (b v : Nat) : List UInt8 := (if v = 0 then [0] else dg b v).map ch
theorem aly : ∀ v : Nat, Lib.decDigits v = fu 10 v := by
 intro v
 induction v using Nat.strongRecOn with
 | ind v ih =>
  rw [Lib.decDigits]
  split
  ·rename_i h
   by_cases h0 : v = 0
   ·subst h0; rfl
   ·rw [fu, if_neg h0, fw (by omega) h0, Nat.div_eq_of_lt h, en, Nat.mod_eq_of_lt h]
    simp [ag0 h]
  ·rename_i h
   have h0 : v ≠ 0 := by omega
   have h1 : v / 10 ≠ 0 := by omega
   rw [ih _ (by omega), fu, fu, if_neg h0, if_neg h1, fw (by omega) h0, List.map_append, List.map_singleton, ag0 (by omega)]
theorem anp : ∀ v : Nat, v ≠ 0 → Lib.nDigits v = (dg 10 v).length := by
 intro v
 induction v using Nat.strongRecOn with
 | ind v ih =>
  intro h0
  rw [fw (by omega) h0, List.length_append, List.length_singleton]
  by_cases h : v < 10
  ·rw [Lib.nDigits_small h, Nat.div_eq_of_lt h, en]; rfl
  ·rw [Lib.nDigits_big h, ih _ (by omega) (by omega)]
theorem agb (v : Nat) (h : v < 100) : Sim Tryz.prog G0 true 243 [.int .i64 v] (.str (bst (fu 10 v))) := by
 refine aby (vs := [.int .i64 v]) (rv := .string ⟨(Lib.decDigits v).toArray⟩) (by kernel_rfl) rfl (fun S w => ?_) fun w => Tryz.internal_strconv_small v h w
 simp only [DR]; rw [aly, n6]
theorem afz (v : Nat) (h : v < 18446744073709551616) : Sim Tryz.prog G0 true 273 [.int .u64 v] (.int .i64 (Lib.bitLen v)) := by
 refine aby (vs := [.int .u64 v]) (rv := .int .i64 (Lib.bitLen v)) (by kernel_rfl) rfl (fun S w => ?_) fun w => ?_
 ·simp only [DR]
 ·have := Tryz.bits_Len64 v w (by omega) (by omega)
  rw [Int.toNat_natCast] at this; exact this
theorem ajx (x : Nat) (h : x ≤ 64) : Sim Tryz.prog G0 true 272 [.int .i64 x] (.int .i64 (Lib.l10 x)) := by
 refine ck ax Tryz.func272 ?_
 repeat' ((conv => whnf); first | refine aw.data ?_ | refine rgE ?_ | refine Cd.mk rfl ?_ | refine Br.t ?_ | refine Br.f ?_ | with_reducible refine Br.dec (fun _ => ?_) (fun _ => ?_) | with_reducible refine Br.br (fun _ => ?_) (fun _ => ?_) | refine Br.mk (fun _ => ?_) (fun _ => ?_) | refine an.mk _ (az _ _ (by omega)) ?_ | refine an.mk _ (a1 _ _ (by omega)) ?_ | refine an.mk _ (cp _ _ _ (by first | with_reducible exact ae _ | with_reducible exact ab _ | exact ae _ | exact ab _ | rfl) (by first | omega | (simp only [List.length_set]; omega))) ?_ | refine an.mk _ rfl ?_ | refine And.intro (fun _ => ?_) ?_ | (refine TkE.fL ?_; (conv => whnf); fail_if_success (show ag _ _)) | refine TkE.mk _ rfl rfl ?_ | refine Res.mk ?_ | refine a7.mk (by repeat first | exact True.intro | refine And.intro (by kernel_rfl) ?_) ?_ | refine DsE.mk (a8 _) rfl ?_ | refine DsE.mk [] rfl ?_ | refine ai.cu _ _ ?_ | ((with_reducible refine EqE.idT ?_); first | ((conv => arg 1; simp only [ak, List.toList_toArray, ao, af, aa, Int.toNat_natCast, Int.toNat_zero, Int.toNat_one, b3, b4, List.drop_zero, Nat.sub_zero, List.cons_append, List.nil_append]); refine EqE.mk _ rfl ?_) | refine EqE.mk _ rfl ?_) | ((with_reducible refine EqE.idP ?_); first | ((conv => arg 1; simp only [ak, List.toList_toArray, bx, bz]); refine EqE.mk _ rfl ?_) | refine EqE.mk _ rfl ?_) | ((with_reducible refine EqE.idN ?_); first | ((conv => arg 1; simp only [ak, List.toList_toArray, aa, ba, Int.toNat_natCast, Int.toNat_zero, Int.toNat_one, List.length_cons, List.length_nil, Nat.zero_add]); refine EqE.mk _ rfl ?_)) | ((with_reducible refine EqE.idW ?_); first | refine EqE.mk ((x * 78913 : Nat) : Int) (by rw [ah (by omega) (by omega)]; omega) ?_ | with_reducible refine EqE.mk _ (ar _) ?_ | with_reducible refine EqE.mk _ (dy _ _ (by omega)) ?_ | with_reducible refine EqE.mk _ (b6 _ (by omega)) ?_ | with_reducible refine EqE.mk _ (eh _ _ (by omega) (by omega)) ?_ | with_reducible refine EqE.mk _ (eg _ _ (by omega)) ?_ | with_reducible refine EqE.mk _ (ei _ _ (by omega) (by omega)) ?_ | with_reducible refine EqE.mk _ (c8 _ (by omega)) ?_ | with_reducible refine EqE.mk _ (di _ (by omega)) ?_ | with_reducible refine EqE.mk _ (bd _ (by omega)) ?_ | with_reducible refine EqE.mk _ (ek _ _ (by omega) (by omega)) ?_ | with_reducible refine EqE.mk _ (gl _ _ (by omega) (by omega)) ?_ | refine EqE.mk _ (dx _ 32 (by omega)) ?_ | with_reducible refine EqE.mk _ (cl _) ?_ | with_reducible refine EqE.mk _ (gu _) ?_ | with_reducible refine EqE.mk _ (ed _ (by omega)) ?_ | with_reducible refine EqE.mk _ (a6 _ (by omega)) ?_ | with_reducible refine EqE.mk _ (aq _ (by omega)) ?_ | with_reducible refine EqE.mk _ (n_iadd _ _ (by omega)) ?_ | with_reducible refine EqE.mk _ (wrap_u64 (by omega) (by omega)) ?_ | with_reducible refine EqE.mk _ (wrap_u32 _) ?_ | with_reducible refine EqE.mk _ (ah (by omega) (by omega)) ?_ | refine EqE.mk _ rfl ?_) | ((with_reducible refine EqE.idF ?_); first | refine EqE.mk _ (aj _ 262144 _ _ rfl) ?_ | with_reducible refine EqE.mk _ (cf _) ?_ | with_reducible refine EqE.mk _ (cx _ _ (by omega)) ?_ | with_reducible refine EqE.mk _ (bq _ _ (by omega)) ?_ | with_reducible refine EqE.mk _ (bg _) ?_ | refine EqE.mk _ (aj _ 4294967296 _ _ rfl) ?_ | refine EqE.mk _ (aj _ 65536 _ _ rfl) ?_ | refine EqE.mk _ (aj _ 256 _ _ rfl) ?_ | refine EqE.mk _ (aj _ 134217728 _ _ rfl) ?_ | refine EqE.mk _ (aj _ 2 _ _ rfl) ?_ | refine EqE.mk _ (aj _ 16 _ _ rfl) ?_ | refine EqE.mk _ rfl ?_) | ((with_reducible refine EqE.idM ?_); first | refine EqE.mk _ (bn _ 32) ?_ | refine EqE.mk _ (bn _ _) ?_ | refine EqE.mk _ rfl ?_) | ((with_reducible refine EqE.idI ?_); first | refine EqE.mk _ (gq _) ?_ | with_reducible refine EqE.mk _ (b8 _ _) ?_ | refine EqE.mk _ (max_eq _ _) ?_ | refine EqE.mk _ (min_eq _ _) ?_) | ((with_reducible refine EqE.idS ?_); first | refine EqE.mk _ (bl _ _ _ _ (by first | with_reducible exact ae _ | with_reducible exact ab _ | exact ae _ | exact ab _ | rfl) (by first | omega | (simp only [List.length_set]; omega)) (by omega)) ?_ | refine EqE.mk _ (dh _ _ _ _ (by first | with_reducible exact ae _ | with_reducible exact ab _ | exact ae _ | exact ab _ | rfl) (by omega) (by omega) (by omega)) ?_ | (refine EqE.fP ?_; (conv => whnf); fail_if_success (show ag _ _)) | refine EqE.mk _ rfl ?_) | ((with_reducible refine EqE.idA ?_); first | refine EqE.mk _ (cc _) ?_ | refine EqE.mk _ (dd _ _) ?_ | refine EqE.mk _ rfl ?_) | ((with_reducible refine EqE.idR ?_); first | refine EqE.mk _ (b7 _) ?_ | refine EqE.mk _ rfl ?_) | ((with_reducible refine EqE.idL ?_); first | refine EqE.mk _ (av _ _ _ _ (by omega) (by omega) rfl) ?_ | refine EqE.mk _ (bh _ _ (by omega)) ?_ | refine EqE.mk _ (bo _ _ _ (by omega) (by omega) (by omega)) ?_ | refine EqE.mk _ rfl ?_) | refine EqE.mk _ rfl ?_ | refine Cd.ro ?_ | refine Cd.dc ?_ | refine Cd.ob ?_ | refine Cd.ol ?_ | refine Cd.mk ⟨rfl, rfl⟩ ?_ | refine Cd.mk (bc _) ?_ | refine Cd.om ?_ | refine Cd.mk ?_ ?_ | refine DsE.mk [_] rfl ?_ | refine DsE.mk [_, _, _] rfl ?_)
 rfl
theorem afl (b : Bool) : Sim Tryz.prog G0 true 274 [.bool b] (.int .i64 (if b then 1 else 0)) := by
 refine ck ax Tryz.func274 ?_
 cases b
 ·repeat' ((conv => whnf); first | refine aw.data ?_ | refine rgE ?_ | refine Cd.mk rfl ?_ | refine Br.t ?_ | refine Br.f ?_ | with_reducible refine Br.dec (fun _ => ?_) (fun _ => ?_) | with_reducible refine Br.br (fun _ => ?_) (fun _ => ?_) | refine Br.mk (fun _ => ?_) (fun _ => ?_) | refine an.mk _ (az _ _ (by omega)) ?_ | refine an.mk _ (a1 _ _ (by omega)) ?_ | refine an.mk _ (cp _ _ _ (by first | with_reducible exact ae _ | with_reducible exact ab _ | exact ae _ | exact ab _ | rfl) (by first | omega | (simp only [List.length_set]; omega))) ?_ | refine an.mk _ rfl ?_ | refine And.intro (fun _ => ?_) ?_ | (refine TkE.fL ?_; (conv => whnf); fail_if_success (show ag _ _)) | refine TkE.mk _ rfl rfl ?_ | refine Res.mk ?_ | refine a7.mk (by repeat first | exact True.intro | refine And.intro (by kernel_rfl) ?_) ?_ | refine DsE.mk (a8 _) rfl ?_ | refine DsE.mk [] rfl ?_ | refine ai.cu _ _ ?_ | ((with_reducible refine EqE.idT ?_); first | ((conv => arg 1; simp only [ak, List.toList_toArray, ao, af, aa, Int.toNat_natCast, Int.toNat_zero, Int.toNat_one, b3, b4, List.drop_zero, Nat.sub_zero, List.cons_append, List.nil_append]); refine EqE.mk _ rfl ?_) | refine EqE.mk _ rfl ?_) | ((with_reducible refine EqE.idP ?_); first | ((conv => arg 1; simp only [ak, List.toList_toArray, bx, bz]); refine EqE.mk _ rfl ?_) | refine EqE.mk _ rfl ?_) | ((with_reducible refine EqE.idN ?_); first | ((conv => arg 1; simp only [ak, List.toList_toArray, aa, ba, Int.toNat_natCast, Int.toNat_zero, Int.toNat_one, List.length_cons, List.length_nil, Nat.zero_add]); refine EqE.mk _ rfl ?_)) | ((with_reducible refine EqE.idW ?_); first | with_reducible refine EqE.mk _ (ar _) ?_ | with_reducible refine EqE.mk _ (dy _ _ (by omega)) ?_ | with_reducible refine EqE.mk _ (b6 _ (by omega)) ?_ | with_reducible refine EqE.mk _ (eh _ _ (by omega) (by omega)) ?_ | with_reducible refine EqE.mk _ (eg _ _ (by omega)) ?_ | with_reducible refine EqE.mk _ (ei _ _ (by omega) (by omega)) ?_ | with_reducible refine EqE.mk _ (c8 _ (by omega)) ?_ | with_reducible refine EqE.mk _ (di _ (by omega)) ?_ | with_reducible refine EqE.mk _ (bd _ (by omega)) ?_ | with_reducible refine EqE.mk _ (ek _ _ (by omega) (by omega)) ?_ | with_reducible refine EqE.mk _ (gl _ _ (by omega) (by omega)) ?_ | refine EqE.mk _ (dx _ 32 (by omega)) ?_ | with_reducible refine EqE.mk _ (cl _) ?_ | with_reducible refine EqE.mk _ (gu _) ?_ | with_reducible refine EqE.mk _ (ed _ (by omega)) ?_ | with_reducible refine EqE.mk _ (a6 _ (by omega)) ?_ | with_reducible refine EqE.mk _ (aq _ (by omega)) ?_ | with_reducible refine EqE.mk _ (n_iadd _ _ (by omega)) ?_ | with_reducible refine EqE.mk _ (wrap_u64 (by omega) (by omega)) ?_ | with_reducible refine EqE.mk _ (wrap_u32 _) ?_ | with_reducible refine EqE.mk _ (ah (by omega) (by omega)) ?_ | refine EqE.mk _ rfl ?_) | ((with_reducible refine EqE.idF ?_); first | with_reducible refine EqE.mk _ (cf _) ?_ | with_reducible refine EqE.mk _ (cx _ _ (by omega)) ?_ | with_reducible refine EqE.mk _ (bq _ _ (by omega)) ?_ | with_reducible refine EqE.mk _ (bg _) ?_ | refine EqE.mk _ (aj _ 4294967296 _ _ rfl) ?_ | refine EqE.mk _ (aj _ 65536 _ _ rfl) ?_ | refine EqE.mk _ (aj _ 256 _ _ rfl) ?_ | refine EqE.mk _ (aj _ 134217728 _ _ rfl) ?_ | refine EqE.mk _ (aj _ 2 _ _ rfl) ?_ | refine EqE.mk _ (aj _ 16 _ _ rfl) ?_ | refine EqE.mk _ rfl ?_) | ((with_reducible refine EqE.idM ?_); first | refine EqE.mk _ (bn _ 32) ?_ | refine EqE.mk _ (bn _ _) ?_ | refine EqE.mk _ rfl ?_) | ((with_reducible refine EqE.idI ?_); first | refine EqE.mk _ (gq _) ?_ | with_reducible refine EqE.mk _ (b8 _ _) ?_ | refine EqE.mk _ (max_eq _ _) ?_ | refine EqE.mk _ (min_eq _ _) ?_) | ((with_reducible refine EqE.idS ?_); first | refine EqE.mk _ (bl _ _ _ _ (by first | with_reducible exact ae _ | with_reducible exact ab _ | exact ae _ | exact ab _ | rfl) (by first | omega | (simp only [List.length_set]; omega)) (by omega)) ?_ | refine EqE.mk _ (dh _ _ _ _ (by first | with_reducible exact ae _ | with_reducible exact ab _ | exact ae _ | exact ab _ | rfl) (by omega) (by omega) (by omega)) ?_ | (refine EqE.fP ?_; (conv => whnf); fail_if_success (show ag _ _)) | refine EqE.mk _ rfl ?_) | ((with_reducible refine EqE.idA ?_); first | refine EqE.mk _ (cc _) ?_ | refine EqE.mk _ (dd _ _) ?_ | refine EqE.mk _ rfl ?_) | ((with_reducible refine EqE.idR ?_); first | refine EqE.mk _ (b7 _) ?_ | refine EqE.mk _ rfl ?_) | ((with_reducible refine EqE.idL ?_); first | refine EqE.mk _ (av _ _ _ _ (by omega) (by omega) rfl) ?_ | refine EqE.mk _ (bh _ _ (by omega)) ?_ | refine EqE.mk _ (bo _ _ _ (by omega) (by omega) (by omega)) ?_ | refine EqE.mk _ rfl ?_) | refine EqE.mk _ rfl ?_ | refine Cd.ro ?_ | refine Cd.dc ?_ | refine Cd.ob ?_ | refine Cd.ol ?_ | refine Cd.mk ⟨rfl, rfl⟩ ?_ | refine Cd.mk (bc _) ?_ | refine Cd.om ?_ | refine Cd.mk ?_ ?_ | refine DsE.mk [_] rfl ?_ | refine DsE.mk [_, _, _] rfl ?_)
  rfl
 ·repeat' ((conv => whnf); first | refine aw.data ?_ | refine rgE ?_ | refine Cd.mk rfl ?_ | refine Br.t ?_ | refine Br.f ?_ | with_reducible refine Br.dec (fun _ => ?_) (fun _ => ?_) | with_reducible refine Br.br (fun _ => ?_) (fun _ => ?_) | refine Br.mk (fun _ => ?_) (fun _ => ?_) | refine an.mk _ (az _ _ (by omega)) ?_ | refine an.mk _ (a1 _ _ (by omega)) ?_ | refine an.mk _ (cp _ _ _ (by first | with_reducible exact ae _ | with_reducible exact ab _ | exact ae _ | exact ab _ | rfl) (by first | omega | (simp only [List.length_set]; omega))) ?_ | refine an.mk _ rfl ?_ | refine And.intro (fun _ => ?_) ?_ | (refine TkE.fL ?_; (conv => whnf); fail_if_success (show ag _ _)) | refine TkE.mk _ rfl rfl ?_ | refine Res.mk ?_ | refine a7.mk (by repeat first | exact True.intro | refine And.intro (by kernel_rfl) ?_) ?_ | refine DsE.mk (a8 _) rfl ?_ | refine DsE.mk [] rfl ?_ | refine ai.cu _ _ ?_ | ((with_reducible refine EqE.idT ?_); first | ((conv => arg 1; simp only [ak, List.toList_toArray, ao, af, aa, Int.toNat_natCast, Int.toNat_zero, Int.toNat_one, b3, b4, List.drop_zero, Nat.sub_zero, List.cons_append, List.nil_append]); refine EqE.mk _ rfl ?_) | refine EqE.mk _ rfl ?_) | ((with_reducible refine EqE.idP ?_); first | ((conv => arg 1; simp only [ak, List.toList_toArray, bx, bz]); refine EqE.mk _ rfl ?_) | refine EqE.mk _ rfl ?_) | ((with_reducible refine EqE.idN ?_); first | ((conv => arg 1; simp only [ak, List.toList_toArray, aa, ba, Int.toNat_natCast, Int.toNat_zero, Int.toNat_one, List.length_cons, List.length_nil, Nat.zero_add]); refine EqE.mk _ rfl ?_)) | ((with_reducible refine EqE.idW ?_); first | with_reducible refine EqE.mk _ (ar _) ?_ | with_reducible refine EqE.mk _ (dy _ _ (by omega)) ?_ | with_reducible refine EqE.mk _ (b6 _ (by omega)) ?_ | with_reducible refine EqE.mk _ (eh _ _ (by omega) (by omega)) ?_ | with_reducible refine EqE.mk _ (eg _ _ (by omega)) ?_ | with_reducible refine EqE.mk _ (ei _ _ (by omega) (by omega)) ?_ | with_reducible refine EqE.mk _ (c8 _ (by omega)) ?_ | with_reducible refine EqE.mk _ (di _ (by omega)) ?_ | with_reducible refine EqE.mk _ (bd _ (by omega)) ?_ | with_reducible refine EqE.mk _ (ek _ _ (by omega) (by omega)) ?_ | with_reducible refine EqE.mk _ (gl _ _ (by omega) (by omega)) ?_ | refine EqE.mk _ (dx _ 32 (by omega)) ?_ | with_reducible refine EqE.mk _ (cl _) ?_ | with_reducible refine EqE.mk _ (gu _) ?_ | with_reducible refine EqE.mk _ (ed _ (by omega)) ?_ | with_reducible refine EqE.mk _ (a6 _ (by omega)) ?_ | with_reducible refine EqE.mk _ (aq _ (by omega)) ?_ | with_reducible refine EqE.mk _ (n_iadd _ _ (by omega)) ?_ | with_reducible refine EqE.mk _ (wrap_u64 (by omega) (by omega)) ?_ | with_reducible refine EqE.mk _ (wrap_u32 _) ?_ | with_reducible refine EqE.mk _ (ah (by omega) (by omega)) ?_ | refine EqE.mk _ rfl ?_) | ((with_reducible refine EqE.idF ?_); first | with_reducible refine EqE.mk _ (cf _) ?_ | with_reducible refine EqE.mk _ (cx _ _ (by omega)) ?_ | with_reducible refine EqE.mk _ (bq _ _ (by omega)) ?_ | with_reducible refine EqE.mk _ (bg _) ?_ | refine EqE.mk _ (aj _ 4294967296 _ _ rfl) ?_ | refine EqE.mk _ (aj _ 65536 _ _ rfl) ?_ | refine EqE.mk _ (aj _ 256 _ _ rfl) ?_ | refine EqE.mk _ (aj _ 134217728 _ _ rfl) ?_ | refine EqE.mk _ (aj _ 2 _ _ rfl) ?_ | refine EqE.mk _ (aj _ 16 _ _ rfl) ?_ | refine EqE.mk _ rfl ?_) | ((with_reducible refine EqE.idM ?_); first | refine EqE.mk _ (bn _ 32) ?_ | refine EqE.mk _ (bn _ _) ?_ | refine EqE.mk _ rfl ?_) | ((with_reducible refine EqE.idI ?_); first | refine EqE.mk _ (gq _) ?_ | with_reducible refine EqE.mk _ (b8 _ _) ?_ | refine EqE.mk _ (max_eq _ _) ?_ | refine EqE.mk _ (min_eq _ _) ?_) | ((with_reducible refine EqE.idS ?_); first | refine EqE.mk _ (bl _ _ _ _ (by first | with_reducible exact ae _ | with_reducible exact ab _ | exact ae _ | exact ab _ | rfl) (by first | omega | (simp only [List.length_set]; omega)) (by omega)) ?_ | refine EqE.mk _ (dh _ _ _ _ (by first | with_reducible exact ae _ | with_reducible exact ab _ | exact ae _ | exact ab _ | rfl) (by omega) (by omega) (by omega)) ?_ | (refine EqE.fP ?_; (conv => whnf); fail_if_success (show ag _ _)) | refine EqE.mk _ rfl ?_) | ((with_reducible refine EqE.idA ?_); first | refine EqE.mk _ (cc _) ?_ | refine EqE.mk _ (dd _ _) ?_ | refine EqE.mk _ rfl ?_) | ((with_reducible refine EqE.idR ?_); first | refine EqE.mk _ (b7 _) ?_ | refine EqE.mk _ rfl ?_) | ((with_reducible refine EqE.idL ?_); first | refine EqE.mk _ (av _ _ _ _ (by omega) (by omega) rfl) ?_ | refine EqE.mk _ (bh _ _ (by omega)) ?_ | refine EqE.mk _ (bo _ _ _ (by omega) (by omega) (by omega)) ?_ | refine EqE.mk _ rfl ?_) | refine EqE.mk _ rfl ?_ | refine Cd.ro ?_ | refine Cd.dc ?_ | refine Cd.ob ?_ | refine Cd.ol ?_ | refine Cd.mk ⟨rfl, rfl⟩ ?_ | refine Cd.mk (bc _) ?_ | refine Cd.om ?_ | refine Cd.mk ?_ ?_ | refine DsE.mk [_] rfl ?_ | refine DsE.mk [_, _, _] rfl ?_)
  rfl
theorem aib {i : Nat} (h : i < 20) : (adx.drop (((i : Nat) : Int).toNat * 1))[0]? = some (.int .u64 ((10 ^ i : Nat) : Int)) := by
 rw [Int.toNat_natCast, Nat.mul_one]
 have : ∀ i : Fin 20, (aia.drop i.1)[0]? = some ((10 ^ i.1 : Nat) : Int) := by decide
 have h2 := this ⟨i, h⟩
 simp only [adx, List.getElem?_drop, List.getElem?_map, Nat.add_zero] at h2 ⊢
 rw [h2]; rfl
theorem amw {v : Nat} (h : v < 18446744073709551616) : Lib.bitLen v ≤ 64 := Lib.bitLen_le v 64 (Nat.le_refl _) h
theorem abk (v : Nat) (h0 : v ≠ 0) (h : v < 18446744073709551616) : Sim Tryz.prog G0 true 244 [.int .u64 v] (.int .i64 ((dg 10 v).length : Nat)) := by
 obtain ⟨e1, e2⟩ := Lib.numDigits_eq v (by omega) h
 obtain ⟨t, ht⟩ : ∃ t, Lib.l10 (Lib.bitLen v) = t := ⟨_, rfl⟩
 have s2 := ajx (Lib.bitLen v) (amw h)
 rw [ht] at e1 e2 s2
 have hp := aib (i := t) (by omega)
 refine ck ax Tryz.func244 ?_
 repeat' ((conv => whnf); first | refine aw.data ?_ | refine cE ((afz v h)) ?_ | refine cE s2 ?_ | refine cE ((afl _)) ?_ | refine an.mk _ hp ?_ | refine rgE ?_ | refine Cd.mk rfl ?_ | refine Br.t ?_ | refine Br.f ?_ | with_reducible refine Br.dec (fun _ => ?_) (fun _ => ?_) | with_reducible refine Br.br (fun _ => ?_) (fun _ => ?_) | refine Br.mk (fun _ => ?_) (fun _ => ?_) | refine an.mk _ (az _ _ (by omega)) ?_ | refine an.mk _ (a1 _ _ (by omega)) ?_ | refine an.mk _ (cp _ _ _ (by first | with_reducible exact ae _ | with_reducible exact ab _ | exact ae _ | exact ab _ | rfl) (by first | omega | (simp only [List.length_set]; omega))) ?_ | refine an.mk _ rfl ?_ | refine And.intro (fun _ => ?_) ?_ | (refine TkE.fL ?_; (conv => whnf); fail_if_success (show ag _ _)) | refine TkE.mk _ rfl rfl ?_ | refine Res.mk ?_ | refine a7.mk (by repeat first | exact True.intro | refine And.intro (by kernel_rfl) ?_) ?_ | refine DsE.mk (a8 _) rfl ?_ | refine DsE.mk [] rfl ?_ | refine ai.cu _ _ ?_ | ((with_reducible refine EqE.idT ?_); first | ((conv => arg 1; simp only [ak, List.toList_toArray, ao, af, aa, Int.toNat_natCast, Int.toNat_zero, Int.toNat_one, b3, b4, List.drop_zero, Nat.sub_zero, List.cons_append, List.nil_append]); refine EqE.mk _ rfl ?_) | refine EqE.mk _ rfl ?_) | ((with_reducible refine EqE.idP ?_); first | ((conv => arg 1; simp only [ak, List.toList_toArray, bx, bz]); refine EqE.mk _ rfl ?_) | refine EqE.mk _ rfl ?_) | ((with_reducible refine EqE.idN ?_); first | ((conv => arg 1; simp only [ak, List.toList_toArray, aa, ba, Int.toNat_natCast, Int.toNat_zero, Int.toNat_one, List.length_cons, List.length_nil, Nat.zero_add]); refine EqE.mk _ rfl ?_)) | ((with_reducible refine EqE.idW ?_); first | with_reducible refine EqE.mk _ (ar _) ?_ | with_reducible refine EqE.mk _ (dy _ _ (by omega)) ?_ | with_reducible refine EqE.mk _ (b6 _ (by omega)) ?_ | with_reducible refine EqE.mk _ (eh _ _ (by omega) (by omega)) ?_ | with_reducible refine EqE.mk _ (eg _ _ (by omega)) ?_ | with_reducible refine EqE.mk _ (ei _ _ (by omega) (by omega)) ?_ | with_reducible refine EqE.mk _ (c8 _ (by omega)) ?_ | with_reducible refine EqE.mk _ (di _ (by omega)) ?_ | with_reducible refine EqE.mk _ (bd _ (by omega)) ?_ | with_reducible refine EqE.mk _ (ek _ _ (by omega) (by omega)) ?_ | with_reducible refine EqE.mk _ (gl _ _ (by omega) (by omega)) ?_ | refine EqE.mk _ (dx _ 32 (by omega)) ?_ | with_reducible refine EqE.mk _ (cl _) ?_ | with_reducible refine EqE.mk _ (gu _) ?_ | with_reducible refine EqE.mk _ (ed _ (by omega)) ?_ | with_reducible refine EqE.mk _ (a6 _ (by omega)) ?_ | with_reducible refine EqE.mk _ (aq _ (by omega)) ?_ | with_reducible refine EqE.mk _ (n_iadd _ _ (by omega)) ?_ | with_reducible refine EqE.mk _ (wrap_u64 (by omega) (by omega)) ?_ | with_reducible refine EqE.mk _ (wrap_u32 _) ?_ | with_reducible refine EqE.mk _ (ah (by omega) (by omega)) ?_ | refine EqE.mk _ rfl ?_) | ((with_reducible refine EqE.idF ?_); first | with_reducible refine EqE.mk _ (cf _) ?_ | with_reducible refine EqE.mk _ (cx _ _ (by omega)) ?_ | with_reducible refine EqE.mk _ (bq _ _ (by omega)) ?_ | with_reducible refine EqE.mk _ (bg _) ?_ | refine EqE.mk _ (aj _ 4294967296 _ _ rfl) ?_ | refine EqE.mk _ (aj _ 65536 _ _ rfl) ?_ | refine EqE.mk _ (aj _ 256 _ _ rfl) ?_ | refine EqE.mk _ (aj _ 134217728 _ _ rfl) ?_ | refine EqE.mk _ (aj _ 2 _ _ rfl) ?_ | refine EqE.mk _ (aj _ 16 _ _ rfl) ?_ | refine EqE.mk _ rfl ?_) | ((with_reducible refine EqE.idM ?_); first | refine EqE.mk _ (bn _ 32) ?_ | refine EqE.mk _ (bn _ _) ?_ | refine EqE.mk _ rfl ?_) | ((with_reducible refine EqE.idI ?_); first | refine EqE.mk _ (gq _) ?_ | with_reducible refine EqE.mk _ (b8 _ _) ?_ | refine EqE.mk _ (max_eq _ _) ?_ | refine EqE.mk _ (min_eq _ _) ?_) | ((with_reducible refine EqE.idS ?_); first | refine EqE.mk _ (bl _ _ _ _ (by first | with_reducible exact ae _ | with_reducible exact ab _ | exact ae _ | exact ab _ | rfl) (by first | omega | (simp only [List.length_set]; omega)) (by omega)) ?_ | refine EqE.mk _ (dh _ _ _ _ (by first | with_reducible exact ae _ | with_reducible exact ab _ | exact ae _ | exact ab _ | rfl) (by omega) (by omega) (by omega)) ?_ | (refine EqE.fP ?_; (conv => whnf); fail_if_success (show ag _ _)) | refine EqE.mk _ rfl ?_) | ((with_reducible refine EqE.idA ?_); first | refine EqE.mk _ (cc _) ?_ | refine EqE.mk _ (dd _ _) ?_ | refine EqE.mk _ rfl ?_) | ((with_reducible refine EqE.idR ?_); first | refine EqE.mk _ (b7 _) ?_ | refine EqE.mk _ rfl ?_) | ((with_reducible refine EqE.idL ?_); first | refine EqE.mk _ (av _ _ _ _ (by omega) (by omega) rfl) ?_ | refine EqE.mk _ (bh _ _ (by omega)) ?_ | refine EqE.mk _ (bo _ _ _ (by omega) (by omega) (by omega)) ?_ | refine EqE.mk _ rfl ?_) | refine EqE.mk _ rfl ?_ | refine Cd.ro ?_ | refine Cd.dc ?_ | refine Cd.ob ?_ | refine Cd.ol ?_ | refine Cd.mk ⟨rfl, rfl⟩ ?_ | refine Cd.mk (bc _) ?_ | refine Cd.om ?_ | refine Cd.mk ?_ ?_ | refine DsE.mk [_] rfl ?_ | refine DsE.mk [_, _, _] rfl ?_)
 show D.int _ _ = D.int _ _
 rw [← anp v h0, ← e1]
 congr 1
 by_cases hq : 10 ^ t ≤ v
 ·rw [if_pos hq, if_pos (decide_eq_true (by omega))]; omega
 ·rw [if_neg hq, if_neg (by rw [decide_eq_true_eq]; omega)]; omega
theorem getElem!_toList (d : Array UInt8) (j : Nat) (h : j < d.size) : d.toList[j]? = some d[j]! := by
 rw [Array.getElem?_toList, getElem!_pos d j h]; simp [h]
theorem amz : ∀ (n v t : Nat), (dg 10 v).length = n → t < n → (dg 10 v)[t]? = some (v / 10 ^ (n - 1 - t) % 10) := by
 intro n
 induction n with
 | zero => intro v t _ h; omega
 | succ n ih =>
  intro v t hn ht
  have h0 : v ≠ 0 := by rintro rfl; rw [en] at hn; simp at hn
  rw [fw (by omega) h0] at hn ⊢
  rw [List.length_append, List.length_singleton] at hn
  by_cases h : t = n
  ·subst h
   rw [List.getElem?_append_right (by omega), show t - (dg 10 (v / 10)).length = 0 by omega]
   simp
  ·rw [List.getElem?_append_left (by omega), ih _ _ (by omega) (by omega), Nat.div_div_eq_div_mul]
   congr 3
   rw [show n + 1 - 1 - t = (n - 1 - t) + 1 by omega, Nat.pow_succ, Nat.mul_comm]
theorem acz {v v' n : Nat} {d : Array UInt8} (hn : (dg 10 v).length = n) (h : Lib.FmtInv n v 0 v' d) : d.toList = (dg 10 v).map ch := by
 refine List.ext_getElem? fun t => ?_
 by_cases ht : t < n
 ·have h1 := h.done t (Nat.zero_le _) ht
  have h2 := h.size
  rw [getElem!_toList d t (by omega), h1, List.getElem?_map, amz n v t hn ht]
  simp only [Option.map_some, Option.some.injEq, Lib.dg]
  exact ag0 (Nat.mod_lt _ (by omega))
 ·rw [List.getElem?_eq_none (by simp [h.size]; omega), List.getElem?_eq_none (by simp; omega)]
def lb (l : List UInt8) : List A := l.map fun x => A.d (.int .u8 (x.toNat : Int))
theorem ahq {l : List UInt8} {j : Nat} (h : j < l.length) : (lb l)[j]? = some (A.d (.int .u8 ((l[j]).toNat : Int))) := by
 simp [lb, h]
theorem zy (ks : List Nat) (l : List UInt8) : A.bm ks (lb l) = true := by
 have : lb l = (l.map fun x => D.int .u8 (x.toNat : Int)).map A.d := by simp [lb]
 rw [this]; exact A.fe _ _
theorem ahd (v : Nat) (z : List UInt8) (h0 : v ≠ 0) (h : v < 18446744073709551616) (hz : (dg 10 v).length ≤ z.length) (hz2 : z.length < 1000) :
  qu Tryz.prog G0 245 [.own 1000000 0 (dg 10 v).length 1, .d (.int .u64 v)] [(1000000, false, lb z)] (.d (.tup [])) [(1000000, false, lb ((dg 10 v).map ch ++ z.drop (dg 10 v).length))] := by
 refine ⟨by kernel_rfl, rfl, fun x hx => ?_, rfl, fun x hx => ?_, fun S w β vs hrel hargs => ?_⟩
 ·simp only [List.mem_cons, List.not_mem_nil, or_false] at hx
  subst hx; exact zy _ _
 ·simp only [List.mem_cons, List.not_mem_nil, or_false] at hx
  subst hx; exact zy _ _
 obtain ⟨n, hn⟩ : ∃ n, (dg 10 v).length = n := ⟨_, rfl⟩
 have hn0 : n ≠ 0 := by
  intro e; rw [e, List.length_eq_zero_iff, o7 (by omega)] at hn; exact h0 hn
 rw [hn] at hz hargs ⊢
 simp only [ARs, AR, DR] at hargs
 obtain ⟨u1, us1, rfl, hu1, u2, us2, rfl, rfl, rfl⟩ := hargs
 obtain ⟨k, hk, c, C0, T0, fr0, rfl, hc, hC0, hlen⟩ : ∃ k, β 1000000 = some (some k) ∧ ∃ c C T fr, u1 = .slice (some ⟨k, 0, none⟩) n c ∧ n ≤ c ∧ w.heap[k]? = some (.cells C T fr) ∧ 0 + c * 1 ≤ C.size := by
  rcases hu1 with h | h
  ·exact h
  ·exact absurd h.1 hn0
 obtain ⟨C, T, hC, hCl, hCc⟩ := hrel.rd 1000000 k false (lb z) hk rfl
 rw [show (lb z).length = z.length by simp [lb]] at hCl
 have hcell : ∀ j, (hj : j < z.length) → C[j]? = some (.int .u8 ((z[j]).toNat : Int)) := by
  intro j hj
  obtain ⟨u, hu, hR⟩ := hCc j _ (ahq hj)
  simp only [AR, DR] at hR
  rw [hu, hR]
 have hd : (z.take n).toArray.size = n := by simp; omega
 have hH : Sort.Holds (fun (b : UInt8) => Value.int .u8 (b.toNat : Int)) w k 0 (z.take n).toArray := by
  intro j hj
  rw [hd] at hj
  refine ⟨?_, Lib.frozen_of_heap hC _⟩
  rw [dp hC, Nat.zero_add, hcell j (by omega)]
  congr 2
  rw [getElem!_pos _ j (by rw [hd]; exact hj)]
  simp
 have hcalls := Tryz.internal_strconv_formatBase10 k 0 c v (z.take n).toArray w hH (by
  rw [hd]
  have := vq (aen (b := 10) (by omega) v)
  rwa [aha (by omega), hn] at this) h (by rw [hd]; omega)
 rw [hd] at hcalls
 refine hcalls.mono ?_
 rintro e w' ⟨rfl, n', v', dk, rfl, hI⟩
 have hdk := acz hn hI
 have hsz : dk.size = n := hI.size
 have hw := hrel.write (w' := (Sort.putRow (fun (b : UInt8) => Value.int .u8 (b.toNat : Int)) w k 0 dk).drewN n') (l' := lb ((dg 10 v).map ch ++ z.drop n)) (C' := Sort.putCells (fun (b : UInt8) => Value.int .u8 (b.toNat : Int)) 0 dk C) hk rfl hC (by
   simp [Sort.putRow, Sort.mapBlock, Array.getElem?_modify, hC, Sort.onCells]) (by simp [Sort.putCells]) (by
   intro j hj
   simp only [World.heap_drewN, Sort.putRow, Sort.mapBlock, Array.getElem?_modify]
   rw [if_neg (fun e => hj e.symm)]) (by simp [Sort.putRow, Sort.mapBlock]) rfl rfl rfl (by
   simp only [lb, List.length_map, List.length_append, hn, List.length_drop, Sort.putCells, Array.size_mapIdx]; omega) (by
   intro j x hx
   have hj : j < ((dg 10 v).map ch ++ z.drop n).length := by
    have := (List.getElem?_eq_some_iff.1 hx).1
    simpa [lb] using this
   rw [ahq hj] at hx
   cases hx
   simp only [List.length_append, List.length_map, List.length_drop, hn] at hj
   have hj2 : j < C.size := by omega
   simp only [Sort.putCells, Array.getElem?_mapIdx]
   rw [hcell j (by omega)]
   refine ⟨_, rfl, ?_⟩
   simp only [AR, DR, Nat.zero_le, true_and, Nat.zero_add, Nat.sub_zero, hsz]
   by_cases hjn : j < n
   ·rw [if_pos hjn]
    congr 2
    have h1 := getElem!_toList dk j (by omega)
    rw [hdk] at h1
    rw [List.getElem_append_left (by simpa [hn] using hjn)]
    rw [List.getElem?_eq_getElem (by simpa [hn] using hjn)] at h1
    exact (congrArg UInt8.toNat (Option.some.inj h1)).symm
   ·rw [if_neg hjn]
    congr 2
    rw [List.getElem_append_right (by simpa [hn] using hjn)]
    simp only [List.length_map, hn, List.getElem_drop]
    congr 2; omega)
 exact ⟨_, β, S, rfl, hw.1, by simp only [AR, DR, DRs]; exact ⟨#[], rfl, rfl⟩⟩
end Go.Ev.Ar
