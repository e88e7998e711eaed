/- Contracts of the given functions, on data. Conditions stand in each theorem. -/
import Derived.Test.YtdpjainjjpjldaaGreatDoorGEvK
import Derived.Test.YtdpjainjjpjldaaGreatDoorGAsDl
set_option linter.unusedSimpArgs false
set_option linter.unusedVariables false
-- STR
namespace Go.Ev.Ar
open Go Go.Ev Go.Proofs Go.RowKit
theorem agz (w : World) (e : TypeId) (s : ByteArray) : Below w.heap.size w (Lib.bytesWorld w e s) :=
 ⟨rfl, rfl, rfl, by rw [Lib.bytesWorld_size]; omega, fun k hk => Lib.bytesWorld_at_old w e s k hk⟩
theorem puM : ∀ (l : List UInt8) (acc : Nat), (∀ x ∈ l, jy x = true) → acc * 10 ^ l.length + dv 10 (dgs l) ≤ 4294967295 → Lib.parseUintM (2 ^ 32 - 1) acc l = .ok (acc * 10 ^ l.length + dv 10 (dgs l))
 | [], acc, _, _ => by simp [Lib.parseUintM, dgs, dv]
 | c :: r, acc, h, hb => by
  have hc : 48 ≤ c.toNat ∧ c.toNat ≤ 57 := by simpa [jy] using h c (List.mem_cons_self ..)
  have e : (acc * 10 + (c.toNat - 48)) * 10 ^ r.length + dv 10 (dgs r) = acc * 10 ^ (c :: r).length + dv 10 (dgs (c :: r)) := by
   show _ = acc * 10 ^ (r.length + 1) + dv 10 ((c.toNat - 48) :: dgs r)
   rw [mw, show (dgs r).length = r.length by simp [dgs], Nat.pow_succ, Nat.add_mul, Nat.mul_comm (10 ^ r.length) 10, Nat.mul_assoc, Nat.add_assoc]
  have h1 : acc * 10 + (c.toNat - 48) ≤ (acc * 10 + (c.toNat - 48)) * 10 ^ r.length := Nat.le_mul_of_pos_right _ (Nat.pow_pos (by omega))
  rw [Lib.parseUintM, if_pos hc, if_neg (by omega), if_neg (by omega), puM r _ (fun x hx => h x (List.mem_cons_of_mem _ hx)) (by omega), e]
theorem af5 (l : List UInt8) (h0 : l ≠ []) (hd : ∀ x ∈ l, jy x = true) (hl : l.length ≤ 9) : Sim Tryz.prog G0 true 200 [.str (bst l), .int .i64 10, .int .i64 32] (.tup [.int .u64 (dv 10 (dgs l)), .raw .nilIface]) := by
 have hb : dv 10 (dgs l) < 10 ^ 9 := by
  refine Nat.lt_of_lt_of_le (vq (mu hd)) (Nat.pow_le_pow_right (by omega) ?_)
  simpa [dgs] using hl
 have h2 : Lib.parseUintB 32 (bst l).data.toList = .ok (dv 10 (dgs l)) := by
  rw [n7, Lib.parseUintB, if_neg h0, puM l 0 hd (by omega)]; simp
 refine aak (vs := [.string (bst l), .int .i64 10, .int .i64 32]) (rv := .tuple #[.int .u64 (dv 10 (dgs l) : Nat), .nilIface]) (by kernel_rfl) rfl (fun S w => ?_) fun w => ?_
 ·simp only [DR, DRs]
  exact ⟨_, rfl, _, _, rfl, rfl, _, _, rfl, rfl, rfl⟩
 ·refine (Tryz.strconv_ParseUint_10_at32_ok (bst l) (by rw [aa]; omega) _ h2 w).mono ?_
  rintro e w' ⟨rfl, rfl | rfl⟩
  ·exact ⟨rfl, Below.refl _ _⟩
  ·exact ⟨rfl, agz _ _ _⟩
theorem am6 {k : Nat} (hk : (ofN k).length < 2 ^ 30) : Sim Tryz.prog G0 false 202 [sl (ofN k), sl [1000000000]] (sl (ofN (k * 1000000000))) := by
 have e : nv [1000000000] = 1000000000 := rfl
 have h := aj7 (ofN k) [1000000000] hk (by simp)
 rw [bj, e] at h; exact h
theorem am4 {k d : Nat} (hk : (ofN k).length < 2 ^ 30) (hd : d < 4294967296) : Sim Tryz.prog G0 false 201 [sl (ofN k), sl [UInt32.ofNat d]] (sl (ofN (k + d))) := by
 have h := aji (ofN k) [UInt32.ofNat d] hk (by simp)
 have e : nv [UInt32.ofNat d] = d := by
  show (UInt32.ofNat d).toNat + 4294967296 * 0 = d
  simp only [UInt32.toNat_ofNat']; omega
 rw [bj, e] at h; exact h
theorem ans {d : Nat} (h : d < 4294967296) : D.slice 1 [D.int .u32 ((d : Nat) : Int)] = sl [UInt32.ofNat d] := by
 show _ = D.slice 1 [D.int .u32 (((UInt32.ofNat d).toNat : Nat) : Int)]
 simp only [UInt32.toNat_ofNat']
 rw [Nat.mod_eq_of_lt (by omega)]
theorem akw {d : Nat} (h : d < 4294967296) : IntKind.u32.wrap ((d : Nat) : Int) = ((d : Nat) : Int) := by rw [cl, Nat.mod_eq_of_lt h]
theorem ajn (l m : List UInt8) : dgs (l ++ m) = dgs l ++ dgs m := by simp [dgs]
theorem jq (l : List UInt8) : (dgs l).length = l.length := by simp [dgs]
theorem yv {v : Nat} {l : List Nat} (h : ∀ d ∈ l, d < 10) (hv : v ≤ dv 10 l) : (ofN v).length ≤ l.length := by
 have h1 := wk h
 rw [cz] at h1 ⊢
 omega
theorem akk {i : Nat} (h : 0 < i) (h2 : i < 1099511627776) : IntKind.i64.wrap ((i : Int) - 1) = ((i - 1 : Nat) : Int) := by rw [ah (by omega) (by omega)]; omega
theorem akr {i n : Nat} (h : i + 1 = n) (h2 : n < 1099511627776) : IntKind.i64.wrap ((i : Int) + 1) = ((n : Nat) : Int) := by rw [ah (by omega) (by omega)]; omega
theorem xk (l : List UInt8) (hl : l.length < 2 ^ 20) (hd : ∀ x ∈ l, jy x = true) : Sim Tryz.prog G0 false 130 [.str (bst l)] (sl (ofN (dv 10 (dgs l)))) := by
 have hdl := mu hd
 refine ck ax Tryz.func130 ?_
 repeat' ((conv => whnf); first | refine aw.data ?_ | refine rgE ?_ | refine Cd.mk rfl ?_ | refine Br.t ?_ | refine Br.f ?_ | with_reducible refine Br.eqd ?_ | with_reducible refine Br.eqb ?_ | with_reducible refine Br.dec (fun _ => ?_) (fun _ => ?_) | with_reducible refine Br.br (fun _ => ?_) (fun _ => ?_) | refine Br.mk (fun _ => ?_) (fun _ => ?_) | refine an.mk _ rfl ?_ | refine And.intro (fun _ => ?_) ?_ | (refine TkE.fL ?_; (conv => whnf); fail_if_success (show ag _ _)) | refine TkE.mk _ rfl rfl ?_ | refine Res.mk ?_ | refine a7.mk (by repeat first | exact True.intro | refine And.intro (by kernel_rfl) ?_) ?_ | refine DsE.mk [] rfl ?_ | refine ai.cu _ _ ?_ | ((with_reducible refine EqE.idT ?_); first | ((conv => arg 1; simp only [ak, List.toList_toArray, ao, af, aa, Int.toNat_natCast, Int.toNat_zero, Int.toNat_one, b3, b4, List.drop_zero, Nat.sub_zero, List.cons_append, List.nil_append]); refine EqE.mk _ rfl ?_) | refine EqE.mk _ rfl ?_) | ((with_reducible refine EqE.idP ?_); first | ((conv => arg 1; simp only [ak, List.toList_toArray, bx, bz]); refine EqE.mk _ rfl ?_) | refine EqE.mk _ rfl ?_) | ((with_reducible refine EqE.idN ?_); first | ((conv => arg 1; simp only [ak, List.toList_toArray, aa, ba, Int.toNat_natCast, Int.toNat_zero, Int.toNat_one, List.length_cons, List.length_nil, Nat.zero_add]); refine EqE.mk _ rfl ?_)) | ((with_reducible refine EqE.idW ?_); first | with_reducible refine EqE.mk _ (a6 _ (by omega)) ?_ | with_reducible refine EqE.mk _ (aq _ (by omega)) ?_ | refine EqE.mk _ (ah (by omega) (by omega)) ?_ | refine EqE.mk _ rfl ?_) | ((with_reducible refine EqE.idM ?_); refine EqE.mk _ rfl ?_) | ((with_reducible refine EqE.idI ?_); first | refine EqE.mk _ (max_eq _ _) ?_ | refine EqE.mk _ (min_eq _ _) ?_) | ((with_reducible refine EqE.idS ?_); first | (refine EqE.fP ?_; (conv => whnf); fail_if_success (show ag _ _)) | refine EqE.mk _ rfl ?_) | ((with_reducible refine EqE.idL ?_); first | refine EqE.mk _ (av _ _ _ _ (by omega) (by omega) rfl) ?_ | refine EqE.mk _ rfl ?_) | refine EqE.mk _ rfl ?_ | refine Cd.ro ?_ | refine Cd.dc ?_ | refine Cd.ob ?_ | refine Cd.ol ?_ | refine Cd.mk ⟨rfl, rfl⟩ ?_ | refine Cd.os ?_ | refine Cd.mk ?_ ?_ | refine DsE.mk [_] rfl ?_ | refine DsE.mk [_, _, _] rfl ?_)
 refine ⟨[], [0, 3], [], fun m xs h => ∃ (r : List UInt8) (v : Nat), m = r.length ∧ r.length ≤ l.length ∧ (∀ x ∈ r, jy x = true) ∧ dv 10 (dgs l) = v * 10 ^ r.length + dv 10 (dgs r) ∧ (v = 0 ∨ r.length % 9 = 0) ∧
   xs = [.d (.str (bst r)), .d (sl (ofN v))] ∧ h = [],
  ⟨_, _, _, ⟨.inr rfl, rfl, rfl, by first | rfl | (repeat first | exact all_nil _ | refine cb _ _ _ _ _ ?_)⟩, l, 0, rfl, Nat.le_refl _, hd, by simp, .inl rfl, by rw [cy]; rfl, rfl⟩, ?_⟩
 rintro m xs h ⟨r, v, rfl, hr, hrd, hv, h9, rfl, rfl⟩
 have hvl : v ≤ dv 10 (dgs l) := by
  have := Nat.le_mul_of_pos_right v (Nat.pow_pos (n := r.length) (show 0 < 10 by omega)); omega
 have hvo := yv hdl hvl
 rw [jq] at hvo
 by_cases h0 : r.length = 0
 ·have e : r = [] := List.length_eq_zero_iff.1 h0
  subst e
  have e2 : dv 10 (dgs l) = v := by rw [hv]; simp [dgs, dv]
  repeat' ((conv => whnf); first | refine aw.data ?_ | with_reducible refine Br.bf fun _ => ?_ | refine rgE ?_ | refine Cd.mk rfl ?_ | refine Br.t ?_ | refine Br.f ?_ | with_reducible refine Br.eqd ?_ | with_reducible refine Br.eqb ?_ | with_reducible refine Br.dec (fun _ => ?_) (fun _ => ?_) | with_reducible refine Br.br (fun _ => ?_) (fun _ => ?_) | refine Br.mk (fun _ => ?_) (fun _ => ?_) | refine an.mk _ rfl ?_ | refine And.intro (fun _ => ?_) ?_ | (refine TkE.fL ?_; (conv => whnf); fail_if_success (show ag _ _)) | refine TkE.mk _ rfl rfl ?_ | refine Res.mk ?_ | refine a7.mk (by repeat first | exact True.intro | refine And.intro (by kernel_rfl) ?_) ?_ | refine DsE.mk [] rfl ?_ | refine ai.cu _ _ ?_ | ((with_reducible refine EqE.idT ?_); first | ((conv => arg 1; simp only [ak, List.toList_toArray, ao, af, aa, Int.toNat_natCast, Int.toNat_zero, Int.toNat_one, b3, b4, List.drop_zero, Nat.sub_zero, List.cons_append, List.nil_append]); refine EqE.mk _ rfl ?_) | refine EqE.mk _ rfl ?_) | ((with_reducible refine EqE.idP ?_); first | ((conv => arg 1; simp only [ak, List.toList_toArray, bx, bz]); refine EqE.mk _ rfl ?_) | refine EqE.mk _ rfl ?_) | ((with_reducible refine EqE.idN ?_); first | ((conv => arg 1; simp only [ak, List.toList_toArray, aa, ba, Int.toNat_natCast, Int.toNat_zero, Int.toNat_one, List.length_cons, List.length_nil, Nat.zero_add]); refine EqE.mk _ rfl ?_)) | ((with_reducible refine EqE.idW ?_); first | with_reducible refine EqE.mk _ (a6 _ (by omega)) ?_ | with_reducible refine EqE.mk _ (aq _ (by omega)) ?_ | refine EqE.mk _ (ah (by omega) (by omega)) ?_ | refine EqE.mk _ rfl ?_) | ((with_reducible refine EqE.idM ?_); refine EqE.mk _ rfl ?_) | ((with_reducible refine EqE.idI ?_); first | refine EqE.mk _ (max_eq _ _) ?_ | refine EqE.mk _ (min_eq _ _) ?_) | ((with_reducible refine EqE.idS ?_); first | (refine EqE.fP ?_; (conv => whnf); fail_if_success (show ag _ _)) | refine EqE.mk _ rfl ?_) | ((with_reducible refine EqE.idL ?_); first | refine EqE.mk _ (av _ _ _ _ (by omega) (by omega) rfl) ?_ | refine EqE.mk _ rfl ?_) | refine EqE.mk _ rfl ?_ | refine Cd.ro ?_ | refine Cd.dc ?_ | refine Cd.ob ?_ | refine Cd.ol ?_ | refine Cd.mk ⟨rfl, rfl⟩ ?_ | refine Cd.os ?_ | refine Cd.mk ?_ ?_ | refine DsE.mk [_] rfl ?_ | refine DsE.mk [_, _, _] rfl ?_)
  show sl _ = sl _
  rw [e2]
 ·obtain ⟨n, hn⟩ : ∃ n, (r.length - 1) % 9 + 1 = n := ⟨_, rfl⟩
  have hn9 : n ≤ 9 ∧ n ≤ r.length ∧ 0 < n := by omega
  have hch : v = 0 ∨ (r.take n).length = 9 := by
   rw [List.length_take]; omega
  have s1 := af5 (r.take n) (by intro h; have := congrArg List.length h; simp only [List.length_take, List.length_nil] at this; omega) (fun x hx => hrd x (List.mem_of_mem_take hx)) (by rw [List.length_take]; omega)
  obtain ⟨c, hc⟩ : ∃ c, dv 10 (dgs (r.take n)) = c := ⟨_, rfl⟩
  have hcb : c < 10 ^ 9 := by
   rw [← hc]
   refine Nat.lt_of_lt_of_le (vq (mu fun x hx => hrd x (List.mem_of_mem_take hx))) (Nat.pow_le_pow_right (by omega) ?_)
   rw [jq, List.length_take]; omega
  rw [hc] at s1
  have hstep : v * 1000000000 + c = v * 10 ^ n + c := by
   have := ag9 (a := v) (c := dgs (r.take n)) (by rw [jq]; exact hch)
   rw [hc, jq, List.length_take, Nat.min_eq_left hn9.2.1] at this; exact this
  have hnew : dv 10 (dgs l) = (v * 1000000000 + c) * 10 ^ (r.drop n).length + dv 10 (dgs (r.drop n)) := by
   rw [hv, hstep]
   conv => lhs; rw [← List.take_append_drop n r, ajn, zm, hc, jq, List.length_append, List.length_take, Nat.min_eq_left hn9.2.1, Nat.pow_add, ← Nat.mul_assoc, ← Nat.add_assoc, ← Nat.add_mul]
  have hle : v * 1000000000 + c ≤ dv 10 (dgs l) := by
   have := Nat.le_mul_of_pos_right (v * 1000000000 + c) (Nat.pow_pos (n := (r.drop n).length) (show 0 < 10 by omega)); omega
  have hb1 := yv hdl (Nat.le_trans (Nat.le_add_right _ _) hle)
  rw [jq] at hb1
  repeat' ((conv => whnf); first | refine aw.data ?_ | with_reducible refine Br.bt fun _ => ?_ | refine cE s1 ?_ | refine cE ((am6 (k := v) (by omega))) ?_ | refine cE ((am4 (k := v * 1000000000) (d := c) (by omega) (by omega))) ?_ | refine DsE.mk (a8 [1000000000]) rfl ?_ | refine rgE ?_ | refine Cd.mk rfl ?_ | refine Br.t ?_ | refine Br.f ?_ | with_reducible refine Br.eqd ?_ | with_reducible refine Br.eqb ?_ | with_reducible refine Br.dec (fun _ => ?_) (fun _ => ?_) | with_reducible refine Br.br (fun _ => ?_) (fun _ => ?_) | refine Br.mk (fun _ => ?_) (fun _ => ?_) | refine an.mk _ rfl ?_ | refine And.intro (fun _ => ?_) ?_ | (refine TkE.fL ?_; (conv => whnf); fail_if_success (show ag _ _)) | refine TkE.mk _ rfl rfl ?_ | refine Res.mk ?_ | refine a7.mk (by repeat first | exact True.intro | refine And.intro (by kernel_rfl) ?_) ?_ | refine DsE.mk [] rfl ?_ | refine ai.cu _ _ ?_ | ((with_reducible refine EqE.idT ?_); first | ((conv => arg 1; simp only [ak, List.toList_toArray, ao, af, aa, Int.toNat_natCast, Int.toNat_zero, Int.toNat_one, b3, b4, List.drop_zero, Nat.sub_zero, List.cons_append, List.nil_append]); refine EqE.mk _ rfl ?_) | refine EqE.mk _ rfl ?_) | ((with_reducible refine EqE.idP ?_); first | ((conv => arg 1; simp only [ak, List.toList_toArray, bx, bz]); refine EqE.mk _ rfl ?_) | refine EqE.mk _ rfl ?_) | ((with_reducible refine EqE.idN ?_); first | ((conv => arg 1; simp only [ak, List.toList_toArray, aa, ba, Int.toNat_natCast, Int.toNat_zero, Int.toNat_one, List.length_cons, List.length_nil, Nat.zero_add]); refine EqE.mk _ rfl ?_)) | ((with_reducible refine EqE.idW ?_); first | refine EqE.mk _ (akw (d := c) (by omega)) ?_ | refine EqE.mk _ (akk (i := r.length) (by omega) (by omega)) ?_ | refine EqE.mk _ (akr hn (by omega)) ?_ | with_reducible refine EqE.mk _ (a6 _ (by omega)) ?_ | with_reducible refine EqE.mk _ (aq _ (by omega)) ?_ | refine EqE.mk _ (ah (by omega) (by omega)) ?_ | refine EqE.mk _ rfl ?_) | ((with_reducible refine EqE.idM ?_); first | refine EqE.mk _ (bn (r.length - 1) 9) ?_ | refine EqE.mk _ rfl ?_) | ((with_reducible refine EqE.idI ?_); first | refine EqE.mk _ (max_eq _ _) ?_ | refine EqE.mk _ (min_eq _ _) ?_) | ((with_reducible refine EqE.idS ?_); first | (refine EqE.fP ?_; (conv => whnf); fail_if_success (show ag _ _)) | refine EqE.mk _ rfl ?_) | ((with_reducible refine EqE.idL ?_); first | refine EqE.mk (sl [1000000000]) rfl ?_ | refine EqE.mk _ (ans (d := c) (by omega)) ?_ | refine EqE.mk _ (av _ _ _ _ (by omega) (by omega) rfl) ?_ | refine EqE.mk _ rfl ?_) | refine EqE.mk _ rfl ?_ | refine Cd.ro ?_ | refine Cd.dc ?_ | refine Cd.ob ?_ | refine Cd.ol ?_ | refine Cd.mk ⟨rfl, rfl⟩ ?_ | refine Cd.os ?_ | refine Cd.mk ?_ ?_ | refine DsE.mk [_] rfl ?_ | refine DsE.mk [_, _, _] rfl ?_)
  refine ⟨_, ⟨r.drop n, v * 1000000000 + c, rfl, by rw [List.length_drop]; omega, fun x hx => hrd x (List.mem_of_mem_drop hx), hnew, .inr ?_, rfl, rfl⟩, by rw [List.length_drop]; omega⟩
  rw [List.length_drop]; omega
end Go.Ev.Ar

-- STR
namespace Go.Ev.Ar
open Go Go.Ev Go.Proofs
theorem aaf (r : List UInt8) : prs (45 :: r) = if nd r = 0 then (0, 1, if r.length = 0 then 15 else 14) else if nth 0 r 0 = 48 then (0, 1, 14) else if 400 < nd r then (0, 401, 14) else if nd r < r.length then (0, 1 + nd r, 14) else (-(dv 10 (dgs r) : Int), r.length + 1, 0) := by
 have hf : tf (45 :: r) = 1 := rfl
 unfold prs
 simp only [hf, List.drop_succ_cons, List.drop_zero, List.length_cons]
 have h1 : (1 = r.length + 1) ↔ r.length = 0 := by omega
 have h4 : (1 + nd r < r.length + 1) ↔ nd r < r.length := by omega
 simp only [h1, h4, and_true]
 cases r with
 | nil => rfl
 | cons y r =>
  have h2 : ((y :: r).head? = some 48) ↔ nth 0 (y :: r) 0 = 48 := by simp [nth]
  simp only [h2, if_true]
  split
  ·rfl
  ·split
   ·rfl
   ·rename_i h
    rw [if_neg (fun q => h q.1)]
theorem aag {l : List UInt8} (h : l.head? ≠ some 45) : prs l = if nd l = 0 then (0, 0, if l.length = 0 then 15 else 14) else if nth 0 l 0 = 48 ∧ 1 < nd l then (0, 1, 14) else if 400 < nd l then (0, 400, 14) else if nd l < l.length then (0, nd l, 14) else ((dv 10 (dgs l) : Int), l.length, 0) := by
 have hf : tf l = 0 := by simp [tf, h]
 unfold prs
 simp only [hf, List.drop_zero, Nat.zero_add]
 have h1 : (0 = l.length) ↔ l.length = 0 := by omega
 simp only [h1]
 cases l with
 | nil => rfl
 | cons y r =>
  have h2 : ((y :: r).head? = some 48) ↔ nth 0 (y :: r) 0 = 48 := by simp [nth]
  simp only [h2]
  simp
theorem tn (l : List UInt8) : nd l ≤ l.length := (List.takeWhile_sublist _).length_le
theorem wi : ∀ {l : List UInt8}, nd l = l.length → ∀ x ∈ l, jy x = true
 | [], _, x, hx => by cases hx
 | y :: l, h, x, hx => by
  simp only [nd, List.takeWhile_cons] at h
  split at h
  ·rename_i hy
   simp only [List.length_cons, Nat.add_right_cancel_iff] at h
   rcases List.mem_cons.1 hx with rfl | hx
   ·exact hy
   ·exact wi h x hx
  ·simp at h
theorem aa1 {l : List UInt8} (h : ∀ x ∈ l, jy x = true) : core l = l := by
 simp only [core, List.filter_eq_self, bne_iff_ne]
 intro x hx h45
 have := h x hx
 subst h45; revert this; decide
theorem aez {y : UInt8} {r : List UInt8} (h : nd (y :: r) ≠ 0) : jy y = true := by
 simp only [nd, List.takeWhile_cons] at h
 split at h
 ·assumption
 ·simp at h
theorem aje : zD 0 = D.agg [.bool false, .slice 0 []] := by
 show D.agg [.bool (gy 0), sl (ofN 0)] = _
 rw [cy]; rfl
def pD (p : Int × Nat × Nat) : D := .tup [zD p.1, .int .i64 (p.2.1 : Nat), .int .i64 (p.2.2 : Nat)]
theorem fg {k c : Nat} : pD (0, k, c) = .tup [.agg [.bool false, .slice 0 []], .int .i64 (k : Int), .int .i64 (c : Int)] := by
 unfold pD; rw [aje]
theorem jd {x y : D} {a b c d : Int} (h1 : x = y) (h2 : a = b) (h3 : c = d) : D.tup [x, .int .i64 a, .int .i64 c] = .tup [y, .int .i64 b, .int .i64 d] := by rw [h1, h2, h3]
theorem al0 {l : List UInt8} {x : UInt8} (h3 : ¬ (nth 0 l 0 = 48 ∧ 1 < nd l)) (hx : nth 0 l 0 = x) : ((x.toNat : Nat) : Int) ≠ 48 ∨ nd l ≤ 1 := by
 by_cases q : ((x.toNat : Nat) : Int) = 48
 ·have : ¬ (1 < nd l) := fun g => h3 ⟨hx.trans (n48.1 q), g⟩
  exact .inr (by omega)
 ·exact .inl q
set_option maxHeartbeats 2000000 in
theorem ad2 (l : List UInt8) (hl : l.length < 2 ^ 20) : Sim Tryz.prog G0 false 16 [.str (bst l)] (pD (prs l)) := by
 by_cases hf : l.head? = some 45
 ·obtain ⟨r, rfl⟩ : ∃ r, l = 45 :: r := by
   cases l with
   | nil => simp at hf
   | cons y r => simp at hf; exact ⟨r, by rw [hf]⟩
  have hlen : (45 :: r : List UInt8).length = r.length + 1 := rfl
  have s1 := vn r (by omega)
  have hn := tn r
  have hp := aaf r
  obtain ⟨p, hpp⟩ : ∃ p, prs (45 :: r) = p := ⟨_, rfl⟩
  rw [hpp] at hp ⊢
  obtain ⟨x, hx⟩ : ∃ x, nth 0 r 0 = x := ⟨_, rfl⟩
  have hx' : nth 0 (45 :: r) 1 = x := hx
  by_cases h1 : nd r = 0
  ·rw [if_pos h1] at hp
   by_cases h2 : r.length = 0
   ·rw [if_pos h2] at hp
    refine ck ax Tryz.func16 ?_
    repeat' ((conv => whnf); first | refine aw.data ?_ | with_reducible refine Br.bt fun _ => ?_ | with_reducible refine Br.bf fun _ => ?_ | refine cE s1 ?_ | refine rgE ?_ | refine Cd.mk rfl ?_ | refine Br.t ?_ | refine Br.f ?_ | with_reducible refine Br.eqd ?_ | with_reducible refine Br.eqb ?_ | with_reducible refine Br.dec (fun _ => ?_) (fun _ => ?_) | with_reducible refine Br.br (fun _ => ?_) (fun _ => ?_) | refine Br.mk (fun _ => ?_) (fun _ => ?_) | refine an.mk _ rfl ?_ | refine And.intro (fun _ => ?_) ?_ | (refine TkE.fL ?_; (conv => whnf); fail_if_success (show ag _ _)) | refine TkE.mk _ rfl rfl ?_ | refine Res.mk ?_ | refine a7.mk (by repeat first | exact True.intro | refine And.intro (by kernel_rfl) ?_) ?_ | refine DsE.mk [] rfl ?_ | refine ai.cu _ _ ?_ | ((with_reducible refine EqE.idT ?_); first | ((conv => arg 1; simp only [ak, List.toList_toArray, ao, af, aa, Int.toNat_natCast, Int.toNat_zero, Int.toNat_one, b3, b4, List.drop_zero, Nat.sub_zero, List.cons_append, List.nil_append]); refine EqE.mk _ rfl ?_) | refine EqE.mk _ rfl ?_) | ((with_reducible refine EqE.idP ?_); first | ((conv => arg 1; simp only [ak, List.toList_toArray, bx, bz]); refine EqE.mk _ rfl ?_) | refine EqE.mk _ rfl ?_) | ((with_reducible refine EqE.idN ?_); first | refine EqE.mk _ (ixx hx') ?_ | refine EqE.mk _ (nx hx') ?_ | refine EqE.mk _ (ixx (i := 1) hx') ?_ | ((conv => arg 1; simp only [ak, List.toList_toArray, aa, ba, Int.toNat_natCast, Int.toNat_zero, Int.toNat_one, List.length_cons, List.length_nil, Nat.zero_add]); refine EqE.mk _ rfl ?_)) | ((with_reducible refine EqE.idW ?_); first | with_reducible refine EqE.mk _ (a6 _ (by omega)) ?_ | with_reducible refine EqE.mk _ (aq _ (by omega)) ?_ | refine EqE.mk _ (ah (by omega) (by omega)) ?_ | refine EqE.mk _ rfl ?_) | ((with_reducible refine EqE.idM ?_); refine EqE.mk _ rfl ?_) | ((with_reducible refine EqE.idI ?_); first | refine EqE.mk _ (max_eq _ _) ?_ | refine EqE.mk _ (min_eq _ _) ?_) | ((with_reducible refine EqE.idS ?_); first | (refine EqE.fP ?_; (conv => whnf); fail_if_success (show ag _ _)) | refine EqE.mk _ rfl ?_) | ((with_reducible refine EqE.idL ?_); first | refine EqE.mk _ (av _ _ _ _ (by omega) (by omega) rfl) ?_ | refine EqE.mk _ rfl ?_) | refine EqE.mk _ rfl ?_ | refine Cd.ro ?_ | refine Cd.dc ?_ | refine Cd.ob ?_ | refine Cd.ol ?_ | refine Cd.mk ⟨rfl, rfl⟩ ?_ | refine Cd.os ?_ | refine Cd.mk ?_ ?_ | refine DsE.mk [_] rfl ?_ | refine DsE.mk [_, _, _] rfl ?_)
    all_goals exact (hp ▸ fg).trans (jd rfl (by omega) rfl)
   ·rw [if_neg h2] at hp
    refine ck ax Tryz.func16 ?_
    repeat' ((conv => whnf); first | refine aw.data ?_ | with_reducible refine Br.bt fun _ => ?_ | with_reducible refine Br.bf fun _ => ?_ | refine cE s1 ?_ | refine rgE ?_ | refine Cd.mk rfl ?_ | refine Br.t ?_ | refine Br.f ?_ | with_reducible refine Br.eqd ?_ | with_reducible refine Br.eqb ?_ | with_reducible refine Br.dec (fun _ => ?_) (fun _ => ?_) | with_reducible refine Br.br (fun _ => ?_) (fun _ => ?_) | refine Br.mk (fun _ => ?_) (fun _ => ?_) | refine an.mk _ rfl ?_ | refine And.intro (fun _ => ?_) ?_ | (refine TkE.fL ?_; (conv => whnf); fail_if_success (show ag _ _)) | refine TkE.mk _ rfl rfl ?_ | refine Res.mk ?_ | refine a7.mk (by repeat first | exact True.intro | refine And.intro (by kernel_rfl) ?_) ?_ | refine DsE.mk [] rfl ?_ | refine ai.cu _ _ ?_ | ((with_reducible refine EqE.idT ?_); first | ((conv => arg 1; simp only [ak, List.toList_toArray, ao, af, aa, Int.toNat_natCast, Int.toNat_zero, Int.toNat_one, b3, b4, List.drop_zero, Nat.sub_zero, List.cons_append, List.nil_append]); refine EqE.mk _ rfl ?_) | refine EqE.mk _ rfl ?_) | ((with_reducible refine EqE.idP ?_); first | ((conv => arg 1; simp only [ak, List.toList_toArray, bx, bz]); refine EqE.mk _ rfl ?_) | refine EqE.mk _ rfl ?_) | ((with_reducible refine EqE.idN ?_); first | refine EqE.mk _ (ixx hx') ?_ | refine EqE.mk _ (nx hx') ?_ | refine EqE.mk _ (ixx (i := 1) hx') ?_ | ((conv => arg 1; simp only [ak, List.toList_toArray, aa, ba, Int.toNat_natCast, Int.toNat_zero, Int.toNat_one, List.length_cons, List.length_nil, Nat.zero_add]); refine EqE.mk _ rfl ?_)) | ((with_reducible refine EqE.idW ?_); first | with_reducible refine EqE.mk _ (a6 _ (by omega)) ?_ | with_reducible refine EqE.mk _ (aq _ (by omega)) ?_ | refine EqE.mk _ (ah (by omega) (by omega)) ?_ | refine EqE.mk _ rfl ?_) | ((with_reducible refine EqE.idM ?_); refine EqE.mk _ rfl ?_) | ((with_reducible refine EqE.idI ?_); first | refine EqE.mk _ (max_eq _ _) ?_ | refine EqE.mk _ (min_eq _ _) ?_) | ((with_reducible refine EqE.idS ?_); first | (refine EqE.fP ?_; (conv => whnf); fail_if_success (show ag _ _)) | refine EqE.mk _ rfl ?_) | ((with_reducible refine EqE.idL ?_); first | refine EqE.mk _ (av _ _ _ _ (by omega) (by omega) rfl) ?_ | refine EqE.mk _ rfl ?_) | refine EqE.mk _ rfl ?_ | refine Cd.ro ?_ | refine Cd.dc ?_ | refine Cd.ob ?_ | refine Cd.ol ?_ | refine Cd.mk ⟨rfl, rfl⟩ ?_ | refine Cd.os ?_ | refine Cd.mk ?_ ?_ | refine DsE.mk [_] rfl ?_ | refine DsE.mk [_, _, _] rfl ?_)
    all_goals exact (hp ▸ fg).trans (jd rfl (by omega) rfl)
  ·rw [if_neg h1] at hp
   by_cases h3 : nth 0 r 0 = 48
   ·rw [if_pos h3] at hp
    have h3' := n48.2 (hx ▸ h3)
    refine ck ax Tryz.func16 ?_
    repeat' ((conv => whnf); first | refine aw.data ?_ | with_reducible refine Br.bt fun _ => ?_ | with_reducible refine Br.bf fun _ => ?_ | refine cE s1 ?_ | refine rgE ?_ | refine Cd.mk rfl ?_ | refine Br.t ?_ | refine Br.f ?_ | with_reducible refine Br.eqd ?_ | with_reducible refine Br.eqb ?_ | with_reducible refine Br.dec (fun _ => ?_) (fun _ => ?_) | with_reducible refine Br.br (fun _ => ?_) (fun _ => ?_) | refine Br.mk (fun _ => ?_) (fun _ => ?_) | refine an.mk _ rfl ?_ | refine And.intro (fun _ => ?_) ?_ | (refine TkE.fL ?_; (conv => whnf); fail_if_success (show ag _ _)) | refine TkE.mk _ rfl rfl ?_ | refine Res.mk ?_ | refine a7.mk (by repeat first | exact True.intro | refine And.intro (by kernel_rfl) ?_) ?_ | refine DsE.mk [] rfl ?_ | refine ai.cu _ _ ?_ | ((with_reducible refine EqE.idT ?_); first | ((conv => arg 1; simp only [ak, List.toList_toArray, ao, af, aa, Int.toNat_natCast, Int.toNat_zero, Int.toNat_one, b3, b4, List.drop_zero, Nat.sub_zero, List.cons_append, List.nil_append]); refine EqE.mk _ rfl ?_) | refine EqE.mk _ rfl ?_) | ((with_reducible refine EqE.idP ?_); first | ((conv => arg 1; simp only [ak, List.toList_toArray, bx, bz]); refine EqE.mk _ rfl ?_) | refine EqE.mk _ rfl ?_) | ((with_reducible refine EqE.idN ?_); first | refine EqE.mk _ (ixx hx') ?_ | refine EqE.mk _ (nx hx') ?_ | refine EqE.mk _ (ixx (i := 1) hx') ?_ | ((conv => arg 1; simp only [ak, List.toList_toArray, aa, ba, Int.toNat_natCast, Int.toNat_zero, Int.toNat_one, List.length_cons, List.length_nil, Nat.zero_add]); refine EqE.mk _ rfl ?_)) | ((with_reducible refine EqE.idW ?_); first | with_reducible refine EqE.mk _ (a6 _ (by omega)) ?_ | with_reducible refine EqE.mk _ (aq _ (by omega)) ?_ | refine EqE.mk _ (ah (by omega) (by omega)) ?_ | refine EqE.mk _ rfl ?_) | ((with_reducible refine EqE.idM ?_); refine EqE.mk _ rfl ?_) | ((with_reducible refine EqE.idI ?_); first | refine EqE.mk _ (max_eq _ _) ?_ | refine EqE.mk _ (min_eq _ _) ?_) | ((with_reducible refine EqE.idS ?_); first | (refine EqE.fP ?_; (conv => whnf); fail_if_success (show ag _ _)) | refine EqE.mk _ rfl ?_) | ((with_reducible refine EqE.idL ?_); first | refine EqE.mk _ (av _ _ _ _ (by omega) (by omega) rfl) ?_ | refine EqE.mk _ rfl ?_) | refine EqE.mk _ rfl ?_ | refine Cd.ro ?_ | refine Cd.dc ?_ | refine Cd.ob ?_ | refine Cd.ol ?_ | refine Cd.mk ⟨rfl, rfl⟩ ?_ | refine Cd.os ?_ | refine Cd.mk ?_ ?_ | refine DsE.mk [_] rfl ?_ | refine DsE.mk [_, _, _] rfl ?_)
    all_goals exact (hp ▸ fg).trans (jd rfl (by omega) rfl)
   ·rw [if_neg h3] at hp
    by_cases h4 : 400 < nd r
    ·rw [if_pos h4] at hp
     have h3' := fun h => h3 (hx.trans (n48.1 h))
     refine ck ax Tryz.func16 ?_
     repeat' ((conv => whnf); first | refine aw.data ?_ | with_reducible refine Br.bt fun _ => ?_ | with_reducible refine Br.bf fun _ => ?_ | refine cE s1 ?_ | refine rgE ?_ | refine Cd.mk rfl ?_ | refine Br.t ?_ | refine Br.f ?_ | with_reducible refine Br.eqd ?_ | with_reducible refine Br.eqb ?_ | with_reducible refine Br.dec (fun _ => ?_) (fun _ => ?_) | with_reducible refine Br.br (fun _ => ?_) (fun _ => ?_) | refine Br.mk (fun _ => ?_) (fun _ => ?_) | refine an.mk _ rfl ?_ | refine And.intro (fun _ => ?_) ?_ | (refine TkE.fL ?_; (conv => whnf); fail_if_success (show ag _ _)) | refine TkE.mk _ rfl rfl ?_ | refine Res.mk ?_ | refine a7.mk (by repeat first | exact True.intro | refine And.intro (by kernel_rfl) ?_) ?_ | refine DsE.mk [] rfl ?_ | refine ai.cu _ _ ?_ | ((with_reducible refine EqE.idT ?_); first | ((conv => arg 1; simp only [ak, List.toList_toArray, ao, af, aa, Int.toNat_natCast, Int.toNat_zero, Int.toNat_one, b3, b4, List.drop_zero, Nat.sub_zero, List.cons_append, List.nil_append]); refine EqE.mk _ rfl ?_) | refine EqE.mk _ rfl ?_) | ((with_reducible refine EqE.idP ?_); first | ((conv => arg 1; simp only [ak, List.toList_toArray, bx, bz]); refine EqE.mk _ rfl ?_) | refine EqE.mk _ rfl ?_) | ((with_reducible refine EqE.idN ?_); first | refine EqE.mk _ (ixx hx') ?_ | refine EqE.mk _ (nx hx') ?_ | refine EqE.mk _ (ixx (i := 1) hx') ?_ | ((conv => arg 1; simp only [ak, List.toList_toArray, aa, ba, Int.toNat_natCast, Int.toNat_zero, Int.toNat_one, List.length_cons, List.length_nil, Nat.zero_add]); refine EqE.mk _ rfl ?_)) | ((with_reducible refine EqE.idW ?_); first | with_reducible refine EqE.mk _ (a6 _ (by omega)) ?_ | with_reducible refine EqE.mk _ (aq _ (by omega)) ?_ | refine EqE.mk _ (ah (by omega) (by omega)) ?_ | refine EqE.mk _ rfl ?_) | ((with_reducible refine EqE.idM ?_); refine EqE.mk _ rfl ?_) | ((with_reducible refine EqE.idI ?_); first | refine EqE.mk _ (max_eq _ _) ?_ | refine EqE.mk _ (min_eq _ _) ?_) | ((with_reducible refine EqE.idS ?_); first | (refine EqE.fP ?_; (conv => whnf); fail_if_success (show ag _ _)) | refine EqE.mk _ rfl ?_) | ((with_reducible refine EqE.idL ?_); first | refine EqE.mk _ (av _ _ _ _ (by omega) (by omega) rfl) ?_ | refine EqE.mk _ rfl ?_) | refine EqE.mk _ rfl ?_ | refine Cd.ro ?_ | refine Cd.dc ?_ | refine Cd.ob ?_ | refine Cd.ol ?_ | refine Cd.mk ⟨rfl, rfl⟩ ?_ | refine Cd.os ?_ | refine Cd.mk ?_ ?_ | refine DsE.mk [_] rfl ?_ | refine DsE.mk [_, _, _] rfl ?_)
     all_goals exact (hp ▸ fg).trans (jd rfl (by omega) rfl)
    ·rw [if_neg h4] at hp
     by_cases h5 : nd r < r.length
     ·rw [if_pos h5] at hp
      have h3' := fun h => h3 (hx.trans (n48.1 h))
      refine ck ax Tryz.func16 ?_
      repeat' ((conv => whnf); first | refine aw.data ?_ | with_reducible refine Br.bt fun _ => ?_ | with_reducible refine Br.bf fun _ => ?_ | refine cE s1 ?_ | refine rgE ?_ | refine Cd.mk rfl ?_ | refine Br.t ?_ | refine Br.f ?_ | with_reducible refine Br.eqd ?_ | with_reducible refine Br.eqb ?_ | with_reducible refine Br.dec (fun _ => ?_) (fun _ => ?_) | with_reducible refine Br.br (fun _ => ?_) (fun _ => ?_) | refine Br.mk (fun _ => ?_) (fun _ => ?_) | refine an.mk _ rfl ?_ | refine And.intro (fun _ => ?_) ?_ | (refine TkE.fL ?_; (conv => whnf); fail_if_success (show ag _ _)) | refine TkE.mk _ rfl rfl ?_ | refine Res.mk ?_ | refine a7.mk (by repeat first | exact True.intro | refine And.intro (by kernel_rfl) ?_) ?_ | refine DsE.mk [] rfl ?_ | refine ai.cu _ _ ?_ | ((with_reducible refine EqE.idT ?_); first | ((conv => arg 1; simp only [ak, List.toList_toArray, ao, af, aa, Int.toNat_natCast, Int.toNat_zero, Int.toNat_one, b3, b4, List.drop_zero, Nat.sub_zero, List.cons_append, List.nil_append]); refine EqE.mk _ rfl ?_) | refine EqE.mk _ rfl ?_) | ((with_reducible refine EqE.idP ?_); first | ((conv => arg 1; simp only [ak, List.toList_toArray, bx, bz]); refine EqE.mk _ rfl ?_) | refine EqE.mk _ rfl ?_) | ((with_reducible refine EqE.idN ?_); first | refine EqE.mk _ (ixx hx') ?_ | refine EqE.mk _ (nx hx') ?_ | refine EqE.mk _ (ixx (i := 1) hx') ?_ | ((conv => arg 1; simp only [ak, List.toList_toArray, aa, ba, Int.toNat_natCast, Int.toNat_zero, Int.toNat_one, List.length_cons, List.length_nil, Nat.zero_add]); refine EqE.mk _ rfl ?_)) | ((with_reducible refine EqE.idW ?_); first | with_reducible refine EqE.mk _ (a6 _ (by omega)) ?_ | with_reducible refine EqE.mk _ (aq _ (by omega)) ?_ | refine EqE.mk _ (ah (by omega) (by omega)) ?_ | refine EqE.mk _ rfl ?_) | ((with_reducible refine EqE.idM ?_); refine EqE.mk _ rfl ?_) | ((with_reducible refine EqE.idI ?_); first | refine EqE.mk _ (max_eq _ _) ?_ | refine EqE.mk _ (min_eq _ _) ?_) | ((with_reducible refine EqE.idS ?_); first | (refine EqE.fP ?_; (conv => whnf); fail_if_success (show ag _ _)) | refine EqE.mk _ rfl ?_) | ((with_reducible refine EqE.idL ?_); first | refine EqE.mk _ (av _ _ _ _ (by omega) (by omega) rfl) ?_ | refine EqE.mk _ rfl ?_) | refine EqE.mk _ rfl ?_ | refine Cd.ro ?_ | refine Cd.dc ?_ | refine Cd.ob ?_ | refine Cd.ol ?_ | refine Cd.mk ⟨rfl, rfl⟩ ?_ | refine Cd.os ?_ | refine Cd.mk ?_ ?_ | refine DsE.mk [_] rfl ?_ | refine DsE.mk [_, _, _] rfl ?_)
      all_goals exact (hp ▸ fg).trans (jd rfl (by omega) rfl)
     ·rw [if_neg h5] at hp
      have h3' := fun h => h3 (hx.trans (n48.1 h))
      have hall := wi (l := r) (by omega)
      have s2 := xc (45 :: r) hl (by intro z hz; rcases List.mem_cons.1 hz with rfl | hz; exact .inl rfl; exact .inr (hall z hz))
      have hc : core (45 :: r) = r := (show core (45 :: r) = core r from rfl).trans (aa1 hall)
      rw [hc] at s2
      refine ck ax Tryz.func16 ?_
      repeat' ((conv => whnf); first | refine aw.data ?_ | with_reducible refine Br.bt fun _ => ?_ | with_reducible refine Br.bf fun _ => ?_ | refine cE s1 ?_ | refine cE s2 ?_ | refine rgE ?_ | refine Cd.mk rfl ?_ | refine Br.t ?_ | refine Br.f ?_ | with_reducible refine Br.eqd ?_ | with_reducible refine Br.eqb ?_ | with_reducible refine Br.dec (fun _ => ?_) (fun _ => ?_) | with_reducible refine Br.br (fun _ => ?_) (fun _ => ?_) | refine Br.mk (fun _ => ?_) (fun _ => ?_) | refine an.mk _ rfl ?_ | refine And.intro (fun _ => ?_) ?_ | (refine TkE.fL ?_; (conv => whnf); fail_if_success (show ag _ _)) | refine TkE.mk _ rfl rfl ?_ | refine Res.mk ?_ | refine a7.mk (by repeat first | exact True.intro | refine And.intro (by kernel_rfl) ?_) ?_ | refine DsE.mk [] rfl ?_ | refine ai.cu _ _ ?_ | ((with_reducible refine EqE.idT ?_); first | ((conv => arg 1; simp only [ak, List.toList_toArray, ao, af, aa, Int.toNat_natCast, Int.toNat_zero, Int.toNat_one, b3, b4, List.drop_zero, Nat.sub_zero, List.cons_append, List.nil_append]); refine EqE.mk _ rfl ?_) | refine EqE.mk _ rfl ?_) | ((with_reducible refine EqE.idP ?_); first | ((conv => arg 1; simp only [ak, List.toList_toArray, bx, bz]); refine EqE.mk _ rfl ?_) | refine EqE.mk _ rfl ?_) | ((with_reducible refine EqE.idN ?_); first | refine EqE.mk _ (ixx hx') ?_ | refine EqE.mk _ (ixx (i := 1) hx') ?_ | ((conv => arg 1; simp only [ak, List.toList_toArray, aa, ba, Int.toNat_natCast, Int.toNat_zero, Int.toNat_one, List.length_cons, List.length_nil, Nat.zero_add]); refine EqE.mk _ rfl ?_)) | ((with_reducible refine EqE.idW ?_); first | with_reducible refine EqE.mk _ (a6 _ (by omega)) ?_ | with_reducible refine EqE.mk _ (aq _ (by omega)) ?_ | refine EqE.mk _ (ah (by omega) (by omega)) ?_ | refine EqE.mk _ rfl ?_) | ((with_reducible refine EqE.idM ?_); refine EqE.mk _ rfl ?_) | ((with_reducible refine EqE.idI ?_); first | refine EqE.mk _ (max_eq _ _) ?_ | refine EqE.mk _ (min_eq _ _) ?_) | ((with_reducible refine EqE.idS ?_); first | (refine EqE.fP ?_; (conv => whnf); fail_if_success (show ag _ _)) | refine EqE.mk _ rfl ?_) | ((with_reducible refine EqE.idL ?_); first | refine EqE.mk _ (av _ _ _ _ (by omega) (by omega) rfl) ?_ | refine EqE.mk _ rfl ?_) | refine EqE.mk _ rfl ?_ | refine Cd.ro ?_ | refine Cd.dc ?_ | refine Cd.ob ?_ | refine Cd.ol ?_ | refine Cd.mk ⟨rfl, rfl⟩ ?_ | refine Cd.os ?_ | refine Cd.mk ?_ ?_ | refine DsE.mk [_] rfl ?_ | refine DsE.mk [_, _, _] rfl ?_)
      rw [hp]
      exact jd (by show zD _ = zD _; simp [zv]) (by show ((r.length + 1 : Nat) : Int) = _; omega) rfl
 ·have s1 := vn l (by omega)
  have hn := tn l
  have hp := aag hf
  obtain ⟨p, hpp⟩ : ∃ p, prs l = p := ⟨_, rfl⟩
  rw [hpp] at hp ⊢
  obtain ⟨x, hx⟩ : ∃ x, nth 0 l 0 = x := ⟨_, rfl⟩
  have hx' := hx
  have hy : l.length ≠ 0 → ((x.toNat : Nat) : Int) ≠ 45 := by
   intro h0 h
   cases l with
   | nil => exact h0 rfl
   | cons y r => exact hf (by rw [List.head?_cons, ← n45.1 h, ← hx]; rfl)
  by_cases h1 : nd l = 0
  ·rw [if_pos h1] at hp
   by_cases h2 : l.length = 0
   ·rw [if_pos h2] at hp
    refine ck ax Tryz.func16 ?_
    repeat' ((conv => whnf); first | refine aw.data ?_ | with_reducible refine Br.bt fun _ => ?_ | with_reducible refine Br.bf fun _ => ?_ | refine cE s1 ?_ | refine rgE ?_ | refine Cd.mk rfl ?_ | refine Br.t ?_ | refine Br.f ?_ | with_reducible refine Br.eqd ?_ | with_reducible refine Br.eqb ?_ | with_reducible refine Br.dec (fun _ => ?_) (fun _ => ?_) | with_reducible refine Br.br (fun _ => ?_) (fun _ => ?_) | refine Br.mk (fun _ => ?_) (fun _ => ?_) | refine an.mk _ rfl ?_ | refine And.intro (fun _ => ?_) ?_ | (refine TkE.fL ?_; (conv => whnf); fail_if_success (show ag _ _)) | refine TkE.mk _ rfl rfl ?_ | refine Res.mk ?_ | refine a7.mk (by repeat first | exact True.intro | refine And.intro (by kernel_rfl) ?_) ?_ | refine DsE.mk [] rfl ?_ | refine ai.cu _ _ ?_ | ((with_reducible refine EqE.idT ?_); first | ((conv => arg 1; simp only [ak, List.toList_toArray, ao, af, aa, Int.toNat_natCast, Int.toNat_zero, Int.toNat_one, b3, b4, List.drop_zero, Nat.sub_zero, List.cons_append, List.nil_append]); refine EqE.mk _ rfl ?_) | refine EqE.mk _ rfl ?_) | ((with_reducible refine EqE.idP ?_); first | ((conv => arg 1; simp only [ak, List.toList_toArray, bx, bz]); refine EqE.mk _ rfl ?_) | refine EqE.mk _ rfl ?_) | ((with_reducible refine EqE.idN ?_); first | refine EqE.mk _ (ixx hx') ?_ | refine EqE.mk _ (nx hx') ?_ | refine EqE.mk _ (ixx (i := 1) hx') ?_ | ((conv => arg 1; simp only [ak, List.toList_toArray, aa, ba, Int.toNat_natCast, Int.toNat_zero, Int.toNat_one, List.length_cons, List.length_nil, Nat.zero_add]); refine EqE.mk _ rfl ?_)) | ((with_reducible refine EqE.idW ?_); first | with_reducible refine EqE.mk _ (a6 _ (by omega)) ?_ | with_reducible refine EqE.mk _ (aq _ (by omega)) ?_ | refine EqE.mk _ (ah (by omega) (by omega)) ?_ | refine EqE.mk _ rfl ?_) | ((with_reducible refine EqE.idM ?_); refine EqE.mk _ rfl ?_) | ((with_reducible refine EqE.idI ?_); first | refine EqE.mk _ (max_eq _ _) ?_ | refine EqE.mk _ (min_eq _ _) ?_) | ((with_reducible refine EqE.idS ?_); first | (refine EqE.fP ?_; (conv => whnf); fail_if_success (show ag _ _)) | refine EqE.mk _ rfl ?_) | ((with_reducible refine EqE.idL ?_); first | refine EqE.mk _ (av _ _ _ _ (by omega) (by omega) rfl) ?_ | refine EqE.mk _ rfl ?_) | refine EqE.mk _ rfl ?_ | refine Cd.ro ?_ | refine Cd.dc ?_ | refine Cd.ob ?_ | refine Cd.ol ?_ | refine Cd.mk ⟨rfl, rfl⟩ ?_ | refine Cd.os ?_ | refine Cd.mk ?_ ?_ | refine DsE.mk [_] rfl ?_ | refine DsE.mk [_, _, _] rfl ?_)
    all_goals exact (hp ▸ fg).trans (jd rfl (by omega) rfl)
   ·rw [if_neg h2] at hp
    refine ck ax Tryz.func16 ?_
    repeat' ((conv => whnf); first | refine aw.data ?_ | with_reducible refine Br.bt fun _ => ?_ | with_reducible refine Br.bf fun _ => ?_ | refine cE s1 ?_ | refine rgE ?_ | refine Cd.mk rfl ?_ | refine Br.t ?_ | refine Br.f ?_ | with_reducible refine Br.eqd ?_ | with_reducible refine Br.eqb ?_ | with_reducible refine Br.dec (fun _ => ?_) (fun _ => ?_) | with_reducible refine Br.br (fun _ => ?_) (fun _ => ?_) | refine Br.mk (fun _ => ?_) (fun _ => ?_) | refine an.mk _ rfl ?_ | refine And.intro (fun _ => ?_) ?_ | (refine TkE.fL ?_; (conv => whnf); fail_if_success (show ag _ _)) | refine TkE.mk _ rfl rfl ?_ | refine Res.mk ?_ | refine a7.mk (by repeat first | exact True.intro | refine And.intro (by kernel_rfl) ?_) ?_ | refine DsE.mk [] rfl ?_ | refine ai.cu _ _ ?_ | ((with_reducible refine EqE.idT ?_); first | ((conv => arg 1; simp only [ak, List.toList_toArray, ao, af, aa, Int.toNat_natCast, Int.toNat_zero, Int.toNat_one, b3, b4, List.drop_zero, Nat.sub_zero, List.cons_append, List.nil_append]); refine EqE.mk _ rfl ?_) | refine EqE.mk _ rfl ?_) | ((with_reducible refine EqE.idP ?_); first | ((conv => arg 1; simp only [ak, List.toList_toArray, bx, bz]); refine EqE.mk _ rfl ?_) | refine EqE.mk _ rfl ?_) | ((with_reducible refine EqE.idN ?_); first | refine EqE.mk _ (ixx hx') ?_ | refine EqE.mk _ (nx hx') ?_ | refine EqE.mk _ (ixx (i := 1) hx') ?_ | ((conv => arg 1; simp only [ak, List.toList_toArray, aa, ba, Int.toNat_natCast, Int.toNat_zero, Int.toNat_one, List.length_cons, List.length_nil, Nat.zero_add]); refine EqE.mk _ rfl ?_)) | ((with_reducible refine EqE.idW ?_); first | with_reducible refine EqE.mk _ (a6 _ (by omega)) ?_ | with_reducible refine EqE.mk _ (aq _ (by omega)) ?_ | refine EqE.mk _ (ah (by omega) (by omega)) ?_ | refine EqE.mk _ rfl ?_) | ((with_reducible refine EqE.idM ?_); refine EqE.mk _ rfl ?_) | ((with_reducible refine EqE.idI ?_); first | refine EqE.mk _ (max_eq _ _) ?_ | refine EqE.mk _ (min_eq _ _) ?_) | ((with_reducible refine EqE.idS ?_); first | (refine EqE.fP ?_; (conv => whnf); fail_if_success (show ag _ _)) | refine EqE.mk _ rfl ?_) | ((with_reducible refine EqE.idL ?_); first | refine EqE.mk _ (av _ _ _ _ (by omega) (by omega) rfl) ?_ | refine EqE.mk _ rfl ?_) | refine EqE.mk _ rfl ?_ | refine Cd.ro ?_ | refine Cd.dc ?_ | refine Cd.ob ?_ | refine Cd.ol ?_ | refine Cd.mk ⟨rfl, rfl⟩ ?_ | refine Cd.os ?_ | refine Cd.mk ?_ ?_ | refine DsE.mk [_] rfl ?_ | refine DsE.mk [_, _, _] rfl ?_)
    all_goals exact (hp ▸ fg).trans (jd rfl (by omega) rfl)
  ·rw [if_neg h1] at hp
   by_cases h3 : nth 0 l 0 = 48 ∧ 1 < nd l
   ·rw [if_pos h3] at hp
    have h3' := n48.2 (hx ▸ h3.1)
    have h3'' := h3.2
    refine ck ax Tryz.func16 ?_
    repeat' ((conv => whnf); first | refine aw.data ?_ | with_reducible refine Br.bt fun _ => ?_ | with_reducible refine Br.bf fun _ => ?_ | refine cE s1 ?_ | refine rgE ?_ | refine Cd.mk rfl ?_ | refine Br.t ?_ | refine Br.f ?_ | with_reducible refine Br.eqd ?_ | with_reducible refine Br.eqb ?_ | with_reducible refine Br.dec (fun _ => ?_) (fun _ => ?_) | with_reducible refine Br.br (fun _ => ?_) (fun _ => ?_) | refine Br.mk (fun _ => ?_) (fun _ => ?_) | refine an.mk _ rfl ?_ | refine And.intro (fun _ => ?_) ?_ | (refine TkE.fL ?_; (conv => whnf); fail_if_success (show ag _ _)) | refine TkE.mk _ rfl rfl ?_ | refine Res.mk ?_ | refine a7.mk (by repeat first | exact True.intro | refine And.intro (by kernel_rfl) ?_) ?_ | refine DsE.mk [] rfl ?_ | refine ai.cu _ _ ?_ | ((with_reducible refine EqE.idT ?_); first | ((conv => arg 1; simp only [ak, List.toList_toArray, ao, af, aa, Int.toNat_natCast, Int.toNat_zero, Int.toNat_one, b3, b4, List.drop_zero, Nat.sub_zero, List.cons_append, List.nil_append]); refine EqE.mk _ rfl ?_) | refine EqE.mk _ rfl ?_) | ((with_reducible refine EqE.idP ?_); first | ((conv => arg 1; simp only [ak, List.toList_toArray, bx, bz]); refine EqE.mk _ rfl ?_) | refine EqE.mk _ rfl ?_) | ((with_reducible refine EqE.idN ?_); first | refine EqE.mk _ (ixx hx') ?_ | refine EqE.mk _ (nx hx') ?_ | refine EqE.mk _ (ixx (i := 1) hx') ?_ | ((conv => arg 1; simp only [ak, List.toList_toArray, aa, ba, Int.toNat_natCast, Int.toNat_zero, Int.toNat_one, List.length_cons, List.length_nil, Nat.zero_add]); refine EqE.mk _ rfl ?_)) | ((with_reducible refine EqE.idW ?_); first | with_reducible refine EqE.mk _ (a6 _ (by omega)) ?_ | with_reducible refine EqE.mk _ (aq _ (by omega)) ?_ | refine EqE.mk _ (ah (by omega) (by omega)) ?_ | refine EqE.mk _ rfl ?_) | ((with_reducible refine EqE.idM ?_); refine EqE.mk _ rfl ?_) | ((with_reducible refine EqE.idI ?_); first | refine EqE.mk _ (max_eq _ _) ?_ | refine EqE.mk _ (min_eq _ _) ?_) | ((with_reducible refine EqE.idS ?_); first | (refine EqE.fP ?_; (conv => whnf); fail_if_success (show ag _ _)) | refine EqE.mk _ rfl ?_) | ((with_reducible refine EqE.idL ?_); first | refine EqE.mk _ (av _ _ _ _ (by omega) (by omega) rfl) ?_ | refine EqE.mk _ rfl ?_) | refine EqE.mk _ rfl ?_ | refine Cd.ro ?_ | refine Cd.dc ?_ | refine Cd.ob ?_ | refine Cd.ol ?_ | refine Cd.mk ⟨rfl, rfl⟩ ?_ | refine Cd.os ?_ | refine Cd.mk ?_ ?_ | refine DsE.mk [_] rfl ?_ | refine DsE.mk [_, _, _] rfl ?_)
    all_goals exact (hp ▸ fg).trans (jd rfl (by omega) rfl)
   ·rw [if_neg h3] at hp
    by_cases h4 : 400 < nd l
    ·rw [if_pos h4] at hp
     have h3' : ((x.toNat : Nat) : Int) ≠ 48 ∨ nd l ≤ 1 := al0 h3 hx
     refine ck ax Tryz.func16 ?_
     repeat' ((conv => whnf); first | refine aw.data ?_ | with_reducible refine Br.bt fun _ => ?_ | with_reducible refine Br.bf fun _ => ?_ | refine cE s1 ?_ | refine rgE ?_ | refine Cd.mk rfl ?_ | refine Br.t ?_ | refine Br.f ?_ | with_reducible refine Br.eqd ?_ | with_reducible refine Br.eqb ?_ | with_reducible refine Br.dec (fun _ => ?_) (fun _ => ?_) | with_reducible refine Br.br (fun _ => ?_) (fun _ => ?_) | refine Br.mk (fun _ => ?_) (fun _ => ?_) | refine an.mk _ rfl ?_ | refine And.intro (fun _ => ?_) ?_ | (refine TkE.fL ?_; (conv => whnf); fail_if_success (show ag _ _)) | refine TkE.mk _ rfl rfl ?_ | refine Res.mk ?_ | refine a7.mk (by repeat first | exact True.intro | refine And.intro (by kernel_rfl) ?_) ?_ | refine DsE.mk [] rfl ?_ | refine ai.cu _ _ ?_ | ((with_reducible refine EqE.idT ?_); first | ((conv => arg 1; simp only [ak, List.toList_toArray, ao, af, aa, Int.toNat_natCast, Int.toNat_zero, Int.toNat_one, b3, b4, List.drop_zero, Nat.sub_zero, List.cons_append, List.nil_append]); refine EqE.mk _ rfl ?_) | refine EqE.mk _ rfl ?_) | ((with_reducible refine EqE.idP ?_); first | ((conv => arg 1; simp only [ak, List.toList_toArray, bx, bz]); refine EqE.mk _ rfl ?_) | refine EqE.mk _ rfl ?_) | ((with_reducible refine EqE.idN ?_); first | refine EqE.mk _ (ixx hx') ?_ | refine EqE.mk _ (nx hx') ?_ | refine EqE.mk _ (ixx (i := 1) hx') ?_ | ((conv => arg 1; simp only [ak, List.toList_toArray, aa, ba, Int.toNat_natCast, Int.toNat_zero, Int.toNat_one, List.length_cons, List.length_nil, Nat.zero_add]); refine EqE.mk _ rfl ?_)) | ((with_reducible refine EqE.idW ?_); first | with_reducible refine EqE.mk _ (a6 _ (by omega)) ?_ | with_reducible refine EqE.mk _ (aq _ (by omega)) ?_ | refine EqE.mk _ (ah (by omega) (by omega)) ?_ | refine EqE.mk _ rfl ?_) | ((with_reducible refine EqE.idM ?_); refine EqE.mk _ rfl ?_) | ((with_reducible refine EqE.idI ?_); first | refine EqE.mk _ (max_eq _ _) ?_ | refine EqE.mk _ (min_eq _ _) ?_) | ((with_reducible refine EqE.idS ?_); first | (refine EqE.fP ?_; (conv => whnf); fail_if_success (show ag _ _)) | refine EqE.mk _ rfl ?_) | ((with_reducible refine EqE.idL ?_); first | refine EqE.mk _ (av _ _ _ _ (by omega) (by omega) rfl) ?_ | refine EqE.mk _ rfl ?_) | refine EqE.mk _ rfl ?_ | refine Cd.ro ?_ | refine Cd.dc ?_ | refine Cd.ob ?_ | refine Cd.ol ?_ | refine Cd.mk ⟨rfl, rfl⟩ ?_ | refine Cd.os ?_ | refine Cd.mk ?_ ?_ | refine DsE.mk [_] rfl ?_ | refine DsE.mk [_, _, _] rfl ?_)
     all_goals exact (hp ▸ fg).trans (jd rfl (by omega) rfl)
    ·rw [if_neg h4] at hp
     by_cases h5 : nd l < l.length
     ·rw [if_pos h5] at hp
      have h3' : ((x.toNat : Nat) : Int) ≠ 48 ∨ nd l ≤ 1 := al0 h3 hx
      refine ck ax Tryz.func16 ?_
      repeat' ((conv => whnf); first | refine aw.data ?_ | with_reducible refine Br.bt fun _ => ?_ | with_reducible refine Br.bf fun _ => ?_ | refine cE s1 ?_ | refine rgE ?_ | refine Cd.mk rfl ?_ | refine Br.t ?_ | refine Br.f ?_ | with_reducible refine Br.eqd ?_ | with_reducible refine Br.eqb ?_ | with_reducible refine Br.dec (fun _ => ?_) (fun _ => ?_) | with_reducible refine Br.br (fun _ => ?_) (fun _ => ?_) | refine Br.mk (fun _ => ?_) (fun _ => ?_) | refine an.mk _ rfl ?_ | refine And.intro (fun _ => ?_) ?_ | (refine TkE.fL ?_; (conv => whnf); fail_if_success (show ag _ _)) | refine TkE.mk _ rfl rfl ?_ | refine Res.mk ?_ | refine a7.mk (by repeat first | exact True.intro | refine And.intro (by kernel_rfl) ?_) ?_ | refine DsE.mk [] rfl ?_ | refine ai.cu _ _ ?_ | ((with_reducible refine EqE.idT ?_); first | ((conv => arg 1; simp only [ak, List.toList_toArray, ao, af, aa, Int.toNat_natCast, Int.toNat_zero, Int.toNat_one, b3, b4, List.drop_zero, Nat.sub_zero, List.cons_append, List.nil_append]); refine EqE.mk _ rfl ?_) | refine EqE.mk _ rfl ?_) | ((with_reducible refine EqE.idP ?_); first | ((conv => arg 1; simp only [ak, List.toList_toArray, bx, bz]); refine EqE.mk _ rfl ?_) | refine EqE.mk _ rfl ?_) | ((with_reducible refine EqE.idN ?_); first | refine EqE.mk _ (ixx hx') ?_ | refine EqE.mk _ (nx hx') ?_ | refine EqE.mk _ (ixx (i := 1) hx') ?_ | ((conv => arg 1; simp only [ak, List.toList_toArray, aa, ba, Int.toNat_natCast, Int.toNat_zero, Int.toNat_one, List.length_cons, List.length_nil, Nat.zero_add]); refine EqE.mk _ rfl ?_)) | ((with_reducible refine EqE.idW ?_); first | with_reducible refine EqE.mk _ (a6 _ (by omega)) ?_ | with_reducible refine EqE.mk _ (aq _ (by omega)) ?_ | refine EqE.mk _ (ah (by omega) (by omega)) ?_ | refine EqE.mk _ rfl ?_) | ((with_reducible refine EqE.idM ?_); refine EqE.mk _ rfl ?_) | ((with_reducible refine EqE.idI ?_); first | refine EqE.mk _ (max_eq _ _) ?_ | refine EqE.mk _ (min_eq _ _) ?_) | ((with_reducible refine EqE.idS ?_); first | (refine EqE.fP ?_; (conv => whnf); fail_if_success (show ag _ _)) | refine EqE.mk _ rfl ?_) | ((with_reducible refine EqE.idL ?_); first | refine EqE.mk _ (av _ _ _ _ (by omega) (by omega) rfl) ?_ | refine EqE.mk _ rfl ?_) | refine EqE.mk _ rfl ?_ | refine Cd.ro ?_ | refine Cd.dc ?_ | refine Cd.ob ?_ | refine Cd.ol ?_ | refine Cd.mk ⟨rfl, rfl⟩ ?_ | refine Cd.os ?_ | refine Cd.mk ?_ ?_ | refine DsE.mk [_] rfl ?_ | refine DsE.mk [_, _, _] rfl ?_)
      all_goals exact (hp ▸ fg).trans (jd rfl (by omega) rfl)
     ·rw [if_neg h5] at hp
      have h3' : ((x.toNat : Nat) : Int) ≠ 48 ∨ nd l ≤ 1 := al0 h3 hx
      have hall := wi (l := l) (by omega)
      have s2 := xc l hl (fun z hz => .inr (hall z hz))
      rw [aa1 hall, decide_eq_false hf] at s2
      refine ck ax Tryz.func16 ?_
      repeat' ((conv => whnf); first | refine aw.data ?_ | with_reducible refine Br.bt fun _ => ?_ | with_reducible refine Br.bf fun _ => ?_ | refine cE s1 ?_ | refine cE s2 ?_ | refine rgE ?_ | refine Cd.mk rfl ?_ | refine Br.t ?_ | refine Br.f ?_ | with_reducible refine Br.eqd ?_ | with_reducible refine Br.eqb ?_ | with_reducible refine Br.dec (fun _ => ?_) (fun _ => ?_) | with_reducible refine Br.br (fun _ => ?_) (fun _ => ?_) | refine Br.mk (fun _ => ?_) (fun _ => ?_) | refine an.mk _ rfl ?_ | refine And.intro (fun _ => ?_) ?_ | (refine TkE.fL ?_; (conv => whnf); fail_if_success (show ag _ _)) | refine TkE.mk _ rfl rfl ?_ | refine Res.mk ?_ | refine a7.mk (by repeat first | exact True.intro | refine And.intro (by kernel_rfl) ?_) ?_ | refine DsE.mk [] rfl ?_ | refine ai.cu _ _ ?_ | ((with_reducible refine EqE.idT ?_); first | ((conv => arg 1; simp only [ak, List.toList_toArray, ao, af, aa, Int.toNat_natCast, Int.toNat_zero, Int.toNat_one, b3, b4, List.drop_zero, Nat.sub_zero, List.cons_append, List.nil_append]); refine EqE.mk _ rfl ?_) | refine EqE.mk _ rfl ?_) | ((with_reducible refine EqE.idP ?_); first | ((conv => arg 1; simp only [ak, List.toList_toArray, bx, bz]); refine EqE.mk _ rfl ?_) | refine EqE.mk _ rfl ?_) | ((with_reducible refine EqE.idN ?_); first | refine EqE.mk _ (ixx hx') ?_ | refine EqE.mk _ (nx hx') ?_ | ((conv => arg 1; simp only [ak, List.toList_toArray, aa, ba, Int.toNat_natCast, Int.toNat_zero, Int.toNat_one, List.length_cons, List.length_nil, Nat.zero_add]); refine EqE.mk _ rfl ?_)) | ((with_reducible refine EqE.idW ?_); first | with_reducible refine EqE.mk _ (a6 _ (by omega)) ?_ | with_reducible refine EqE.mk _ (aq _ (by omega)) ?_ | refine EqE.mk _ (ah (by omega) (by omega)) ?_ | refine EqE.mk _ rfl ?_) | ((with_reducible refine EqE.idM ?_); refine EqE.mk _ rfl ?_) | ((with_reducible refine EqE.idI ?_); first | refine EqE.mk _ (max_eq _ _) ?_ | refine EqE.mk _ (min_eq _ _) ?_) | ((with_reducible refine EqE.idS ?_); first | (refine EqE.fP ?_; (conv => whnf); fail_if_success (show ag _ _)) | refine EqE.mk _ rfl ?_) | ((with_reducible refine EqE.idL ?_); first | refine EqE.mk _ (av _ _ _ _ (by omega) (by omega) rfl) ?_ | refine EqE.mk _ rfl ?_) | refine EqE.mk _ rfl ?_ | refine Cd.ro ?_ | refine Cd.dc ?_ | refine Cd.ob ?_ | refine Cd.ol ?_ | refine Cd.mk ⟨rfl, rfl⟩ ?_ | refine Cd.os ?_ | refine Cd.mk ?_ ?_ | refine DsE.mk [_] rfl ?_ | refine DsE.mk [_, _, _] rfl ?_)
      all_goals (rw [hp]; exact jd (by show zD _ = zD _; simp [zv]) rfl rfl)
end Go.Ev.Ar

-- STR
namespace Go.Ev.Ar
open Go Go.Ev Go.Proofs Go.RowKit
theorem ah0 : ∀ {l : List UInt8} {i : Nat}, i < nd l → oc l i = true
 | [], i, h => by simp [nd] at h
 | x :: l, 0, h => by
  have := aez (r := l) (y := x) (by omega)
  simp [oc, nth, this]
 | x :: l, i + 1, h => by
  have hx := aez (r := l) (y := x) (by omega)
  have h2 : i < nd l := by simp only [nd, List.takeWhile_cons, hx, if_true, List.length_cons] at h; exact (by unfold nd; omega)
  have := ah0 h2
  simp only [oc, nth, List.length_cons, Bool.and_eq_true, decide_eq_true_eq] at this ⊢
  exact ⟨by omega, this.2⟩
theorem adn : ∀ {l : List UInt8}, oc l (nd l) = false
 | [] => rfl
 | x :: l => by
  by_cases hx : jy x = true
  ·have e : nd (x :: l) = nd l + 1 := by simp [nd, hx]
   have := adn (l := l)
   rw [e]
   simp only [oc, nth, List.length_cons] at this ⊢
   rw [show decide (nd l + 1 < l.length + 1) = decide (nd l < l.length) by simp]
   exact this
  ·have e : nd (x :: l) = 0 := by simp [nd, hx]
   rw [e]; simp [oc, nth, hx]
theorem ux (l : List UInt8) : ∀ x ∈ l.take (nd l), jy x = true := by
 have : l.take (nd l) = l.takeWhile jy := by
  unfold nd
  exact (List.prefix_iff_eq_take.1 (List.takeWhile_prefix _)).symm
 rw [this]
 intro x hx
 have := List.all_takeWhile (l := l) (p := jy)
 exact List.all_eq_true.1 this x hx
theorem acw (r : List UInt8) (i : Nat) : oc (45 :: r) (i + 1) = oc r i := by
 simp [oc, nth]
def rd (l : List UInt8) (most : Nat) : Int × Nat × Nat :=
 let f := tf l
 let r := l.drop f
 let d := nd r
 if f = l.length then (0, f, 15)
 else if d = 0 ∨ (nth 0 r 0 = 48 ∧ f = 1) then (0, f, 14)
 else if nth 0 r 0 = 48 ∧ 1 < d then (0, f + 1, 14)
 else if most < d then (0, f + most, 14)
 else (zv (decide (f = 1)) (ofN (dv 10 (dgs (r.take d)))), f + d, 0)
theorem aie (r : List UInt8) (most : Nat) : rd (45 :: r) most = if r.length = 0 then (0, 1, 15) else if nd r = 0 ∨ nth 0 r 0 = 48 then (0, 1, 14) else if most < nd r then (0, 1 + most, 14) else (zv true (ofN (dv 10 (dgs (r.take (nd r))))), 1 + nd r, 0) := by
 have hf : tf (45 :: r) = 1 := rfl
 unfold rd
 simp only [hf, List.drop_succ_cons, List.drop_zero, List.length_cons, and_true, decide_true]
 have h1 : (1 = r.length + 1) ↔ r.length = 0 := by omega
 simp only [h1]
 split
 ·rfl
 ·split
  ·rfl
  ·rename_i h
   rw [if_neg (fun q => h (.inr q.1))]
theorem aif {l : List UInt8} (h : l.head? ≠ some 45) (most : Nat) : rd l most = if l.length = 0 then (0, 0, 15) else if nd l = 0 then (0, 0, 14) else if nth 0 l 0 = 48 ∧ 1 < nd l then (0, 1, 14) else if most < nd l then (0, most, 14) else (zv false (ofN (dv 10 (dgs (l.take (nd l))))), nd l, 0) := by
 have hf : tf l = 0 := by simp [tf, h]
 unfold rd
 simp only [hf, List.drop_zero, Nat.zero_add]
 have h1 : (0 = l.length) ↔ l.length = 0 := by omega
 have h2 : ((0 : Nat) = 1) = False := by simp
 simp only [h1, h2, and_false, or_false, decide_false]
theorem aii (r : List UInt8) (most : Nat) (hl : r.length < 2 ^ 19) (h1 : 1 ≤ most) (h2 : most < 2 ^ 40) : Sim Tryz.prog G0 false 55 [.str (bst (45 :: r)), .int .i64 most] (pD (rd (45 :: r) most)) := by
 have s1 := wx (45 :: r) (by simp; omega)
 rw [show decide ((45 :: r : List UInt8).head? = some 45) = true from rfl] at s1
 have hp := aie r most
 obtain ⟨p, hpp⟩ : ∃ p, rd (45 :: r) most = p := ⟨_, rfl⟩
 rw [hpp] at hp ⊢
 have hlen : (45 :: r : List UInt8).length = r.length + 1 := rfl
 have hn := tn r
 have sd : ∀ i, i < 2 ^ 20 → Sim Tryz.prog G0 true 129 [.str (bst (45 :: r)), .int .i64 (i + 1 : Nat)] (.bool (oc r i)) := fun i hi => by
  have := th (45 :: r) (i + 1) (by omega) (by omega)
  rw [acw] at this; exact this
 obtain ⟨x, hx⟩ : ∃ x, nth 0 r 0 = x := ⟨_, rfl⟩
 have hx' : nth 0 (45 :: r) 1 = x := hx
 have hsub : ∀ i : Nat, (bst (45 :: r)).extract ((1 : Nat) : Int).toNat ((i + 1 : Nat) : Int).toNat = bst (r.take i) := fun i => by
  rw [af, Int.toNat_natCast, Int.toNat_natCast]; rfl
 have s3 := xk (r.take (nd r)) (by rw [List.length_take]; omega) (ux r)
 have hvl : (ofN (dv 10 (dgs (r.take (nd r))))).length ≤ 4194304 := by
  have := wk (mu (ux r))
  rw [jq, List.length_take] at this; omega
 have s4 := pq (.mk true (ofN (dv 10 (dgs (r.take (nd r))))) hvl)
 obtain ⟨d, hd⟩ : ∃ d, nd r = d := ⟨_, rfl⟩
 have hend : oc r d = false := hd ▸ adn
 have hat : ∀ i, i < d → oc r i = true := fun i hi => ah0 (hd ▸ hi)
 rw [hd] at hp hn s3 s4
 obtain ⟨v, hv⟩ : ∃ v, dv 10 (dgs (r.take d)) = v := ⟨_, rfl⟩
 rw [hv] at hp s3 s4
 refine ck ax Tryz.func55 ?_
 repeat' ((conv => whnf); first | refine aw.data ?_ | refine rgE ?_ | refine Cd.mk rfl ?_ | refine Br.t ?_ | refine Br.f ?_ | with_reducible refine Br.eqd ?_ | with_reducible refine Br.eqb ?_ | with_reducible refine Br.dec (fun _ => ?_) (fun _ => ?_) | with_reducible refine Br.br (fun _ => ?_) (fun _ => ?_) | refine Br.mk (fun _ => ?_) (fun _ => ?_) | refine an.mk _ rfl ?_ | refine And.intro (fun _ => ?_) ?_ | (refine TkE.fL ?_; (conv => whnf); fail_if_success (show ag _ _)) | refine TkE.mk _ rfl rfl ?_ | refine Res.mk ?_ | refine a7.mk (by repeat first | exact True.intro | refine And.intro (by kernel_rfl) ?_) ?_ | refine DsE.mk [] rfl ?_ | refine ai.cu _ _ ?_ | ((with_reducible refine EqE.idT ?_); first | ((conv => arg 1; simp only [ak, List.toList_toArray, ao, af, aa, Int.toNat_natCast, Int.toNat_zero, Int.toNat_one, b3, b4, List.drop_zero, Nat.sub_zero, List.cons_append, List.nil_append]); refine EqE.mk _ rfl ?_) | refine EqE.mk _ rfl ?_) | ((with_reducible refine EqE.idP ?_); first | ((conv => arg 1; simp only [ak, List.toList_toArray, bx, bz]); refine EqE.mk _ rfl ?_) | refine EqE.mk _ rfl ?_) | ((with_reducible refine EqE.idN ?_); first | ((conv => arg 1; simp only [ak, List.toList_toArray, aa, ba, Int.toNat_natCast, Int.toNat_zero, Int.toNat_one, List.length_cons, List.length_nil, Nat.zero_add]); refine EqE.mk _ rfl ?_)) | ((with_reducible refine EqE.idW ?_); first | with_reducible refine EqE.mk _ (a6 _ (by omega)) ?_ | with_reducible refine EqE.mk _ (aq _ (by omega)) ?_ | refine EqE.mk _ (ah (by omega) (by omega)) ?_ | refine EqE.mk _ rfl ?_) | ((with_reducible refine EqE.idM ?_); refine EqE.mk _ rfl ?_) | ((with_reducible refine EqE.idI ?_); first | refine EqE.mk _ (max_eq _ _) ?_ | refine EqE.mk _ (min_eq _ _) ?_) | ((with_reducible refine EqE.idS ?_); first | (refine EqE.fP ?_; (conv => whnf); fail_if_success (show ag _ _)) | refine EqE.mk _ rfl ?_) | ((with_reducible refine EqE.idL ?_); first | refine EqE.mk _ (av _ _ _ _ (by omega) (by omega) rfl) ?_ | refine EqE.mk _ rfl ?_) | refine EqE.mk _ rfl ?_ | refine Cd.ro ?_ | refine Cd.dc ?_ | refine Cd.ob ?_ | refine Cd.ol ?_ | refine Cd.mk ⟨rfl, rfl⟩ ?_ | refine Cd.os ?_ | refine Cd.mk ?_ ?_ | refine DsE.mk [_] rfl ?_ | refine DsE.mk [_, _, _] rfl ?_)
 refine tu ax 0 [] [0, 1, 4, 7, 8, 9] [4] (fun m xs h => ∃ i : Nat, m = r.length - i ∧ 1 ≤ i ∧ i < d ∧ i < most ∧ x ≠ 48 ∧ xs = [.d (.str (bst (45 :: r))), .d (.int .i64 most), .ptr 4 0, .d (.int .i64 (i + 1 : Nat)), .d (.bool true), .d (.int .i64 (1 : Nat))] ∧ h = [(4, false, [.d (.bool false), .d .nil])]) rfl ?_ ?_
 ·by_cases c1 : r.length = 0
  ·rw [if_pos c1] at hp
   repeat' ((conv => whnf); first | refine aw.data ?_ | with_reducible refine Br.bt fun _ => ?_ | with_reducible refine Br.bf fun _ => ?_ | refine cE s1 ?_ | refine rgE ?_ | refine Cd.mk rfl ?_ | refine Br.t ?_ | refine Br.f ?_ | with_reducible refine Br.eqd ?_ | with_reducible refine Br.eqb ?_ | with_reducible refine Br.dec (fun _ => ?_) (fun _ => ?_) | with_reducible refine Br.br (fun _ => ?_) (fun _ => ?_) | refine Br.mk (fun _ => ?_) (fun _ => ?_) | refine an.mk _ rfl ?_ | refine And.intro (fun _ => ?_) ?_ | (refine TkE.fL ?_; (conv => whnf); fail_if_success (show ag _ _)) | refine TkE.mk _ rfl rfl ?_ | refine Res.mk ?_ | refine a7.mk (by repeat first | exact True.intro | refine And.intro (by kernel_rfl) ?_) ?_ | refine DsE.mk [] rfl ?_ | refine ai.cu _ _ ?_ | ((with_reducible refine EqE.idT ?_); first | ((conv => arg 1; simp only [ak, List.toList_toArray, ao, af, aa, Int.toNat_natCast, Int.toNat_zero, Int.toNat_one, b3, b4, List.drop_zero, Nat.sub_zero, List.cons_append, List.nil_append]); refine EqE.mk _ rfl ?_) | refine EqE.mk _ rfl ?_) | ((with_reducible refine EqE.idP ?_); first | ((conv => arg 1; simp only [ak, List.toList_toArray, bx, bz]); refine EqE.mk _ rfl ?_) | refine EqE.mk _ rfl ?_) | ((with_reducible refine EqE.idN ?_); first | ((conv => arg 1; simp only [ak, List.toList_toArray, aa, ba, Int.toNat_natCast, Int.toNat_zero, Int.toNat_one, List.length_cons, List.length_nil, Nat.zero_add]); refine EqE.mk _ rfl ?_)) | ((with_reducible refine EqE.idW ?_); first | refine EqE.mk ((1 : Nat) : Int) (by decide) ?_ | with_reducible refine EqE.mk _ (a6 _ (by omega)) ?_ | with_reducible refine EqE.mk _ (aq _ (by omega)) ?_ | refine EqE.mk _ (ah (by omega) (by omega)) ?_ | refine EqE.mk _ rfl ?_) | ((with_reducible refine EqE.idM ?_); refine EqE.mk _ rfl ?_) | ((with_reducible refine EqE.idI ?_); first | refine EqE.mk _ (max_eq _ _) ?_ | refine EqE.mk _ (min_eq _ _) ?_) | ((with_reducible refine EqE.idS ?_); first | (refine EqE.fP ?_; (conv => whnf); fail_if_success (show ag _ _)) | refine EqE.mk _ rfl ?_) | ((with_reducible refine EqE.idL ?_); first | refine EqE.mk _ (av _ _ _ _ (by omega) (by omega) rfl) ?_ | refine EqE.mk _ rfl ?_) | refine EqE.mk _ rfl ?_ | refine Cd.ro ?_ | refine Cd.dc ?_ | refine Cd.ob ?_ | refine Cd.ol ?_ | refine Cd.mk ⟨rfl, rfl⟩ ?_ | refine Cd.os ?_ | refine Cd.mk ?_ ?_ | refine DsE.mk [_] rfl ?_ | refine DsE.mk [_, _, _] rfl ?_)
   exact (hp ▸ fg).trans (jd rfl rfl rfl)
  rw [if_neg c1] at hp
  by_cases c2 : d = 0
  ·subst c2
   rw [if_pos (.inl rfl)] at hp
   have s2 := sd 0 (by omega)
   rw [hend] at s2
   repeat' ((conv => whnf); first | refine aw.data ?_ | with_reducible refine Br.bt fun _ => ?_ | with_reducible refine Br.bf fun _ => ?_ | refine cE s1 ?_ | refine cE s2 ?_ | refine rgE ?_ | refine Cd.mk rfl ?_ | refine Br.t ?_ | refine Br.f ?_ | with_reducible refine Br.eqd ?_ | with_reducible refine Br.eqb ?_ | with_reducible refine Br.dec (fun _ => ?_) (fun _ => ?_) | with_reducible refine Br.br (fun _ => ?_) (fun _ => ?_) | refine Br.mk (fun _ => ?_) (fun _ => ?_) | refine an.mk _ rfl ?_ | refine And.intro (fun _ => ?_) ?_ | (refine TkE.fL ?_; (conv => whnf); fail_if_success (show ag _ _)) | refine TkE.mk _ rfl rfl ?_ | refine Res.mk ?_ | refine a7.mk (by repeat first | exact True.intro | refine And.intro (by kernel_rfl) ?_) ?_ | refine DsE.mk [] rfl ?_ | refine ai.cu _ _ ?_ | ((with_reducible refine EqE.idT ?_); first | ((conv => arg 1; simp only [ak, List.toList_toArray, ao, af, aa, Int.toNat_natCast, Int.toNat_zero, Int.toNat_one, b3, b4, List.drop_zero, Nat.sub_zero, List.cons_append, List.nil_append]); refine EqE.mk _ rfl ?_) | refine EqE.mk _ rfl ?_) | ((with_reducible refine EqE.idP ?_); first | ((conv => arg 1; simp only [ak, List.toList_toArray, bx, bz]); refine EqE.mk _ rfl ?_) | refine EqE.mk _ rfl ?_) | ((with_reducible refine EqE.idN ?_); first | ((conv => arg 1; simp only [ak, List.toList_toArray, aa, ba, Int.toNat_natCast, Int.toNat_zero, Int.toNat_one, List.length_cons, List.length_nil, Nat.zero_add]); refine EqE.mk _ rfl ?_)) | ((with_reducible refine EqE.idW ?_); first | refine EqE.mk ((1 : Nat) : Int) (by decide) ?_ | with_reducible refine EqE.mk _ (a6 _ (by omega)) ?_ | with_reducible refine EqE.mk _ (aq _ (by omega)) ?_ | refine EqE.mk _ (ah (by omega) (by omega)) ?_ | refine EqE.mk _ rfl ?_) | ((with_reducible refine EqE.idM ?_); refine EqE.mk _ rfl ?_) | ((with_reducible refine EqE.idI ?_); first | refine EqE.mk _ (max_eq _ _) ?_ | refine EqE.mk _ (min_eq _ _) ?_) | ((with_reducible refine EqE.idS ?_); first | (refine EqE.fP ?_; (conv => whnf); fail_if_success (show ag _ _)) | refine EqE.mk _ rfl ?_) | ((with_reducible refine EqE.idL ?_); first | refine EqE.mk _ (av _ _ _ _ (by omega) (by omega) rfl) ?_ | refine EqE.mk _ rfl ?_) | refine EqE.mk _ rfl ?_ | refine Cd.ro ?_ | refine Cd.dc ?_ | refine Cd.ob ?_ | refine Cd.ol ?_ | refine Cd.mk ⟨rfl, rfl⟩ ?_ | refine Cd.os ?_ | refine Cd.mk ?_ ?_ | refine DsE.mk [_] rfl ?_ | refine DsE.mk [_, _, _] rfl ?_)
   exact (hp ▸ fg).trans (jd rfl rfl rfl)
  have s2 := sd 0 (by omega)
  rw [hat 0 (by omega)] at s2
  by_cases c3 : x = 48
  ·subst c3
   rw [if_pos (.inr hx)] at hp
   repeat' ((conv => whnf); first | refine aw.data ?_ | with_reducible refine Br.bt fun _ => ?_ | with_reducible refine Br.bf fun _ => ?_ | refine cE s1 ?_ | refine cE s2 ?_ | refine rgE ?_ | refine Cd.mk rfl ?_ | refine Br.t ?_ | refine Br.f ?_ | with_reducible refine Br.eqd ?_ | with_reducible refine Br.eqb ?_ | with_reducible refine Br.dec (fun _ => ?_) (fun _ => ?_) | with_reducible refine Br.br (fun _ => ?_) (fun _ => ?_) | refine Br.mk (fun _ => ?_) (fun _ => ?_) | refine an.mk _ rfl ?_ | refine And.intro (fun _ => ?_) ?_ | (refine TkE.fL ?_; (conv => whnf); fail_if_success (show ag _ _)) | refine TkE.mk _ rfl rfl ?_ | refine Res.mk ?_ | refine a7.mk (by repeat first | exact True.intro | refine And.intro (by kernel_rfl) ?_) ?_ | refine DsE.mk [] rfl ?_ | refine ai.cu _ _ ?_ | ((with_reducible refine EqE.idT ?_); first | ((conv => arg 1; simp only [ak, List.toList_toArray, ao, af, aa, Int.toNat_natCast, Int.toNat_zero, Int.toNat_one, b3, b4, List.drop_zero, Nat.sub_zero, List.cons_append, List.nil_append]); refine EqE.mk _ rfl ?_) | refine EqE.mk _ rfl ?_) | ((with_reducible refine EqE.idP ?_); first | ((conv => arg 1; simp only [ak, List.toList_toArray, bx, bz]); refine EqE.mk _ rfl ?_) | refine EqE.mk _ rfl ?_) | ((with_reducible refine EqE.idN ?_); first | refine EqE.mk _ (ixx (i := 1) hx') ?_ | ((conv => arg 1; simp only [ak, List.toList_toArray, aa, ba, Int.toNat_natCast, Int.toNat_zero, Int.toNat_one, List.length_cons, List.length_nil, Nat.zero_add]); refine EqE.mk _ rfl ?_)) | ((with_reducible refine EqE.idW ?_); first | refine EqE.mk ((1 : Nat) : Int) (by decide) ?_ | with_reducible refine EqE.mk _ (a6 _ (by omega)) ?_ | with_reducible refine EqE.mk _ (aq _ (by omega)) ?_ | refine EqE.mk _ (ah (by omega) (by omega)) ?_ | refine EqE.mk _ rfl ?_) | ((with_reducible refine EqE.idM ?_); refine EqE.mk _ rfl ?_) | ((with_reducible refine EqE.idI ?_); first | refine EqE.mk _ (max_eq _ _) ?_ | refine EqE.mk _ (min_eq _ _) ?_) | ((with_reducible refine EqE.idS ?_); first | (refine EqE.fP ?_; (conv => whnf); fail_if_success (show ag _ _)) | refine EqE.mk _ rfl ?_) | ((with_reducible refine EqE.idL ?_); first | refine EqE.mk _ (av _ _ _ _ (by omega) (by omega) rfl) ?_ | refine EqE.mk _ rfl ?_) | refine EqE.mk _ rfl ?_ | refine Cd.ro ?_ | refine Cd.dc ?_ | refine Cd.ob ?_ | refine Cd.ol ?_ | refine Cd.mk ⟨rfl, rfl⟩ ?_ | refine Cd.os ?_ | refine Cd.mk ?_ ?_ | refine DsE.mk [_] rfl ?_ | refine DsE.mk [_, _, _] rfl ?_)
   exact (hp ▸ fg).trans (jd rfl rfl rfl)
  rw [if_neg (fun q => by rcases q with q | q; exact c2 q; exact c3 (hx ▸ q))] at hp
  have hx48 : ((x.toNat : Nat) : Int) ≠ 48 := fun h => c3 (n48.1 h)
  have s5 := sd 1 (by omega)
  by_cases c4 : d = 1
  ·subst c4
   rw [hend] at s5
   rw [if_neg (by omega)] at hp
   have hs1 := hsub 1
   repeat' ((conv => whnf); first | refine aw.data ?_ | with_reducible refine Br.bt fun _ => ?_ | with_reducible refine Br.bf fun _ => ?_ | refine cE s1 ?_ | refine cE s2 ?_ | refine cE s5 ?_ | refine cE s3 ?_ | refine cE s4 ?_ | refine rgE ?_ | refine Cd.mk rfl ?_ | refine Br.t ?_ | refine Br.f ?_ | with_reducible refine Br.eqd ?_ | with_reducible refine Br.eqb ?_ | with_reducible refine Br.dec (fun _ => ?_) (fun _ => ?_) | with_reducible refine Br.br (fun _ => ?_) (fun _ => ?_) | refine Br.mk (fun _ => ?_) (fun _ => ?_) | refine an.mk _ rfl ?_ | refine And.intro (fun _ => ?_) ?_ | (refine TkE.fL ?_; (conv => whnf); fail_if_success (show ag _ _)) | refine TkE.mk _ rfl rfl ?_ | refine Res.mk ?_ | refine a7.mk (by repeat first | exact True.intro | refine And.intro (by kernel_rfl) ?_) ?_ | refine DsE.mk [] rfl ?_ | refine ai.cu _ _ ?_ | ((with_reducible refine EqE.idT ?_); first | refine EqE.mk _ hs1 ?_ | ((conv => arg 1; simp only [ak, List.toList_toArray, ao, af, aa, Int.toNat_natCast, Int.toNat_zero, Int.toNat_one, b3, b4, List.drop_zero, Nat.sub_zero, List.cons_append, List.nil_append]); refine EqE.mk _ rfl ?_) | refine EqE.mk _ rfl ?_) | ((with_reducible refine EqE.idP ?_); first | ((conv => arg 1; simp only [ak, List.toList_toArray, bx, bz]); refine EqE.mk _ rfl ?_) | refine EqE.mk _ rfl ?_) | ((with_reducible refine EqE.idN ?_); first | refine EqE.mk _ (ixx (i := 1) hx') ?_ | ((conv => arg 1; simp only [ak, List.toList_toArray, aa, ba, Int.toNat_natCast, Int.toNat_zero, Int.toNat_one, List.length_cons, List.length_nil, Nat.zero_add]); refine EqE.mk _ rfl ?_)) | ((with_reducible refine EqE.idW ?_); first | refine EqE.mk ((1 : Nat) : Int) (by decide) ?_ | refine EqE.mk ((1 + 1 : Nat) : Int) (by decide) ?_ | with_reducible refine EqE.mk _ (a6 _ (by omega)) ?_ | with_reducible refine EqE.mk _ (aq _ (by omega)) ?_ | refine EqE.mk _ (ah (by omega) (by omega)) ?_ | refine EqE.mk _ rfl ?_) | ((with_reducible refine EqE.idM ?_); refine EqE.mk _ rfl ?_) | ((with_reducible refine EqE.idI ?_); first | refine EqE.mk _ (max_eq _ _) ?_ | refine EqE.mk _ (min_eq _ _) ?_) | ((with_reducible refine EqE.idS ?_); first | (refine EqE.fP ?_; (conv => whnf); fail_if_success (show ag _ _)) | refine EqE.mk _ rfl ?_) | ((with_reducible refine EqE.idL ?_); first | refine EqE.mk _ (av _ _ _ _ (by omega) (by omega) rfl) ?_ | refine EqE.mk _ rfl ?_) | refine EqE.mk _ rfl ?_ | refine Cd.ro ?_ | refine Cd.dc ?_ | refine Cd.ob ?_ | refine Cd.ol ?_ | refine Cd.mk ⟨rfl, rfl⟩ ?_ | refine Cd.os ?_ | refine Cd.mk ?_ ?_ | refine DsE.mk [_] rfl ?_ | refine DsE.mk [_, _, _] rfl ?_)
   rw [hp]
   exact jd rfl rfl rfl
  rw [hat 1 (by omega)] at s5
  by_cases c5 : most = 1
  ·subst c5
   rw [if_pos (by omega)] at hp
   repeat' ((conv => whnf); first | refine aw.data ?_ | with_reducible refine Br.bt fun _ => ?_ | with_reducible refine Br.bf fun _ => ?_ | refine cE s1 ?_ | refine cE s2 ?_ | refine cE s5 ?_ | refine rgE ?_ | refine Cd.mk rfl ?_ | refine Br.t ?_ | refine Br.f ?_ | with_reducible refine Br.eqd ?_ | with_reducible refine Br.eqb ?_ | with_reducible refine Br.dec (fun _ => ?_) (fun _ => ?_) | with_reducible refine Br.br (fun _ => ?_) (fun _ => ?_) | refine Br.mk (fun _ => ?_) (fun _ => ?_) | refine an.mk _ rfl ?_ | refine And.intro (fun _ => ?_) ?_ | (refine TkE.fL ?_; (conv => whnf); fail_if_success (show ag _ _)) | refine TkE.mk _ rfl rfl ?_ | refine Res.mk ?_ | refine a7.mk (by repeat first | exact True.intro | refine And.intro (by kernel_rfl) ?_) ?_ | refine DsE.mk [] rfl ?_ | refine ai.cu _ _ ?_ | ((with_reducible refine EqE.idT ?_); first | ((conv => arg 1; simp only [ak, List.toList_toArray, ao, af, aa, Int.toNat_natCast, Int.toNat_zero, Int.toNat_one, b3, b4, List.drop_zero, Nat.sub_zero, List.cons_append, List.nil_append]); refine EqE.mk _ rfl ?_) | refine EqE.mk _ rfl ?_) | ((with_reducible refine EqE.idP ?_); first | ((conv => arg 1; simp only [ak, List.toList_toArray, bx, bz]); refine EqE.mk _ rfl ?_) | refine EqE.mk _ rfl ?_) | ((with_reducible refine EqE.idN ?_); first | refine EqE.mk _ (ixx (i := 1) hx') ?_ | ((conv => arg 1; simp only [ak, List.toList_toArray, aa, ba, Int.toNat_natCast, Int.toNat_zero, Int.toNat_one, List.length_cons, List.length_nil, Nat.zero_add]); refine EqE.mk _ rfl ?_)) | ((with_reducible refine EqE.idW ?_); first | refine EqE.mk ((1 : Nat) : Int) (by decide) ?_ | refine EqE.mk ((1 + 1 : Nat) : Int) (by decide) ?_ | with_reducible refine EqE.mk _ (a6 _ (by omega)) ?_ | with_reducible refine EqE.mk _ (aq _ (by omega)) ?_ | refine EqE.mk _ (ah (by omega) (by omega)) ?_ | refine EqE.mk _ rfl ?_) | ((with_reducible refine EqE.idM ?_); refine EqE.mk _ rfl ?_) | ((with_reducible refine EqE.idI ?_); first | refine EqE.mk _ (max_eq _ _) ?_ | refine EqE.mk _ (min_eq _ _) ?_) | ((with_reducible refine EqE.idS ?_); first | (refine EqE.fP ?_; (conv => whnf); fail_if_success (show ag _ _)) | refine EqE.mk _ rfl ?_) | ((with_reducible refine EqE.idL ?_); first | refine EqE.mk _ (av _ _ _ _ (by omega) (by omega) rfl) ?_ | refine EqE.mk _ rfl ?_) | refine EqE.mk _ rfl ?_ | refine Cd.ro ?_ | refine Cd.dc ?_ | refine Cd.ob ?_ | refine Cd.ol ?_ | refine Cd.mk ⟨rfl, rfl⟩ ?_ | refine Cd.os ?_ | refine Cd.mk ?_ ?_ | refine DsE.mk [_] rfl ?_ | refine DsE.mk [_, _, _] rfl ?_)
   exact (hp ▸ fg).trans (jd rfl rfl rfl)
  ·repeat' ((conv => whnf); first | refine aw.data ?_ | with_reducible refine Br.bt fun _ => ?_ | with_reducible refine Br.bf fun _ => ?_ | refine cE s1 ?_ | refine cE s2 ?_ | refine cE s5 ?_ | refine rgE ?_ | refine Cd.mk rfl ?_ | refine Br.t ?_ | refine Br.f ?_ | with_reducible refine Br.eqd ?_ | with_reducible refine Br.eqb ?_ | with_reducible refine Br.dec (fun _ => ?_) (fun _ => ?_) | with_reducible refine Br.br (fun _ => ?_) (fun _ => ?_) | refine Br.mk (fun _ => ?_) (fun _ => ?_) | refine an.mk _ rfl ?_ | refine And.intro (fun _ => ?_) ?_ | (refine TkE.fL ?_; (conv => whnf); fail_if_success (show ag _ _)) | refine TkE.mk _ rfl rfl ?_ | refine Res.mk ?_ | refine a7.mk (by repeat first | exact True.intro | refine And.intro (by kernel_rfl) ?_) ?_ | refine DsE.mk [] rfl ?_ | refine ai.cu _ _ ?_ | ((with_reducible refine EqE.idT ?_); first | ((conv => arg 1; simp only [ak, List.toList_toArray, ao, af, aa, Int.toNat_natCast, Int.toNat_zero, Int.toNat_one, b3, b4, List.drop_zero, Nat.sub_zero, List.cons_append, List.nil_append]); refine EqE.mk _ rfl ?_) | refine EqE.mk _ rfl ?_) | ((with_reducible refine EqE.idP ?_); first | ((conv => arg 1; simp only [ak, List.toList_toArray, bx, bz]); refine EqE.mk _ rfl ?_) | refine EqE.mk _ rfl ?_) | ((with_reducible refine EqE.idN ?_); first | refine EqE.mk _ (ixx (i := 1) hx') ?_ | ((conv => arg 1; simp only [ak, List.toList_toArray, aa, ba, Int.toNat_natCast, Int.toNat_zero, Int.toNat_one, List.length_cons, List.length_nil, Nat.zero_add]); refine EqE.mk _ rfl ?_)) | ((with_reducible refine EqE.idW ?_); first | refine EqE.mk ((1 : Nat) : Int) (by decide) ?_ | refine EqE.mk ((1 + 1 : Nat) : Int) (by decide) ?_ | with_reducible refine EqE.mk _ (a6 _ (by omega)) ?_ | with_reducible refine EqE.mk _ (aq _ (by omega)) ?_ | refine EqE.mk _ (ah (by omega) (by omega)) ?_ | refine EqE.mk _ rfl ?_) | ((with_reducible refine EqE.idM ?_); refine EqE.mk _ rfl ?_) | ((with_reducible refine EqE.idI ?_); first | refine EqE.mk _ (max_eq _ _) ?_ | refine EqE.mk _ (min_eq _ _) ?_) | ((with_reducible refine EqE.idS ?_); first | (refine EqE.fP ?_; (conv => whnf); fail_if_success (show ag _ _)) | refine EqE.mk _ rfl ?_) | ((with_reducible refine EqE.idL ?_); first | refine EqE.mk _ (av _ _ _ _ (by omega) (by omega) rfl) ?_ | refine EqE.mk _ rfl ?_) | refine EqE.mk _ rfl ?_ | refine Cd.ro ?_ | refine Cd.dc ?_ | refine Cd.ob ?_ | refine Cd.ol ?_ | refine Cd.mk ⟨rfl, rfl⟩ ?_ | refine Cd.os ?_ | refine Cd.mk ?_ ?_ | refine DsE.mk [_] rfl ?_ | refine DsE.mk [_, _, _] rfl ?_)
   (conv => whnf)
   exact ⟨rfl, vf.mk _ _ _ ⟨.inl rfl, rfl, rfl, by first | rfl | (repeat first | exact all_nil _ | refine cb _ _ _ _ _ ?_)⟩ ⟨1, rfl, Nat.le_refl _, by omega, by omega, c3, rfl, rfl⟩⟩
 ·rintro m xs h ⟨i, rfl, h1i, hid, him, c3, rfl, rfl⟩
  have hx48 : ((x.toNat : Nat) : Int) ≠ 48 := fun h => c3 (n48.1 h)
  have s5 := sd (i + 1) (by omega)
  rw [if_neg (by omega), if_neg (fun q => by rcases q with q | q; omega; exact c3 (hx ▸ q))] at hp
  by_cases c4 : i + 1 = d
  ·rw [c4, hend] at s5
   rw [if_neg (by omega)] at hp
   have hs1 := hsub d
   repeat' ((conv => whnf); first | refine aw.data ?_ | with_reducible refine Br.bt fun _ => ?_ | with_reducible refine Br.bf fun _ => ?_ | refine cE s5 ?_ | refine cE s3 ?_ | refine cE s4 ?_ | refine rgE ?_ | refine Cd.mk rfl ?_ | refine Br.t ?_ | refine Br.f ?_ | with_reducible refine Br.eqd ?_ | with_reducible refine Br.eqb ?_ | with_reducible refine Br.dec (fun _ => ?_) (fun _ => ?_) | with_reducible refine Br.br (fun _ => ?_) (fun _ => ?_) | refine Br.mk (fun _ => ?_) (fun _ => ?_) | refine an.mk _ rfl ?_ | refine And.intro (fun _ => ?_) ?_ | (refine TkE.fL ?_; (conv => whnf); fail_if_success (show ag _ _)) | refine TkE.mk _ rfl rfl ?_ | refine Res.mk ?_ | refine a7.mk (by repeat first | exact True.intro | refine And.intro (by kernel_rfl) ?_) ?_ | refine DsE.mk [] rfl ?_ | refine ai.cu _ _ ?_ | ((with_reducible refine EqE.idT ?_); first | refine EqE.mk _ hs1 ?_ | ((conv => arg 1; simp only [ak, List.toList_toArray, ao, af, aa, Int.toNat_natCast, Int.toNat_zero, Int.toNat_one, b3, b4, List.drop_zero, Nat.sub_zero, List.cons_append, List.nil_append]); refine EqE.mk _ rfl ?_) | refine EqE.mk _ rfl ?_) | ((with_reducible refine EqE.idP ?_); first | ((conv => arg 1; simp only [ak, List.toList_toArray, bx, bz]); refine EqE.mk _ rfl ?_) | refine EqE.mk _ rfl ?_) | ((with_reducible refine EqE.idN ?_); first | refine EqE.mk _ (ixx (i := 1) hx') ?_ | ((conv => arg 1; simp only [ak, List.toList_toArray, aa, ba, Int.toNat_natCast, Int.toNat_zero, Int.toNat_one, List.length_cons, List.length_nil, Nat.zero_add]); refine EqE.mk _ rfl ?_)) | ((with_reducible refine EqE.idW ?_); first | refine EqE.mk ((d + 1 : Nat) : Int) (by rw [ah (by omega) (by omega)]; omega) ?_ | with_reducible refine EqE.mk _ (a6 _ (by omega)) ?_ | with_reducible refine EqE.mk _ (aq _ (by omega)) ?_ | refine EqE.mk _ (ah (by omega) (by omega)) ?_ | refine EqE.mk _ rfl ?_) | ((with_reducible refine EqE.idM ?_); refine EqE.mk _ rfl ?_) | ((with_reducible refine EqE.idI ?_); first | refine EqE.mk _ (max_eq _ _) ?_ | refine EqE.mk _ (min_eq _ _) ?_) | ((with_reducible refine EqE.idS ?_); first | (refine EqE.fP ?_; (conv => whnf); fail_if_success (show ag _ _)) | refine EqE.mk _ rfl ?_) | ((with_reducible refine EqE.idL ?_); first | refine EqE.mk _ (av _ _ _ _ (by omega) (by omega) rfl) ?_ | refine EqE.mk _ rfl ?_) | refine EqE.mk _ rfl ?_ | refine Cd.ro ?_ | refine Cd.dc ?_ | refine Cd.ob ?_ | refine Cd.ol ?_ | refine Cd.mk ⟨rfl, rfl⟩ ?_ | refine Cd.os ?_ | refine Cd.mk ?_ ?_ | refine DsE.mk [_] rfl ?_ | refine DsE.mk [_, _, _] rfl ?_)
   rw [hp]
   exact jd rfl (by show ((1 + d : Nat) : Int) = ((d + 1 : Nat) : Int); omega) rfl
  ·rw [hat (i + 1) (by omega)] at s5
   by_cases c5 : most = i + 1
   ·subst c5
    rw [if_pos (by omega)] at hp
    repeat' ((conv => whnf); first | refine aw.data ?_ | with_reducible refine Br.bt fun _ => ?_ | with_reducible refine Br.bf fun _ => ?_ | refine cE s5 ?_ | refine rgE ?_ | refine Cd.mk rfl ?_ | refine Br.t ?_ | refine Br.f ?_ | with_reducible refine Br.eqd ?_ | with_reducible refine Br.eqb ?_ | with_reducible refine Br.dec (fun _ => ?_) (fun _ => ?_) | with_reducible refine Br.br (fun _ => ?_) (fun _ => ?_) | refine Br.mk (fun _ => ?_) (fun _ => ?_) | refine an.mk _ rfl ?_ | refine And.intro (fun _ => ?_) ?_ | (refine TkE.fL ?_; (conv => whnf); fail_if_success (show ag _ _)) | refine TkE.mk _ rfl rfl ?_ | refine Res.mk ?_ | refine a7.mk (by repeat first | exact True.intro | refine And.intro (by kernel_rfl) ?_) ?_ | refine DsE.mk [] rfl ?_ | refine ai.cu _ _ ?_ | ((with_reducible refine EqE.idT ?_); first | ((conv => arg 1; simp only [ak, List.toList_toArray, ao, af, aa, Int.toNat_natCast, Int.toNat_zero, Int.toNat_one, b3, b4, List.drop_zero, Nat.sub_zero, List.cons_append, List.nil_append]); refine EqE.mk _ rfl ?_) | refine EqE.mk _ rfl ?_) | ((with_reducible refine EqE.idP ?_); first | ((conv => arg 1; simp only [ak, List.toList_toArray, bx, bz]); refine EqE.mk _ rfl ?_) | refine EqE.mk _ rfl ?_) | ((with_reducible refine EqE.idN ?_); first | refine EqE.mk _ (ixx (i := 1) hx') ?_ | ((conv => arg 1; simp only [ak, List.toList_toArray, aa, ba, Int.toNat_natCast, Int.toNat_zero, Int.toNat_one, List.length_cons, List.length_nil, Nat.zero_add]); refine EqE.mk _ rfl ?_)) | ((with_reducible refine EqE.idW ?_); first | refine EqE.mk ((i + 1 + 1 : Nat) : Int) (by rw [ah (by omega) (by omega)]; omega) ?_ | with_reducible refine EqE.mk _ (a6 _ (by omega)) ?_ | with_reducible refine EqE.mk _ (aq _ (by omega)) ?_ | refine EqE.mk _ (ah (by omega) (by omega)) ?_ | refine EqE.mk _ rfl ?_) | ((with_reducible refine EqE.idM ?_); refine EqE.mk _ rfl ?_) | ((with_reducible refine EqE.idI ?_); first | refine EqE.mk _ (max_eq _ _) ?_ | refine EqE.mk _ (min_eq _ _) ?_) | ((with_reducible refine EqE.idS ?_); first | (refine EqE.fP ?_; (conv => whnf); fail_if_success (show ag _ _)) | refine EqE.mk _ rfl ?_) | ((with_reducible refine EqE.idL ?_); first | refine EqE.mk _ (av _ _ _ _ (by omega) (by omega) rfl) ?_ | refine EqE.mk _ rfl ?_) | refine EqE.mk _ rfl ?_ | refine Cd.ro ?_ | refine Cd.dc ?_ | refine Cd.ob ?_ | refine Cd.ol ?_ | refine Cd.mk ⟨rfl, rfl⟩ ?_ | refine Cd.os ?_ | refine Cd.mk ?_ ?_ | refine DsE.mk [_] rfl ?_ | refine DsE.mk [_, _, _] rfl ?_)
    exact (hp ▸ fg).trans (jd rfl (by omega) rfl)
   ·repeat' ((conv => whnf); first | refine aw.data ?_ | with_reducible refine Br.bt fun _ => ?_ | with_reducible refine Br.bf fun _ => ?_ | refine cE s5 ?_ | refine rgE ?_ | refine Cd.mk rfl ?_ | refine Br.t ?_ | refine Br.f ?_ | with_reducible refine Br.eqd ?_ | with_reducible refine Br.eqb ?_ | with_reducible refine Br.dec (fun _ => ?_) (fun _ => ?_) | with_reducible refine Br.br (fun _ => ?_) (fun _ => ?_) | refine Br.mk (fun _ => ?_) (fun _ => ?_) | refine an.mk _ rfl ?_ | refine And.intro (fun _ => ?_) ?_ | (refine TkE.fL ?_; (conv => whnf); fail_if_success (show ag _ _)) | refine TkE.mk _ rfl rfl ?_ | refine Res.mk ?_ | refine a7.mk (by repeat first | exact True.intro | refine And.intro (by kernel_rfl) ?_) ?_ | refine DsE.mk [] rfl ?_ | refine ai.cu _ _ ?_ | ((with_reducible refine EqE.idT ?_); first | ((conv => arg 1; simp only [ak, List.toList_toArray, ao, af, aa, Int.toNat_natCast, Int.toNat_zero, Int.toNat_one, b3, b4, List.drop_zero, Nat.sub_zero, List.cons_append, List.nil_append]); refine EqE.mk _ rfl ?_) | refine EqE.mk _ rfl ?_) | ((with_reducible refine EqE.idP ?_); first | ((conv => arg 1; simp only [ak, List.toList_toArray, bx, bz]); refine EqE.mk _ rfl ?_) | refine EqE.mk _ rfl ?_) | ((with_reducible refine EqE.idN ?_); first | refine EqE.mk _ (ixx (i := 1) hx') ?_ | ((conv => arg 1; simp only [ak, List.toList_toArray, aa, ba, Int.toNat_natCast, Int.toNat_zero, Int.toNat_one, List.length_cons, List.length_nil, Nat.zero_add]); refine EqE.mk _ rfl ?_)) | ((with_reducible refine EqE.idW ?_); first | refine EqE.mk ((i + 1 + 1 : Nat) : Int) (by rw [ah (by omega) (by omega)]; omega) ?_ | with_reducible refine EqE.mk _ (a6 _ (by omega)) ?_ | with_reducible refine EqE.mk _ (aq _ (by omega)) ?_ | refine EqE.mk _ (ah (by omega) (by omega)) ?_ | refine EqE.mk _ rfl ?_) | ((with_reducible refine EqE.idM ?_); refine EqE.mk _ rfl ?_) | ((with_reducible refine EqE.idI ?_); first | refine EqE.mk _ (max_eq _ _) ?_ | refine EqE.mk _ (min_eq _ _) ?_) | ((with_reducible refine EqE.idS ?_); first | (refine EqE.fP ?_; (conv => whnf); fail_if_success (show ag _ _)) | refine EqE.mk _ rfl ?_) | ((with_reducible refine EqE.idL ?_); first | refine EqE.mk _ (av _ _ _ _ (by omega) (by omega) rfl) ?_ | refine EqE.mk _ rfl ?_) | refine EqE.mk _ rfl ?_ | refine Cd.ro ?_ | refine Cd.dc ?_ | refine Cd.ob ?_ | refine Cd.ol ?_ | refine Cd.mk ⟨rfl, rfl⟩ ?_ | refine Cd.os ?_ | refine Cd.mk ?_ ?_ | refine DsE.mk [_] rfl ?_ | refine DsE.mk [_, _, _] rfl ?_)
    (conv => whnf)
    exact ⟨rfl, ai.mk _ _ _ ⟨.inl rfl, rfl, rfl, by first | rfl | (repeat first | exact all_nil _ | refine cb _ _ _ _ _ ?_)⟩ (by show r.length - (i + 1) < r.length - i; omega) ⟨i + 1, rfl, by omega, by omega, by omega, c3, rfl, rfl⟩⟩
theorem aij (l : List UInt8) (hf : l.head? ≠ some 45) (most : Nat) (hl : l.length < 2 ^ 19) (h1 : 1 ≤ most) (h2 : most < 2 ^ 40) : Sim Tryz.prog G0 false 55 [.str (bst l), .int .i64 most] (pD (rd l most)) := by
 have s1 := wx l (by omega)
 rw [show decide (l.head? = some 45) = false by simpa using hf] at s1
 have hp := aif hf most
 obtain ⟨p, hpp⟩ : ∃ p, rd l most = p := ⟨_, rfl⟩
 rw [hpp] at hp ⊢
 have hn := tn l
 have sd : ∀ i, i < 2 ^ 20 → Sim Tryz.prog G0 true 129 [.str (bst l), .int .i64 (i : Nat)] (.bool (oc l i)) := fun i hi => th l i (by omega) (by omega)
 obtain ⟨x, hx⟩ : ∃ x, nth 0 l 0 = x := ⟨_, rfl⟩
 have hx' : nth 0 l 0 = x := hx
 have hsub : ∀ i : Nat, (bst l).extract ((0 : Int)).toNat ((i : Nat) : Int).toNat = bst (l.take i) := fun i => by
  rw [af, Int.toNat_natCast]; rfl
 have s3 := xk (l.take (nd l)) (by rw [List.length_take]; omega) (ux l)
 have hvl : (ofN (dv 10 (dgs (l.take (nd l))))).length ≤ 4194304 := by
  have := wk (mu (ux l))
  rw [jq, List.length_take] at this; omega
 have s4 := pq (.mk false (ofN (dv 10 (dgs (l.take (nd l))))) hvl)
 obtain ⟨d, hd⟩ : ∃ d, nd l = d := ⟨_, rfl⟩
 have hend : oc l d = false := hd ▸ adn
 have hat : ∀ i, i < d → oc l i = true := fun i hi => ah0 (hd ▸ hi)
 rw [hd] at hp hn s3 s4
 obtain ⟨v, hv⟩ : ∃ v, dv 10 (dgs (l.take d)) = v := ⟨_, rfl⟩
 rw [hv] at hp s3 s4
 refine ck ax Tryz.func55 ?_
 repeat' ((conv => whnf); first | refine aw.data ?_ | refine rgE ?_ | refine Cd.mk rfl ?_ | refine Br.t ?_ | refine Br.f ?_ | with_reducible refine Br.eqd ?_ | with_reducible refine Br.eqb ?_ | with_reducible refine Br.dec (fun _ => ?_) (fun _ => ?_) | with_reducible refine Br.br (fun _ => ?_) (fun _ => ?_) | refine Br.mk (fun _ => ?_) (fun _ => ?_) | refine an.mk _ rfl ?_ | refine And.intro (fun _ => ?_) ?_ | (refine TkE.fL ?_; (conv => whnf); fail_if_success (show ag _ _)) | refine TkE.mk _ rfl rfl ?_ | refine Res.mk ?_ | refine a7.mk (by repeat first | exact True.intro | refine And.intro (by kernel_rfl) ?_) ?_ | refine DsE.mk [] rfl ?_ | refine ai.cu _ _ ?_ | ((with_reducible refine EqE.idT ?_); first | ((conv => arg 1; simp only [ak, List.toList_toArray, ao, af, aa, Int.toNat_natCast, Int.toNat_zero, Int.toNat_one, b3, b4, List.drop_zero, Nat.sub_zero, List.cons_append, List.nil_append]); refine EqE.mk _ rfl ?_) | refine EqE.mk _ rfl ?_) | ((with_reducible refine EqE.idP ?_); first | ((conv => arg 1; simp only [ak, List.toList_toArray, bx, bz]); refine EqE.mk _ rfl ?_) | refine EqE.mk _ rfl ?_) | ((with_reducible refine EqE.idN ?_); first | ((conv => arg 1; simp only [ak, List.toList_toArray, aa, ba, Int.toNat_natCast, Int.toNat_zero, Int.toNat_one, List.length_cons, List.length_nil, Nat.zero_add]); refine EqE.mk _ rfl ?_)) | ((with_reducible refine EqE.idW ?_); first | with_reducible refine EqE.mk _ (a6 _ (by omega)) ?_ | with_reducible refine EqE.mk _ (aq _ (by omega)) ?_ | refine EqE.mk _ (ah (by omega) (by omega)) ?_ | refine EqE.mk _ rfl ?_) | ((with_reducible refine EqE.idM ?_); refine EqE.mk _ rfl ?_) | ((with_reducible refine EqE.idI ?_); first | refine EqE.mk _ (max_eq _ _) ?_ | refine EqE.mk _ (min_eq _ _) ?_) | ((with_reducible refine EqE.idS ?_); first | (refine EqE.fP ?_; (conv => whnf); fail_if_success (show ag _ _)) | refine EqE.mk _ rfl ?_) | ((with_reducible refine EqE.idL ?_); first | refine EqE.mk _ (av _ _ _ _ (by omega) (by omega) rfl) ?_ | refine EqE.mk _ rfl ?_) | refine EqE.mk _ rfl ?_ | refine Cd.ro ?_ | refine Cd.dc ?_ | refine Cd.ob ?_ | refine Cd.ol ?_ | refine Cd.mk ⟨rfl, rfl⟩ ?_ | refine Cd.os ?_ | refine Cd.mk ?_ ?_ | refine DsE.mk [_] rfl ?_ | refine DsE.mk [_, _, _] rfl ?_)
 refine tu ax 0 [] [0, 1, 4, 7, 8, 9] [4] (fun m xs h => ∃ i : Nat, m = l.length - i ∧ 1 ≤ i ∧ i < d ∧ i < most ∧ x ≠ 48 ∧ xs = [.d (.str (bst l)), .d (.int .i64 most), .ptr 4 0, .d (.int .i64 (i : Nat)), .d (.bool false), .d (.int .i64 0)] ∧ h = [(4, false, [.d (.bool false), .d .nil])]) rfl ?_ ?_
 ·by_cases c1 : l.length = 0
  ·rw [if_pos c1] at hp
   repeat' ((conv => whnf); first | refine aw.data ?_ | with_reducible refine Br.bt fun _ => ?_ | with_reducible refine Br.bf fun _ => ?_ | refine cE s1 ?_ | refine rgE ?_ | refine Cd.mk rfl ?_ | refine Br.t ?_ | refine Br.f ?_ | with_reducible refine Br.eqd ?_ | with_reducible refine Br.eqb ?_ | with_reducible refine Br.dec (fun _ => ?_) (fun _ => ?_) | with_reducible refine Br.br (fun _ => ?_) (fun _ => ?_) | refine Br.mk (fun _ => ?_) (fun _ => ?_) | refine an.mk _ rfl ?_ | refine And.intro (fun _ => ?_) ?_ | (refine TkE.fL ?_; (conv => whnf); fail_if_success (show ag _ _)) | refine TkE.mk _ rfl rfl ?_ | refine Res.mk ?_ | refine a7.mk (by repeat first | exact True.intro | refine And.intro (by kernel_rfl) ?_) ?_ | refine DsE.mk [] rfl ?_ | refine ai.cu _ _ ?_ | ((with_reducible refine EqE.idT ?_); first | ((conv => arg 1; simp only [ak, List.toList_toArray, ao, af, aa, Int.toNat_natCast, Int.toNat_zero, Int.toNat_one, b3, b4, List.drop_zero, Nat.sub_zero, List.cons_append, List.nil_append]); refine EqE.mk _ rfl ?_) | refine EqE.mk _ rfl ?_) | ((with_reducible refine EqE.idP ?_); first | ((conv => arg 1; simp only [ak, List.toList_toArray, bx, bz]); refine EqE.mk _ rfl ?_) | refine EqE.mk _ rfl ?_) | ((with_reducible refine EqE.idN ?_); first | ((conv => arg 1; simp only [ak, List.toList_toArray, aa, ba, Int.toNat_natCast, Int.toNat_zero, Int.toNat_one, List.length_cons, List.length_nil, Nat.zero_add]); refine EqE.mk _ rfl ?_)) | ((with_reducible refine EqE.idW ?_); first | with_reducible refine EqE.mk _ (a6 _ (by omega)) ?_ | with_reducible refine EqE.mk _ (aq _ (by omega)) ?_ | refine EqE.mk _ (ah (by omega) (by omega)) ?_ | refine EqE.mk _ rfl ?_) | ((with_reducible refine EqE.idM ?_); refine EqE.mk _ rfl ?_) | ((with_reducible refine EqE.idI ?_); first | refine EqE.mk _ (max_eq _ _) ?_ | refine EqE.mk _ (min_eq _ _) ?_) | ((with_reducible refine EqE.idS ?_); first | (refine EqE.fP ?_; (conv => whnf); fail_if_success (show ag _ _)) | refine EqE.mk _ rfl ?_) | ((with_reducible refine EqE.idL ?_); first | refine EqE.mk _ (av _ _ _ _ (by omega) (by omega) rfl) ?_ | refine EqE.mk _ rfl ?_) | refine EqE.mk _ rfl ?_ | refine Cd.ro ?_ | refine Cd.dc ?_ | refine Cd.ob ?_ | refine Cd.ol ?_ | refine Cd.mk ⟨rfl, rfl⟩ ?_ | refine Cd.os ?_ | refine Cd.mk ?_ ?_ | refine DsE.mk [_] rfl ?_ | refine DsE.mk [_, _, _] rfl ?_)
   exact (hp ▸ fg).trans (jd rfl rfl rfl)
  rw [if_neg c1] at hp
  by_cases c2 : d = 0
  ·subst c2
   rw [if_pos rfl] at hp
   have s2 := sd 0 (by omega)
   rw [hend] at s2
   repeat' ((conv => whnf); first | refine aw.data ?_ | with_reducible refine Br.bt fun _ => ?_ | with_reducible refine Br.bf fun _ => ?_ | refine cE s1 ?_ | refine cE s2 ?_ | refine rgE ?_ | refine Cd.mk rfl ?_ | refine Br.t ?_ | refine Br.f ?_ | with_reducible refine Br.eqd ?_ | with_reducible refine Br.eqb ?_ | with_reducible refine Br.dec (fun _ => ?_) (fun _ => ?_) | with_reducible refine Br.br (fun _ => ?_) (fun _ => ?_) | refine Br.mk (fun _ => ?_) (fun _ => ?_) | refine an.mk _ rfl ?_ | refine And.intro (fun _ => ?_) ?_ | (refine TkE.fL ?_; (conv => whnf); fail_if_success (show ag _ _)) | refine TkE.mk _ rfl rfl ?_ | refine Res.mk ?_ | refine a7.mk (by repeat first | exact True.intro | refine And.intro (by kernel_rfl) ?_) ?_ | refine DsE.mk [] rfl ?_ | refine ai.cu _ _ ?_ | ((with_reducible refine EqE.idT ?_); first | ((conv => arg 1; simp only [ak, List.toList_toArray, ao, af, aa, Int.toNat_natCast, Int.toNat_zero, Int.toNat_one, b3, b4, List.drop_zero, Nat.sub_zero, List.cons_append, List.nil_append]); refine EqE.mk _ rfl ?_) | refine EqE.mk _ rfl ?_) | ((with_reducible refine EqE.idP ?_); first | ((conv => arg 1; simp only [ak, List.toList_toArray, bx, bz]); refine EqE.mk _ rfl ?_) | refine EqE.mk _ rfl ?_) | ((with_reducible refine EqE.idN ?_); first | ((conv => arg 1; simp only [ak, List.toList_toArray, aa, ba, Int.toNat_natCast, Int.toNat_zero, Int.toNat_one, List.length_cons, List.length_nil, Nat.zero_add]); refine EqE.mk _ rfl ?_)) | ((with_reducible refine EqE.idW ?_); first | with_reducible refine EqE.mk _ (a6 _ (by omega)) ?_ | with_reducible refine EqE.mk _ (aq _ (by omega)) ?_ | refine EqE.mk _ (ah (by omega) (by omega)) ?_ | refine EqE.mk _ rfl ?_) | ((with_reducible refine EqE.idM ?_); refine EqE.mk _ rfl ?_) | ((with_reducible refine EqE.idI ?_); first | refine EqE.mk _ (max_eq _ _) ?_ | refine EqE.mk _ (min_eq _ _) ?_) | ((with_reducible refine EqE.idS ?_); first | (refine EqE.fP ?_; (conv => whnf); fail_if_success (show ag _ _)) | refine EqE.mk _ rfl ?_) | ((with_reducible refine EqE.idL ?_); first | refine EqE.mk _ (av _ _ _ _ (by omega) (by omega) rfl) ?_ | refine EqE.mk _ rfl ?_) | refine EqE.mk _ rfl ?_ | refine Cd.ro ?_ | refine Cd.dc ?_ | refine Cd.ob ?_ | refine Cd.ol ?_ | refine Cd.mk ⟨rfl, rfl⟩ ?_ | refine Cd.os ?_ | refine Cd.mk ?_ ?_ | refine DsE.mk [_] rfl ?_ | refine DsE.mk [_, _, _] rfl ?_)
   exact (hp ▸ fg).trans (jd rfl rfl rfl)
  have s2 := sd 0 (by omega)
  rw [hat 0 (by omega)] at s2
  rw [if_neg c2] at hp
  have s5 := sd 1 (by omega)
  by_cases c4 : d = 1
  ·subst c4
   rw [hend] at s5
   rw [if_neg (by omega), if_neg (by omega)] at hp
   have hs1 := hsub 1
   repeat' ((conv => whnf); first | refine aw.data ?_ | with_reducible refine Br.bt fun _ => ?_ | with_reducible refine Br.bf fun _ => ?_ | refine cE s1 ?_ | refine cE s2 ?_ | refine cE s5 ?_ | refine cE s3 ?_ | refine cE s4 ?_ | refine rgE ?_ | refine Cd.mk rfl ?_ | refine Br.t ?_ | refine Br.f ?_ | with_reducible refine Br.eqd ?_ | with_reducible refine Br.eqb ?_ | with_reducible refine Br.dec (fun _ => ?_) (fun _ => ?_) | with_reducible refine Br.br (fun _ => ?_) (fun _ => ?_) | refine Br.mk (fun _ => ?_) (fun _ => ?_) | refine an.mk _ rfl ?_ | refine And.intro (fun _ => ?_) ?_ | (refine TkE.fL ?_; (conv => whnf); fail_if_success (show ag _ _)) | refine TkE.mk _ rfl rfl ?_ | refine Res.mk ?_ | refine a7.mk (by repeat first | exact True.intro | refine And.intro (by kernel_rfl) ?_) ?_ | refine DsE.mk [] rfl ?_ | refine ai.cu _ _ ?_ | ((with_reducible refine EqE.idT ?_); first | refine EqE.mk _ hs1 ?_ | ((conv => arg 1; simp only [ak, List.toList_toArray, ao, af, aa, Int.toNat_natCast, Int.toNat_zero, Int.toNat_one, b3, b4, List.drop_zero, Nat.sub_zero, List.cons_append, List.nil_append]); refine EqE.mk _ rfl ?_) | refine EqE.mk _ rfl ?_) | ((with_reducible refine EqE.idP ?_); first | ((conv => arg 1; simp only [ak, List.toList_toArray, bx, bz]); refine EqE.mk _ rfl ?_) | refine EqE.mk _ rfl ?_) | ((with_reducible refine EqE.idN ?_); first | refine EqE.mk _ (nx hx') ?_ | ((conv => arg 1; simp only [ak, List.toList_toArray, aa, ba, Int.toNat_natCast, Int.toNat_zero, Int.toNat_one, List.length_cons, List.length_nil, Nat.zero_add]); refine EqE.mk _ rfl ?_)) | ((with_reducible refine EqE.idW ?_); first | refine EqE.mk ((1 : Nat) : Int) (by decide) ?_ | with_reducible refine EqE.mk _ (a6 _ (by omega)) ?_ | with_reducible refine EqE.mk _ (aq _ (by omega)) ?_ | refine EqE.mk _ (ah (by omega) (by omega)) ?_ | refine EqE.mk _ rfl ?_) | ((with_reducible refine EqE.idM ?_); refine EqE.mk _ rfl ?_) | ((with_reducible refine EqE.idI ?_); first | refine EqE.mk _ (max_eq _ _) ?_ | refine EqE.mk _ (min_eq _ _) ?_) | ((with_reducible refine EqE.idS ?_); first | (refine EqE.fP ?_; (conv => whnf); fail_if_success (show ag _ _)) | refine EqE.mk _ rfl ?_) | ((with_reducible refine EqE.idL ?_); first | refine EqE.mk _ (av _ _ _ _ (by omega) (by omega) rfl) ?_ | refine EqE.mk _ rfl ?_) | refine EqE.mk _ rfl ?_ | refine Cd.ro ?_ | refine Cd.dc ?_ | refine Cd.ob ?_ | refine Cd.ol ?_ | refine Cd.mk ⟨rfl, rfl⟩ ?_ | refine Cd.os ?_ | refine Cd.mk ?_ ?_ | refine DsE.mk [_] rfl ?_ | refine DsE.mk [_, _, _] rfl ?_)
   rw [hp]
   exact jd rfl rfl rfl
  rw [hat 1 (by omega)] at s5
  by_cases c3 : x = 48
  ·subst c3
   rw [if_pos ⟨hx, by omega⟩] at hp
   repeat' ((conv => whnf); first | refine aw.data ?_ | with_reducible refine Br.bt fun _ => ?_ | with_reducible refine Br.bf fun _ => ?_ | refine cE s1 ?_ | refine cE s2 ?_ | refine cE s5 ?_ | refine rgE ?_ | refine Cd.mk rfl ?_ | refine Br.t ?_ | refine Br.f ?_ | with_reducible refine Br.eqd ?_ | with_reducible refine Br.eqb ?_ | with_reducible refine Br.dec (fun _ => ?_) (fun _ => ?_) | with_reducible refine Br.br (fun _ => ?_) (fun _ => ?_) | refine Br.mk (fun _ => ?_) (fun _ => ?_) | refine an.mk _ rfl ?_ | refine And.intro (fun _ => ?_) ?_ | (refine TkE.fL ?_; (conv => whnf); fail_if_success (show ag _ _)) | refine TkE.mk _ rfl rfl ?_ | refine Res.mk ?_ | refine a7.mk (by repeat first | exact True.intro | refine And.intro (by kernel_rfl) ?_) ?_ | refine DsE.mk [] rfl ?_ | refine ai.cu _ _ ?_ | ((with_reducible refine EqE.idT ?_); first | ((conv => arg 1; simp only [ak, List.toList_toArray, ao, af, aa, Int.toNat_natCast, Int.toNat_zero, Int.toNat_one, b3, b4, List.drop_zero, Nat.sub_zero, List.cons_append, List.nil_append]); refine EqE.mk _ rfl ?_) | refine EqE.mk _ rfl ?_) | ((with_reducible refine EqE.idP ?_); first | ((conv => arg 1; simp only [ak, List.toList_toArray, bx, bz]); refine EqE.mk _ rfl ?_) | refine EqE.mk _ rfl ?_) | ((with_reducible refine EqE.idN ?_); first | refine EqE.mk _ (nx hx') ?_ | ((conv => arg 1; simp only [ak, List.toList_toArray, aa, ba, Int.toNat_natCast, Int.toNat_zero, Int.toNat_one, List.length_cons, List.length_nil, Nat.zero_add]); refine EqE.mk _ rfl ?_)) | ((with_reducible refine EqE.idW ?_); first | refine EqE.mk ((1 : Nat) : Int) (by decide) ?_ | with_reducible refine EqE.mk _ (a6 _ (by omega)) ?_ | with_reducible refine EqE.mk _ (aq _ (by omega)) ?_ | refine EqE.mk _ (ah (by omega) (by omega)) ?_ | refine EqE.mk _ rfl ?_) | ((with_reducible refine EqE.idM ?_); refine EqE.mk _ rfl ?_) | ((with_reducible refine EqE.idI ?_); first | refine EqE.mk _ (max_eq _ _) ?_ | refine EqE.mk _ (min_eq _ _) ?_) | ((with_reducible refine EqE.idS ?_); first | (refine EqE.fP ?_; (conv => whnf); fail_if_success (show ag _ _)) | refine EqE.mk _ rfl ?_) | ((with_reducible refine EqE.idL ?_); first | refine EqE.mk _ (av _ _ _ _ (by omega) (by omega) rfl) ?_ | refine EqE.mk _ rfl ?_) | refine EqE.mk _ rfl ?_ | refine Cd.ro ?_ | refine Cd.dc ?_ | refine Cd.ob ?_ | refine Cd.ol ?_ | refine Cd.mk ⟨rfl, rfl⟩ ?_ | refine Cd.os ?_ | refine Cd.mk ?_ ?_ | refine DsE.mk [_] rfl ?_ | refine DsE.mk [_, _, _] rfl ?_)
   exact (hp ▸ fg).trans (jd rfl rfl rfl)
  rw [if_neg (fun q => c3 (hx ▸ q.1))] at hp
  have hx48 : ((x.toNat : Nat) : Int) ≠ 48 := fun h => c3 (n48.1 h)
  by_cases c5 : most = 1
  ·subst c5
   rw [if_pos (by omega)] at hp
   repeat' ((conv => whnf); first | refine aw.data ?_ | with_reducible refine Br.bt fun _ => ?_ | with_reducible refine Br.bf fun _ => ?_ | refine cE s1 ?_ | refine cE s2 ?_ | refine cE s5 ?_ | refine rgE ?_ | refine Cd.mk rfl ?_ | refine Br.t ?_ | refine Br.f ?_ | with_reducible refine Br.eqd ?_ | with_reducible refine Br.eqb ?_ | with_reducible refine Br.dec (fun _ => ?_) (fun _ => ?_) | with_reducible refine Br.br (fun _ => ?_) (fun _ => ?_) | refine Br.mk (fun _ => ?_) (fun _ => ?_) | refine an.mk _ rfl ?_ | refine And.intro (fun _ => ?_) ?_ | (refine TkE.fL ?_; (conv => whnf); fail_if_success (show ag _ _)) | refine TkE.mk _ rfl rfl ?_ | refine Res.mk ?_ | refine a7.mk (by repeat first | exact True.intro | refine And.intro (by kernel_rfl) ?_) ?_ | refine DsE.mk [] rfl ?_ | refine ai.cu _ _ ?_ | ((with_reducible refine EqE.idT ?_); first | ((conv => arg 1; simp only [ak, List.toList_toArray, ao, af, aa, Int.toNat_natCast, Int.toNat_zero, Int.toNat_one, b3, b4, List.drop_zero, Nat.sub_zero, List.cons_append, List.nil_append]); refine EqE.mk _ rfl ?_) | refine EqE.mk _ rfl ?_) | ((with_reducible refine EqE.idP ?_); first | ((conv => arg 1; simp only [ak, List.toList_toArray, bx, bz]); refine EqE.mk _ rfl ?_) | refine EqE.mk _ rfl ?_) | ((with_reducible refine EqE.idN ?_); first | refine EqE.mk _ (nx hx') ?_ | ((conv => arg 1; simp only [ak, List.toList_toArray, aa, ba, Int.toNat_natCast, Int.toNat_zero, Int.toNat_one, List.length_cons, List.length_nil, Nat.zero_add]); refine EqE.mk _ rfl ?_)) | ((with_reducible refine EqE.idW ?_); first | refine EqE.mk ((1 : Nat) : Int) (by decide) ?_ | with_reducible refine EqE.mk _ (a6 _ (by omega)) ?_ | with_reducible refine EqE.mk _ (aq _ (by omega)) ?_ | refine EqE.mk _ (ah (by omega) (by omega)) ?_ | refine EqE.mk _ rfl ?_) | ((with_reducible refine EqE.idM ?_); refine EqE.mk _ rfl ?_) | ((with_reducible refine EqE.idI ?_); first | refine EqE.mk _ (max_eq _ _) ?_ | refine EqE.mk _ (min_eq _ _) ?_) | ((with_reducible refine EqE.idS ?_); first | (refine EqE.fP ?_; (conv => whnf); fail_if_success (show ag _ _)) | refine EqE.mk _ rfl ?_) | ((with_reducible refine EqE.idL ?_); first | refine EqE.mk _ (av _ _ _ _ (by omega) (by omega) rfl) ?_ | refine EqE.mk _ rfl ?_) | refine EqE.mk _ rfl ?_ | refine Cd.ro ?_ | refine Cd.dc ?_ | refine Cd.ob ?_ | refine Cd.ol ?_ | refine Cd.mk ⟨rfl, rfl⟩ ?_ | refine Cd.os ?_ | refine Cd.mk ?_ ?_ | refine DsE.mk [_] rfl ?_ | refine DsE.mk [_, _, _] rfl ?_)
   exact (hp ▸ fg).trans (jd rfl rfl rfl)
  ·repeat' ((conv => whnf); first | refine aw.data ?_ | with_reducible refine Br.bt fun _ => ?_ | with_reducible refine Br.bf fun _ => ?_ | refine cE s1 ?_ | refine cE s2 ?_ | refine cE s5 ?_ | refine rgE ?_ | refine Cd.mk rfl ?_ | refine Br.t ?_ | refine Br.f ?_ | with_reducible refine Br.eqd ?_ | with_reducible refine Br.eqb ?_ | with_reducible refine Br.dec (fun _ => ?_) (fun _ => ?_) | with_reducible refine Br.br (fun _ => ?_) (fun _ => ?_) | refine Br.mk (fun _ => ?_) (fun _ => ?_) | refine an.mk _ rfl ?_ | refine And.intro (fun _ => ?_) ?_ | (refine TkE.fL ?_; (conv => whnf); fail_if_success (show ag _ _)) | refine TkE.mk _ rfl rfl ?_ | refine Res.mk ?_ | refine a7.mk (by repeat first | exact True.intro | refine And.intro (by kernel_rfl) ?_) ?_ | refine DsE.mk [] rfl ?_ | refine ai.cu _ _ ?_ | ((with_reducible refine EqE.idT ?_); first | ((conv => arg 1; simp only [ak, List.toList_toArray, ao, af, aa, Int.toNat_natCast, Int.toNat_zero, Int.toNat_one, b3, b4, List.drop_zero, Nat.sub_zero, List.cons_append, List.nil_append]); refine EqE.mk _ rfl ?_) | refine EqE.mk _ rfl ?_) | ((with_reducible refine EqE.idP ?_); first | ((conv => arg 1; simp only [ak, List.toList_toArray, bx, bz]); refine EqE.mk _ rfl ?_) | refine EqE.mk _ rfl ?_) | ((with_reducible refine EqE.idN ?_); first | refine EqE.mk _ (nx hx') ?_ | ((conv => arg 1; simp only [ak, List.toList_toArray, aa, ba, Int.toNat_natCast, Int.toNat_zero, Int.toNat_one, List.length_cons, List.length_nil, Nat.zero_add]); refine EqE.mk _ rfl ?_)) | ((with_reducible refine EqE.idW ?_); first | refine EqE.mk ((1 : Nat) : Int) (by decide) ?_ | with_reducible refine EqE.mk _ (a6 _ (by omega)) ?_ | with_reducible refine EqE.mk _ (aq _ (by omega)) ?_ | refine EqE.mk _ (ah (by omega) (by omega)) ?_ | refine EqE.mk _ rfl ?_) | ((with_reducible refine EqE.idM ?_); refine EqE.mk _ rfl ?_) | ((with_reducible refine EqE.idI ?_); first | refine EqE.mk _ (max_eq _ _) ?_ | refine EqE.mk _ (min_eq _ _) ?_) | ((with_reducible refine EqE.idS ?_); first | (refine EqE.fP ?_; (conv => whnf); fail_if_success (show ag _ _)) | refine EqE.mk _ rfl ?_) | ((with_reducible refine EqE.idL ?_); first | refine EqE.mk _ (av _ _ _ _ (by omega) (by omega) rfl) ?_ | refine EqE.mk _ rfl ?_) | refine EqE.mk _ rfl ?_ | refine Cd.ro ?_ | refine Cd.dc ?_ | refine Cd.ob ?_ | refine Cd.ol ?_ | refine Cd.mk ⟨rfl, rfl⟩ ?_ | refine Cd.os ?_ | refine Cd.mk ?_ ?_ | refine DsE.mk [_] rfl ?_ | refine DsE.mk [_, _, _] rfl ?_)
   (conv => whnf)
   exact ⟨rfl, vf.mk _ _ _ ⟨.inl rfl, rfl, rfl, by first | rfl | (repeat first | exact all_nil _ | refine cb _ _ _ _ _ ?_)⟩ ⟨1, rfl, Nat.le_refl _, by omega, by omega, c3, rfl, rfl⟩⟩
 ·rintro m xs h ⟨i, rfl, h1i, hid, him, c3, rfl, rfl⟩
  have hx48 : ((x.toNat : Nat) : Int) ≠ 48 := fun h => c3 (n48.1 h)
  have s5 := sd (i + 1) (by omega)
  rw [if_neg (by omega), if_neg (by omega), if_neg (fun q => c3 (hx ▸ q.1))] at hp
  by_cases c4 : i + 1 = d
  ·rw [c4, hend] at s5
   rw [if_neg (by omega)] at hp
   have hs1 := hsub d
   repeat' ((conv => whnf); first | refine aw.data ?_ | with_reducible refine Br.bt fun _ => ?_ | with_reducible refine Br.bf fun _ => ?_ | refine cE s5 ?_ | refine cE s3 ?_ | refine cE s4 ?_ | refine rgE ?_ | refine Cd.mk rfl ?_ | refine Br.t ?_ | refine Br.f ?_ | with_reducible refine Br.eqd ?_ | with_reducible refine Br.eqb ?_ | with_reducible refine Br.dec (fun _ => ?_) (fun _ => ?_) | with_reducible refine Br.br (fun _ => ?_) (fun _ => ?_) | refine Br.mk (fun _ => ?_) (fun _ => ?_) | refine an.mk _ rfl ?_ | refine And.intro (fun _ => ?_) ?_ | (refine TkE.fL ?_; (conv => whnf); fail_if_success (show ag _ _)) | refine TkE.mk _ rfl rfl ?_ | refine Res.mk ?_ | refine a7.mk (by repeat first | exact True.intro | refine And.intro (by kernel_rfl) ?_) ?_ | refine DsE.mk [] rfl ?_ | refine ai.cu _ _ ?_ | ((with_reducible refine EqE.idT ?_); first | refine EqE.mk _ hs1 ?_ | ((conv => arg 1; simp only [ak, List.toList_toArray, ao, af, aa, Int.toNat_natCast, Int.toNat_zero, Int.toNat_one, b3, b4, List.drop_zero, Nat.sub_zero, List.cons_append, List.nil_append]); refine EqE.mk _ rfl ?_) | refine EqE.mk _ rfl ?_) | ((with_reducible refine EqE.idP ?_); first | ((conv => arg 1; simp only [ak, List.toList_toArray, bx, bz]); refine EqE.mk _ rfl ?_) | refine EqE.mk _ rfl ?_) | ((with_reducible refine EqE.idN ?_); first | refine EqE.mk _ (nx hx') ?_ | ((conv => arg 1; simp only [ak, List.toList_toArray, aa, ba, Int.toNat_natCast, Int.toNat_zero, Int.toNat_one, List.length_cons, List.length_nil, Nat.zero_add]); refine EqE.mk _ rfl ?_)) | ((with_reducible refine EqE.idW ?_); first | refine EqE.mk (d : Int) (by rw [ah (by omega) (by omega)]; omega) ?_ | with_reducible refine EqE.mk _ (a6 _ (by omega)) ?_ | with_reducible refine EqE.mk _ (aq _ (by omega)) ?_ | refine EqE.mk _ (ah (by omega) (by omega)) ?_ | refine EqE.mk _ rfl ?_) | ((with_reducible refine EqE.idM ?_); refine EqE.mk _ rfl ?_) | ((with_reducible refine EqE.idI ?_); first | refine EqE.mk _ (max_eq _ _) ?_ | refine EqE.mk _ (min_eq _ _) ?_) | ((with_reducible refine EqE.idS ?_); first | (refine EqE.fP ?_; (conv => whnf); fail_if_success (show ag _ _)) | refine EqE.mk _ rfl ?_) | ((with_reducible refine EqE.idL ?_); first | refine EqE.mk _ (av _ _ _ _ (by omega) (by omega) rfl) ?_ | refine EqE.mk _ rfl ?_) | refine EqE.mk _ rfl ?_ | refine Cd.ro ?_ | refine Cd.dc ?_ | refine Cd.ob ?_ | refine Cd.ol ?_ | refine Cd.mk ⟨rfl, rfl⟩ ?_ | refine Cd.os ?_ | refine Cd.mk ?_ ?_ | refine DsE.mk [_] rfl ?_ | refine DsE.mk [_, _, _] rfl ?_)
   rw [hp]
   exact jd rfl rfl rfl
  ·rw [hat (i + 1) (by omega)] at s5
   by_cases c5 : most = i + 1
   ·subst c5
    rw [if_pos (by omega)] at hp
    repeat' ((conv => whnf); first | refine aw.data ?_ | with_reducible refine Br.bt fun _ => ?_ | with_reducible refine Br.bf fun _ => ?_ | refine cE s5 ?_ | refine rgE ?_ | refine Cd.mk rfl ?_ | refine Br.t ?_ | refine Br.f ?_ | with_reducible refine Br.eqd ?_ | with_reducible refine Br.eqb ?_ | with_reducible refine Br.dec (fun _ => ?_) (fun _ => ?_) | with_reducible refine Br.br (fun _ => ?_) (fun _ => ?_) | refine Br.mk (fun _ => ?_) (fun _ => ?_) | refine an.mk _ rfl ?_ | refine And.intro (fun _ => ?_) ?_ | (refine TkE.fL ?_; (conv => whnf); fail_if_success (show ag _ _)) | refine TkE.mk _ rfl rfl ?_ | refine Res.mk ?_ | refine a7.mk (by repeat first | exact True.intro | refine And.intro (by kernel_rfl) ?_) ?_ | refine DsE.mk [] rfl ?_ | refine ai.cu _ _ ?_ | ((with_reducible refine EqE.idT ?_); first | ((conv => arg 1; simp only [ak, List.toList_toArray, ao, af, aa, Int.toNat_natCast, Int.toNat_zero, Int.toNat_one, b3, b4, List.drop_zero, Nat.sub_zero, List.cons_append, List.nil_append]); refine EqE.mk _ rfl ?_) | refine EqE.mk _ rfl ?_) | ((with_reducible refine EqE.idP ?_); first | ((conv => arg 1; simp only [ak, List.toList_toArray, bx, bz]); refine EqE.mk _ rfl ?_) | refine EqE.mk _ rfl ?_) | ((with_reducible refine EqE.idN ?_); first | refine EqE.mk _ (nx hx') ?_ | ((conv => arg 1; simp only [ak, List.toList_toArray, aa, ba, Int.toNat_natCast, Int.toNat_zero, Int.toNat_one, List.length_cons, List.length_nil, Nat.zero_add]); refine EqE.mk _ rfl ?_)) | ((with_reducible refine EqE.idW ?_); first | refine EqE.mk ((i + 1 : Nat) : Int) (by rw [ah (by omega) (by omega)]; omega) ?_ | with_reducible refine EqE.mk _ (a6 _ (by omega)) ?_ | with_reducible refine EqE.mk _ (aq _ (by omega)) ?_ | refine EqE.mk _ (ah (by omega) (by omega)) ?_ | refine EqE.mk _ rfl ?_) | ((with_reducible refine EqE.idM ?_); refine EqE.mk _ rfl ?_) | ((with_reducible refine EqE.idI ?_); first | refine EqE.mk _ (max_eq _ _) ?_ | refine EqE.mk _ (min_eq _ _) ?_) | ((with_reducible refine EqE.idS ?_); first | (refine EqE.fP ?_; (conv => whnf); fail_if_success (show ag _ _)) | refine EqE.mk _ rfl ?_) | ((with_reducible refine EqE.idL ?_); first | refine EqE.mk _ (av _ _ _ _ (by omega) (by omega) rfl) ?_ | refine EqE.mk _ rfl ?_) | refine EqE.mk _ rfl ?_ | refine Cd.ro ?_ | refine Cd.dc ?_ | refine Cd.ob ?_ | refine Cd.ol ?_ | refine Cd.mk ⟨rfl, rfl⟩ ?_ | refine Cd.os ?_ | refine Cd.mk ?_ ?_ | refine DsE.mk [_] rfl ?_ | refine DsE.mk [_, _, _] rfl ?_)
    exact (hp ▸ fg).trans (jd rfl rfl rfl)
   ·repeat' ((conv => whnf); first | refine aw.data ?_ | with_reducible refine Br.bt fun _ => ?_ | with_reducible refine Br.bf fun _ => ?_ | refine cE s5 ?_ | refine rgE ?_ | refine Cd.mk rfl ?_ | refine Br.t ?_ | refine Br.f ?_ | with_reducible refine Br.eqd ?_ | with_reducible refine Br.eqb ?_ | with_reducible refine Br.dec (fun _ => ?_) (fun _ => ?_) | with_reducible refine Br.br (fun _ => ?_) (fun _ => ?_) | refine Br.mk (fun _ => ?_) (fun _ => ?_) | refine an.mk _ rfl ?_ | refine And.intro (fun _ => ?_) ?_ | (refine TkE.fL ?_; (conv => whnf); fail_if_success (show ag _ _)) | refine TkE.mk _ rfl rfl ?_ | refine Res.mk ?_ | refine a7.mk (by repeat first | exact True.intro | refine And.intro (by kernel_rfl) ?_) ?_ | refine DsE.mk [] rfl ?_ | refine ai.cu _ _ ?_ | ((with_reducible refine EqE.idT ?_); first | ((conv => arg 1; simp only [ak, List.toList_toArray, ao, af, aa, Int.toNat_natCast, Int.toNat_zero, Int.toNat_one, b3, b4, List.drop_zero, Nat.sub_zero, List.cons_append, List.nil_append]); refine EqE.mk _ rfl ?_) | refine EqE.mk _ rfl ?_) | ((with_reducible refine EqE.idP ?_); first | ((conv => arg 1; simp only [ak, List.toList_toArray, bx, bz]); refine EqE.mk _ rfl ?_) | refine EqE.mk _ rfl ?_) | ((with_reducible refine EqE.idN ?_); first | refine EqE.mk _ (nx hx') ?_ | ((conv => arg 1; simp only [ak, List.toList_toArray, aa, ba, Int.toNat_natCast, Int.toNat_zero, Int.toNat_one, List.length_cons, List.length_nil, Nat.zero_add]); refine EqE.mk _ rfl ?_)) | ((with_reducible refine EqE.idW ?_); first | refine EqE.mk ((i + 1 : Nat) : Int) (by rw [ah (by omega) (by omega)]; omega) ?_ | with_reducible refine EqE.mk _ (a6 _ (by omega)) ?_ | with_reducible refine EqE.mk _ (aq _ (by omega)) ?_ | refine EqE.mk _ (ah (by omega) (by omega)) ?_ | refine EqE.mk _ rfl ?_) | ((with_reducible refine EqE.idM ?_); refine EqE.mk _ rfl ?_) | ((with_reducible refine EqE.idI ?_); first | refine EqE.mk _ (max_eq _ _) ?_ | refine EqE.mk _ (min_eq _ _) ?_) | ((with_reducible refine EqE.idS ?_); first | (refine EqE.fP ?_; (conv => whnf); fail_if_success (show ag _ _)) | refine EqE.mk _ rfl ?_) | ((with_reducible refine EqE.idL ?_); first | refine EqE.mk _ (av _ _ _ _ (by omega) (by omega) rfl) ?_ | refine EqE.mk _ rfl ?_) | refine EqE.mk _ rfl ?_ | refine Cd.ro ?_ | refine Cd.dc ?_ | refine Cd.ob ?_ | refine Cd.ol ?_ | refine Cd.mk ⟨rfl, rfl⟩ ?_ | refine Cd.os ?_ | refine Cd.mk ?_ ?_ | refine DsE.mk [_] rfl ?_ | refine DsE.mk [_, _, _] rfl ?_)
    (conv => whnf)
    exact ⟨rfl, ai.mk _ _ _ ⟨.inl rfl, rfl, rfl, by first | rfl | (repeat first | exact all_nil _ | refine cb _ _ _ _ _ ?_)⟩ (by show l.length - (i + 1) < l.length - i; omega) ⟨i + 1, rfl, by omega, by omega, by omega, c3, rfl, rfl⟩⟩
theorem aik (l : List UInt8) (most : Nat) (hl : l.length < 2 ^ 19) (h1 : 1 ≤ most) (h2 : most < 2 ^ 40) : Sim Tryz.prog G0 false 55 [.str (bst l), .int .i64 most] (pD (rd l most)) := by
 by_cases hf : l.head? = some 45
 ·obtain ⟨r, rfl⟩ : ∃ r, l = 45 :: r := by
   cases l with
   | nil => simp at hf
   | cons y r => simp at hf; exact ⟨r, by rw [hf]⟩
  exact aii r most (by rw [List.length_cons] at hl; omega) h1 h2
 ·exact aij l hf most hl h1 h2
end Go.Ev.Ar

-- STR
namespace Go.Ev.Ar
open Go Go.Ev Go.Proofs Go.RowKit
theorem amb (l : List UInt8) : prs l = if (rd l 400).2.2 = 0 ∧ (rd l 400).2.1 < l.length then (0, (rd l 400).2.1, 14) else rd l 400 := by
 have K : ∀ {p q : Int × Nat × Nat}, rd l 400 = q → p = (if q.2.2 = 0 ∧ q.2.1 < l.length then (0, q.2.1, 14) else q) → p = if (rd l 400).2.2 = 0 ∧ (rd l 400).2.1 < l.length then (0, (rd l 400).2.1, 14) else rd l 400 := fun h g => by rw [h]; exact g
 by_cases hf : l.head? = some 45
 ·obtain ⟨r, rfl⟩ : ∃ r, l = 45 :: r := by
   cases l with
   | nil => simp at hf
   | cons y r => simp at hf; exact ⟨r, by rw [hf]⟩
  have hr := aie r 400
  rw [aaf]
  have hn := tn r
  by_cases h0 : r.length = 0
  ·rw [if_pos h0] at hr
   refine K hr ?_
   rw [if_pos (by omega : nd r = 0), if_pos h0, if_neg (by simp)]
  rw [if_neg h0] at hr
  by_cases h1 : nd r = 0
  ·rw [if_pos (.inl h1)] at hr
   refine K hr ?_
   rw [if_pos h1, if_neg h0, if_neg (by simp)]
  rw [if_neg h1]
  by_cases h2 : nth 0 r 0 = 48
  ·rw [if_pos (.inr h2)] at hr
   refine K hr ?_
   rw [if_pos h2, if_neg (by simp)]
  rw [if_neg (by rintro (q | q); exact h1 q; exact h2 q)] at hr
  rw [if_neg h2]
  by_cases h3 : 400 < nd r
  ·rw [if_pos h3] at hr
   refine K hr ?_
   rw [if_pos h3, if_neg (by simp)]
  rw [if_neg h3] at hr
  rw [if_neg h3]
  refine K hr ?_
  by_cases h4 : nd r < r.length
  ·rw [if_pos h4, if_pos ⟨rfl, by show 1 + nd r < r.length + 1; omega⟩]
  ·have e : nd r = r.length := by omega
   rw [if_neg h4, if_neg (by rintro ⟨-, q⟩; change 1 + nd r < r.length + 1 at q; omega)]
   rw [e, List.take_length, Nat.add_comm]
   simp [zv]
 ·have hr := aif hf 400
  rw [aag hf]
  have hn := tn l
  by_cases h0 : l.length = 0
  ·rw [if_pos h0] at hr
   refine K hr ?_
   rw [if_pos (by omega : nd l = 0), if_pos h0, if_neg (by simp)]
  rw [if_neg h0] at hr
  by_cases h1 : nd l = 0
  ·rw [if_pos h1] at hr
   refine K hr ?_
   rw [if_pos h1, if_neg h0, if_neg (by simp)]
  rw [if_neg h1] at hr
  rw [if_neg h1]
  by_cases h2 : nth 0 l 0 = 48 ∧ 1 < nd l
  ·rw [if_pos h2] at hr
   refine K hr ?_
   rw [if_pos h2, if_neg (by simp)]
  rw [if_neg h2] at hr
  rw [if_neg h2]
  by_cases h3 : 400 < nd l
  ·rw [if_pos h3] at hr
   refine K hr ?_
   rw [if_pos h3, if_neg (by simp)]
  rw [if_neg h3] at hr
  rw [if_neg h3]
  refine K hr ?_
  by_cases h4 : nd l < l.length
  ·rw [if_pos h4, if_pos ⟨rfl, h4⟩]
  ·have e : nd l = l.length := by omega
   rw [if_neg h4, if_neg (by rintro ⟨-, q⟩; exact h4 q)]
   rw [e, List.take_length]
   simp [zv]
theorem ph (l : List UInt8) (hl : l.length < 2 ^ 19) : Sim Tryz.prog G0 false 15 [.str (bst l)] (pD (prs l)) := by
 have s1 := aik l 400 hl (by omega) (by omega)
 have hp := amb l
 obtain ⟨⟨v, k, c⟩, h⟩ : ∃ p, rd l 400 = p := ⟨_, rfl⟩
 rw [h] at hp s1
 obtain ⟨p, hpp⟩ : ∃ p, prs l = p := ⟨_, rfl⟩
 rw [hpp] at hp ⊢
 simp only at hp
 unfold pD at s1
 simp only at s1
 by_cases h1 : c = 0
 ·by_cases h2 : k < l.length
  ·rw [if_pos ⟨h1, h2⟩] at hp
   subst h1
   refine ck ax Tryz.func15 ?_
   repeat' ((conv => whnf); first | refine aw.data ?_ | with_reducible refine Br.bt fun _ => ?_ | with_reducible refine Br.bf fun _ => ?_ | refine cE s1 ?_ | refine rgE ?_ | refine Cd.mk rfl ?_ | refine Br.t ?_ | refine Br.f ?_ | with_reducible refine Br.eqd ?_ | with_reducible refine Br.eqb ?_ | with_reducible refine Br.dec (fun _ => ?_) (fun _ => ?_) | with_reducible refine Br.br (fun _ => ?_) (fun _ => ?_) | refine Br.mk (fun _ => ?_) (fun _ => ?_) | refine an.mk _ rfl ?_ | refine And.intro (fun _ => ?_) ?_ | (refine TkE.fL ?_; (conv => whnf); fail_if_success (show ag _ _)) | refine TkE.mk _ rfl rfl ?_ | refine Res.mk ?_ | refine a7.mk (by repeat first | exact True.intro | refine And.intro (by kernel_rfl) ?_) ?_ | refine DsE.mk [] rfl ?_ | refine ai.cu _ _ ?_ | ((with_reducible refine EqE.idT ?_); first | ((conv => arg 1; simp only [ak, List.toList_toArray, ao, af, aa, Int.toNat_natCast, Int.toNat_zero, Int.toNat_one, b3, b4, List.drop_zero, Nat.sub_zero, List.cons_append, List.nil_append]); refine EqE.mk _ rfl ?_) | refine EqE.mk _ rfl ?_) | ((with_reducible refine EqE.idP ?_); first | ((conv => arg 1; simp only [ak, List.toList_toArray, bx, bz]); refine EqE.mk _ rfl ?_) | refine EqE.mk _ rfl ?_) | ((with_reducible refine EqE.idN ?_); first | ((conv => arg 1; simp only [ak, List.toList_toArray, aa, ba, Int.toNat_natCast, Int.toNat_zero, Int.toNat_one, List.length_cons, List.length_nil, Nat.zero_add]); refine EqE.mk _ rfl ?_)) | ((with_reducible refine EqE.idW ?_); first | with_reducible refine EqE.mk _ (a6 _ (by omega)) ?_ | with_reducible refine EqE.mk _ (aq _ (by omega)) ?_ | refine EqE.mk _ (ah (by omega) (by omega)) ?_ | refine EqE.mk _ rfl ?_) | ((with_reducible refine EqE.idM ?_); refine EqE.mk _ rfl ?_) | ((with_reducible refine EqE.idI ?_); first | refine EqE.mk _ (max_eq _ _) ?_ | refine EqE.mk _ (min_eq _ _) ?_) | ((with_reducible refine EqE.idS ?_); first | (refine EqE.fP ?_; (conv => whnf); fail_if_success (show ag _ _)) | refine EqE.mk _ rfl ?_) | ((with_reducible refine EqE.idL ?_); first | refine EqE.mk _ (av _ _ _ _ (by omega) (by omega) rfl) ?_ | refine EqE.mk _ rfl ?_) | refine EqE.mk _ rfl ?_ | refine Cd.ro ?_ | refine Cd.dc ?_ | refine Cd.ob ?_ | refine Cd.ol ?_ | refine Cd.mk ⟨rfl, rfl⟩ ?_ | refine Cd.os ?_ | refine Cd.mk ?_ ?_ | refine DsE.mk [_] rfl ?_ | refine DsE.mk [_, _, _] rfl ?_)
   exact (hp ▸ fg).trans (jd rfl rfl rfl)
  ·rw [if_neg (fun q => h2 q.2)] at hp
   subst h1
   refine ck ax Tryz.func15 ?_
   repeat' ((conv => whnf); first | refine aw.data ?_ | with_reducible refine Br.bt fun _ => ?_ | with_reducible refine Br.bf fun _ => ?_ | refine cE s1 ?_ | refine rgE ?_ | refine Cd.mk rfl ?_ | refine Br.t ?_ | refine Br.f ?_ | with_reducible refine Br.eqd ?_ | with_reducible refine Br.eqb ?_ | with_reducible refine Br.dec (fun _ => ?_) (fun _ => ?_) | with_reducible refine Br.br (fun _ => ?_) (fun _ => ?_) | refine Br.mk (fun _ => ?_) (fun _ => ?_) | refine an.mk _ rfl ?_ | refine And.intro (fun _ => ?_) ?_ | (refine TkE.fL ?_; (conv => whnf); fail_if_success (show ag _ _)) | refine TkE.mk _ rfl rfl ?_ | refine Res.mk ?_ | refine a7.mk (by repeat first | exact True.intro | refine And.intro (by kernel_rfl) ?_) ?_ | refine DsE.mk [] rfl ?_ | refine ai.cu _ _ ?_ | ((with_reducible refine EqE.idT ?_); first | ((conv => arg 1; simp only [ak, List.toList_toArray, ao, af, aa, Int.toNat_natCast, Int.toNat_zero, Int.toNat_one, b3, b4, List.drop_zero, Nat.sub_zero, List.cons_append, List.nil_append]); refine EqE.mk _ rfl ?_) | refine EqE.mk _ rfl ?_) | ((with_reducible refine EqE.idP ?_); first | ((conv => arg 1; simp only [ak, List.toList_toArray, bx, bz]); refine EqE.mk _ rfl ?_) | refine EqE.mk _ rfl ?_) | ((with_reducible refine EqE.idN ?_); first | ((conv => arg 1; simp only [ak, List.toList_toArray, aa, ba, Int.toNat_natCast, Int.toNat_zero, Int.toNat_one, List.length_cons, List.length_nil, Nat.zero_add]); refine EqE.mk _ rfl ?_)) | ((with_reducible refine EqE.idW ?_); first | with_reducible refine EqE.mk _ (a6 _ (by omega)) ?_ | with_reducible refine EqE.mk _ (aq _ (by omega)) ?_ | refine EqE.mk _ (ah (by omega) (by omega)) ?_ | refine EqE.mk _ rfl ?_) | ((with_reducible refine EqE.idM ?_); refine EqE.mk _ rfl ?_) | ((with_reducible refine EqE.idI ?_); first | refine EqE.mk _ (max_eq _ _) ?_ | refine EqE.mk _ (min_eq _ _) ?_) | ((with_reducible refine EqE.idS ?_); first | (refine EqE.fP ?_; (conv => whnf); fail_if_success (show ag _ _)) | refine EqE.mk _ rfl ?_) | ((with_reducible refine EqE.idL ?_); first | refine EqE.mk _ (av _ _ _ _ (by omega) (by omega) rfl) ?_ | refine EqE.mk _ rfl ?_) | refine EqE.mk _ rfl ?_ | refine Cd.ro ?_ | refine Cd.dc ?_ | refine Cd.ob ?_ | refine Cd.ol ?_ | refine Cd.mk ⟨rfl, rfl⟩ ?_ | refine Cd.os ?_ | refine Cd.mk ?_ ?_ | refine DsE.mk [_] rfl ?_ | refine DsE.mk [_, _, _] rfl ?_)
   rw [hp]; exact jd rfl rfl rfl
 ·rw [if_neg (fun q => h1 q.1)] at hp
  refine ck ax Tryz.func15 ?_
  repeat' ((conv => whnf); first | refine aw.data ?_ | with_reducible refine Br.bt fun _ => ?_ | with_reducible refine Br.bf fun _ => ?_ | refine cE s1 ?_ | refine rgE ?_ | refine Cd.mk rfl ?_ | refine Br.t ?_ | refine Br.f ?_ | with_reducible refine Br.eqd ?_ | with_reducible refine Br.eqb ?_ | with_reducible refine Br.dec (fun _ => ?_) (fun _ => ?_) | with_reducible refine Br.br (fun _ => ?_) (fun _ => ?_) | refine Br.mk (fun _ => ?_) (fun _ => ?_) | refine an.mk _ rfl ?_ | refine And.intro (fun _ => ?_) ?_ | (refine TkE.fL ?_; (conv => whnf); fail_if_success (show ag _ _)) | refine TkE.mk _ rfl rfl ?_ | refine Res.mk ?_ | refine a7.mk (by repeat first | exact True.intro | refine And.intro (by kernel_rfl) ?_) ?_ | refine DsE.mk [] rfl ?_ | refine ai.cu _ _ ?_ | ((with_reducible refine EqE.idT ?_); first | ((conv => arg 1; simp only [ak, List.toList_toArray, ao, af, aa, Int.toNat_natCast, Int.toNat_zero, Int.toNat_one, b3, b4, List.drop_zero, Nat.sub_zero, List.cons_append, List.nil_append]); refine EqE.mk _ rfl ?_) | refine EqE.mk _ rfl ?_) | ((with_reducible refine EqE.idP ?_); first | ((conv => arg 1; simp only [ak, List.toList_toArray, bx, bz]); refine EqE.mk _ rfl ?_) | refine EqE.mk _ rfl ?_) | ((with_reducible refine EqE.idN ?_); first | ((conv => arg 1; simp only [ak, List.toList_toArray, aa, ba, Int.toNat_natCast, Int.toNat_zero, Int.toNat_one, List.length_cons, List.length_nil, Nat.zero_add]); refine EqE.mk _ rfl ?_)) | ((with_reducible refine EqE.idW ?_); first | with_reducible refine EqE.mk _ (a6 _ (by omega)) ?_ | with_reducible refine EqE.mk _ (aq _ (by omega)) ?_ | refine EqE.mk _ (ah (by omega) (by omega)) ?_ | refine EqE.mk _ rfl ?_) | ((with_reducible refine EqE.idM ?_); refine EqE.mk _ rfl ?_) | ((with_reducible refine EqE.idI ?_); first | refine EqE.mk _ (max_eq _ _) ?_ | refine EqE.mk _ (min_eq _ _) ?_) | ((with_reducible refine EqE.idS ?_); first | (refine EqE.fP ?_; (conv => whnf); fail_if_success (show ag _ _)) | refine EqE.mk _ rfl ?_) | ((with_reducible refine EqE.idL ?_); first | refine EqE.mk _ (av _ _ _ _ (by omega) (by omega) rfl) ?_ | refine EqE.mk _ rfl ?_) | refine EqE.mk _ rfl ?_ | refine Cd.ro ?_ | refine Cd.dc ?_ | refine Cd.ob ?_ | refine Cd.ol ?_ | refine Cd.mk ⟨rfl, rfl⟩ ?_ | refine Cd.os ?_ | refine Cd.mk ?_ ?_ | refine DsE.mk [_] rfl ?_ | refine DsE.mk [_, _, _] rfl ?_)
  rw [hp]; exact jd rfl rfl rfl
end Go.Ev.Ar

-- STR
namespace Go.Ev.Ar
open Go Go.Ev Go.Proofs Go.RowKit
def lbD (l : List UInt8) : List D := l.map fun x => D.int .u8 (x.toNat : Int)
theorem ahp (l : List UInt8) : lb l = (lbD l).map A.d := by simp [lb, lbD]
theorem aj3 (ρ : List (Nat × Nat)) (l : List UInt8) : A.ly ρ (lb l) = lb l := by rw [ahp, A.me]
theorem aj2 (ρ : List (Nat × Nat)) (b : Nat) (l : List UInt8) (c : Nat) (h : rn ρ b = c) : rl ρ [(b, false, lb l)] = [(c, false, lb l)] := by
 simp [rl, aj3, h]
theorem am2 (l m : List UInt8) (n : Nat) (h : l.length = n) : ((lbD (l ++ m)).drop 0).take n = l.map fun x => D.int .u8 (x.toNat : Int) := by
 rw [List.drop_zero, lbD, List.map_append, List.take_left' (by simpa using h)]
theorem ac5 (v : Nat) (h : v < 18446744073709551616) : Sim Tryz.prog G0 true 208 [.int .u64 v, .int .i64 10] (.str (bst (fu 10 v))) := by
 by_cases h1 : v < 100
 ·have s := agb v h1
  refine ck ax Tryz.func208 ?_
  repeat' ((conv => whnf); first | refine aw.data ?_ | with_reducible refine Br.bt fun _ => ?_ | refine cE s ?_ | refine rgE ?_ | refine Cd.mk rfl ?_ | refine Br.t ?_ | refine Br.f ?_ | with_reducible refine Br.dec (fun _ => ?_) (fun _ => ?_) | with_reducible refine Br.br (fun _ => ?_) (fun _ => ?_) | refine Br.mk (fun _ => ?_) (fun _ => ?_) | refine an.mk _ (az _ _ (by omega)) ?_ | refine an.mk _ (a1 _ _ (by omega)) ?_ | refine an.mk _ (cp _ _ _ (by first | with_reducible exact ae _ | with_reducible exact ab _ | exact ae _ | exact ab _ | rfl) (by first | omega | (simp only [List.length_set]; omega))) ?_ | refine an.mk _ rfl ?_ | refine And.intro (fun _ => ?_) ?_ | (refine TkE.fL ?_; (conv => whnf); fail_if_success (show ag _ _)) | refine TkE.mk _ rfl rfl ?_ | refine Res.mk ?_ | refine a7.mk (by repeat first | exact True.intro | refine And.intro (by kernel_rfl) ?_) ?_ | refine DsE.mk (a8 _) rfl ?_ | refine DsE.mk [] rfl ?_ | refine ai.cu _ _ ?_ | ((with_reducible refine EqE.idT ?_); first | ((conv => arg 1; simp only [ak, List.toList_toArray, ao, af, aa, Int.toNat_natCast, Int.toNat_zero, Int.toNat_one, b3, b4, List.drop_zero, Nat.sub_zero, List.cons_append, List.nil_append]); refine EqE.mk _ rfl ?_) | refine EqE.mk _ rfl ?_) | ((with_reducible refine EqE.idP ?_); first | ((conv => arg 1; simp only [ak, List.toList_toArray, bx, bz]); refine EqE.mk _ rfl ?_) | refine EqE.mk _ rfl ?_) | ((with_reducible refine EqE.idN ?_); first | ((conv => arg 1; simp only [ak, List.toList_toArray, aa, ba, Int.toNat_natCast, Int.toNat_zero, Int.toNat_one, List.length_cons, List.length_nil, Nat.zero_add]); refine EqE.mk _ rfl ?_)) | ((with_reducible refine EqE.idW ?_); first | with_reducible refine EqE.mk _ (ar _) ?_ | with_reducible refine EqE.mk _ (dy _ _ (by omega)) ?_ | with_reducible refine EqE.mk _ (b6 _ (by omega)) ?_ | with_reducible refine EqE.mk _ (eh _ _ (by omega) (by omega)) ?_ | with_reducible refine EqE.mk _ (eg _ _ (by omega)) ?_ | with_reducible refine EqE.mk _ (ei _ _ (by omega) (by omega)) ?_ | with_reducible refine EqE.mk _ (c8 _ (by omega)) ?_ | with_reducible refine EqE.mk _ (di _ (by omega)) ?_ | with_reducible refine EqE.mk _ (bd _ (by omega)) ?_ | with_reducible refine EqE.mk _ (ek _ _ (by omega) (by omega)) ?_ | with_reducible refine EqE.mk _ (gl _ _ (by omega) (by omega)) ?_ | refine EqE.mk _ (dx _ 32 (by omega)) ?_ | with_reducible refine EqE.mk _ (cl _) ?_ | with_reducible refine EqE.mk _ (gu _) ?_ | with_reducible refine EqE.mk _ (ed _ (by omega)) ?_ | with_reducible refine EqE.mk _ (a6 _ (by omega)) ?_ | with_reducible refine EqE.mk _ (aq _ (by omega)) ?_ | with_reducible refine EqE.mk _ (n_iadd _ _ (by omega)) ?_ | with_reducible refine EqE.mk _ (wrap_u64 (by omega) (by omega)) ?_ | with_reducible refine EqE.mk _ (wrap_u32 _) ?_ | with_reducible refine EqE.mk _ (ah (by omega) (by omega)) ?_ | refine EqE.mk _ rfl ?_) | ((with_reducible refine EqE.idF ?_); first | with_reducible refine EqE.mk _ (cf _) ?_ | with_reducible refine EqE.mk _ (cx _ _ (by omega)) ?_ | with_reducible refine EqE.mk _ (bq _ _ (by omega)) ?_ | with_reducible refine EqE.mk _ (bg _) ?_ | refine EqE.mk _ (aj _ 4294967296 _ _ rfl) ?_ | refine EqE.mk _ (aj _ 65536 _ _ rfl) ?_ | refine EqE.mk _ (aj _ 256 _ _ rfl) ?_ | refine EqE.mk _ (aj _ 134217728 _ _ rfl) ?_ | refine EqE.mk _ (aj _ 2 _ _ rfl) ?_ | refine EqE.mk _ (aj _ 16 _ _ rfl) ?_ | refine EqE.mk _ rfl ?_) | ((with_reducible refine EqE.idM ?_); first | refine EqE.mk _ (bn _ 32) ?_ | refine EqE.mk _ (bn _ _) ?_ | refine EqE.mk _ rfl ?_) | ((with_reducible refine EqE.idI ?_); first | refine EqE.mk _ (gq _) ?_ | with_reducible refine EqE.mk _ (b8 _ _) ?_ | refine EqE.mk _ (max_eq _ _) ?_ | refine EqE.mk _ (min_eq _ _) ?_) | ((with_reducible refine EqE.idS ?_); first | refine EqE.mk _ (bl _ _ _ _ (by first | with_reducible exact ae _ | with_reducible exact ab _ | exact ae _ | exact ab _ | rfl) (by first | omega | (simp only [List.length_set]; omega)) (by omega)) ?_ | refine EqE.mk _ (dh _ _ _ _ (by first | with_reducible exact ae _ | with_reducible exact ab _ | exact ae _ | exact ab _ | rfl) (by omega) (by omega) (by omega)) ?_ | (refine EqE.fP ?_; (conv => whnf); fail_if_success (show ag _ _)) | refine EqE.mk _ rfl ?_) | ((with_reducible refine EqE.idA ?_); first | refine EqE.mk _ (cc _) ?_ | refine EqE.mk _ (dd _ _) ?_ | refine EqE.mk _ rfl ?_) | ((with_reducible refine EqE.idR ?_); first | refine EqE.mk _ (b7 _) ?_ | refine EqE.mk _ rfl ?_) | ((with_reducible refine EqE.idL ?_); first | refine EqE.mk _ (av _ _ _ _ (by omega) (by omega) rfl) ?_ | refine EqE.mk _ (bh _ _ (by omega)) ?_ | refine EqE.mk _ (bo _ _ _ (by omega) (by omega) (by omega)) ?_ | refine EqE.mk _ rfl ?_) | refine EqE.mk _ rfl ?_ | refine Cd.ro ?_ | refine Cd.dc ?_ | refine Cd.ob ?_ | refine Cd.ol ?_ | refine Cd.mk ⟨rfl, rfl⟩ ?_ | refine Cd.mk (bc _) ?_ | refine Cd.om ?_ | refine Cd.mk ?_ ?_ | refine DsE.mk [_] rfl ?_ | refine DsE.mk [_, _, _] rfl ?_)
  rfl
 ·have h0 : v ≠ 0 := by omega
  have hn := od (b := 10) (by omega) 20 v (by omega)
  obtain ⟨n, hnn⟩ : ∃ n, (dg 10 v).length = n := ⟨_, rfl⟩
  have s1 := abk v h0 h
  have s2 := ahd v [0, 0, 0, 0, 0, 0, 0, 0, 0, 0, 0, 0, 0, 0, 0, 0, 0, 0, 0, 0, 0, 0, 0, 0] h0 h (by simp; omega) (by simp)
  rw [hnn] at s1 s2 hn
  obtain ⟨z, hz⟩ : ∃ z, [(0 : UInt8), 0, 0, 0, 0, 0, 0, 0, 0, 0, 0, 0, 0, 0, 0, 0, 0, 0, 0, 0, 0, 0, 0, 0].drop n = z := ⟨_, rfl⟩
  rw [hz] at s2
  have hl : ((dg 10 v).map ch).length = n := by simpa using hnn
  have hzl : z.length = 24 - n := by rw [← hz]; simp
  have hL : (lb ((dg 10 v).map ch ++ z)).length = 24 := by simp only [lb, List.length_map, List.length_append, hzl] at *; omega
  refine ck ax Tryz.func208 ?_
  repeat' ((conv => whnf); first | refine aw.own (ny.au s2 [(1000000, 5)] [] (.d (.tup [])) [(5, false, lb ((dg 10 v).map ch ++ z))] [] ?_ (ho := aj2 _ _ _ _ rfl)) | refine aw.data ?_ | with_reducible refine Br.bf fun _ => ?_ | with_reducible refine Br.bt fun _ => ?_ | refine cE s1 ?_ | refine DsE.mk _ (ahp _) ?_ | refine BtE.mk _ (am2 _ _ _ hl) ?_ | refine rgE ?_ | refine Cd.mk rfl ?_ | refine Br.t ?_ | refine Br.f ?_ | with_reducible refine Br.dec (fun _ => ?_) (fun _ => ?_) | with_reducible refine Br.br (fun _ => ?_) (fun _ => ?_) | refine Br.mk (fun _ => ?_) (fun _ => ?_) | refine an.mk _ (az _ _ (by omega)) ?_ | refine an.mk _ (a1 _ _ (by omega)) ?_ | refine an.mk _ (cp _ _ _ (by first | with_reducible exact ae _ | with_reducible exact ab _ | exact ae _ | exact ab _ | rfl) (by first | omega | (simp only [List.length_set]; omega))) ?_ | refine an.mk _ rfl ?_ | refine And.intro (fun _ => ?_) ?_ | (refine TkE.fL ?_; (conv => whnf); fail_if_success (show ag _ _)) | refine TkE.mk _ rfl rfl ?_ | refine Res.mk ?_ | refine a7.mk (by repeat first | exact True.intro | refine And.intro (by kernel_rfl) ?_) ?_ | refine DsE.mk (a8 _) rfl ?_ | refine DsE.mk [] rfl ?_ | refine ai.cu _ _ ?_ | ((with_reducible refine EqE.idT ?_); first | ((conv => arg 1; simp only [ak, List.toList_toArray, ao, af, aa, Int.toNat_natCast, Int.toNat_zero, Int.toNat_one, b3, b4, List.drop_zero, Nat.sub_zero, List.cons_append, List.nil_append]); refine EqE.mk _ rfl ?_) | refine EqE.mk _ rfl ?_) | ((with_reducible refine EqE.idP ?_); first | ((conv => arg 1; simp only [ak, List.toList_toArray, bx, bz]); refine EqE.mk _ rfl ?_) | refine EqE.mk _ rfl ?_) | ((with_reducible refine EqE.idN ?_); first | ((conv => arg 1; simp only [ak, List.toList_toArray, aa, ba, Int.toNat_natCast, Int.toNat_zero, Int.toNat_one, List.length_cons, List.length_nil, Nat.zero_add]); refine EqE.mk _ rfl ?_)) | ((with_reducible refine EqE.idW ?_); first | with_reducible refine EqE.mk _ (ar _) ?_ | with_reducible refine EqE.mk _ (dy _ _ (by omega)) ?_ | with_reducible refine EqE.mk _ (b6 _ (by omega)) ?_ | with_reducible refine EqE.mk _ (eh _ _ (by omega) (by omega)) ?_ | with_reducible refine EqE.mk _ (eg _ _ (by omega)) ?_ | with_reducible refine EqE.mk _ (ei _ _ (by omega) (by omega)) ?_ | with_reducible refine EqE.mk _ (c8 _ (by omega)) ?_ | with_reducible refine EqE.mk _ (di _ (by omega)) ?_ | with_reducible refine EqE.mk _ (bd _ (by omega)) ?_ | with_reducible refine EqE.mk _ (ek _ _ (by omega) (by omega)) ?_ | with_reducible refine EqE.mk _ (gl _ _ (by omega) (by omega)) ?_ | refine EqE.mk _ (dx _ 32 (by omega)) ?_ | with_reducible refine EqE.mk _ (cl _) ?_ | with_reducible refine EqE.mk _ (gu _) ?_ | with_reducible refine EqE.mk _ (ed _ (by omega)) ?_ | with_reducible refine EqE.mk _ (a6 _ (by omega)) ?_ | with_reducible refine EqE.mk _ (aq _ (by omega)) ?_ | with_reducible refine EqE.mk _ (n_iadd _ _ (by omega)) ?_ | with_reducible refine EqE.mk _ (wrap_u64 (by omega) (by omega)) ?_ | with_reducible refine EqE.mk _ (wrap_u32 _) ?_ | with_reducible refine EqE.mk _ (ah (by omega) (by omega)) ?_ | refine EqE.mk _ rfl ?_) | ((with_reducible refine EqE.idF ?_); first | with_reducible refine EqE.mk _ (cf _) ?_ | with_reducible refine EqE.mk _ (cx _ _ (by omega)) ?_ | with_reducible refine EqE.mk _ (bq _ _ (by omega)) ?_ | with_reducible refine EqE.mk _ (bg _) ?_ | refine EqE.mk _ (aj _ 4294967296 _ _ rfl) ?_ | refine EqE.mk _ (aj _ 65536 _ _ rfl) ?_ | refine EqE.mk _ (aj _ 256 _ _ rfl) ?_ | refine EqE.mk _ (aj _ 134217728 _ _ rfl) ?_ | refine EqE.mk _ (aj _ 2 _ _ rfl) ?_ | refine EqE.mk _ (aj _ 16 _ _ rfl) ?_ | refine EqE.mk _ rfl ?_) | ((with_reducible refine EqE.idM ?_); first | refine EqE.mk _ (bn _ 32) ?_ | refine EqE.mk _ (bn _ _) ?_ | refine EqE.mk _ rfl ?_) | ((with_reducible refine EqE.idI ?_); first | refine EqE.mk _ (gq _) ?_ | with_reducible refine EqE.mk _ (b8 _ _) ?_ | refine EqE.mk _ (max_eq _ _) ?_ | refine EqE.mk _ (min_eq _ _) ?_) | ((with_reducible refine EqE.idS ?_); first | refine EqE.mk _ (bl _ _ _ _ (by first | with_reducible exact ae _ | with_reducible exact ab _ | exact ae _ | exact ab _ | rfl) (by first | omega | (simp only [List.length_set]; omega)) (by omega)) ?_ | refine EqE.mk _ (dh _ _ _ _ (by first | with_reducible exact ae _ | with_reducible exact ab _ | exact ae _ | exact ab _ | rfl) (by omega) (by omega) (by omega)) ?_ | (refine EqE.fP ?_; (conv => whnf); fail_if_success (show ag _ _)) | refine EqE.mk _ rfl ?_) | ((with_reducible refine EqE.idA ?_); first | refine EqE.mk _ (cc _) ?_ | refine EqE.mk _ (dd _ _) ?_ | refine EqE.mk _ rfl ?_) | ((with_reducible refine EqE.idR ?_); first | refine EqE.mk _ (b7 _) ?_ | refine EqE.mk _ rfl ?_) | ((with_reducible refine EqE.idL ?_); first | refine EqE.mk _ (av _ _ _ _ (by omega) (by omega) rfl) ?_ | refine EqE.mk _ (bh _ _ (by omega)) ?_ | refine EqE.mk _ (bo _ _ _ (by omega) (by omega) (by omega)) ?_ | refine EqE.mk _ rfl ?_) | refine EqE.mk _ rfl ?_ | refine Cd.ro ?_ | refine Cd.dc ?_ | refine Cd.ob ?_ | refine Cd.ol ?_ | refine Cd.mk ⟨rfl, rfl⟩ ?_ | refine Cd.mk (bc _) ?_ | refine Cd.om ?_ | refine Cd.mk ?_ ?_ | refine DsE.mk [_] rfl ?_ | refine DsE.mk [_, _, _] rfl ?_)
  show D.str _ = D.str _
  rw [fu, if_neg h0, n6]
theorem ai5 : Sim Tryz.prog G0 true 284 [.int .u64 16] (.int .i64 4) := by
 refine ck ax Tryz.func284 ?_
 repeat' ((conv => whnf); first | refine aw.data ?_ | refine rgE ?_ | refine Cd.mk rfl ?_ | refine Br.t ?_ | refine Br.f ?_ | with_reducible refine Br.dec (fun _ => ?_) (fun _ => ?_) | with_reducible refine Br.br (fun _ => ?_) (fun _ => ?_) | refine Br.mk (fun _ => ?_) (fun _ => ?_) | refine an.mk _ (az _ _ (by omega)) ?_ | refine an.mk _ (a1 _ _ (by omega)) ?_ | refine an.mk _ (cp _ _ _ (by first | with_reducible exact ae _ | with_reducible exact ab _ | exact ae _ | exact ab _ | rfl) (by first | omega | (simp only [List.length_set]; omega))) ?_ | refine an.mk _ rfl ?_ | refine And.intro (fun _ => ?_) ?_ | (refine TkE.fL ?_; (conv => whnf); fail_if_success (show ag _ _)) | refine TkE.mk _ rfl rfl ?_ | refine Res.mk ?_ | refine a7.mk (by repeat first | exact True.intro | refine And.intro (by kernel_rfl) ?_) ?_ | refine DsE.mk (a8 _) rfl ?_ | refine DsE.mk [] rfl ?_ | refine ai.cu _ _ ?_ | ((with_reducible refine EqE.idT ?_); first | ((conv => arg 1; simp only [ak, List.toList_toArray, ao, af, aa, Int.toNat_natCast, Int.toNat_zero, Int.toNat_one, b3, b4, List.drop_zero, Nat.sub_zero, List.cons_append, List.nil_append]); refine EqE.mk _ rfl ?_) | refine EqE.mk _ rfl ?_) | ((with_reducible refine EqE.idP ?_); first | ((conv => arg 1; simp only [ak, List.toList_toArray, bx, bz]); refine EqE.mk _ rfl ?_) | refine EqE.mk _ rfl ?_) | ((with_reducible refine EqE.idN ?_); first | ((conv => arg 1; simp only [ak, List.toList_toArray, aa, ba, Int.toNat_natCast, Int.toNat_zero, Int.toNat_one, List.length_cons, List.length_nil, Nat.zero_add]); refine EqE.mk _ rfl ?_)) | ((with_reducible refine EqE.idW ?_); first | refine EqE.mk 18446744073709551600 (by decide) ?_ | refine EqE.mk 16 (by decide) ?_ | refine EqE.mk 4573923408821661840 (by decide) ?_ | refine EqE.mk 4 (by decide) ?_ | with_reducible refine EqE.mk _ (ar _) ?_ | with_reducible refine EqE.mk _ (dy _ _ (by omega)) ?_ | with_reducible refine EqE.mk _ (b6 _ (by omega)) ?_ | with_reducible refine EqE.mk _ (eh _ _ (by omega) (by omega)) ?_ | with_reducible refine EqE.mk _ (eg _ _ (by omega)) ?_ | with_reducible refine EqE.mk _ (ei _ _ (by omega) (by omega)) ?_ | with_reducible refine EqE.mk _ (c8 _ (by omega)) ?_ | with_reducible refine EqE.mk _ (di _ (by omega)) ?_ | with_reducible refine EqE.mk _ (bd _ (by omega)) ?_ | with_reducible refine EqE.mk _ (ek _ _ (by omega) (by omega)) ?_ | with_reducible refine EqE.mk _ (gl _ _ (by omega) (by omega)) ?_ | refine EqE.mk _ (dx _ 32 (by omega)) ?_ | with_reducible refine EqE.mk _ (cl _) ?_ | with_reducible refine EqE.mk _ (gu _) ?_ | with_reducible refine EqE.mk _ (ed _ (by omega)) ?_ | with_reducible refine EqE.mk _ (a6 _ (by omega)) ?_ | with_reducible refine EqE.mk _ (aq _ (by omega)) ?_ | with_reducible refine EqE.mk _ (n_iadd _ _ (by omega)) ?_ | with_reducible refine EqE.mk _ (wrap_u64 (by omega) (by omega)) ?_ | with_reducible refine EqE.mk _ (wrap_u32 _) ?_ | with_reducible refine EqE.mk _ (ah (by omega) (by omega)) ?_ | refine EqE.mk _ rfl ?_) | ((with_reducible refine EqE.idF ?_); first | refine EqE.mk 15 (by decide) ?_ | with_reducible refine EqE.mk _ (cf _) ?_ | with_reducible refine EqE.mk _ (cx _ _ (by omega)) ?_ | with_reducible refine EqE.mk _ (bq _ _ (by omega)) ?_ | with_reducible refine EqE.mk _ (bg _) ?_ | refine EqE.mk _ (aj _ 4294967296 _ _ rfl) ?_ | refine EqE.mk _ (aj _ 65536 _ _ rfl) ?_ | refine EqE.mk _ (aj _ 256 _ _ rfl) ?_ | refine EqE.mk _ (aj _ 134217728 _ _ rfl) ?_ | refine EqE.mk _ (aj _ 2 _ _ rfl) ?_ | refine EqE.mk _ (aj _ 16 _ _ rfl) ?_ | refine EqE.mk _ rfl ?_) | ((with_reducible refine EqE.idM ?_); first | refine EqE.mk _ (bn _ 32) ?_ | refine EqE.mk _ (bn _ _) ?_ | refine EqE.mk _ rfl ?_) | ((with_reducible refine EqE.idI ?_); first | refine EqE.mk _ (gq _) ?_ | with_reducible refine EqE.mk _ (b8 _ _) ?_ | refine EqE.mk _ (max_eq _ _) ?_ | refine EqE.mk _ (min_eq _ _) ?_) | ((with_reducible refine EqE.idS ?_); first | refine EqE.mk _ (bl _ _ _ _ (by first | with_reducible exact ae _ | with_reducible exact ab _ | exact ae _ | exact ab _ | rfl) (by first | omega | (simp only [List.length_set]; omega)) (by omega)) ?_ | refine EqE.mk _ (dh _ _ _ _ (by first | with_reducible exact ae _ | with_reducible exact ab _ | exact ae _ | exact ab _ | rfl) (by omega) (by omega) (by omega)) ?_ | (refine EqE.fP ?_; (conv => whnf); fail_if_success (show ag _ _)) | refine EqE.mk _ rfl ?_) | ((with_reducible refine EqE.idA ?_); first | refine EqE.mk _ (cc _) ?_ | refine EqE.mk _ (dd _ _) ?_ | refine EqE.mk _ rfl ?_) | ((with_reducible refine EqE.idR ?_); first | refine EqE.mk _ (b7 _) ?_ | refine EqE.mk _ rfl ?_) | ((with_reducible refine EqE.idL ?_); first | refine EqE.mk _ (av _ _ _ _ (by omega) (by omega) rfl) ?_ | refine EqE.mk _ (bh _ _ (by omega)) ?_ | refine EqE.mk _ (bo _ _ _ (by omega) (by omega) (by omega)) ?_ | refine EqE.mk _ rfl ?_) | refine EqE.mk _ rfl ?_ | refine Cd.ro ?_ | refine Cd.dc ?_ | refine Cd.ob ?_ | refine Cd.ol ?_ | refine Cd.mk ⟨rfl, rfl⟩ ?_ | refine Cd.mk (bc _) ?_ | refine Cd.om ?_ | refine Cd.mk ?_ ?_ | refine DsE.mk [_] rfl ?_ | refine DsE.mk [_, _, _] rfl ?_)
 rfl
theorem amm : Sim Tryz.prog G0 true 276 [.int .u64 16] (.int .i64 4) := by
 refine ck ax Tryz.func276 ?_
 repeat' ((conv => whnf); first | refine aw.data ?_ | refine cE ai5 ?_ | refine rgE ?_ | refine Cd.mk rfl ?_ | refine Br.t ?_ | refine Br.f ?_ | with_reducible refine Br.dec (fun _ => ?_) (fun _ => ?_) | with_reducible refine Br.br (fun _ => ?_) (fun _ => ?_) | refine Br.mk (fun _ => ?_) (fun _ => ?_) | refine an.mk _ (az _ _ (by omega)) ?_ | refine an.mk _ (a1 _ _ (by omega)) ?_ | refine an.mk _ (cp _ _ _ (by first | with_reducible exact ae _ | with_reducible exact ab _ | exact ae _ | exact ab _ | rfl) (by first | omega | (simp only [List.length_set]; omega))) ?_ | refine an.mk _ rfl ?_ | refine And.intro (fun _ => ?_) ?_ | (refine TkE.fL ?_; (conv => whnf); fail_if_success (show ag _ _)) | refine TkE.mk _ rfl rfl ?_ | refine Res.mk ?_ | refine a7.mk (by repeat first | exact True.intro | refine And.intro (by kernel_rfl) ?_) ?_ | refine DsE.mk (a8 _) rfl ?_ | refine DsE.mk [] rfl ?_ | refine ai.cu _ _ ?_ | ((with_reducible refine EqE.idT ?_); first | ((conv => arg 1; simp only [ak, List.toList_toArray, ao, af, aa, Int.toNat_natCast, Int.toNat_zero, Int.toNat_one, b3, b4, List.drop_zero, Nat.sub_zero, List.cons_append, List.nil_append]); refine EqE.mk _ rfl ?_) | refine EqE.mk _ rfl ?_) | ((with_reducible refine EqE.idP ?_); first | ((conv => arg 1; simp only [ak, List.toList_toArray, bx, bz]); refine EqE.mk _ rfl ?_) | refine EqE.mk _ rfl ?_) | ((with_reducible refine EqE.idN ?_); first | ((conv => arg 1; simp only [ak, List.toList_toArray, aa, ba, Int.toNat_natCast, Int.toNat_zero, Int.toNat_one, List.length_cons, List.length_nil, Nat.zero_add]); refine EqE.mk _ rfl ?_)) | ((with_reducible refine EqE.idW ?_); first | with_reducible refine EqE.mk _ (ar _) ?_ | with_reducible refine EqE.mk _ (dy _ _ (by omega)) ?_ | with_reducible refine EqE.mk _ (b6 _ (by omega)) ?_ | with_reducible refine EqE.mk _ (eh _ _ (by omega) (by omega)) ?_ | with_reducible refine EqE.mk _ (eg _ _ (by omega)) ?_ | with_reducible refine EqE.mk _ (ei _ _ (by omega) (by omega)) ?_ | with_reducible refine EqE.mk _ (c8 _ (by omega)) ?_ | with_reducible refine EqE.mk _ (di _ (by omega)) ?_ | with_reducible refine EqE.mk _ (bd _ (by omega)) ?_ | with_reducible refine EqE.mk _ (ek _ _ (by omega) (by omega)) ?_ | with_reducible refine EqE.mk _ (gl _ _ (by omega) (by omega)) ?_ | refine EqE.mk _ (dx _ 32 (by omega)) ?_ | with_reducible refine EqE.mk _ (cl _) ?_ | with_reducible refine EqE.mk _ (gu _) ?_ | with_reducible refine EqE.mk _ (ed _ (by omega)) ?_ | with_reducible refine EqE.mk _ (a6 _ (by omega)) ?_ | with_reducible refine EqE.mk _ (aq _ (by omega)) ?_ | with_reducible refine EqE.mk _ (n_iadd _ _ (by omega)) ?_ | with_reducible refine EqE.mk _ (wrap_u64 (by omega) (by omega)) ?_ | with_reducible refine EqE.mk _ (wrap_u32 _) ?_ | with_reducible refine EqE.mk _ (ah (by omega) (by omega)) ?_ | refine EqE.mk _ rfl ?_) | ((with_reducible refine EqE.idF ?_); first | with_reducible refine EqE.mk _ (cf _) ?_ | with_reducible refine EqE.mk _ (cx _ _ (by omega)) ?_ | with_reducible refine EqE.mk _ (bq _ _ (by omega)) ?_ | with_reducible refine EqE.mk _ (bg _) ?_ | refine EqE.mk _ (aj _ 4294967296 _ _ rfl) ?_ | refine EqE.mk _ (aj _ 65536 _ _ rfl) ?_ | refine EqE.mk _ (aj _ 256 _ _ rfl) ?_ | refine EqE.mk _ (aj _ 134217728 _ _ rfl) ?_ | refine EqE.mk _ (aj _ 2 _ _ rfl) ?_ | refine EqE.mk _ (aj _ 16 _ _ rfl) ?_ | refine EqE.mk _ rfl ?_) | ((with_reducible refine EqE.idM ?_); first | refine EqE.mk _ (bn _ 32) ?_ | refine EqE.mk _ (bn _ _) ?_ | refine EqE.mk _ rfl ?_) | ((with_reducible refine EqE.idI ?_); first | refine EqE.mk _ (gq _) ?_ | with_reducible refine EqE.mk _ (b8 _ _) ?_ | refine EqE.mk _ (max_eq _ _) ?_ | refine EqE.mk _ (min_eq _ _) ?_) | ((with_reducible refine EqE.idS ?_); first | refine EqE.mk _ (bl _ _ _ _ (by first | with_reducible exact ae _ | with_reducible exact ab _ | exact ae _ | exact ab _ | rfl) (by first | omega | (simp only [List.length_set]; omega)) (by omega)) ?_ | refine EqE.mk _ (dh _ _ _ _ (by first | with_reducible exact ae _ | with_reducible exact ab _ | exact ae _ | exact ab _ | rfl) (by omega) (by omega) (by omega)) ?_ | (refine EqE.fP ?_; (conv => whnf); fail_if_success (show ag _ _)) | refine EqE.mk _ rfl ?_) | ((with_reducible refine EqE.idA ?_); first | refine EqE.mk _ (cc _) ?_ | refine EqE.mk _ (dd _ _) ?_ | refine EqE.mk _ rfl ?_) | ((with_reducible refine EqE.idR ?_); first | refine EqE.mk _ (b7 _) ?_ | refine EqE.mk _ rfl ?_) | ((with_reducible refine EqE.idL ?_); first | refine EqE.mk _ (av _ _ _ _ (by omega) (by omega) rfl) ?_ | refine EqE.mk _ (bh _ _ (by omega)) ?_ | refine EqE.mk _ (bo _ _ _ (by omega) (by omega) (by omega)) ?_ | refine EqE.mk _ rfl ?_) | refine EqE.mk _ rfl ?_ | refine Cd.ro ?_ | refine Cd.dc ?_ | refine Cd.ob ?_ | refine Cd.ol ?_ | refine Cd.mk ⟨rfl, rfl⟩ ?_ | refine Cd.mk (bc _) ?_ | refine Cd.om ?_ | refine Cd.mk ?_ ?_ | refine DsE.mk [_] rfl ?_ | refine DsE.mk [_, _, _] rfl ?_)
 rfl
theorem afw : Sim Tryz.prog G0 true 275 [.int .i64 16] (.bool true) := by
 refine ck ax Tryz.func275 ?_
 repeat' ((conv => whnf); first | refine aw.data ?_ | refine rgE ?_ | refine Cd.mk rfl ?_ | refine Br.t ?_ | refine Br.f ?_ | with_reducible refine Br.dec (fun _ => ?_) (fun _ => ?_) | with_reducible refine Br.br (fun _ => ?_) (fun _ => ?_) | refine Br.mk (fun _ => ?_) (fun _ => ?_) | refine an.mk _ (az _ _ (by omega)) ?_ | refine an.mk _ (a1 _ _ (by omega)) ?_ | refine an.mk _ (cp _ _ _ (by first | with_reducible exact ae _ | with_reducible exact ab _ | exact ae _ | exact ab _ | rfl) (by first | omega | (simp only [List.length_set]; omega))) ?_ | refine an.mk _ rfl ?_ | refine And.intro (fun _ => ?_) ?_ | (refine TkE.fL ?_; (conv => whnf); fail_if_success (show ag _ _)) | refine TkE.mk _ rfl rfl ?_ | refine Res.mk ?_ | refine a7.mk (by repeat first | exact True.intro | refine And.intro (by kernel_rfl) ?_) ?_ | refine DsE.mk (a8 _) rfl ?_ | refine DsE.mk [] rfl ?_ | refine ai.cu _ _ ?_ | ((with_reducible refine EqE.idT ?_); first | ((conv => arg 1; simp only [ak, List.toList_toArray, ao, af, aa, Int.toNat_natCast, Int.toNat_zero, Int.toNat_one, b3, b4, List.drop_zero, Nat.sub_zero, List.cons_append, List.nil_append]); refine EqE.mk _ rfl ?_) | refine EqE.mk _ rfl ?_) | ((with_reducible refine EqE.idP ?_); first | ((conv => arg 1; simp only [ak, List.toList_toArray, bx, bz]); refine EqE.mk _ rfl ?_) | refine EqE.mk _ rfl ?_) | ((with_reducible refine EqE.idN ?_); first | ((conv => arg 1; simp only [ak, List.toList_toArray, aa, ba, Int.toNat_natCast, Int.toNat_zero, Int.toNat_one, List.length_cons, List.length_nil, Nat.zero_add]); refine EqE.mk _ rfl ?_)) | ((with_reducible refine EqE.idW ?_); first | refine EqE.mk 0 (by decide) ?_ | with_reducible refine EqE.mk _ (ar _) ?_ | with_reducible refine EqE.mk _ (dy _ _ (by omega)) ?_ | with_reducible refine EqE.mk _ (b6 _ (by omega)) ?_ | with_reducible refine EqE.mk _ (eh _ _ (by omega) (by omega)) ?_ | with_reducible refine EqE.mk _ (eg _ _ (by omega)) ?_ | with_reducible refine EqE.mk _ (ei _ _ (by omega) (by omega)) ?_ | with_reducible refine EqE.mk _ (c8 _ (by omega)) ?_ | with_reducible refine EqE.mk _ (di _ (by omega)) ?_ | with_reducible refine EqE.mk _ (bd _ (by omega)) ?_ | with_reducible refine EqE.mk _ (ek _ _ (by omega) (by omega)) ?_ | with_reducible refine EqE.mk _ (gl _ _ (by omega) (by omega)) ?_ | refine EqE.mk _ (dx _ 32 (by omega)) ?_ | with_reducible refine EqE.mk _ (cl _) ?_ | with_reducible refine EqE.mk _ (gu _) ?_ | with_reducible refine EqE.mk _ (ed _ (by omega)) ?_ | with_reducible refine EqE.mk _ (a6 _ (by omega)) ?_ | with_reducible refine EqE.mk _ (aq _ (by omega)) ?_ | with_reducible refine EqE.mk _ (n_iadd _ _ (by omega)) ?_ | with_reducible refine EqE.mk _ (wrap_u64 (by omega) (by omega)) ?_ | with_reducible refine EqE.mk _ (wrap_u32 _) ?_ | with_reducible refine EqE.mk _ (ah (by omega) (by omega)) ?_ | refine EqE.mk _ rfl ?_) | ((with_reducible refine EqE.idF ?_); first | with_reducible refine EqE.mk _ (cf _) ?_ | with_reducible refine EqE.mk _ (cx _ _ (by omega)) ?_ | with_reducible refine EqE.mk _ (bq _ _ (by omega)) ?_ | with_reducible refine EqE.mk _ (bg _) ?_ | refine EqE.mk _ (aj _ 4294967296 _ _ rfl) ?_ | refine EqE.mk _ (aj _ 65536 _ _ rfl) ?_ | refine EqE.mk _ (aj _ 256 _ _ rfl) ?_ | refine EqE.mk _ (aj _ 134217728 _ _ rfl) ?_ | refine EqE.mk _ (aj _ 2 _ _ rfl) ?_ | refine EqE.mk _ (aj _ 16 _ _ rfl) ?_ | refine EqE.mk _ rfl ?_) | ((with_reducible refine EqE.idM ?_); first | refine EqE.mk _ (bn _ 32) ?_ | refine EqE.mk _ (bn _ _) ?_ | refine EqE.mk _ rfl ?_) | ((with_reducible refine EqE.idI ?_); first | refine EqE.mk _ (gq _) ?_ | with_reducible refine EqE.mk _ (b8 _ _) ?_ | refine EqE.mk _ (max_eq _ _) ?_ | refine EqE.mk _ (min_eq _ _) ?_) | ((with_reducible refine EqE.idS ?_); first | refine EqE.mk _ (bl _ _ _ _ (by first | with_reducible exact ae _ | with_reducible exact ab _ | exact ae _ | exact ab _ | rfl) (by first | omega | (simp only [List.length_set]; omega)) (by omega)) ?_ | refine EqE.mk _ (dh _ _ _ _ (by first | with_reducible exact ae _ | with_reducible exact ab _ | exact ae _ | exact ab _ | rfl) (by omega) (by omega) (by omega)) ?_ | (refine EqE.fP ?_; (conv => whnf); fail_if_success (show ag _ _)) | refine EqE.mk _ rfl ?_) | ((with_reducible refine EqE.idA ?_); first | refine EqE.mk _ (cc _) ?_ | refine EqE.mk _ (dd _ _) ?_ | refine EqE.mk _ rfl ?_) | ((with_reducible refine EqE.idR ?_); first | refine EqE.mk _ (b7 _) ?_ | refine EqE.mk _ rfl ?_) | ((with_reducible refine EqE.idL ?_); first | refine EqE.mk _ (av _ _ _ _ (by omega) (by omega) rfl) ?_ | refine EqE.mk _ (bh _ _ (by omega)) ?_ | refine EqE.mk _ (bo _ _ _ (by omega) (by omega) (by omega)) ?_ | refine EqE.mk _ rfl ?_) | refine EqE.mk _ rfl ?_ | refine Cd.ro ?_ | refine Cd.dc ?_ | refine Cd.ob ?_ | refine Cd.ol ?_ | refine Cd.mk ⟨rfl, rfl⟩ ?_ | refine Cd.mk (bc _) ?_ | refine Cd.om ?_ | refine Cd.mk ?_ ?_ | refine DsE.mk [_] rfl ?_ | refine DsE.mk [_, _, _] rfl ?_)
 rfl
theorem ahr {l : List UInt8} {i o : Nat} {x : UInt8} {e : Int} (ho : o = i) (he : e = ((x.toNat : Nat) : Int)) : setAt (lb l) o [A.d (.int .u8 e)] = lb (l.set i x) := by
 subst ho he
 simp [setAt, lb, List.map_set]
theorem drop_set {l : List UInt8} {i : Nat} {x : UInt8} (h : i < l.length) : (l.set i x).drop i = x :: l.drop (i + 1) := by
 rw [List.drop_eq_getElem_cons (by simpa using h), List.drop_set, if_pos (by omega)]
 simp
theorem al4 {l m : List UInt8} {o i n : Nat} (ho : o = i) (hm : l.drop i = m) (hn : l.length - i ≤ n) : ((lbD l).drop o).take n = m.map fun x => D.int .u8 (x.toNat : Int) := by
 subst ho hm
 rw [lbD, ← List.map_drop, List.take_of_length_le (by simpa using hn)]
theorem al3 (ks : List Nat) (k : Nat) (f : Bool) (l : List UInt8) : List.all [(k, f, lb l)] (fun x => A.bm ks x.2.2) = true := by
 simp [zy]
theorem ak6 {d : Nat} (h : d < 16) : (((nth 0 (ByteArray.mk #[48, 49, 50, 51, 52, 53, 54, 55, 56, 57, 97, 98, 99, 100, 101, 102, 103, 104, 105, 106, 107, 108, 109, 110, 111, 112, 113, 114, 115, 116, 117, 118, 119, 120, 121, 122]).data.toList ((d : Nat) : Int).toNat).toNat : Nat) : Int) = (((ch d).toNat : Nat) : Int) := by
 rw [Int.toNat_natCast]
 have : ∀ d : Fin 16, nth 0 #[(48 : UInt8), 49, 50, 51, 52, 53, 54, 55, 56, 57, 97, 98, 99, 100, 101, 102, 103, 104, 105, 106, 107, 108, 109, 110, 111, 112, 113, 114, 115, 116, 117, 118, 119, 120, 121, 122].toList d.1 = ch d.1 := by decide
 rw [show (nth 0 (ByteArray.mk #[48, 49, 50, 51, 52, 53, 54, 55, 56, 57, 97, 98, 99, 100, 101, 102, 103, 104, 105, 106, 107, 108, 109, 110, 111, 112, 113, 114, 115, 116, 117, 118, 119, 120, 121, 122]).data.toList d) = ch d from this ⟨d, h⟩]
theorem agw {m : Nat} (h : m < 4294967296) : IntKind.u64.wrap (BitVec.ofInt IntKind.u64.bits ((m : Nat) : Int) &&& BitVec.ofInt IntKind.u64.bits 15).toNat = ((m % 16 : Nat) : Int) := by
 have := ek m 15 (by omega) (by omega)
 rw [show ((15 : Nat) : Int) = 15 from rfl] at this
 rw [this, show (15 : Nat) = 2 ^ 4 - 1 from rfl, Nat.and_two_pow_sub_one_eq_mod]
theorem aic {i : Nat} (h : 0 < i) (h2 : i < 1000) : IntKind.i64.wrap ((i : Int) - 1) = ((i - 1 : Nat) : Int) := by rw [ah (by omega) (by omega)]; omega
theorem am9 {i : Nat} : 0 + ((i : Nat) : Int).toNat * 1 = i := by rw [Int.toNat_natCast]; omega
theorem alu {b v : Nat} (hb : 2 ≤ b) (h0 : v ≠ 0) (h : v < b) : dg b v = [v] := by rw [fw hb h0, Nat.div_eq_of_lt h, en, Nat.mod_eq_of_lt h]; rfl
set_option maxHeartbeats 1000000 in
theorem aco (v : Nat) (h : v < 4294967296) : Sim Tryz.prog G0 false 246 [.slice 0 [], .int .u64 v, .int .i64 16, .bool false, .bool false] (.tup [.slice 0 [], .str (bst (fu 16 v))]) := by
 refine ck ax Tryz.func246 ?_
 repeat' ((conv => whnf); first | refine aw.data ?_ | with_reducible refine Br.bt fun _ => ?_ | with_reducible refine Br.bf fun _ => ?_ | refine cE afw ?_ | refine cE amm ?_ | refine rgE ?_ | refine Cd.mk rfl ?_ | refine Br.t ?_ | refine Br.f ?_ | with_reducible refine Br.dec (fun _ => ?_) (fun _ => ?_) | with_reducible refine Br.br (fun _ => ?_) (fun _ => ?_) | refine Br.mk (fun _ => ?_) (fun _ => ?_) | refine an.mk _ (az _ _ (by omega)) ?_ | refine an.mk _ (a1 _ _ (by omega)) ?_ | refine an.mk _ (cp _ _ _ (by first | with_reducible exact ae _ | with_reducible exact ab _ | exact ae _ | exact ab _ | rfl) (by first | omega | (simp only [List.length_set]; omega))) ?_ | refine an.mk _ rfl ?_ | refine And.intro (fun _ => ?_) ?_ | (refine TkE.fL ?_; (conv => whnf); fail_if_success (show ag _ _)) | refine TkE.mk _ rfl rfl ?_ | refine Res.mk ?_ | refine a7.mk (by repeat first | exact True.intro | refine And.intro (by kernel_rfl) ?_) ?_ | refine DsE.mk (a8 _) rfl ?_ | refine DsE.mk [] rfl ?_ | refine ai.cu _ _ ?_ | ((with_reducible refine EqE.idT ?_); first | ((conv => arg 1; simp only [ak, List.toList_toArray, ao, af, aa, Int.toNat_natCast, Int.toNat_zero, Int.toNat_one, b3, b4, List.drop_zero, Nat.sub_zero, List.cons_append, List.nil_append]); refine EqE.mk _ rfl ?_) | refine EqE.mk _ rfl ?_) | ((with_reducible refine EqE.idP ?_); first | ((conv => arg 1; simp only [ak, List.toList_toArray, bx, bz]); refine EqE.mk _ rfl ?_) | refine EqE.mk _ rfl ?_) | ((with_reducible refine EqE.idN ?_); first | ((conv => arg 1; simp only [ak, List.toList_toArray, aa, ba, Int.toNat_natCast, Int.toNat_zero, Int.toNat_one, List.length_cons, List.length_nil, Nat.zero_add]); refine EqE.mk _ rfl ?_)) | ((with_reducible refine EqE.idW ?_); first | refine EqE.mk 16 (by decide) ?_ | refine EqE.mk 15 (by decide) ?_ | refine EqE.mk 4 (by decide) ?_ | with_reducible refine EqE.mk _ (ar _) ?_ | with_reducible refine EqE.mk _ (dy _ _ (by omega)) ?_ | with_reducible refine EqE.mk _ (b6 _ (by omega)) ?_ | with_reducible refine EqE.mk _ (eh _ _ (by omega) (by omega)) ?_ | with_reducible refine EqE.mk _ (eg _ _ (by omega)) ?_ | with_reducible refine EqE.mk _ (ei _ _ (by omega) (by omega)) ?_ | with_reducible refine EqE.mk _ (c8 _ (by omega)) ?_ | with_reducible refine EqE.mk _ (di _ (by omega)) ?_ | with_reducible refine EqE.mk _ (bd _ (by omega)) ?_ | with_reducible refine EqE.mk _ (ek _ _ (by omega) (by omega)) ?_ | with_reducible refine EqE.mk _ (gl _ _ (by omega) (by omega)) ?_ | refine EqE.mk _ (dx _ 32 (by omega)) ?_ | with_reducible refine EqE.mk _ (cl _) ?_ | with_reducible refine EqE.mk _ (gu _) ?_ | with_reducible refine EqE.mk _ (ed _ (by omega)) ?_ | with_reducible refine EqE.mk _ (a6 _ (by omega)) ?_ | with_reducible refine EqE.mk _ (aq _ (by omega)) ?_ | with_reducible refine EqE.mk _ (n_iadd _ _ (by omega)) ?_ | with_reducible refine EqE.mk _ (wrap_u64 (by omega) (by omega)) ?_ | with_reducible refine EqE.mk _ (wrap_u32 _) ?_ | with_reducible refine EqE.mk _ (ah (by omega) (by omega)) ?_ | refine EqE.mk _ rfl ?_) | ((with_reducible refine EqE.idF ?_); first | with_reducible refine EqE.mk _ (cf _) ?_ | with_reducible refine EqE.mk _ (cx _ _ (by omega)) ?_ | with_reducible refine EqE.mk _ (bq _ _ (by omega)) ?_ | with_reducible refine EqE.mk _ (bg _) ?_ | refine EqE.mk _ (aj _ 4294967296 _ _ rfl) ?_ | refine EqE.mk _ (aj _ 65536 _ _ rfl) ?_ | refine EqE.mk _ (aj _ 256 _ _ rfl) ?_ | refine EqE.mk _ (aj _ 134217728 _ _ rfl) ?_ | refine EqE.mk _ (aj _ 2 _ _ rfl) ?_ | refine EqE.mk _ (aj _ 16 _ _ rfl) ?_ | refine EqE.mk _ rfl ?_) | ((with_reducible refine EqE.idM ?_); first | refine EqE.mk _ (bn _ 32) ?_ | refine EqE.mk _ (bn _ _) ?_ | refine EqE.mk _ rfl ?_) | ((with_reducible refine EqE.idI ?_); first | refine EqE.mk _ (gq _) ?_ | with_reducible refine EqE.mk _ (b8 _ _) ?_ | refine EqE.mk _ (max_eq _ _) ?_ | refine EqE.mk _ (min_eq _ _) ?_) | ((with_reducible refine EqE.idS ?_); first | refine EqE.mk _ (bl _ _ _ _ (by first | with_reducible exact ae _ | with_reducible exact ab _ | exact ae _ | exact ab _ | rfl) (by first | omega | (simp only [List.length_set]; omega)) (by omega)) ?_ | refine EqE.mk _ (dh _ _ _ _ (by first | with_reducible exact ae _ | with_reducible exact ab _ | exact ae _ | exact ab _ | rfl) (by omega) (by omega) (by omega)) ?_ | (refine EqE.fP ?_; (conv => whnf); fail_if_success (show ag _ _)) | refine EqE.mk _ rfl ?_) | ((with_reducible refine EqE.idA ?_); first | refine EqE.mk _ (cc _) ?_ | refine EqE.mk _ (dd _ _) ?_ | refine EqE.mk _ rfl ?_) | ((with_reducible refine EqE.idR ?_); first | refine EqE.mk _ (b7 _) ?_ | refine EqE.mk _ rfl ?_) | ((with_reducible refine EqE.idL ?_); first | refine EqE.mk _ (av _ _ _ _ (by omega) (by omega) rfl) ?_ | refine EqE.mk _ (bh _ _ (by omega)) ?_ | refine EqE.mk _ (bo _ _ _ (by omega) (by omega) (by omega)) ?_ | refine EqE.mk _ rfl ?_) | refine EqE.mk _ rfl ?_ | refine Cd.ro ?_ | refine Cd.dc ?_ | refine Cd.ob ?_ | refine Cd.ol ?_ | refine Cd.mk ⟨rfl, rfl⟩ ?_ | refine Cd.mk (bc _) ?_ | refine Cd.om ?_ | refine Cd.mk ?_ ?_ | refine DsE.mk [_] rfl ?_ | refine DsE.mk [_, _, _] rfl ?_)
 refine ⟨[], [1, 2, 3, 4, 12, 13, 14, 15, 16, 10], [12], fun m xs h => ∃ (u i : Nat) (l : List UInt8) (ds : List Nat), m = u ∧ u ≤ v ∧ (v ≠ 0 → u ≠ 0) ∧ l.length = 65 ∧ i + ds.length = 65 ∧ l.drop i = ds.map ch ∧ dg 16 v = dg 16 u ++ ds ∧
   xs = [.d (.int .u64 u), .d (.int .i64 16), .d (.bool false), .d (.bool false), .ptr 12 0, .d (.int .i64 i), .d (.int .u64 4), .d (.int .u64 16), .d (.int .u64 15), .d .nil] ∧ h = [(12, false, lb l)],
  ⟨_, _, _, ⟨.inl rfl, rfl, rfl, by first | rfl | (repeat first | exact all_nil _ | refine cb _ _ _ _ _ ?_)⟩, v, 65, List.replicate 65 0, [], rfl, Nat.le_refl _, fun h => h, by simp, by simp, by simp, by simp, rfl, rfl⟩, ?_⟩
 rintro m xs h ⟨_, i, l, ds, rfl, hm, hz, hl, hi, hd, hg, rfl, rfl⟩
 have hn := od (b := 16) (by omega) 8 v (by omega)
 have hL : (lb l).length = 65 := by simpa [lb] using hl
 have hds : (dg 16 m).length + ds.length ≤ 8 := by rw [hg, List.length_append] at hn; exact hn
 by_cases hb : 16 ≤ m
 ·have h0 : m ≠ 0 := by omega
  rw [fw (by omega) h0, List.length_append] at hds
  simp only [List.length_singleton] at hds
  repeat' ((conv => whnf); first | refine aw.data ?_ | with_reducible refine Br.bt fun _ => ?_ | refine ai.cu _ _ ?_ (cut := ⟨.inl rfl, rfl, rfl, al3 _ _ _ _⟩) | refine rgE ?_ | refine Cd.mk rfl ?_ | refine Br.t ?_ | refine Br.f ?_ | with_reducible refine Br.dec (fun _ => ?_) (fun _ => ?_) | with_reducible refine Br.br (fun _ => ?_) (fun _ => ?_) | refine Br.mk (fun _ => ?_) (fun _ => ?_) | refine an.mk _ (az _ _ (by omega)) ?_ | refine an.mk _ (a1 _ _ (by omega)) ?_ | refine an.mk _ (cp _ _ _ (by first | with_reducible exact ae _ | with_reducible exact ab _ | exact ae _ | exact ab _ | rfl) (by first | omega | (simp only [List.length_set]; omega))) ?_ | refine an.mk _ rfl ?_ | refine And.intro (fun _ => ?_) ?_ | (refine TkE.fL ?_; (conv => whnf); fail_if_success (show ag _ _)) | refine TkE.mk _ rfl rfl ?_ | refine Res.mk ?_ | refine a7.mk (by repeat first | exact True.intro | refine And.intro (by kernel_rfl) ?_) ?_ | refine DsE.mk (a8 _) rfl ?_ | refine DsE.mk [] rfl ?_ | refine ai.cu _ _ ?_ | ((with_reducible refine EqE.idT ?_); first | ((conv => arg 1; simp only [ak, List.toList_toArray, ao, af, aa, Int.toNat_natCast, Int.toNat_zero, Int.toNat_one, b3, b4, List.drop_zero, Nat.sub_zero, List.cons_append, List.nil_append]); refine EqE.mk _ rfl ?_) | refine EqE.mk _ rfl ?_) | ((with_reducible refine EqE.idP ?_); first | ((conv => arg 1; simp only [ak, List.toList_toArray, bx, bz]); refine EqE.mk _ rfl ?_) | refine EqE.mk _ rfl ?_) | ((with_reducible refine EqE.idN ?_); first | refine EqE.mk _ (ak6 (d := m % 16) (Nat.mod_lt _ (by omega))) ?_ | ((conv => arg 1; simp only [ak, List.toList_toArray, aa, ba, Int.toNat_natCast, Int.toNat_zero, Int.toNat_one, List.length_cons, List.length_nil, Nat.zero_add]); refine EqE.mk _ rfl ?_)) | ((with_reducible refine EqE.idW ?_); first | refine EqE.mk _ (agw (m := m) (by omega)) ?_ | refine EqE.mk _ (aic (i := i) (by omega) (by omega)) ?_ | with_reducible refine EqE.mk _ (ar _) ?_ | with_reducible refine EqE.mk _ (dy _ _ (by omega)) ?_ | with_reducible refine EqE.mk _ (b6 _ (by omega)) ?_ | with_reducible refine EqE.mk _ (eh _ _ (by omega) (by omega)) ?_ | with_reducible refine EqE.mk _ (eg _ _ (by omega)) ?_ | with_reducible refine EqE.mk _ (ei _ _ (by omega) (by omega)) ?_ | with_reducible refine EqE.mk _ (c8 _ (by omega)) ?_ | with_reducible refine EqE.mk _ (di _ (by omega)) ?_ | with_reducible refine EqE.mk _ (bd _ (by omega)) ?_ | with_reducible refine EqE.mk _ (ek _ _ (by omega) (by omega)) ?_ | with_reducible refine EqE.mk _ (gl _ _ (by omega) (by omega)) ?_ | refine EqE.mk _ (dx _ 32 (by omega)) ?_ | with_reducible refine EqE.mk _ (cl _) ?_ | with_reducible refine EqE.mk _ (gu _) ?_ | with_reducible refine EqE.mk _ (ed _ (by omega)) ?_ | with_reducible refine EqE.mk _ (a6 _ (by omega)) ?_ | with_reducible refine EqE.mk _ (aq _ (by omega)) ?_ | with_reducible refine EqE.mk _ (n_iadd _ _ (by omega)) ?_ | with_reducible refine EqE.mk _ (wrap_u64 (by omega) (by omega)) ?_ | with_reducible refine EqE.mk _ (wrap_u32 _) ?_ | with_reducible refine EqE.mk _ (ah (by omega) (by omega)) ?_ | refine EqE.mk _ rfl ?_) | ((with_reducible refine EqE.idF ?_); first | with_reducible refine EqE.mk _ (cf _) ?_ | with_reducible refine EqE.mk _ (cx _ _ (by omega)) ?_ | with_reducible refine EqE.mk _ (bq _ _ (by omega)) ?_ | with_reducible refine EqE.mk _ (bg _) ?_ | refine EqE.mk _ (aj _ 4294967296 _ _ rfl) ?_ | refine EqE.mk _ (aj _ 65536 _ _ rfl) ?_ | refine EqE.mk _ (aj _ 256 _ _ rfl) ?_ | refine EqE.mk _ (aj _ 134217728 _ _ rfl) ?_ | refine EqE.mk _ (aj _ 2 _ _ rfl) ?_ | refine EqE.mk _ (aj _ 16 _ _ rfl) ?_ | refine EqE.mk _ rfl ?_) | ((with_reducible refine EqE.idM ?_); first | refine EqE.mk _ (bn _ 32) ?_ | refine EqE.mk _ (bn _ _) ?_ | refine EqE.mk _ rfl ?_) | ((with_reducible refine EqE.idI ?_); first | refine EqE.mk _ (gq _) ?_ | with_reducible refine EqE.mk _ (b8 _ _) ?_ | refine EqE.mk _ (max_eq _ _) ?_ | refine EqE.mk _ (min_eq _ _) ?_) | ((with_reducible refine EqE.idS ?_); first | refine EqE.mk _ (ahr (i := i - 1) (x := ch (m % 16)) am9 rfl) ?_ | refine EqE.mk _ (bl _ _ _ _ (by first | with_reducible exact ae _ | with_reducible exact ab _ | exact ae _ | exact ab _ | rfl) (by first | omega | (simp only [List.length_set]; omega)) (by omega)) ?_ | refine EqE.mk _ (dh _ _ _ _ (by first | with_reducible exact ae _ | with_reducible exact ab _ | exact ae _ | exact ab _ | rfl) (by omega) (by omega) (by omega)) ?_ | (refine EqE.fP ?_; (conv => whnf); fail_if_success (show ag _ _)) | refine EqE.mk _ rfl ?_) | ((with_reducible refine EqE.idA ?_); first | refine EqE.mk _ (cc _) ?_ | refine EqE.mk _ (dd _ _) ?_ | refine EqE.mk _ rfl ?_) | ((with_reducible refine EqE.idR ?_); first | refine EqE.mk _ (b7 _) ?_ | refine EqE.mk _ rfl ?_) | ((with_reducible refine EqE.idL ?_); first | refine EqE.mk _ (av _ _ _ _ (by omega) (by omega) rfl) ?_ | refine EqE.mk _ (bh _ _ (by omega)) ?_ | refine EqE.mk _ (bo _ _ _ (by omega) (by omega) (by omega)) ?_ | refine EqE.mk _ rfl ?_) | refine EqE.mk _ rfl ?_ | refine Cd.ro ?_ | refine Cd.dc ?_ | refine Cd.ob ?_ | refine Cd.ol ?_ | refine Cd.mk ⟨rfl, rfl⟩ ?_ | refine Cd.mk (bc _) ?_ | refine Cd.om ?_ | refine Cd.mk ?_ ?_ | refine DsE.mk [_] rfl ?_ | refine DsE.mk [_, _, _] rfl ?_)
  refine ⟨_, ⟨m / 16, i - 1, l.set (i - 1) (ch (m % 16)), (m % 16) :: ds, rfl, Nat.le_trans (Nat.div_le_self _ _) hm, by omega, by simpa using hl, by simp only [List.length_cons]; omega, ?_, ?_, rfl, rfl⟩, Nat.div_lt_self (by omega) (by omega)⟩
  ·rw [drop_set (by omega), show i - 1 + 1 = i by omega, hd]; rfl
  ·rw [hg, fw (by omega) h0, List.append_assoc]; rfl
 ·have hi1 : 0 < i := by omega
  have hr : (l.set (i - 1) (ch m)).drop (i - 1) = fu 16 v := by
   rw [drop_set (by omega), show i - 1 + 1 = i by omega, hd, fu]
   by_cases hv : v = 0
   ·subst hv
    have hm0 : m = 0 := by omega
    subst hm0
    rw [en, List.nil_append] at hg
    rw [if_pos rfl, ← hg]; rfl
   ·rw [if_neg hv, hg, alu (by omega) (hz hv) (by omega)]; rfl
  have hL2 : (lb (l.set (i - 1) (ch m))).length = 65 := by simpa [lb] using hl
  have hl2 : (l.set (i - 1) (ch m)).length = 65 := by simpa using hl
  repeat' ((conv => whnf); first | refine aw.data ?_ | with_reducible refine Br.bf fun _ => ?_ | refine DsE.mk _ (ahp _) ?_ | refine BtE.mk _ (al4 (i := i - 1) (o := _) (by dsimp only; omega) hr (by rw [hl2]; omega)) ?_ | refine rgE ?_ | refine Cd.mk rfl ?_ | refine Br.t ?_ | refine Br.f ?_ | with_reducible refine Br.dec (fun _ => ?_) (fun _ => ?_) | with_reducible refine Br.br (fun _ => ?_) (fun _ => ?_) | refine Br.mk (fun _ => ?_) (fun _ => ?_) | refine an.mk _ (az _ _ (by omega)) ?_ | refine an.mk _ (a1 _ _ (by omega)) ?_ | refine an.mk _ (cp _ _ _ (by first | with_reducible exact ae _ | with_reducible exact ab _ | exact ae _ | exact ab _ | rfl) (by first | omega | (simp only [List.length_set]; omega))) ?_ | refine an.mk _ rfl ?_ | refine And.intro (fun _ => ?_) ?_ | (refine TkE.fL ?_; (conv => whnf); fail_if_success (show ag _ _)) | refine TkE.mk _ rfl rfl ?_ | refine Res.mk ?_ | refine a7.mk (by repeat first | exact True.intro | refine And.intro (by kernel_rfl) ?_) ?_ | refine DsE.mk (a8 _) rfl ?_ | refine DsE.mk [] rfl ?_ | refine ai.cu _ _ ?_ | ((with_reducible refine EqE.idT ?_); first | ((conv => arg 1; simp only [ak, List.toList_toArray, ao, af, aa, Int.toNat_natCast, Int.toNat_zero, Int.toNat_one, b3, b4, List.drop_zero, Nat.sub_zero, List.cons_append, List.nil_append]); refine EqE.mk _ rfl ?_) | refine EqE.mk _ rfl ?_) | ((with_reducible refine EqE.idP ?_); first | ((conv => arg 1; simp only [ak, List.toList_toArray, bx, bz]); refine EqE.mk _ rfl ?_) | refine EqE.mk _ rfl ?_) | ((with_reducible refine EqE.idN ?_); first | refine EqE.mk _ (ak6 (d := m) (by omega)) ?_ | ((conv => arg 1; simp only [ak, List.toList_toArray, aa, ba, Int.toNat_natCast, Int.toNat_zero, Int.toNat_one, List.length_cons, List.length_nil, Nat.zero_add]); refine EqE.mk _ rfl ?_)) | ((with_reducible refine EqE.idW ?_); first | refine EqE.mk _ (aic (i := i) (by omega) (by omega)) ?_ | with_reducible refine EqE.mk _ (ar _) ?_ | with_reducible refine EqE.mk _ (dy _ _ (by omega)) ?_ | with_reducible refine EqE.mk _ (b6 _ (by omega)) ?_ | with_reducible refine EqE.mk _ (eh _ _ (by omega) (by omega)) ?_ | with_reducible refine EqE.mk _ (eg _ _ (by omega)) ?_ | with_reducible refine EqE.mk _ (ei _ _ (by omega) (by omega)) ?_ | with_reducible refine EqE.mk _ (c8 _ (by omega)) ?_ | with_reducible refine EqE.mk _ (di _ (by omega)) ?_ | with_reducible refine EqE.mk _ (bd _ (by omega)) ?_ | with_reducible refine EqE.mk _ (ek _ _ (by omega) (by omega)) ?_ | with_reducible refine EqE.mk _ (gl _ _ (by omega) (by omega)) ?_ | refine EqE.mk _ (dx _ 32 (by omega)) ?_ | with_reducible refine EqE.mk _ (cl _) ?_ | with_reducible refine EqE.mk _ (gu _) ?_ | with_reducible refine EqE.mk _ (ed _ (by omega)) ?_ | with_reducible refine EqE.mk _ (a6 _ (by omega)) ?_ | with_reducible refine EqE.mk _ (aq _ (by omega)) ?_ | with_reducible refine EqE.mk _ (n_iadd _ _ (by omega)) ?_ | with_reducible refine EqE.mk _ (wrap_u64 (by omega) (by omega)) ?_ | with_reducible refine EqE.mk _ (wrap_u32 _) ?_ | with_reducible refine EqE.mk _ (ah (by omega) (by omega)) ?_ | refine EqE.mk _ rfl ?_) | ((with_reducible refine EqE.idF ?_); first | with_reducible refine EqE.mk _ (cf _) ?_ | with_reducible refine EqE.mk _ (cx _ _ (by omega)) ?_ | with_reducible refine EqE.mk _ (bq _ _ (by omega)) ?_ | with_reducible refine EqE.mk _ (bg _) ?_ | refine EqE.mk _ (aj _ 4294967296 _ _ rfl) ?_ | refine EqE.mk _ (aj _ 65536 _ _ rfl) ?_ | refine EqE.mk _ (aj _ 256 _ _ rfl) ?_ | refine EqE.mk _ (aj _ 134217728 _ _ rfl) ?_ | refine EqE.mk _ (aj _ 2 _ _ rfl) ?_ | refine EqE.mk _ (aj _ 16 _ _ rfl) ?_ | refine EqE.mk _ rfl ?_) | ((with_reducible refine EqE.idM ?_); first | refine EqE.mk _ (bn _ 32) ?_ | refine EqE.mk _ (bn _ _) ?_ | refine EqE.mk _ rfl ?_) | ((with_reducible refine EqE.idI ?_); first | refine EqE.mk _ (gq _) ?_ | with_reducible refine EqE.mk _ (b8 _ _) ?_ | refine EqE.mk _ (max_eq _ _) ?_ | refine EqE.mk _ (min_eq _ _) ?_) | ((with_reducible refine EqE.idS ?_); first | refine EqE.mk _ (ahr (i := i - 1) (x := ch m) am9 rfl) ?_ | refine EqE.mk _ (bl _ _ _ _ (by first | with_reducible exact ae _ | with_reducible exact ab _ | exact ae _ | exact ab _ | rfl) (by first | omega | (simp only [List.length_set]; omega)) (by omega)) ?_ | refine EqE.mk _ (dh _ _ _ _ (by first | with_reducible exact ae _ | with_reducible exact ab _ | exact ae _ | exact ab _ | rfl) (by omega) (by omega) (by omega)) ?_ | (refine EqE.fP ?_; (conv => whnf); fail_if_success (show ag _ _)) | refine EqE.mk _ rfl ?_) | ((with_reducible refine EqE.idA ?_); first | refine EqE.mk _ (cc _) ?_ | refine EqE.mk _ (dd _ _) ?_ | refine EqE.mk _ rfl ?_) | ((with_reducible refine EqE.idR ?_); first | refine EqE.mk _ (b7 _) ?_ | refine EqE.mk _ rfl ?_) | ((with_reducible refine EqE.idL ?_); first | refine EqE.mk _ (av _ _ _ _ (by omega) (by omega) rfl) ?_ | refine EqE.mk _ (bh _ _ (by omega)) ?_ | refine EqE.mk _ (bo _ _ _ (by omega) (by omega) (by omega)) ?_ | refine EqE.mk _ rfl ?_) | refine EqE.mk _ rfl ?_ | refine Cd.ro ?_ | refine Cd.dc ?_ | refine Cd.ob ?_ | refine Cd.ol ?_ | refine Cd.mk ⟨rfl, rfl⟩ ?_ | refine Cd.mk (bc _) ?_ | refine Cd.om ?_ | refine Cd.mk ?_ ?_ | refine DsE.mk [_] rfl ?_ | refine DsE.mk [_, _, _] rfl ?_)
  show D.tup _ = D.tup _
  rw [n6]; rfl
theorem ac6 (v : Nat) (h : v < 4294967296) : Sim Tryz.prog G0 true 208 [.int .u64 v, .int .i64 16] (.str (bst (fu 16 v))) := by
 have s := aco v h
 refine ck ax Tryz.func208 ?_
 repeat' ((conv => whnf); first | refine aw.data ?_ | with_reducible refine Br.bf fun _ => ?_ | refine cE s ?_ | refine rgE ?_ | refine Cd.mk rfl ?_ | refine Br.t ?_ | refine Br.f ?_ | with_reducible refine Br.dec (fun _ => ?_) (fun _ => ?_) | with_reducible refine Br.br (fun _ => ?_) (fun _ => ?_) | refine Br.mk (fun _ => ?_) (fun _ => ?_) | refine an.mk _ (az _ _ (by omega)) ?_ | refine an.mk _ (a1 _ _ (by omega)) ?_ | refine an.mk _ (cp _ _ _ (by first | with_reducible exact ae _ | with_reducible exact ab _ | exact ae _ | exact ab _ | rfl) (by first | omega | (simp only [List.length_set]; omega))) ?_ | refine an.mk _ rfl ?_ | refine And.intro (fun _ => ?_) ?_ | (refine TkE.fL ?_; (conv => whnf); fail_if_success (show ag _ _)) | refine TkE.mk _ rfl rfl ?_ | refine Res.mk ?_ | refine a7.mk (by repeat first | exact True.intro | refine And.intro (by kernel_rfl) ?_) ?_ | refine DsE.mk (a8 _) rfl ?_ | refine DsE.mk [] rfl ?_ | refine ai.cu _ _ ?_ | ((with_reducible refine EqE.idT ?_); first | ((conv => arg 1; simp only [ak, List.toList_toArray, ao, af, aa, Int.toNat_natCast, Int.toNat_zero, Int.toNat_one, b3, b4, List.drop_zero, Nat.sub_zero, List.cons_append, List.nil_append]); refine EqE.mk _ rfl ?_) | refine EqE.mk _ rfl ?_) | ((with_reducible refine EqE.idP ?_); first | ((conv => arg 1; simp only [ak, List.toList_toArray, bx, bz]); refine EqE.mk _ rfl ?_) | refine EqE.mk _ rfl ?_) | ((with_reducible refine EqE.idN ?_); first | ((conv => arg 1; simp only [ak, List.toList_toArray, aa, ba, Int.toNat_natCast, Int.toNat_zero, Int.toNat_one, List.length_cons, List.length_nil, Nat.zero_add]); refine EqE.mk _ rfl ?_)) | ((with_reducible refine EqE.idW ?_); first | with_reducible refine EqE.mk _ (ar _) ?_ | with_reducible refine EqE.mk _ (dy _ _ (by omega)) ?_ | with_reducible refine EqE.mk _ (b6 _ (by omega)) ?_ | with_reducible refine EqE.mk _ (eh _ _ (by omega) (by omega)) ?_ | with_reducible refine EqE.mk _ (eg _ _ (by omega)) ?_ | with_reducible refine EqE.mk _ (ei _ _ (by omega) (by omega)) ?_ | with_reducible refine EqE.mk _ (c8 _ (by omega)) ?_ | with_reducible refine EqE.mk _ (di _ (by omega)) ?_ | with_reducible refine EqE.mk _ (bd _ (by omega)) ?_ | with_reducible refine EqE.mk _ (ek _ _ (by omega) (by omega)) ?_ | with_reducible refine EqE.mk _ (gl _ _ (by omega) (by omega)) ?_ | refine EqE.mk _ (dx _ 32 (by omega)) ?_ | with_reducible refine EqE.mk _ (cl _) ?_ | with_reducible refine EqE.mk _ (gu _) ?_ | with_reducible refine EqE.mk _ (ed _ (by omega)) ?_ | with_reducible refine EqE.mk _ (a6 _ (by omega)) ?_ | with_reducible refine EqE.mk _ (aq _ (by omega)) ?_ | with_reducible refine EqE.mk _ (n_iadd _ _ (by omega)) ?_ | with_reducible refine EqE.mk _ (wrap_u64 (by omega) (by omega)) ?_ | with_reducible refine EqE.mk _ (wrap_u32 _) ?_ | with_reducible refine EqE.mk _ (ah (by omega) (by omega)) ?_ | refine EqE.mk _ rfl ?_) | ((with_reducible refine EqE.idF ?_); first | with_reducible refine EqE.mk _ (cf _) ?_ | with_reducible refine EqE.mk _ (cx _ _ (by omega)) ?_ | with_reducible refine EqE.mk _ (bq _ _ (by omega)) ?_ | with_reducible refine EqE.mk _ (bg _) ?_ | refine EqE.mk _ (aj _ 4294967296 _ _ rfl) ?_ | refine EqE.mk _ (aj _ 65536 _ _ rfl) ?_ | refine EqE.mk _ (aj _ 256 _ _ rfl) ?_ | refine EqE.mk _ (aj _ 134217728 _ _ rfl) ?_ | refine EqE.mk _ (aj _ 2 _ _ rfl) ?_ | refine EqE.mk _ (aj _ 16 _ _ rfl) ?_ | refine EqE.mk _ rfl ?_) | ((with_reducible refine EqE.idM ?_); first | refine EqE.mk _ (bn _ 32) ?_ | refine EqE.mk _ (bn _ _) ?_ | refine EqE.mk _ rfl ?_) | ((with_reducible refine EqE.idI ?_); first | refine EqE.mk _ (gq _) ?_ | with_reducible refine EqE.mk _ (b8 _ _) ?_ | refine EqE.mk _ (max_eq _ _) ?_ | refine EqE.mk _ (min_eq _ _) ?_) | ((with_reducible refine EqE.idS ?_); first | refine EqE.mk _ (bl _ _ _ _ (by first | with_reducible exact ae _ | with_reducible exact ab _ | exact ae _ | exact ab _ | rfl) (by first | omega | (simp only [List.length_set]; omega)) (by omega)) ?_ | refine EqE.mk _ (dh _ _ _ _ (by first | with_reducible exact ae _ | with_reducible exact ab _ | exact ae _ | exact ab _ | rfl) (by omega) (by omega) (by omega)) ?_ | (refine EqE.fP ?_; (conv => whnf); fail_if_success (show ag _ _)) | refine EqE.mk _ rfl ?_) | ((with_reducible refine EqE.idA ?_); first | refine EqE.mk _ (cc _) ?_ | refine EqE.mk _ (dd _ _) ?_ | refine EqE.mk _ rfl ?_) | ((with_reducible refine EqE.idR ?_); first | refine EqE.mk _ (b7 _) ?_ | refine EqE.mk _ rfl ?_) | ((with_reducible refine EqE.idL ?_); first | refine EqE.mk _ (av _ _ _ _ (by omega) (by omega) rfl) ?_ | refine EqE.mk _ (bh _ _ (by omega)) ?_ | refine EqE.mk _ (bo _ _ _ (by omega) (by omega) (by omega)) ?_ | refine EqE.mk _ rfl ?_) | refine EqE.mk _ rfl ?_ | refine Cd.ro ?_ | refine Cd.dc ?_ | refine Cd.ob ?_ | refine Cd.ol ?_ | refine Cd.mk ⟨rfl, rfl⟩ ?_ | refine Cd.mk (bc _) ?_ | refine Cd.om ?_ | refine Cd.mk ?_ ?_ | refine DsE.mk [_] rfl ?_ | refine DsE.mk [_, _, _] rfl ?_)
 rfl
theorem ajr {b v : Nat} (hb : b = 10 ∨ b = 16) (h : v < 4294967296) : Sim Tryz.prog G0 true 142 [.int .u64 v, .int .i64 b] (.str (bst (fu b v))) := by
 have s : Sim Tryz.prog G0 true 208 [.int .u64 v, .int .i64 b] (.str (bst (fu b v))) := by
  rcases hb with rfl | rfl
  ·exact ac5 v (by omega)
  ·exact ac6 v h
 refine ck ax Tryz.func142 ?_
 repeat' ((conv => whnf); first | refine aw.data ?_ | refine cE s ?_ | refine rgE ?_ | refine Cd.mk rfl ?_ | refine Br.t ?_ | refine Br.f ?_ | with_reducible refine Br.dec (fun _ => ?_) (fun _ => ?_) | with_reducible refine Br.br (fun _ => ?_) (fun _ => ?_) | refine Br.mk (fun _ => ?_) (fun _ => ?_) | refine an.mk _ (az _ _ (by omega)) ?_ | refine an.mk _ (a1 _ _ (by omega)) ?_ | refine an.mk _ (cp _ _ _ (by first | with_reducible exact ae _ | with_reducible exact ab _ | exact ae _ | exact ab _ | rfl) (by first | omega | (simp only [List.length_set]; omega))) ?_ | refine an.mk _ rfl ?_ | refine And.intro (fun _ => ?_) ?_ | (refine TkE.fL ?_; (conv => whnf); fail_if_success (show ag _ _)) | refine TkE.mk _ rfl rfl ?_ | refine Res.mk ?_ | refine a7.mk (by repeat first | exact True.intro | refine And.intro (by kernel_rfl) ?_) ?_ | refine DsE.mk (a8 _) rfl ?_ | refine DsE.mk [] rfl ?_ | refine ai.cu _ _ ?_ | ((with_reducible refine EqE.idT ?_); first | ((conv => arg 1; simp only [ak, List.toList_toArray, ao, af, aa, Int.toNat_natCast, Int.toNat_zero, Int.toNat_one, b3, b4, List.drop_zero, Nat.sub_zero, List.cons_append, List.nil_append]); refine EqE.mk _ rfl ?_) | refine EqE.mk _ rfl ?_) | ((with_reducible refine EqE.idP ?_); first | ((conv => arg 1; simp only [ak, List.toList_toArray, bx, bz]); refine EqE.mk _ rfl ?_) | refine EqE.mk _ rfl ?_) | ((with_reducible refine EqE.idN ?_); first | ((conv => arg 1; simp only [ak, List.toList_toArray, aa, ba, Int.toNat_natCast, Int.toNat_zero, Int.toNat_one, List.length_cons, List.length_nil, Nat.zero_add]); refine EqE.mk _ rfl ?_)) | ((with_reducible refine EqE.idW ?_); first | with_reducible refine EqE.mk _ (ar _) ?_ | with_reducible refine EqE.mk _ (dy _ _ (by omega)) ?_ | with_reducible refine EqE.mk _ (b6 _ (by omega)) ?_ | with_reducible refine EqE.mk _ (eh _ _ (by omega) (by omega)) ?_ | with_reducible refine EqE.mk _ (eg _ _ (by omega)) ?_ | with_reducible refine EqE.mk _ (ei _ _ (by omega) (by omega)) ?_ | with_reducible refine EqE.mk _ (c8 _ (by omega)) ?_ | with_reducible refine EqE.mk _ (di _ (by omega)) ?_ | with_reducible refine EqE.mk _ (bd _ (by omega)) ?_ | with_reducible refine EqE.mk _ (ek _ _ (by omega) (by omega)) ?_ | with_reducible refine EqE.mk _ (gl _ _ (by omega) (by omega)) ?_ | refine EqE.mk _ (dx _ 32 (by omega)) ?_ | with_reducible refine EqE.mk _ (cl _) ?_ | with_reducible refine EqE.mk _ (gu _) ?_ | with_reducible refine EqE.mk _ (ed _ (by omega)) ?_ | with_reducible refine EqE.mk _ (a6 _ (by omega)) ?_ | with_reducible refine EqE.mk _ (aq _ (by omega)) ?_ | with_reducible refine EqE.mk _ (n_iadd _ _ (by omega)) ?_ | with_reducible refine EqE.mk _ (wrap_u64 (by omega) (by omega)) ?_ | with_reducible refine EqE.mk _ (wrap_u32 _) ?_ | with_reducible refine EqE.mk _ (ah (by omega) (by omega)) ?_ | refine EqE.mk _ rfl ?_) | ((with_reducible refine EqE.idF ?_); first | with_reducible refine EqE.mk _ (cf _) ?_ | with_reducible refine EqE.mk _ (cx _ _ (by omega)) ?_ | with_reducible refine EqE.mk _ (bq _ _ (by omega)) ?_ | with_reducible refine EqE.mk _ (bg _) ?_ | refine EqE.mk _ (aj _ 4294967296 _ _ rfl) ?_ | refine EqE.mk _ (aj _ 65536 _ _ rfl) ?_ | refine EqE.mk _ (aj _ 256 _ _ rfl) ?_ | refine EqE.mk _ (aj _ 134217728 _ _ rfl) ?_ | refine EqE.mk _ (aj _ 2 _ _ rfl) ?_ | refine EqE.mk _ (aj _ 16 _ _ rfl) ?_ | refine EqE.mk _ rfl ?_) | ((with_reducible refine EqE.idM ?_); first | refine EqE.mk _ (bn _ 32) ?_ | refine EqE.mk _ (bn _ _) ?_ | refine EqE.mk _ rfl ?_) | ((with_reducible refine EqE.idI ?_); first | refine EqE.mk _ (gq _) ?_ | with_reducible refine EqE.mk _ (b8 _ _) ?_ | refine EqE.mk _ (max_eq _ _) ?_ | refine EqE.mk _ (min_eq _ _) ?_) | ((with_reducible refine EqE.idS ?_); first | refine EqE.mk _ (bl _ _ _ _ (by first | with_reducible exact ae _ | with_reducible exact ab _ | exact ae _ | exact ab _ | rfl) (by first | omega | (simp only [List.length_set]; omega)) (by omega)) ?_ | refine EqE.mk _ (dh _ _ _ _ (by first | with_reducible exact ae _ | with_reducible exact ab _ | exact ae _ | exact ab _ | rfl) (by omega) (by omega) (by omega)) ?_ | (refine EqE.fP ?_; (conv => whnf); fail_if_success (show ag _ _)) | refine EqE.mk _ rfl ?_) | ((with_reducible refine EqE.idA ?_); first | refine EqE.mk _ (cc _) ?_ | refine EqE.mk _ (dd _ _) ?_ | refine EqE.mk _ rfl ?_) | ((with_reducible refine EqE.idR ?_); first | refine EqE.mk _ (b7 _) ?_ | refine EqE.mk _ rfl ?_) | ((with_reducible refine EqE.idL ?_); first | refine EqE.mk _ (av _ _ _ _ (by omega) (by omega) rfl) ?_ | refine EqE.mk _ (bh _ _ (by omega)) ?_ | refine EqE.mk _ (bo _ _ _ (by omega) (by omega) (by omega)) ?_ | refine EqE.mk _ rfl ?_) | refine EqE.mk _ rfl ?_ | refine Cd.ro ?_ | refine Cd.dc ?_ | refine Cd.ob ?_ | refine Cd.ol ?_ | refine Cd.mk ⟨rfl, rfl⟩ ?_ | refine Cd.mk (bc _) ?_ | refine Cd.om ?_ | refine Cd.mk ?_ ?_ | refine DsE.mk [_] rfl ?_ | refine DsE.mk [_, _, _] rfl ?_)
 rfl
theorem w9 (x : UInt8) : ∀ c : Nat, Lib.repeatL [x] c = List.replicate c x
 | 0 => rfl
 | c + 1 => by rw [Lib.repeatL, w9 x c]; rfl
theorem adz {c : Nat} (h : c < 1000) : Sim Tryz.prog G0 true 143 [.str ⟨#[48]⟩, .int .i64 c] (.str (bst (List.replicate c 48))) := by
 refine aak (vs := [.string ⟨#[48]⟩, .int .i64 c]) (rv := .string ⟨(Lib.repeatL [48] c).toArray⟩) (by kernel_rfl) rfl (fun S w => ?_) fun w => ?_
 ·simp only [DR]; rw [w9, n6]
 ·exact Tryz.strings_Repeat ⟨#[48]⟩ c w (by omega) (by show 1 * c ≤ _; omega)
theorem alz {b v k : Nat} (hb : 2 ≤ b) (hk : 0 < k) (h : v < b ^ k) : (fu b v).length ≤ k := by
 unfold fu
 split
 ·show 1 ≤ k; omega
 ·rw [List.length_map]; exact od hb k v h
theorem al8 {b v k : Nat} (hb : 2 ≤ b) (hk : 0 < k) (h : v < b ^ k) : List.replicate (k - (fu b v).length) 48 ++ fu b v = (pad k (dg b v)).map ch := by
 unfold pad fu
 rw [List.map_append, List.map_replicate, yb]
 by_cases h0 : v = 0
 ·subst h0
  rw [if_pos rfl, en]
  simp only [List.map_cons, List.map_nil, List.length_cons, List.length_nil, Nat.zero_add, Nat.sub_zero, List.append_nil, yb]
  rw [← List.replicate_succ', Nat.sub_add_cancel hk]
 ·rw [if_neg h0]; simp
theorem wq {b k v : Nat} (hb : (b = 10 ∧ k = 9) ∨ (b = 16 ∧ k = 8)) (h : v < b ^ k) : Sim Tryz.prog G0 true 60 [.int .u32 v, .int .i64 b, .int .i64 k] (.str (bst ((pad k (dg b v)).map ch))) := by
 have hb2 : 2 ≤ b ∧ 0 < k ∧ k < 10 := by omega
 have hv : v < 4294967296 := by
  rcases hb with ⟨rfl, rfl⟩ | ⟨rfl, rfl⟩ <;> omega
 have s := ajr (b := b) (v := v) (by omega) hv
 have hl := alz hb2.1 hb2.2.1 h
 have e := al8 hb2.1 hb2.2.1 h
 obtain ⟨f, hf⟩ : ∃ f, fu b v = f := ⟨_, rfl⟩
 rw [hf] at s hl e
 have s2 := adz (c := ((k : Int) - f.length).toNat) (by omega)
 rw [← show ((k : Int) - f.length).toNat = k - f.length by omega] at e
 rw [← e]
 refine ck ax Tryz.func60 ?_
 repeat' ((conv => whnf); first | refine aw.data ?_ | refine cE s ?_ | refine cE s2 ?_ | refine rgE ?_ | refine Cd.mk rfl ?_ | refine Br.t ?_ | refine Br.f ?_ | with_reducible refine Br.dec (fun _ => ?_) (fun _ => ?_) | with_reducible refine Br.br (fun _ => ?_) (fun _ => ?_) | refine Br.mk (fun _ => ?_) (fun _ => ?_) | refine an.mk _ (az _ _ (by omega)) ?_ | refine an.mk _ (a1 _ _ (by omega)) ?_ | refine an.mk _ (cp _ _ _ (by first | with_reducible exact ae _ | with_reducible exact ab _ | exact ae _ | exact ab _ | rfl) (by first | omega | (simp only [List.length_set]; omega))) ?_ | refine an.mk _ rfl ?_ | refine And.intro (fun _ => ?_) ?_ | (refine TkE.fL ?_; (conv => whnf); fail_if_success (show ag _ _)) | refine TkE.mk _ rfl rfl ?_ | refine Res.mk ?_ | refine a7.mk (by repeat first | exact True.intro | refine And.intro (by kernel_rfl) ?_) ?_ | refine DsE.mk (a8 _) rfl ?_ | refine DsE.mk [] rfl ?_ | refine ai.cu _ _ ?_ | ((with_reducible refine EqE.idT ?_); first | ((conv => arg 1; simp only [ak, List.toList_toArray, ao, af, aa, Int.toNat_natCast, Int.toNat_zero, Int.toNat_one, b3, b4, List.drop_zero, Nat.sub_zero, List.cons_append, List.nil_append]); refine EqE.mk _ rfl ?_) | refine EqE.mk _ rfl ?_) | ((with_reducible refine EqE.idP ?_); first | ((conv => arg 1; simp only [ak, List.toList_toArray, bx, bz]); refine EqE.mk _ rfl ?_) | refine EqE.mk _ rfl ?_) | ((with_reducible refine EqE.idN ?_); first | ((conv => arg 1; simp only [ak, List.toList_toArray, aa, ba, Int.toNat_natCast, Int.toNat_zero, Int.toNat_one, List.length_cons, List.length_nil, Nat.zero_add]); refine EqE.mk _ rfl ?_)) | ((with_reducible refine EqE.idW ?_); first | with_reducible refine EqE.mk _ (ar _) ?_ | with_reducible refine EqE.mk _ (dy _ _ (by omega)) ?_ | with_reducible refine EqE.mk _ (b6 _ (by omega)) ?_ | with_reducible refine EqE.mk _ (eh _ _ (by omega) (by omega)) ?_ | with_reducible refine EqE.mk _ (eg _ _ (by omega)) ?_ | with_reducible refine EqE.mk _ (ei _ _ (by omega) (by omega)) ?_ | with_reducible refine EqE.mk _ (c8 _ (by omega)) ?_ | with_reducible refine EqE.mk _ (di _ (by omega)) ?_ | with_reducible refine EqE.mk _ (bd _ (by omega)) ?_ | with_reducible refine EqE.mk _ (ek _ _ (by omega) (by omega)) ?_ | with_reducible refine EqE.mk _ (gl _ _ (by omega) (by omega)) ?_ | refine EqE.mk _ (dx _ 32 (by omega)) ?_ | with_reducible refine EqE.mk _ (cl _) ?_ | with_reducible refine EqE.mk _ (gu _) ?_ | with_reducible refine EqE.mk _ (ed _ (by omega)) ?_ | with_reducible refine EqE.mk _ (a6 _ (by omega)) ?_ | with_reducible refine EqE.mk _ (aq _ (by omega)) ?_ | with_reducible refine EqE.mk _ (n_iadd _ _ (by omega)) ?_ | with_reducible refine EqE.mk _ (wrap_u64 (by omega) (by omega)) ?_ | with_reducible refine EqE.mk _ (wrap_u32 _) ?_ | with_reducible refine EqE.mk _ (ah (by omega) (by omega)) ?_ | refine EqE.mk _ rfl ?_) | ((with_reducible refine EqE.idF ?_); first | with_reducible refine EqE.mk _ (cf _) ?_ | with_reducible refine EqE.mk _ (cx _ _ (by omega)) ?_ | with_reducible refine EqE.mk _ (bq _ _ (by omega)) ?_ | with_reducible refine EqE.mk _ (bg _) ?_ | refine EqE.mk _ (aj _ 4294967296 _ _ rfl) ?_ | refine EqE.mk _ (aj _ 65536 _ _ rfl) ?_ | refine EqE.mk _ (aj _ 256 _ _ rfl) ?_ | refine EqE.mk _ (aj _ 134217728 _ _ rfl) ?_ | refine EqE.mk _ (aj _ 2 _ _ rfl) ?_ | refine EqE.mk _ (aj _ 16 _ _ rfl) ?_ | refine EqE.mk _ rfl ?_) | ((with_reducible refine EqE.idM ?_); first | refine EqE.mk _ (bn _ 32) ?_ | refine EqE.mk _ (bn _ _) ?_ | refine EqE.mk _ rfl ?_) | ((with_reducible refine EqE.idI ?_); first | refine EqE.mk _ (gq _) ?_ | with_reducible refine EqE.mk _ (b8 _ _) ?_ | refine EqE.mk _ (max_eq _ _) ?_ | refine EqE.mk _ (min_eq _ _) ?_) | ((with_reducible refine EqE.idS ?_); first | refine EqE.mk _ (bl _ _ _ _ (by first | with_reducible exact ae _ | with_reducible exact ab _ | exact ae _ | exact ab _ | rfl) (by first | omega | (simp only [List.length_set]; omega)) (by omega)) ?_ | refine EqE.mk _ (dh _ _ _ _ (by first | with_reducible exact ae _ | with_reducible exact ab _ | exact ae _ | exact ab _ | rfl) (by omega) (by omega) (by omega)) ?_ | (refine EqE.fP ?_; (conv => whnf); fail_if_success (show ag _ _)) | refine EqE.mk _ rfl ?_) | ((with_reducible refine EqE.idA ?_); first | refine EqE.mk _ (cc _) ?_ | refine EqE.mk _ (dd _ _) ?_ | refine EqE.mk _ rfl ?_) | ((with_reducible refine EqE.idR ?_); first | refine EqE.mk _ (b7 _) ?_ | refine EqE.mk _ rfl ?_) | ((with_reducible refine EqE.idL ?_); first | refine EqE.mk _ (av _ _ _ _ (by omega) (by omega) rfl) ?_ | refine EqE.mk _ (bh _ _ (by omega)) ?_ | refine EqE.mk _ (bo _ _ _ (by omega) (by omega) (by omega)) ?_ | refine EqE.mk _ rfl ?_) | refine EqE.mk _ rfl ?_ | refine Cd.ro ?_ | refine Cd.dc ?_ | refine Cd.ob ?_ | refine Cd.ol ?_ | refine Cd.mk ⟨rfl, rfl⟩ ?_ | refine Cd.mk (bc _) ?_ | refine Cd.om ?_ | refine Cd.mk ?_ ?_ | refine DsE.mk [_] rfl ?_ | refine DsE.mk [_, _, _] rfl ?_)
 rfl
end Go.Ev.Ar

namespace Go.Ev.Ar
open Go Go.Ev Go.Proofs
theorem ag2 (L : List UInt32) (n : Nat) (hn : n ≤ L.length) (hL : L.length < 2^40) :
  qu Tryz.prog G0 134 [.own 1000000 0 n 1] [(1000000, false, la L)] (.own 1000000 0 (ofN (nv (L.take n))).length 1) [(1000000, false, la L)] := by
 refine afc ax Tryz.func134 ?_
 repeat' ((conv => whnf); first | refine rgE ?_)
 refine ⟨[], [0], [1000000], fun m xs h => ∃ k : Nat, m = k ∧ k ≤ n ∧ nv (L.take k) = nv (L.take n) ∧ xs = [.own 1000000 0 k 1] ∧ h = [(1000000, false, la L)], ⟨_, _, _, ⟨.inl rfl, rfl, rfl, by first | rfl | (repeat first | exact all_nil _ | refine cb _ _ _ _ _ ?_)⟩, n, rfl, Nat.le_refl _, rfl, rfl, rfl⟩, ?_⟩
 rintro m xs h ⟨k, rfl, hle, hcut, rfl, rfl⟩
 repeat' ((conv => whnf); first | refine rgE ?_ | refine Cd.mk rfl ?_ | refine Br.t ?_ | refine Br.f ?_ | with_reducible refine Br.dec (fun _ => ?_) (fun _ => ?_) | refine an.mk _ (cp _ _ _ (by first | with_reducible exact ae _ | with_reducible exact ab _ | exact ae _ | exact ab _ | rfl) (by first | omega | (simp only [List.length_set]; omega))) ?_ | refine ai.cu _ _ ?_ | ((with_reducible refine EqE.idW ?_); with_reducible refine EqE.mk _ (ah (by omega) (by omega)) ?_) | refine Cd.om ?_)
 ·rename_i h0 h1
  have e : ((m : Int) - 1).toNat = m - 1 := by omega
  have e0 : ((m : Int) - 1 - 0).toNat = m - 1 := by omega
  rw [e] at h1
  refine ⟨_, ⟨m - 1, rfl, by omega, ?_, ?_, rfl⟩, by omega⟩
  ·rw [← hcut, show m = m - 1 + 1 by omega, bb, show m - 1 + 1 - 1 = m - 1 by omega, show (L.getD (m - 1) 0).toNat = 0 by omega]; simp
  ·show [A.own 1000000 0 ((m : Int) - 1 - 0).toNat 1] = _
   rw [e0]
 ·rename_i h0 h1
  have e : ((m : Int) - 1).toNat = m - 1 := by omega
  rw [e] at h1
  have hl : (L.take m).length = m := by rw [List.length_take]; omega
  have := z7 (l := L.take m) (.inr (by rw [hl, List.getD_eq_getElem?_getD, List.getElem?_take, if_pos (by omega), ← List.getD_eq_getElem?_getD]; omega))
  refine aas.own 2 rfl ?_ rfl
  show A.own 1000000 0 m 1 = _
  rw [← hcut, this, hl]
 ·rename_i h0
  obtain rfl : m = 0 := by omega
  refine aas.own 2 rfl ?_ rfl
  show A.own 1000000 0 0 1 = _
  rw [← hcut, List.take_zero, nj, cy]; rfl
set_option maxHeartbeats 2000000 in
theorem akx (a : List UInt32) (n : Int) (ha : a.length < 2^30) (hn : n ≤ 2^30) (h0 : nv a ≠ 0) :
  qu Tryz.prog G0 205 [.d (sl a), .d (.int .i64 n)] [] (.own 25 0 (ofN (nv a * 2 ^ n.toNat)).length 1) [(25, false, la (ue (nv a * 2 ^ n.toNat) ((ofN (nv a)).length + n.toNat / 32 + 1)))] := by
 have h1 := dj a
 have h0' : (ofN (nv a)).length ≠ 0 := fun h => h0 (da.1 h)
 refine afc ax Tryz.func205 ?_
 repeat' ((conv => whnf); first | refine aw.data ?_ | with_reducible refine Br.bf fun _ => ?_ | refine cE (fv _ (by omega)) ?_ | refine rgE ?_ | refine Cd.mk rfl ?_ | ((with_reducible refine EqE.idW ?_); first | refine EqE.mk _ (dx _ 32 (by omega)) ?_ | with_reducible refine EqE.mk _ (a6 _ (by omega)) ?_ | with_reducible refine EqE.mk _ (aq _ (by omega)) ?_) | ((with_reducible refine EqE.idM ?_); refine EqE.mk _ (bn _ 32) ?_) | ((with_reducible refine EqE.idI ?_); refine EqE.mk _ (gq _) ?_) | ((with_reducible refine EqE.idR ?_); refine EqE.mk _ (b7 _) ?_) | refine Cd.om ?_)
 generalize hA : ofN (nv a) = A at *
 have hvA : nv A = nv a := by rw [← hA, bj]
 have hs : n.toNat % 32 < 32 := Nat.mod_lt _ (by decide)
 have hN : n.toNat = 32 * (n.toNat / 32) + n.toNat % 32 := (Nat.div_add_mod _ _).symm
 have hN2 : n.toNat ≤ 2^30 := by omega
 generalize hqe : n.toNat / 32 = q at *
 generalize hse : n.toNat % 32 = s at *
 skip
 refine ⟨[], [0,5,6,7,29,30], [25], fun m xs h => ∃ (n i : Nat) (l : List UInt32), m = A.length + 1 - i ∧ n = A.length + q + 1 ∧ i ≤ A.length + 1 ∧ l.length = n ∧ nv l + Pw (q + i) * (at_ A (i - 1) * 2 ^ s / 4294967296) = Pw q * (nv (A.take i) * 2 ^ s) ∧ (∀ j, q + i ≤ j → (l.getD j 0).toNat = 0) ∧
  xs = [.d (sl A), .d (.int .i64 q), .d (.int .i64 s), .own 25 0 n 1, .d (.int .i64 ((n - q : Int).toNat : Nat)), .d (.int .i64 i)] ∧ h = [(25, false, la l)],
  ⟨_, _, _, ⟨.inl rfl, rfl, rfl, by first | rfl | (repeat first | exact all_nil _ | refine cb _ _ _ _ _ ?_)⟩, _, 0, _, rfl, ?_, by omega, by simp, ?_, fun j _ => gk _ _, rfl, rfl⟩, ?_⟩
 ·omega
 ·rw [show at_ A ((0 : Nat) - 1 : Int) = 0 from rfl, cg]; simp
 rintro m xs h ⟨n', i, l, rfl, hn', hi, hl, hv, hz, rfl, rfl⟩
 have hx1 := ld A i
 have hx2 := ld A (i - 1)
 have hy1 := xd hx1 hs
 have hy2 := xd hx2 hs
 repeat' ((conv => whnf); first | refine aw.own (ny.au (ag2 l n' (by omega) (by omega)) [(1000000, 25)] [] (.own 25 0 (ofN (nv (l.take n'))).length 1) [(25, false, la l)] [] ?_) | refine cE (zf _ _) ?_ | refine rgE ?_ | refine Cd.mk rfl ?_ | with_reducible refine Br.dec (fun _ => ?_) (fun _ => ?_) | refine ai.cu _ _ ?_ | ((with_reducible refine EqE.idW ?_); first | with_reducible refine EqE.mk _ (eh _ _ (by omega) (by omega)) ?_ | with_reducible refine EqE.mk _ (gl _ _ (by omega) (by omega)) ?_ | with_reducible refine EqE.mk _ (cl _) ?_ | with_reducible refine EqE.mk _ (a6 _ (by omega)) ?_ | with_reducible refine EqE.mk _ (aq _ (by omega)) ?_ | with_reducible refine EqE.mk _ (ah (by omega) (by omega)) ?_) | ((with_reducible refine EqE.idF ?_); refine EqE.mk _ (aj _ 4294967296 _ _ rfl) ?_) | ((with_reducible refine EqE.idS ?_); refine EqE.mk _ (bl _ _ _ _ (by first | with_reducible exact ae _ | with_reducible exact ab _ | exact ae _ | exact ab _ | rfl) (by first | omega | (simp only [List.length_set]; omega)) (by omega)) ?_) | refine Cd.om ?_)
 ·rename_i h0
  refine ⟨_, ⟨n', i + 1, _, rfl, hn', by omega, ?_, ?_, ?_, rfl, rfl⟩, by omega⟩
  ·simp [hl]
  ·have hc := su hx2 hs
   have hd := afa (x := at_ A i) hs hc
   rw [adt hc, js (by omega) (hz _ (by omega)) (by omega), bb, ← gi, show q + (i + 1) = q + i + 1 from rfl, dq, show ((i + 1 : Nat) : Int) - 1 = i by omega, ← hd]
   have h5 := ir (Pw (q + i)) (at_ A i * 2 ^ s + at_ A (i - 1) * 2 ^ s / 4294967296)
   have h6 : Pw q * ((nv (A.take i) + Pw i * at_ A i) * 2 ^ s) = Pw q * (nv (A.take i) * 2 ^ s) + Pw (q + i) * (at_ A i * 2 ^ s) := by
    rw [p9]; grind
   rw [h6]
   rw [Nat.mul_add] at h5
   omega
  ·intro j hj
   rw [getD_set_ne (by omega)]; exact hz j (by omega)
 ·rename_i h2
  have e : i = A.length + 1 := by omega
  have e0 : at_ A (i - 1) = 0 := by rw [show (i : Int) - 1 = ((A.length : Nat) : Int) by omega, gi, kt (by omega)]
  rw [e0, List.take_of_length_le (by omega), hvA] at hv
  have hnl : nv l = nv a * 2 ^ n.toNat := by
   rw [hN, ← l8, show nv l = Pw q * (nv a * 2 ^ s) by simpa using hv]; grind
  refine aas.own 4 rfl ?_ ?_
  ·show Ev.A.own 25 0 _ 1 = Ev.A.own 25 0 _ 1
   rw [List.take_of_length_le (by omega), hnl]
  ·show [(25, false, la l)] = _
   rw [← ae3 (l := l) (by omega) hnl]
theorem aiw (a : List UInt32) (n : Nat) (ha : a.length < 2^30) (hn : n ≤ 31) (h0 : nv a ≠ 0) :
  qu Tryz.prog G0 139 [.d (sl a), .d (.int .i64 n)] [] (.own 8 0 (ofN (nv a * 2 ^ n)).length 1) [(8, false, la (ofN (nv a * 2 ^ n)))] := by
 have h := (akx a n ha (by omega) h0).shrink ((ofN (nv a * 2 ^ n)).length)
 rw [Int.toNat_natCast] at h
 rw [show (la (ue (nv a * 2 ^ n) ((ofN (nv a)).length + n / 32 + 1))).take (ofN (nv a * 2 ^ n)).length = la (ofN (nv a * 2 ^ n)) by
  unfold la a8; rw [← List.map_take, ← List.map_take, af4]] at h
 generalize ofN (nv a * 2 ^ n) = A at *
 refine afc ax Tryz.func139 ?_
 have hh := v7 n
 rw [show min (max (n : Int) 0) 100000 = n by omega] at hh
 repeat' ((conv => whnf); first | refine aw.own (ny.au (h) [] [(25, 8)] (.own 8 0 A.length 1) [(8, false, la A)] [] ?_) | refine cE hh ?_ | refine aw.data ?_ | refine rgE ?_)
 exact aas.own 4 rfl rfl rfl
end Go.Ev.Ar

namespace Go.Ev
open Go
theorem ahh {U V u0 v0 P U3 V2 q : Nat} (hU : U = u0 + P * U3) (hV : V = v0 + P * V2) (hu : u0 < P) (hq : q * V ≤ U) : q * V2 ≤ U3 := by
 subst hU hV
 have h1 : P * (q * V2) ≤ q * (v0 + P * V2) := by
  rw [Nat.mul_add, ← Nat.mul_assoc q P V2, Nat.mul_comm q P, Nat.mul_assoc]; omega
 have h2 : P * (q * V2) < P * (U3 + 1) := by rw [Nat.mul_add, Nat.mul_one]; omega
 have := Nat.lt_of_mul_lt_mul_left h2
 omega
theorem ahi {U V u0 v0 P U3 V2 g : Nat} (hU : U = u0 + P * U3) (hV : V = v0 + P * V2) (hu : u0 < P) (hg : U3 < g * V2) : U < g * V := by
 subst hU hV
 have h1 : P * (U3 + 1) ≤ P * (g * V2) := Nat.mul_le_mul_left _ hg
 have h2 : P * (g * V2) ≤ g * (v0 + P * V2) := by
  rw [Nat.mul_add, ← Nat.mul_assoc g P V2, Nat.mul_comm g P, Nat.mul_assoc]; omega
 rw [Nat.mul_add, Nat.mul_one] at h1
 omega
theorem ac4 {U V u0 v0 P U3 V2 g : Nat} (hU : U = u0 + P * U3) (hV : V = v0 + P * V2) (hv : v0 < P) (hg : g * V2 ≤ U3) (hgV : g ≤ V2 + 1) : (g - 1) * V ≤ U := by
 cases g with
 | zero => simp
 | succ g =>
  subst hU hV
  rw [Nat.add_sub_cancel]
  have h1 : g * (V2 + 1) ≤ U3 := by
   rw [Nat.mul_add, Nat.mul_one]
   rw [Nat.add_mul, Nat.one_mul] at hg; omega
  have h2 : g * (v0 + P * V2) ≤ P * (g * (V2 + 1)) := by
   rw [Nat.mul_add, Nat.mul_add V2 1 |> fun h => Nat.mul_add g V2 1, Nat.mul_one, Nat.mul_add P, ← Nat.mul_assoc g P V2, Nat.mul_comm g P, Nat.mul_assoc, Nat.mul_comm P g]
   have := Nat.mul_le_mul_left g (Nat.le_of_lt hv)
   omega
  have h3 : P * (g * (V2 + 1)) ≤ P * U3 := Nat.mul_le_mul_left _ h1
  omega
theorem akl {U V g : Nat} (hV : 0 < V) (h1 : U / V ≤ g) (h2 : (g - 1) * V ≤ U) : U / V = g ∨ U / V = g - 1 := by
 have := (Nat.le_div_iff_mul_le hV).2 h2
 omega
theorem akg (l : List UInt32) (n : Nat) (hl : l.length = n + 1) (hn : 2 ≤ n) : nv l = nv (l.take (n - 2)) + Pw (n - 2) * ((l.getD (n - 2) 0).toNat + 4294967296 * ((l.getD (n - 1) 0).toNat + 4294967296 * (l.getD n 0).toNat)) := by
 rw [gr l (n - 2) (by omega), fy l (n - 2), fy l (n - 2 + 1), fy l (n - 2 + 1 + 1), show n - 2 + 1 = n - 1 by omega, show n - 1 + 1 = n by omega, List.drop_eq_nil_of_le (by omega), nj, Nat.mul_zero, Nat.add_zero]
theorem akf (l : List UInt32) (n : Nat) (hl : l.length = n) (hn : 2 ≤ n) : nv l = nv (l.take (n - 2)) + Pw (n - 2) * ((l.getD (n - 2) 0).toNat + 4294967296 * (l.getD (n - 1) 0).toNat) := by
 rw [gr l (n - 2) (by omega), fy l (n - 2), fy l (n - 2 + 1), show n - 2 + 1 = n - 1 by omega, show n - 1 + 1 = n by omega, List.drop_eq_nil_of_le (by omega), nj, Nat.mul_zero, Nat.add_zero]
theorem kx (l : List UInt32) (k : Nat) : nv (l.take k) < Pw k := by
 have := fi (l.take k)
 refine Nat.lt_of_lt_of_le this (ix ?_)
 rw [List.length_take]; omega
theorem agi {p u v g c b : Nat} (hu : u < 4294967296) (hv : v < 4294967296) (hg : g < 4294967296) (hc : c < 4294967296) (hb : b ≤ 1) {x : Nat} (hx : x = ((u + 18446744073709551616 - (c + g * v) % 4294967296) % 18446744073709551616 + 18446744073709551616 - b) % 18446744073709551616) :
  p * (x % 4294967296) + g * (p * v) + p * (c + b) = p * u + 4294967296 * p * ((c + g * v) / 4294967296 + x / 4294967296 % 2) ∧ (c + g * v) / 4294967296 < 4294967296 ∧ x / 4294967296 % 2 ≤ 1 ∧ c + g * v < 18446744073709551616 := by
 have h1 : g * v ≤ 4294967295 * 4294967295 := Nat.mul_le_mul (by omega) (by omega)
 generalize hw : g * v = w at *
 have h2 : x % 4294967296 + (c + w) % 4294967296 + b = u + 4294967296 * (x / 4294967296 % 2) := by omega
 have h3 : x % 4294967296 + w + (c + b) = u + 4294967296 * ((c + w) / 4294967296 + x / 4294967296 % 2) := by omega
 have h4 := congrArg (p * ·) h3
 simp only [Nat.mul_add] at h4
 refine ⟨?_, by omega, by omega, by omega⟩
 have e1 : g * (p * v) = p * w := by rw [← hw]; simp only [Nat.mul_left_comm]
 have e2 : ∀ y, p * (4294967296 * y) = 4294967296 * p * y := fun y => by rw [Nat.mul_left_comm, Nat.mul_assoc]
 simp only [Nat.mul_add, e1] at h4 ⊢
 rw [e2, e2] at h4
 omega
end Go.Ev

namespace Go.Ev.Ar
open Go Go.Ev Go.Proofs
noncomputable def akp : Code := match Tryz.f140.body with | some c => c | none => .skip
noncomputable def amk : Code := Ev.Code.inner (Ev.Code.snd akp)
noncomputable def ab1 : Code := Ev.Code.snd (Ev.Code.snd (Ev.Code.snd (Ev.Code.snd (Ev.Code.snd amk))))
noncomputable def aiz : Code := Ev.Code.snd ab1
theorem q9 (A W : List UInt32) (i : Int) (j : Nat) (e : i = j) (h : j < W.length) : A.length + i.toNat * 1 + 1 ≤ (la (A ++ W)).length := by
 subst e; rw [mb, List.length_append, Int.toNat_natCast]; omega
theorem ka {a b : List UInt32} {i : Nat} (h : a.drop i = b.drop i) : a.getD i 0 = b.getD i 0 := by
 have := congrArg (fun l => l.getD 0 0) h
 simpa [List.getD_eq_getElem?_getD] using this
theorem fz (a : List UInt32) (i : Nat) (v : UInt32) : (a.set i v).drop (i + 1) = a.drop (i + 1) := by
 rw [List.drop_set_of_lt (by omega)]
theorem p0 (a : List UInt32) (i : Nat) (v : UInt32) : (a.set i v).take i = a.take i := by
 rw [List.take_set_of_le (by omega)]
theorem ll (a : List UInt32) (i v : Nat) (hi : i < a.length) (hv : v < 4294967296) : nv ((a.set i (UInt32.ofNat v)).take (i + 1)) = nv (a.take i) + Pw i * v := by
 rw [bb, p0, jr hi, toNat_ofNat hv]
theorem yz (a b : List UInt32) (n N : Nat) (hl : n ≤ a.length) (hd : a.drop n = b.drop n) (hn : nv (a.take n) = N) : a = ue N n ++ b.drop n := by
 rw [← hd, ← ae3 (l := a.take n) (by rw [List.length_take]; omega) hn, List.take_append_drop]
def gn (W v : List UInt32) : List UInt32 := ue (nv (W.take (v.length + 1)) % nv v) (v.length + 1) ++ W.drop (v.length + 1)
abbrev ali (A W v : List UInt32) : Exit → St → Prop := amf tab Tryz.f140.results.toList (.d (.int .u32 (nv (W.take (v.length + 1)) / nv v : Nat))) [(1000000, false, la (A ++ gn W v))]
set_option maxHeartbeats 4000000 in
theorem agf (A W v : List UInt32) (g : Nat) (hA : A.length + W.length < 2^32) (hn : 2 ≤ v.length) (hW : v.length + 1 ≤ W.length) (hV : 0 < nv v) (hg : g < 4294967296)
  (hq : nv (W.take (v.length + 1)) / nv v = g ∨ nv (W.take (v.length + 1)) / nv v + 1 = g) :
  Wp' Tryz.prog G0 aiz (ali A W v) ⟨164, [0, 1, 5, 8].zip [.own 1000000 A.length (v.length + 1) 1, .d (sl v), .d (.int .i64 v.length), .d (.int .u64 g)], [(1000000, false, la (A ++ W))]⟩ := by
 generalize hnl : v.length = n at *
 generalize hU : nv (W.take (n + 1)) = U at *
 generalize hVe : nv v = V at *
 refine eu ax _ _ _ ?_
 repeat' ((conv => whnf); first | refine rgE ?_)
 refine ⟨[], [0, 1, 5, 8, 10, 11, 74, 75], [1000000], fun m xs h => ∃ (i c b : Nat) (W1 : List UInt32), m = n - i ∧ i ≤ n ∧ c < 4294967296 ∧ b ≤ 1 ∧ W1.length = W.length ∧ W1.drop i = W.drop i ∧ nv (W1.take i) + g * nv (v.take i) = nv (W.take i) + Pw i * (c + b) ∧
  xs = [.own 1000000 A.length (n + 1) 1, .d (sl v), .d (.int .i64 n), .d (.int .u64 g), .d (.int .u64 b), .d (.int .u64 c), .d (.int .i64 n), .d (.int .i64 i)] ∧ h = [(1000000, false, la (A ++ W1))],
  ⟨_, _, _, ⟨.inl rfl, rfl, rfl, by first | rfl | (repeat first | exact all_nil _ | refine cb _ _ _ _ _ ?_)⟩, 0, 0, 0, W, rfl, by omega, by decide, by decide, rfl, rfl, by simp, rfl, rfl⟩, ?_⟩
 rintro m xs h ⟨i, c, b, W1, rfl, hi, hc, hb, hl1, hd1, hs1, rfl, rfl⟩
 by_cases hlt : i < n
 ·have hvi := ca (v.getD i 0)
  have hui := ca (W1.getD i 0)
  have hgv : g * (v.getD i 0).toNat ≤ 18446744065119617025 := Nat.mul_le_mul (show g ≤ 4294967295 by omega) (show (v.getD i 0).toNat ≤ 4294967295 by omega)
  have hgv2 := abj hg hvi
  repeat' ((conv => whnf); first | with_reducible refine Br.bt fun _ => ?_ | refine an.mk _ (kv v _ i rfl (by omega)) ?_ | refine an.mk _ (nf A W1 _ i rfl (by omega)) ?_ | refine rgE ?_ | refine Cd.mk rfl ?_ | refine ai.cu _ _ ?_ | ((with_reducible refine EqE.idW ?_); first | refine EqE.mk _ (eg _ _ hgv2) ?_ | with_reducible refine EqE.mk _ (ar _) ?_ | with_reducible refine EqE.mk _ (dy _ _ (by omega)) ?_ | with_reducible refine EqE.mk _ (ei _ _ (by omega) (by omega)) ?_ | with_reducible refine EqE.mk _ (c8 _ (by omega)) ?_ | with_reducible refine EqE.mk _ (di _ (by omega)) ?_ | with_reducible refine EqE.mk _ (cl _) ?_ | with_reducible refine EqE.mk _ (aq _ (by omega)) ?_) | ((with_reducible refine EqE.idF ?_); refine EqE.mk _ (aj _ 4294967296 _ _ rfl) ?_) | ((with_reducible refine EqE.idS ?_); refine EqE.mk _ (ng A W1 _ i _ rfl (by omega) (by omega)) ?_) | refine Cd.om ?_)
  obtain ⟨x, hx⟩ : ∃ x, x = (((W1.getD i 0).toNat + 18446744073709551616 - (c + g * (v.getD i 0).toNat) % 4294967296) % 18446744073709551616 + 18446744073709551616 - b) % 18446744073709551616 := ⟨_, rfl⟩
  obtain ⟨r1, r2, r3, r4⟩ := agi (p := Pw i) hui hvi hg hc hb hx
  rw [← hx]
  refine ⟨_, ⟨i + 1, _, _, W1.set i (UInt32.ofNat (x % 4294967296)), rfl, by omega, r2, r3, by rw [List.length_set, hl1], ?_, ?_, rfl, rfl⟩, by omega⟩
  ·rw [fz, ← List.drop_drop, ← List.drop_drop, hd1]
  ·have e1 : (W.getD i 0).toNat = (W1.getD i 0).toNat := by rw [ka hd1]
   rw [ll _ _ _ (by omega) (by omega), bb, bb, e1, dq, Nat.mul_add g]
   omega
 obtain rfl : i = n := by omega
 clear hi hlt
 rw [List.take_of_length_le (show v.length ≤ i by omega), hVe] at hs1
 have hui := ca (W1.getD i 0)
 have e1 : (W.getD i 0).toNat = (W1.getD i 0).toNat := by rw [ka hd1]
 have hU1 : nv (W1.take i) + g * V + Pw i * (W1.getD i 0).toNat = U + Pw i * (c + b) := by
  rw [← hU, bb, e1]; omega
 obtain ⟨x, hx⟩ : ∃ x, x = (((W1.getD i 0).toNat + 18446744073709551616 - c) % 18446744073709551616 + 18446744073709551616 - b) % 18446744073709551616 := ⟨_, rfl⟩
 have hVn : V < Pw i := by rw [← hVe, ← hnl]; exact fi v
 have hdm := Nat.div_add_mod U V
 have hml := Nat.mod_lt U hV
 have hWl : nv (W1.take i) < Pw i := kx W1 i
 have hqg : g * V = V * (U / V) ∨ g * V = V * (U / V) + V := by
  rcases hq with h | h <;> rw [← h]
  ·exact .inl (Nat.mul_comm _ _)
  ·right; rw [Nat.mul_comm, Nat.mul_add, Nat.mul_one]
 have hx2 : (c + b ≤ (W1.getD i 0).toNat ∧ x = (W1.getD i 0).toNat - (c + b)) ∨ ((W1.getD i 0).toNat < c + b ∧ x % 4294967296 + (c + b) = (W1.getD i 0).toNat + 4294967296 ∧ x / 4294967296 % 2 = 1) := by omega
 repeat' ((conv => whnf); first | with_reducible refine Br.bf fun _ => ?_ | refine an.mk _ (nf A W1 _ i rfl (by omega)) ?_ | refine rgE ?_ | refine Cd.mk rfl ?_ | with_reducible refine Br.dec (fun _ => ?_) (fun _ => ?_) | ((with_reducible refine EqE.idW ?_); first | with_reducible refine EqE.mk _ (ar _) ?_ | with_reducible refine EqE.mk _ (ei _ _ (by omega) (by omega)) ?_ | with_reducible refine EqE.mk _ (c8 _ (by omega)) ?_ | with_reducible refine EqE.mk _ (cl _) ?_) | ((with_reducible refine EqE.idF ?_); refine EqE.mk _ (aj _ 4294967296 _ _ rfl) ?_) | ((with_reducible refine EqE.idS ?_); refine EqE.mk _ (ng A W1 _ i _ rfl (by omega) (by omega)) ?_) | refine Cd.om ?_)
 ·rename_i h0
  rw [← hx] at h0
  have hc1 : c + b ≤ (W1.getD i 0).toNat ∧ x = (W1.getD i 0).toNat - (c + b) := by
   rcases hx2 with h | h
   ·exact h
   ·omega
  have hr : nv (W1.take i) + Pw i * x + g * V = U := by
   have : Pw i * x + Pw i * (c + b) = Pw i * (W1.getD i 0).toNat := by rw [← Nat.mul_add]; congr 1; omega
   omega
  have hgq : U / V = g := by
   rcases hq with h | h
   ·exact h
   ·have : g * V = V * (U / V) + V := by rw [← h, Nat.mul_comm, Nat.mul_add, Nat.mul_one]
    omega
  have hgV : g * V = V * (U / V) := by rw [← hgq, Nat.mul_comm]
  refine aas.data _ ?_ rfl
  refine ⟨?_, ?_⟩
  ·show D.int .u32 _ = D.int .u32 _
   rw [hnl, hU, hVe, hgq, Nat.mod_eq_of_lt hg]
  ·show [(1000000, false, la (A ++ W1.set i (UInt32.ofNat _)))] = _
   rw [← hx]
   have e2 : W1.set i (UInt32.ofNat (x % 4294967296)) = gn W v := by
    unfold gn
    rw [hnl, hU, hVe]
    refine yz _ _ _ _ (by rw [List.length_set]; omega) ?_ ?_
    ·rw [fz, ← List.drop_drop, ← List.drop_drop, hd1]
    ·rw [ll _ _ _ (by omega) (by omega), Nat.mod_eq_of_lt (by omega)]; omega
   rw [e2]
 ·rename_i h0
  rw [← hx] at h0
  have hc1 : (W1.getD i 0).toNat < c + b ∧ x % 4294967296 + (c + b) = (W1.getD i 0).toNat + 4294967296 := by
   rcases hx2 with h | h
   ·omega
   ·exact ⟨h.1, h.2.1⟩
  rw [← hx]
  generalize hy : x % 4294967296 = y at *
  have hyl : y < 4294967296 := by omega
  have hP := dq i
  have hr : nv (W1.take i) + Pw i * y + g * V = U + Pw (i + 1) := by
   have : Pw i * y + Pw i * (c + b) = Pw i * (W1.getD i 0).toNat + Pw (i + 1) := by rw [hP, Nat.mul_comm 4294967296, ← Nat.mul_add, ← Nat.mul_add]; congr 1; omega
   omega
  have hUP : U < Pw (i + 1) := by rw [← hU]; exact kx _ _
  have hyP : Pw i * y + Pw i ≤ Pw (i + 1) := by
   rw [hP, Nat.mul_comm 4294967296]
   have := Nat.mul_le_mul_left (Pw i) (show y + 1 ≤ 4294967296 by omega)
   rw [Nat.mul_add, Nat.mul_one] at this; exact this
  have hgq : U / V + 1 = g := by
   rcases hq with h | h
   ·have : g * V = V * (U / V) := by rw [← h, Nat.mul_comm]
    omega
   ·exact h
  have hgV : g * V = V * (U / V) + V := by rw [← hgq, Nat.mul_comm, Nat.mul_add, Nat.mul_one]
  have hW2n : nv ((W1.set i (UInt32.ofNat y)).take i) = nv (W1.take i) := by rw [p0]
  have hW2d : (W1.set i (UInt32.ofNat y)).drop (i + 1) = W.drop (i + 1) := by rw [fz, ← List.drop_drop, ← List.drop_drop, hd1]
  have hW2l : (W1.set i (UInt32.ofNat y)).length = W.length := by rw [List.length_set, hl1]
  have hW2y : ((W1.set i (UInt32.ofNat y)).getD i 0).toNat = y := by rw [jr (by omega), toNat_ofNat hyl]
  generalize W1.set i (UInt32.ofNat y) = W2 at *
  refine ⟨[], [0, 1, 5, 8, 11, 128, 129], [1000000], fun m xs h => ∃ (j c : Nat) (W3 : List UInt32), m = i - j ∧ j ≤ i ∧ c ≤ 1 ∧ W3.length = W.length ∧ W3.drop j = W2.drop j ∧ nv (W3.take j) + Pw j * c = nv (W2.take j) + nv (v.take j) ∧
   xs = [.own 1000000 A.length (i + 1) 1, .d (sl v), .d (.int .i64 i), .d (.int .u64 g), .d (.int .u64 c), .d (.int .i64 i), .d (.int .i64 j)] ∧ h = [(1000000, false, la (A ++ W3))],
   ⟨_, _, _, ⟨.inl rfl, rfl, rfl, by first | rfl | (repeat first | exact all_nil _ | refine cb _ _ _ _ _ ?_)⟩, 0, 0, W2, rfl, by omega, by decide, hW2l, rfl, by simp, rfl, rfl⟩, ?_⟩
  rintro m xs h ⟨j, c', W3, rfl, hj, hc', hl3, hd3, hs3, rfl, rfl⟩
  by_cases hlt : j < i
  ·have hvi := ca (v.getD j 0)
   have hu3 := ca (W3.getD j 0)
   have e3 : (W2.getD j 0).toNat = (W3.getD j 0).toNat := by rw [ka hd3]
   repeat' ((conv => whnf); first | with_reducible refine Br.bt fun _ => ?_ | refine an.mk _ (kv v _ j rfl (by omega)) ?_ | refine an.mk _ (nf A W3 _ j rfl (by omega)) ?_ | refine Cd.mk (q9 A W3 _ j rfl (by omega)) ?_ | refine rgE ?_ | refine Cd.mk rfl ?_ | refine ai.cu _ _ ?_ | ((with_reducible refine EqE.idW ?_); first | with_reducible refine EqE.mk _ (ar _) ?_ | with_reducible refine EqE.mk _ (dy _ _ (by omega)) ?_ | with_reducible refine EqE.mk _ (cl _) ?_ | with_reducible refine EqE.mk _ (aq _ (by omega)) ?_) | ((with_reducible refine EqE.idF ?_); refine EqE.mk _ (aj _ 4294967296 _ _ rfl) ?_) | ((with_reducible refine EqE.idS ?_); refine EqE.mk _ (ng A W3 _ j _ rfl (by omega) (by omega)) ?_) | refine Cd.om ?_)
   generalize hz : (c' + ((W3.getD j 0).toNat + (v.getD j 0).toNat)) = z at *
   refine ⟨_, ⟨j + 1, z / 4294967296, W3.set j (UInt32.ofNat (z % 4294967296)), rfl, by omega, by omega, by rw [List.length_set, hl3], ?_, ?_, rfl, rfl⟩, by omega⟩
   ·rw [fz, ← List.drop_drop, ← List.drop_drop, hd3]
   ·have h5 := ir (Pw j) z
    rw [ll _ _ _ (by omega) (by omega), bb, bb, e3, dq]
    rw [← hz, Nat.mul_add, Nat.mul_add] at h5
    rw [← hz]
    omega
  ·obtain rfl : j = i := by omega
   have hu3 := ca (W3.getD j 0)
   have e3 : (W2.getD j 0).toNat = (W3.getD j 0).toNat := by rw [ka hd3]
   rw [hW2y] at e3
   rw [List.take_of_length_le (show v.length ≤ j by omega), hVe, hW2n] at hs3
   repeat' ((conv => whnf); first | with_reducible refine Br.bf fun _ => ?_ | refine an.mk _ (nf A W3 _ j rfl (by omega)) ?_ | refine Cd.mk (q9 A W3 _ j rfl (by omega)) ?_ | refine rgE ?_ | refine Cd.mk rfl ?_ | ((with_reducible refine EqE.idW ?_); first | with_reducible refine EqE.mk _ (aj8 _ _) ?_ | with_reducible refine EqE.mk _ (cl _) ?_ | with_reducible refine EqE.mk _ (wrap_u32 _) ?_ | refine EqE.mk _ rfl ?_) | ((with_reducible refine EqE.idS ?_); refine EqE.mk _ (ng A W3 _ j _ rfl (by omega) (by omega)) ?_) | refine Cd.om ?_)
   have hS : nv (W3.take j) + Pw j * (y + c') + g * V = U + Pw (j + 1) + V := by rw [Nat.mul_add]; omega
   have hW3l := kx W3 j
   have hyc : y + c' = 4294967296 := by
    apply Classical.byContradiction
    intro hne
    have h1 : Pw j * (y + c') + Pw j ≤ Pw (j + 1) := by
     rw [hP, Nat.mul_comm 4294967296]
     have := Nat.mul_le_mul_left (Pw j) (show y + c' + 1 ≤ 4294967296 by omega)
     rw [Nat.mul_add, Nat.mul_one] at this; exact this
    omega
   rw [hyc, Nat.mul_comm, ← hP] at hS
   have e : IntKind.u32.wrap (IntKind.u64.wrap ((g : Int) - 1)) = ((U / V : Nat) : Int) := by
    have hg1 : 1 ≤ g := by rw [← hgq]; exact Nat.le_add_left 1 _
    rw [adk g hg1 (by omega), cl, Nat.mod_eq_of_lt (by omega), ← hgq, Nat.add_sub_cancel]
   refine aas.data _ ?_ rfl
   refine ⟨?_, ?_⟩
   ·show D.int .u32 (IntKind.u32.wrap (IntKind.u64.wrap ((g : Int) - 1))) = D.int .u32 _
    rw [hnl, hU, hVe, e]
   ·show [(1000000, false, la (A ++ W3.set j (UInt32.ofNat _)))] = _
    rw [← e3, Nat.mod_eq_of_lt (show c' < 4294967296 by omega), hyc]
    have e2 : W3.set j (UInt32.ofNat (4294967296 % 4294967296)) = gn W v := by
     unfold gn
     rw [hnl, hU, hVe]
     refine yz _ _ _ _ (by rw [List.length_set]; omega) ?_ ?_
     ·rw [fz, ← List.drop_drop, hd3, List.drop_drop, hW2d]
     ·rw [ll _ _ _ (by omega) (by omega)]; omega
    rw [e2]
theorem adv {x y z : Nat} (h : z < x * y) : 1 ≤ x := by
 cases x with
 | zero => rw [Nat.zero_mul] at h; omega
 | succ x => omega
theorem pb {g d r top : Nat} (h : g * d + r = top) (hg : 1 ≤ g) : (g - 1) * d + (r + d) = top := by
 cases g with
 | zero => omega
 | succ g => rw [Nat.add_mul, Nat.one_mul] at h; rw [Nat.add_sub_cancel]; omega
theorem vx {g d r top v u : Nat} (h : g * d + r = top) (hr : 4294967296 ≤ r) (hg : g < 4294967296) (hv : v < 4294967296) : g * (v + 4294967296 * d) ≤ u + 4294967296 * top := by
 have h1 : g * v ≤ 4294967295 * 4294967295 := Nat.mul_le_mul (by omega) (by omega)
 rw [← h, Nat.mul_add, Nat.mul_left_comm]
 generalize g * v = a at *
 generalize g * d = b at *
 omega
theorem ahj {g d r top v u : Nat} (h : g * d + r = top) (hc : g * v ≤ r * 4294967296 + u) : g * (v + 4294967296 * d) ≤ u + 4294967296 * top := by
 rw [← h, Nat.mul_add, Nat.mul_left_comm]
 generalize g * v = a at *
 generalize g * d = b at *
 omega
theorem aa8 {g d r top v u : Nat} (h : g * d + r = top) (hc : r * 4294967296 + u < g * v) : u + 4294967296 * top < g * (v + 4294967296 * d) := by
 rw [← h, Nat.mul_add g, Nat.mul_left_comm g]
 generalize g * v = a at *
 generalize g * d = b at *
 omega
structure k8 (U V P u0 v0 u2 v2 d top : Nat) : Prop where
 hU : U = u0 + P * (u2 + 4294967296 * top)
 hV : V = v0 + P * (v2 + 4294967296 * d)
 hu : u0 < P
 hv : v0 < P
 hV0 : 0 < V
 hv2 : v2 < 4294967296
 hu2 : u2 < 4294967296
 hd : 2147483648 ≤ d
 hlt : U < 4294967296 * V
theorem k8.anq {U V P u0 v0 u2 v2 d top : Nat} (G : k8 U V P u0 v0 u2 v2 d top) : U / V < 4294967296 := Nat.div_lt_of_lt_mul (by rw [Nat.mul_comm]; exact G.hlt)
theorem k8.ai3 {U V P u0 v0 u2 v2 d top : Nat} (G : k8 U V P u0 v0 u2 v2 d top) : top ≤ v2 + 4294967296 * d := by
 have h1 := G.hlt
 rw [G.hU, G.hV] at h1
 have h2 : P * (u2 + 4294967296 * top) < P * (4294967296 * (v2 + 4294967296 * d + 1)) := by
  have e : P * (4294967296 * (v2 + 4294967296 * d + 1)) = 4294967296 * (P * (v2 + 4294967296 * d)) + 4294967296 * P := by
   rw [Nat.mul_add, Nat.mul_one, Nat.mul_add, Nat.mul_left_comm, Nat.mul_comm P 4294967296]
  rw [e]
  have := G.hv
  generalize P * (v2 + 4294967296 * d) = a at *
  generalize P * (u2 + 4294967296 * top) = b at *
  omega
 have := Nat.lt_of_mul_lt_mul_left h2
 omega
theorem k8.first {U V P u0 v0 u2 v2 d top : Nat} (G : k8 U V P u0 v0 u2 v2 d top) : U / V ≤ top / d ∧ top / d ≤ 4294967297 := by
 have hd := G.hd
 refine ⟨(Nat.le_div_iff_mul_le (by omega)).2 ?_, ?_⟩
 ·have h1 := ahh (q := U / V) G.hU G.hV G.hu (Nat.div_mul_le_self U V)
  rw [Nat.mul_add, Nat.mul_left_comm] at h1
  have := G.hu2
  generalize (U / V) * d = a at *
  generalize (U / V) * v2 = b at *
  omega
 ·have h1 := G.ai3
  have h2 := G.hv2
  have h3 : top < d * 4294967298 := by omega
  have := Nat.div_lt_of_lt_mul h3
  omega
theorem k8.small {U V P u0 v0 u2 v2 d top g r : Nat} (G : k8 U V P u0 v0 u2 v2 d top) (h : g * d + r = top) (hg : 4294967297 ≤ g) : r + d < 4294967296 := by
 have h1 := G.ai3
 have h2 := G.hv2
 have h3 := Nat.mul_le_mul_right d hg
 generalize g * d = a at *
 omega
theorem k8.done {U V P u0 v0 u2 v2 d top g : Nat} (G : k8 U V P u0 v0 u2 v2 d top) (h : g * (v2 + 4294967296 * d) ≤ u2 + 4294967296 * top) (hg : g < 4294967296) (hq : U / V ≤ g) : U / V = g ∨ U / V + 1 = g := by
 have hd := G.hd
 have h1 := ac4 G.hU G.hV G.hv h (by omega)
 rcases akl G.hV0 hq h1 with h2 | h2
 ·exact .inl h2
 ·by_cases h0 : g = 0
  ·left; rw [h0] at h2 ⊢; exact h2
  ·right; omega
theorem k8.more {U V P u0 v0 u2 v2 d top g : Nat} (G : k8 U V P u0 v0 u2 v2 d top) (h : u2 + 4294967296 * top < g * (v2 + 4294967296 * d)) : U / V < g := by
 have := ahi G.hU G.hV G.hu h
 exact (Nat.div_lt_iff_lt_mul G.hV0).2 this
abbrev aiy (A W v : List UInt32) (d top q : Nat) : Nat → List Ev.A → Hp → Prop := fun m xs h => ∃ g r : Nat, m = g ∧ g * d + r = top ∧ r < 4294967296 ∧ q ≤ g ∧ g ≤ 4294967297 ∧
 xs = [.own 1000000 A.length (v.length + 1) 1, .d (sl v), .d (.int .i64 v.length), .d (.int .u64 d), .d (.int .u64 g), .d (.int .u64 r)] ∧ h = [(1000000, false, la (A ++ W))]
abbrev ang (A W v : List UInt32) (d top q m : Nat) : Exit → St → Prop := fun e σ' => match e with
 | .goto l' => Cd (l' = 0) (ai (aiy A W v d top q) m [0, 1, 5, 7, 8, 9] [1000000] σ')
 | e => ali A W v e σ'
set_option maxHeartbeats 4000000 in
theorem age (A W v : List UInt32) (d top u0 v0 : Nat) (hA : A.length + W.length < 2^32) (hn : 2 ≤ v.length) (hW : v.length + 1 ≤ W.length) (hd : (v.getD (v.length - 1) 0).toNat = d)
  (G : k8 (nv (W.take (v.length + 1))) (nv v) (Pw (v.length - 2)) u0 v0 (W.getD (v.length - 2) 0).toNat (v.getD (v.length - 2) 0).toNat d top) (g : Nat) (xs : List Ev.A) (h : Hp) (hI : aiy A W v d top (nv (W.take (v.length + 1)) / nv v) g xs h) :
  Wp' Tryz.prog G0 ab1 (ang A W v d top (nv (W.take (v.length + 1)) / nv v) g) ⟨164, [0, 1, 5, 7, 8, 9].zip xs, h⟩ := by
 obtain ⟨_, r, rfl, hgr, hr, hqg, hg1, rfl, rfl⟩ := hI
 have T := fun g' hg' hq' => agf A W v g' hA hn hW G.hV0 hg' hq'
 generalize hU : nv (W.take (v.length + 1)) = U at *
 generalize hVe : nv v = V at *
 have hu2 := ca (W.getD (v.length - 2) 0)
 have hv2 := ca (v.getD (v.length - 2) 0)
 have hd1 := ca (v.getD (v.length - 1) 0)
 have hd0 := G.hd
 rw [hd] at hd1
 have hdl := G.anq
 refine nn ax ?_
 generalize hnl : v.length = n at *
 repeat' ((conv => whnf); first | refine an.mk _ (kv v _ (n - 2) (by omega) (by omega)) ?_ | refine an.mk _ (nf A W _ (n - 2) (by omega) (by omega)) ?_ | refine rgE ?_ | refine Cd.mk rfl ?_ | refine Br.t ?_ | refine Br.f ?_ | with_reducible refine Br.dec (fun _ => ?_) (fun _ => ?_) | with_reducible refine Br.br (fun _ => ?_) (fun _ => ?_) | refine ai.cu _ _ ?_ | ((with_reducible refine EqE.idW ?_); first | with_reducible refine EqE.mk _ (eg _ _ (abj (by omega) hv2)) ?_ | with_reducible refine EqE.mk _ (adj _ _ (by omega) (by omega)) ?_ | with_reducible refine EqE.mk _ (adk _ (by omega) (by omega)) ?_ | with_reducible refine EqE.mk _ (adk _ (adv (y := (v.getD (n - 2) 0).toNat) (z := r * 4294967296 + (W.getD (n - 2) 0).toNat) (by omega)) (by omega)) ?_ | with_reducible refine EqE.mk _ (ar _) ?_ | with_reducible refine EqE.mk _ (dy _ _ (by omega)) ?_ | with_reducible refine EqE.mk _ (b6 _ (by omega)) ?_ | with_reducible refine EqE.mk _ (ah (by omega) (by omega)) ?_) | ((with_reducible refine EqE.idF ?_); refine EqE.mk _ (aj _ 4294967296 _ _ rfl) ?_) | refine Cd.om ?_)
 ·rename_i h1 h2
  subst hnl
  have hm : 4294967296 ≤ g := by omega
  have hmq : U / V ≤ g - 1 := Nat.le_sub_one_of_lt (Nat.lt_of_lt_of_le hdl hm)
  exact ⟨_, ⟨g - 1, r + d, rfl, pb hgr (by omega), by omega, hmq, by omega, rfl, rfl⟩, by omega⟩
 ·rename_i h1 h2
  subst hnl
  have hm : 4294967296 ≤ g := by omega
  have hmq : U / V ≤ g - 1 := Nat.le_sub_one_of_lt (Nat.lt_of_lt_of_le hdl hm)
  have hg' : g ≤ 4294967296 := by
   apply Classical.byContradiction
   intro hc
   have := G.small hgr (by omega)
   omega
  have hg2 : g - 1 < 4294967296 := by omega
  have hdn := G.done (vx (u := (W.getD (v.length - 2) 0).toNat) (pb hgr (by omega)) (show 4294967296 ≤ r + d by omega) hg2 hv2) hg2 hmq
  intro _
  refine uy [0, 1, 5, 8] [1000000] _ _ ⟨.inl rfl, rfl, rfl, by first | rfl | (repeat first | exact all_nil _ | refine cb _ _ _ _ _ ?_)⟩ (o5 ?_ (T (g - 1) hg2 hdn))
  intro e σ' he
  cases e with
  | goto l => exact he.elim
  | _ => exact he
 ·rename_i h1 h2 h3
  subst hnl
  have hm := G.more (aa8 hgr (show r * 4294967296 + (W.getD (v.length - 2) 0).toNat < g * (v.getD (v.length - 2) 0).toNat by omega))
  have hm1 : 1 ≤ g := Nat.lt_of_le_of_lt (Nat.zero_le _) hm
  have hmq : U / V ≤ g - 1 := Nat.le_sub_one_of_lt hm
  exact ⟨_, ⟨g - 1, r + d, rfl, pb hgr (by omega), by omega, hmq, by omega, rfl, rfl⟩, by omega⟩
 ·rename_i h1 h2 h3
  subst hnl
  have hm := G.more (aa8 hgr (show r * 4294967296 + (W.getD (v.length - 2) 0).toNat < g * (v.getD (v.length - 2) 0).toNat by omega))
  have hm1 : 1 ≤ g := Nat.lt_of_le_of_lt (Nat.zero_le _) hm
  have hmq : U / V ≤ g - 1 := Nat.le_sub_one_of_lt hm
  have hg2 : g - 1 < 4294967296 := by omega
  have hdn := G.done (vx (u := (W.getD (v.length - 2) 0).toNat) (pb hgr (by omega)) (show 4294967296 ≤ r + d by omega) hg2 hv2) hg2 hmq
  intro _
  refine uy [0, 1, 5, 8] [1000000] _ _ ⟨.inl rfl, rfl, rfl, by first | rfl | (repeat first | exact all_nil _ | refine cb _ _ _ _ _ ?_)⟩ (o5 ?_ (T (g - 1) hg2 hdn))
  intro e σ' he
  cases e with
  | goto l => exact he.elim
  | _ => exact he
 ·rename_i h1 h2
  subst hnl
  have hg2 : g < 4294967296 := by omega
  have hdn := G.done (ahj (u := (W.getD (v.length - 2) 0).toNat) hgr (show g * (v.getD (v.length - 2) 0).toNat ≤ r * 4294967296 + (W.getD (v.length - 2) 0).toNat by omega)) hg2 hqg
  intro _
  refine uy [0, 1, 5, 8] [1000000] _ _ ⟨.inl rfl, rfl, rfl, by first | rfl | (repeat first | exact all_nil _ | refine cb _ _ _ _ _ ?_)⟩ (o5 ?_ (T g hg2 hdn))
  intro e σ' he
  cases e with
  | goto l => exact he.elim
  | _ => exact he
set_option maxHeartbeats 4000000 in
theorem agc (A W v : List UInt32) (hA : A.length + W.length < 2^32) (hn : 2 ≤ v.length) (hW : v.length + 1 ≤ W.length) (htop : 2147483648 ≤ (v.getD (v.length - 1) 0).toNat) (hlt : nv (W.take (v.length + 1)) < 4294967296 * nv v) :
  qu Tryz.prog G0 140 [.own 1000000 A.length (v.length + 1) 1, .d (sl v)] [(1000000, false, la (A ++ W))] (.d (.int .u32 (nv (W.take (v.length + 1)) / nv v : Nat))) [(1000000, false, la (A ++ gn W v))] := by
 generalize hd : (v.getD (v.length - 1) 0).toNat = d at *
 have htk : ∀ j, j ≤ v.length → (W.take (v.length + 1)).getD j 0 = W.getD j 0 := by
  intro j hj
  rw [List.getD_eq_getElem?_getD, List.getElem?_take, if_pos (by omega), ← List.getD_eq_getElem?_getD]
 have hU3 := akg (W.take (v.length + 1)) v.length (by rw [List.length_take]; omega) hn
 have hV3 := akf v v.length rfl hn
 rw [htk _ (by omega), htk _ (by omega), htk _ (by omega), List.take_take, Nat.min_eq_left (by omega)] at hU3
 rw [hd] at hV3
 obtain ⟨top, htop2⟩ : ∃ t, t = (W.getD (v.length - 1) 0).toNat + 4294967296 * (W.getD v.length 0).toNat := ⟨_, rfl⟩
 rw [← htop2] at hU3
 have hun := ca (W.getD v.length 0)
 have hu1 := ca (W.getD (v.length - 1) 0)
 have hd1 := ca (v.getD (v.length - 1) 0)
 rw [hd] at hd1
 have G : k8 (nv (W.take (v.length + 1))) (nv v) (Pw (v.length - 2)) (nv (W.take (v.length - 2))) (nv (v.take (v.length - 2))) (W.getD (v.length - 2) 0).toNat (v.getD (v.length - 2) 0).toNat d top :=
  ⟨hU3, hV3, kx _ _, kx _ _, by
   have := Nat.mul_pos (ach (v.length - 2)) (show 0 < (v.getD (v.length - 2) 0).toNat + 4294967296 * d by omega)
   omega, ca _, ca _, htop, hlt⟩
 have R := fun g xs h hI => age A W v d top _ _ hA hn hW hd G g xs h hI
 obtain ⟨g1, g2⟩ := G.first
 have hdm := Nat.div_add_mod top d
 have hml := Nat.mod_lt top (show d > 0 by omega)
 refine afc ax Tryz.func140 ?_
 repeat' ((conv => whnf); first | refine rgE ?_)
 refine agq 0 rfl [0, 1, 5, 7, 8, 9] [1000000] (aiy A W v d top (nv (W.take (v.length + 1)) / nv v)) ?_ ?_
 ·refine nn ax ?_
  repeat' ((conv => whnf); first | refine rgE ?_)
  intro _
  refine nn ax ?_
  repeat' ((conv => whnf); first | refine an.mk _ (nf A W _ (v.length - 1) (by omega) (by omega)) ?_ | refine an.mk _ (nf A W _ v.length rfl (by omega)) ?_ | refine rgE ?_ | refine Cd.mk rfl ?_ | ((with_reducible refine EqE.idW ?_); first | with_reducible refine EqE.mk _ (adj _ _ (by omega) (by omega)) ?_ | with_reducible refine EqE.mk _ (ar _) ?_ | with_reducible refine EqE.mk _ (b6 _ (by omega)) ?_ | with_reducible refine EqE.mk _ (ah (by omega) (by omega)) ?_) | refine Cd.om ?_)
  intro _
  refine nn ax ?_
  repeat' ((conv => whnf); first | refine an.mk _ (kv v _ (v.length - 1) (by omega) (by omega)) ?_ | refine rgE ?_ | refine Cd.mk rfl ?_ | ((with_reducible refine EqE.idW ?_); first | with_reducible refine EqE.mk _ (ar _) ?_ | with_reducible refine EqE.mk _ (ah (by omega) (by omega)) ?_) | refine Cd.om ?_)
  intro _
  refine nn ax ?_
  rw [hd]
  rw [show (W.getD v.length 0).toNat * 4294967296 + (W.getD (v.length - 1) 0).toNat = top by omega]
  repeat' ((conv => whnf); first | refine rgE ?_ | refine Cd.mk rfl ?_ | ((with_reducible refine EqE.idW ?_); refine EqE.mk _ (aey _ _ (by omega)) ?_) | ((with_reducible refine EqE.idM ?_); refine EqE.mk _ (bn _ _) ?_) | refine Cd.om ?_)
  intro _
  refine nn ax ?_
  show _ → Wp' _ _ _ _ _
  intro _
  refine uy [0, 1, 5, 7, 8, 9] [1000000] _ _ ⟨.inl rfl, rfl, rfl, by first | rfl | (repeat first | exact all_nil _ | refine cb _ _ _ _ _ ?_)⟩ (o5 ?_ (R (top / d) _ _ ⟨top / d, top % d, rfl, by rw [Nat.mul_comm]; exact hdm, by omega, g1, g2, rfl, rfl⟩))
  intro e σ' he
  cases e with
  | goto l =>
   obtain ⟨h1, m', xs', h', hcut, _, hI⟩ := he
   exact ⟨h1, m', xs', h', hcut, hI⟩
  | _ => exact he
 ·intro m xs h hI
  refine nn ax ?_
  show _ → Wp' _ _ _ _ _
  intro _
  exact o5 (fun e σ' he => by cases e <;> exact he) (R m xs h hI)
end Go.Ev.Ar
