/- Contracts of the given functions, on data. Conditions stand in each theorem. -/
import Derived.Test.YtagjickjfjgfpaaGreatDoorHEvR
import Derived.Test.YtagjickjfjgfpaaGreatDoorHAvVz
import Derived.Test.YtagjickjfjgfpaaGreatDoorHAvYn
set_option linter.unusedSimpArgs false
set_option linter.unusedVariables false
namespace Go.Ev.Ar
open Go Go.Ev Go.Proofs
theorem abc (xs : List Nd) (hn : xs.length ≤ 9223372036854775807) : Sim Tryz.prog G0 true 44 [nsl xs] (.bool (af3 xs)) := by
 refine ao af Tryz.func44 ?_
 repeat' ((conv => whnf); first | refine rgE ?_)
 refine ⟨[], [0, 3], [], fun m ys h => ∃ (i : Nat), m = xs.length - i ∧ i ≤ xs.length ∧ (∀ j, j < i → (xs.getD j Nd.nil).r.few 2 40 = true) ∧ ys = [.d (nsl xs), .d (.int .i64 i)] ∧ h = [],
  ⟨_, _, _, ⟨.inl rfl, rfl, rfl, by first | rfl | (repeat first | exact all_nil _ | refine bm _ _ _ _ _ ?_)⟩, 0, rfl, by omega, fun j hj => absurd hj (by omega), rfl, rfl⟩, ?_⟩
 rintro m ys h ⟨i, rfl, hi, hall, rfl, rfl⟩
 by_cases hlt : i < xs.length
 ·have s := xw (xs.getD i Nd.nil).r
  obtain ⟨t, ht⟩ : ∃ t, (xs.getD i Nd.nil).r.few 2 40 = t := ⟨_, rfl⟩
  rw [ht] at s
  have T1 := a3o xs i hlt
  generalize hr : (xs.getD i Nd.nil).r = r at *
  obtain ⟨b1, l1, e1, c1, k1, f1⟩ := r
  cases t
  ·have no : af3 xs = false := by
    unfold af3
    rw [Bool.and_eq_false_iff]; left
    rw [List.all_eq_false]
    exact ⟨xs.getD i Nd.nil, by simp [hlt], by rw [hr, ht]; decide⟩
   repeat' ((conv => whnf); first | with_reducible refine ag.data ?_ | with_reducible refine Br.bt fun _ => ?_ | refine aa.mk _ _ (s) ?_ | refine Cd.mk (ba xs _ (by omega)) ?_ | refine TkE.mk _ T1 rfl ?_ | refine rgE ?_ | refine Cd.mk rfl ?_ | refine Br.t ?_ | refine Res.mk ?_)
   show D.bool _ = D.bool _; rw [no]
  ·repeat' ((conv => whnf); first | with_reducible refine ag.data ?_ | with_reducible refine Br.bt fun _ => ?_ | refine aa.mk _ _ (s) ?_ | refine Cd.mk (ba xs _ (by omega)) ?_ | refine TkE.mk _ T1 rfl ?_ | refine rgE ?_ | refine Cd.mk rfl ?_ | refine Br.f ?_ | refine an.cu _ _ ?_ | ((with_reducible refine EqE.idW ?_); with_reducible refine EqE.mk _ (ax _ (by omega)) ?_))
   exact ⟨_, ⟨i + 1, rfl, by omega, fun j hj => by
    rcases Nat.lt_succ_iff_lt_or_eq.1 hj with g | rfl
    ·exact hall j g
    ·rw [hr]; exact ht, rfl, rfl⟩, by omega⟩
 ·repeat' ((conv => whnf); first | with_reducible refine Br.bf fun _ => ?_ | refine rgE ?_ | refine Cd.mk rfl ?_ | refine Res.mk ?_)
  have : (xs.all fun x => x.r.few 2 40) = true := List.all_eq_true.2 fun x hx => by
   obtain ⟨j, hj, rfl⟩ := List.mem_iff_getElem.1 hx
   have := hall j (by omega)
   rwa [List.getD_eq_getElem?_getD, List.getElem?_eq_getElem hj] at this
  show D.bool _ = D.bool _
  unfold af3
  rw [this, Bool.true_and]
  exact congrArg D.bool (decide_eq_decide.2 (by omega))
end Go.Ev.Ar

namespace Go.Ev.Ar
open Go Go.Ev Go.Proofs
theorem ax6 {xs : List Nd} (hx : ∀ j, j < xs.length → dy (xs.getD j Nd.nil) j = true) (hc : ∀ i, i < xs.length → Hc 104 (xs.getD i Nd.nil).r.val) (hs : ∀ j, j < xs.length → ef (szL xs j) (xs.getD j Nd.nil) j ≤ 60) : ∀ i, i ≤ xs.length → ∀ lv, poL xs i = some lv → PH xs lv
 | 0, _, lv, h => by cases h; exact ⟨fun j h => absurd h (by simp), fun j h => absurd h (by simp)⟩
 | i + 1, hi, lv, h => by
  unfold poL at h
  rw [Option.bind_eq_some_iff] at h
  obtain ⟨us, hu, h⟩ := h
  rw [Option.map_eq_some_iff] at h
  obtain ⟨p, hp, rfl⟩ := h
  have ih := ax6 hx hc hs i (by omega) us hu
  have hul := vv hu
  subst hul
  unfold ahv at hp
  rw [Option.bind_eq_some_iff] at hp
  obtain ⟨q, hq, hp⟩ := hp
  split at hp
  ·cases hp
  rename_i hl
  cases hp
  exact ih.add (amz ih (by omega) (hx _ (by omega)) (hc _ (by omega)) hs hq) (by omega)
theorem art {p : List Cq} {z : Cq} {h : Nat} (hp : br h p) (hz : Hc 104 z) : ∀ k, Hc (h + 106 * k) (rl p z k)
 | 0 => af8 _
 | k + 1 => by
  have ih := art hp hz k
  unfold rl
  exact Hc.o8 (Hc.ar ih hz (c := h + 106 * k + 105) (by omega)) (hp _) (by omega)
theorem ap9 {p : Rq} {d : Cq} {t : Bool} (hp : Hr 9000 p) (hd : Hc 18000 d) (ht : ajr p (d, (dof 1 0, dof 0 0)) = t) : Sim Tryz.prog G0 true 51 [rqD p, rqD (d, (dof 1 0, dof 0 0))] (.bool t) := by
 have h1 : Hc 164 ((dof 1 0, dof 0 0) : Cq) := ⟨show Ht 164 (dof 1 0) from Ht.cst (by decide), show Ht 164 (dof 0 0) from Ht.cst (by decide)⟩
 have s1 := fk (hp.1.mono (show 9000 ≤ 20000 by decide)) (h1.mono (show 164 ≤ 20000 by decide)) rfl
 have s2 := fk (hd.mono (show 18000 ≤ 20000 by decide)) (hp.2.mono (show 9000 ≤ 20000 by decide)) rfl
 have h2 : Hc 27001 (ar p.1 (dof 1 0, dof 0 0)) := Hc.ar hp.1 h1 (by decide)
 have h3 : Hc 27001 (ar d p.2) := Hc.ar hd hp.2 (by decide)
 have s3 := asx (h2.mono (by decide)) (h3.mono (by decide)) ht
 clear ht h2 h3 hp hd h1
 generalize ar p.1 (dof 1 0, dof 0 0) = u at *
 generalize ar d p.2 = v at *
 obtain ⟨⟨_, _⟩, ⟨_, _⟩⟩ := p
 obtain ⟨_, _⟩ := d
 obtain ⟨_, _⟩ := u
 obtain ⟨_, _⟩ := v
 refine ao af Tryz.func51 ?_
 repeat' ((conv => whnf); first | refine aa.mk _ _ (s1) ?_ | refine aa.mk _ _ (s2) ?_ | refine aa.mk _ _ (s3) ?_ | refine rgE ?_ | refine Cd.mk rfl ?_ | (refine TkE.fL ?_; (conv => whnf); fail_if_success (show ae _ _)) | refine Res.mk ?_)
 all_goals rfl
abbrev VSL (xs : List Nd) (rz : RC) : Prop := Sim Tryz.prog G0 true 10 [nsl xs, .agg rz.cells] (.bool true)
theorem aih {xs : List Nd} (h : af3 xs = true) : xs.length ≤ 45 := by
 unfold af3 at h
 simp only [Bool.and_eq_true, decide_eq_true_eq] at h; exact h.2
theorem aif {xs : List Nd} (h : af3 xs = true) : ∀ x ∈ xs, x.r.few 2 40 = true := by
 unfold af3 at h
 simp only [Bool.and_eq_true, List.all_eq_true] at h; exact h.1
theorem amd {x : Nd} (h : x.r.few 2 40 = true) : x.r.l.length ≤ 2 ∧ x.r.k.length ≤ 2 := by
 have := RC.yu.1 h; omega
set_option maxRecDepth 10000 in
set_option maxHeartbeats 8000000 in
theorem alo (kn : KN) (xs : List Nd) (rz : RC) (hn : xs.length ≤ 9223372036854775807) (h : af3 xs = false ∨ rz.few 2 40 = false ∨ alv xs = true ∨ fu xs = false) : VSL xs rz := by
 have s1 := abc xs hn
 have s2 := xw rz
 cases h1 : af3 xs
 ·rw [h1] at s1
  obtain ⟨bz, lz, ez, cz, kz, fz⟩ := rz
  refine ao af Tryz.func10 ?_
  repeat' ((conv => whnf); first | with_reducible refine ag.data ?_ | refine aa.mk _ _ (kn) ?_ | refine aa.mk _ _ (s1) ?_ | refine rgE ?_ | refine Cd.mk rfl ?_ | refine Br.t ?_ | refine Br.f ?_ | refine Res.mk ?_)
  all_goals rfl
 have h45 := aih h1
 have hall := aif h1
 have s3 := ajv xs h45
 have hn' : xs.length < 2^62 := Nat.lt_of_le_of_lt h45 (by decide)
 rw [h1] at s1
 cases h2 : rz.few 2 40
 ·rw [h2] at s2
  obtain ⟨bz, lz, ez, cz, kz, fz⟩ := rz
  refine ao af Tryz.func10 ?_
  repeat' ((conv => whnf); first | with_reducible refine ag.data ?_ | refine aa.mk _ _ (kn) ?_ | refine aa.mk _ _ (s1) ?_ | refine aa.mk _ _ (s2) ?_ | refine rgE ?_ | refine Cd.mk rfl ?_ | refine Br.t ?_ | refine Br.f ?_ | (refine TkE.fL ?_; (conv => whnf); fail_if_success (show ae _ _)) | refine Res.mk ?_)
  all_goals rfl
 rw [h2] at s2
 rcases Bool.eq_false_or_eq_true (alv xs) with h3 | h3
 ·rw [h3] at s3
  obtain ⟨bz, lz, ez, cz, kz, fz⟩ := rz
  refine ao af Tryz.func10 ?_
  repeat' ((conv => whnf); first | with_reducible refine ag.data ?_ | refine aa.mk _ _ (kn) ?_ | refine aa.mk _ _ (s1) ?_ | refine aa.mk _ _ (s2) ?_ | refine aa.mk _ _ (s3) ?_ | refine rgE ?_ | refine Cd.mk rfl ?_ | refine Br.t ?_ | refine Br.f ?_ | (refine TkE.fL ?_; (conv => whnf); fail_if_success (show ae _ _)) | refine Res.mk ?_)
  all_goals rfl
 rw [h3] at s3
 cases h4 : fu xs
 ·have s4 := uk xs hn' (fun x hx => by have := amd (hall x hx); omega)
  have s5 := au9 xs hn' (fun x hx => by have := amd (hall x hx); exact ⟨by omega, by omega⟩) h4
  rw [h4] at s4
  obtain ⟨bz, lz, ez, cz, kz, fz⟩ := rz
  refine ao af Tryz.func10 ?_
  repeat' ((conv => whnf); first | with_reducible refine ag.data ?_ | refine aa.mk _ _ (kn) ?_ | refine aa.mk _ _ (s1) ?_ | refine aa.mk _ _ (s2) ?_ | refine aa.mk _ _ (s3) ?_ | refine aa.mk _ _ (s4) ?_ | refine aa.mk _ _ (s5) ?_ | refine rgE ?_ | refine Cd.mk rfl ?_ | refine Br.t ?_ | refine Br.f ?_ | refine ah.mk _ rfl ?_ | (refine TkE.fL ?_; (conv => whnf); fail_if_success (show ae _ _)) | refine Res.mk ?_)
  all_goals rfl
 ·rw [h1, h2, h3, h4] at h; simp at h
set_option maxRecDepth 10000 in
set_option maxHeartbeats 8000000 in
theorem a5p (kn : KN) (xs : List Nd) (rz : RC) (hn : xs.length ≤ 9223372036854775807) : VSL xs rz := by
 cases h1 : af3 xs
 ·exact alo kn xs rz hn (.inl h1)
 cases h2 : rz.few 2 40
 ·exact alo kn xs rz hn (.inr (.inl h2))
 rcases Bool.eq_false_or_eq_true (alv xs) with h3 | h3
 ·exact alo kn xs rz hn (.inr (.inr (.inl h3)))
 cases h4 : fu xs
 ·exact alo kn xs rz hn (.inr (.inr (.inr h4)))
 have h45 := aih h1
 have hall := aif h1
 have hn' : xs.length < 2^62 := Nat.lt_of_le_of_lt h45 (by decide)
 have hl : ∀ x ∈ xs, x.r.l.length ≤ 4194304 ∧ x.r.k.length ≤ 4194304 := fun x hx => by have := amd (hall x hx); omega
 have hF : ∀ x ∈ xs, Few x := fun x hx => by have := amd (hall x hx); exact ⟨by omega, by omega⟩
 have s1 := abc xs hn
 have s2 := xw rz
 have s3 := ajv xs h45
 have s4 := uk xs hn' hl
 rw [h1] at s1
 rw [h2] at s2
 rw [h3] at s3
 rw [h4] at s4
 obtain ⟨zR, zF, zH⟩ := tw h2
 have hgt : ∀ (ys : List Nd) (i : Nat), i < ys.length → ys.getD i Nd.nil ∈ ys := fun ys i hi => by
  rw [List.getD_eq_getElem?_getD, List.getElem?_eq_getElem hi]; exact List.getElem_mem hi
 have hc : ∀ i, i < xs.length → Hc 104 (xs.getD i Nd.nil).r.val := fun i hi => (tw (hall _ (hgt _ i hi))).2.2
 have hb : ∀ i, i < xs.length → ef (szL xs i) (xs.getD i Nd.nil) i ≤ 60 := aay.1 h3
 have hx2 := h4
 unfold fu at hx2
 simp only [Bool.and_eq_true, decide_eq_true_eq, List.all_eq_true, List.mem_range] at hx2
 obtain ⟨⟨n0, n40⟩, hnd⟩ := hx2
 obtain ⟨es, hes⟩ : ∃ es, (slL xs xs.length).1 = es := ⟨_, rfl⟩
 obtain ⟨d, hd⟩ : ∃ d, (slL xs xs.length).2.getD (xs.length - 1) 0 = d := ⟨_, rfl⟩
 have sl := ajj xs hF h4 hes hd
 have hsc : (slR es d).sc = false := by
  unfold slR; split
  ·rfl
  ·split <;> rfl
 rw [hsc] at sl
 clear hsc
 have gq := GQ.all (xs := xs) (fun i hi hk => (zt (hnd i hi)).2.2 hk) xs.length (Nat.le_refl _)
 rw [hes] at gq
 have hfe := gq.few hall
 have rp := aur hn' hl hc h4 hb
 by_cases hT : d ≠ -1 ∧ fu (es.take (d + 1).toNat) = false
 ·have e : slT es d = .tup [.slice 0 [], .bool false] := by unfold slT; rw [if_neg hT.1, hT.2] <;> rfl
  rw [e] at sl
  obtain ⟨bz, lz, ez, cz, kz, fz⟩ := rz
  clear rp gq hfe
  refine ao af Tryz.func10 ?_
  repeat' ((conv => whnf); first | with_reducible refine ag.data ?_ | refine aa.mk _ _ (kn) ?_ | refine aa.mk _ _ (s1) ?_ | refine aa.mk _ _ (s2) ?_ | refine aa.mk _ _ (s3) ?_ | refine aa.mk _ _ (s4) ?_ | refine aa.mk _ _ (sl) ?_ | refine rgE ?_ | refine Cd.mk rfl ?_ | refine Br.t ?_ | refine Br.f ?_ | refine ah.mk _ rfl ?_ | (refine TkE.fL ?_; (conv => whnf); fail_if_success (show ae _ _)) | refine Res.mk ?_)
  all_goals rfl
 have e : slT es d = .tup [nsl (slN es d), .bool true] ∧ fu (slN es d) = true ∧ ∀ x ∈ slN es d, aeb x := by
  unfold slT slN
  by_cases hd1 : d = -1
  ·rw [if_pos hd1, if_pos hd1]
   exact ⟨rfl, by kernel_rfl, fun x hx => by simp only [List.mem_cons, List.not_mem_nil, or_false] at hx; subst hx; exact jx ..⟩
  ·have hE : fu (es.take (d + 1).toNat) = true := by
    cases g : fu (es.take (d + 1).toNat)
    ·exact absurd ⟨hd1, g⟩ hT
    ·rfl
   rw [if_neg hd1, if_neg hd1, if_pos hE]
   exact ⟨rfl, hE, fun x hx => hfe x (List.mem_of_mem_take hx)⟩
 obtain ⟨e1, e2, e3⟩ := e
 rw [e1] at sl
 have sv := fun lv hp => auz (lv := lv) rz.val n0 hnd (fun j hj => hall _ (hgt _ j hj)) hp hes hd
 clear e1 hT gq hfe
 generalize slN es d = ss at *
 have e2' := e2
 unfold fu at e2'
 simp only [Bool.and_eq_true, decide_eq_true_eq, List.all_eq_true, List.mem_range] at e2'
 obtain ⟨⟨m0, m40⟩, snd⟩ := e2'
 have sl2 : ∀ x ∈ ss, x.r.l.length ≤ 4194304 ∧ x.r.k.length ≤ 4194304 := fun x hx => by have := amd (e3 x hx); omega
 have s5 := uk ss (by omega) sl2
 have s6 := ajv ss (by omega)
 rw [e2] at s5
 cases hp : poL xs xs.length with
 | none =>
  rw [hp] at rp
  obtain ⟨bz, lz, ez, cz, kz, fz⟩ := rz
  unfold poR at rp
  dsimp only at rp
  refine ao af Tryz.func10 ?_
  repeat' ((conv => whnf); first | with_reducible refine ag.data ?_ | refine aa.mk _ _ (kn) ?_ | refine aa.mk _ _ (s1) ?_ | refine aa.mk _ _ (s2) ?_ | refine aa.mk _ _ (s3) ?_ | refine aa.mk _ _ (s4) ?_ | refine aa.mk _ _ (sl) ?_ | refine aa.mk _ _ (rp) ?_ | refine aa.mk _ _ (s5) ?_ | refine rgE ?_ | refine Cd.mk rfl ?_ | refine Br.t ?_ | refine Br.f ?_ | refine ah.mk _ rfl ?_ | (refine TkE.fL ?_; (conv => whnf); fail_if_success (show ae _ _)) | refine Res.mk ?_)
  all_goals rfl
 | some lv =>
  rw [hp] at rp
  unfold poR at rp
  dsimp only at rp
  rcases Bool.eq_false_or_eq_true (alv ss) with h6 | h6
  ·rw [h6] at s6
   obtain ⟨bz, lz, ez, cz, kz, fz⟩ := rz
   generalize lv.getD (lv.length - 1) [] = P at *
   refine ao af Tryz.func10 ?_
   repeat' ((conv => whnf); first | with_reducible refine ag.data ?_ | refine aa.mk _ _ (kn) ?_ | refine aa.mk _ _ (s1) ?_ | refine aa.mk _ _ (s2) ?_ | refine aa.mk _ _ (s3) ?_ | refine aa.mk _ _ (s4) ?_ | refine aa.mk _ _ (sl) ?_ | refine aa.mk _ _ (rp) ?_ | refine aa.mk _ _ (s5) ?_ | refine aa.mk _ _ (s6) ?_ | refine rgE ?_ | refine Cd.mk rfl ?_ | refine Br.t ?_ | refine Br.f ?_ | refine ah.mk _ rfl ?_ | (refine TkE.fL ?_; (conv => whnf); fail_if_success (show ae _ _)) | refine Res.mk ?_)
   all_goals rfl
  rw [h6] at s6
  obtain ⟨ps, hps, psl, ps0, hv⟩ := sv lv hp
  have lvl := vv hp
  have ph := ax6 hnd hc hb _ (Nat.le_refl _) lv hp
  have hP1 := ph.h (lv.length - 1) (by omega)
  have hP2 := ph.l (lv.length - 1) (by omega)
  have hsz : (szL xs lv.length).getD (lv.length - 1) 0 ≤ 60 := by rw [sk xs _ _ (by omega)]; exact hb _ (by omega)
  have hP1 := hP1.mono (ay7 hsz)
  have hcS : ∀ i, i < ss.length → Hc 104 (ss.getD i Nd.nil).r.val := fun i hi => (tw (e3 _ (hgt _ i hi))).2.2
  have hczS : ∀ i, i < ss.length → CxF (.agg (ss.getD i Nd.nil).r.cells) (ss.getD i Nd.nil).r.val := fun i hi => (tw (e3 _ (hgt _ i hi))).2.1
  have hbS := aay.1 h6
  have ex := aqc (xs := ss) (by omega) sl2 zF hczS zH hcS e2 hbS
  rw [hps] at ex
  unfold a0a at ex
  dsimp only at ex
  obtain ⟨l1, f1⟩ := ama snd zH hcS hbS _ (Nat.le_refl _) _ hps
  have j1 : ps.length - 1 < ps.length := by omega
  have b1 := f1.s1 _ j1
  have hq : Hr 9000 (ps.getD (ps.length - 1) (ai, ai)) := (f1.v _ j1).mono (by omega)
  have der := ax3 (lv.getD (lv.length - 1) []) (by omega) (hP1.mono (by decide))
  have hD : br 10794 (zj (lv.getD (lv.length - 1) [])) := by
   unfold zj
   refine br.trim (br.of fun c hc => ?_)
   unfold xd at hc
   rw [List.mem_map] at hc
   obtain ⟨i, hi, rfl⟩ := hc
   have hi := List.mem_range.1 hi
   have ht := apc (n := i + 1) (by omega)
   exact ⟨(hP1 (i + 1)).1.mul ht (by decide), (hP1 (i + 1)).2.mul ht (by decide)⟩
  have hDl : (zj (lv.getD (lv.length - 1) [])).length ≤ 24 := by
   unfold zj
   refine Nat.le_trans (yd _) ?_
   rw [xe]; omega
  have hh := fun k (hk : k ≤ (zj (lv.getD (lv.length - 1) [])).length) => Go.Ev.Hc.mono (art hD zH k) (show 10794 + 106 * k ≤ 18000 by omega)
  have at1 := ax2 (zj (lv.getD (lv.length - 1) [])) rz.val (by omega) (hD.mono (by decide)) (zH.mono (by decide)) hh
  have hA : Hc 18000 (atP (zj (lv.getD (lv.length - 1) [])) rz.val) := hh _ (Nat.le_refl _)
  have hal : ajr (ps.getD (ps.length - 1) (ai, ai)) (atP (zj (lv.getD (lv.length - 1) [])) rz.val, (dof 1 0, dof 0 0)) = true := hv.alike (alm _)
  have al := ap9 hq hA hal
  have o1 : Sim Tryz.prog G0 false 42 [.int .i64 1, .int .i64 0] (cxD (dof 1 0, dof 0 0)) := vx 1 0 (by decide) (by decide) (by decide) (by decide)
  have zc := qg zF
  clear hal hA hh hD hDl hq b1 f1 l1 hbS hczS hcS hP1 hP2 hsz ph hv sv hps psl ps0 snd sl2 e3 hc hb hnd zR zF zH hF hl hall
  generalize atP (zj (lv.getD (lv.length - 1) [])) rz.val = A at *
  generalize zj (lv.getD (lv.length - 1) []) = DP at *
  generalize lv.getD (lv.length - 1) [] = P at *
  generalize ps.getD (ps.length - 1) (ai, ai) = q at *
  generalize rz.val = zv' at *
  obtain ⟨bz, lz, ez, cz, kz, fz⟩ := rz
  obtain ⟨A1, A2⟩ := A
  obtain ⟨⟨_, _⟩, ⟨_, _⟩⟩ := q
  obtain ⟨_, _⟩ := zv'
  refine ao af Tryz.func10 ?_
  repeat' ((conv => whnf); first | with_reducible refine ag.data ?_ | refine aa.mk _ _ (kn) ?_ | refine aa.mk _ _ (s1) ?_ | refine aa.mk _ _ (s2) ?_ | refine aa.mk _ _ (s3) ?_ | refine aa.mk _ _ (s4) ?_ | refine aa.mk _ _ (sl) ?_ | refine aa.mk _ _ (rp) ?_ | refine aa.mk _ _ (s5) ?_ | refine aa.mk _ _ (s6) ?_ | refine aa.mk _ _ (ex) ?_ | refine aa.mk _ _ (der) ?_ | refine aa.mk _ _ (at1) ?_ | refine aa.mk _ _ (al) ?_ | refine aa.mk _ _ (o1) ?_ | refine aa.mk _ _ (zc) ?_ | refine rgE ?_ | refine Cd.mk rfl ?_ | refine Br.t ?_ | refine Br.f ?_ | refine ah.mk _ rfl ?_ | (refine TkE.fL ?_; (conv => whnf); fail_if_success (show ae _ _)) | refine Res.mk ?_ | ((with_reducible refine EqE.idS ?_); (refine EqE.fP ?_; (conv => whnf); fail_if_success (show ae _ _))) | refine Cd.ol ?_)
  all_goals rfl
theorem aob (xs : List Nd) (rz : RC) (hn : xs.length ≤ 9223372036854775807) : VSL xs rz := a5p a5s xs rz hn
end Go.Ev.Ar

namespace Go.Ev.Ar
open Go Go.Ev Go.Proofs
abbrev a37 : Sh := .struct [.int .i64, .int .i64, .int .i64, .int .i64, a1n]
abbrev a2i : Sh := .slice a37
theorem a28 {ds : List D} (h : a37.has ds) : ∃ x : Nd, ds = x.cells := by
 simp only [Sh.has, Sh.hasAll] at h
 obtain ⟨_, _, rfl, ⟨k, rfl, _⟩, _, _, rfl, ⟨a, rfl, _⟩, _, _, rfl, ⟨b, rfl, _⟩, _, _, rfl, ⟨n, rfl, _⟩, _, _, rfl, h2, rfl⟩ := h
 obtain ⟨r, rfl⟩ := aww (by simp only [Sh.has, Sh.hasAll]; exact h2)
 exact ⟨⟨k, a, b, n, r⟩, rfl⟩
theorem adx : ∀ {ls : List (List D)}, (∀ l ∈ ls, a37.has l) → ∃ xs : List Nd, ls.flatten = xs.flatMap Nd.cells ∧ xs.length = ls.length
 | [], _ => ⟨[], rfl, rfl⟩
 | x :: ls, h => by
  obtain ⟨xs, h1, h2⟩ := adx (ls := ls) fun y hy => h y (by simp [hy])
  obtain ⟨r, rfl⟩ := a28 (h x (by simp))
  exact ⟨r :: xs, by simp [h1], by simp [h2]⟩
theorem azu {x : D} (h : aq4 a2i x) : ∃ xs : List Nd, x = nsl xs ∧ xs.length ≤ 9223372036854775807 := by
 obtain ⟨ds, ⟨n, ls, rfl, h1, h2, h3⟩, rfl⟩ := h
 obtain ⟨xs, h4, h5⟩ := adx h3
 rw [aua] at h2
 refine ⟨xs, ?_, by omega⟩
 rw [h4]; unfold nsl; rw [h5, h1] <;> rfl
end Go.Ev.Ar

namespace Go.Ev.Ar
open Go Go.Ev Go.Proofs
theorem alj (xs : List Nd) (rz : RC) (hn : xs.length ≤ 9223372036854775807) : VSL xs rz := aob xs rz hn
end Go.Ev.Ar
