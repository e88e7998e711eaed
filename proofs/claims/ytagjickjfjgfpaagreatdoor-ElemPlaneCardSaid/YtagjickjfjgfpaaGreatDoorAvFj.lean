/- Contracts of the given functions, on data. Conditions stand in each theorem. -/
import Derived.Test.YtagjickjfjgfpaaGreatDoorAvFk
set_option linter.unusedSimpArgs false
set_option linter.unusedVariables false
namespace Go.Ev.Ar
open Go Go.Ev Go.Proofs

theorem half_mm : Mm (fun _ => 1 / 2) (dof 1 (-1), dof 1 (-1)) := by
  have := Mm.of (f := fun _ => (dof 1 (-1)).toRat) 0 fun n _ => qhas_pt (dof 1 (-1))
  rwa [half_rat] at this
theorem bd2 {f g : Nat → Rat} {M N : Rat} (hf : ∀ n, qab (f n) ≤ M) (hg : ∀ n, qab (g n) ≤ N) : ∀ n, qab (f n * g n) ≤ M * N := fun n => by
  rw [qab_mul]; exact qmul_le (qab_ge _) (hf n) (qab_ge _) (hg n)
theorem hyp_mm {e f : Cq} {a b : Nat → Rat} (he : Mm a e) (hf : Mm b f) :
    Mm (fun n => 1 / 2 * (a n + b n)) (imul (dof 1 (-1), dof 1 (-1)) (iadd e f)) ∧ Mm (fun n => 1 / 2 * (a n + -b n)) (imul (dof 1 (-1), dof 1 (-1)) (isub e f)) ∧ Ord (iadd e f) ∧ Ord (isub e f) := by
  have oe : Ord e := he.meet he
  have of : Ord f := hf.meet hf
  have oh : Ord (dof 1 (-1), dof 1 (-1)) := q_le.1 Rat.le_refl
  have bh : ∀ n : Nat, qab ((fun _ => (1 / 2 : Rat)) n) ≤ 1 := fun n => by show qab (1 / 2) ≤ 1; decide +kernel
  exact ⟨half_mm.mul (he.add hf) oh (iadd_ord oe of) bh, half_mm.mul (he.add hf.neg) oh (isub_ord oe of) bh, iadd_ord oe of, isub_ord oe of⟩
/-- Sine and cosine of one point: their squares are 1 together. -/
theorem plane_one {c s e f : Cq} {fc fs a b : Nat → Rat} {M N K : Rat} (hc : Mm fc c) (hs : Mm fs s) (he : Mm a e) (hf : Mm b f)
    (bc : ∀ n, qab (fc n) ≤ M) (bs : ∀ n, qab (fs n) ≤ M) (ba : ∀ n, qab (a n) ≤ N) (bb : ∀ n, qab (b n) ≤ N)
    (k1 : Sm (fun n => qab (fc n * fc n + fs n * fs n - 1))) (k2 : Sm (fun n => qab (a n * b n - 1))) :
    ihas (radd (rsq (imul s (imul (dof 1 (-1), dof 1 (-1)) (iadd e f)), imul c (imul (dof 1 (-1), dof 1 (-1)) (isub e f)))) (rsq (imul c (imul (dof 1 (-1), dof 1 (-1)) (iadd e f)), ineg (imul s (imul (dof 1 (-1), dof 1 (-1)) (isub e f)))))).1 1 ∧
    ihas (radd (rsq (imul s (imul (dof 1 (-1), dof 1 (-1)) (iadd e f)), imul c (imul (dof 1 (-1), dof 1 (-1)) (isub e f)))) (rsq (imul c (imul (dof 1 (-1), dof 1 (-1)) (iadd e f)), ineg (imul s (imul (dof 1 (-1), dof 1 (-1)) (isub e f)))))).2 0 := by
  obtain ⟨h1, h2, _, _⟩ := hyp_mm he hf
  have oc : Ord c := hc.meet hc
  have os : Ord s := hs.meet hs
  have M0 : 0 ≤ M := by have := bc 0; have := qab_ge (fc 0); grind
  have N0 : 0 ≤ N := by have := ba 0; have := qab_ge (a 0); grind
  generalize hP : imul (dof 1 (-1), dof 1 (-1)) (iadd e f) = P at *
  generalize hQ : imul (dof 1 (-1), dof 1 (-1)) (isub e f) = Q at *
  have oP : Ord P := h1.meet h1
  have oQ : Ord Q := h2.meet h2
  have bP : ∀ n, qab (1 / 2 * (a n + b n)) ≤ N := fun n => by have := qab_le.1 (ba n); have := qab_le.1 (bb n); rw [qab_le]; grind
  have bQ : ∀ n, qab (1 / 2 * (a n + -b n)) ≤ N := fun n => by have := qab_le.1 (ba n); have := qab_le.1 (bb n); rw [qab_le]; grind
  have m1 := hs.mul h1 os oP bs
  have m2 := hc.mul h2 oc oQ bc
  have m3 := hc.mul h1 oc oP bc
  have m4 := (hs.mul h2 os oQ bs).neg
  have b1 := bd2 bs bP
  have b2 := bd2 bc bQ
  have b3 := bd2 bc bP
  have b4 : ∀ n, qab (-(fs n * (1 / 2 * (a n + -b n)))) ≤ M * N := fun n => by rw [qab_neg]; exact bd2 bs bQ n
  have o1 := imul_ord s P
  have o2 := imul_ord c Q
  have o3 := imul_ord c P
  have o4 := ineg_ord (imul_ord s Q)
  have q1 := mm_sq m1 o1 b1
  have q2 := mm_sq m2 o2 b2
  have q3 := mm_sq m3 o3 b3
  have q4 := mm_sq m4 o4 b4
  have re := (q1.add q2.neg).add (q3.add q4.neg)
  have x1 := m1.mul m2 o1 o2 b1
  have x2 := m3.mul m4 o3 o4 b3
  have im := (x1.add x1).add (x2.add x2)
  refine ⟨Mm.const (d := 1) (re.close ?_), Mm.const (d := 0) (im.close ?_)⟩
  · -- N2 ab - 1
    have B : ∀ n, qab (fc n * fc n + fs n * fs n) ≤ M * M + M * M := fun n => by
      have u := bd2 bc bc n; have v := bd2 bs bs n
      have := qab_add (fc n * fc n) (fs n * fs n); grind
    refine ((k1.add (k2.mul (show 0 ≤ M * M + M * M by have := qmul_nn M0 M0; grind)))).mono fun n => ?_
    show qab ((1 : Dyadic).toRat - (fs n * (1 / 2 * (a n + b n)) * (fs n * (1 / 2 * (a n + b n))) + -(fc n * (1 / 2 * (a n + -b n)) * (fc n * (1 / 2 * (a n + -b n)))) + (fc n * (1 / 2 * (a n + b n)) * (fc n * (1 / 2 * (a n + b n))) + -(-(fs n * (1 / 2 * (a n + -b n))) * -(fs n * (1 / 2 * (a n + -b n))))))) ≤ qab (fc n * fc n + fs n * fs n - 1) + (M * M + M * M) * qab (a n * b n - 1)
    have Bn := B n
    generalize fc n = x at *
    generalize fs n = y at *
    generalize a n = u at *
    generalize b n = v at *
    have e : (1 : Dyadic).toRat - (y * (1 / 2 * (u + v)) * (y * (1 / 2 * (u + v))) + -(x * (1 / 2 * (u + -v)) * (x * (1 / 2 * (u + -v)))) + (x * (1 / 2 * (u + v)) * (x * (1 / 2 * (u + v))) + -(-(y * (1 / 2 * (u + -v))) * -(y * (1 / 2 * (u + -v)))))) = -((x * x + y * y - 1) + (x * x + y * y) * (u * v - 1)) := by rw [q_one]; grind
    rw [e, qab_neg]
    have t1 := qab_add (x * x + y * y - 1) ((x * x + y * y) * (u * v - 1))
    rw [qab_mul (x * x + y * y) (u * v - 1)] at t1
    have t2 := Rat.mul_le_mul_of_nonneg_right Bn (qab_ge (u * v - 1))
    grind
  · refine k1.mono fun n => ?_
    show qab ((0 : Dyadic).toRat - (fs n * (1 / 2 * (a n + b n)) * (fc n * (1 / 2 * (a n + -b n))) + fs n * (1 / 2 * (a n + b n)) * (fc n * (1 / 2 * (a n + -b n))) + (fc n * (1 / 2 * (a n + b n)) * -(fs n * (1 / 2 * (a n + -b n))) + fc n * (1 / 2 * (a n + b n)) * -(fs n * (1 / 2 * (a n + -b n)))))) ≤ qab (fc n * fc n + fs n * fs n - 1)
    generalize fc n = x at *
    generalize fs n = y at *
    generalize a n = u at *
    generalize b n = v at *
    have e : (0 : Dyadic).toRat - (y * (1 / 2 * (u + v)) * (x * (1 / 2 * (u + -v))) + y * (1 / 2 * (u + v)) * (x * (1 / 2 * (u + -v))) + (x * (1 / 2 * (u + v)) * -(y * (1 / 2 * (u + -v))) + x * (1 / 2 * (u + v)) * -(y * (1 / 2 * (u + -v))))) = 0 := by rw [q_zero]; grind
    rw [e, qab_zero]; exact qab_ge _
theorem unit_small_hc {k p : Int} (h1 : -2048 ≤ k) (h2 : k ≤ 2048) (neg : Bool) : Hc 300 (expV (dof k (-11), dof k (-11)) p) := by
  obtain ⟨s, u, _⟩ := unit_pt h1 h2
  obtain ⟨l1, l2, l3, l4⟩ := trR_wz (P := min (max p 2) 200 + 80) (by omega) (by omega) s (by grind)
  unfold expV; dsimp only
  generalize trR (dof k (-11)) (min (max p 2) 200 + 80) = T at *
  have p24 : pq (1 / 2) 24 ≤ (5593873 / 50000000000000) := by decide +kernel
  have c24 : (890348600095278538467 / 100000000000000) ≤ (dof 1 ((24 : Nat) : Int)).toRat := by decide +kernel
  exact ⟨(rto_htz (m := 24) (K := 24) (P := 210) 0 (.inl rfl) (.inr (by rw [qab_self (by grind)]; grind)) (by rw [qab_self (by grind)]; grind) (by omega)).mono (by decide), (rto_htz (m := 24) (K := 24) (P := 210) 1 (.inr rfl) (.inr (by rw [qab_self (by grind)]; grind)) (by rw [qab_self (by grind)]; grind) (by omega)).mono (by decide)⟩
theorem plane_has {X Y : Dyadic} (p : Int) (hx : smallP X = true) (hy : smallP Y = true) :
    ihas (radd (rsq (csinV ((X, X), (Y, Y)) p)) (rsq (ccosV ((X, X), (Y, Y)) p))).1 1 ∧ ihas (radd (rsq (csinV ((X, X), (Y, Y)) p)) (rsq (ccosV ((X, X), (Y, Y)) p))).2 0 := by
  have rx : rof (X, X) = (X, X) := rof_self (q_le.1 Rat.le_refl)
  have ry : rof (Y, Y) = (Y, Y) := rof_self (q_le.1 Rat.le_refl)
  have my : mayP (Y, Y) = true := mayP_iff.2 ⟨hy, hy⟩
  have hn := mayP_neg my
  obtain ⟨hc, hs⟩ := bothV_has (z := (X, X)) (q := X) p ⟨q_le.1 Rat.le_refl, q_le.1 Rat.le_refl⟩ hx hx hx
  have he := expV_mm (z := (Y, Y)) (q := Y) p ⟨q_le.1 Rat.le_refl, q_le.1 Rat.le_refl⟩ hy my
  have hf := expV_mm (z := ineg (Y, Y)) (q := -Y) p ⟨q_le.1 Rat.le_refl, q_le.1 Rat.le_refl⟩ (by rw [smallP_neg]; exact hy) hn
  rw [neg_scl] at hf
  have qx := small_q hx
  have qy := small_q hy
  obtain ⟨M, M0, b⟩ := gx_bd (z := iy (X * dof 1 (-16)).toRat) (by rw [nrm_iy]; grind)
  obtain ⟨N1, a1⟩ := gr_bd (y := (Y * dof 1 (-16)).toRat) (by grind)
  obtain ⟨N2', a2⟩ := gr_bd (y := -(Y * dof 1 (-16)).toRat) (by rw [qab_neg]; grind)
  have p1 : 0 ≤ N1 := by have := a1 0; have := qab_ge (gr (Y * dof 1 (-16)).toRat 0); grind
  have p2 : 0 ≤ N2' := by have := a2 0; have := qab_ge (gr (-(Y * dof 1 (-16)).toRat) 0); grind
  have gs := gr_sum qy (y := -(Y * dof 1 (-16)).toRat) (by rw [qab_neg]; exact qy)
  unfold csinV ccosV hypV
  dsimp only
  rw [rx, ry]
  refine plane_one (M := M) (N := N1 + N2') (K := 0) hc hs he hf (fun n => Rat.le_trans (nrm_re _) (b n)) (fun n => Rat.le_trans (nrm_im _) (b n)) (fun n => by have := a1 n; grind) (fun n => by have := a2 n; grind) ((N2_near qx 16).mono fun n => Rat.le_refl) (gs.mono fun n => ?_)
  rw [show (Y * dof 1 (-16)).toRat + -(Y * dof 1 (-16)).toRat = 0 by grind, gr_zero]; exact Rat.le_refl
theorem meet_self {z : Cq} (o : Ord z) : imeet z z = ((imeet z z).1, true) := meet_of o o o o
set_option maxRecDepth 10000 in
set_option maxHeartbeats 8000000 in
theorem elemplane_sim (m n : Int) (k : Nat) (h1 : -32768 ≤ m) (h2 : m ≤ 32767) (h3 : -32768 ≤ n) (h4 : n ≤ 32767) (hk : k < 256) : Sim Tryz.prog G0 true 7 [.int .i16 m, .int .i16 n, .int .u8 k] (.bool true) := by
  obtain ⟨p, hp⟩ : ∃ p, ((k % 100 : Nat) : Int) + 8 = p := ⟨_, rfl⟩
  have sP := part_sim m h1 h2
  have sQ := part_sim n h3 h4
  obtain ⟨i, hi⟩ : ∃ i, m.tmod 2049 = i := ⟨_, rfl⟩
  obtain ⟨j, hj⟩ : ∃ j, n.tmod 2049 = j := ⟨_, rfl⟩
  have hi2 : -2048 ≤ i ∧ i ≤ 2048 := by
    have a := Int.tmod_lt_of_pos m (b := 2049) (by decide)
    have b := Int.lt_tmod_of_pos m (b := 2049) (by decide)
    omega
  have hj2 : -2048 ≤ j ∧ j ≤ 2048 := by
    have a := Int.tmod_lt_of_pos n (b := 2049) (by decide)
    have b := Int.lt_tmod_of_pos n (b := 2049) (by decide)
    omega
  rw [hi] at sP
  rw [hj] at sQ
  obtain ⟨s, _, hX⟩ := unit_pt hi2.1 hi2.2
  obtain ⟨s', _, hY⟩ := unit_pt hj2.1 hj2.2
  have eX := unit_small_hc (p := p) hi2.1 hi2.2 true
  have eY := unit_small_hc (p := p) hj2.1 hj2.2 true
  have eN : Hc 300 (expV (ineg (dof j (-11), dof j (-11))) p) := by
    have := unit_small_hc (k := -j) (p := p) (by omega) (by omega) true
    have e : ineg (dof j (-11), dof j (-11)) = (dof (-j) (-11), dof (-j) (-11)) := by unfold ineg; dsimp only; rw [dof_neg]
    rw [e]; exact this
  generalize dof i (-11) = X at *
  generalize dof j (-11) = Y at *
  have mx' : mayP (X, X) = true := mayP_iff.2 ⟨s, s⟩
  have my : mayP (Y, Y) = true := mayP_iff.2 ⟨s', s'⟩
  have hcx := may_ht mx'
  have hcy := may_ht my
  have ox : Ord (X, X) := q_le.1 Rat.le_refl
  have oy : Ord (Y, Y) := q_le.1 Rat.le_refl
  have rx : rof (X, X) = (X, X) := rof_self ox
  have ry : rof (Y, Y) = (Y, Y) := rof_self oy
  have cx := CxS.of (hcx.mono (show 1010 ≤ 10000 by decide))
  have cy := CxS.of (hcy.mono (show 1010 ≤ 10000 by decide))
  have k1 := rPoint_is (X, Y)
  have sE := eExp_ok (p := p) cx (hcx.mono (by decide)) mx' (by rw [rx])
  have sC := eCos_ok (p := p) cy (hcy.mono (by decide)) my (by rw [ry])
  have sS := eSin_ok (p := p) cy (hcy.mono (by decide)) my (by rw [ry])
  have sW := eCExp_ok (z := ((X, X), (Y, Y))) (p := p) mx' my rfl
  have sA := eCSin_ok (z := ((X, X), (Y, Y))) (p := p) mx' my rfl
  have sB := eCCos_ok (z := ((X, X), (Y, Y))) (p := p) mx' my rfl
  have hVx := bothV_hc p ox mx'
  have hVy := bothV_hc p oy my
  have hW1 : Hc 6300 (imul (expV (X, X) p) (bothV (Y, Y) p).1) := eX.imul hVy.1 (by decide)
  have hW2 : Hc 6300 (imul (expV (X, X) p) (bothV (Y, Y) p).2) := eX.imul hVy.2 (by decide)
  have eW : cexpV ((X, X), (Y, Y)) p = (imul (expV (X, X) p) (bothV (Y, Y) p).1, imul (expV (X, X) p) (bothV (Y, Y) p).2) := by
    unfold cexpV; dsimp only; rw [rx, ry]
  rw [eW] at sW
  have M1 := rMulReal_is (eX.mono (by decide)) (hVy.1.mono (by decide)) rfl
  have M2 := rMulReal_is (eX.mono (by decide)) (hVy.2.mono (by decide)) rfl
  have T1 := rMeet_is (hW1.mono (by decide)) (hW1.mono (by decide)) (meet_self (imul_ord _ _))
  have T2 := rMeet_is (hW2.mono (by decide)) (hW2.mono (by decide)) (meet_self (imul_ord _ _))
  have hh : Ht 200 (dof 1 (-1)) := (Ht.cst (m := 1) (e := -1) (by decide)).mono (by decide)
  have hH : Hr 501 (hypV (Y, Y) p) := by
    have a : Hc 301 (iadd (expV (Y, Y) p) (expV (ineg (Y, Y)) p)) := eY.iadd eN (by decide)
    have b : Hc 301 (isub (expV (Y, Y) p) (expV (ineg (Y, Y)) p)) := eY.isub eN (by decide)
    unfold hypV
    exact ⟨Hc.imul (a := 200) (z := (dof 1 (-1), dof 1 (-1))) ⟨hh, hh⟩ a (by decide), Hc.imul (a := 200) (z := (dof 1 (-1), dof 1 (-1))) ⟨hh, hh⟩ b (by decide)⟩
  have hA : Hr 6501 (csinV ((X, X), (Y, Y)) p) := by
    unfold csinV; dsimp only; rw [rx, ry]
    exact ⟨hVx.2.imul hH.1 (by decide), hVx.1.imul hH.2 (by decide)⟩
  have hB : Hr 6501 (ccosV ((X, X), (Y, Y)) p) := by
    unfold ccosV; dsimp only; rw [rx, ry]
    exact ⟨hVx.1.imul hH.1 (by decide), (hVx.2.imul hH.2 (by decide)).ineg⟩
  have Q1 := rSquareRect_is (hA.mono (by decide)) rfl
  have Q2 := rSquareRect_is (hB.mono (by decide)) rfl
  have hQ1 : Hr 13004 (rsq (csinV ((X, X), (Y, Y)) p)) := hA.rsq (by decide)
  have hQ2 : Hr 13004 (rsq (ccosV ((X, X), (Y, Y)) p)) := hB.rsq (by decide)
  have AA := rAddRect_is (hQ1.mono (by decide)) (hQ2.mono (by decide)) rfl
  have hAA : Hr 13005 (radd (rsq (csinV ((X, X), (Y, Y)) p)) (rsq (ccosV ((X, X), (Y, Y)) p))) := hQ1.radd hQ2 (by decide)
  have ph := plane_has p s s'
  have hone : Hc 10 ((1, 0) : Cq) := ⟨Ht.one.mono (by decide), .zero _⟩
  have GG := rHas8_is (t := true) (c := (1, 0)) (hAA.mono (by decide)) (hone.mono (by decide)) (decide_eq_true ph)
  have k2 : Sim Tryz.prog G0 false 42 [.int .i64 1, .int .i64 0] (cxD (1, 0)) := rof_sim 1 0 (by decide) (by decide) (by decide) (by decide)
  have o65 := of23_is 65
  have o0 := of23_is 0
  have h0 : Hc 200 (dof 0 0, dof 0 0) := by rw [dz0]; exact ⟨.zero _, .zero _⟩
  have sN := eCExp_no (z := ((dof 65 0, dof 65 0), (dof 0 0, dof 0 0))) (p := p) (h65.mono (by decide)) no65
  clear eX eY eN mx' my hcx hcy ox oy rx ry cx cy hVx hVy hW1 hW2 eW hh hH hA hB hQ1 hQ2 hAA ph hone h0 s s' hX hY
  generalize (imeet (imul (expV (X, X) p) (bothV (Y, Y) p).1) (imul (expV (X, X) p) (bothV (Y, Y) p).1)).1 = u1 at *
  generalize (imeet (imul (expV (X, X) p) (bothV (Y, Y) p).2) (imul (expV (X, X) p) (bothV (Y, Y) p).2)).1 = u2 at *
  generalize imul (expV (X, X) p) (bothV (Y, Y) p).1 = w1 at *
  generalize imul (expV (X, X) p) (bothV (Y, Y) p).2 = w2 at *
  generalize radd (rsq (csinV ((X, X), (Y, Y)) p)) (rsq (ccosV ((X, X), (Y, Y)) p)) = O at *
  generalize rsq (csinV ((X, X), (Y, Y)) p) = q1 at *
  generalize rsq (ccosV ((X, X), (Y, Y)) p) = q2 at *
  generalize csinV ((X, X), (Y, Y)) p = A at *
  generalize ccosV ((X, X), (Y, Y)) p = B at *
  generalize expV (X, X) p = e at *
  generalize bothV (Y, Y) p = V at *
  generalize dof 65 0 = d65 at *
  generalize dof 0 0 = d0 at *
  obtain ⟨_, _⟩ := e
  obtain ⟨_, _⟩ := u1
  obtain ⟨_, _⟩ := u2
  obtain ⟨_, _⟩ := w1
  obtain ⟨_, _⟩ := w2
  obtain ⟨⟨_, _⟩, ⟨_, _⟩⟩ := V
  obtain ⟨⟨_, _⟩, ⟨_, _⟩⟩ := O
  obtain ⟨⟨_, _⟩, ⟨_, _⟩⟩ := A
  obtain ⟨⟨_, _⟩, ⟨_, _⟩⟩ := B
  obtain ⟨⟨_, _⟩, ⟨_, _⟩⟩ := q1
  obtain ⟨⟨_, _⟩, ⟨_, _⟩⟩ := q2
  refine sim_mk tab_ok Tryz.func7 rfl (by kernel_rfl) rfl ⟨Nat.le_of_ble_eq_true rfl, Nat.le_of_ble_eq_true rfl⟩ ?_
  repeat' ((conv => whnf); first
    | with_reducible refine CallX.data ?_
    | refine CallE.mk _ _ (known23_sim) ?_
    | refine CallE.mk _ _ (sP) ?_
    | refine CallE.mk _ _ (sQ) ?_
    | refine CallE.mk _ _ (k1) ?_
    | refine CallE.mk _ _ (sW) ?_
    | refine CallE.mk _ _ (sE) ?_
    | refine CallE.mk _ _ (sC) ?_
    | refine CallE.mk _ _ (sS) ?_
    | refine CallE.mk _ _ (sA) ?_
    | refine CallE.mk _ _ (sB) ?_
    | refine CallE.mk _ _ (M1) ?_
    | refine CallE.mk _ _ (M2) ?_
    | refine CallE.mk _ _ (T1) ?_
    | refine CallE.mk _ _ (T2) ?_
    | refine CallE.mk _ _ (Q1) ?_
    | refine CallE.mk _ _ (Q2) ?_
    | refine CallE.mk _ _ (AA) ?_
    | refine CallE.mk _ _ (GG) ?_
    | refine CallE.mk _ _ (k2) ?_
    | refine CallE.mk _ _ (o65) ?_
    | refine CallE.mk _ _ (o0) ?_
    | refine CallE.mk _ _ (sN) ?_
    | refine RegE.early (Cd.mk (show regOk _ _ _ _ = true by kernel_rfl) ?_)
    | refine Cd.mk rfl ?_
    | refine Br.t ?_
    | refine Br.f ?_
    | refine NthE.mk _ rfl ?_
    | (refine TkE.fL ?_; (conv => whnf); fail_if_success (show forceL _ _))
    | refine Res.mk ?_
    | ((with_reducible refine EqE.idW ?_); first | refine EqE.mk p ((wrap_in (by omega) (by omega)).trans hp) ?_ | with_reducible refine EqE.mk _ (n_i64 _ (by omega)) ?_)
    | ((with_reducible refine EqE.idM ?_); refine EqE.mk _ (n_rem100 _) ?_)
    | ((with_reducible refine EqE.idS ?_); (refine EqE.fP ?_; (conv => whnf); fail_if_success (show forceL _ _)))
    | refine Cd.mk (Nat.le_of_ble_eq_true rfl) ?_
    | refine Cd.mk (by first | omega | (simp only [length_limbs, length_la]; omega)) ?_)
  rfl
theorem elemplane_at (m n k : Int) (h1 : -32768 ≤ m) (h2 : m ≤ 32767) (h3 : -32768 ≤ n) (h4 : n ≤ 32767) (h5 : 0 ≤ k) (h6 : k ≤ 255) : Sim Tryz.prog G0 true 7 [.int .i16 m, .int .i16 n, .int .u8 k] (.bool true) := by
  obtain ⟨k, rfl⟩ := Int.eq_ofNat_of_zero_le h5
  exact elemplane_sim m n k h1 h2 h3 h4 (by omega)
end Go.Ev.Ar
