/- Contracts of the given functions, on data. Conditions stand in each theorem. -/
import Derived.Test.YtagjickjfjgfpaaGreatDoorHEvR
import Derived.Test.YtagjickjfjgfpaaGreatDoorHAvVz
import Derived.Test.YtagjickjfjgfpaaGreatDoorHAvVf
import Derived.Test.YtagjickjfjgfpaaGreatDoorHAvVk
set_option linter.unusedSimpArgs false
set_option linter.unusedVariables false
namespace Go.Ev.Ar
open Go Go.Ev Go.Proofs
def br (h : Nat) (p : List Cq) : Prop := ∀ i, Hc h (p.getD i c0)
theorem af8 (h : Nat) : Hc h c0 := Hc.zero h
theorem br.mono {a b : Nat} {p : List Cq} (h : br a p) (hab : a ≤ b) : br b p := fun i => (h i).mono hab
theorem br.nil (h : Nat) : br h [] := fun i => af8 h
theorem br.take {a : Nat} {p : List Cq} (h : br a p) (n : Nat) : br a (p.take n) := fun i => by
 rw [List.getD_eq_getElem?_getD, List.getElem?_take]
 split
 ·rw [← List.getD_eq_getElem?_getD]; exact h i
 ·exact af8 a
theorem br.of {a : Nat} {p : List Cq} (h : ∀ c ∈ p, Hc a c) : br a p := fun i => by
 by_cases g : i < p.length
 ·rw [List.getD_eq_getElem?_getD, List.getElem?_eq_getElem g]; exact h _ (List.getElem_mem g)
 ·rw [List.getD_eq_getElem?_getD, List.getElem?_eq_none (by omega)]; exact af8 a
theorem br.trim {a : Nat} {p : List Cq} (h : br a p) : br a (j9 p) := h.take _
theorem yd (p : List Cq) : (j9 p).length ≤ p.length := by unfold j9; rw [List.length_take]; omega
theorem Hc.o8 {a b c : Nat} {x y : Cq} (h : Hc a x) (k : Hc b y) (hc : max a b < c) : Hc c (o8 x y) := ⟨h.1.add k.1 hc, h.2.add k.2 hc⟩
theorem br.w7 {a b : Nat} {p q : List Cq} (h : br a p) (k : br b q) (n : Nat) : br (max a b + 1) (w7 p q n) := br.of fun c hc => by
 unfold Ar.w7 at hc
 rw [List.mem_map] at hc
 obtain ⟨i, _, rfl⟩ := hc
 exact Hc.o8 (h i) (k i) (by omega)
theorem br.ov {a b : Nat} {p q : List Cq} (h : br a p) (k : br b q) : br (max a b + 1) (ov p q) := (h.w7 k _).trim
theorem br.j7 {a : Nat} {p : List Cq} (h : br a p) : br a (j7 p) := fun i => by
 have e : (Ar.j7 p).getD i c0 = aov (p.getD i c0) ∨ (Ar.j7 p).getD i c0 = c0 := by
  unfold Ar.j7
  rw [List.getD_eq_getElem?_getD, List.getElem?_map, List.getD_eq_getElem?_getD]
  cases p[i]? with
  | none => exact .inr rfl
  | some v => exact .inl rfl
 rcases e with e | e
 ·rw [e]; exact ⟨(h i).1.neg, (h i).2.neg⟩
 ·rw [e]; exact af8 a
theorem ats {p : List Cq} {i j : Nat} {v : Cq} : (p.set i v).getD j c0 = if i = j ∧ i < p.length then v else p.getD j c0 := by
 rw [List.getD_eq_getElem?_getD, List.getElem?_set, List.getD_eq_getElem?_getD]
 by_cases h : i = j
 ·subst h
  rw [if_pos rfl]
  by_cases g : i < p.length
  ·rw [if_pos g, if_pos ⟨rfl, g⟩] <;> rfl
  ·rw [if_neg g, if_neg (fun h => g h.2), List.getElem?_eq_none (by omega)]
 ·rw [if_neg h, if_neg (fun g => h g.1)]
theorem ar3 {a b H : Nat} {c : Cq} {q out : List Cq} (i : Nat) (hc : Hc a c) (hq : br b q) (ho : br H out) (hH : a + b + 1 ≤ H) : ∀ k j, Hc (if j < i + k then H + 1 else H) ((mulR c q i out k).getD j c0)
 | 0, j => by
  show Hc _ (out.getD j c0)
  split
  ·exact (ho j).mono (by omega)
  ·exact ho j
 | k + 1, j => by
  have ih := ar3 i hc hq ho hH k
  unfold mulR
  rw [ats]
  by_cases g : i + k = j ∧ i + k < (mulR c q i out k).length
  ·rw [if_pos g]
   obtain ⟨rfl, _⟩ := g
   rw [if_pos (by omega)]
   have h1 := ih (i + k)
   rw [if_neg (by omega)] at h1
   exact Hc.o8 h1 (Go.Ev.Hc.mono (Hc.ar hc (hq k) (c := a + b + 1) (by omega)) hH) (by omega)
  ·rw [if_neg g]
   have h1 := ih j
   refine h1.mono ?_
   split
   ·rw [if_pos (by omega)]; exact Nat.le_refl _
   ·split <;> omega
theorem br.mulR {a b H : Nat} {c : Cq} {q out : List Cq} (i k : Nat) (hc : Hc a c) (hq : br b q) (ho : br H out) (hH : a + b + 1 ≤ H) : br (H + 1) (mulR c q i out k) := fun j => (ar3 i hc hq ho hH k j).mono (by split <;> omega)
theorem br.l8 {a b : Nat} {p q : List Cq} (hp : br a p) (hq : br b q) : ∀ i, br (a + b + 1 + i) (l8 p q i)
 | 0 => fun j => by
  unfold Ar.l8
  have : (List.replicate (p.length + q.length - 1) c0).getD j c0 = c0 := by
   rw [List.getD_eq_getElem?_getD, List.getElem?_replicate]; split <;> rfl
  rw [this]; exact af8 _
 | i + 1 => by
  unfold Ar.l8
  exact br.mulR i _ (hp i) hq (br.l8 hp hq i) (show a + b + 1 ≤ a + b + 1 + i by omega)
theorem br.oo {a b : Nat} {p q : List Cq} (hp : br a p) (hq : br b q) : br (a + b + 1 + p.length) (oo p q) := by
 unfold Ar.oo
 split
 ·exact br.nil _
 ·exact (br.l8 hp hq _).trim
theorem amt (p q : List Cq) : (oo p q).length ≤ p.length + q.length - 1 := by
 unfold oo
 split
 ·simp
 ·exact Nat.le_trans (yd _) (by rw [abo]; exact Nat.le_refl _)
def lj (p : List Cq) : Nat → List Cq
 | 0 => [ai]
 | j + 1 => oo (lj p j) p
theorem agz (p : List Cq) : ∀ j, (lj p j).length ≤ (p.length - 1) * j + 1
 | 0 => by simp [lj]
 | j + 1 => by
  have h1 := amt (lj p j) p
  have h2 := agz p j
  have h3 : (p.length - 1) * (j + 1) = (p.length - 1) * j + (p.length - 1) := by rw [Nat.mul_add, Nat.mul_one]
  unfold lj
  omega
theorem br.lj {a : Nat} {p : List Cq} (h : br a p) : ∀ j, (∀ i, i < j → (lj p i).length ≤ 25) → br (j * (a + 26) + 1) (lj p j)
 | 0, _ => br.of fun c hc => by
  unfold Ar.lj at hc
  simp only [List.mem_cons, List.not_mem_nil, or_false] at hc
  subst hc; exact se _ (by omega)
 | j + 1, hl => by
  unfold Ar.lj
  have h1 := br.lj h j (fun i hi => hl i (by omega))
  have h2 := hl j (by omega)
  refine (br.oo h1 h).mono ?_
  rw [Nat.add_mul, Nat.one_mul]; omega
theorem asl (z : Du) (p : List Cq) : ∀ j, pev (lj p j) z = duP (pev p z) j
 | 0 => by
  show duA (dcn (tc ai)) (duM z (dcn 0)) = dcn 1
  rw [wg, we, aqv]
 | j + 1 => by unfold lj; rw [asi, asl z p j] <;> rfl
def fi (ls : List (List Cq)) (x : Nd) : Option (List Cq) :=
 if x.k = 1 then some [c0, (dof 1 0, dof 0 0)]
 else if x.k = 2 then some (j9 [x.r.val])
 else if x.k = 3 then some (ov (ls.getD x.a.toNat []) (ls.getD x.b.toNat []))
 else if x.k = 4 then some (ov (ls.getD x.a.toNat []) (j7 (ls.getD x.b.toNat [])))
 else if x.k = 5 then some (oo (ls.getD x.a.toNat []) (ls.getD x.b.toNat []))
 else if x.k = 7 then (if (((ls.getD x.a.toNat []).length : Int) - 1) * x.n > 24 then none else some (lj (ls.getD x.a.toNat []) x.n.toNat))
 else none
def ahv (ls : List (List Cq)) (x : Nd) : Option (List Cq) := (fi ls x).bind fun p => if p.length > 25 then none else some p
def poL (xs : List Nd) : Nat → Option (List (List Cq))
 | 0 => some []
 | i + 1 => (poL xs i).bind fun ls => (ahv ls (xs.getD i Nd.nil)).map fun p => ls ++ [p]
theorem vv {xs : List Nd} : ∀ {i : Nat} {ls : List (List Cq)}, poL xs i = some ls → ls.length = i
 | 0, ls, h => by cases h; rfl
 | i + 1, ls, h => by
  unfold poL at h
  rw [Option.bind_eq_some_iff] at h
  obtain ⟨us, hu, h⟩ := h
  rw [Option.map_eq_some_iff] at h
  obtain ⟨r, _, rfl⟩ := h
  rw [List.length_append, vv hu] <;> rfl
theorem agy {xs : List Nd} : ∀ {i j : Nat}, poL xs i = none → i ≤ j → poL xs j = none
 | i, 0, h, hj => by rw [show i = 0 by omega] at h; cases h
 | i, j + 1, h, hj => by
  by_cases e : i = j + 1
  ·rw [← e]; exact h
  ·unfold poL; rw [agy h (by omega)] <;> rfl
theorem ax7 {xs : List Nd} {i : Nat} {ls : List (List Cq)} {x : Nd} {p : List Cq} (h : poL xs i = some ls) (hx : xs.getD i Nd.nil = x) (hv : fi ls x = some p) (hp : p.length ≤ 25) : poL xs (i + 1) = some (ls ++ [p]) := by
 unfold poL; rw [h, hx]; show (ahv ls x).map _ = _
 unfold ahv; rw [hv]; show Option.map _ (if p.length > 25 then none else some p) = _
 rw [if_neg (by omega)] <;> rfl
theorem a1f {xs : List Nd} {i n : Nat} {ls : List (List Cq)} {x : Nd} {p : List Cq} (h : poL xs i = some ls) (hx : xs.getD i Nd.nil = x) (hv : fi ls x = some p) (hp : 25 < p.length) (hi : i < n) : poL xs n = none := by
 refine agy (i := i + 1) ?_ hi
 unfold poL; rw [h, hx]; show (ahv ls x).map _ = _
 unfold ahv; rw [hv]; show Option.map _ (if p.length > 25 then none else some p) = _
 rw [if_pos hp] <;> rfl
theorem a3z {xs : List Nd} {i n : Nat} {ls : List (List Cq)} {x : Nd} (h : poL xs i = some ls) (hx : xs.getD i Nd.nil = x) (hv : fi ls x = none) (hi : i < n) : poL xs n = none := by
 refine agy (i := i + 1) ?_ hi
 unfold poL; rw [h, hx]; show (ahv ls x).map _ = _
 unfold ahv; rw [hv] <;> rfl
theorem a5j : tc (dof 1 0, dof 0 0) = 1 := by rw [og]; exact aqv
theorem ak1 {xs : List Nd} (z : Du) (hx : ∀ j, j < xs.length → dy (xs.getD j Nd.nil) j = true) : ∀ i, i ≤ xs.length → ∀ ls, poL xs i = some ls → (∀ j, j < i → gk (xs.getD j Nd.nil)) ∧ ∀ j, j < i → pev (ls.getD j []) z = (duL xs z i).getD j (dcn 0)
 | 0, _, ls, h => ⟨fun j h => absurd h (by omega), fun j h => absurd h (by omega)⟩
 | i + 1, hi, ls, h => by
  unfold poL at h
  rw [Option.bind_eq_some_iff] at h
  obtain ⟨us, hu, h⟩ := h
  rw [Option.map_eq_some_iff] at h
  obtain ⟨p, hp, rfl⟩ := h
  obtain ⟨ih1, ih2⟩ := ak1 z hx i (by omega) us hu
  have hul := vv hu
  unfold ahv at hp
  rw [Option.bind_eq_some_iff] at hp
  obtain ⟨q, hq, hp⟩ := hp
  split at hp
  ·cases hp
  cases hp
  obtain ⟨ga, gb, gn⟩ := zt (hx i (by omega))
  have main : gk (xs.getD i Nd.nil) ∧ pev p z = amy (duL xs z i) (xs.getD i Nd.nil) z := by
   generalize xs.getD i Nd.nil = x at *
   have va : ∀ a : Int, 0 ≤ a ∧ a < (i : Int) → pev (us.getD a.toNat []) z = (duL xs z i).getD a.toNat (dcn 0) := fun a ha => ih2 a.toNat (by omega)
   unfold fi at hq
   unfold amy gk
   by_cases k1 : x.k = 1
   ·rw [if_pos k1] at hq ⊢; cases hq
    refine ⟨.inl k1, ?_⟩
    show duA (dcn (tc c0)) (duM z (duA (dcn (tc (dof 1 0, dof 0 0))) (duM z (dcn 0)))) = z
    rw [wg, we, a5j, arf, show tc c0 = 0 from p6, awj, we]
   rw [if_neg k1] at hq ⊢
   by_cases k2 : x.k = 2
   ·rw [if_pos k2] at hq ⊢; cases hq
    refine ⟨by omega, ?_⟩
    rw [ab1]
    show duA (dcn (tc x.r.val)) (duM z (dcn 0)) = _
    rw [wg, we]
   rw [if_neg k2] at hq ⊢
   by_cases k3 : x.k = 3
   ·rw [if_pos k3] at hq ⊢; cases hq
    refine ⟨by omega, ?_⟩
    rw [asg, va _ (ga (by omega)), va _ (gb (by omega) (by omega))]
   rw [if_neg k3] at hq ⊢
   by_cases k4 : x.k = 4
   ·rw [if_pos k4] at hq ⊢; cases hq
    refine ⟨by omega, ?_⟩
    rw [asg, asj, va _ (ga (by omega)), va _ (gb (by omega) (by omega))]
   rw [if_neg k4] at hq ⊢
   by_cases k5 : x.k = 5
   ·rw [if_pos k5] at hq ⊢; cases hq
    refine ⟨by omega, ?_⟩
    rw [asi, va _ (ga (by omega)), va _ (gb (by omega) (by omega))]
   rw [if_neg k5] at hq ⊢
   by_cases k7 : x.k = 7
   ·rw [if_pos k7] at hq
    split at hq
    ·cases hq
    ·cases hq
     refine ⟨by omega, ?_⟩
     rw [asl, va _ (ga (by omega))]
   ·rw [if_neg k7] at hq; cases hq
  refine ⟨fun j hj => ?_, fun j hj => ?_⟩
  ·rcases Nat.lt_succ_iff_lt_or_eq.1 hj with g | rfl
   ·exact ih1 j g
   ·exact main.1
  ·rcases Nat.lt_succ_iff_lt_or_eq.1 hj with g | rfl
   ·rw [kp (by rw [hul]; exact g), z8 xs z (i + 1) i j (by omega) g]; exact ih2 j g
   ·have e : (us ++ [p]).getD j [] = p := by
     have := gj us p []
     rwa [hul] at this
    rw [e, yq xs z _ j (by omega)]; exact main.2
def szH (s : Int) : Nat := 180 * s.toNat - 70
structure PH (xs : List Nd) (ls : List (List Cq)) : Prop where
 h : ∀ j, j < ls.length → br (szH ((szL xs ls.length).getD j 0)) (ls.getD j [])
 l : ∀ j, j < ls.length → (ls.getD j []).length ≤ 25
theorem amz {xs : List Nd} {ls : List (List Cq)} {p : List Cq} (h : PH xs ls) (hi : ls.length < xs.length) (hx : dy (xs.getD ls.length Nd.nil) ls.length = true) (hc : Hc 104 (xs.getD ls.length Nd.nil).r.val) (hs : ∀ j, j < xs.length → ef (szL xs j) (xs.getD j Nd.nil) j ≤ 60) (hp : fi ls (xs.getD ls.length Nd.nil) = some p) :
  br (szH (ef (szL xs ls.length) (xs.getD ls.length Nd.nil) ls.length)) p := by
 have ok : aqt xs ls.length := fun j hj => hs j (by omega)
 have s1 := ahi ok
 have hsz := hs ls.length hi
 obtain ⟨ga, gb, gn⟩ := zt hx
 have ha : ∀ a : Int, 0 ≤ a ∧ a < (ls.length : Int) → br (szH ((szL xs ls.length).getD a.toNat 0)) (ls.getD a.toNat []) ∧ (ls.getD a.toNat []).length ≤ 25 ∧ 1 ≤ (szL xs ls.length).getD a.toNat 0 ∧ (szL xs ls.length).getD a.toNat 0 ≤ 60 := fun a g => ⟨h.h a.toNat (by omega), h.l a.toNat (by omega), s1 a.toNat (by omega)⟩
 generalize xs.getD ls.length Nd.nil = x at *
 unfold fi at hp
 unfold ef at hsz ⊢
 by_cases k1 : x.k = 1
 ·rw [if_pos k1] at hp; cases hp
  have e : ¬ (x.k = 7 ∧ inA x.a ls.length = true) := by omega
  rw [if_neg (by omega), if_neg (by omega), if_neg (by omega)]
  refine br.of fun c hc => ?_
  simp only [List.mem_cons, List.not_mem_nil, or_false] at hc
  rcases hc with rfl | rfl
  ·exact af8 _
  ·refine ⟨Ht.mono (Ht.one : Ht 1 (dof 1 0)) (by decide), ?_⟩
   rw [og]; exact Ht.zero _
 rw [if_neg k1] at hp
 by_cases k2 : x.k = 2
 ·rw [if_pos k2] at hp; cases hp
  rw [if_neg (by omega), if_neg (by omega), if_neg (by omega)]
  refine br.trim (br.of fun c hc' => ?_)
  simp only [List.mem_cons, List.not_mem_nil, or_false] at hc'
  subst hc'
  exact hc.mono (by decide)
 rw [if_neg k2] at hp
 by_cases k345 : 3 ≤ x.k ∧ x.k ≤ 5
 ·have A := ha _ (ga (by omega))
  have B := ha _ (gb (by omega) (by omega))
  have g1 := ga (by omega)
  have g2 := gb (by omega) (by omega)
  rw [if_neg (by omega), if_pos ⟨by omega, dg.2 g1, dg.2 g2⟩]
  generalize (szL xs ls.length).getD x.a.toNat 0 = u at *
  generalize (szL xs ls.length).getD x.b.toNat 0 = w at *
  generalize ls.getD x.a.toNat [] = pa at *
  generalize ls.getD x.b.toNat [] = pb at *
  obtain ⟨A1, A2, A3, A4⟩ := A
  obtain ⟨B1, B2, B3, B4⟩ := B
  by_cases k3 : x.k = 3
  ·rw [if_pos k3] at hp; cases hp
   exact (A1.ov B1).mono (by unfold szH; omega)
  rw [if_neg k3] at hp
  by_cases k4 : x.k = 4
  ·rw [if_pos k4] at hp; cases hp
   exact (A1.ov B1.j7).mono (by unfold szH; omega)
  rw [if_neg k4, if_pos (show x.k = 5 by omega)] at hp; cases hp
  exact (A1.oo B1).mono (by unfold szH; omega)
 ·rw [if_neg (by omega), if_neg (by omega), if_neg (by omega)] at hp
  by_cases k7 : x.k = 7
  ·rw [if_pos k7] at hp
   split at hp
   ·cases hp
   rename_i hd
   cases hp
   have g1 := ga (by omega)
   have A := ha _ g1
   have n0 := gn k7
   rw [if_pos ⟨k7, dg.2 g1⟩]
   generalize (szL xs ls.length).getD x.a.toNat 0 = u at *
   generalize ls.getD x.a.toNat [] = pa at *
   obtain ⟨A1, A2, A3, A4⟩ := A
   obtain ⟨N, hN⟩ := Int.eq_ofNat_of_zero_le n0.1
   obtain ⟨U, rfl⟩ := Int.eq_ofNat_of_zero_le (show 0 ≤ u by omega)
   rw [hN] at hd n0 ⊢
   rw [Int.toNat_natCast]
   have hl : ∀ i, i < N → (lj pa i).length ≤ 25 := fun i hi => by
    refine Nat.le_trans (agz pa i) ?_
    by_cases z0 : pa.length = 0
    ·rw [z0]; simp
    ·have h1 : ((pa.length : Int) - 1) * (N : Int) = (((pa.length - 1) * N : Nat) : Int) := by
      rw [Int.natCast_mul]; congr 1; omega
     rw [h1] at hd
     have h2 : (pa.length - 1) * i ≤ (pa.length - 1) * N := Nat.mul_le_mul_left _ (by omega)
     omega
   refine (br.lj A1 N hl).mono ?_
   unfold szH
   rw [show (max 1 (min (N : Int) 64) : Int) = ((max 1 N : Nat) : Int) by omega, ← Int.natCast_mul, show (((U * max 1 N : Nat) : Int) + 1).toNat = U * max 1 N + 1 by omega, Int.toNat_natCast]
   rcases Nat.eq_zero_or_pos N with rfl | hpos
   ·rw [Nat.zero_mul]; omega
   ·rw [show max 1 N = N by omega]
    have e1 : N * (180 * U - 70 + 26) ≤ N * (180 * U) := Nat.mul_le_mul_left _ (by omega)
    have e2 : N * (180 * U) = 180 * (U * N) := by rw [Nat.mul_comm N, Nat.mul_assoc]
    omega
  ·rw [if_neg k7] at hp; cases hp
theorem PH.add {xs : List Nd} {ls : List (List Cq)} {p : List Cq} (h : PH xs ls) (hp : br (szH (ef (szL xs ls.length) (xs.getD ls.length Nd.nil) ls.length)) p) (hl : p.length ≤ 25) : PH xs (ls ++ [p]) := by
 have e : szL xs (ls ++ [p]).length = szL xs ls.length ++ [ef (szL xs ls.length) (xs.getD ls.length Nd.nil) ls.length] := by rw [List.length_append] <;> rfl
 have sl := v5 xs ls.length
 refine ⟨fun j hj => ?_, fun j hj => ?_⟩
 ·rw [List.length_append] at hj
  rw [e]
  have : j < ls.length ∨ j = ls.length := by simp at hj; omega
  rcases this with g | rfl
  ·rw [kp g, kp (by rw [sl]; exact g)]; exact h.h j g
  ·rw [gj]
   have := gj (szL xs ls.length) (ef (szL xs ls.length) (xs.getD ls.length Nd.nil) ls.length) 0
   rw [sl] at this
   rw [this]; exact hp
 ·rw [List.length_append] at hj
  have : j < ls.length ∨ j = ls.length := by simp at hj; omega
  rcases this with g | rfl
  ·rw [kp g]; exact h.l j g
  ·rw [gj]; exact hl
theorem ay7 {s : Int} (h : s ≤ 60) : szH s ≤ 10730 := by unfold szH; omega
end Go.Ev.Ar

namespace Go.Ev.Ar
open Go Go.Ev Go.Proofs
def pc (c : Cq) : List D := [.bool (a7 (ak c.1)), sl (ofN (ak c.1).natAbs), .int .i64 (av c.1), .bool (a7 (ak c.2)), sl (ofN (ak c.2).natAbs), .int .i64 (av c.2)]
theorem vt (c : Cq) : (pc c).length = 6 := rfl
def pl (p : List Cq) : D := .slice p.length (p.flatMap pc)
theorem abz (p : List Cq) (i : Nat) (h : i < p.length) : (((p.flatMap pc).drop ((i : Int).toNat * 6)).drop 0).take 6 = pc (p.getD i c0) := a17 vt c0 p i h
theorem wi (p : List Cq) (i : Nat) (h : i < p.length) : (0 ≤ (i : Int) ∧ (i : Int) < (p.length : Int)) ∧ (i : Int).toNat * 6 < (p.flatMap pc).length := a16 vt (by decide) p i h
theorem agw (p : List Cq) (c : Cq) : fa pc p ++ (pc c).map A.d = fa pc (p ++ [c]) := by
 unfold fa; rw [List.flatMap_append, List.map_append]; simp
theorem av5 {z : Cq} (h : Hc 50000 z) : CxF (cxD z) z := by
 have one : ∀ {q : Dyadic}, Ht 50000 q → DyF (dyD q) q := fun {q} hq => by
  have e : dof (zv (a7 (ak q)) (ofN (ak q).natAbs)) (av q) = q := by rw [p7, bu]
  have p := hq.parts
  have k : DyF (.agg [.bool (a7 (ak q)), sl (ofN (ak q).natAbs), .int .i64 (av q)]) (dof (zv (a7 (ak q)) (ofN (ak q).natAbs)) (av q)) := .mk _ _ _ (p.1.len (by decide)) (by omega) (by omega)
  rw [e] at k; exact k
 exact .mk (one h.1) (one h.2)
theorem asf (p : List Cq) (i : Nat) (hn : p.length < 2^62) : Sim Tryz.prog G0 false 167 [pl p, .int .i64 i] (cxD (p.getD i c0)) := by
 by_cases h : i < p.length
 ·have T := abz p i h
  generalize p.getD i c0 = c at *
  obtain ⟨_, _⟩ := c
  refine ao af Tryz.func167 ?_
  repeat' ((conv => whnf); first | with_reducible refine Br.bt fun _ => ?_ | refine Cd.mk (wi p _ (by omega)) ?_ | refine TkE.mk _ T rfl ?_ | refine rgE ?_ | refine Cd.mk rfl ?_ | (refine TkE.fL ?_; (conv => whnf); fail_if_success (show ae _ _)) | refine Res.mk ?_ | ((with_reducible refine EqE.idS ?_); (refine EqE.fP ?_; (conv => whnf); fail_if_success (show ae _ _))) | refine Cd.ol ?_)
  rfl
 ·have e : p.getD i c0 = c0 := by rw [List.getD_eq_getElem?_getD, List.getElem?_eq_none (by omega)] <;> rfl
  rw [e, ← od]
  refine ao af Tryz.func167 ?_
  repeat' ((conv => whnf); first | with_reducible refine Br.bf fun _ => ?_ | refine rgE ?_ | refine Cd.mk rfl ?_ | (refine TkE.fL ?_; (conv => whnf); fail_if_success (show ae _ _)) | refine Res.mk ?_ | ((with_reducible refine EqE.idS ?_); (refine EqE.fP ?_; (conv => whnf); fail_if_success (show ae _ _))) | refine Cd.ol ?_)
  rfl
theorem a4f (p : List Cq) (n : Nat) (h : p.getD n c0 = c0) : aap p (n + 1) = aap p n := by rw [aap, if_pos h]
theorem a4g (p : List Cq) (n : Nat) (h : ¬ p.getD n c0 = c0) : aap p (n + 1) = n + 1 := by rw [aap, if_neg h]
theorem aiz (p : List Cq) (i : Nat) (hi : i ≤ p.length) : D.slice i (((p.take i).flatMap pc).take (i * 6)) = pl (p.take i) := by
 unfold pl
 rw [List.take_of_length_le (by rw [vh vt, List.length_take]; omega), List.length_take, Nat.min_eq_left hi]
set_option maxHeartbeats 4000000 in
theorem y8 (p : List Cq) (hn : p.length ≤ 1000) (hp : br 50000 p) : Sim Tryz.prog G0 false 109 [pl p] (pl (j9 p)) := by
 refine ao af Tryz.func109 ?_
 repeat' ((conv => whnf); first | refine rgE ?_)
 refine ⟨[], [0, 3, 4], [], fun m ys h => ∃ n : Nat, m = n ∧ n ≤ p.length ∧ aap p p.length = aap p n ∧ ys = [.d (pl p), .d .nil, .d (.int .i64 n)] ∧ h = [],
  ⟨_, _, _, ⟨.inl rfl, rfl, rfl, by first | rfl | (repeat first | exact all_nil _ | refine bm _ _ _ _ _ ?_)⟩, p.length, rfl, Nat.le_refl _, rfl, rfl, rfl⟩, ?_⟩
 rintro m ys h ⟨n, rfl, hi, ht, rfl, rfl⟩
 by_cases h0 : m = 0
 ·have e : j9 p = p.take m := by unfold j9; rw [ht, h0] <;> rfl
  rw [e]
  clear e ht
  repeat' ((conv => whnf); first | ((with_reducible refine Br.b4 ?hpp ?_); case hpp => first | omega | (dsimp only; omega)) | refine rgE ?_ | refine Cd.mk rfl ?_ | refine Br.f ?_)
  refine ⟨[(3, 500, 6)], [0, 3, 4, 5], [500], fun q ys h => ∃ i : Nat, q = m - i ∧ i ≤ m ∧ ys = [.d (pl p), .own 500 0 i 6, .d (.int .i64 m), .d (.int .i64 i)] ∧ h = [(500, false, fa pc (p.take i))],
   ⟨rfl, rfl, ⟨Nat.le_of_ble_eq_true rfl, Nat.le_of_ble_eq_true rfl⟩, _, _, _, ⟨.inl rfl, rfl, rfl, rfl⟩, 0, rfl, by omega, rfl, rfl⟩, ?_⟩
  rintro q ys h ⟨i, rfl, hi2, rfl, rfl⟩
  by_cases hlt : i < m
  ·have hip : i < p.length := by omega
   have T := abz p i hip
   have s1 := qg (av5 (hp i))
   have A := agw (p.take i) (p.getD i c0)
   have e : p.take i ++ [p.getD i c0] = p.take (i + 1) := by
    rw [List.take_succ_eq_append_getElem hip, List.getD_eq_getElem?_getD, List.getElem?_eq_getElem hip] <;> rfl
   rw [e] at A
   have L1 : (fa pc (p.take i)).length = i * 6 := by rw [du vt, List.length_take]; omega
   generalize p.getD i c0 = c at *
   obtain ⟨c1, c2⟩ := c
   repeat' ((conv => whnf); first | with_reducible refine ag.data ?_ | ((with_reducible refine Br.ck ?hpp ?_); case hpp => first | omega | (dsimp only; omega)) | refine aa.mk _ _ (s1) ?_ | refine Cd.mk (wi p _ (by omega)) ?_ | ((with_reducible show TkE (List.drop _ (List.flatMap pc _)) _ _ _); refine TkE.mk _ T rfl ?_) | refine Cd.mk L1 ?_ | refine Cd.mk (show (i + 1) * 80 ≤ 70368744177664 by omega) ?_ | refine Cd.mk (di rfl) ?_ | refine DsE.mk (pc (c1, c2)) rfl ?_ | ((with_reducible show DsE (fa pc _) _); refine DsE.mk (List.flatMap pc _) rfl ?_) | ((with_reducible show EqE (fa pc _ ++ _) _); refine EqE.mk _ A ?_) | refine an.go _ _ ⟨.inl rfl, rfl, rfl, az _ _ _ _ _ _ rfl⟩ ?_ | refine rgE ?_ | refine Cd.mk rfl ?_ | ((with_reducible refine EqE.idW ?_); with_reducible refine EqE.mk _ (qx _ (by omega)) ?_) | refine Cd.ol ?_ | refine Cd.mk ⟨rfl, rfl⟩ ?_)
   exact ⟨_, ⟨i + 1, rfl, by omega, rfl, rfl⟩, by omega⟩
  ·have e : i = m := by omega
   subst e
   repeat' ((conv => whnf); first | ((with_reducible refine Br.b4 ?hpp ?_); case hpp => first | omega | (dsimp only; omega)) | ((with_reducible show DsE (fa pc _) _); refine DsE.mk (List.flatMap pc _) rfl ?_) | refine rgE ?_ | refine Cd.mk rfl ?_ | refine Res.mk ?_ | ((with_reducible refine EqE.idL ?_); refine EqE.mk _ rfl ?_))
   exact (aiz p _ hi).symm
 obtain ⟨k, rfl⟩ : ∃ k, m = k + 1 := ⟨m - 1, by omega⟩
 have T := abz p k (by omega)
 have s1 := qg (av5 (hp k))
 have e1 : ((k + 1 : Nat) : Int) - 1 = (k : Int) := by omega
 obtain ⟨t, hz⟩ : ∃ t, decide (p.getD k c0 = (0, 0)) = t := ⟨_, rfl⟩
 have s2 := iv (hp k) hz
 cases t
 ·have hz' : ¬ p.getD k c0 = c0 := of_decide_eq_false hz
  have e : j9 p = p.take (k + 1) := by unfold j9; rw [ht, a4g p k hz']
  rw [e]
  clear e ht hz hz'
  generalize hcc : p.getD k c0 = c at *
  obtain ⟨c1, c2⟩ := c
  repeat' ((conv => whnf); first | with_reducible refine ag.data ?_ | ((with_reducible refine Br.ck ?hpp ?_); case hpp => first | omega | (dsimp only; omega)) | refine aa.mk _ _ (s1) ?_ | refine aa.mk _ _ (s2) ?_ | refine Cd.mk (wi p k (by omega)) ?_ | ((with_reducible show TkE (List.drop _ (List.flatMap pc _)) _ _ _); refine TkE.mk _ T rfl ?_) | refine rgE ?_ | refine Cd.mk rfl ?_ | refine Br.t ?_ | refine Br.f ?_ | ((with_reducible refine EqE.idW ?_); refine EqE.mk (k : Int) ((aj (by omega) (by omega)).trans e1) ?_))
  refine ⟨[(3, 500, 6)], [0, 3, 4, 5], [500], fun q ys h => ∃ i : Nat, q = k + 1 - i ∧ i ≤ k + 1 ∧ ys = [.d (pl p), .own 500 0 i 6, .d (.int .i64 (k + 1 : Nat)), .d (.int .i64 i)] ∧ h = [(500, false, fa pc (p.take i))],
   ⟨rfl, rfl, ⟨Nat.le_of_ble_eq_true rfl, Nat.le_of_ble_eq_true rfl⟩, _, _, _, ⟨.inl rfl, rfl, rfl, rfl⟩, 0, rfl, by omega, rfl, rfl⟩, ?_⟩
  rintro q ys h ⟨i, rfl, hi2, rfl, rfl⟩
  by_cases hlt : i < k + 1
  ·have hip : i < p.length := by omega
   have T := abz p i hip
   have s1 := qg (av5 (hp i))
   have A := agw (p.take i) (p.getD i c0)
   have e : p.take i ++ [p.getD i c0] = p.take (i + 1) := by
    rw [List.take_succ_eq_append_getElem hip, List.getD_eq_getElem?_getD, List.getElem?_eq_getElem hip] <;> rfl
   rw [e] at A
   have L1 : (fa pc (p.take i)).length = i * 6 := by rw [du vt, List.length_take]; omega
   generalize p.getD i c0 = c at *
   obtain ⟨c1, c2⟩ := c
   repeat' ((conv => whnf); first | with_reducible refine ag.data ?_ | ((with_reducible refine Br.ck ?hpp ?_); case hpp => first | omega | (dsimp only; omega)) | refine aa.mk _ _ (s1) ?_ | refine Cd.mk (wi p _ (by omega)) ?_ | ((with_reducible show TkE (List.drop _ (List.flatMap pc _)) _ _ _); refine TkE.mk _ T rfl ?_) | refine Cd.mk L1 ?_ | refine Cd.mk (show (i + 1) * 80 ≤ 70368744177664 by omega) ?_ | refine Cd.mk (di rfl) ?_ | refine DsE.mk (pc (c1, c2)) rfl ?_ | ((with_reducible show DsE (fa pc _) _); refine DsE.mk (List.flatMap pc _) rfl ?_) | ((with_reducible show EqE (fa pc _ ++ _) _); refine EqE.mk _ A ?_) | refine an.go _ _ ⟨.inl rfl, rfl, rfl, az _ _ _ _ _ _ rfl⟩ ?_ | refine rgE ?_ | refine Cd.mk rfl ?_ | ((with_reducible refine EqE.idW ?_); with_reducible refine EqE.mk _ (ax _ (by omega)) ?_) | refine Cd.ol ?_ | refine Cd.mk ⟨rfl, rfl⟩ ?_)
   exact ⟨_, ⟨i + 1, rfl, by omega, rfl, rfl⟩, by omega⟩
  ·have e : i = k + 1 := by omega
   subst e
   repeat' ((conv => whnf); first | ((with_reducible refine Br.b4 ?hpp ?_); case hpp => first | omega | (dsimp only; omega)) | ((with_reducible show DsE (fa pc _) _); refine DsE.mk (List.flatMap pc _) rfl ?_) | refine rgE ?_ | refine Cd.mk rfl ?_ | refine Res.mk ?_ | ((with_reducible refine EqE.idL ?_); refine EqE.mk _ rfl ?_))
   exact (aiz p _ hi).symm
 ·have hz' : p.getD k c0 = c0 := of_decide_eq_true hz
  have hst := a4f p k hz'
  clear hz hz'
  generalize p.getD k c0 = c at *
  obtain ⟨c1, c2⟩ := c
  repeat' ((conv => whnf); first | with_reducible refine ag.data ?_ | ((with_reducible refine Br.ck ?hpp ?_); case hpp => first | omega | (dsimp only; omega)) | refine aa.mk _ _ (s1) ?_ | refine aa.mk _ _ (s2) ?_ | refine Cd.mk (wi p k (by omega)) ?_ | ((with_reducible show TkE (List.drop _ (List.flatMap pc _)) _ _ _); refine TkE.mk _ T rfl ?_) | refine rgE ?_ | refine Cd.mk rfl ?_ | refine Br.t ?_ | refine an.cu _ _ ?_ | ((with_reducible refine EqE.idW ?_); refine EqE.mk (k : Int) ((aj (by omega) (by omega)).trans e1) ?_))
  exact ⟨k, ⟨k, rfl, by omega, by rw [ht, hst], rfl, rfl⟩, by omega⟩
end Go.Ev.Ar

namespace Go.Ev.Ar
open Go Go.Ev Go.Proofs
theorem a1d (p : List Cq) : (p.flatMap pc).take (p.length * 6) = p.flatMap pc := List.take_of_length_le (by rw [vh vt]; exact Nat.le_refl _)
theorem ap3 {p : List Cq} {n : Nat} (h : p.length = n) : D.slice n ((p.flatMap pc).take (n * 6)) = pl p := by subst h; unfold pl; rw [a1d]
theorem am7 (p q : List Cq) (hp : p.length ≤ 500) (hq : q.length ≤ 500) (h1 : br 40000 p) (h2 : br 40000 q) : Sim Tryz.prog G0 false 110 [pl p, pl q] (pl (ov p q)) := by
 obtain ⟨N, hN⟩ : ∃ N, max p.length q.length = N := ⟨_, rfl⟩
 have st := y8 (w7 p q N) (by rw [te]; omega) ((h1.w7 h2 N).mono (by omega))
 rw [← ap3 (te p q N)] at st
 have e : j9 (w7 p q N) = ov p q := by unfold ov; rw [hN]
 rw [e] at st
 clear e
 refine ao af Tryz.func110 ?_
 repeat' ((conv => whnf); first | refine rgE ?_)
 refine ⟨[(5, 500, 6)], [0, 1, 5, 6], [500], fun m ys h => ∃ i : Nat, m = N - i ∧ i ≤ N ∧ ys = [.d (pl p), .d (pl q), .own 500 0 i 6, .d (.int .i64 i)] ∧ h = [(500, false, fa pc (w7 p q i))],
  ⟨rfl, rfl, ⟨Nat.le_of_ble_eq_true rfl, Nat.le_of_ble_eq_true rfl⟩, _, _, _, ⟨.inl rfl, rfl, rfl, rfl⟩, 0, rfl, by omega, rfl, rfl⟩, ?_⟩
 rintro m ys h ⟨i, rfl, hi, rfl, rfl⟩
 have hM : (if true = true then (if ((q.length : Nat) : Int) > ((p.length : Nat) : Int) then ((q.length : Nat) : Int) else ((p.length : Nat) : Int)) else (if ((q.length : Nat) : Int) < ((p.length : Nat) : Int) then ((q.length : Nat) : Int) else ((p.length : Nat) : Int))) = ((N : Nat) : Int) := by rw [ako, hN]
 by_cases hlt : i < N
 ·have s1 := asf p i (by omega)
  have s2 := asf q i (by omega)
  have s3 := ab2 (h1 i) (h2 i) rfl
  have A := agw (w7 p q i) (o8 (p.getD i c0) (q.getD i c0))
  rw [← ahz] at A
  have L1 : (fa pc (w7 p q i)).length = i * 6 := by rw [du vt, te]
  unfold o8 at A
  generalize ((p.getD i c0).1 + (q.getD i c0).1, (p.getD i c0).2 + (q.getD i c0).2) = w at *
  generalize p.getD i c0 = a at *
  generalize q.getD i c0 = b at *
  obtain ⟨w1, w2⟩ := w
  repeat' ((conv => whnf); first | with_reducible refine ag.data ?_ | ((with_reducible refine Br.ck ?hpp ?_); case hpp => first | omega | (dsimp only; omega)) | refine aa.mk _ _ (s1) ?_ | refine aa.mk _ _ (s2) ?_ | refine aa.mk _ _ (s3) ?_ | refine Cd.mk L1 ?_ | refine Cd.mk (show (i + 1) * 80 ≤ 70368744177664 by omega) ?_ | refine Cd.mk (di rfl) ?_ | refine DsE.mk (pc (w1, w2)) rfl ?_ | ((with_reducible show DsE (fa pc _) _); refine DsE.mk (List.flatMap pc _) rfl ?_) | ((with_reducible show EqE (fa pc _ ++ _) _); refine EqE.mk _ A ?_) | refine an.go _ _ ⟨.inl rfl, rfl, rfl, az _ _ _ _ _ _ rfl⟩ ?_ | refine rgE ?_ | refine Cd.mk rfl ?_ | ((with_reducible refine EqE.idW ?_); with_reducible refine EqE.mk _ (ax _ (by omega)) ?_) | ((with_reducible refine EqE.idI ?_); refine EqE.mk _ hM ?_) | refine Cd.ol ?_ | refine Cd.mk ⟨rfl, rfl⟩ ?_)
  exact ⟨_, ⟨i + 1, rfl, by omega, rfl, rfl⟩, by omega⟩
 ·have e : i = N := by omega
  subst e
  repeat' ((conv => whnf); first | with_reducible refine ag.data ?_ | ((with_reducible refine Br.b4 ?hpp ?_); case hpp => first | omega | (dsimp only; omega)) | refine aa.mk _ _ (st) ?_ | ((with_reducible show DsE (fa pc _) _); refine DsE.mk (List.flatMap pc _) rfl ?_) | refine rgE ?_ | refine Cd.mk rfl ?_ | refine Res.mk ?_ | ((with_reducible refine EqE.idI ?_); refine EqE.mk _ hM ?_) | ((with_reducible refine EqE.idL ?_); refine EqE.mk _ rfl ?_))
  rfl
theorem ax5 (p : List Cq) (hp : p.length ≤ 500) (h1 : br 50000 p) : Sim Tryz.prog G0 false 111 [pl p] (pl (j7 p)) := by
 refine ao af Tryz.func111 ?_
 repeat' ((conv => whnf); first | refine rgE ?_)
 refine ⟨[(3, 500, 6)], [0, 3, 4], [500], fun m ys h => ∃ i : Nat, m = p.length - i ∧ i ≤ p.length ∧ ys = [.d (pl p), .own 500 0 i 6, .d (.int .i64 i)] ∧ h = [(500, false, fa pc ((j7 p).take i))],
  ⟨rfl, rfl, ⟨Nat.le_of_ble_eq_true rfl, Nat.le_of_ble_eq_true rfl⟩, _, _, _, ⟨.inl rfl, rfl, rfl, rfl⟩, 0, rfl, by omega, rfl, rfl⟩, ?_⟩
 rintro m ys h ⟨i, rfl, hi, rfl, rfl⟩
 have hl : (j7 p).length = p.length := by simp [j7]
 by_cases hlt : i < p.length
 ·have T := abz p i hlt
  have s1 := ai4 (h1 i) rfl
  have A := agw ((j7 p).take i) (aov (p.getD i c0))
  have e : (j7 p).take i ++ [aov (p.getD i c0)] = (j7 p).take (i + 1) := by
   rw [List.take_succ_eq_append_getElem (by omega), List.getD_eq_getElem?_getD, List.getElem?_eq_getElem hlt]
   simp [j7]
  rw [e] at A
  have L1 : (fa pc ((j7 p).take i)).length = i * 6 := by rw [du vt, List.length_take]; omega
  unfold aov at A
  generalize (-(p.getD i c0).1, -(p.getD i c0).2) = w at *
  generalize p.getD i c0 = c at *
  obtain ⟨c1, c2⟩ := c
  obtain ⟨w1, w2⟩ := w
  repeat' ((conv => whnf); first | with_reducible refine ag.data ?_ | ((with_reducible refine Br.ck ?hpp ?_); case hpp => first | omega | (dsimp only; omega)) | refine aa.mk _ _ (s1) ?_ | refine Cd.mk (wi p _ (by omega)) ?_ | ((with_reducible show TkE (List.drop _ (List.flatMap pc _)) _ _ _); refine TkE.mk _ T rfl ?_) | refine Cd.mk L1 ?_ | refine Cd.mk (show (i + 1) * 80 ≤ 70368744177664 by omega) ?_ | refine Cd.mk (di rfl) ?_ | refine DsE.mk (pc (w1, w2)) rfl ?_ | ((with_reducible show DsE (fa pc _) _); refine DsE.mk (List.flatMap pc _) rfl ?_) | ((with_reducible show EqE (fa pc _ ++ _) _); refine EqE.mk _ A ?_) | refine an.go _ _ ⟨.inl rfl, rfl, rfl, az _ _ _ _ _ _ rfl⟩ ?_ | refine rgE ?_ | refine Cd.mk rfl ?_ | ((with_reducible refine EqE.idW ?_); with_reducible refine EqE.mk _ (ax _ (by omega)) ?_) | refine Cd.ol ?_ | refine Cd.mk ⟨rfl, rfl⟩ ?_)
  exact ⟨_, ⟨i + 1, rfl, by omega, rfl, rfl⟩, by omega⟩
 ·have e : i = p.length := by omega
  subst e
  have E : D.slice p.length ((((j7 p).take p.length).flatMap pc).take (p.length * 6)) = pl (j7 p) := by
   rw [List.take_of_length_le (show (j7 p).length ≤ p.length by omega)]; exact ap3 hl
  repeat' ((conv => whnf); first | ((with_reducible refine Br.b4 ?hpp ?_); case hpp => first | omega | (dsimp only; omega)) | ((with_reducible show DsE (fa pc _) _); refine DsE.mk (List.flatMap pc _) rfl ?_) | refine rgE ?_ | refine Cd.mk rfl ?_ | refine Res.mk ?_ | ((with_reducible refine EqE.idL ?_); refine EqE.mk _ rfl ?_))
  exact E.symm
theorem aug {a w : Cq} {d : Dyadic} (ha : Hc 24000 a) (hd : Ht 24000 d) (h : (a.1 * d, a.2 * d) = w) : Sim Tryz.prog G0 false 113 [cxD a, dyD d] (cxD w) := by
 subst h
 have m1 := qh (ha.1.mono (show 24000 ≤ 25000 by decide)) (hd.mono (show 24000 ≤ 25000 by decide))
 have m2 := qh (ha.2.mono (show 24000 ≤ 25000 by decide)) (hd.mono (show 24000 ≤ 25000 by decide))
 obtain ⟨p, q⟩ := a
 dsimp only at m1 m2 ⊢
 generalize p * d = u at *
 generalize q * d = v at *
 refine ao af Tryz.func113 ?_
 repeat' ((conv => whnf); first | refine aa.mk _ _ (m1) ?_ | refine aa.mk _ _ (m2) ?_ | refine rgE ?_ | refine Cd.mk rfl ?_ | (refine TkE.fL ?_; (conv => whnf); fail_if_success (show ae _ _)) | refine Res.mk ?_ | ((with_reducible refine EqE.idS ?_); (refine EqE.fP ?_; (conv => whnf); fail_if_success (show ae _ _))) | refine Cd.ol ?_)
 rfl
theorem apc {n : Nat} (h : n ≤ 1000) : Ht 64 (dof (n : Int) 0) := Ht.i64 (by omega) (by omega)
theorem ax3 (p : List Cq) (hp : p.length ≤ 500) (h1 : br 20000 p) : Sim Tryz.prog G0 false 61 [pl p] (pl (zj p)) := by
 obtain ⟨N, hN⟩ : ∃ N, p.length - 1 = N := ⟨_, rfl⟩
 have hd : br 20064 (xd p N) := br.of fun c hc => by
  unfold xd at hc
  rw [List.mem_map] at hc
  obtain ⟨i, hi, rfl⟩ := hc
  have hi := List.mem_range.1 hi
  have ht := apc (n := i + 1) (by omega)
  exact ⟨(h1 (i + 1)).1.mul ht (by decide), (h1 (i + 1)).2.mul ht (by decide)⟩
 have st := y8 (xd p N) (by rw [xe]; omega) (hd.mono (by decide))
 rw [← ap3 (xe p N)] at st
 have e : j9 (xd p N) = zj p := by unfold zj; rw [hN]
 rw [e] at st
 clear e hd
 refine ao af Tryz.func61 ?_
 repeat' ((conv => whnf); first | refine rgE ?_)
 refine ⟨[(3, 500, 6)], [0, 3, 4], [500], fun m ys h => ∃ i : Nat, m = N - i ∧ i ≤ N ∧ ys = [.d (pl p), .own 500 0 i 6, .d (.int .i64 ((i : Int) + 1))] ∧ h = [(500, false, fa pc (xd p i))],
  ⟨rfl, rfl, ⟨Nat.le_of_ble_eq_true rfl, Nat.le_of_ble_eq_true rfl⟩, _, _, _, ⟨.inl rfl, rfl, rfl, rfl⟩, 0, rfl, by omega, rfl, rfl⟩, ?_⟩
 rintro m ys h ⟨i, rfl, hi, rfl, rfl⟩
 by_cases hlt : i < N
 ·have T := abz p (i + 1) (by omega)
  rw [show (((i + 1 : Nat)) : Int) = (i : Int) + 1 by omega] at T
  have s1 : Sim Tryz.prog G0 false 20 [.int .i64 ((i : Int) + 1)] (dyD (dof ((i : Int) + 1) 0)) := ag8 _ (by omega) (by omega)
  have s2 := aug (d := dof ((i : Int) + 1) 0) ((h1 (i + 1)).mono (by decide)) ((apc (n := i + 1) (by omega)).mono (by decide)) rfl
  have A := agw (xd p i) ((p.getD (i + 1) c0).1 * dof ((i : Int) + 1) 0, (p.getD (i + 1) c0).2 * dof ((i : Int) + 1) 0)
  rw [← ah7] at A
  have L1 : (fa pc (xd p i)).length = i * 6 := by rw [du vt, xe]
  generalize ((p.getD (i + 1) c0).1 * dof ((i : Int) + 1) 0, (p.getD (i + 1) c0).2 * dof ((i : Int) + 1) 0) = w at *
  generalize p.getD (i + 1) c0 = c at *
  obtain ⟨c1, c2⟩ := c
  obtain ⟨w1, w2⟩ := w
  have X : (0 ≤ (i : Int) + 1 ∧ (i : Int) + 1 < (p.length : Int)) ∧ ((i : Int) + 1).toNat * 6 < (p.flatMap pc).length := by
   have := wi p (i + 1) (by omega)
   rw [show (((i + 1 : Nat)) : Int) = (i : Int) + 1 by omega] at this; exact this
  repeat' ((conv => whnf); first | ((with_reducible refine Br.ck ?hpp ?_); case hpp => first | omega | (dsimp only; omega)) | refine aa.mk _ _ (s1) ?_ | refine aa.mk _ _ (s2) ?_ | refine Cd.mk X ?_ | ((with_reducible show TkE (List.drop _ (List.flatMap pc _)) _ _ _); refine TkE.mk _ T rfl ?_) | refine Cd.mk L1 ?_ | refine Cd.mk (show (i + 1) * 80 ≤ 70368744177664 by omega) ?_ | refine Cd.mk (di rfl) ?_ | refine DsE.mk (pc (w1, w2)) rfl ?_ | ((with_reducible show DsE (fa pc _) _); refine DsE.mk (List.flatMap pc _) rfl ?_) | ((with_reducible show EqE (fa pc _ ++ _) _); refine EqE.mk _ A ?_) | refine an.go _ _ ⟨.inl rfl, rfl, rfl, az _ _ _ _ _ _ rfl⟩ ?_ | refine rgE ?_ | refine Cd.mk rfl ?_ | ((with_reducible refine EqE.idW ?_); refine EqE.mk ((((i + 1 : Nat)) : Int) + 1) (aj (by omega) (by omega)) ?_) | refine Cd.ol ?_ | refine Cd.mk ⟨rfl, rfl⟩ ?_)
  exact ⟨_, ⟨i + 1, rfl, by omega, rfl, rfl⟩, by omega⟩
 ·have e : i = N := by omega
  subst e
  repeat' ((conv => whnf); first | with_reducible refine ag.data ?_ | ((with_reducible refine Br.b4 ?hpp ?_); case hpp => first | omega | (dsimp only; omega)) | refine aa.mk _ _ (st) ?_ | ((with_reducible show DsE (fa pc _) _); refine DsE.mk (List.flatMap pc _) rfl ?_) | refine rgE ?_ | refine Cd.mk rfl ?_ | refine Res.mk ?_ | ((with_reducible refine EqE.idL ?_); refine EqE.mk _ rfl ?_))
  rfl
end Go.Ev.Ar

namespace Go.Ev.Ar
open Go Go.Ev Go.Proofs
def a2w (o : Option Cq) : List A := match o with
 | none => zeA ++ zeA
 | some c => dyC c.1 ++ dyC c.2
def xm (p : List Cq) (z : Cq) (k : Nat) : Option Cq := if k = 0 then none else some (rl p z k)
set_option maxHeartbeats 4000000 in
theorem ax2 (p : List Cq) (z : Cq) (hp : p.length ≤ 500) (h1 : br 18000 p) (hz : Hc 2000 z) (hh : ∀ k, k ≤ p.length → Hc 18000 (rl p z k)) : Sim Tryz.prog G0 false 60 [pl p, cxD z] (cxD (atP p z)) := by
 have hfin : ∀ k, k = p.length → atP p z = rl p z k := fun k h => by rw [h] <;> rfl
 have sm := fun k (hk : k ≤ p.length) => fk ((hh k hk).mono (show 18000 ≤ 20000 by decide)) (hz.mono (show 2000 ≤ 20000 by decide)) rfl
 have sh := fun k (hk : k ≤ p.length) => Go.Ev.Hc.mono (Hc.ar (hh k hk) hz (c := 20001) (by decide)) (show 20001 ≤ 40000 by decide)
 have hs : ∀ k, rl p z (k + 1) = o8 (ar (rl p z k) z) (p.getD (p.length - 1 - k) c0) := fun k => rfl
 have h0 : rl p z 0 = c0 := rfl
 generalize atP p z = w at *
 obtain ⟨z1, z2⟩ := z
 refine ao af Tryz.func60 ?_
 repeat' ((conv => whnf); first | refine rgE ?_ | refine Cd.mk rfl ?_ | ((with_reducible refine EqE.idW ?_); refine EqE.mk ((p.length : Int) - 1) (aj (by omega) (by omega)) ?_) | ((with_reducible refine EqE.idS ?_); (refine EqE.fP ?_; (conv => whnf); fail_if_success (show ae _ _))) | refine Cd.ol ?_)
 refine ⟨[], [0, 3, 4, 5, 6], [3, 4, 5], fun m ys h => ∃ k : Nat, m = p.length - k ∧ k ≤ p.length ∧ ys = [.d (pl p), .ptr 3 0, .ptr 4 0, .ptr 5 0, .d (.int .i64 ((p.length : Int) - 1 - k))] ∧
   h = [(5, false, a2w (xm p (z1, z2) k)), (4, false, zeA ++ zeA), (3, false, dyC z1 ++ dyC z2)],
  ⟨_, _, _, ⟨.inl rfl, rfl, rfl, by first | rfl | (repeat first | exact all_nil _ | refine bm _ _ _ _ _ ?_)⟩, 0, rfl, by omega, by rw [show (p.length : Int) - 1 - ((0 : Nat) : Int) = (p.length : Int) - 1 by omega]; rfl, rfl⟩, ?_⟩
 rintro m ys h ⟨k, rfl, hk, rfl, rfl⟩
 by_cases hlt : k < p.length
 ·have e1 : (p.length : Int) - 1 - (k : Int) = ((p.length - 1 - k : Nat) : Int) := by omega
  rw [e1]
  have hj : p.length - 1 - k < p.length := by omega
  have T := abz p (p.length - 1 - k) hj
  have s1 := sm k (by omega)
  have s2 := ab2 (sh k (by omega)) ((h1 (p.length - 1 - k)).mono (show 18000 ≤ 40000 by decide)) (show _ = rl p (z1, z2) (k + 1) from (hs k).symm)
  have X := wi p (p.length - 1 - k) hj
  have e2 : ((p.length - 1 - k : Nat) : Int) - 1 = (p.length : Int) - 1 - ((k + 1 : Nat) : Int) := by omega
  obtain ⟨j, hj2⟩ : ∃ j, p.length - 1 - k = j := ⟨_, rfl⟩
  rw [hj2] at T s2 X e2 hj ⊢
  have hO : xm p (z1, z2) (k + 1) = some (rl p (z1, z2) (k + 1)) := by unfold xm; rw [if_neg (by omega)]
  rcases Nat.eq_zero_or_pos k with hk0 | hk0
  ·have hN : xm p (z1, z2) k = none := by unfold xm; rw [if_pos hk0]
   rw [hN]
   rw [hk0, h0, ← od] at s1
   rw [hk0, h0] at s2
   clear hN hs h0 sm sh hfin h1 hh e1
   rw [hk0] at hO
   generalize rl p (z1, z2) (0 + 1) = v at *
   generalize ar c0 (z1, z2) = u at *
   generalize p.getD j c0 = c at *
   obtain ⟨u1, u2⟩ := u
   obtain ⟨v1, v2⟩ := v
   obtain ⟨d1, d2⟩ := c
   repeat' ((conv => whnf); first | ((with_reducible refine Br.ck ?hpp ?_); case hpp => first | omega | (dsimp only; omega)) | refine aa.mk _ _ (s1) ?_ | refine aa.mk _ _ (s2) ?_ | refine Cd.mk X ?_ | ((with_reducible show TkE (List.drop _ (List.flatMap pc _)) _ _ _); refine TkE.mk _ T rfl ?_) | refine rgE ?_ | refine Cd.mk rfl ?_ | (refine TkE.fL ?_; (conv => whnf); fail_if_success (show ae _ _)) | refine an.cu _ _ ?_ | ((with_reducible refine EqE.idW ?_); refine EqE.mk ((p.length : Int) - 1 - ((k + 1 : Nat) : Int)) ((aj (by omega) (by omega)).trans e2) ?_) | ((with_reducible refine EqE.idS ?_); (refine EqE.fP ?_; (conv => whnf); fail_if_success (show ae _ _))) | refine Cd.ol ?_)
   exact ⟨_, ⟨k + 1, rfl, by omega, rfl, by rw [hk0, hO]; rfl⟩, by omega⟩
  ·have hN : xm p (z1, z2) k = some (rl p (z1, z2) k) := by unfold xm; rw [if_neg (by omega)]
   rw [hN]
   clear hN hs h0 sm sh hfin h1 hh e1
   generalize rl p (z1, z2) (k + 1) = v at *
   generalize ar (rl p (z1, z2) k) (z1, z2) = u at *
   generalize rl p (z1, z2) k = x at *
   generalize p.getD j c0 = c at *
   obtain ⟨u1, u2⟩ := u
   obtain ⟨v1, v2⟩ := v
   obtain ⟨d1, d2⟩ := c
   obtain ⟨x1, x2⟩ := x
   repeat' ((conv => whnf); first | ((with_reducible refine Br.ck ?hpp ?_); case hpp => first | omega | (dsimp only; omega)) | refine aa.mk _ _ (s1) ?_ | refine aa.mk _ _ (s2) ?_ | refine Cd.mk X ?_ | ((with_reducible show TkE (List.drop _ (List.flatMap pc _)) _ _ _); refine TkE.mk _ T rfl ?_) | refine rgE ?_ | refine Cd.mk rfl ?_ | (refine TkE.fL ?_; (conv => whnf); fail_if_success (show ae _ _)) | refine an.cu _ _ ?_ | ((with_reducible refine EqE.idW ?_); refine EqE.mk ((p.length : Int) - 1 - ((k + 1 : Nat) : Int)) ((aj (by omega) (by omega)).trans e2) ?_) | ((with_reducible refine EqE.idS ?_); (refine EqE.fP ?_; (conv => whnf); fail_if_success (show ae _ _))) | refine Cd.ol ?_)
   exact ⟨_, ⟨k + 1, rfl, by omega, rfl, by rw [hO]; rfl⟩, by omega⟩
 ·have e : k = p.length := by omega
  have hw := hfin k e
  rcases Nat.eq_zero_or_pos k with hk0 | hk0
  ·have hN : xm p (z1, z2) k = none := by unfold xm; rw [if_pos hk0]
   rw [hN, hw, hk0, h0, ← od]
   repeat' ((conv => whnf); first | ((with_reducible refine Br.b4 ?hpp ?_); case hpp => first | omega | (dsimp only; omega)) | refine rgE ?_ | refine Cd.mk rfl ?_ | (refine TkE.fL ?_; (conv => whnf); fail_if_success (show ae _ _)) | refine Res.mk ?_ | ((with_reducible refine EqE.idS ?_); (refine EqE.fP ?_; (conv => whnf); fail_if_success (show ae _ _))) | refine Cd.ol ?_)
   rfl
  ·have hN : xm p (z1, z2) k = some (rl p (z1, z2) k) := by unfold xm; rw [if_neg (by omega)]
   rw [hN, hw]
   generalize rl p (z1, z2) k = x at *
   obtain ⟨x1, x2⟩ := x
   repeat' ((conv => whnf); first | ((with_reducible refine Br.b4 ?hpp ?_); case hpp => first | omega | (dsimp only; omega)) | refine rgE ?_ | refine Cd.mk rfl ?_ | (refine TkE.fL ?_; (conv => whnf); fail_if_success (show ae _ _)) | refine Res.mk ?_ | ((with_reducible refine EqE.idS ?_); (refine EqE.fP ?_; (conv => whnf); fail_if_success (show ae _ _))) | refine Cd.ol ?_)
   rfl
def pO (o : Option Cq) : List D := match o with
 | none => [.bool false, .nil, .int .i64 0, .bool false, .nil, .int .i64 0]
 | some c => pc c
theorem aky (o : Option Cq) : (pO o).length = 6 := by cases o <;> rfl
def vO (o : Option Cq) : Cq := o.getD c0
theorem a3x (n : Nat) : jb (n : Int).toNat (nc [.bool, .nil, .int .i64, .bool, .nil, .int .i64]) = fa pO (List.replicate n none) := by
 rw [Int.toNat_natCast]
 unfold fa jb
 induction n with
 | zero => rfl
 | succ n ih => rw [List.replicate_succ, List.replicate_succ, List.flatten_cons, List.flatMap_cons, List.map_append, ih] <;> rfl
theorem a3w (o : Option Cq) : (pO o).map axs = pc (vO o) := by
 cases o with
 | none =>
  have := od
  show [D.bool false, .slice 0 [], .int .i64 0, .bool false, .slice 0 [], .int .i64 0] = pc (0, 0)
  exact (D.agg.inj this)
 | some c => rfl
theorem akz : ∀ out : List (Option Cq), (out.flatMap pO).map axs = (out.map vO).flatMap pc
 | [] => rfl
 | o :: out => by rw [List.flatMap_cons, List.map_append, a3w, akz out, List.map_cons, List.flatMap_cons]
theorem a48 {out : List (Option Cq)} {j : Nat} (h : j < out.length) {o : Option Cq} (ho : out.getD j none = o) : ((fa pO out).drop (0 + (j : Int).toNat * 6)).take 6 = (pO o).map A.d := by
 rw [tv aky none out j h, ho]
theorem a5a {out : List (Option Cq)} {j : Nat} (h : j < out.length) (c : Cq) : setAt (fa pO out) (0 + (j : Int).toNat * 6) ((pc c).map A.d) = fa pO (out.set j (some c)) := aco aky out j (some c) h
theorem a49 {out : List (Option Cq)} {j : Nat} (h : j < out.length) : 0 + (j : Int).toNat * 6 + 6 ≤ (fa pO out).length := by rw [du aky, Int.toNat_natCast]; omega
theorem a4j {out : List (Option Cq)} {j : Nat} {c : Cq} : (out.set j (some c)).map vO = (out.map vO).set j c := by rw [List.map_set] <;> rfl
theorem azh {out : List (Option Cq)} {j : Nat} : (out.map vO).getD j c0 = vO (out.getD j none) := by
 rw [List.getD_eq_getElem?_getD, List.getElem?_map, List.getD_eq_getElem?_getD]
 cases out[j]? <;> rfl
theorem rk (out : List (Option Cq)) : (out.map vO).length = out.length := by simp
set_option maxHeartbeats 8000000 in
theorem anc (p q : List Cq) {a b : Nat} (hp : p.length ≤ 100) (hq : q.length ≤ 100) (h1 : br a p) (h2 : br b q) (ha : a ≤ 20000) (hb : b ≤ 20000) (hab : a + b ≤ 39000) : Sim Tryz.prog G0 false 112 [pl p, pl q] (pl (oo p q)) := by
 by_cases hp0 : p.length = 0
 ·have e : oo p q = [] := by unfold oo; rw [if_pos (.inl hp0)]
  rw [e]
  refine ao af Tryz.func112 ?_
  repeat' ((conv => whnf); first | ((with_reducible refine Br.ck ?hpp ?_); case hpp => first | omega | (dsimp only; omega)) | refine rgE ?_ | refine Cd.mk rfl ?_ | refine Br.t ?_ | refine Res.mk ?_)
  all_goals rfl
 by_cases hq0 : q.length = 0
 ·have e : oo p q = [] := by unfold oo; rw [if_pos (.inr hq0)]
  rw [e]
  refine ao af Tryz.func112 ?_
  repeat' ((conv => whnf); first | ((with_reducible refine Br.ck ?hpp ?_); case hpp => first | omega | (dsimp only; omega)) | ((with_reducible refine Br.b4 ?hpp ?_); case hpp => first | omega | (dsimp only; omega)) | refine rgE ?_ | refine Cd.mk rfl ?_ | refine Br.f ?_ | refine Res.mk ?_)
  all_goals rfl
 obtain ⟨N, hN⟩ : ∃ N, p.length + q.length - 1 = N := ⟨_, rfl⟩
 have mal := fun i => abo p q i
 have mrl := fun i k => abp (p.getD i c0) q i (l8 p q i) k
 have mst : ∀ i, l8 p q (i + 1) = mulR (p.getD i c0) q i (l8 p q i) q.length := fun i => rfl
 have mrt : ∀ i k, mulR (p.getD i c0) q i (l8 p q i) (k + 1) = (mulR (p.getD i c0) q i (l8 p q i) k).set (i + k) (o8 ((mulR (p.getD i c0) q i (l8 p q i) k).getD (i + k) c0) (ar (p.getD i c0) (q.getD k c0))) := fun i k => rfl
 have hh := fun i k => br.mulR i k (h1 i) h2 (br.l8 h1 h2 i) (show a + b + 1 ≤ a + b + 1 + i by omega)
 have hfin : oo p q = j9 (l8 p q p.length) := by unfold oo; rw [if_neg (by omega)]
 have hend := br.l8 h1 h2 p.length
 have st : ∀ out : List (Option Cq), out.map vO = l8 p q p.length → Sim Tryz.prog G0 false 109 [.slice N ((out.flatMap pO).take (N * 6))] (pl (oo p q)) := fun out ho => by
  have hl : out.length = N := by rw [← rk, ho, mal, hN]
  have := y8 (out.map vO) (by rw [rk]; omega) (by rw [ho]; exact hend.mono (by omega))
  rw [ho, ← hfin, ← ho] at this
  refine yb (cs := (out.flatMap pO).take (N * 6)) (n := N) (args := []) ?_
  rw [List.take_of_length_le (by rw [vh aky, hl]; exact Nat.le_refl _), akz]
  unfold pl at this
  rw [rk, hl] at this
  exact this
 have hm0 : (List.replicate N (none : Option Cq)).map vO = l8 p q 0 := by rw [List.map_replicate]; unfold l8; rw [hN] <;> rfl
 rw [← hN] at hm0
 rw [hN] at hm0
 clear hfin hend
 generalize oo p q = R at *
 refine ao af Tryz.func112 ?_
 repeat' ((conv => whnf); first | ((with_reducible refine Br.b4 ?hpp ?_); case hpp => first | omega | (dsimp only; omega)) | refine EqE.mk _ (a3x N) ?_ | refine rgE ?_ | refine Cd.mk rfl ?_ | refine Br.f ?_ | ((with_reducible refine EqE.idW ?_); first | refine EqE.mk (((p.length + q.length : Nat)) : Int) ((aj (by omega) (by omega)).trans (by omega)) ?_ | refine EqE.mk ((N : Nat) : Int) ((aj (by omega) (by omega)).trans (by omega)) ?_) | refine Cd.os ?_)
 refine ⟨[], [0, 1, 5, 6], [22], fun m ys h => ∃ (i : Nat) (out : List (Option Cq)), m = p.length - i ∧ i ≤ p.length ∧ out.map vO = l8 p q i ∧ ys = [.d (pl p), .d (pl q), .own 22 0 N 6, .d (.int .i64 i)] ∧ h = [(22, false, fa pO out)],
  ⟨_, _, _, ⟨.inl rfl, rfl, rfl, az _ _ _ _ _ _ rfl⟩, 0, List.replicate N none, rfl, by omega, hm0, rfl, rfl⟩, ?_⟩
 rintro m ys h ⟨i, out, rfl, hi, hout, rfl, rfl⟩
 have hol : out.length = N := by rw [← rk, hout, mal, hN]
 by_cases hlt : i < p.length
 ·repeat' ((conv => whnf); first | ((with_reducible refine Br.ck ?hpp ?_); case hpp => first | omega | (dsimp only; omega)) | refine rgE ?_ | refine Cd.mk rfl ?_)
  refine ⟨[], [0, 1, 5, 6, 7], [22], fun m ys h => ∃ (k : Nat) (out : List (Option Cq)), m = q.length - k ∧ k ≤ q.length ∧ out.map vO = mulR (p.getD i c0) q i (l8 p q i) k ∧ ys = [.d (pl p), .d (pl q), .own 22 0 N 6, .d (.int .i64 i), .d (.int .i64 k)] ∧ h = [(22, false, fa pO out)],
   ⟨_, _, _, ⟨.inl rfl, rfl, rfl, az _ _ _ _ _ _ rfl⟩, 0, out, rfl, by omega, hout, rfl, rfl⟩, ?_⟩
  clear hout hol
  rintro m2 ys h ⟨k, out, rfl, hk, hout, rfl, rfl⟩
  have hol : out.length = N := by rw [← rk, hout, mrl, mal, hN]
  by_cases hlk : k < q.length
  ·have T1 := abz p i hlt
   have T2 := abz q k hlk
   obtain ⟨o, ho⟩ : ∃ o, out.getD (i + k) none = o := ⟨_, rfl⟩
   have hj : i + k < out.length := by omega
   have T3 := a48 hj ho
   have E1 := a49 hj
   have s1 := fk ((h1 i).mono ha) ((h2 k).mono hb) rfl
   have hx := hh i k (i + k)
   rw [← hout, azh, ho] at hx
   have hy : Hc (a + b + 1) (ar (p.getD i c0) (q.getD k c0)) := Hc.ar (h1 i) (h2 k) (by omega)
   have s2 := ab2 (hx.mono (show a + b + 1 + i + 1 ≤ 40000 by omega)) (hy.mono (show a + b + 1 ≤ 40000 by omega)) rfl
   have nxt := mrt i k
   rw [← hout, azh, ho] at nxt
   have S1 := a5a hj (o8 (vO o) (ar (p.getD i c0) (q.getD k c0)))
   have vs : (out.set (i + k) (some (o8 (vO o) (ar (p.getD i c0) (q.getD k c0))))).map vO = mulR (p.getD i c0) q i (l8 p q i) (k + 1) := by rw [a4j, nxt]
   clear nxt hx hy hh mrt mst mrl mal st hm0 ho
   generalize hV : mulR (p.getD i c0) q i (l8 p q i) (k + 1) = V at *
   unfold o8 at S1 vs
   generalize ((vO o).1 + (ar (p.getD i c0) (q.getD k c0)).1, (vO o).2 + (ar (p.getD i c0) (q.getD k c0)).2) = w at *
   generalize ar (p.getD i c0) (q.getD k c0) = u at *
   generalize p.getD i c0 = x at *
   generalize q.getD k c0 = y at *
   obtain ⟨x1, x2⟩ := x
   obtain ⟨y1, y2⟩ := y
   obtain ⟨u1, u2⟩ := u
   obtain ⟨w1, w2⟩ := w
   cases o with
   | none =>
    rw [show vO none = (0, 0) from rfl, ← od] at s2
    repeat' ((conv => whnf); first | ((with_reducible refine Br.ck ?hpp ?_); case hpp => first | omega | (dsimp only; omega)) | refine aa.mk _ _ (s1) ?_ | refine aa.mk _ _ (s2) ?_ | refine Cd.mk (wi p _ (by omega)) ?_ | refine Cd.mk (wi q _ (by omega)) ?_ | ((with_reducible show TkE (List.drop _ (List.flatMap pc p)) _ _ _); refine TkE.mk _ T1 rfl ?_) | ((with_reducible show TkE (List.drop _ (List.flatMap pc q)) _ _ _); refine TkE.mk _ T2 rfl ?_) | ((with_reducible show TkE (fa pO _) _ _ _); refine TkE.mk _ T3 rfl ?_) | refine Cd.mk E1 ?_ | refine an.go _ _ ⟨.inl rfl, rfl, rfl, az _ _ _ _ _ _ rfl⟩ ?_ | refine rgE ?_ | refine Cd.mk rfl ?_ | ((with_reducible refine EqE.idW ?_); first | refine EqE.mk (((i + k : Nat)) : Int) ((aj (by omega) (by omega)).trans (by omega)) ?_ | with_reducible refine EqE.mk _ (ax _ (by omega)) ?_) | ((with_reducible refine EqE.idS ?_); ((with_reducible show EqE (setAt (fa pO _) _ _) _); refine EqE.mk _ S1 ?_)) | refine Cd.os ?_)
    exact ⟨_, ⟨k + 1, _, rfl, by omega, vs.trans hV.symm, rfl, rfl⟩, by omega⟩
   | some c =>
    rw [show vO (some c) = c from rfl] at s2
    obtain ⟨c1, c2⟩ := c
    repeat' ((conv => whnf); first | ((with_reducible refine Br.ck ?hpp ?_); case hpp => first | omega | (dsimp only; omega)) | refine aa.mk _ _ (s1) ?_ | refine aa.mk _ _ (s2) ?_ | refine Cd.mk (wi p _ (by omega)) ?_ | refine Cd.mk (wi q _ (by omega)) ?_ | ((with_reducible show TkE (List.drop _ (List.flatMap pc p)) _ _ _); refine TkE.mk _ T1 rfl ?_) | ((with_reducible show TkE (List.drop _ (List.flatMap pc q)) _ _ _); refine TkE.mk _ T2 rfl ?_) | ((with_reducible show TkE (fa pO _) _ _ _); refine TkE.mk _ T3 rfl ?_) | refine Cd.mk E1 ?_ | refine an.go _ _ ⟨.inl rfl, rfl, rfl, az _ _ _ _ _ _ rfl⟩ ?_ | refine rgE ?_ | refine Cd.mk rfl ?_ | ((with_reducible refine EqE.idW ?_); first | refine EqE.mk (((i + k : Nat)) : Int) ((aj (by omega) (by omega)).trans (by omega)) ?_ | with_reducible refine EqE.mk _ (ax _ (by omega)) ?_) | ((with_reducible refine EqE.idS ?_); ((with_reducible show EqE (setAt (fa pO _) _ _) _); refine EqE.mk _ S1 ?_)) | refine Cd.os ?_)
    exact ⟨_, ⟨k + 1, _, rfl, by omega, vs.trans hV.symm, rfl, rfl⟩, by omega⟩
  ·have e : k = q.length := by omega
   rw [e, ← mst] at hout
   repeat' ((conv => whnf); first | ((with_reducible refine Br.b4 ?hpp ?_); case hpp => first | omega | (dsimp only; omega)) | refine an.go _ _ ⟨.inl rfl, rfl, rfl, az _ _ _ _ _ _ rfl⟩ ?_ | refine rgE ?_ | refine Cd.mk rfl ?_ | ((with_reducible refine EqE.idW ?_); with_reducible refine EqE.mk _ (ax _ (by omega)) ?_))
   exact ⟨_, ⟨i + 1, out, rfl, by omega, hout, rfl, rfl⟩, by omega⟩
 ·have e : i = p.length := by omega
  rw [e] at hout
  have st := st out hout
  repeat' ((conv => whnf); first | with_reducible refine ag.data ?_ | ((with_reducible refine Br.b4 ?hpp ?_); case hpp => first | omega | (dsimp only; omega)) | refine aa.mk _ _ (st) ?_ | ((with_reducible show DsE (fa pO _) _); refine DsE.mk (List.flatMap pO _) rfl ?_) | refine rgE ?_ | refine Cd.mk rfl ?_ | refine Res.mk ?_ | ((with_reducible refine EqE.idL ?_); refine EqE.mk _ rfl ?_))
  rfl
end Go.Ev.Ar

namespace Go.Ev.Ar
open Go Go.Ev Go.Proofs
def plO (p : List (Option Cq)) : D := .slice p.length (p.flatMap pO)
theorem asd : ∀ p : List Cq, p.flatMap pc = (p.map some).flatMap pO
 | [] => rfl
 | c :: p => by rw [List.flatMap_cons, asd p, List.map_cons, List.flatMap_cons] <;> rfl
theorem ac8 (p : List Cq) : pl p = plO (p.map some) := by unfold pl plO; rw [asd, List.length_map]
theorem jr (p : List Cq) : (p.map some).map vO = p := by
 rw [List.map_map]
 induction p with
 | nil => rfl
 | cons c p ih => rw [List.map_cons, ih] <;> rfl
theorem ajq {S : Imm} {w : World} {p : List (Option Cq)} {v : Value} (h : DR S w (plO p) v) : DR S w (pl (p.map vO)) v := by
 have := ahy h
 unfold pl
 rw [rk, ← akz]; exact this
theorem a1r {P : Program} {G : bb} {fr : Bool} {f : FuncId} {p : List (Option Cq)} {r : D} (h : Sim P G fr f [pl (p.map vO)] r) : Sim P G fr f [plO p] r :=
 ahe h fun S w vs g => by
  simp only [DRs] at g ⊢
  obtain ⟨u, us, e, g1, g2⟩ := g
  exact ⟨u, us, e, ajq g1, g2⟩
theorem ae4 {P : Program} {G : bb} {fr : Bool} {f : FuncId} {p q : List (Option Cq)} {r : D} (h : Sim P G fr f [pl (p.map vO), pl (q.map vO)] r) : Sim P G fr f [plO p, plO q] r :=
 ahe h fun S w vs g => by
  simp only [DRs] at g ⊢
  obtain ⟨u, us, e, g1, u', us', e', g2, g3⟩ := g
  exact ⟨u, us, e, ajq g1, u', us', e', ajq g2, g3⟩
def plc (p : List (Option Cq)) : List D := [plO p]
theorem vu (p : List (Option Cq)) : (plc p).length = 1 := rfl
def lvO (ls : List (List (Option Cq))) : List (List Cq) := ls.map (List.map vO)
theorem akn {ls : List (List (Option Cq))} {j : Nat} : (lvO ls).getD j [] = (ls.getD j []).map vO := by
 unfold lvO
 rw [List.getD_eq_getElem?_getD, List.getElem?_map, List.getD_eq_getElem?_getD]
 cases ls[j]? <;> rfl
theorem ar0 (ls : List (List (Option Cq))) : (lvO ls).length = ls.length := by simp [lvO]
theorem arz (ls : List (List (Option Cq))) (p : List (Option Cq)) : lvO (ls ++ [p]) = lvO ls ++ [p.map vO] := by simp [lvO]
theorem xv {ls : List (List (Option Cq))} {a : Int} (h0 : 0 ≤ a) (h1 : a.toNat < ls.length) : (fa plc ls)[0 + a.toNat * 1]? = some (.d (plO (ls.getD a.toNat []))) := by
 have := tv (f := plc) (k := 1) vu [] ls a.toNat h1
 rw [show ((a.toNat : Nat) : Int) = a by omega] at this
 have e := congrArg (fun l => l[0]?) this
 have e : (List.take 1 (List.drop (0 + a.toNat * 1) (fa plc ls)))[0]? = some (.d (plO (ls.getD a.toNat []))) := e
 rw [List.getElem?_take, if_pos (by decide), List.getElem?_drop] at e
 exact e
theorem y7 (ls : List (List (Option Cq))) (p : List (Option Cq)) : fa plc ls ++ [.d (plO p)] = fa plc (ls ++ [p]) := by
 unfold fa; rw [List.flatMap_append, List.map_append] <;> rfl
def poR (o : Option (List (List Cq))) : D := match o with
 | some ls => .tup [pl (ls.getD (ls.length - 1) []), .bool true]
 | none => .tup [.slice 0 [], .bool false]
end Go.Ev.Ar
