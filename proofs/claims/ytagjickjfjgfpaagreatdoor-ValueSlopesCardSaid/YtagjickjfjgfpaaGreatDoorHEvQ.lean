/- Contracts of the given functions, on data. Conditions stand in each theorem. -/
import Derived.Test.YtagjickjfjgfpaaGreatDoorHEvO
set_option linter.unusedSimpArgs false
set_option linter.unusedVariables false
namespace Go.Ev
open Go
abbrev Hp := List (Nat × Bool × List A)
def St.mem (h : Hp) : St := ⟨0, [], h⟩
def aor : Act := { tmps := #[], defers := [] }
mutual
def A.jk (ks : List Nat) : A → Bool
 | .ptr b _ => ks.contains b
 | .own b _ _ _ => ks.contains b
 | .agg l => A.a6 ks l
 | .fn _ l => A.a6 ks l
 | _ => true
def A.a6 (ks : List Nat) : List A → Bool
 | [] => true
 | x :: l => x.jk ks && A.a6 ks l
end
@[simp] theorem A.dd (ks : List Nat) : ∀ l : List D, A.a6 ks (l.map A.d) = true
 | [] => rfl
 | x :: l => by simp [A.a6, A.jk, A.dd ks l]
theorem l6 {ks : List Nat} : ∀ {l : List A}, A.a6 ks l = true → ∀ {j : Nat} {x : A}, l[j]? = some x → x.jk ks = true
 | [], _, j, x, h => by simp at h
 | y :: l, h, 0, x, hx => by
  simp only [A.a6, Bool.and_eq_true] at h
  simp at hx; subst hx; exact h.1
 | y :: l, h, j + 1, x, hx => by
  simp only [A.a6, Bool.and_eq_true] at h
  exact l6 h.2 (j := j) (by simpa using hx)
structure ji (P : Program) (G : bb) (f : FuncId) (args : List A) (hin : Hp) (r : A) (hout : Hp) : Prop where
 can : ju P f = true
 refArgs : A.a6 (hin.map (·.1)) args = true
 refIn : ∀ x ∈ hin, A.a6 (hin.map (·.1)) x.2.2 = true
 refRes : r.jk (hout.map (·.1)) = true
 refOut : ∀ x ∈ hout, A.a6 (hout.map (·.1)) x.2.2 = true
 run : ∀ (S : Imm) (w : World) (β : Own) (vs : List Value), Rel G w β S (St.mem hin) aor w β S → ARs β S w args vs →
  Calls P f vs.toArray w fun e w' => ∃ v β' S', e = .returned v ∧ Rel G w β S (St.mem hout) aor w' β' S' ∧ AR β' S' w' r v
def rn (ρ : List (Nat × Nat)) (b : Nat) : Nat := (lk ρ b).getD b
mutual
def A.ren (ρ : List (Nat × Nat)) : A → A
 | .ptr b o => .ptr (rn ρ b) o
 | .own b o n s => .own (rn ρ b) o n s
 | .agg l => .agg (A.vw ρ l)
 | .fn f l => .fn f (A.vw ρ l)
 | x => x
def A.vw (ρ : List (Nat × Nat)) : List A → List A
 | [] => []
 | x :: l => x.ren ρ :: A.vw ρ l
end
@[simp] theorem A.xz (ρ : List (Nat × Nat)) : ∀ l : List D, A.vw ρ (l.map A.d) = l.map A.d
 | [] => rfl
 | x :: l => by simp [A.vw, A.ren, A.xz ρ l]
theorem ze (ρ : List (Nat × Nat)) : ∀ l : List A, A.vw ρ l = l.map (A.ren ρ)
 | [] => rfl
 | x :: l => by simp [A.vw, ze ρ l]
mutual
theorem ae8 {β β' : Own} {S : Imm} {w : World} {ρ : List (Nat × Nat)} {ks : List Nat} (h : ∀ b, ks.contains b = true → β' (rn ρ b) = β b) : ∀ {x : A} {v : Value}, x.jk ks = true → (AR β S w x v ↔ AR β' S w (x.ren ρ) v)
 | .d x, v, _ => by simp only [A.ren, AR]
 | .elem x, v, _ => by simp only [A.ren, AR]
 | .ptr b o, v, hr => by
  simp only [A.jk] at hr
  simp only [A.ren, AR, h b hr]
 | .own b o n s, v, hr => by
  simp only [A.jk] at hr
  simp only [A.ren, AR, h b hr]
 | .agg l, v, hr => by
  simp only [A.jk] at hr
  simp only [A.ren, AR]
  constructor
  ·rintro ⟨vs, h1, h2⟩; exact ⟨vs, h1, (yi h hr).1 h2⟩
  ·rintro ⟨vs, h1, h2⟩; exact ⟨vs, h1, (yi h hr).2 h2⟩
 | .fn f l, v, hr => by
  simp only [A.jk] at hr
  simp only [A.ren, AR]
  constructor
  ·rintro ⟨vs, h1, h2⟩; exact ⟨vs, h1, (yi h hr).1 h2⟩
  ·rintro ⟨vs, h1, h2⟩; exact ⟨vs, h1, (yi h hr).2 h2⟩
theorem yi {β β' : Own} {S : Imm} {w : World} {ρ : List (Nat × Nat)} {ks : List Nat} (h : ∀ b, ks.contains b = true → β' (rn ρ b) = β b) : ∀ {l : List A} {vs : List Value}, A.a6 ks l = true → (ARs β S w l vs ↔ ARs β' S w (A.vw ρ l) vs)
 | [], vs, _ => by simp only [A.vw, ARs]
 | x :: l, vs, hr => by
  simp only [A.a6, Bool.and_eq_true] at hr
  simp only [A.vw, ARs]
  constructor
  ·rintro ⟨u, us, h1, h2, h3⟩; exact ⟨u, us, h1, (ae8 h hr.1).1 h2, (yi h hr.2).1 h3⟩
  ·rintro ⟨u, us, h1, h2, h3⟩; exact ⟨u, us, h1, (ae8 h hr.1).2 h2, (yi h hr.2).2 h3⟩
end
mutual
def A.kl (mv : List Nat) : A → A
 | .ptr b o => if mv.contains b then .d .any else .ptr b o
 | .own b o n s => if mv.contains b then .d .any else .own b o n s
 | .agg l => .agg (A.kls mv l)
 | .fn f l => .fn f (A.kls mv l)
 | x => x
def A.kls (mv : List Nat) : List A → List A
 | [] => []
 | x :: l => x.kl mv :: A.kls mv l
end
mutual
theorem ave {β β' : Own} {S : Imm} {w : World} {mv : List Nat} (h : ∀ b, mv.contains b = false → β' b = β b) : ∀ {x : A} {v : Value}, AR β S w x v → AR β' S w (x.kl mv) v
 | .d x, v, hx => by simpa only [A.kl, AR] using hx
 | .elem x, v, hx => by simpa only [A.kl, AR] using hx
 | .ptr b o, v, hx => by
  simp only [A.kl]
  split
  ·simp only [AR, DR]
  ·rename_i hb
   simp only [AR, h b (by simpa using hb)] at hx ⊢; exact hx
 | .own b o n s, v, hx => by
  simp only [A.kl]
  split
  ·simp only [AR, DR]
  ·rename_i hb
   simp only [AR, h b (by simpa using hb)] at hx ⊢; exact hx
 | .agg l, v, hx => by
  simp only [A.kl, AR] at hx ⊢
  obtain ⟨vs, h1, h2⟩ := hx
  exact ⟨vs, h1, aom h h2⟩
 | .fn f l, v, hx => by
  simp only [A.kl, AR] at hx ⊢
  obtain ⟨vs, h1, h2⟩ := hx
  exact ⟨vs, h1, aom h h2⟩
theorem aom {β β' : Own} {S : Imm} {w : World} {mv : List Nat} (h : ∀ b, mv.contains b = false → β' b = β b) : ∀ {l : List A} {vs : List Value}, ARs β S w l vs → ARs β' S w (A.kls mv l) vs
 | [], vs, hx => by simpa only [A.kls, ARs] using hx
 | x :: l, vs, hx => by
  simp only [A.kls, ARs] at hx ⊢
  obtain ⟨u, us, h1, h2, h3⟩ := hx
  exact ⟨u, us, h1, ave h h2, aom h h3⟩
end
theorem api (mv : List Nat) : ∀ l : List A, A.kls mv l = l.map (A.kl mv)
 | [] => rfl
 | x :: l => by simp [A.kls, api mv l]
theorem aes (mv : List Nat) : ∀ l : List D, A.kls mv (l.map A.d) = l.map A.d
 | [] => rfl
 | x :: l => by simp [A.kls, A.kl, aes mv l]
def klE (mv : List Nat) (env : List (Nat × A)) : List (Nat × A) := match mv with
 | [] => env
 | mv => env.map fun x => (x.1, x.2.kl mv)
def klH (mv : List Nat) (h : Hp) : Hp := match mv with
 | [] => h
 | mv => h.map fun x => (x.1, x.2.1, A.kls mv x.2.2)
theorem agc (x : A) : x.kl [] = x := by
 match x with
 | .d _ => rfl
 | .elem _ => rfl
 | .ptr _ _ => rfl
 | .own _ _ _ _ => rfl
 | .agg l => rw [A.kl, kls_nil l]
 | .fn f l => rw [A.kl, kls_nil l]
where kls_nil : ∀ l : List A, A.kls [] l = l
 | [] => rfl
 | x :: l => by rw [A.kls, agc x, kls_nil l]
theorem akh (mv : List Nat) (env : List (Nat × A)) (t : Nat) : lk (klE mv env) t = (lk env t).map (A.kl mv) := by
 cases mv with
 | nil =>
  show lk env t = _
  rw [show A.kl [] = id from funext agc, Option.map_id]; rfl
 | cons b mv =>
  show lk (env.map fun x => (x.1, x.2.kl (b :: mv))) t = _
  induction env with
  | nil => rfl
  | cons y env ih =>
   obtain ⟨k, y⟩ := y
   simp only [List.map_cons, lk]
   split
   ·rfl
   ·exact ih
theorem aph (mv : List Nat) (h : Hp) (t : Nat) : lk (klH mv h) t = (lk h t).map fun x => (x.1, A.kls mv x.2) := by
 cases mv with
 | nil =>
  show lk h t = _
  rw [show (fun x : Bool × List A => (x.1, A.kls [] x.2)) = id from funext fun x => by rw [agc.kls_nil]; rfl, Option.map_id]; rfl
 | cons b mv =>
  show lk (h.map fun x => (x.1, x.2.1, A.kls (b :: mv) x.2.2)) t = _
  induction h with
  | nil => rfl
  | cons y h ih =>
   obtain ⟨k, y⟩ := y
   simp only [List.map_cons, lk]
   split
   ·rfl
   ·exact ih
inductive jt (hp : Nat → Option (Bool × List A)) (ρ : List (Nat × Nat)) : List A → List A → List Nat → Prop where
 | nil : jt hp ρ [] [] []
 | data {x : D} {a : A} {b1 bs : List Nat} {cs as : List A} (h : ma hp a fun y b => y = x ∧ b = b1) (t : jt hp ρ cs as bs) : jt hp ρ (.d x :: cs) (a :: as) (b1 ++ bs)
 | own {c a : A} {bs : List Nat} {cs as : List A} (h : a = c.ren ρ) (t : jt hp ρ cs as bs) : jt hp ρ (c :: cs) (a :: as) bs
def s9 (heap : Hp) (ρ : List (Nat × Nat)) : Hp → Prop
 | [] => True
 | (b, f, l) :: h => (lk heap (rn ρ b) = some (false, A.vw ρ l) ∧ f = false) ∧ s9 heap ρ h
theorem s9.get {heap : Hp} {ρ : List (Nat × Nat)} : ∀ {h : Hp}, s9 heap ρ h → ∀ {b : Nat} {fr : Bool} {l : List A}, lk h b = some (fr, l) → lk heap (rn ρ b) = some (false, A.vw ρ l) ∧ fr = false
 | [], _, b, fr, l, hl => by simp [lk] at hl
 | (c, f, m) :: h, hi, b, fr, l, hl => by
  simp only [lk] at hl
  split at hl
  ·rename_i e
   subst e
   cases hl
   exact hi.1
  ·exact s9.get hi.2 hl
def gu : List Nat → Bool
 | [] => true
 | x :: l => !l.contains x && gu l
def wh (ρ ν : List (Nat × Nat)) (heap : Hp) (kin kout : List Nat) : Bool :=
 gu ((ρ ++ ν).map (·.1)) && gu ((ρ ++ ν).map (·.2)) && (kin.all fun b => (ρ.map (·.1)).contains b) && ((ρ.map (·.1)).all fun b => kin.contains b) &&
 (kout.all fun b => ((ρ ++ ν).map (·.1)).contains b) && (((ρ ++ ν).map (·.1)).all fun b => kout.contains b) && gu kout &&
 (ρ.all fun x => Nat.ble 1000000 x.1 && (Nat.blt x.1 2000000 || Nat.blt x.2 1000000 || Nat.ble 2000000 x.2)) && (ν.all fun x => (Nat.blt x.2 1000000 || Nat.ble 2000000 x.2) && (lk heap x.2).isNone)
def ja (ρ : List (Nat × Nat)) : List Nat := (ρ.filter fun x => Nat.ble 2000000 x.1).map (·.2)
def aab (h : Hp) : List Nat → Hp
 | [] => h
 | bs => h.map fun x => (x.1, x.2.1 || bs.contains x.1, x.2.2)
def aaj (ρ : List (Nat × Nat)) (h : Hp) : Hp := h.map fun x => (rn ρ x.1, x.2.1, A.vw ρ x.2.2)
def m8 (cs : List Nat) (h : Hp) : Hp := h.filter fun x => !cs.contains x.1
inductive jl (P : Program) (G : bb) (n : Nat) (env : List (Nat × A)) (heap : Hp) (f : FuncId) (xs : List A) (K : A → St → Prop) : Prop where
 | mk {args : List A} {hin : Hp} {r : A} {hout : Hp} (hs : ji P G f args hin r hout) (ρ ν : List (Nat × Nat)) (rR : A) (houtR : Hp) (bs : List Nat)
  (ha : jt (lk heap) ρ args xs bs) (hi : s9 (aab heap bs) ρ hin) (hc : wh ρ ν heap (hin.map (·.1)) (hout.map (·.1)) = true)
  (hr : r.ren (ρ ++ ν) = rR) (ho : aaj (ρ ++ ν) hout = houtR)
  (k : K rR ⟨n, klE (ja ρ) env, houtR ++ m8 ((ρ ++ ν).map (·.2)) (klH (ja ρ) (aab heap bs))⟩)
theorem oq {l : List (Nat × Nat)} (h : gu (l.map (·.1)) = true) {b c : Nat} (hm : (b, c) ∈ l) : lk l b = some c := by
 induction l with
 | nil => cases hm
 | cons x l ih =>
  obtain ⟨k, y⟩ := x
  simp only [List.map_cons, gu, Bool.and_eq_true, Bool.not_eq_true'] at h
  simp only [lk]
  rcases List.mem_cons.1 hm with e | hm
  ·cases e; rw [if_pos rfl]
  ·rw [if_neg, ih h.2 hm]
   rintro rfl
   have : (l.map (·.1)).contains k = true := by simpa using ⟨c, hm⟩
   rw [this] at h; cases h.1
theorem aix {l : List (Nat × Nat)} (h : gu (l.map (·.2)) = true) {b b' c : Nat} (hm : (b, c) ∈ l) (hm' : (b', c) ∈ l) : b = b' := by
 induction l with
 | nil => cases hm
 | cons x l ih =>
  obtain ⟨k, y⟩ := x
  simp only [List.map_cons, gu, Bool.and_eq_true, Bool.not_eq_true'] at h
  have hno : ∀ b, (b, y) ∈ l → False := fun b hb => by
   have : (l.map (·.2)).contains y = true := by simpa using ⟨b, hb⟩
   rw [this] at h; cases h.1
  rcases List.mem_cons.1 hm with e | h3 <;> rcases List.mem_cons.1 hm' with e' | h4
  ·cases e; cases e'; rfl
  ·cases e; exact (hno _ h4).elim
  ·cases e'; exact (hno _ h3).elim
  ·exact ih h.2 h3 h4
theorem lh {α : Type} : ∀ {l : List (Nat × α)} {b : Nat} {c : α}, lk l b = some c → (b, c) ∈ l
 | [], b, c, h => by simp [lk] at h
 | (k, y) :: l, b, c, h => by
  simp only [lk] at h
  split at h
  ·rename_i e; subst e; cases h; simp
  ·exact List.mem_cons_of_mem _ (lh h)
theorem j6 {α : Type} : ∀ {l : List (Nat × α)} {b : Nat}, b ∈ l.map (·.1) → ∃ x, lk l b = some x
 | [], b, h => by simp at h
 | (k, y) :: l, b, h => by
  simp only [lk]
  split
  ·exact ⟨y, rfl⟩
  ·rename_i hne
   simp only [List.map_cons, List.mem_cons] at h
   exact j6 (h.resolve_left fun e => hne e.symm)
theorem aqf {l : List (Nat × Nat)} (h : gu (l.map (·.1)) = true) {b c : Nat} (hm : (b, c) ∈ l) : rn l b = c := by unfold rn; rw [oq h hm]; rfl
theorem acy {l : List (Nat × Nat)} {b : Nat} (hm : b ∈ l.map (·.1)) : (b, rn l b) ∈ l := by
 obtain ⟨c, hc⟩ := j6 hm
 unfold rn; rw [hc]; exact lh hc
theorem aez {ρ : List (Nat × Nat)} (h1 : gu (ρ.map (·.1)) = true) (h2 : gu (ρ.map (·.2)) = true) : ∀ {h : Hp}, (∀ x ∈ h, x.1 ∈ ρ.map (·.1)) → ∀ {b c : Nat}, (b, c) ∈ ρ → lk (aaj ρ h) c = (lk h b).map fun x => (x.1, A.vw ρ x.2)
 | [], _, b, c, hm => rfl
 | (k, f, l) :: h, hk, b, c, hm => by
  have ih := aez h1 h2 (h := h) (fun x hx => hk x (List.mem_cons_of_mem _ hx)) hm
  simp only [aaj, List.map_cons, lk] at ih ⊢
  by_cases e : k = b
  ·subst e
   rw [if_pos rfl, if_pos (aqf h1 hm)]; rfl
  ·rw [if_neg e, if_neg]
   ·exact ih
   ·intro e2
    have hmk := acy (hk (k, f, l) (by simp))
    rw [e2] at hmk
    exact e (aix h2 hmk hm)
theorem zd {ρ : List (Nat × Nat)} : ∀ {h : Hp}, (∀ x ∈ h, x.1 ∈ ρ.map (·.1)) → ∀ {c : Nat}, c ∉ ρ.map (·.2) → lk (aaj ρ h) c = none
 | [], _, c, _ => rfl
 | (k, f, l) :: h, hk, c, hm => by
  have ih := zd (h := h) (fun x hx => hk x (List.mem_cons_of_mem _ hx)) hm
  simp only [aaj, List.map_cons, lk] at ih ⊢
  rw [if_neg]
  ·exact ih
  ·intro e
   have hmk := acy (hk (k, f, l) (by simp))
   rw [e] at hmk
   exact hm (List.mem_map.2 ⟨_, hmk, rfl⟩)
theorem akm {α : Type} : ∀ (a b : List (Nat × α)) (t : Nat), lk (a ++ b) t = (lk a t).or (lk b t)
 | [], b, t => rfl
 | (k, y) :: a, b, t => by
  simp only [List.cons_append, lk]
  split
  ·rfl
  ·exact akm a b t
theorem xh (cs : List Nat) : ∀ (h : Hp) (t : Nat), lk (m8 cs h) t = if cs.contains t then none else lk h t
 | [], t => by simp [m8, lk]
 | (k, y) :: h, t => by
  have ih := xh cs h t
  simp only [m8, List.filter_cons, lk] at ih ⊢
  cases hk : cs.contains k with
  | true =>
   simp only [Bool.not_true, Bool.false_eq_true, if_false]
   rw [ih]
   by_cases e : k = t
   ·subst e; rw [if_pos hk, if_pos hk]
   ·rw [if_neg e]
  | false =>
   simp only [Bool.not_false, if_true, lk]
   by_cases e : k = t
   ·subst e; rw [if_pos rfl, if_pos rfl, if_neg (by rw [hk]; simp)]
   ·rw [if_neg e, if_neg e]; exact ih
theorem aro (n : Nat) (env : List (Nat × A)) (heap : Hp) (bs : List Nat) : St.freeze ⟨n, env, heap⟩ bs = ⟨n, env, aab heap bs⟩ := by cases bs <;> rfl
section
variable {P : Program} {G : bb} {T : Tab} {w0 : World} {M : Own} {S0 : Imm} {σ : St} {a : Act} {w w' : World} {β : Own} {S : Imm}
theorem xa (h : Rel G w0 M S0 σ a w β S) {ρ : List (Nat × Nat)} {βc : Own} {ks : List Nat} (hβ : ∀ b, ks.contains b = true → β (rn ρ b) = βc b) : ∀ {cs as : List A} {bs : List Nat} {vs : List Value}, jt σ.hp ρ cs as bs → A.a6 ks cs = true → ARs β S w as vs →
  (∀ b ∈ bs, ∃ (fr : Bool) (l : List D), σ.hp b = some (fr, l.map A.d)) ∧ ∀ bs', (∀ b ∈ bs, b ∈ bs') → ARs βc (nk β σ bs' S) w cs vs
 | _, _, _, vs, .nil, _, hx => by
  simp only [ARs] at hx
  subst hx
  exact ⟨by simp, fun _ _ => rfl⟩
 | _, _, _, vs, .data h1 ht, hr, hx => by
  simp only [ARs] at hx
  obtain ⟨u, us, rfl, hx1, hx2⟩ := hx
  simp only [A.a6, Bool.and_eq_true] at hr
  obtain ⟨d, bs1, ⟨rfl, rfl⟩, hb1, hd⟩ := ob h h1 hx1
  obtain ⟨hb2, hds⟩ := xa h hβ ht hr.2 hx2
  refine ⟨fun b hb => ?_, fun bs' hbs => ⟨u, us, rfl, by simp only [AR]; exact hd bs' fun b hb => hbs b (by simp [hb]), hds bs' fun b hb => hbs b (by simp [hb])⟩⟩
  rcases List.mem_append.1 hb with hb | hb
  ·exact hb1 b hb
  ·exact hb2 b hb
 | _, _, _, vs, .own h1 ht, hr, hx => by
  simp only [ARs] at hx
  obtain ⟨u, us, rfl, hx1, hx2⟩ := hx
  simp only [A.a6, Bool.and_eq_true] at hr
  subst h1
  obtain ⟨hb2, hds⟩ := xa h hβ ht hr.2 hx2
  refine ⟨hb2, fun bs' hbs => ⟨u, us, rfl, ?_, hds bs' hbs⟩⟩
  exact AR.mono (fun _ _ h => h) (acp bs') (fun _ _ _ => rfl) (fun k C Tc fr hk => ⟨C, hk, rfl⟩) ((ae8 hβ hr.1).2 hx1)
theorem Rel.only (h : Rel G w0 M S0 σ a w β S) : Rel G w0 M S0 (St.mem σ.heap) aor w β S :=
 { defers := rfl, size := rfl, env := fun t x hx => by simp [St.mem, lk] at hx, glob := h.glob, keys := h.keys, rd := h.rd, live := h.live, froz := h.froz, fd := h.fd, nilb := h.nilb, inj := h.inj, imm := h.imm, old := h.old, ext := h.ext, stay := h.stay, small := Nat.zero_le _, src := h.src }
theorem Rel.hand (h : Rel G w0 M S0 σ a w β S) {ρ : List (Nat × Nat)} {hin : Hp} {βc : Own} (hβ : βc = fun b => match lk ρ b with | some c => β c | none => none)
  (h1 : gu (ρ.map (·.1)) = true) (h2 : gu (ρ.map (·.2)) = true) (hk1 : ∀ b ∈ hin.map (·.1), b ∈ ρ.map (·.1)) (hk2 : ∀ b ∈ ρ.map (·.1), b ∈ hin.map (·.1))
  (hi : s9 σ.heap ρ hin) (href : ∀ x ∈ hin, A.a6 (hin.map (·.1)) x.2.2 = true) : Rel G w βc S (St.mem hin) aor w βc S := by
 have hβρ : ∀ b, (hin.map (·.1)).contains b = true → β (rn ρ b) = βc b := by
  intro b hb
  have hm := acy (hk1 b (by simpa using hb))
  rw [hβ]
  simp only [oq h1 hm]
 have hlk : ∀ b x, lk hin b = some x → b ∈ hin.map (·.1) := fun b x hx => List.mem_map.2 ⟨_, lh hx, rfl⟩
 have hof : ∀ b k, βc b = some k → (b, rn ρ b) ∈ ρ ∧ β (rn ρ b) = some k := by
  intro b k hb
  rw [hβ] at hb
  simp only at hb
  split at hb
  ·rename_i c hc
   have hm := lh hc
   rw [aqf h1 hm]
   exact ⟨hm, hb⟩
  ·cases hb
 refine { defers := rfl, size := rfl, env := fun t x hx => by simp [St.mem, lk] at hx, glob := h.glob, keys := ?_, rd := ?_, live := ?_, froz := ?_, fd := ?_, nilb := ?_, inj := ?_, imm := h.imm, old := fun _ _ h _ => .inl h, ext := ⟨rfl, rfl, rfl, Nat.le_refl _, fun _ _ _ => rfl, fun k C Tc fr hk => ⟨C, hk, rfl⟩⟩, stay := fun _ _ _ _ => rfl, small := Nat.zero_le _, src := fun b _ hb => .inr ⟨b, hb⟩ }
 ·intro b hb
  obtain ⟨k, hk⟩ := Option.ne_none_iff_exists'.1 hb
  obtain ⟨x, hx⟩ := j6 (hk2 b (List.mem_map.2 ⟨_, (hof b k hk).1, rfl⟩))
  show lk hin b ≠ none
  rw [hx]; simp
 ·intro b k fr l hb hl
  obtain ⟨hl1, _⟩ := hi.get hl
  obtain ⟨C, Tc, hC, hlen, hcell⟩ := h.rd _ k _ _ (hof b _ hb).2 hl1
  rw [ze, List.length_map] at hlen
  refine ⟨C, Tc, hC, hlen, fun j x hx => ?_⟩
  obtain ⟨u, hu, hR⟩ := hcell j (x.ren ρ) (by rw [ze, List.getElem?_map, hx]; rfl)
  exact ⟨u, hu, (ae8 hβρ (l6 (href _ (lh hl)) hx)).2 hR⟩
 ·intro b k l hb hl
  obtain ⟨hl1, _⟩ := hi.get hl
  exact ⟨(h.live _ k _ (hof b _ hb).2 hl1).1, .inr ⟨b, hb⟩⟩
 ·intro b k l hb hl
  cases (hi.get hl).2
 ·intro b l hl
  cases (hi.get hl).2
 ·intro b fr l hb hl
  obtain ⟨hl1, _⟩ := hi.get hl
  have := h.nilb _ _ _ (hof b _ hb).2 hl1
  rw [ze, List.map_eq_nil_iff] at this
  exact this
 ·intro b b' k hb hb'
  have e := h.inj _ _ _ (hof b _ hb).2 (hof b' _ hb').2
  have hm := (hof b _ hb).1
  rw [e] at hm
  exact aix h2 hm (hof b' _ hb').1
theorem Rel.back (h : Rel G w0 M S0 σ a w β S) {ρ ν : List (Nat × Nat)} {hin hout : Hp} {βc βo : Own} {S' : Imm} (hβ : βc = fun b => match lk ρ b with | some c => β c | none => none)
  (hok : wh ρ ν σ.heap (hin.map (·.1)) (hout.map (·.1)) = true) (hi : s9 σ.heap ρ hin) (href : ∀ x ∈ hout, A.a6 (hout.map (·.1)) x.2.2 = true)
  (hc : Rel G w βc S (St.mem hout) aor w' βo S') :
  ∃ β2 S2, Rel G w0 M S0 ⟨σ.n, klE (ja ρ) σ.env, aaj (ρ ++ ν) hout ++ m8 ((ρ ++ ν).map (·.2)) (klH (ja ρ) σ.heap)⟩ a w' β2 S2 ∧ (∀ x v, x.jk (hout.map (·.1)) = true → AR βo S' w' x v → AR β2 S2 w' (x.ren (ρ ++ ν)) v) := by
 simp only [wh, Bool.and_eq_true, List.all_eq_true] at hok
 obtain ⟨⟨⟨⟨⟨⟨⟨⟨n1, n2⟩, k1⟩, k2⟩, k3⟩, k4⟩, n3⟩, g1⟩, g2⟩ := hok
 have k1 : ∀ b ∈ hin.map (·.1), b ∈ ρ.map (·.1) := fun b hb => by simpa using k1 b hb
 have k2 : ∀ b ∈ ρ.map (·.1), b ∈ hin.map (·.1) := fun b hb => by simpa using k2 b hb
 have k3 : ∀ b ∈ hout.map (·.1), b ∈ (ρ ++ ν).map (·.1) := fun b hb => by simpa using k3 b hb
 have k4 : ∀ b ∈ (ρ ++ ν).map (·.1), b ∈ hout.map (·.1) := fun b hb => by simpa using k4 b hb
 have k3' : ∀ x ∈ hout, x.1 ∈ (ρ ++ ν).map (·.1) := fun x hx => k3 _ (List.mem_map.2 ⟨x, hx, rfl⟩)
 -- the keys of ρ
 have m1 : ∀ b c, (b, c) ∈ ρ → (b, c) ∈ ρ ++ ν := fun b c h => List.mem_append_left _ h
 have lkρ : ∀ b c, (b, c) ∈ ρ → lk ρ b = some c := by
  intro b c hm
  obtain ⟨c', hc'⟩ := j6 (l := ρ) (List.mem_map.2 ⟨_, hm, rfl⟩)
  have := lh hc'
  have e1 := oq n1 (m1 _ _ hm)
  have e2 := oq n1 (m1 _ _ this)
  rw [e1] at e2; cases e2; exact hc'
 have hβc : ∀ b c, (b, c) ∈ ρ → βc b = β c := by
  intro b c hm
  rw [hβ]
  simp only [lkρ b c hm]
 have hβc2 : ∀ b k, βc b = some k → ∃ c, (b, c) ∈ ρ ∧ β c = some k := by
  intro b k hb
  rw [hβ] at hb
  simp only at hb
  split at hb
  ·rename_i c hc
   exact ⟨c, lh hc, hb⟩
  ·cases hb
 have hat : ∀ k, βc.at k → ∃ b c, (b, c) ∈ ρ ∧ β c = some (some k) := fun k ⟨b, hb⟩ => let ⟨c, h1, h2⟩ := hβc2 b _ hb; ⟨b, c, h1, h2⟩
 have hinlk : ∀ b c, (b, c) ∈ ρ → ∃ l, lk hin b = some (false, l) ∧ lk σ.heap c = some (false, A.vw ρ l) := by
  intro b c hm
  obtain ⟨x, hx⟩ := j6 (k2 b (List.mem_map.2 ⟨_, hm, rfl⟩))
  obtain ⟨fr, l⟩ := x
  obtain ⟨h1, rfl⟩ := hi.get hx
  refine ⟨l, hx, ?_⟩
  have : rn ρ b = c := by unfold rn; rw [lkρ b c hm]; rfl
  rwa [this] at h1
 have hlive : ∀ b c k, (b, c) ∈ ρ → β c = some (some k) → (∀ o, ¬ S k o) ∧ (w0.heap.size ≤ k ∨ M.at k) := by
  intro b c k hm hk
  obtain ⟨l, _, h2⟩ := hinlk b c hm
  exact h.live c k _ hk h2
 have hlt : ∀ c k, β c = some (some k) → k < w.heap.size := by
  intro c k hk
  cases hl : lk σ.heap c with
  | none => exact absurd hl (h.keys c (by rw [hk]; simp))
  | some x =>
   obtain ⟨fr, l⟩ := x
   obtain ⟨C, Tc, hC, _⟩ := h.rd c k fr l hk hl
   exact fp hC
 -- the new map
 let inv : List (Nat × Nat) := (ρ ++ ν).map fun x => (x.2, x.1)
 have linv : ∀ b c, (b, c) ∈ ρ ++ ν → lk inv c = some b := by
  intro b c hm
  have : (c, b) ∈ inv := List.mem_map.2 ⟨(b, c), hm, rfl⟩
  refine oq ?_ this
  have e : inv.map (·.1) = (ρ ++ ν).map (·.2) := by simp only [inv, List.map_map]; rfl
  rw [e]; exact n2
 have linv2 : ∀ b c, lk inv c = some b → (b, c) ∈ ρ ++ ν := by
  intro b c hl
  obtain ⟨x, hx, e⟩ := List.mem_map.1 (lh hl)
  cases e; exact hx
 have linv3 : ∀ c, c ∉ (ρ ++ ν).map (·.2) → lk inv c = none := by
  intro c hc
  cases hl : lk inv c with
  | none => rfl
  | some b => exact (hc (List.mem_map.2 ⟨_, linv2 b c hl, rfl⟩)).elim
 let β2 : Own := fun c => match lk inv c with | some b => βo b | none => β c
 have β2in : ∀ b c, (b, c) ∈ ρ ++ ν → β2 c = βo b := fun b c hm => by simp only [β2, linv b c hm]
 have β2out : ∀ c, c ∉ (ρ ++ ν).map (·.2) → β2 c = β c := fun c hc => by simp only [β2, linv3 c hc]
 have β2ρ : ∀ b, (hout.map (·.1)).contains b = true → β2 (rn (ρ ++ ν) b) = βo b := by
  intro b hb
  exact β2in b _ (acy (k3 b (by simpa using hb)))
 let S2 : Imm := fun k o => S k o ∨ S' k o
 have hS : S.le S2 := fun _ _ h => .inl h
 have hS' : S'.le S2 := fun _ _ h => .inr h
 have hwsz : w.heap.size ≤ w'.heap.size := hc.ext.size
 -- what is in S does not a5m
 have hkeep : ta S w w' := by
  intro k o hk
  have hk1 := h.imm k o hk
  refine j0 (hc.ext.block k hk1 fun hM => ?_)
  obtain ⟨b, c, hm, hck⟩ := hat k hM
  exact (hlive b c k hm hck).1 o hk
 have hsh : qo w w' := hc.ext.s7
 have hmvc : ∀ c, (ja ρ).contains c = true → ∃ b, 2000000 ≤ b ∧ (b, c) ∈ ρ := by
  intro c hc
  simp only [ja, List.contains_iff_mem, List.mem_map, List.mem_filter] at hc
  obtain ⟨x, ⟨h1, h2⟩, rfl⟩ := hc
  exact ⟨x.1, Nat.le_of_ble_eq_true h2, h1⟩
 -- keys that stay
 have hstay : ∀ b c, (b, c) ∈ ρ → b < 2000000 → βo b = β c := by
  intro b c hm hb
  have h1 := Nat.le_of_ble_eq_true (by have := g1 _ hm; simp only [Bool.and_eq_true] at this; exact this.1)
  obtain ⟨x, hx⟩ := j6 (k4 b (List.mem_map.2 ⟨_, m1 _ _ hm, rfl⟩))
  rw [hc.stay b h1 hb (by show lk hout b ≠ none; rw [hx]; simp), hβc b c hm]
 have hβmv : ∀ c, (ja ρ).contains c = false → lk σ.heap c ≠ none → β2 c = β c := by
  intro c hmv hcn
  by_cases hin' : c ∈ (ρ ++ ν).map (·.2)
  ·obtain ⟨⟨b, c'⟩, hm, rfl⟩ := List.mem_map.1 hin'
   rw [β2in b c' hm]
   rcases List.mem_append.1 hm with hm | hm
   ·refine hstay b c' hm ?_
    by_cases hb : b < 2000000
    ·exact hb
    ·have : (ja ρ).contains c' = true := by
      simp only [ja, List.contains_iff_mem, List.mem_map, List.mem_filter]
      exact ⟨(b, c'), ⟨hm, Nat.ble_eq_true_of_le (by omega)⟩, rfl⟩
     rw [this] at hmv; cases hmv
   ·have := g2 _ hm
    simp only [Bool.and_eq_true] at this
    exact absurd (by simpa using this.2) hcn
  ·exact β2out c hin'
 -- what was known of a value stays known
 have hARold : ∀ x v, AR β S w x v → AR β2 S2 w' (x.kl (ja ρ)) v := by
  intro x v hx
  -- first with a map that is β2 where the key is known
  let β1 : Own := fun c => if lk σ.heap c = none then none else β c
  have e1 : β = β1 := by
   funext c
   show β c = if lk σ.heap c = none then none else β c
   split
   ·rename_i hn
    cases hb : β c with
    | none => rfl
    | some k => exact absurd hn (h.keys c (by rw [hb]; simp))
   ·rfl
  let β3 : Own := fun c => if lk σ.heap c = none then none else β2 c
  have h1 : AR β3 S w (x.kl (ja ρ)) v := by
   refine ave (β := β) (β' := β3) (fun c hmv => ?_) hx
   show (if lk σ.heap c = none then none else β2 c) = β c
   split
   ·rename_i hn
    cases hb : β c with
    | none => rfl
    | some k => exact absurd hn (h.keys c (by rw [hb]; simp))
   ·rename_i hn
    exact hβmv c hmv hn
  refine AR.mono (fun c k hck => ?_) hS hkeep hsh h1
  have : (if lk σ.heap c = none then none else β2 c) = some k := hck
  split at this
  ·cases this
  ·exact this
 have hARnew : ∀ x v, x.jk (hout.map (·.1)) = true → AR βo S' w' x v → AR β2 S2 w' (x.ren (ρ ++ ν)) v := by
  intro x v hr hx
  refine AR.mono (fun _ _ h => h) hS' (fun _ _ _ => rfl) (fun k C Tc fr hk => ⟨C, hk, rfl⟩) ((ae8 β2ρ hr).1 hx)
 -- the heap, looked into
 have hlook : ∀ c x, lk (aaj (ρ ++ ν) hout ++ m8 ((ρ ++ ν).map (·.2)) (klH (ja ρ) σ.heap)) c = some x →
   (∃ b fr l, (b, c) ∈ ρ ++ ν ∧ lk hout b = some (fr, l) ∧ x = (fr, A.vw (ρ ++ ν) l)) ∨ (c ∉ (ρ ++ ν).map (·.2) ∧ ∃ fr l, lk σ.heap c = some (fr, l) ∧ x = (fr, A.kls (ja ρ) l)) := by
  intro c x hx
  rw [akm] at hx
  by_cases hin' : c ∈ (ρ ++ ν).map (·.2)
  ·obtain ⟨⟨b, c'⟩, hm, rfl⟩ := List.mem_map.1 hin'
   rw [aez n1 n2 k3' hm, xh, if_pos (by simpa using hin')] at hx
   cases hl : lk hout b with
   | none => rw [hl] at hx; cases hx
   | some y =>
    obtain ⟨fr, l⟩ := y
    rw [hl] at hx
    cases hx
    exact .inl ⟨b, fr, l, hm, hl, rfl⟩
  ·rw [zd k3' hin', xh, if_neg (by simpa using hin'), aph] at hx
   cases hl : lk σ.heap c with
   | none => rw [hl] at hx; cases hx
   | some y =>
    obtain ⟨fr, l⟩ := y
    rw [hl] at hx
    cases hx
    exact .inr ⟨hin', fr, l, rfl, rfl⟩
 have hlook2 : ∀ c, lk (aaj (ρ ++ ν) hout ++ m8 ((ρ ++ ν).map (·.2)) (klH (ja ρ) σ.heap)) c = none → (∀ b, (b, c) ∉ ρ ++ ν) ∧ lk σ.heap c = none := by
  intro c hx
  rw [akm] at hx
  by_cases hin' : c ∈ (ρ ++ ν).map (·.2)
  ·obtain ⟨⟨b, c'⟩, hm, rfl⟩ := List.mem_map.1 hin'
   obtain ⟨y, hy⟩ := j6 (k4 b (List.mem_map.2 ⟨_, hm, rfl⟩))
   rw [aez n1 n2 k3' hm, hy] at hx
   cases hx
  ·rw [zd k3' hin', xh, if_neg (by simpa using hin'), aph] at hx
   refine ⟨fun b hb => hin' (List.mem_map.2 ⟨_, hb, rfl⟩), ?_⟩
   cases hl : lk σ.heap c with
   | none => rfl
   | some y => rw [hl] at hx; cases hx
 have hnew : ∀ b c k, (b, c) ∈ ρ ++ ν → βo b = some (some k) → w.heap.size ≤ k ∨ ∃ b' c', (b', c') ∈ ρ ∧ β c' = some (some k) := by
  intro b c k hm hk
  rcases hc.src b k hk with h1 | h1
  ·exact .inl h1
  ·exact .inr (hat k h1)
 have hfar : ∀ c k, c ∉ (ρ ++ ν).map (·.2) → β c = some (some k) → ¬ βc.at k := by
  intro c k hn hk hM
  obtain ⟨b', c', h2, h3⟩ := hat k hM
  rw [h.inj c c' k hk h3] at hn
  exact hn (List.mem_map.2 ⟨_, m1 _ _ h2, rfl⟩)
 refine ⟨β2, S2, { defers := h.defers, size := h.size, env := ?_, glob := fun g => DRL.mono hS hkeep (h.glob g), keys := ?_, rd := ?_, live := ?_, froz := ?_, fd := ?_, nilb := ?_, inj := ?_, imm := ?_, old := ?_, ext := ?_, stay := ?_, small := h.small, src := ?_ }, hARnew⟩
 ·intro t x hx
  have hx : lk (klE (ja ρ) σ.env) t = some x := hx
  rw [akh, Option.map_eq_some_iff] at hx
  obtain ⟨y, hy, rfl⟩ := hx
  exact hARold y _ (h.env t y hy)
 ·intro c hc2 e
  obtain ⟨e1, e2⟩ := hlook2 c e
  have hn : c ∉ (ρ ++ ν).map (·.2) := by
   intro hm
   obtain ⟨⟨b, c'⟩, hm2, rfl⟩ := List.mem_map.1 hm
   exact e1 b hm2
  rw [β2out c hn] at hc2
  exact h.keys c hc2 e2
 ·intro c k fr l hck hl
  rcases hlook c _ hl with ⟨b, fr', l0, hm, hl0, e⟩ | ⟨hn, fr', l0, hl0, e⟩
  ·cases e
   rw [β2in b c hm] at hck
   obtain ⟨C, Tc, hC, hlen, hcell⟩ := hc.rd b k _ _ hck hl0
   refine ⟨C, Tc, hC, by rw [ze, List.length_map]; exact hlen, fun j x hx => ?_⟩
   rw [ze, List.getElem?_map, Option.map_eq_some_iff] at hx
   obtain ⟨y, hy, rfl⟩ := hx
   obtain ⟨u, hu, hR⟩ := hcell j y hy
   exact ⟨u, hu, hARnew y u (l6 (href _ (lh hl0)) hy) hR⟩
  ·cases e
   rw [β2out c hn] at hck
   obtain ⟨C, Tc, hC, hlen, hcell⟩ := h.rd c k _ _ hck hl0
   refine ⟨C, Tc, (hc.ext.block k (fp hC) (hfar c k hn hck)).trans hC, by rw [api, List.length_map]; exact hlen, fun j x hx => ?_⟩
   rw [api, List.getElem?_map, Option.map_eq_some_iff] at hx
   obtain ⟨y, hy, rfl⟩ := hx
   obtain ⟨u, hu, hR⟩ := hcell j y hy
   exact ⟨u, hu, hARold y u hR⟩
 ·intro c k l hck hl
  rcases hlook c _ hl with ⟨b, fr', l0, hm, hl0, e⟩ | ⟨hn, fr', l0, hl0, e⟩
  ·cases e
   rw [β2in b c hm] at hck
   refine ⟨fun o ho => ?_, ?_⟩
   ·rcases ho with ho | ho
    ·rcases hnew b c k hm hck with h1 | ⟨b', c', h2, h3⟩
     ·have := h.imm k o ho; omega
     ·exact (hlive b' c' k h2 h3).1 o ho
    ·exact (hc.live b k _ hck hl0).1 o ho
   ·rcases hnew b c k hm hck with h1 | ⟨b', c', h2, h3⟩
    ·exact .inl (Nat.le_trans h.ext.size h1)
    ·exact (hlive b' c' k h2 h3).2
  ·cases e
   rw [β2out c hn] at hck
   obtain ⟨h1, h2⟩ := h.live c k _ hck hl0
   refine ⟨fun o ho => ?_, h2⟩
   rcases ho with ho | ho
   ·exact h1 o ho
   ·rcases hc.old k o ho (hlt c k hck) with h3 | h3
    ·exact h1 o h3
    ·exact hfar c k hn hck h3
 ·intro c k l hck hl
  rcases hlook c _ hl with ⟨b, fr', l0, hm, hl0, e⟩ | ⟨hn, fr', l0, hl0, e⟩
  ·cases e
   rw [β2in b c hm] at hck
   obtain ⟨ds, rfl, h2⟩ := hc.froz b k _ hck hl0
   exact ⟨ds, A.xz _ _, DRL.mono hS' (fun _ _ _ => rfl) h2⟩
  ·cases e
   rw [β2out c hn] at hck
   obtain ⟨ds, rfl, h2⟩ := h.froz c k _ hck hl0
   exact ⟨ds, aes _ _, DRL.mono hS hkeep h2⟩
 ·intro c l hl
  rcases hlook c _ hl with ⟨b, fr', l0, hm, hl0, e⟩ | ⟨hn, fr', l0, hl0, e⟩
  ·cases e
   obtain ⟨ds, rfl⟩ := hc.fd b _ hl0
   exact ⟨ds, A.xz _ _⟩
  ·cases e
   obtain ⟨ds, rfl⟩ := h.fd c _ hl0
   exact ⟨ds, aes _ _⟩
 ·intro c fr l hck hl
  rcases hlook c _ hl with ⟨b, fr', l0, hm, hl0, e⟩ | ⟨hn, fr', l0, hl0, e⟩
  ·cases e
   rw [β2in b c hm] at hck
   rw [hc.nilb b _ _ hck hl0]; rfl
  ·cases e
   rw [β2out c hn] at hck
   rw [h.nilb c _ _ hck hl0]; rfl
 ·intro c c' k hck hck'
  have key : ∀ c c', c ∈ (ρ ++ ν).map (·.2) → c' ∉ (ρ ++ ν).map (·.2) → β2 c = some (some k) → β2 c' = some (some k) → False := by
   intro c c' hi' hn hck hck'
   obtain ⟨⟨b, c2⟩, hm, rfl⟩ := List.mem_map.1 hi'
   rw [β2in b c2 hm] at hck
   rw [β2out c' hn] at hck'
   rcases hnew b c2 k hm hck with h1 | ⟨b', c3, h2, h3⟩
   ·have := hlt c' k hck'; omega
   ·rw [h.inj c' c3 k hck' h3] at hn
    exact hn (List.mem_map.2 ⟨_, m1 _ _ h2, rfl⟩)
  by_cases h1 : c ∈ (ρ ++ ν).map (·.2) <;> by_cases h2 : c' ∈ (ρ ++ ν).map (·.2)
  ·obtain ⟨⟨b, c2⟩, hm, rfl⟩ := List.mem_map.1 h1
   obtain ⟨⟨b', c3⟩, hm', rfl⟩ := List.mem_map.1 h2
   rw [β2in b c2 hm] at hck
   rw [β2in b' c3 hm'] at hck'
   obtain rfl := hc.inj b b' k hck hck'
   have e1 := oq n1 hm
   have e2 := oq n1 hm'
   rw [e1] at e2; cases e2; rfl
  ·exact (key c c' h1 h2 hck hck').elim
  ·exact (key c' c h2 h1 hck' hck).elim
  ·rw [β2out c h1] at hck
   rw [β2out c' h2] at hck'
   exact h.inj c c' k hck hck'
 ·intro k o ho
  rcases ho with ho | ho
  ·have := h.imm k o ho; omega
  ·exact hc.imm k o ho
 ·intro k o ho hk
  rcases ho with ho | ho
  ·exact h.old k o ho hk
  ·rcases hc.old k o ho (Nat.lt_of_lt_of_le hk h.ext.size) with h1 | h1
   ·exact h.old k o h1 hk
   ·obtain ⟨b', c', h2, h3⟩ := hat k h1
    rcases (hlive b' c' k h2 h3).2 with h4 | h4
    ·omega
    ·exact .inr h4
 ·refine ⟨hc.ext.os.trans h.ext.os, hc.ext.tape.trans h.ext.tape, hc.ext.output.trans h.ext.output, Nat.le_trans h.ext.size hc.ext.size, fun k hk hM => ?_, fun k C Tc fr hk => ?_⟩
  ·refine (hc.ext.block k (Nat.lt_of_lt_of_le hk h.ext.size) fun h1 => ?_).trans (h.ext.block k hk hM)
   obtain ⟨b', c', h2, h3⟩ := hat k h1
   rcases (hlive b' c' k h2 h3).2 with h4 | h4
   ·omega
   ·exact hM h4
  ·obtain ⟨C1, h1, h2⟩ := h.ext.s7 k C Tc fr hk
   obtain ⟨C2, h3, h4⟩ := hc.ext.s7 k C1 Tc fr h1
   exact ⟨C2, h3, by omega⟩
 ·intro c h1 h2 hcn
  obtain ⟨x, hx⟩ := Option.ne_none_iff_exists'.1 hcn
  rcases hlook c _ hx with ⟨b, fr', l0, hm, hl0, e⟩ | ⟨hn, fr', l0, hl0, e⟩
  ·rcases List.mem_append.1 hm with hm' | hm'
   ·have hg := g1 _ hm'
    simp only [Bool.and_eq_true, Bool.or_eq_true, Nat.ble_eq, Nat.blt_eq] at hg
    rw [β2in b c hm, hstay b c hm' (by omega)]
    obtain ⟨l, _, h3⟩ := hinlk b c hm'
    exact h.stay c h1 h2 (by rw [h3]; simp)
   ·have hg := g2 _ hm'
    simp only [Bool.and_eq_true, Bool.or_eq_true, Nat.ble_eq, Nat.blt_eq] at hg
    omega
  ·rw [β2out c hn]
   exact h.stay c h1 h2 (by rw [hl0]; simp)
 ·intro c k hck
  by_cases h1 : c ∈ (ρ ++ ν).map (·.2)
  ·obtain ⟨⟨b, c2⟩, hm, rfl⟩ := List.mem_map.1 h1
   rw [β2in b c2 hm] at hck
   rcases hnew b c2 k hm hck with h1 | ⟨b', c', h2, h3⟩
   ·exact .inl (Nat.le_trans h.ext.size h1)
   ·exact (hlive b' c' k h2 h3).2
  ·rw [β2out c h1] at hck
   exact h.src c k hck
theorem a0c (bs : List Nat) (h : Hp) (t : Nat) : lk (aab h bs) t = (lk h t).map fun x => (x.1 || bs.contains t, x.2) := by
 have := c8 (St.mem h) bs t
 cases bs <;> exact this
theorem aa0 (h : Rel G w0 M S0 σ a w β S) {o : Oper} {f : FuncId} {xs : List A} {vals : List Value} (hx : ARs β S w xs vals) (hexec : ju P f = true → (execOp a.eval o).run P w = .ok (.enter f vals.toArray) w) {K : A → St → Prop}
  (hk : jl P G σ.n σ.env σ.heap f xs K) (Q : Exit → Act → World → Prop) (next : Act → World → Prop)
  (hn : ∀ r σ' v w' β' S', K r σ' → Rel G w0 M S0 σ' a w' β' S' → AR β' S' w' r v → σ'.n = σ.n → next (a.put o.dst v) w') : o.wp P a w next Q := by
 obtain ⟨hs, ρ, ν, rR, houtR, bs, ha, hi, hc, hr, ho, hK⟩ := hk
 rename_i cargs hin r hout
 have hok := hc
 simp only [wh, Bool.and_eq_true, List.all_eq_true] at hok
 obtain ⟨⟨⟨⟨⟨⟨⟨⟨n1, n2⟩, k1⟩, k2⟩, k3⟩, k4⟩, n3⟩, g1⟩, g2⟩ := hok
 have k1 : ∀ b ∈ hin.map (·.1), b ∈ ρ.map (·.1) := fun b hb => by simpa using k1 b hb
 have k2 : ∀ b ∈ ρ.map (·.1), b ∈ hin.map (·.1) := fun b hb => by simpa using k2 b hb
 have pre : ∀ (l l2 : List Nat), gu (l ++ l2) = true → gu l = true := by
  intro l l2 hl
  induction l with
  | nil => rfl
  | cons x l ih =>
   simp only [List.cons_append, gu, Bool.and_eq_true, Bool.not_eq_true'] at hl ⊢
   refine ⟨?_, ih hl.2⟩
   cases hx : l.contains x with
   | false => rfl
   | true =>
    have : (l ++ l2).contains x = true := by simp only [List.contains_iff_mem] at hx ⊢; exact List.mem_append_left _ hx
    rw [this] at hl; cases hl.1
 have n1' := pre _ _ (by rw [← List.map_append]; exact n1)
 have n2' := pre _ _ (by rw [← List.map_append]; exact n2)
 let βc : Own := fun b => match lk ρ b with | some c => β c | none => none
 have hβρ : ∀ b, (hin.map (·.1)).contains b = true → β (rn ρ b) = βc b := by
  intro b hb
  have hm := acy (k1 b (by simpa using hb))
  simp only [βc, oq n1' hm]
 obtain ⟨hb, hds⟩ := xa h hβρ ha hs.refArgs hx
 have hfr := h.freeze hb
 have hd := hds bs (fun _ hb => hb)
 have hfe : σ.freeze bs = ⟨σ.n, σ.env, aab σ.heap bs⟩ := aro σ.n σ.env σ.heap bs
 rw [hfe] at hfr
 have hc' : wh ρ ν (aab σ.heap bs) (hin.map (·.1)) (hout.map (·.1)) = true := by
  simp only [wh, Bool.and_eq_true, List.all_eq_true] at hc ⊢
  refine ⟨hc.1, fun x hx => ⟨(hc.2 x hx).1, ?_⟩⟩
  rw [a0c]
  have := (hc.2 x hx).2
  cases hl : lk σ.heap x.2 with
  | none => rfl
  | some y => rw [hl] at this; cases this
 have hcal := Rel.hand (βc := βc) hfr rfl n1' n2' k1 k2 hi hs.refIn
 unfold Oper.wp
 rw [hexec hs.can, Oper.upon_enter]
 refine Calls.mono (by exact hs.run _ w βc _ hcal hd) ?_
 rintro e w' ⟨v, βo, S', rfl, hrel, hR⟩
 simp only
 obtain ⟨β2, S2, h1, h2⟩ := Rel.back (βc := βc) hfr rfl hc' hi hs.refOut hrel
 subst hr ho
 exact hn _ _ v w' β2 S2 hK h1 (h2 r v hs.refRes hR) rfl
theorem adr (h : Rel G w0 M S0 σ a w β S) {o : Oper} {f : FuncId} {args : Array Operand} {at_ : Array TypeId} (ho : o.op = .call ⟨.value (.func f), args, at_⟩) {K : A → St → Prop}
  (hk : jl P G σ.n σ.env σ.heap f (args.toList.map (σ.ev G)) K) (Q : Exit → Act → World → Prop) (next : Act → World → Prop)
  (hn : ∀ r σ' v w' β' S', K r σ' → Rel G w0 M S0 σ' a w' β' S' → AR β' S' w' r v → σ'.n = σ.n → next (a.put o.dst v) w') : o.wp P a w next Q := by
 obtain ⟨dst, op, type, pos, after, guard⟩ := o
 simp only at ho
 subst ho
 refine aa0 h (ARs.map (fun x => h.ev x) args.toList) (fun hc => ?_) hk Q next hn
 have harr : (args.toList.map a.eval).toArray = args.map a.eval := by cases args; simp
 rw [harr]
 simp only [execOp, Sem.run_bind, resolve, Act.eval, Deferred.ofValue]
 simp [invoke, p5 hc]
end
end Go.Ev
