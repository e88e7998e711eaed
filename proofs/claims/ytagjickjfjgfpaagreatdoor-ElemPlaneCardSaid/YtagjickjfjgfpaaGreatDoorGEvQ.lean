/- Contracts of the given functions, on data. Conditions stand in each theorem. -/
import Derived.Test.YtagjickjfjgfpaaGreatDoorGEvM
set_option linter.unusedSimpArgs false
set_option linter.unusedVariables false
namespace Go.Ev
open Go

abbrev Hp := List (Nat × Bool × List A)
/-- A state that is memory alone. -/
def St.mem (h : Hp) : St := ⟨0, [], h⟩
def act0 : Act := { tmps := #[], defers := [] }

mutual
def A.refsIn (ks : List Nat) : A → Bool
  | .ptr b _ => ks.contains b
  | .own b _ _ _ => ks.contains b
  | .agg l => A.refsIns ks l
  | .fn _ l => A.refsIns ks l
  | _ => true
def A.refsIns (ks : List Nat) : List A → Bool
  | [] => true
  | x :: l => x.refsIn ks && A.refsIns ks l
end
@[simp] theorem A.refsIns_map (ks : List Nat) : ∀ l : List D, A.refsIns ks (l.map A.d) = true
  | [] => rfl
  | x :: l => by simp [A.refsIns, A.refsIn, A.refsIns_map ks l]
theorem refsIns_get {ks : List Nat} : ∀ {l : List A}, A.refsIns ks l = true → ∀ {j : Nat} {x : A}, l[j]? = some x → x.refsIn ks = true
  | [], _, j, x, h => by simp at h
  | y :: l, h, 0, x, hx => by
    simp only [A.refsIns, Bool.and_eq_true] at h
    simp at hx; subst hx; exact h.1
  | y :: l, h, j + 1, x, hx => by
    simp only [A.refsIns, Bool.and_eq_true] at h
    exact refsIns_get h.2 (j := j) (by simpa using hx)

/-- A FUNCTION's CONTRACT, WITH MEMORY OF THE CALLER's OWN: called with what reads as 'args' where the caller's own memory reads as 'hin', it returns what reads as r, and that memory (and new memory) reads as 'hout'. Keys from 1000000 on stay with their blocks; those from 2000000 on may move. -/
structure SimA (P : Program) (G : Glob) (f : FuncId) (args : List A) (hin : Hp) (r : A) (hout : Hp) : Prop where
  can : callable P f = true
  refArgs : A.refsIns (hin.map (·.1)) args = true
  refIn : ∀ x ∈ hin, A.refsIns (hin.map (·.1)) x.2.2 = true
  refRes : r.refsIn (hout.map (·.1)) = true
  refOut : ∀ x ∈ hout, A.refsIns (hout.map (·.1)) x.2.2 = true
  run : ∀ (S : Imm) (w : World) (β : Own) (vs : List Value), Rel G w β S (St.mem hin) act0 w β S → ARs β S w args vs →
    Calls P f vs.toArray w fun e w' => ∃ v β' S', e = .returned v ∧ Rel G w β S (St.mem hout) act0 w' β' S' ∧ AR β' S' w' r v

/-- Keys, renamed. -/
def rn (ρ : List (Nat × Nat)) (b : Nat) : Nat := (lk ρ b).getD b
mutual
def A.ren (ρ : List (Nat × Nat)) : A → A
  | .ptr b o => .ptr (rn ρ b) o
  | .own b o n s => .own (rn ρ b) o n s
  | .agg l => .agg (A.rens ρ l)
  | .fn f l => .fn f (A.rens ρ l)
  | x => x
def A.rens (ρ : List (Nat × Nat)) : List A → List A
  | [] => []
  | x :: l => x.ren ρ :: A.rens ρ l
end
@[simp] theorem A.rens_map (ρ : List (Nat × Nat)) : ∀ l : List D, A.rens ρ (l.map A.d) = l.map A.d
  | [] => rfl
  | x :: l => by simp [A.rens, A.ren, A.rens_map ρ l]
theorem rens_eq (ρ : List (Nat × Nat)) : ∀ l : List A, A.rens ρ l = l.map (A.ren ρ)
  | [] => rfl
  | x :: l => by simp [A.rens, rens_eq ρ l]

mutual
theorem AR_ren {β β' : Own} {S : Imm} {w : World} {ρ : List (Nat × Nat)} {ks : List Nat} (h : ∀ b, ks.contains b = true → β' (rn ρ b) = β b) : ∀ {x : A} {v : Value}, x.refsIn ks = true → (AR β S w x v ↔ AR β' S w (x.ren ρ) v)
  | .d x, v, _ => by simp only [A.ren, AR]
  | .elem x, v, _ => by simp only [A.ren, AR]
  | .ptr b o, v, hr => by
    simp only [A.refsIn] at hr
    simp only [A.ren, AR, h b hr]
  | .own b o n s, v, hr => by
    simp only [A.refsIn] at hr
    simp only [A.ren, AR, h b hr]
  | .agg l, v, hr => by
    simp only [A.refsIn] at hr
    simp only [A.ren, AR]
    constructor
    · rintro ⟨vs, h1, h2⟩; exact ⟨vs, h1, (ARs_ren h hr).1 h2⟩
    · rintro ⟨vs, h1, h2⟩; exact ⟨vs, h1, (ARs_ren h hr).2 h2⟩
  | .fn f l, v, hr => by
    simp only [A.refsIn] at hr
    simp only [A.ren, AR]
    constructor
    · rintro ⟨vs, h1, h2⟩; exact ⟨vs, h1, (ARs_ren h hr).1 h2⟩
    · rintro ⟨vs, h1, h2⟩; exact ⟨vs, h1, (ARs_ren h hr).2 h2⟩
theorem ARs_ren {β β' : Own} {S : Imm} {w : World} {ρ : List (Nat × Nat)} {ks : List Nat} (h : ∀ b, ks.contains b = true → β' (rn ρ b) = β b) : ∀ {l : List A} {vs : List Value}, A.refsIns ks l = true → (ARs β S w l vs ↔ ARs β' S w (A.rens ρ l) vs)
  | [], vs, _ => by simp only [A.rens, ARs]
  | x :: l, vs, hr => by
    simp only [A.refsIns, Bool.and_eq_true] at hr
    simp only [A.rens, ARs]
    constructor
    · rintro ⟨u, us, h1, h2, h3⟩; exact ⟨u, us, h1, (AR_ren h hr.1).1 h2, (ARs_ren h hr.2).1 h3⟩
    · rintro ⟨u, us, h1, h2, h3⟩; exact ⟨u, us, h1, (AR_ren h hr.1).2 h2, (ARs_ren h hr.2).2 h3⟩
end

mutual
/-- What refers to memory that may have moved is forgotten. -/
def A.kl (mv : List Nat) : A → A
  | .ptr b o => if mv.contains b then .d .any else .ptr b o
  | .own b o n s => if mv.contains b then .d .any else .own b o n s
  | .agg l => .agg (A.kls mv l)
  | .fn f l => .fn f (A.kls mv l)
  | x => x
def A.kls (mv : List Nat) : List A → List A
  | [] => []
  | x :: l => x.kl mv :: A.kls mv l
end
mutual
theorem AR_kl {β β' : Own} {S : Imm} {w : World} {mv : List Nat} (h : ∀ b, mv.contains b = false → β' b = β b) : ∀ {x : A} {v : Value}, AR β S w x v → AR β' S w (x.kl mv) v
  | .d x, v, hx => by simpa only [A.kl, AR] using hx
  | .elem x, v, hx => by simpa only [A.kl, AR] using hx
  | .ptr b o, v, hx => by
    simp only [A.kl]
    split
    · simp only [AR, DR]
    · rename_i hb
      simp only [AR, h b (by simpa using hb)] at hx ⊢; exact hx
  | .own b o n s, v, hx => by
    simp only [A.kl]
    split
    · simp only [AR, DR]
    · rename_i hb
      simp only [AR, h b (by simpa using hb)] at hx ⊢; exact hx
  | .agg l, v, hx => by
    simp only [A.kl, AR] at hx ⊢
    obtain ⟨vs, h1, h2⟩ := hx
    exact ⟨vs, h1, ARs_kl h h2⟩
  | .fn f l, v, hx => by
    simp only [A.kl, AR] at hx ⊢
    obtain ⟨vs, h1, h2⟩ := hx
    exact ⟨vs, h1, ARs_kl h h2⟩
theorem ARs_kl {β β' : Own} {S : Imm} {w : World} {mv : List Nat} (h : ∀ b, mv.contains b = false → β' b = β b) : ∀ {l : List A} {vs : List Value}, ARs β S w l vs → ARs β' S w (A.kls mv l) vs
  | [], vs, hx => by simpa only [A.kls, ARs] using hx
  | x :: l, vs, hx => by
    simp only [A.kls, ARs] at hx ⊢
    obtain ⟨u, us, h1, h2, h3⟩ := hx
    exact ⟨u, us, h1, AR_kl h h2, ARs_kl h h3⟩
end
theorem kls_eq (mv : List Nat) : ∀ l : List A, A.kls mv l = l.map (A.kl mv)
  | [] => rfl
  | x :: l => by simp [A.kls, kls_eq mv l]
theorem kls_map (mv : List Nat) : ∀ l : List D, A.kls mv (l.map A.d) = l.map A.d
  | [] => rfl
  | x :: l => by simp [A.kls, A.kl, kls_map mv l]

def klE (mv : List Nat) (env : List (Nat × A)) : List (Nat × A) := match mv with
  | [] => env
  | mv => env.map fun x => (x.1, x.2.kl mv)
def klH (mv : List Nat) (h : Hp) : Hp := match mv with
  | [] => h
  | mv => h.map fun x => (x.1, x.2.1, A.kls mv x.2.2)
theorem kl_nil (x : A) : x.kl [] = x := by
  match x with
  | .d _ => rfl
  | .elem _ => rfl
  | .ptr _ _ => rfl
  | .own _ _ _ _ => rfl
  | .agg l => rw [A.kl, kls_nil l]
  | .fn f l => rw [A.kl, kls_nil l]
where kls_nil : ∀ l : List A, A.kls [] l = l
  | [] => rfl
  | x :: l => by rw [A.kls, kl_nil x, kls_nil l]
theorem klE_lk (mv : List Nat) (env : List (Nat × A)) (t : Nat) : lk (klE mv env) t = (lk env t).map (A.kl mv) := by
  cases mv with
  | nil =>
    show lk env t = _
    rw [show A.kl [] = id from funext kl_nil, Option.map_id]; rfl
  | cons b mv =>
    show lk (env.map fun x => (x.1, x.2.kl (b :: mv))) t = _
    induction env with
    | nil => rfl
    | cons y env ih =>
      obtain ⟨k, y⟩ := y
      simp only [List.map_cons, lk]
      split
      · rfl
      · exact ih
theorem klH_lk (mv : List Nat) (h : Hp) (t : Nat) : lk (klH mv h) t = (lk h t).map fun x => (x.1, A.kls mv x.2) := by
  cases mv with
  | nil =>
    show lk h t = _
    rw [show (fun x : Bool × List A => (x.1, A.kls [] x.2)) = id from funext fun x => by rw [kl_nil.kls_nil]; rfl, Option.map_id]; rfl
  | cons b mv =>
    show lk (h.map fun x => (x.1, x.2.1, A.kls (b :: mv) x.2.2)) t = _
    induction h with
    | nil => rfl
    | cons y h ih =>
      obtain ⟨k, y⟩ := y
      simp only [List.map_cons, lk]
      split
      · rfl
      · exact ih

/-- The arguments: data, or memory of the call's own. -/
inductive ArgsA (hp : Nat → Option (Bool × List A)) (ρ : List (Nat × Nat)) : List A → List A → List Nat → Prop where
  | nil : ArgsA hp ρ [] [] []
  | data {x : D} {a : A} {b1 bs : List Nat} {cs as : List A} (h : argEv hp a fun y b => y = x ∧ b = b1) (t : ArgsA hp ρ cs as bs) : ArgsA hp ρ (.d x :: cs) (a :: as) (b1 ++ bs)
  | own {c a : A} {bs : List Nat} {cs as : List A} (h : a = c.ren ρ) (t : ArgsA hp ρ cs as bs) : ArgsA hp ρ (c :: cs) (a :: as) bs
/-- The memory that is handed on reads as it must. -/
def InOk (heap : Hp) (ρ : List (Nat × Nat)) : Hp → Prop
  | [] => True
  | (b, f, l) :: h => (lk heap (rn ρ b) = some (false, A.rens ρ l) ∧ f = false) ∧ InOk heap ρ h
theorem InOk.get {heap : Hp} {ρ : List (Nat × Nat)} : ∀ {h : Hp}, InOk heap ρ h → ∀ {b : Nat} {fr : Bool} {l : List A}, lk h b = some (fr, l) → lk heap (rn ρ b) = some (false, A.rens ρ l) ∧ fr = false
  | [], _, b, fr, l, hl => by simp [lk] at hl
  | (c, f, m) :: h, hi, b, fr, l, hl => by
    simp only [lk] at hl
    split at hl
    · rename_i e
      subst e
      cases hl
      exact hi.1
    · exact InOk.get hi.2 hl

def nodupB : List Nat → Bool
  | [] => true
  | x :: l => !l.contains x && nodupB l
/-- The names fit. -/
def okRen (ρ ν : List (Nat × Nat)) (heap : Hp) (kin kout : List Nat) : Bool :=
  nodupB ((ρ ++ ν).map (·.1)) && nodupB ((ρ ++ ν).map (·.2)) && (kin.all fun b => (ρ.map (·.1)).contains b) && ((ρ.map (·.1)).all fun b => kin.contains b) &&
  (kout.all fun b => ((ρ ++ ν).map (·.1)).contains b) && (((ρ ++ ν).map (·.1)).all fun b => kout.contains b) && nodupB kout &&
  (ρ.all fun x => Nat.ble 1000000 x.1 && (Nat.blt x.1 2000000 || Nat.blt x.2 1000000 || Nat.ble 2000000 x.2)) && (ν.all fun x => (Nat.blt x.2 1000000 || Nat.ble 2000000 x.2) && (lk heap x.2).isNone)
def mvOf (ρ : List (Nat × Nat)) : List Nat := (ρ.filter fun x => Nat.ble 2000000 x.1).map (·.2)
def frzH (h : Hp) : List Nat → Hp
  | [] => h
  | bs => h.map fun x => (x.1, x.2.1 || bs.contains x.1, x.2.2)
def renH (ρ : List (Nat × Nat)) (h : Hp) : Hp := h.map fun x => (rn ρ x.1, x.2.1, A.rens ρ x.2.2)
def dropH (cs : List Nat) (h : Hp) : Hp := h.filter fun x => !cs.contains x.1

/-- A call that is handed memory of the caller's own. -/
inductive CallA (P : Program) (G : Glob) (n : Nat) (env : List (Nat × A)) (heap : Hp) (f : FuncId) (xs : List A) (K : A → St → Prop) : Prop where
  | mk {args : List A} {hin : Hp} {r : A} {hout : Hp} (hs : SimA P G f args hin r hout) (ρ ν : List (Nat × Nat)) (rR : A) (houtR : Hp) (bs : List Nat)
    (ha : ArgsA (lk heap) ρ args xs bs) (hi : InOk (frzH heap bs) ρ hin) (hc : okRen ρ ν heap (hin.map (·.1)) (hout.map (·.1)) = true)
    (hr : r.ren (ρ ++ ν) = rR) (ho : renH (ρ ++ ν) hout = houtR)
    (k : K rR ⟨n, klE (mvOf ρ) env, houtR ++ dropH ((ρ ++ ν).map (·.2)) (klH (mvOf ρ) (frzH heap bs))⟩)

theorem nodup_lk {l : List (Nat × Nat)} (h : nodupB (l.map (·.1)) = true) {b c : Nat} (hm : (b, c) ∈ l) : lk l b = some c := by
  induction l with
  | nil => cases hm
  | cons x l ih =>
    obtain ⟨k, y⟩ := x
    simp only [List.map_cons, nodupB, Bool.and_eq_true, Bool.not_eq_true'] at h
    simp only [lk]
    rcases List.mem_cons.1 hm with e | hm
    · cases e; rw [if_pos rfl]
    · rw [if_neg, ih h.2 hm]
      rintro rfl
      have : (l.map (·.1)).contains k = true := by simpa using ⟨c, hm⟩
      rw [this] at h; cases h.1
theorem nodup_inj {l : List (Nat × Nat)} (h : nodupB (l.map (·.2)) = true) {b b' c : Nat} (hm : (b, c) ∈ l) (hm' : (b', c) ∈ l) : b = b' := by
  induction l with
  | nil => cases hm
  | cons x l ih =>
    obtain ⟨k, y⟩ := x
    simp only [List.map_cons, nodupB, Bool.and_eq_true, Bool.not_eq_true'] at h
    have hno : ∀ b, (b, y) ∈ l → False := fun b hb => by
      have : (l.map (·.2)).contains y = true := by simpa using ⟨b, hb⟩
      rw [this] at h; cases h.1
    rcases List.mem_cons.1 hm with e | h3 <;> rcases List.mem_cons.1 hm' with e' | h4
    · cases e; cases e'; rfl
    · cases e; exact (hno _ h4).elim
    · cases e'; exact (hno _ h3).elim
    · exact ih h.2 h3 h4
theorem lk_mem {α : Type} : ∀ {l : List (Nat × α)} {b : Nat} {c : α}, lk l b = some c → (b, c) ∈ l
  | [], b, c, h => by simp [lk] at h
  | (k, y) :: l, b, c, h => by
    simp only [lk] at h
    split at h
    · rename_i e; subst e; cases h; simp
    · exact List.mem_cons_of_mem _ (lk_mem h)
theorem lk_of_key {α : Type} : ∀ {l : List (Nat × α)} {b : Nat}, b ∈ l.map (·.1) → ∃ x, lk l b = some x
  | [], b, h => by simp at h
  | (k, y) :: l, b, h => by
    simp only [lk]
    split
    · exact ⟨y, rfl⟩
    · rename_i hne
      simp only [List.map_cons, List.mem_cons] at h
      exact lk_of_key (h.resolve_left fun e => hne e.symm)
theorem rn_mem {l : List (Nat × Nat)} (h : nodupB (l.map (·.1)) = true) {b c : Nat} (hm : (b, c) ∈ l) : rn l b = c := by unfold rn; rw [nodup_lk h hm]; rfl
theorem mem_rn {l : List (Nat × Nat)} {b : Nat} (hm : b ∈ l.map (·.1)) : (b, rn l b) ∈ l := by
  obtain ⟨c, hc⟩ := lk_of_key hm
  unfold rn; rw [hc]; exact lk_mem hc
/-- Renamed memory, looked into. -/
theorem renH_lk {ρ : List (Nat × Nat)} (h1 : nodupB (ρ.map (·.1)) = true) (h2 : nodupB (ρ.map (·.2)) = true) : ∀ {h : Hp}, (∀ x ∈ h, x.1 ∈ ρ.map (·.1)) → ∀ {b c : Nat}, (b, c) ∈ ρ → lk (renH ρ h) c = (lk h b).map fun x => (x.1, A.rens ρ x.2)
  | [], _, b, c, hm => rfl
  | (k, f, l) :: h, hk, b, c, hm => by
    have ih := renH_lk h1 h2 (h := h) (fun x hx => hk x (List.mem_cons_of_mem _ hx)) hm
    simp only [renH, List.map_cons, lk] at ih ⊢
    by_cases e : k = b
    · subst e
      rw [if_pos rfl, if_pos (rn_mem h1 hm)]; rfl
    · rw [if_neg e, if_neg]
      · exact ih
      · intro e2
        have hmk := mem_rn (hk (k, f, l) (by simp))
        rw [e2] at hmk
        exact e (nodup_inj h2 hmk hm)
theorem renH_none {ρ : List (Nat × Nat)} : ∀ {h : Hp}, (∀ x ∈ h, x.1 ∈ ρ.map (·.1)) → ∀ {c : Nat}, c ∉ ρ.map (·.2) → lk (renH ρ h) c = none
  | [], _, c, _ => rfl
  | (k, f, l) :: h, hk, c, hm => by
    have ih := renH_none (h := h) (fun x hx => hk x (List.mem_cons_of_mem _ hx)) hm
    simp only [renH, List.map_cons, lk] at ih ⊢
    rw [if_neg]
    · exact ih
    · intro e
      have hmk := mem_rn (hk (k, f, l) (by simp))
      rw [e] at hmk
      exact hm (List.mem_map.2 ⟨_, hmk, rfl⟩)
theorem lk_app {α : Type} : ∀ (a b : List (Nat × α)) (t : Nat), lk (a ++ b) t = (lk a t).or (lk b t)
  | [], b, t => rfl
  | (k, y) :: a, b, t => by
    simp only [List.cons_append, lk]
    split
    · rfl
    · exact lk_app a b t
theorem dropH_lk (cs : List Nat) : ∀ (h : Hp) (t : Nat), lk (dropH cs h) t = if cs.contains t then none else lk h t
  | [], t => by simp [dropH, lk]
  | (k, y) :: h, t => by
    have ih := dropH_lk cs h t
    simp only [dropH, List.filter_cons, lk] at ih ⊢
    cases hk : cs.contains k with
    | true =>
      simp only [Bool.not_true, Bool.false_eq_true, if_false]
      rw [ih]
      by_cases e : k = t
      · subst e; rw [if_pos hk, if_pos hk]
      · rw [if_neg e]
    | false =>
      simp only [Bool.not_false, if_true, lk]
      by_cases e : k = t
      · subst e; rw [if_pos rfl, if_pos rfl, if_neg (by rw [hk]; simp)]
      · rw [if_neg e, if_neg e]; exact ih
theorem frzH_eq (n : Nat) (env : List (Nat × A)) (heap : Hp) (bs : List Nat) : St.freeze ⟨n, env, heap⟩ bs = ⟨n, env, frzH heap bs⟩ := by cases bs <;> rfl

section
variable {P : Program} {G : Glob} {T : Tab} {w0 : World} {M : Own} {S0 : Imm} {σ : St} {a : Act} {w w' : World} {β : Own} {S : Imm}

theorem argsA_sound (h : Rel G w0 M S0 σ a w β S) {ρ : List (Nat × Nat)} {βc : Own} {ks : List Nat} (hβ : ∀ b, ks.contains b = true → β (rn ρ b) = βc b) : ∀ {cs as : List A} {bs : List Nat} {vs : List Value}, ArgsA σ.hp ρ cs as bs → A.refsIns ks cs = true → ARs β S w as vs →
    (∀ b ∈ bs, ∃ (fr : Bool) (l : List D), σ.hp b = some (fr, l.map A.d)) ∧ ∀ bs', (∀ b ∈ bs, b ∈ bs') → ARs βc (frzImm β σ bs' S) w cs vs
  | _, _, _, vs, .nil, _, hx => by
    simp only [ARs] at hx
    subst hx
    exact ⟨by simp, fun _ _ => rfl⟩
  | _, _, _, vs, .data h1 ht, hr, hx => by
    simp only [ARs] at hx
    obtain ⟨u, us, rfl, hx1, hx2⟩ := hx
    simp only [A.refsIns, Bool.and_eq_true] at hr
    obtain ⟨d, bs1, ⟨rfl, rfl⟩, hb1, hd⟩ := argEv_sound h h1 hx1
    obtain ⟨hb2, hds⟩ := argsA_sound h hβ ht hr.2 hx2
    refine ⟨fun b hb => ?_, fun bs' hbs => ⟨u, us, rfl, by simp only [AR]; exact hd bs' fun b hb => hbs b (by simp [hb]), hds bs' fun b hb => hbs b (by simp [hb])⟩⟩
    rcases List.mem_append.1 hb with hb | hb
    · exact hb1 b hb
    · exact hb2 b hb
  | _, _, _, vs, .own h1 ht, hr, hx => by
    simp only [ARs] at hx
    obtain ⟨u, us, rfl, hx1, hx2⟩ := hx
    simp only [A.refsIns, Bool.and_eq_true] at hr
    subst h1
    obtain ⟨hb2, hds⟩ := argsA_sound h hβ ht hr.2 hx2
    refine ⟨hb2, fun bs' hbs => ⟨u, us, rfl, ?_, hds bs' hbs⟩⟩
    exact AR.mono (fun _ _ h => h) (frz_le bs') (fun _ _ _ => rfl) (fun k C Tc fr hk => ⟨C, hk, rfl⟩) ((AR_ren hβ hr.1).2 hx1)

/-- The memory part of what is related. -/
theorem Rel.only (h : Rel G w0 M S0 σ a w β S) : Rel G w0 M S0 (St.mem σ.heap) act0 w β S :=
  { defers := rfl, size := rfl, env := fun t x hx => by simp [St.mem, lk] at hx, glob := h.glob, keys := h.keys, rd := h.rd, live := h.live, froz := h.froz, fd := h.fd, nilb := h.nilb, inj := h.inj, imm := h.imm, old := h.old, ext := h.ext, stay := h.stay, small := Nat.zero_le _, src := h.src }

/-- What is handed on to the callee. -/
theorem Rel.hand (h : Rel G w0 M S0 σ a w β S) {ρ : List (Nat × Nat)} {hin : Hp} {βc : Own} (hβ : βc = fun b => match lk ρ b with | some c => β c | none => none)
    (h1 : nodupB (ρ.map (·.1)) = true) (h2 : nodupB (ρ.map (·.2)) = true) (hk1 : ∀ b ∈ hin.map (·.1), b ∈ ρ.map (·.1)) (hk2 : ∀ b ∈ ρ.map (·.1), b ∈ hin.map (·.1))
    (hi : InOk σ.heap ρ hin) (href : ∀ x ∈ hin, A.refsIns (hin.map (·.1)) x.2.2 = true) : Rel G w βc S (St.mem hin) act0 w βc S := by
  have hβρ : ∀ b, (hin.map (·.1)).contains b = true → β (rn ρ b) = βc b := by
    intro b hb
    have hm := mem_rn (hk1 b (by simpa using hb))
    rw [hβ]
    simp only [nodup_lk h1 hm]
  have hlk : ∀ b x, lk hin b = some x → b ∈ hin.map (·.1) := fun b x hx => List.mem_map.2 ⟨_, lk_mem hx, rfl⟩
  have hof : ∀ b k, βc b = some k → (b, rn ρ b) ∈ ρ ∧ β (rn ρ b) = some k := by
    intro b k hb
    rw [hβ] at hb
    simp only at hb
    split at hb
    · rename_i c hc
      have hm := lk_mem hc
      rw [rn_mem h1 hm]
      exact ⟨hm, hb⟩
    · cases hb
  refine { defers := rfl, size := rfl, env := fun t x hx => by simp [St.mem, lk] at hx, glob := h.glob, keys := ?_, rd := ?_, live := ?_, froz := ?_, fd := ?_, nilb := ?_, inj := ?_, imm := h.imm, old := fun _ _ h _ => .inl h, ext := ⟨rfl, rfl, rfl, Nat.le_refl _, fun _ _ _ => rfl, fun k C Tc fr hk => ⟨C, hk, rfl⟩⟩, stay := fun _ _ _ _ => rfl, small := Nat.zero_le _, src := fun b _ hb => .inr ⟨b, hb⟩ }
  · intro b hb
    obtain ⟨k, hk⟩ := Option.ne_none_iff_exists'.1 hb
    obtain ⟨x, hx⟩ := lk_of_key (hk2 b (List.mem_map.2 ⟨_, (hof b k hk).1, rfl⟩))
    show lk hin b ≠ none
    rw [hx]; simp
  · intro b k fr l hb hl
    obtain ⟨hl1, _⟩ := hi.get hl
    obtain ⟨C, Tc, hC, hlen, hcell⟩ := h.rd _ k _ _ (hof b _ hb).2 hl1
    rw [rens_eq, List.length_map] at hlen
    refine ⟨C, Tc, hC, hlen, fun j x hx => ?_⟩
    obtain ⟨u, hu, hR⟩ := hcell j (x.ren ρ) (by rw [rens_eq, List.getElem?_map, hx]; rfl)
    exact ⟨u, hu, (AR_ren hβρ (refsIns_get (href _ (lk_mem hl)) hx)).2 hR⟩
  · intro b k l hb hl
    obtain ⟨hl1, _⟩ := hi.get hl
    exact ⟨(h.live _ k _ (hof b _ hb).2 hl1).1, .inr ⟨b, hb⟩⟩
  · intro b k l hb hl
    cases (hi.get hl).2
  · intro b l hl
    cases (hi.get hl).2
  · intro b fr l hb hl
    obtain ⟨hl1, _⟩ := hi.get hl
    have := h.nilb _ _ _ (hof b _ hb).2 hl1
    rw [rens_eq, List.map_eq_nil_iff] at this
    exact this
  · intro b b' k hb hb'
    have e := h.inj _ _ _ (hof b _ hb).2 (hof b' _ hb').2
    have hm := (hof b _ hb).1
    rw [e] at hm
    exact nodup_inj h2 hm (hof b' _ hb').1

/-- What comes back from the callee. -/
theorem Rel.back (h : Rel G w0 M S0 σ a w β S) {ρ ν : List (Nat × Nat)} {hin hout : Hp} {βc βo : Own} {S' : Imm} (hβ : βc = fun b => match lk ρ b with | some c => β c | none => none)
    (hok : okRen ρ ν σ.heap (hin.map (·.1)) (hout.map (·.1)) = true) (hi : InOk σ.heap ρ hin) (href : ∀ x ∈ hout, A.refsIns (hout.map (·.1)) x.2.2 = true)
    (hc : Rel G w βc S (St.mem hout) act0 w' βo S') :
    ∃ β2 S2, Rel G w0 M S0 ⟨σ.n, klE (mvOf ρ) σ.env, renH (ρ ++ ν) hout ++ dropH ((ρ ++ ν).map (·.2)) (klH (mvOf ρ) σ.heap)⟩ a w' β2 S2 ∧ (∀ x v, x.refsIn (hout.map (·.1)) = true → AR βo S' w' x v → AR β2 S2 w' (x.ren (ρ ++ ν)) v) := by
  simp only [okRen, Bool.and_eq_true, List.all_eq_true] at hok
  obtain ⟨⟨⟨⟨⟨⟨⟨⟨n1, n2⟩, k1⟩, k2⟩, k3⟩, k4⟩, n3⟩, g1⟩, g2⟩ := hok
  have k1 : ∀ b ∈ hin.map (·.1), b ∈ ρ.map (·.1) := fun b hb => by simpa using k1 b hb
  have k2 : ∀ b ∈ ρ.map (·.1), b ∈ hin.map (·.1) := fun b hb => by simpa using k2 b hb
  have k3 : ∀ b ∈ hout.map (·.1), b ∈ (ρ ++ ν).map (·.1) := fun b hb => by simpa using k3 b hb
  have k4 : ∀ b ∈ (ρ ++ ν).map (·.1), b ∈ hout.map (·.1) := fun b hb => by simpa using k4 b hb
  have k3' : ∀ x ∈ hout, x.1 ∈ (ρ ++ ν).map (·.1) := fun x hx => k3 _ (List.mem_map.2 ⟨x, hx, rfl⟩)
  -- the keys of ρ
  have m1 : ∀ b c, (b, c) ∈ ρ → (b, c) ∈ ρ ++ ν := fun b c h => List.mem_append_left _ h
  have lkρ : ∀ b c, (b, c) ∈ ρ → lk ρ b = some c := by
    intro b c hm
    obtain ⟨c', hc'⟩ := lk_of_key (l := ρ) (List.mem_map.2 ⟨_, hm, rfl⟩)
    have := lk_mem hc'
    have e1 := nodup_lk n1 (m1 _ _ hm)
    have e2 := nodup_lk n1 (m1 _ _ this)
    rw [e1] at e2; cases e2; exact hc'
  have hβc : ∀ b c, (b, c) ∈ ρ → βc b = β c := by
    intro b c hm
    rw [hβ]
    simp only [lkρ b c hm]
  have hβc2 : ∀ b k, βc b = some k → ∃ c, (b, c) ∈ ρ ∧ β c = some k := by
    intro b k hb
    rw [hβ] at hb
    simp only at hb
    split at hb
    · rename_i c hc
      exact ⟨c, lk_mem hc, hb⟩
    · cases hb
  have hat : ∀ k, βc.at k → ∃ b c, (b, c) ∈ ρ ∧ β c = some (some k) := fun k ⟨b, hb⟩ => let ⟨c, h1, h2⟩ := hβc2 b _ hb; ⟨b, c, h1, h2⟩
  have hinlk : ∀ b c, (b, c) ∈ ρ → ∃ l, lk hin b = some (false, l) ∧ lk σ.heap c = some (false, A.rens ρ l) := by
    intro b c hm
    obtain ⟨x, hx⟩ := lk_of_key (k2 b (List.mem_map.2 ⟨_, hm, rfl⟩))
    obtain ⟨fr, l⟩ := x
    obtain ⟨h1, rfl⟩ := hi.get hx
    refine ⟨l, hx, ?_⟩
    have : rn ρ b = c := by unfold rn; rw [lkρ b c hm]; rfl
    rwa [this] at h1
  have hlive : ∀ b c k, (b, c) ∈ ρ → β c = some (some k) → (∀ o, ¬ S k o) ∧ (w0.heap.size ≤ k ∨ M.at k) := by
    intro b c k hm hk
    obtain ⟨l, _, h2⟩ := hinlk b c hm
    exact h.live c k _ hk h2
  have hlt : ∀ c k, β c = some (some k) → k < w.heap.size := by
    intro c k hk
    cases hl : lk σ.heap c with
    | none => exact absurd hl (h.keys c (by rw [hk]; simp))
    | some x =>
      obtain ⟨fr, l⟩ := x
      obtain ⟨C, Tc, hC, _⟩ := h.rd c k fr l hk hl
      exact lt_of_heap hC
  -- the new map
  let inv : List (Nat × Nat) := (ρ ++ ν).map fun x => (x.2, x.1)
  have linv : ∀ b c, (b, c) ∈ ρ ++ ν → lk inv c = some b := by
    intro b c hm
    have : (c, b) ∈ inv := List.mem_map.2 ⟨(b, c), hm, rfl⟩
    refine nodup_lk ?_ this
    have e : inv.map (·.1) = (ρ ++ ν).map (·.2) := by simp only [inv, List.map_map]; rfl
    rw [e]; exact n2
  have linv2 : ∀ b c, lk inv c = some b → (b, c) ∈ ρ ++ ν := by
    intro b c hl
    obtain ⟨x, hx, e⟩ := List.mem_map.1 (lk_mem hl)
    cases e; exact hx
  have linv3 : ∀ c, c ∉ (ρ ++ ν).map (·.2) → lk inv c = none := by
    intro c hc
    cases hl : lk inv c with
    | none => rfl
    | some b => exact (hc (List.mem_map.2 ⟨_, linv2 b c hl, rfl⟩)).elim
  let β2 : Own := fun c => match lk inv c with | some b => βo b | none => β c
  have β2in : ∀ b c, (b, c) ∈ ρ ++ ν → β2 c = βo b := fun b c hm => by simp only [β2, linv b c hm]
  have β2out : ∀ c, c ∉ (ρ ++ ν).map (·.2) → β2 c = β c := fun c hc => by simp only [β2, linv3 c hc]
  have β2ρ : ∀ b, (hout.map (·.1)).contains b = true → β2 (rn (ρ ++ ν) b) = βo b := by
    intro b hb
    exact β2in b _ (mem_rn (k3 b (by simpa using hb)))
  let S2 : Imm := fun k o => S k o ∨ S' k o
  have hS : S.le S2 := fun _ _ h => .inl h
  have hS' : S'.le S2 := fun _ _ h => .inr h
  have hwsz : w.heap.size ≤ w'.heap.size := hc.ext.size
  -- what is in S does not turn
  have hkeep : Keeps S w w' := by
    intro k o hk
    have hk1 := h.imm k o hk
    refine cell_of_heap (hc.ext.block k hk1 fun hM => ?_)
    obtain ⟨b, c, hm, hck⟩ := hat k hM
    exact (hlive b c k hm hck).1 o hk
  have hsh : Shapes w w' := hc.ext.shapes
  have hmvc : ∀ c, (mvOf ρ).contains c = true → ∃ b, 2000000 ≤ b ∧ (b, c) ∈ ρ := by
    intro c hc
    simp only [mvOf, List.contains_iff_mem, List.mem_map, List.mem_filter] at hc
    obtain ⟨x, ⟨h1, h2⟩, rfl⟩ := hc
    exact ⟨x.1, Nat.le_of_ble_eq_true h2, h1⟩
  -- keys that stay
  have hstay : ∀ b c, (b, c) ∈ ρ → b < 2000000 → βo b = β c := by
    intro b c hm hb
    have h1 := Nat.le_of_ble_eq_true (by have := g1 _ hm; simp only [Bool.and_eq_true] at this; exact this.1)
    obtain ⟨x, hx⟩ := lk_of_key (k4 b (List.mem_map.2 ⟨_, m1 _ _ hm, rfl⟩))
    rw [hc.stay b h1 hb (by show lk hout b ≠ none; rw [hx]; simp), hβc b c hm]
  have hβmv : ∀ c, (mvOf ρ).contains c = false → lk σ.heap c ≠ none → β2 c = β c := by
    intro c hmv hcn
    by_cases hin' : c ∈ (ρ ++ ν).map (·.2)
    · obtain ⟨⟨b, c'⟩, hm, rfl⟩ := List.mem_map.1 hin'
      rw [β2in b c' hm]
      rcases List.mem_append.1 hm with hm | hm
      · refine hstay b c' hm ?_
        by_cases hb : b < 2000000
        · exact hb
        · have : (mvOf ρ).contains c' = true := by
            simp only [mvOf, List.contains_iff_mem, List.mem_map, List.mem_filter]
            exact ⟨(b, c'), ⟨hm, Nat.ble_eq_true_of_le (by omega)⟩, rfl⟩
          rw [this] at hmv; cases hmv
      · have := g2 _ hm
        simp only [Bool.and_eq_true] at this
        exact absurd (by simpa using this.2) hcn
    · exact β2out c hin'
  -- what was known of a value stays known
  have hARold : ∀ x v, AR β S w x v → AR β2 S2 w' (x.kl (mvOf ρ)) v := by
    intro x v hx
    -- first with a map that is β2 where the key is known
    let β1 : Own := fun c => if lk σ.heap c = none then none else β c
    have e1 : β = β1 := by
      funext c
      show β c = if lk σ.heap c = none then none else β c
      split
      · rename_i hn
        cases hb : β c with
        | none => rfl
        | some k => exact absurd hn (h.keys c (by rw [hb]; simp))
      · rfl
    let β3 : Own := fun c => if lk σ.heap c = none then none else β2 c
    have h1 : AR β3 S w (x.kl (mvOf ρ)) v := by
      refine AR_kl (β := β) (β' := β3) (fun c hmv => ?_) hx
      show (if lk σ.heap c = none then none else β2 c) = β c
      split
      · rename_i hn
        cases hb : β c with
        | none => rfl
        | some k => exact absurd hn (h.keys c (by rw [hb]; simp))
      · rename_i hn
        exact hβmv c hmv hn
    refine AR.mono (fun c k hck => ?_) hS hkeep hsh h1
    have : (if lk σ.heap c = none then none else β2 c) = some k := hck
    split at this
    · cases this
    · exact this
  have hARnew : ∀ x v, x.refsIn (hout.map (·.1)) = true → AR βo S' w' x v → AR β2 S2 w' (x.ren (ρ ++ ν)) v := by
    intro x v hr hx
    refine AR.mono (fun _ _ h => h) hS' (fun _ _ _ => rfl) (fun k C Tc fr hk => ⟨C, hk, rfl⟩) ((AR_ren β2ρ hr).1 hx)
  -- the heap, looked into
  have hlook : ∀ c x, lk (renH (ρ ++ ν) hout ++ dropH ((ρ ++ ν).map (·.2)) (klH (mvOf ρ) σ.heap)) c = some x →
      (∃ b fr l, (b, c) ∈ ρ ++ ν ∧ lk hout b = some (fr, l) ∧ x = (fr, A.rens (ρ ++ ν) l)) ∨ (c ∉ (ρ ++ ν).map (·.2) ∧ ∃ fr l, lk σ.heap c = some (fr, l) ∧ x = (fr, A.kls (mvOf ρ) l)) := by
    intro c x hx
    rw [lk_app] at hx
    by_cases hin' : c ∈ (ρ ++ ν).map (·.2)
    · obtain ⟨⟨b, c'⟩, hm, rfl⟩ := List.mem_map.1 hin'
      rw [renH_lk n1 n2 k3' hm, dropH_lk, if_pos (by simpa using hin')] at hx
      cases hl : lk hout b with
      | none => rw [hl] at hx; cases hx
      | some y =>
        obtain ⟨fr, l⟩ := y
        rw [hl] at hx
        cases hx
        exact .inl ⟨b, fr, l, hm, hl, rfl⟩
    · rw [renH_none k3' hin', dropH_lk, if_neg (by simpa using hin'), klH_lk] at hx
      cases hl : lk σ.heap c with
      | none => rw [hl] at hx; cases hx
      | some y =>
        obtain ⟨fr, l⟩ := y
        rw [hl] at hx
        cases hx
        exact .inr ⟨hin', fr, l, rfl, rfl⟩
  have hlook2 : ∀ c, lk (renH (ρ ++ ν) hout ++ dropH ((ρ ++ ν).map (·.2)) (klH (mvOf ρ) σ.heap)) c = none → (∀ b, (b, c) ∉ ρ ++ ν) ∧ lk σ.heap c = none := by
    intro c hx
    rw [lk_app] at hx
    by_cases hin' : c ∈ (ρ ++ ν).map (·.2)
    · obtain ⟨⟨b, c'⟩, hm, rfl⟩ := List.mem_map.1 hin'
      obtain ⟨y, hy⟩ := lk_of_key (k4 b (List.mem_map.2 ⟨_, hm, rfl⟩))
      rw [renH_lk n1 n2 k3' hm, hy] at hx
      cases hx
    · rw [renH_none k3' hin', dropH_lk, if_neg (by simpa using hin'), klH_lk] at hx
      refine ⟨fun b hb => hin' (List.mem_map.2 ⟨_, hb, rfl⟩), ?_⟩
      cases hl : lk σ.heap c with
      | none => rfl
      | some y => rw [hl] at hx; cases hx
  have hnew : ∀ b c k, (b, c) ∈ ρ ++ ν → βo b = some (some k) → w.heap.size ≤ k ∨ ∃ b' c', (b', c') ∈ ρ ∧ β c' = some (some k) := by
    intro b c k hm hk
    rcases hc.src b k hk with h1 | h1
    · exact .inl h1
    · exact .inr (hat k h1)
  have hfar : ∀ c k, c ∉ (ρ ++ ν).map (·.2) → β c = some (some k) → ¬ βc.at k := by
    intro c k hn hk hM
    obtain ⟨b', c', h2, h3⟩ := hat k hM
    rw [h.inj c c' k hk h3] at hn
    exact hn (List.mem_map.2 ⟨_, m1 _ _ h2, rfl⟩)
  refine ⟨β2, S2, { defers := h.defers, size := h.size, env := ?_, glob := fun g => DRL.mono hS hkeep (h.glob g), keys := ?_, rd := ?_, live := ?_, froz := ?_, fd := ?_, nilb := ?_, inj := ?_, imm := ?_, old := ?_, ext := ?_, stay := ?_, small := h.small, src := ?_ }, hARnew⟩
  · intro t x hx
    have hx : lk (klE (mvOf ρ) σ.env) t = some x := hx
    rw [klE_lk, Option.map_eq_some_iff] at hx
    obtain ⟨y, hy, rfl⟩ := hx
    exact hARold y _ (h.env t y hy)
  · intro c hc2 e
    obtain ⟨e1, e2⟩ := hlook2 c e
    have hn : c ∉ (ρ ++ ν).map (·.2) := by
      intro hm
      obtain ⟨⟨b, c'⟩, hm2, rfl⟩ := List.mem_map.1 hm
      exact e1 b hm2
    rw [β2out c hn] at hc2
    exact h.keys c hc2 e2
  · intro c k fr l hck hl
    rcases hlook c _ hl with ⟨b, fr', l0, hm, hl0, e⟩ | ⟨hn, fr', l0, hl0, e⟩
    · cases e
      rw [β2in b c hm] at hck
      obtain ⟨C, Tc, hC, hlen, hcell⟩ := hc.rd b k _ _ hck hl0
      refine ⟨C, Tc, hC, by rw [rens_eq, List.length_map]; exact hlen, fun j x hx => ?_⟩
      rw [rens_eq, List.getElem?_map, Option.map_eq_some_iff] at hx
      obtain ⟨y, hy, rfl⟩ := hx
      obtain ⟨u, hu, hR⟩ := hcell j y hy
      exact ⟨u, hu, hARnew y u (refsIns_get (href _ (lk_mem hl0)) hy) hR⟩
    · cases e
      rw [β2out c hn] at hck
      obtain ⟨C, Tc, hC, hlen, hcell⟩ := h.rd c k _ _ hck hl0
      refine ⟨C, Tc, (hc.ext.block k (lt_of_heap hC) (hfar c k hn hck)).trans hC, by rw [kls_eq, List.length_map]; exact hlen, fun j x hx => ?_⟩
      rw [kls_eq, List.getElem?_map, Option.map_eq_some_iff] at hx
      obtain ⟨y, hy, rfl⟩ := hx
      obtain ⟨u, hu, hR⟩ := hcell j y hy
      exact ⟨u, hu, hARold y u hR⟩
  · intro c k l hck hl
    rcases hlook c _ hl with ⟨b, fr', l0, hm, hl0, e⟩ | ⟨hn, fr', l0, hl0, e⟩
    · cases e
      rw [β2in b c hm] at hck
      refine ⟨fun o ho => ?_, ?_⟩
      · rcases ho with ho | ho
        · rcases hnew b c k hm hck with h1 | ⟨b', c', h2, h3⟩
          · have := h.imm k o ho; omega
          · exact (hlive b' c' k h2 h3).1 o ho
        · exact (hc.live b k _ hck hl0).1 o ho
      · rcases hnew b c k hm hck with h1 | ⟨b', c', h2, h3⟩
        · exact .inl (Nat.le_trans h.ext.size h1)
        · exact (hlive b' c' k h2 h3).2
    · cases e
      rw [β2out c hn] at hck
      obtain ⟨h1, h2⟩ := h.live c k _ hck hl0
      refine ⟨fun o ho => ?_, h2⟩
      rcases ho with ho | ho
      · exact h1 o ho
      · rcases hc.old k o ho (hlt c k hck) with h3 | h3
        · exact h1 o h3
        · exact hfar c k hn hck h3
  · intro c k l hck hl
    rcases hlook c _ hl with ⟨b, fr', l0, hm, hl0, e⟩ | ⟨hn, fr', l0, hl0, e⟩
    · cases e
      rw [β2in b c hm] at hck
      obtain ⟨ds, rfl, h2⟩ := hc.froz b k _ hck hl0
      exact ⟨ds, A.rens_map _ _, DRL.mono hS' (fun _ _ _ => rfl) h2⟩
    · cases e
      rw [β2out c hn] at hck
      obtain ⟨ds, rfl, h2⟩ := h.froz c k _ hck hl0
      exact ⟨ds, kls_map _ _, DRL.mono hS hkeep h2⟩
  · intro c l hl
    rcases hlook c _ hl with ⟨b, fr', l0, hm, hl0, e⟩ | ⟨hn, fr', l0, hl0, e⟩
    · cases e
      obtain ⟨ds, rfl⟩ := hc.fd b _ hl0
      exact ⟨ds, A.rens_map _ _⟩
    · cases e
      obtain ⟨ds, rfl⟩ := h.fd c _ hl0
      exact ⟨ds, kls_map _ _⟩
  · intro c fr l hck hl
    rcases hlook c _ hl with ⟨b, fr', l0, hm, hl0, e⟩ | ⟨hn, fr', l0, hl0, e⟩
    · cases e
      rw [β2in b c hm] at hck
      rw [hc.nilb b _ _ hck hl0]; rfl
    · cases e
      rw [β2out c hn] at hck
      rw [h.nilb c _ _ hck hl0]; rfl
  · intro c c' k hck hck'
    have key : ∀ c c', c ∈ (ρ ++ ν).map (·.2) → c' ∉ (ρ ++ ν).map (·.2) → β2 c = some (some k) → β2 c' = some (some k) → False := by
      intro c c' hi' hn hck hck'
      obtain ⟨⟨b, c2⟩, hm, rfl⟩ := List.mem_map.1 hi'
      rw [β2in b c2 hm] at hck
      rw [β2out c' hn] at hck'
      rcases hnew b c2 k hm hck with h1 | ⟨b', c3, h2, h3⟩
      · have := hlt c' k hck'; omega
      · rw [h.inj c' c3 k hck' h3] at hn
        exact hn (List.mem_map.2 ⟨_, m1 _ _ h2, rfl⟩)
    by_cases h1 : c ∈ (ρ ++ ν).map (·.2) <;> by_cases h2 : c' ∈ (ρ ++ ν).map (·.2)
    · obtain ⟨⟨b, c2⟩, hm, rfl⟩ := List.mem_map.1 h1
      obtain ⟨⟨b', c3⟩, hm', rfl⟩ := List.mem_map.1 h2
      rw [β2in b c2 hm] at hck
      rw [β2in b' c3 hm'] at hck'
      obtain rfl := hc.inj b b' k hck hck'
      have e1 := nodup_lk n1 hm
      have e2 := nodup_lk n1 hm'
      rw [e1] at e2; cases e2; rfl
    · exact (key c c' h1 h2 hck hck').elim
    · exact (key c' c h2 h1 hck' hck).elim
    · rw [β2out c h1] at hck
      rw [β2out c' h2] at hck'
      exact h.inj c c' k hck hck'
  · intro k o ho
    rcases ho with ho | ho
    · have := h.imm k o ho; omega
    · exact hc.imm k o ho
  · intro k o ho hk
    rcases ho with ho | ho
    · exact h.old k o ho hk
    · rcases hc.old k o ho (Nat.lt_of_lt_of_le hk h.ext.size) with h1 | h1
      · exact h.old k o h1 hk
      · obtain ⟨b', c', h2, h3⟩ := hat k h1
        rcases (hlive b' c' k h2 h3).2 with h4 | h4
        · omega
        · exact .inr h4
  · refine ⟨hc.ext.os.trans h.ext.os, hc.ext.tape.trans h.ext.tape, hc.ext.output.trans h.ext.output, Nat.le_trans h.ext.size hc.ext.size, fun k hk hM => ?_, fun k C Tc fr hk => ?_⟩
    · refine (hc.ext.block k (Nat.lt_of_lt_of_le hk h.ext.size) fun h1 => ?_).trans (h.ext.block k hk hM)
      obtain ⟨b', c', h2, h3⟩ := hat k h1
      rcases (hlive b' c' k h2 h3).2 with h4 | h4
      · omega
      · exact hM h4
    · obtain ⟨C1, h1, h2⟩ := h.ext.shapes k C Tc fr hk
      obtain ⟨C2, h3, h4⟩ := hc.ext.shapes k C1 Tc fr h1
      exact ⟨C2, h3, by omega⟩
  · intro c h1 h2 hcn
    obtain ⟨x, hx⟩ := Option.ne_none_iff_exists'.1 hcn
    rcases hlook c _ hx with ⟨b, fr', l0, hm, hl0, e⟩ | ⟨hn, fr', l0, hl0, e⟩
    · rcases List.mem_append.1 hm with hm' | hm'
      · have hg := g1 _ hm'
        simp only [Bool.and_eq_true, Bool.or_eq_true, Nat.ble_eq, Nat.blt_eq] at hg
        rw [β2in b c hm, hstay b c hm' (by omega)]
        obtain ⟨l, _, h3⟩ := hinlk b c hm'
        exact h.stay c h1 h2 (by rw [h3]; simp)
      · have hg := g2 _ hm'
        simp only [Bool.and_eq_true, Bool.or_eq_true, Nat.ble_eq, Nat.blt_eq] at hg
        omega
    · rw [β2out c hn]
      exact h.stay c h1 h2 (by rw [hl0]; simp)
  · intro c k hck
    by_cases h1 : c ∈ (ρ ++ ν).map (·.2)
    · obtain ⟨⟨b, c2⟩, hm, rfl⟩ := List.mem_map.1 h1
      rw [β2in b c2 hm] at hck
      rcases hnew b c2 k hm hck with h1 | ⟨b', c', h2, h3⟩
      · exact .inl (Nat.le_trans h.ext.size h1)
      · exact (hlive b' c' k h2 h3).2
    · rw [β2out c h1] at hck
      exact h.src c k hck

theorem frzH_lk (bs : List Nat) (h : Hp) (t : Nat) : lk (frzH h bs) t = (lk h t).map fun x => (x.1 || bs.contains t, x.2) := by
  have := freeze_lk (St.mem h) bs t
  cases bs <;> exact this

theorem callA_soundG (h : Rel G w0 M S0 σ a w β S) {o : Oper} {f : FuncId} {xs : List A} {vals : List Value} (hx : ARs β S w xs vals) (hexec : callable P f = true → (execOp a.eval o).run P w = .ok (.enter f vals.toArray) w) {K : A → St → Prop}
    (hk : CallA P G σ.n σ.env σ.heap f xs K) (Q : Exit → Act → World → Prop) (next : Act → World → Prop)
    (hn : ∀ r σ' v w' β' S', K r σ' → Rel G w0 M S0 σ' a w' β' S' → AR β' S' w' r v → σ'.n = σ.n → next (a.put o.dst v) w') : o.wp P a w next Q := by
  obtain ⟨hs, ρ, ν, rR, houtR, bs, ha, hi, hc, hr, ho, hK⟩ := hk
  rename_i cargs hin r hout
  have hok := hc
  simp only [okRen, Bool.and_eq_true, List.all_eq_true] at hok
  obtain ⟨⟨⟨⟨⟨⟨⟨⟨n1, n2⟩, k1⟩, k2⟩, k3⟩, k4⟩, n3⟩, g1⟩, g2⟩ := hok
  have k1 : ∀ b ∈ hin.map (·.1), b ∈ ρ.map (·.1) := fun b hb => by simpa using k1 b hb
  have k2 : ∀ b ∈ ρ.map (·.1), b ∈ hin.map (·.1) := fun b hb => by simpa using k2 b hb
  have pre : ∀ (l l2 : List Nat), nodupB (l ++ l2) = true → nodupB l = true := by
    intro l l2 hl
    induction l with
    | nil => rfl
    | cons x l ih =>
      simp only [List.cons_append, nodupB, Bool.and_eq_true, Bool.not_eq_true'] at hl ⊢
      refine ⟨?_, ih hl.2⟩
      cases hx : l.contains x with
      | false => rfl
      | true =>
        have : (l ++ l2).contains x = true := by simp only [List.contains_iff_mem] at hx ⊢; exact List.mem_append_left _ hx
        rw [this] at hl; cases hl.1
  have n1' := pre _ _ (by rw [← List.map_append]; exact n1)
  have n2' := pre _ _ (by rw [← List.map_append]; exact n2)
  let βc : Own := fun b => match lk ρ b with | some c => β c | none => none
  have hβρ : ∀ b, (hin.map (·.1)).contains b = true → β (rn ρ b) = βc b := by
    intro b hb
    have hm := mem_rn (k1 b (by simpa using hb))
    simp only [βc, nodup_lk n1' hm]
  obtain ⟨hb, hds⟩ := argsA_sound h hβρ ha hs.refArgs hx
  have hfr := h.freeze hb
  have hd := hds bs (fun _ hb => hb)
  have hfe : σ.freeze bs = ⟨σ.n, σ.env, frzH σ.heap bs⟩ := frzH_eq σ.n σ.env σ.heap bs
  rw [hfe] at hfr
  have hc' : okRen ρ ν (frzH σ.heap bs) (hin.map (·.1)) (hout.map (·.1)) = true := by
    simp only [okRen, Bool.and_eq_true, List.all_eq_true] at hc ⊢
    refine ⟨hc.1, fun x hx => ⟨(hc.2 x hx).1, ?_⟩⟩
    rw [frzH_lk]
    have := (hc.2 x hx).2
    cases hl : lk σ.heap x.2 with
    | none => rfl
    | some y => rw [hl] at this; cases this
  have hcal := Rel.hand (βc := βc) hfr rfl n1' n2' k1 k2 hi hs.refIn
  unfold Oper.wp
  rw [hexec hs.can, Oper.upon_enter]
  refine Calls.mono (by exact hs.run _ w βc _ hcal hd) ?_
  rintro e w' ⟨v, βo, S', rfl, hrel, hR⟩
  simp only
  obtain ⟨β2, S2, h1, h2⟩ := Rel.back (βc := βc) hfr rfl hc' hi hs.refOut hrel
  subst hr ho
  exact hn _ _ v w' β2 S2 hK h1 (h2 r v hs.refRes hR) rfl
theorem callA_sound (h : Rel G w0 M S0 σ a w β S) {o : Oper} {f : FuncId} {args : Array Operand} {at_ : Array TypeId} (ho : o.op = .call ⟨.value (.func f), args, at_⟩) {K : A → St → Prop}
    (hk : CallA P G σ.n σ.env σ.heap f (args.toList.map (σ.ev G)) K) (Q : Exit → Act → World → Prop) (next : Act → World → Prop)
    (hn : ∀ r σ' v w' β' S', K r σ' → Rel G w0 M S0 σ' a w' β' S' → AR β' S' w' r v → σ'.n = σ.n → next (a.put o.dst v) w') : o.wp P a w next Q := by
  obtain ⟨dst, op, type, pos, after, guard⟩ := o
  simp only at ho
  subst ho
  refine callA_soundG h (ARs.map (fun x => h.ev x) args.toList) (fun hc => ?_) hk Q next hn
  have harr : (args.toList.map a.eval).toArray = args.map a.eval := by cases args; simp
  rw [harr]
  simp only [execOp, Sem.run_bind, resolve, Act.eval, Deferred.ofValue]
  simp [invoke, run_callFunc hc]
end
end Go.Ev

namespace Go.Ev
open Go

/-- What is meant by a walk. -/
def Wp' (P : Program) (G : Glob) (c : Code) (Q : Exit → St → Prop) (σ : St) : Prop :=
  ∀ w0 M S0 a w β S, Rel G w0 M S0 σ a w β S → c.wp P (fun e a' w' => Post G w0 M S0 σ.n (Q e) a' w') a w

/-- What a loop's head keeps. -/
def St.at (n : Nat) (L : List Nat) (xs : List A) (h : List (Nat × Bool × List A)) : St := { n, env := L.zip xs, heap := h }
def St.gets (σ : St) (L : List Nat) : List A := L.map σ.get

/-- nil as an empty slice. -/
def A.dnA : A → A
  | .d x => .d x.dn
  | x => x
theorem A.refsIn_dnA (ks : List Nat) (x : A) : x.dnA.refsIn ks = x.refsIn ks := by cases x <;> rfl
theorem AR.dnA {β : Own} {S : Imm} {w : World} : ∀ {x : A} {v : Value}, AR β S w x v → AR β S w x.dnA v
  | .d x, v, h => by simp only [AR, A.dnA] at h ⊢; exact DR_dn h
  | .ptr _ _, v, h => h
  | .elem _, v, h => h
  | .own _ _ _ _, v, h => h
  | .agg _, v, h => h
  | .fn _ _, v, h => h
/-- From the state all but some slots and some blocks are forgotten. -/
def St.cut (σ : St) (L : List Nat) (ks : List Nat) (xs : List A) (h : List (Nat × Bool × List A)) : Prop :=
  (σ.gets L = xs ∨ (σ.gets L).map A.dnA = xs) ∧ σ.heap.filter (fun x => ks.contains x.1) = h ∧ A.refsIns ks xs = true ∧ h.all (fun x => A.refsIns ks x.2.2) = true

/-- Slots that hold nil are given keys of their own. -/
def St.adopt (σ : St) : List (Nat × Nat × Nat) → (St → Prop) → Prop
  | [], K => K σ
  | (t, b, sz) :: ad, K => σ.get t = .d .nil ∧ σ.hp b = none ∧ (t < σ.n ∧ b < 1000000) ∧ St.adopt ((σ.new b []).put (some t) (.own b 0 0 sz)) ad K

section
variable {P : Program} {G : Glob} {T : Tab} {w0 : World} {M : Own} {S0 : Imm} {σ : St} {a : Act} {w w' : World} {β : Own} {S : Imm}

def Own.only (β : Own) (ks : List Nat) : Own := fun b => if ks.contains b then β b else none

mutual
theorem AR_only {ks : List Nat} : ∀ {x : A} {v : Value}, x.refsIn ks = true → AR β S w x v → AR (β.only ks) S w x v
  | .d x, v, _, h => by simp only [AR] at h ⊢; exact h
  | .elem x, v, _, h => by simp only [AR] at h ⊢; exact h
  | .ptr c o, v, hr, h => by
    simp only [A.refsIn] at hr
    simp only [AR, Own.only, hr, if_true] at h ⊢; exact h
  | .own c o n sz, v, hr, h => by
    simp only [A.refsIn] at hr
    simp only [AR, Own.only, hr, if_true] at h ⊢; exact h
  | .agg l, v, hr, h => by
    simp only [A.refsIn] at hr
    simp only [AR] at h ⊢
    obtain ⟨vs, rfl, h⟩ := h
    exact ⟨vs, rfl, ARs_only hr h⟩
  | .fn f l, v, hr, h => by
    simp only [A.refsIn] at hr
    simp only [AR] at h ⊢
    obtain ⟨vs, rfl, h⟩ := h
    exact ⟨vs, rfl, ARs_only hr h⟩
theorem ARs_only {ks : List Nat} : ∀ {l : List A} {vs : List Value}, A.refsIns ks l = true → ARs β S w l vs → ARs (β.only ks) S w l vs
  | [], vs, _, h => by simpa [ARs] using h
  | x :: l, vs, hr, h => by
    simp only [A.refsIns, Bool.and_eq_true] at hr
    simp only [ARs] at h ⊢
    obtain ⟨u, us, rfl, h1, h2⟩ := h
    exact ⟨u, us, rfl, AR_only hr.1 h1, ARs_only hr.2 h2⟩
end
theorem lk_filter (ks : List Nat) : ∀ (l : List (Nat × Bool × List A)) (t : Nat), lk (l.filter fun x => ks.contains x.1) t = if ks.contains t then lk l t else none
  | [], t => by simp [lk]
  | (k, x) :: l, t => by
    rw [List.filter_cons]
    split
    · rename_i h
      simp only [lk]
      by_cases e : k = t
      · subst e; simp only at h; rw [if_pos rfl, if_pos h, if_pos rfl]
      · rw [if_neg e, if_neg e]; exact lk_filter ks l t
    · rename_i h
      rw [lk_filter ks l t]
      simp only [lk]
      by_cases e : k = t
      · subst e; simp only at h; rw [if_neg h, if_neg h]
      · rw [if_neg e]

theorem lk_zip : ∀ {L : List Nat} {xs : List A} {t : Nat} {x : A}, lk (L.zip xs) t = some x → ∃ j : Nat, L[j]? = some t ∧ xs[j]? = some x
  | [], xs, t, x, h => by simp [lk] at h
  | l :: L, [], t, x, h => by simp [lk] at h
  | l :: L, y :: xs, t, x, h => by
    simp only [List.zip_cons_cons, lk] at h
    split at h
    · rename_i e
      subst e; cases h
      exact ⟨0, rfl, rfl⟩
    · obtain ⟨j, h1, h2⟩ := lk_zip h
      exact ⟨j + 1, by simpa using h1, by simpa using h2⟩

theorem Rel.cut (h : Rel G w0 M S0 σ a w β S) {L ks : List Nat} {xs : List A} {hh : List (Nat × Bool × List A)} (hc : σ.cut L ks xs hh) : Rel G w0 M S0 (St.at σ.n L xs hh) a w (β.only ks) S := by
  obtain ⟨hgx, rfl, hx, hr⟩ := hc
  have hon : ∀ b (k : Option Nat), β.only ks b = some k → ks.contains b = true ∧ β b = some k := by
    intro b k hb
    unfold Own.only at hb
    split at hb
    · exact ⟨by assumption, hb⟩
    · cases hb
  have hlk : ∀ b x, lk (σ.heap.filter fun x => ks.contains x.1) b = some x → ks.contains b = true ∧ lk σ.heap b = some x := by
    intro b x hb
    rw [lk_filter] at hb
    split at hb
    · exact ⟨by assumption, hb⟩
    · cases hb
  have hmem : ∀ (l : List (Nat × Bool × List A)) (b : Nat) (x : Bool × List A), lk l b = some x → (b, x) ∈ l := by
    intro l
    induction l with
    | nil => intro b x h; simp [lk] at h
    | cons y l ih =>
      intro b x h
      obtain ⟨k, y⟩ := y
      simp only [lk] at h
      split at h
      · rename_i e; subst e; cases h; simp
      · exact List.mem_cons_of_mem _ (ih b x h)
  have hrefs : ∀ b x, lk (σ.heap.filter fun x => ks.contains x.1) b = some x → A.refsIns ks x.2 = true := by
    intro b x hb
    have := hmem _ _ _ hb
    exact List.all_eq_true.1 hr _ this
  refine { h with env := ?_, keys := ?_, rd := ?_, live := ?_, froz := ?_, fd := ?_, nilb := ?_, inj := ?_, stay := ?_, src := fun b k hb => h.src b k (hon b _ hb).2 }
  · intro t x hx'
    obtain ⟨j, h1, h2⟩ := lk_zip hx'
    rcases hgx with rfl | rfl
    · simp only [St.gets, List.getElem?_map, h1, Option.map_some, Option.some.injEq] at h2
      subst h2
      have hrx := refsIns_get hx (j := j) (x := σ.get t) (by simp [St.gets, h1])
      exact AR_only hrx (h.get t)
    · simp only [St.gets, List.getElem?_map, h1, Option.map_some, Option.some.injEq] at h2
      subst h2
      have hrx := refsIns_get hx (j := j) (x := (σ.get t).dnA) (by simp [St.gets, h1])
      exact AR_only hrx (h.get t).dnA
  · intro b hb
    obtain ⟨k, hk⟩ := Option.ne_none_iff_exists'.1 hb
    obtain ⟨h1, h2⟩ := hon b k hk
    show lk (σ.heap.filter fun x => ks.contains x.1) b ≠ none
    rw [lk_filter, if_pos h1]
    exact h.keys b (by rw [h2]; simp)
  · intro b k fr l hb hl
    obtain ⟨h1, h2⟩ := hon b _ hb
    obtain ⟨_, h3⟩ := hlk b _ hl
    obtain ⟨C, Tc, hC, hlen, hcell⟩ := h.rd b k fr l h2 h3
    refine ⟨C, Tc, hC, hlen, fun j x hj => ?_⟩
    obtain ⟨u, hu, hR⟩ := hcell j x hj
    exact ⟨u, hu, AR_only (refsIns_get (hrefs b _ hl) hj) hR⟩
  · intro b k l hb hl
    exact h.live b k l (hon b _ hb).2 (hlk b _ hl).2
  · intro b k l hb hl
    exact h.froz b k l (hon b _ hb).2 (hlk b _ hl).2
  · intro b l hl
    exact h.fd b l (hlk b _ hl).2
  · intro b fr l hb hl
    obtain ⟨h1, h2⟩ := hlk b _ hl
    have : β b = some none := by
      unfold Own.only at hb
      rwa [if_pos h1] at hb
    exact h.nilb b fr l this h2
  · intro b b' k hb hb'
    exact h.inj b b' k (hon b _ hb).2 (hon b' _ hb').2
  · intro b h1 h2 hb
    obtain ⟨x, hx⟩ := Option.ne_none_iff_exists'.1 hb
    obtain ⟨h3, h4⟩ := hlk b x hx
    show (if ks.contains b then β b else none) = M b
    rw [if_pos h3]
    exact h.stay b h1 h2 (by rw [h4]; simp)

theorem Rel.adopt : ∀ {ad : List (Nat × Nat × Nat)} {σ : St} {β : Own} {K : St → Prop}, Rel G w0 M S0 σ a w β S → σ.adopt ad K → ∃ σ' β', K σ' ∧ Rel G w0 M S0 σ' a w β' S ∧ σ'.n = σ.n
  | [], σ, β, K, h, hk => ⟨σ, β, hk, h, rfl⟩
  | (t, b, sz) :: ad, σ, β, K, h, hk => by
    obtain ⟨h1, h2, h3, hk⟩ := hk
    have hv := h.get t
    rw [h1] at hv
    simp only [AR, DR] at hv
    have hg := h.ghost h2 h3.2
    have hp : Rel G w0 M S0 ((σ.new b []).put (some t) (.own b 0 0 sz)) a w (β.gh b) S := by
      refine { hg with size := ?_, env := ?_ }
      · exact hg.size
      · intro t' x hx
        simp only [St.put, lk] at hx
        split at hx
        · rename_i e
          subst e
          cases hx
          simp only [AR]
          exact .inr ⟨trivial, by simp [Own.gh], none, hv⟩
        · exact hg.env t' x hx
    obtain ⟨σ', β', h4, h5, h6⟩ := Rel.adopt hp hk
    exact ⟨σ', β', h4, h5, h6⟩
end

def putA {α : Type} : List α → Nat → List α → List α
  | [], _, _ => []
  | a :: l, n + 1, xs => a :: putA l n xs
  | _ :: l, 0, x :: xs => x :: putA l 0 xs
  | a :: l, 0, [] => a :: l
theorem putA_nil {α : Type} : ∀ (l : List α) (o : Nat), putA l o [] = l
  | [], o => by cases o <;> rfl
  | a :: l, 0 => rfl
  | a :: l, n + 1 => by simp only [putA]; rw [putA_nil l n]
theorem putA_set {α : Type} : ∀ (l : List α) (o : Nat) (x : α) (xs : List α), putA (l.set o x) (o + 1) xs = putA l o (x :: xs)
  | [], o, x, xs => by cases o <;> rfl
  | a :: l, 0, x, xs => by simp only [List.set, putA]
  | a :: l, n + 1, x, xs => by simp only [List.set, putA]; rw [putA_set l n]
theorem putA_eq {α : Type} : ∀ (xs l : List α) (o : Nat), setAt l o xs = putA l o xs
  | [], l, o => (putA_nil l o).symm
  | x :: xs, l, o => by rw [setAt, putA_eq xs, putA_set]
theorem EqE.fP {α : Type} {l xs : List α} {o : Nat} {K : List α → Prop} (h : forceL (putA l o xs) K) : EqE (setAt l o xs) K := by rw [putA_eq]; exact EqE.fL h
/-- Slots lie in the frame. -/
def regOk (T : Tab) (n : Nat) (ops : Array Oper) (draw : Bool) : Bool := (ops.all fun o => o.dst.all (· < n)) && (!draw || okDraw T ops)

/-- The same, where stores and loads of other blocks may change places. -/
def regOkL (T : Tab) (n : Nat) (ops : Array Oper) (draw : Bool) (ps : List (Nat × Nat)) : Bool := (ops.all fun o => o.dst.all (· < n)) && draw && okDrawL T ops ps
/-- A region, whatever order is drawn: by its text alone, or by where its slots point in the end. -/
inductive RegE (a : Prop) (b : List (Nat × Nat) → Prop) : Prop where
  | early (h : a)
  | late (ps : List (Nat × Nat)) (h : b ps)

/-- A loop's round is done: on with the next. -/
inductive LoopEnd (I : Nat → List A → List (Nat × Bool × List A) → Prop) (m : Nat) (L ks : List Nat) (σ' : St) : Prop where
  | mk (m' : Nat) (xs' : List A) (h' : List (Nat × Bool × List A)) (cut : σ'.cut L ks xs' h') (lt : m' < m) (inv : I m' xs' h')
/-- A loop begins. -/
inductive LoopAt (I : Nat → List A → List (Nat × Bool × List A) → Prop) (L ks : List Nat) (σ : St) : Prop where
  | mk (m : Nat) (xs : List A) (h : List (Nat × Bool × List A)) (cut : σ.cut L ks xs h) (inv : I m xs h)

/- THE SAME, WITH STATES WRITTEN OUT. -/
def frzL (h : List (Nat × Bool × List A)) : List Nat → List (Nat × Bool × List A)
  | [] => h
  | bs => h.map fun x => (x.1, x.2.1 || bs.contains x.1, x.2.2)
def wrEv' (T : Tab) (G : Glob) (n : Nat) (env : List (Nat × A)) (heap : List (Nat × Bool × List A)) (d : Option Nat) (op : Op) (K : A → St → Prop) : Prop :=
  match op with
  | .store t a x => match St.ev G ⟨n, env, heap⟩ a with
    | .ptr b o => match lk heap b, T t with
      | some (false, l), some y => Cd ((St.ev G ⟨n, env, heap⟩ x).full = true) (Cd ((St.ev G ⟨n, env, heap⟩ x).cells.length = y.size) (Cd ((St.ev G ⟨n, env, heap⟩ x).cells.all A.one = true) (Cd (o + y.size ≤ l.length) (EqE (setAt l o (St.ev G ⟨n, env, heap⟩ x).cells) fun row => K (.d .any) ⟨n, env, hset heap b row⟩))))
      | _, _ => False
    | _ => False
  | .call c => match c.callee, c.argTypes.toList, c.args.toList, d with
    | .builtin .append, [t, t2], [s, x], some d => tySlice T t fun _ ye => Cd (((T t2).any Ty.isSl && ye.rowOk) = true) <|
      contentEv (lk heap) ye.size (St.ev G ⟨n, env, heap⟩ x) fun m cs => Cd (∀ c ∈ cs, (A.d c).one = true) <| match St.ev G ⟨n, env, heap⟩ s with
        | .d .nil => Cd (m * ye.bytes ≤ 70368744177664) (Cd ((lk heap d).isNone = true) (EqE (cs.map A.d) fun row => K (.own d 0 m ye.size) ⟨n, env, (d, false, row) :: heap⟩))
        | .own b o k sz => match lk heap b with
          | some (false, l) => Cd (okKey b o = 0 ∧ sz = ye.size) (Cd (l.length = k * sz) (Cd ((k + m) * ye.bytes ≤ 70368744177664) (DsE l fun _ => EqE (l ++ cs.map A.d) fun row => K (.own b 0 (k + m) sz) ⟨n, env.map fun x => (x.1, x.2.kill b), hset (heap.map fun x => (x.1, x.2.1, A.kills b x.2.2)) b row⟩)))
          | _ => False
        | _ => False
    | _, _, _, _ => False
  | _ => False
def callEv' (P : Program) (G : Glob) (n : Nat) (env : List (Nat × A)) (heap : List (Nat × Bool × List A)) (op : Op) (K : A → St → Prop) : Prop :=
  match op with
  | .call c => match c.callee with
    | .value (.func f) => argsEv (lk heap) (c.args.toList.map (St.ev G ⟨n, env, heap⟩)) fun xs bs => CallE P G f xs fun fresh r => K (.d r) ⟨n, env, if fresh then heap else frzL heap bs⟩
    | .value x => match St.ev G ⟨n, env, heap⟩ x with
      | .fn f cs => argsEv (lk heap) (c.args.toList.map (St.ev G ⟨n, env, heap⟩) ++ cs) fun xs bs => CallE P G f xs fun fresh r => K (.d r) ⟨n, env, if fresh then heap else frzL heap bs⟩
      | _ => False
    | _ => False
  | _ => False
def evOp' (P : Program) (G : Glob) (T : Tab) (σ : St) (o : Oper) (K : St → Prop) : Prop :=
  match σ with
  | ⟨n, env, heap⟩ => match kindOf o.op with
    | 0 => valEv T (St.ev G ⟨n, env, heap⟩) (lk heap) o.op fun r => St.putK ⟨n, env, heap⟩ o.dst r K
    | 1 => match o.dst with
      | some d => Cd ((lk heap d).isNone = true) (newEv T (St.ev G ⟨n, env, heap⟩) d o.op fun r l => St.putK ⟨n, env, (d, false, l) :: heap⟩ (some d) r K)
      | none => False
    | 2 => wrEv' T G n env heap o.dst o.op fun r σ' => σ'.putK o.dst r K
    | _ => callEv' P G n env heap o.op fun r σ' => σ'.putK o.dst r K
def evOps' (P : Program) (G : Glob) (T : Tab) (ops : Array Oper) : List Oper → St → (St → Prop) → Prop
  | [], σ, Q => Q σ
  | o :: rest, σ, Q => evGuard ops σ o (fun σ => evOp' P G T σ o fun σ' => evOps' P G T ops rest σ' Q) (fun σ => σ.putK o.dst (.d (.tup [])) fun σ => evOps' P G T ops rest σ Q)
theorem frzL_eq (n : Nat) (env : List (Nat × A)) (heap : List (Nat × Bool × List A)) (bs : List Nat) : St.freeze ⟨n, env, heap⟩ bs = ⟨n, env, frzL heap bs⟩ := by cases bs <;> rfl
theorem callEv'_eq (P : Program) (G : Glob) (n : Nat) (env : List (Nat × A)) (heap : List (Nat × Bool × List A)) (op : Op) (K : A → St → Prop) : callEv' P G n env heap op K = callEv P G ⟨n, env, heap⟩ op K := by
  have e : ∀ (fresh : Bool) (bs : List Nat), (⟨n, env, if fresh then heap else frzL heap bs⟩ : St) = if fresh then ⟨n, env, heap⟩ else St.freeze ⟨n, env, heap⟩ bs := by
    intro fresh bs; cases fresh
    · simp [frzL_eq]
    · rfl
  unfold callEv' callEv
  simp only [e]
  rfl
theorem wrEv'_eq (T : Tab) (G : Glob) (n : Nat) (env : List (Nat × A)) (heap : List (Nat × Bool × List A)) (d : Option Nat) (op : Op) (K : A → St → Prop) : wrEv' T G n env heap d op K = wrEv T G ⟨n, env, heap⟩ d op K := rfl
theorem evOp'_eq (P : Program) (G : Glob) (T : Tab) (σ : St) (o : Oper) (K : St → Prop) : evOp' P G T σ o K = evOp P G T σ o K := by
  obtain ⟨n, env, heap⟩ := σ
  unfold evOp' evOp
  simp only [callEv'_eq, wrEv'_eq]
  rfl
theorem evOps'_eq (P : Program) (G : Glob) (T : Tab) (ops : Array Oper) : ∀ (l : List Oper) (σ : St) (Q : St → Prop), evOps' P G T ops l σ Q = evOps P G T ops l σ Q
  | [], σ, Q => rfl
  | o :: rest, σ, Q => by simp only [evOps', evOps, evOp'_eq, evOps'_eq P G T ops rest]

/-- A call: of data, or with memory of the call's own. -/
inductive CallX (P : Program) (G : Glob) (n : Nat) (env : List (Nat × A)) (heap : List (Nat × Bool × List A)) (f : FuncId) (xs : List A) (K : A → St → Prop) : Prop where
  | data (h : argsEv (lk heap) xs fun ds bs => CallE P G f ds fun fresh r => K (.d r) ⟨n, env, if fresh then heap else frzL heap bs⟩)
  | own (h : CallA P G n env heap f xs K)
def callEvX (P : Program) (G : Glob) (n : Nat) (env : List (Nat × A)) (heap : List (Nat × Bool × List A)) (op : Op) (K : A → St → Prop) : Prop :=
  match op with
  | .call c => match c.callee with
    | .value (.func f) => CallX P G n env heap f (c.args.toList.map (St.ev G ⟨n, env, heap⟩)) K
    | .value x => match St.ev G ⟨n, env, heap⟩ x with
      | .fn f cs => CallX P G n env heap f (c.args.toList.map (St.ev G ⟨n, env, heap⟩) ++ cs) K
      | _ => False
    | _ => False
  | _ => False
def evOpX (P : Program) (G : Glob) (T : Tab) (σ : St) (o : Oper) (K : St → Prop) : Prop :=
  match σ with
  | ⟨n, env, heap⟩ => match kindOf o.op with
    | 0 => valEv T (St.ev G ⟨n, env, heap⟩) (lk heap) o.op fun r => St.putK ⟨n, env, heap⟩ o.dst r K
    | 1 => match o.dst with
      | some d => Cd ((lk heap d).isNone = true) (newEv T (St.ev G ⟨n, env, heap⟩) d o.op fun r l => St.putK ⟨n, env, (d, false, l) :: heap⟩ (some d) r K)
      | none => False
    | 2 => wrEv' T G n env heap o.dst o.op fun r σ' => σ'.putK o.dst r K
    | _ => callEvX P G n env heap o.op fun r σ' => σ'.putK o.dst r K
def evOpsX (P : Program) (G : Glob) (T : Tab) (ops : Array Oper) : List Oper → St → (St → Prop) → Prop
  | [], σ, Q => Q σ
  | o :: rest, σ, Q => evGuard ops σ o (fun σ => evOpX P G T σ o fun σ' => evOpsX P G T ops rest σ' Q) (fun σ => σ.putK o.dst (.d (.tup [])) fun σ => evOpsX P G T ops rest σ Q)
theorem evOpX_low {P : Program} {G : Glob} {T : Tab} {n : Nat} {env : List (Nat × A)} {heap : List (Nat × Bool × List A)} {o : Oper} {K : St → Prop} (hc : kindOf o.op ≤ 2) (hk : evOpX P G T ⟨n, env, heap⟩ o K) : evOp' P G T ⟨n, env, heap⟩ o K := by
  unfold evOpX at hk
  unfold evOp'
  simp only at hk ⊢
  have h3 : kindOf o.op = 0 ∨ kindOf o.op = 1 ∨ kindOf o.op = 2 := by omega
  rcases h3 with e | e | e <;> rw [e] at hk ⊢ <;> exact hk
theorem evOpX_call {P : Program} {G : Glob} {T : Tab} {n : Nat} {env : List (Nat × A)} {heap : List (Nat × Bool × List A)} {o : Oper} {K : St → Prop} (hc : ¬ kindOf o.op ≤ 2) (hk : evOpX P G T ⟨n, env, heap⟩ o K) : callEvX P G n env heap o.op (fun r σ' => σ'.putK o.dst r K) := by
  unfold evOpX at hk
  simp only at hk
  have h3 : kindOf o.op = 3 := by have := kindOf_le o.op; omega
  rw [h3] at hk
  exact hk
theorem evOpX_sound {P : Program} {G : Glob} {T : Tab} {w0 : World} {M : Own} {S0 : Imm} {σ : St} {a : Act} {w : World} {β : Own} {S : Imm} (hT : TabOk P T) (h : Rel G w0 M S0 σ a w β S) {o : Oper} (hd : ∀ d, o.dst = some d → d < σ.n) {K : St → Prop} (hk : evOpX P G T σ o K) (Q : Exit → Act → World → Prop) :
    o.wp P a w (Post G w0 M S0 σ.n K) Q := by
  obtain ⟨n, env, heap⟩ := σ
  by_cases hc : kindOf o.op ≤ 2
  · refine evOp_sound hT h hd ?_ Q
    rw [← evOp'_eq]
    exact evOpX_low hc hk
  · replace hk := evOpX_call hc hk
    clear hc
    obtain ⟨dst, op, type, pos, after, guard⟩ := o
    simp only at hk hd
    unfold callEvX at hk
    split at hk
    · rename_i c
      obtain ⟨callee, args, at_⟩ := c
      simp only at hk
      split at hk
      · rename_i f
        cases hk with
        | data hk =>
          refine callEv_sound h (o := ⟨dst, .call ⟨.value (.func f), args, at_⟩, type, pos, after, guard⟩) (K := fun r σ' => σ'.putK dst r K) ?_ Q _ ?_
          · rw [← callEv'_eq]; exact hk
          · intro r σ' v w' β' S' hK hrel hR hn
            rw [St.putK_eq] at hK
            exact ⟨_, β', S', hK, hrel.put hR (fun d hd' => by rw [hn]; exact hd d hd'), by rw [← hn]; cases dst <;> rfl⟩
        | own hk =>
          refine callA_sound h (o := ⟨dst, .call ⟨.value (.func f), args, at_⟩, type, pos, after, guard⟩) rfl (K := fun r σ' => σ'.putK dst r K) hk Q _ ?_
          intro r σ' v w' β' S' hK hrel hR hn
          rw [St.putK_eq] at hK
          exact ⟨_, β', S', hK, hrel.put hR (fun d hd' => by rw [hn]; exact hd d hd'), by rw [← hn]; cases dst <;> rfl⟩
      · rename_i x _
        have hx := h.ev x
        split at hk
        · rename_i f cs e
          rw [e] at hx
          simp only [AR] at hx
          obtain ⟨vs, hv, hcs⟩ := hx
          have hall : ARs β S w (args.toList.map (St.ev G ⟨n, env, heap⟩) ++ cs) (args.toList.map a.eval ++ vs.toList) := ARs_app (ARs.map (fun x => h.ev x) args.toList) hcs
          have hexec : callable P f = true → (execOp a.eval ⟨dst, .call ⟨.value x, args, at_⟩, type, pos, after, guard⟩).run P w = .ok (.enter f (args.toList.map a.eval ++ vs.toList).toArray) w := fun hc => by
            have harr : (args.toList.map a.eval ++ vs.toList).toArray = args.map a.eval ++ vs := by cases args; cases vs; simp
            rw [harr]
            simp only [execOp, Sem.run_bind, resolve]
            rw [hv]
            simp [Deferred.ofValue, invoke, run_callFunc hc]
          cases hk with
          | data hk =>
            refine callD_sound h hall hexec (K := fun r σ' => σ'.putK dst r K) ?_ Q _ ?_
            · have e2 : ∀ (fresh : Bool) (bs : List Nat), (⟨n, env, if fresh then heap else frzL heap bs⟩ : St) = if fresh then ⟨n, env, heap⟩ else St.freeze ⟨n, env, heap⟩ bs := by
                intro fresh bs; cases fresh
                · simp [frzL_eq]
                · rfl
              simp only [e2] at hk
              exact hk
            · intro r σ' v w' β' S' hK hrel hR hn
              rw [St.putK_eq] at hK
              exact ⟨_, β', S', hK, hrel.put hR (fun d hd' => by rw [hn]; exact hd d hd'), by rw [← hn]; cases dst <;> rfl⟩
          | own hk =>
            refine callA_soundG h hall hexec (K := fun r σ' => σ'.putK dst r K) hk Q _ ?_
            intro r σ' v w' β' S' hK hrel hR hn
            rw [St.putK_eq] at hK
            exact ⟨_, β', S', hK, hrel.put hR (fun d hd' => by rw [hn]; exact hd d hd'), by rw [← hn]; cases dst <;> rfl⟩
        · exact hk.elim
      · exact hk.elim
    · exact hk.elim
theorem evOpsX_sound {P : Program} {G : Glob} {T : Tab} {w0 : World} {M : Own} {S0 : Imm} (hT : TabOk P T) {ops : Array Oper} {n : Nat} (hd : ∀ o ∈ ops.toList, ∀ d, o.dst = some d → d < n) {Q : Exit → Act → World → Prop} {K : St → Prop} (hQ : ∀ a w, Post G w0 M S0 n K a w → Q .normal a w) :
    ∀ (rest : List Oper) (i : Nat) (σ : St) (a : Act) (w : World) (β : Own) (S : Imm), ops.toList.drop i = rest → σ.n = n → Rel G w0 M S0 σ a w β S → evOpsX P G T ops rest σ K → wpOps P ops Q ((List.range rest.length).map (i + ·)) a w
  | [], i, σ, a, w, β, S, _, hn, h, hk => by
    simp only [wpOps, List.length_nil, List.range_zero, List.map_nil]
    exact hQ a w ⟨σ, β, S, hk, h, hn⟩
  | o :: rest, i, σ, a, w, β, S, hdr, hn, h, hk => by
    have hi : ops[i]? = some o := by
      have : (ops.toList.drop i)[0]? = some o := by rw [hdr]; rfl
      simpa using this
    have hdr2 : ops.toList.drop (i + 1) = rest := by
      have : (ops.toList.drop i).drop 1 = rest := by rw [hdr]; rfl
      rwa [List.drop_drop] at this
    have hmem : o ∈ ops.toList := by
      have : ops.toList[i]? = some o := by simpa using hi
      exact List.mem_of_getElem? this
    have hlist : (List.range (o :: rest).length).map (i + ·) = i :: (List.range rest.length).map (i + 1 + ·) := by
      rw [List.length_cons, List.range_succ_eq_map, List.map_cons, List.map_map]
      congr 1
      apply List.map_congr_left
      intro j _
      simp only [Function.comp_def, Nat.succ_eq_add_one]; omega
    rw [hlist, wpOps_cons]
    simp only [evOpsX] at hk
    obtain ⟨σ1, h1, hn1, hcase⟩ := evGuard_sound h hk
    have hdo : ∀ d, o.dst = some d → d < σ1.n := fun d hd' => by rw [hn1, hn]; exact hd o hmem d hd'
    rcases hcase with ⟨hw, hy⟩ | ⟨hw, hno⟩
    · refine wpOp_of_wp hi hw (Oper.wp_mono ?_ (evOpX_sound hT h1 hdo hy Q))
      rintro a' w' ⟨σ2, β2, S2, hK2, h2, hn2⟩
      exact evOpsX_sound hT hd hQ rest (i + 1) σ2 a' w' β2 S2 hdr2 (by rw [hn2, hn1, hn]) h2 hK2
    · simp only [wpOp, hi, hw, Bool.false_eq_true, if_false]
      rw [St.putK_eq] at hno
      refine evOpsX_sound hT hd hQ rest (i + 1) _ _ w β S hdr2 ?_ (put_undef h1 o.dst hdo) hno
      cases o.dst <;> exact hn1.trans hn

def awp (P : Program) (G : Glob) (T : Tab) : Code → (Exit → St → Prop) → St → Prop
  | .skip, Q, σ => Q .normal σ
  | .label _, Q, σ => Q .normal σ
  | .exit i, Q, σ => Q (.exit i) σ
  | .goto l, Q, σ => Q (.goto l) σ
  | .ret, Q, σ => Q .ret σ
  | .seq a b, Q, σ => awp P G T a (fun e σ' => match e with | .normal => awp P G T b Q σ' | e => Q e σ') σ
  | .cond c a b, Q, σ => match σ.ev G c with
    | .d (.bool t) => Br t (awp P G T a Q σ) (awp P G T b Q σ)
    | _ => False
  | .block id c, Q, σ => awp P G T c (fun e σ' => match e with | .exit i => if i = id then Q .normal σ' else Q (.exit i) σ' | e => Q e σ') σ
  | .region _ ops draw, Q, σ => RegE (Cd (regOk T σ.n ops draw = true) (match draw with | true => evOps' P G T ops ops.toList σ (Q .normal) | false => evOpsX P G T ops ops.toList σ (Q .normal)))
      (fun ps => Cd (regOkL T σ.n ops draw ps = true) (evOps' P G T ops ops.toList σ (fun τ => LateE (disjAll G ops τ ps) (Q .normal τ))))
  | .loop c, Q, σ => ∃ (ad : List (Nat × Nat × Nat)) (L ks : List Nat) (I : Nat → List A → List (Nat × Bool × List A) → Prop),
      (σ.adopt ad fun σ => LoopAt I L ks σ) ∧
      ∀ m xs h, I m xs h → match σ with | ⟨n, _, _⟩ => awp P G T c (fun e σ' => match e with | .normal => LoopEnd I m L ks σ' | e => Q e σ') ⟨n, L.zip xs, h⟩
  | c, Q, σ => Wp' P G c Q σ

section
variable {P : Program} {G : Glob} {T : Tab}
theorem regOk_dst {n : Nat} {ops : Array Oper} {draw : Bool} (h : regOk T n ops draw = true) : (∀ o ∈ ops.toList, ∀ d, o.dst = some d → d < n) ∧ (draw = true → okDraw T ops = true) := by
  simp only [regOk, Bool.and_eq_true, Array.all_eq_true_iff_forall_mem] at h
  refine ⟨fun o ho d hd => ?_, fun e => by have := h.2; rw [e] at this; simpa using this⟩
  have := h.1 o (Array.mem_toList_iff.1 ho)
  rw [hd] at this
  simpa using this

theorem awp_sound (hT : TabOk P T) : ∀ (c : Code) (Q : Exit → St → Prop) (σ : St), awp P G T c Q σ → Wp' P G c Q σ
  | .skip, Q, σ, h => fun w0 M S0 a w β S hr => wp_skip ⟨σ, β, S, h, hr, rfl⟩
  | .label _, Q, σ, h => fun w0 M S0 a w β S hr => wp_label ⟨σ, β, S, h, hr, rfl⟩
  | .exit i, Q, σ, h => fun w0 M S0 a w β S hr => wp_exit ⟨σ, β, S, h, hr, rfl⟩
  | .goto l, Q, σ, h => fun w0 M S0 a w β S hr => wp_goto ⟨σ, β, S, h, hr, rfl⟩
  | .ret, Q, σ, h => fun w0 M S0 a w β S hr => wp_ret ⟨σ, β, S, h, hr, rfl⟩
  | .seq x y, Q, σ, h => fun w0 M S0 a w β S hr => by
    refine wp_seq (wp_mono (awp_sound hT x _ σ h w0 M S0 a w β S hr) ?_)
    rintro e a' w' ⟨σ', β', S', hq, hr', hn⟩
    cases e with
    | normal =>
      simp only [Exit.then]
      have := awp_sound hT y _ σ' hq w0 M S0 a' w' β' S' hr'
      rw [hn] at this
      exact this
    | _ => exact ⟨σ', β', S', hq, hr', hn⟩
  | .cond c x y, Q, σ, h => fun w0 M S0 a w β S hr => by
    simp only [awp] at h
    split at h
    · rename_i t ht
      have hv := hr.ev c
      rw [ht] at hv
      simp only [AR, DR] at hv
      exact wp_cond_split hv (fun e => awp_sound hT x Q σ (h.tt e) w0 M S0 a w β S hr) (fun e => awp_sound hT y Q σ (h.ff e) w0 M S0 a w β S hr)
    · exact h.elim
  | .block id c, Q, σ, h => fun w0 M S0 a w β S hr => by
    refine wp_block (wp_mono (awp_sound hT c _ σ h w0 M S0 a w β S hr) ?_)
    rintro e a' w' ⟨σ', β', S', hq, hr', hn⟩
    cases e with
    | exit i =>
      have hq : (if i = id then Q .normal σ' else Q (.exit i) σ') := hq
      simp only [Exit.inBlock]
      split
      · rename_i e
        rw [if_pos e] at hq
        exact ⟨σ', β', S', hq, hr', hn⟩
      · rename_i e
        rw [if_neg e] at hq
        exact ⟨σ', β', S', hq, hr', hn⟩
    | _ => exact ⟨σ', β', S', hq, hr', hn⟩
  | .region id ops draw, Q, σ, h => fun w0 M S0 a w β S hr => by
    rcases h with h | ⟨ps, h⟩
    rotate_left
    · obtain ⟨hok, h⟩ := h
      simp only [regOkL, Bool.and_eq_true] at hok
      obtain ⟨⟨hd, rfl⟩, hok⟩ := hok
      rw [evOps'_eq] at h
      refine late_sound hT hT.mix hok (fun o ho d hd' => ?_) (fun a w h => h) hr h
      have := Array.all_eq_true_iff_forall_mem.1 hd o (Array.mem_toList_iff.1 ho)
      rw [hd'] at this
      simpa using this
    obtain ⟨hok, h⟩ := h
    obtain ⟨hd, hdr⟩ := regOk_dst hok
    cases draw with
    | true =>
      simp only at h
      rw [evOps'_eq] at h
      exact draw_sound hT hT.mix (hdr rfl) hd (fun a w h => h) hr h
    | false => ?_
    simp only at h
    refine wp_region ?_
    have := evOpsX_sound (P := P) (G := G) (w0 := w0) (M := M) (S0 := S0) (K := Q .normal) (Q := fun e a' w' => Post G w0 M S0 σ.n (Q e) a' w') hT hd (fun a w h => h) ops.toList 0 σ a w β S (by simp) rfl hr h
    have e : (List.range ops.toList.length).map (0 + ·) = List.range ops.size := by simp
    rwa [e] at this
  | .loop c, Q, σ, h => fun w0 M S0 a w β S hr => by
    obtain ⟨ad, L, ks, I, had, hround⟩ := h
    obtain ⟨σ1, β1, ⟨m, xs, hh, hcut, hI⟩, hr1, hn1⟩ := Rel.adopt hr had
    intro b k cs
    have key : ∀ m a w xs hh β S, I m xs hh → Rel G w0 M S0 (St.at σ.n L xs hh) a w β S →
        ∃ e a' w', Post G w0 M S0 σ.n (Q e) a' w' ∧ Arrives P (lone (b.at a (.code c :: .inLoop c :: k)) cs w) b k cs e a' w' := by
      intro m
      induction m using Nat.strongRecOn with
      | _ m ih =>
        intro a w xs hh β S hI hr
        obtain ⟨e, a₁, w₁, ⟨σ', β', S', hq, hr', hn⟩, harr⟩ := awp_sound hT c _ _ (hround m xs hh hI) w0 M S0 a w β S hr b (.inLoop c :: k) cs
        cases e with
        | normal =>
          obtain ⟨m', xs', h', hcut', hlt, hI'⟩ := hq
          have hr2 := hr'.cut hcut'
          rw [hn] at hr2
          obtain ⟨e₂, a₂, w₂, hq₂, harr₂⟩ := ih m' hlt a₁ w₁ xs' h' _ S' hI' hr2
          exact ⟨e₂, a₂, w₂, hq₂, .of_steps (Steps.trans harr (.one step_inLoop)) harr₂⟩
        | exit id => exact ⟨_, a₁, w₁, ⟨σ', β', S', hq, hr', hn⟩, .pass (x := .inLoop c) rfl (fun _ _ => .inl (by simp)) harr⟩
        | goto l => exact ⟨_, a₁, w₁, ⟨σ', β', S', hq, hr', hn⟩, .pass (x := .inLoop c) rfl (fun _ _ => .inl (by simp)) harr⟩
        | ret => exact ⟨_, a₁, w₁, ⟨σ', β', S', hq, hr', hn⟩, .pass (x := .inLoop c) rfl (fun _ _ => .inl (by simp)) harr⟩
        | panic ch => exact ⟨_, a₁, w₁, ⟨σ', β', S', hq, hr', hn⟩, .pass (x := .inLoop c) rfl (fun _ _ => .inl (by simp)) harr⟩
        | outgrown => exact ⟨_, a₁, w₁, ⟨σ', β', S', hq, hr', hn⟩, .pass (x := .inLoop c) rfl (fun _ _ => .inl (by simp)) harr⟩
    have hr2 := hr1.cut hcut
    rw [hn1] at hr2
    obtain ⟨e, a', w', hq, harr⟩ := key m a w xs hh _ S hI hr2
    exact ⟨e, a', w', hq, .of_steps (.one step_loop) harr⟩
  | .rangeFunc f ps x c, Q, σ, h => h
  | .scope c, Q, σ, h => h
  | .refuse why, Q, σ, h => h

/-- What a function gives back. -/
def resEv (T : Tab) (σ : St) : List ResultVar → (List D → List Nat → Prop) → Prop
  | [], K => K [] []
  | .tmp t :: rs, K => argEv σ.hp (σ.get t) fun x bs => resEv T σ rs fun xs bs' => K (x :: xs) (bs ++ bs')
  | .cell c t :: rs, K => loadEv T σ.hp t (σ.get c) fun y => argEv σ.hp y fun x bs => resEv T σ rs fun xs bs' => K (x :: xs) (bs ++ bs')
def mkRes : List D → D
  | [x] => x
  | xs => .tup xs
/-- What is given back is what was promised. -/
structure Res (r : D) (xs : List D) : Prop where
  h : r = mkRes xs
def retEv (T : Tab) (rs : List ResultVar) (r : D) (e : Exit) (σ : St) : Prop :=
  match e with
  | .ret | .normal => resEv T σ rs fun xs _ => Res r xs
  | _ => False
def enterEnv : Nat → List D → List (Nat × A)
  | _, [] => []
  | i, x :: xs => (i, .d x) :: enterEnv (i + 1) xs
def St.enter (n : Nat) (args : List D) : St := { n, env := enterEnv 0 args, heap := [] }

/-- No memory hangs on it. -/
def D.sc : D → Bool
  | .bool _ | .int _ _ | .str _ | .any | .nil => true
  | .raw _ => true
  | .slice _ _ => false
  | .agg _ => false
  | .ptrd _ => false
  | .fnd _ _ => false
  | .tup l => l.all fun | .bool _ | .int _ _ | .str _ | .any | .nil | .raw _ => true | _ => false

theorem D.sc_DR {S S' : Imm} {w w' : World} : ∀ {x : D} {v : Value}, x.sc = true → DR S w x v → DR S' w' x v := by
  intro x v hs h
  cases x with
  | slice _ _ => simp [D.sc] at hs
  | agg _ => simp [D.sc] at hs
  | ptrd _ => simp [D.sc] at hs
  | fnd _ _ => simp [D.sc] at hs
  | tup l =>
    simp only [DR] at h ⊢
    obtain ⟨vs, hv, hl⟩ := h
    refine ⟨vs, hv, DRs_mk (DRs_length hl) fun j y u hj hu => ?_⟩
    obtain ⟨u', hu', hR⟩ := DRs_get hl hj
    rw [hu] at hu'; cases hu'
    simp only [D.sc, List.all_eq_true] at hs
    have := hs y (List.mem_of_getElem? hj)
    cases y <;> first | (simp at this; done) | (simp only [DR] at hR ⊢; exact hR) | exact hR
  | _ => first | exact h | (simp only [DR] at h ⊢; exact h)

theorem lk_enter {S : Imm} {w : World} {β : Own} : ∀ {args : List D} {vs : List Value} {i t : Nat} {x : A}, DRs S w args vs → lk (enterEnv i args) t = some x → ∃ u, i ≤ t ∧ vs[t - i]? = some u ∧ AR β S w x u
  | [], vs, i, t, x, _, h => by simp [enterEnv, lk] at h
  | y :: args, vs, i, t, x, hd, h => by
    simp only [DRs] at hd
    obtain ⟨u, us, rfl, h1, h2⟩ := hd
    simp only [enterEnv, lk] at h
    split at h
    · rename_i e
      subst e; cases h
      exact ⟨u, Nat.le_refl _, by simp, by simp only [AR]; exact h1⟩
    · obtain ⟨u', h3, h4, h5⟩ := lk_enter h2 h
      refine ⟨u', by omega, ?_, h5⟩
      rw [show t - i = (t - (i + 1)) + 1 by omega]
      simpa using h4

theorem resEv_sound (hT : TabOk P T) {w0 : World} {M : Own} {S0 : Imm} {σ : St} {a : Act} {w : World} {β : Own} {S : Imm} (h : Rel G w0 M S0 σ a w β S) : ∀ {rs : List ResultVar} {K : List D → List Nat → Prop}, resEv T σ rs K →
    ∃ ds bs vs, K ds bs ∧ (∀ b ∈ bs, ∃ (fr : Bool) (l : List D), σ.hp b = some (fr, l.map A.d)) ∧ (∀ bs', (∀ b ∈ bs, b ∈ bs') → DRs (frzImm β σ bs' S) w ds vs) ∧
      (rs.mapM (fun | ResultVar.tmp t => pure (a.tmps.getD t undef) | .cell c t => do loadVar t (← asAddr (a.tmps.getD c undef)) : ResultVar → Sem Value)).run P w = .ok vs w
  | [], K, hk => ⟨[], [], [], hk, by simp, fun _ _ => rfl, by simp⟩
  | .tmp t :: rs, K, hk => by
    simp only [resEv] at hk
    obtain ⟨d, bs, hk, hb, hd⟩ := argEv_sound h hk (h.get t)
    obtain ⟨ds, bs2, vs, hk, hb2, hds, hrun⟩ := resEv_sound hT h hk
    refine ⟨_, _, a.tmps.getD t undef :: vs, hk, fun b hb' => ?_, fun bs' hbs => ⟨_, _, rfl, hd bs' fun b hb => hbs b (by simp [hb]), hds bs' fun b hb => hbs b (by simp [hb])⟩, ?_⟩
    · rcases List.mem_append.1 hb' with hb' | hb'
      · exact hb b hb'
      · exact hb2 b hb'
    · simp only [List.mapM_cons, Sem.run_bind, Sem.run_pure, Result.andThen_ok, hrun]
  | .cell c t :: rs, K, hk => by
    simp only [resEv] at hk
    obtain ⟨y, v, hk, hR, hrun0⟩ := loadEv_sound (P := P) hT h.hrd hk (h.get c)
    obtain ⟨d, bs, hk, hb, hd⟩ := argEv_sound h hk hR
    obtain ⟨ds, bs2, vs, hk, hb2, hds, hrun⟩ := resEv_sound hT h hk
    refine ⟨_, _, v :: vs, hk, fun b hb' => ?_, fun bs' hbs => ⟨_, _, rfl, hd bs' fun b hb => hbs b (by simp [hb]), hds bs' fun b hb => hbs b (by simp [hb])⟩, ?_⟩
    · rcases List.mem_append.1 hb' with hb' | hb'
      · exact hb b hb'
      · exact hb2 b hb'
    · have hrun1 : (do loadVar t (← asAddr (a.tmps.getD c undef)) : Sem Value).run P w = .ok v w := by
        rw [← hrun0]
        unfold Instr.loadAt
        cases hv : a.tmps.getD c undef with
        | pointer p =>
          cases p with
          | none => rw [hv] at hrun0; simp [Instr.loadAt, Instr.sureAddr] at hrun0
          | some p => rfl
        | _ => rw [hv] at hrun0; simp [Instr.loadAt, Instr.sureAddr] at hrun0
      simp only [List.mapM_cons, Sem.run_bind, hrun1, Sem.run_pure, Result.andThen_ok, hrun]

/-- A FUNCTION KEEPS ITS CONTRACT, IF ITS CODE, WALKED, GIVES WHAT THE CONTRACT SAYS. -/
theorem sim_of_awpE (hT : TabOk P T) {f : FuncId} {fn : Func} {c : Code} {args : List D} {r : D} {env : List (Nat × A)} (henv : ∀ {S : Imm} {w : World} {β : Own} {vs : List Value} {t : Nat} {x : A}, DRs S w args vs → lk env t = some x → ∃ u, 0 ≤ t ∧ vs[t - 0]? = some u ∧ AR β S w x u) (hf : P.funcs[f]? = some fn) (hb : fn.body = some c) (hname : (fn.name == "runtime.NumGoroutine") = false) (hn : args.length ≤ fn.ntmps ∧ fn.ntmps ≤ 1000000)
    (h : awp P G T c (retEv T fn.results.toList r) ⟨fn.ntmps, env, []⟩) : Sim P G r.sc f args r := by
  refine ⟨by simp [callable, hf, hb, hname], fun S w vs hS hG hargs => ?_⟩
  refine calls_of_wp hf hb ?_
  have hlen := DRs_length hargs
  have hrel : Rel G w (fun _ => none) S ⟨fn.ntmps, env, []⟩ { tmps := vs.toArray ++ Array.replicate (fn.ntmps - vs.toArray.size) undef, defers := [] } w (fun _ => none) S := by
    refine { defers := rfl, size := ?_, env := ?_, glob := hG, keys := ?_, rd := ?_, live := ?_, froz := ?_, fd := ?_, nilb := ?_, inj := ?_, imm := hS, old := fun _ _ h _ => .inl h, ext := ⟨rfl, rfl, rfl, Nat.le_refl _, fun _ _ _ => rfl, fun k C Tc fr hk => ⟨C, hk, rfl⟩⟩, stay := fun _ _ _ h => absurd rfl h, small := hn.2, src := fun _ _ h => by cases h }
    · simp; omega
    · intro t x hx
      obtain ⟨u, _, hu, hR⟩ := henv (β := fun _ => none) hargs hx
      simp only [Nat.sub_zero] at hu
      have hlt : t < vs.length := (List.getElem?_eq_some_iff.1 hu).1
      have : (vs.toArray ++ Array.replicate (fn.ntmps - vs.toArray.size) undef).getD t undef = u := by
        rw [Array.getD_eq_getD_getElem?, Array.getElem?_append, if_pos (by simpa using hlt)]
        simp [hu]
      rw [this]; exact hR
    all_goals intros; simp_all [lk]
  refine wp_mono (awp_sound hT c _ _ h w _ _ _ w _ S hrel) ?_
  rintro e a' w' ⟨σ', β', S', hq, hr, hn'⟩
  have hfin : resEv T σ' fn.results.toList (fun xs _ => Res r xs) → bodyPost P fn (fun e w' => ∃ v, e = .returned v ∧ RowKit.Below w.heap.size w w' ∧
      ∃ S' : Imm, (∀ k o, S' k o → (r.sc = false ∧ S k o) ∨ (w.heap.size ≤ k ∧ k < w'.heap.size)) ∧ DR S' w' r v) .ret a' w' := by
    intro hq
    obtain ⟨ds, bs, us, ⟨rfl⟩, hbs, hds, hrun⟩ := resEv_sound hT hr hq
    have hd := hds bs (fun _ h => h)
    have hfr := hr.freeze hbs
    have hres : (results fn a'.tmps).run P w' = .ok (if h : us.toArray.size = 1 then us.toArray[0] else .tuple us.toArray) w' := by
      unfold results
      rw [Array.mapM_eq_mapM_toList]
      have : (List.mapM (fun | ResultVar.tmp t => pure (a'.tmps.getD t undef) | .cell c t => do loadVar t (← asAddr (a'.tmps.getD c undef)) : ResultVar → Sem Value) fn.results.toList).run P w' = .ok us w' := hrun
      simp only [Sem.run_bind, Sem.run_map]
      erw [this]
      simp only [Result.andThen_ok, Sem.run_pure]
    have hR : DR (frzImm β' σ' bs S') w' (mkRes ds) (if h : us.toArray.size = 1 then us.toArray[0] else .tuple us.toArray) := by
      have hl := DRs_length hd
      unfold mkRes
      split
      · rename_i x
        simp only [DRs] at hd
        obtain ⟨u, us', rfl, h1, rfl⟩ := hd
        simpa using h1
      · rename_i hne
        rw [dif_neg]
        · simp only [DR]; exact ⟨us.toArray, rfl, hd⟩
        · intro h1
          have : ds.length = 1 := by rw [← hl]; simpa using h1
          obtain ⟨x, rfl⟩ := List.length_eq_one_iff.1 this
          exact hne x rfl
    refine ⟨hr.defers, _, hres, _, rfl, ⟨hr.ext.os, hr.ext.tape, hr.ext.output, hr.ext.size, fun k hk => hr.ext.block k hk (by rintro ⟨_, h⟩; cases h)⟩, ?_⟩
    cases hsc : (mkRes ds).sc with
    | true => exact ⟨fun _ _ => False, fun _ _ h => h.elim, D.sc_DR hsc hR⟩
    | false =>
      refine ⟨_, fun k o hk => ?_, hR⟩
      by_cases hlt : k < w.heap.size
      · rcases hfr.old k o hk hlt with h1 | h1
        · exact .inl ⟨rfl, h1⟩
        · obtain ⟨_, h1⟩ := h1; cases h1
      · exact .inr ⟨by omega, hfr.imm k o hk⟩
  cases e with
  | normal => exact hfin hq
  | ret => exact hfin hq
  | _ => exact hq.elim

theorem sim_of_awp (hT : TabOk P T) {f : FuncId} {fn : Func} {c : Code} {args : List D} {r : D} (hf : P.funcs[f]? = some fn) (hb : fn.body = some c) (hname : (fn.name == "runtime.NumGoroutine") = false) (hn : args.length ≤ fn.ntmps ∧ fn.ntmps ≤ 1000000)
    (h : awp P G T c (retEv T fn.results.toList r) (St.enter fn.ntmps args)) : Sim P G r.sc f args r :=
  sim_of_awpE hT (env := enterEnv 0 args) (fun hd hx => lk_enter hd hx) hf hb hname hn h

/-- Data that tells places of cells, and functions, as a slot holds it. -/
def D.toA1 : D → A
  | .ptrd c => .elem c
  | x => .d x
def D.toA : D → A
  | .ptrd c => .elem c
  | .fnd f l => .fn f (l.map D.toA1)
  | .raw (.func (.func f) ⟨[]⟩ ⟨[]⟩) => .fn f []
  | x => .d x
theorem AR.toA1 {β : Own} {S : Imm} {w : World} : ∀ {x : D} {v : Value}, DR S w x v → AR β S w x.toA1 v := by
  intro x v h
  unfold D.toA1
  split
  · simp only [DR] at h; simp only [AR]; exact h
  · simp only [AR]; exact h
theorem AR.toA {β : Own} {S : Imm} {w : World} : ∀ {x : D} {v : Value}, DR S w x v → AR β S w x.toA v := by
  intro x v h
  unfold D.toA
  split
  · simp only [DR] at h; simp only [AR]; exact h
  · rename_i f l
    simp only [DR] at h
    obtain ⟨vs, hv, hl⟩ := h
    simp only [AR]
    refine ⟨vs, hv, ARs_mk (by simpa using DRs_length hl) fun j x u hj hu => ?_⟩
    simp only [List.getElem?_map, Option.map_eq_some_iff] at hj
    obtain ⟨y, hy, rfl⟩ := hj
    obtain ⟨u', hu', hR⟩ := DRs_get hl hy
    rw [hu] at hu'; cases hu'
    exact AR.toA1 hR
  · simp only [DR] at h
    simp only [AR]
    exact ⟨_, h, rfl⟩
  · simp only [AR]; exact h
def enterEnvP : Nat → List D → List (Nat × A)
  | _, [] => []
  | i, x :: xs => (i, x.toA) :: enterEnvP (i + 1) xs
theorem lk_enterP {S : Imm} {w : World} {β : Own} : ∀ {args : List D} {vs : List Value} {i t : Nat} {x : A}, DRs S w args vs → lk (enterEnvP i args) t = some x → ∃ u, i ≤ t ∧ vs[t - i]? = some u ∧ AR β S w x u
  | [], vs, i, t, x, _, h => by simp [enterEnvP, lk] at h
  | y :: args, vs, i, t, x, hd, h => by
    simp only [DRs] at hd
    obtain ⟨u, us, rfl, h1, h2⟩ := hd
    simp only [enterEnvP, lk] at h
    split at h
    · rename_i e
      subst e; cases h
      exact ⟨u, Nat.le_refl _, by simp, AR.toA h1⟩
    · obtain ⟨u', h3, h4, h5⟩ := lk_enterP h2 h
      refine ⟨u', by omega, ?_, h5⟩
      rw [show t - i = (t - (i + 1)) + 1 by omega]
      simpa using h4
/-- A function with arguments that tell places of cells, or functions. -/
theorem sim_mkP (hT : TabOk P T) {f : FuncId} {fn : Func} {c : Code} {args : List D} {r : D} {fresh : Bool} (hf : P.funcs[f]? = some fn) (hb : fn.body = some c) (hname : (fn.name == "runtime.NumGoroutine") = false) (hs : r.sc = fresh) (hn : args.length ≤ fn.ntmps ∧ fn.ntmps ≤ 1000000)
    (h : awp P G T c (retEv T fn.results.toList r) ⟨fn.ntmps, enterEnvP 0 args, []⟩) : Sim P G fresh f args r :=
  hs ▸ sim_of_awpE hT (env := enterEnvP 0 args) (fun hd hx => lk_enterP hd hx) hf hb hname hn h

/-- The same, the marks as they are wanted. -/
theorem sim_mk (hT : TabOk P T) {f : FuncId} {fn : Func} {c : Code} {args : List D} {r : D} {fresh : Bool} (hf : P.funcs[f]? = some fn) (hb : fn.body = some c) (hname : (fn.name == "runtime.NumGoroutine") = false) (hs : r.sc = fresh) (hn : args.length ≤ fn.ntmps ∧ fn.ntmps ≤ 1000000)
    (h : awp P G T c (retEv T fn.results.toList r) (St.enter fn.ntmps args)) : Sim P G fresh f args r := hs ▸ sim_of_awp hT hf hb hname hn h

/-- What is given back, with memory of the caller's own. -/
inductive RetA (T : Tab) (rs : List ResultVar) (r : A) (hout : Hp) (σ : St) : Prop where
  | own (t : Nat) (h : rs = [.tmp t]) (h1 : σ.get t = r) (h2 : σ.heap.filter (fun x => (hout.map (·.1)).contains x.1) = hout)
  | data (x : D) (h : resEv T σ rs fun xs bs => mkRes xs = x ∧ (frzH σ.heap bs).filter (fun x => (hout.map (·.1)).contains x.1) = hout) (h1 : r = .d x)
def retA (T : Tab) (rs : List ResultVar) (r : A) (hout : Hp) (e : Exit) (σ : St) : Prop :=
  match e with
  | .ret | .normal => RetA T rs r hout σ
  | _ => False
def enterA : Nat → List A → List (Nat × A)
  | _, [] => []
  | i, x :: xs => (i, x) :: enterA (i + 1) xs
theorem lk_enterA {S : Imm} {w : World} {β : Own} : ∀ {args : List A} {vs : List Value} {i t : Nat} {x : A}, ARs β S w args vs → lk (enterA i args) t = some x → ∃ u, i ≤ t ∧ vs[t - i]? = some u ∧ AR β S w x u
  | [], vs, i, t, x, h, hx => by simp [enterA, lk] at hx
  | y :: ys, vs, i, t, x, h, hx => by
    simp only [ARs] at h
    obtain ⟨u, us, rfl, h1, h2⟩ := h
    simp only [enterA, lk] at hx
    split at hx
    · rename_i e
      subst e
      cases hx
      exact ⟨u, Nat.le_refl _, by simp, h1⟩
    · rename_i hne
      obtain ⟨u', h3, h4, h5⟩ := lk_enterA h2 hx
      refine ⟨u', by omega, ?_, h5⟩
      have e : t - i = (t - (i + 1)) + 1 := by omega
      rw [e]; simpa using h4
theorem simA_mk (hT : TabOk P T) {f : FuncId} {fn : Func} {c : Code} {args : List A} {hin : Hp} {r : A} {hout : Hp} (hf : P.funcs[f]? = some fn) (hb : fn.body = some c) (hname : (fn.name == "runtime.NumGoroutine") = false) (hn : args.length ≤ fn.ntmps ∧ fn.ntmps ≤ 1000000)
    (r1 : A.refsIns (hin.map (·.1)) args = true) (r2 : ∀ x ∈ hin, A.refsIns (hin.map (·.1)) x.2.2 = true) (r3 : r.refsIn (hout.map (·.1)) = true) (r4 : ∀ x ∈ hout, A.refsIns (hout.map (·.1)) x.2.2 = true)
    (h : awp P G T c (retA T fn.results.toList r hout) ⟨fn.ntmps, enterA 0 args, hin⟩) : SimA P G f args hin r hout := by
  refine ⟨by simp [callable, hf, hb, hname], r1, r2, r3, r4, fun S w β vs hpre hargs => ?_⟩
  refine calls_of_wp hf hb ?_
  have hlen := ARs_length hargs
  have hrel : Rel G w β S ⟨fn.ntmps, enterA 0 args, hin⟩ { tmps := vs.toArray ++ Array.replicate (fn.ntmps - vs.toArray.size) undef, defers := [] } w β S := by
    refine { defers := rfl, size := ?_, env := ?_, glob := hpre.glob, keys := hpre.keys, rd := hpre.rd, live := hpre.live, froz := hpre.froz, fd := hpre.fd, nilb := hpre.nilb, inj := hpre.inj, imm := hpre.imm, old := hpre.old, ext := hpre.ext, stay := hpre.stay, small := hn.2, src := hpre.src }
    · simp; omega
    · intro t x hx
      obtain ⟨u, _, hu, hR⟩ := lk_enterA hargs hx
      simp only [Nat.sub_zero] at hu
      have hlt : t < vs.length := (List.getElem?_eq_some_iff.1 hu).1
      have : (vs.toArray ++ Array.replicate (fn.ntmps - vs.toArray.size) undef).getD t undef = u := by
        rw [Array.getD_eq_getD_getElem?, Array.getElem?_append, if_pos (by simpa using hlt)]
        simp [hu]
      rw [this]; exact hR
  refine wp_mono (awp_sound hT c _ _ h w _ _ _ w _ S hrel) ?_
  rintro e a' w' ⟨σ', β', S', hq, hr, hn'⟩
  have hfin : RetA T fn.results.toList r hout σ' → bodyPost P fn (fun e w' => ∃ v β' S', e = .returned v ∧ Rel G w β S (St.mem hout) act0 w' β' S' ∧ AR β' S' w' r v) .ret a' w' := by
    intro hq
    have hcut : ∀ {σ2 : St} {S2 : Imm}, Rel G w β S σ2 a' w' β' S2 → σ2.heap.filter (fun x => (hout.map (·.1)).contains x.1) = hout → Rel G w β S (St.mem hout) act0 w' (β'.only (hout.map (·.1))) S2 := by
      intro σ2 S2 h2 he
      refine (h2.cut (L := []) (ks := hout.map (·.1)) (xs := []) (hh := hout) ⟨.inl rfl, he, rfl, ?_⟩).only
      rw [List.all_eq_true]
      exact r4
    cases hq with
    | own t h0 h1 h2 =>
      refine ⟨hr.defers, a'.tmps.getD t undef, ?_, _, _, _, rfl, hcut hr h2, ?_⟩
      · unfold results
        have e1 : fn.results = #[.tmp t] := by
          cases hh : fn.results; rw [hh] at h0; simp only at h0; rw [h0]
        rw [e1]; simp
      · refine AR_only r3 ?_
        rw [← h1]; exact hr.get t
    | data x hq h1 =>
      obtain ⟨ds, bs, us, ⟨rfl, hflt⟩, hbs, hds, hrun⟩ := resEv_sound hT hr hq
      subst h1
      have hd := hds bs (fun _ h => h)
      have hfr := hr.freeze hbs
      have hfe : σ'.freeze bs = ⟨σ'.n, σ'.env, frzH σ'.heap bs⟩ := frzH_eq σ'.n σ'.env σ'.heap bs
      have hres : (results fn a'.tmps).run P w' = .ok (if h : us.toArray.size = 1 then us.toArray[0] else .tuple us.toArray) w' := by
        unfold results
        rw [Array.mapM_eq_mapM_toList]
        have : (List.mapM (fun | ResultVar.tmp t => pure (a'.tmps.getD t undef) | .cell c t => do loadVar t (← asAddr (a'.tmps.getD c undef)) : ResultVar → Sem Value) fn.results.toList).run P w' = .ok us w' := hrun
        simp only [Sem.run_bind, Sem.run_map]
        erw [this]
        simp only [Result.andThen_ok, Sem.run_pure]
      have hR : DR (frzImm β' σ' bs S') w' (mkRes ds) (if h : us.toArray.size = 1 then us.toArray[0] else .tuple us.toArray) := by
        have hl := DRs_length hd
        unfold mkRes
        split
        · rename_i x
          simp only [DRs] at hd
          obtain ⟨u, us', rfl, h1, rfl⟩ := hd
          simpa using h1
        · rename_i hne
          rw [dif_neg]
          · simp only [DR]; exact ⟨us.toArray, rfl, hd⟩
          · intro h1
            have : ds.length = 1 := by rw [← hl]; simpa using h1
            obtain ⟨x, rfl⟩ := List.length_eq_one_iff.1 this
            exact hne x rfl
      rw [hfe] at hfr
      exact ⟨hr.defers, _, hres, _, _, _, rfl, hcut hfr hflt, by simp only [AR]; exact hR⟩
  cases e with
  | normal => exact hfin hq
  | ret => exact hfin hq
  | _ => exact hq.elim
end
end Go.Ev
