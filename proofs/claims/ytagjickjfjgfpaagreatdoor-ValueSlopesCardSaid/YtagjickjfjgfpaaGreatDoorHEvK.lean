/- Contracts of the given functions, on data. Conditions stand in each theorem. -/
import Derived.Test.YtagjickjfjgfpaaGreatDoorHEvQx
set_option linter.unusedSimpArgs false
set_option linter.unusedVariables false
namespace Go.Ev
open Go
def Wp' (P : Program) (G : bb) (c : Code) (Q : Exit → St → Prop) (σ : St) : Prop :=
 ∀ w0 M S0 a w β S, Rel G w0 M S0 σ a w β S → c.wp P (fun e a' w' => z5 G w0 M S0 σ.n (Q e) a' w') a w
def St.at (n : Nat) (L : List Nat) (xs : List A) (h : List (Nat × Bool × List A)) : St := { n, env := L.zip xs, heap := h }
def St.att (σ : St) (L : List Nat) : List A := L.map σ.get
def A.dnA : A → A
 | .d x => .d x.dn
 | x => x
theorem AR.dnA {β : Own} {S : Imm} {w : World} : ∀ {x : A} {v : Value}, AR β S w x v → AR β S w x.dnA v
 | .d x, v, h => by simp only [AR, A.dnA] at h ⊢; exact avf h
 | .ptr _ _, v, h => h
 | .elem _, v, h => h
 | .own _ _ _ _, v, h => h
 | .agg _, v, h => h
 | .fn _ _, v, h => h
def St.cut (σ : St) (L : List Nat) (ks : List Nat) (xs : List A) (h : List (Nat × Bool × List A)) : Prop :=
 (σ.att L = xs ∨ (σ.att L).map A.dnA = xs) ∧ σ.heap.filter (fun x => ks.contains x.1) = h ∧ A.a6 ks xs = true ∧ h.all (fun x => A.a6 ks x.2.2) = true
def St.ah0 (σ : St) : List (Nat × Nat × Nat) → (St → Prop) → Prop
 | [], K => K σ
 | (t, b, sz) :: ad, K => σ.get t = .d .nil ∧ σ.hp b = none ∧ (t < σ.n ∧ b < 1000000) ∧ St.ah0 ((σ.new b []).put (some t) (.own b 0 0 sz)) ad K
section
variable {P : Program} {G : bb} {T : Tab} {w0 : World} {M : Own} {S0 : Imm} {σ : St} {a : Act} {w w' : World} {β : Own} {S : Imm}
def Own.only (β : Own) (ks : List Nat) : Own := fun b => if ks.contains b then β b else none
mutual
theorem aas {ks : List Nat} : ∀ {x : A} {v : Value}, x.jk ks = true → AR β S w x v → AR (β.only ks) S w x v
 | .d x, v, _, h => by simp only [AR] at h ⊢; exact h
 | .elem x, v, _, h => by simp only [AR] at h ⊢; exact h
 | .ptr c o, v, hr, h => by
  simp only [A.jk] at hr
  simp only [AR, Own.only, hr, if_true] at h ⊢; exact h
 | .own c o n sz, v, hr, h => by
  simp only [A.jk] at hr
  simp only [AR, Own.only, hr, if_true] at h ⊢; exact h
 | .agg l, v, hr, h => by
  simp only [A.jk] at hr
  simp only [AR] at h ⊢
  obtain ⟨vs, rfl, h⟩ := h
  exact ⟨vs, rfl, afa hr h⟩
 | .fn f l, v, hr, h => by
  simp only [A.jk] at hr
  simp only [AR] at h ⊢
  obtain ⟨vs, rfl, h⟩ := h
  exact ⟨vs, rfl, afa hr h⟩
theorem afa {ks : List Nat} : ∀ {l : List A} {vs : List Value}, A.a6 ks l = true → ARs β S w l vs → ARs (β.only ks) S w l vs
 | [], vs, _, h => by simpa [ARs] using h
 | x :: l, vs, hr, h => by
  simp only [A.a6, Bool.and_eq_true] at hr
  simp only [ARs] at h ⊢
  obtain ⟨u, us, rfl, h1, h2⟩ := h
  exact ⟨u, us, rfl, aas hr.1 h1, afa hr.2 h2⟩
end
theorem yz (ks : List Nat) : ∀ (l : List (Nat × Bool × List A)) (t : Nat), lk (l.filter fun x => ks.contains x.1) t = if ks.contains t then lk l t else none
 | [], t => by simp [lk]
 | (k, x) :: l, t => by
  rw [List.filter_cons]
  split
  ·rename_i h
   simp only [lk]
   by_cases e : k = t
   ·subst e; simp only at h; rw [if_pos rfl, if_pos h, if_pos rfl]
   ·rw [if_neg e, if_neg e]; exact yz ks l t
  ·rename_i h
   rw [yz ks l t]
   simp only [lk]
   by_cases e : k = t
   ·subst e; simp only at h; rw [if_neg h, if_neg h]
   ·rw [if_neg e]
theorem axc : ∀ {L : List Nat} {xs : List A} {t : Nat} {x : A}, lk (L.zip xs) t = some x → ∃ j : Nat, L[j]? = some t ∧ xs[j]? = some x
 | [], xs, t, x, h => by simp [lk] at h
 | l :: L, [], t, x, h => by simp [lk] at h
 | l :: L, y :: xs, t, x, h => by
  simp only [List.zip_cons_cons, lk] at h
  split at h
  ·rename_i e
   subst e; cases h
   exact ⟨0, rfl, rfl⟩
  ·obtain ⟨j, h1, h2⟩ := axc h
   exact ⟨j + 1, by simpa using h1, by simpa using h2⟩
theorem Rel.cut (h : Rel G w0 M S0 σ a w β S) {L ks : List Nat} {xs : List A} {hh : List (Nat × Bool × List A)} (hc : σ.cut L ks xs hh) : Rel G w0 M S0 (St.at σ.n L xs hh) a w (β.only ks) S := by
 obtain ⟨hgx, rfl, hx, hr⟩ := hc
 have hon : ∀ b (k : Option Nat), β.only ks b = some k → ks.contains b = true ∧ β b = some k := by
  intro b k hb
  unfold Own.only at hb
  split at hb
  ·exact ⟨by assumption, hb⟩
  ·cases hb
 have hlk : ∀ b x, lk (σ.heap.filter fun x => ks.contains x.1) b = some x → ks.contains b = true ∧ lk σ.heap b = some x := by
  intro b x hb
  rw [yz] at hb
  split at hb
  ·exact ⟨by assumption, hb⟩
  ·cases hb
 have hmem : ∀ (l : List (Nat × Bool × List A)) (b : Nat) (x : Bool × List A), lk l b = some x → (b, x) ∈ l := by
  intro l
  induction l with
  | nil => intro b x h; simp [lk] at h
  | cons y l ih =>
   intro b x h
   obtain ⟨k, y⟩ := y
   simp only [lk] at h
   split at h
   ·rename_i e; subst e; cases h; simp
   ·exact List.mem_cons_of_mem _ (ih b x h)
 have hrefs : ∀ b x, lk (σ.heap.filter fun x => ks.contains x.1) b = some x → A.a6 ks x.2 = true := by
  intro b x hb
  have := hmem _ _ _ hb
  exact List.all_eq_true.1 hr _ this
 refine { h with env := ?_, keys := ?_, rd := ?_, live := ?_, froz := ?_, fd := ?_, nilb := ?_, inj := ?_, stay := ?_, src := fun b k hb => h.src b k (hon b _ hb).2 }
 ·intro t x hx'
  obtain ⟨j, h1, h2⟩ := axc hx'
  rcases hgx with rfl | rfl
  ·simp only [St.att, List.getElem?_map, h1, Option.map_some, Option.some.injEq] at h2
   subst h2
   have hrx := l6 hx (j := j) (x := σ.get t) (by simp [St.att, h1])
   exact aas hrx (h.get t)
  ·simp only [St.att, List.getElem?_map, h1, Option.map_some, Option.some.injEq] at h2
   subst h2
   have hrx := l6 hx (j := j) (x := (σ.get t).dnA) (by simp [St.att, h1])
   exact aas hrx (h.get t).dnA
 ·intro b hb
  obtain ⟨k, hk⟩ := Option.ne_none_iff_exists'.1 hb
  obtain ⟨h1, h2⟩ := hon b k hk
  show lk (σ.heap.filter fun x => ks.contains x.1) b ≠ none
  rw [yz, if_pos h1]
  exact h.keys b (by rw [h2]; simp)
 ·intro b k fr l hb hl
  obtain ⟨h1, h2⟩ := hon b _ hb
  obtain ⟨_, h3⟩ := hlk b _ hl
  obtain ⟨C, Tc, hC, hlen, hcell⟩ := h.rd b k fr l h2 h3
  refine ⟨C, Tc, hC, hlen, fun j x hj => ?_⟩
  obtain ⟨u, hu, hR⟩ := hcell j x hj
  exact ⟨u, hu, aas (l6 (hrefs b _ hl) hj) hR⟩
 ·intro b k l hb hl
  exact h.live b k l (hon b _ hb).2 (hlk b _ hl).2
 ·intro b k l hb hl
  exact h.froz b k l (hon b _ hb).2 (hlk b _ hl).2
 ·intro b l hl
  exact h.fd b l (hlk b _ hl).2
 ·intro b fr l hb hl
  obtain ⟨h1, h2⟩ := hlk b _ hl
  have : β b = some none := by
   unfold Own.only at hb
   rwa [if_pos h1] at hb
  exact h.nilb b fr l this h2
 ·intro b b' k hb hb'
  exact h.inj b b' k (hon b _ hb).2 (hon b' _ hb').2
 ·intro b h1 h2 hb
  obtain ⟨x, hx⟩ := Option.ne_none_iff_exists'.1 hb
  obtain ⟨h3, h4⟩ := hlk b x hx
  show (if ks.contains b then β b else none) = M b
  rw [if_pos h3]
  exact h.stay b h1 h2 (by rw [h4]; simp)
theorem Rel.ah0 : ∀ {ad : List (Nat × Nat × Nat)} {σ : St} {β : Own} {K : St → Prop}, Rel G w0 M S0 σ a w β S → σ.ah0 ad K → ∃ σ' β', K σ' ∧ Rel G w0 M S0 σ' a w β' S ∧ σ'.n = σ.n
 | [], σ, β, K, h, hk => ⟨σ, β, hk, h, rfl⟩
 | (t, b, sz) :: ad, σ, β, K, h, hk => by
  obtain ⟨h1, h2, h3, hk⟩ := hk
  have hv := h.get t
  rw [h1] at hv
  simp only [AR, DR] at hv
  have hg := h.ghost h2 h3.2
  have hp : Rel G w0 M S0 ((σ.new b []).put (some t) (.own b 0 0 sz)) a w (β.gh b) S := by
   refine { hg with size := ?_, env := ?_ }
   ·exact hg.size
   ·intro t' x hx
    simp only [St.put, lk] at hx
    split at hx
    ·rename_i e
     subst e
     cases hx
     simp only [AR]
     exact .inr ⟨trivial, by simp [Own.gh], none, hv⟩
    ·exact hg.env t' x hx
  obtain ⟨σ', β', h4, h5, h6⟩ := Rel.ah0 hp hk
  exact ⟨σ', β', h4, h5, h6⟩
end
def ahw {α : Type} : List α → Nat → List α → List α
 | [], _, _ => []
 | a :: l, n + 1, xs => a :: ahw l n xs
 | _ :: l, 0, x :: xs => x :: ahw l 0 xs
 | a :: l, 0, [] => a :: l
theorem ane {α : Type} : ∀ (l : List α) (o : Nat), ahw l o [] = l
 | [], o => by cases o <;> rfl
 | a :: l, 0 => rfl
 | a :: l, n + 1 => by simp only [ahw]; rw [ane l n]
theorem anf {α : Type} : ∀ (l : List α) (o : Nat) (x : α) (xs : List α), ahw (l.set o x) (o + 1) xs = ahw l o (x :: xs)
 | [], o, x, xs => by cases o <;> rfl
 | a :: l, 0, x, xs => by simp only [List.set, ahw]
 | a :: l, n + 1, x, xs => by simp only [List.set, ahw]; rw [anf l n]
theorem asp {α : Type} : ∀ (xs l : List α) (o : Nat), setAt l o xs = ahw l o xs
 | [], l, o => (ane l o).symm
 | x :: xs, l, o => by rw [setAt, asp xs, anf]
theorem EqE.fP {α : Type} {l xs : List α} {o : Nat} {K : List α → Prop} (h : ae (ahw l o xs) K) : EqE (setAt l o xs) K := by rw [asp]; exact EqE.fL h
def ag4 (T : Tab) (n : Nat) (ops : Array Oper) (draw : Bool) : Bool := (ops.all fun o => o.dst.all (· < n)) && (!draw || apy T ops)
def ak5 (T : Tab) (n : Nat) (ops : Array Oper) (draw : Bool) (ps : List (Nat × Nat)) : Bool := (ops.all fun o => o.dst.all (· < n)) && draw && akw T ops ps
inductive cx (a : Prop) (b : List (Nat × Nat) → Prop) (c : Cfg → Prop) (z : List Nat → Prop) : Prop where
 | early (h : a)
 | late (ps : List (Nat × Nat)) (h : b ps)
 | own (C : Cfg) (h : c C)
 | frz (ss : List Nat) (h : z ss)
inductive an (I : Nat → List A → List (Nat × Bool × List A) → Prop) (m : Nat) (L ks : List Nat) (σ' : St) : Prop where
 | mk (m' : Nat) (xs' : List A) (h' : List (Nat × Bool × List A)) (cut : σ'.cut L ks xs' h') (lt : m' < m) (inv : I m' xs' h')
inductive aoq (I : Nat → List A → List (Nat × Bool × List A) → Prop) (L ks : List Nat) (σ : St) : Prop where
 | mk (m : Nat) (xs : List A) (h : List (Nat × Bool × List A)) (cut : σ.cut L ks xs h) (inv : I m xs h)
def atq (h : List (Nat × Bool × List A)) : List Nat → List (Nat × Bool × List A)
 | [] => h
 | bs => h.map fun x => (x.1, x.2.1 || bs.contains x.1, x.2.2)
def awl (fresh : Bool) (heap : List (Nat × Bool × List A)) (bs : List Nat) (K : List (Nat × Bool × List A) → Prop) : Prop :=
 match fresh, bs with
 | true, _ => K heap
 | false, [] => K heap
 | false, b :: bs => ae (atq heap (b :: bs)) K
theorem arp (fresh : Bool) (heap : List (Nat × Bool × List A)) (bs : List Nat) (K : List (Nat × Bool × List A) → Prop) : awl fresh heap bs K = K (if fresh then heap else atq heap bs) := by
 cases fresh
 ·cases bs with
  | nil => rfl
  | cons b bs => simp only [awl, je]; rfl
 ·rfl
def aod (T : Tab) (G : bb) (n : Nat) (env : List (Nat × A)) (heap : List (Nat × Bool × List A)) (d : Option Nat) (op : Op) (K : A → St → Prop) : Prop :=
 match op with
 | .store t a x => match St.ev G ⟨n, env, heap⟩ a with
  | .ptr b o => match lk heap b, T t with
   | some (false, l), some y => Cd ((St.ev G ⟨n, env, heap⟩ x).full = true) (Cd ((St.ev G ⟨n, env, heap⟩ x).cells.length = y.size) (Cd ((St.ev G ⟨n, env, heap⟩ x).cells.all A.one = true) (Cd (o + y.size ≤ l.length) (EqE (setAt l o (St.ev G ⟨n, env, heap⟩ x).cells) fun row => ae (apa heap b row) fun h => K (.d .any) ⟨n, env, h⟩))))
   | _, _ => False
  | _ => False
 | .call c => match c.callee, c.argTypes.toList, c.args.toList, d with
  | .builtin .append, [t, t2], [s, x], some d => bg T t fun _ ye => Cd (((T t2).any Ty.at4 && ye.aja) = true) <|
   ew (lk heap) ye.size (St.ev G ⟨n, env, heap⟩ x) fun m cs => Cd (∀ c ∈ cs, (A.d c).one = true) <| match St.ev G ⟨n, env, heap⟩ s with
    | .d .nil => Cd (m * ye.bytes ≤ 70368744177664) (Cd ((lk heap d).isNone = true) (EqE (cs.map A.d) fun row => K (.own d 0 m ye.size) ⟨n, env, (d, false, row) :: heap⟩))
    | .own b o k sz => match lk heap b with
     | some (false, l) => Cd (am4 b o = 0 ∧ sz = ye.size) (Cd (l.length = k * sz) (Cd ((k + m) * ye.bytes ≤ 70368744177664) (DsE l fun _ => EqE (l ++ cs.map A.d) fun row => ae (apa (heap.map fun x => (x.1, x.2.1, A.gl b x.2.2)) b row) fun h => K (.own b 0 (k + m) sz) ⟨n, env.map fun x => (x.1, x.2.kill b), h⟩)))
     | _ => False
    | _ => False
  | _, _, _, _ => False
 | _ => False
def ajw (P : Program) (G : bb) (n : Nat) (env : List (Nat × A)) (heap : List (Nat × Bool × List A)) (op : Op) (K : A → St → Prop) : Prop :=
 match op with
 | .call c => match c.callee with
  | .value (.func f) => ng (lk heap) (c.args.toList.map (St.ev G ⟨n, env, heap⟩)) fun xs bs => aa P G f xs fun fresh r => awl fresh heap bs fun h => K (.d r) ⟨n, env, h⟩
  | .value x => match St.ev G ⟨n, env, heap⟩ x with
   | .fn f cs => ng (lk heap) (c.args.toList.map (St.ev G ⟨n, env, heap⟩) ++ cs) fun xs bs => aa P G f xs fun fresh r => awl fresh heap bs fun h => K (.d r) ⟨n, env, h⟩
   | _ => False
  | _ => False
 | _ => False
def aia (P : Program) (G : bb) (T : Tab) (σ : St) (o : Oper) (K : St → Prop) : Prop :=
 match σ with
 | ⟨n, env, heap⟩ => match kindOf o.op with
  | 0 => ft T (St.ev G ⟨n, env, heap⟩) (lk heap) o.op fun r => St.kt ⟨n, env, heap⟩ o.dst r K
  | 1 => match o.dst with
   | some d => Cd ((lk heap d).isNone = true) (ug T (St.ev G ⟨n, env, heap⟩) d o.op fun r l => St.kt ⟨n, env, (d, false, l) :: heap⟩ (some d) r K)
   | none => False
  | 2 => aod T G n env heap o.dst o.op fun r σ' => σ'.kt o.dst r K
  | _ => ajw P G n env heap o.op fun r σ' => σ'.kt o.dst r K
def xj (P : Program) (G : bb) (T : Tab) (ops : Array Oper) : List Oper → St → (St → Prop) → Prop
 | [], σ, Q => Q σ
 | o :: rest, σ, Q => pg ops σ o (fun σ => aia P G T σ o fun σ' => xj P G T ops rest σ' Q) (fun σ => σ.kt o.dst (.d (.tup [])) fun σ => xj P G T ops rest σ Q)
theorem akb (n : Nat) (env : List (Nat × A)) (heap : List (Nat × Bool × List A)) (bs : List Nat) : St.freeze ⟨n, env, heap⟩ bs = ⟨n, env, atq heap bs⟩ := by cases bs <;> rfl
theorem afo (P : Program) (G : bb) (n : Nat) (env : List (Nat × A)) (heap : List (Nat × Bool × List A)) (op : Op) (K : A → St → Prop) : ajw P G n env heap op K = sw P G ⟨n, env, heap⟩ op K := by
 have e : ∀ (fresh : Bool) (bs : List Nat), (⟨n, env, if fresh then heap else atq heap bs⟩ : St) = if fresh then ⟨n, env, heap⟩ else St.freeze ⟨n, env, heap⟩ bs := by
  intro fresh bs; cases fresh
  ·simp [akb]
  ·rfl
 unfold ajw sw
 simp only [arp, e]
 rfl
theorem aoe (T : Tab) (G : bb) (n : Nat) (env : List (Nat × A)) (heap : List (Nat × Bool × List A)) (d : Option Nat) (op : Op) (K : A → St → Prop) : aod T G n env heap d op K = uv T G ⟨n, env, heap⟩ d op K := by
 unfold aod uv
 simp only [je]
 rfl
theorem afz (P : Program) (G : bb) (T : Tab) (σ : St) (o : Oper) (K : St → Prop) : aia P G T σ o K = ni P G T σ o K := by
 obtain ⟨n, env, heap⟩ := σ
 unfold aia ni
 simp only [afo, aoe]
 rfl
theorem acn (P : Program) (G : bb) (T : Tab) (ops : Array Oper) : ∀ (l : List Oper) (σ : St) (Q : St → Prop), xj P G T ops l σ Q = zo P G T ops l σ Q
 | [], σ, Q => rfl
 | o :: rest, σ, Q => by simp only [xj, zo, afz, acn P G T ops rest]
def a2m (P : Program) (G : bb) (T : Tab) (C : Cfg) (σ : St) (dst : Option Nat) (op : Op) (K : A → St → Prop) : Prop :=
 match σ with
 | ⟨n, env, heap⟩ => match op with
  | .call c => match c.callee with
   | .value x => match x with
    | .func f => eg P G C n env heap f (c.args.toList.map (St.ev G ⟨n, env, heap⟩)) K
    | _ => False
   | .builtin bi => match bi with
    | .append => Cd (a2o G C ⟨n, env, heap⟩ c = true) (aod T G n env heap dst (.call c) K)
    | _ => False
   | _ => False
  | _ => False
theorem azj (P : Program) (G : bb) (T : Tab) (C : Cfg) (σ : St) (dst : Option Nat) (op : Op) (K : A → St → Prop) : a2m P G T C σ dst op K = a12 P G T C σ dst op K := by
 obtain ⟨n, env, heap⟩ := σ
 cases op with
 | call c =>
  obtain ⟨callee, args, at_⟩ := c
  cases callee with
  | value x => cases x <;> rfl
  | builtin b =>
   cases b <;> first
    | rfl
    | (show Cd _ _ = Cd _ _; rw [aoe])
  | _ => rfl
 | _ => rfl
def yr (P : Program) (G : bb) (T : Tab) (C : Cfg) (ops : Array Oper) : Nat → List Oper → St → (St → Prop) → Prop
 | _, [], σ, Q => Q σ
 | i, o :: rest, σ, Q => pg ops σ o (fun σ => bif C.cs.contains i then a2m P G T C σ o.dst o.op (fun r σ' => σ'.kt o.dst r fun σ' => vfK C σ' o.dst o.op (yr P G T C ops (i + 1) rest σ' Q)) else aia P G T σ o fun σ' => vfK C σ' o.dst o.op (yr P G T C ops (i + 1) rest σ' Q))
   (fun σ => σ.kt o.dst (.d (.tup [])) fun σ => yr P G T C ops (i + 1) rest σ Q)
theorem af0 (P : Program) (G : bb) (T : Tab) (C : Cfg) (ops : Array Oper) : ∀ (i : Nat) (l : List Oper) (σ : St) (Q : St → Prop), yr P G T C ops i l σ Q = vf P G T C ops i l σ Q
 | _, [], σ, Q => rfl
 | i, o :: rest, σ, Q => by simp only [yr, vf, afz, azj, af0 P G T C ops (i + 1) rest]
inductive ag (P : Program) (G : bb) (n : Nat) (env : List (Nat × A)) (heap : List (Nat × Bool × List A)) (f : FuncId) (xs : List A) (K : A → St → Prop) : Prop where
 | data (h : ng (lk heap) xs fun ds bs => aa P G f ds fun fresh r => awl fresh heap bs fun h => K (.d r) ⟨n, env, h⟩)
 | own (h : jl P G n env heap f xs K)
def ajx (P : Program) (G : bb) (n : Nat) (env : List (Nat × A)) (heap : List (Nat × Bool × List A)) (op : Op) (K : A → St → Prop) : Prop :=
 match op with
 | .call c => match c.callee with
  | .value (.func f) => ag P G n env heap f (c.args.toList.map (St.ev G ⟨n, env, heap⟩)) K
  | .value x => match St.ev G ⟨n, env, heap⟩ x with
   | .fn f cs => ag P G n env heap f (c.args.toList.map (St.ev G ⟨n, env, heap⟩) ++ cs) K
   | _ => False
  | _ => False
 | _ => False
def aib (P : Program) (G : bb) (T : Tab) (σ : St) (o : Oper) (K : St → Prop) : Prop :=
 match σ with
 | ⟨n, env, heap⟩ => match kindOf o.op with
  | 0 => ft T (St.ev G ⟨n, env, heap⟩) (lk heap) o.op fun r => St.kt ⟨n, env, heap⟩ o.dst r K
  | 1 => match o.dst with
   | some d => Cd ((lk heap d).isNone = true) (ug T (St.ev G ⟨n, env, heap⟩) d o.op fun r l => St.kt ⟨n, env, (d, false, l) :: heap⟩ (some d) r K)
   | none => False
  | 2 => aod T G n env heap o.dst o.op fun r σ' => σ'.kt o.dst r K
  | _ => ajx P G n env heap o.op fun r σ' => σ'.kt o.dst r K
def aaa (P : Program) (G : bb) (T : Tab) (ops : Array Oper) : List Oper → St → (St → Prop) → Prop
 | [], σ, Q => Q σ
 | o :: rest, σ, Q => pg ops σ o (fun σ => aib P G T σ o fun σ' => aaa P G T ops rest σ' Q) (fun σ => σ.kt o.dst (.d (.tup [])) fun σ => aaa P G T ops rest σ Q)
theorem atp {P : Program} {G : bb} {T : Tab} {n : Nat} {env : List (Nat × A)} {heap : List (Nat × Bool × List A)} {o : Oper} {K : St → Prop} (hc : kindOf o.op ≤ 2) (hk : aib P G T ⟨n, env, heap⟩ o K) : aia P G T ⟨n, env, heap⟩ o K := by
 unfold aib at hk
 unfold aia
 simp only at hk ⊢
 have h3 : kindOf o.op = 0 ∨ kindOf o.op = 1 ∨ kindOf o.op = 2 := by omega
 rcases h3 with e | e | e <;> rw [e] at hk ⊢ <;> exact hk
theorem ao1 {P : Program} {G : bb} {T : Tab} {n : Nat} {env : List (Nat × A)} {heap : List (Nat × Bool × List A)} {o : Oper} {K : St → Prop} (hc : ¬ kindOf o.op ≤ 2) (hk : aib P G T ⟨n, env, heap⟩ o K) : ajx P G n env heap o.op (fun r σ' => σ'.kt o.dst r K) := by
 unfold aib at hk
 simp only at hk
 have h3 : kindOf o.op = 3 := by have := ain o.op; omega
 rw [h3] at hk
 exact hk
theorem al9 {P : Program} {G : bb} {T : Tab} {w0 : World} {M : Own} {S0 : Imm} {σ : St} {a : Act} {w : World} {β : Own} {S : Imm} (hT : b6 P T) (h : Rel G w0 M S0 σ a w β S) {o : Oper} (hd : ∀ d, o.dst = some d → d < σ.n) {K : St → Prop} (hk : aib P G T σ o K) (Q : Exit → Act → World → Prop) :
  o.wp P a w (z5 G w0 M S0 σ.n K) Q := by
 obtain ⟨n, env, heap⟩ := σ
 by_cases hc : kindOf o.op ≤ 2
 ·refine ve hT h hd ?_ Q
  rw [← afz]
  exact atp hc hk
 ·replace hk := ao1 hc hk
  clear hc
  obtain ⟨dst, op, type, pos, after, guard⟩ := o
  simp only at hk hd
  unfold ajx at hk
  split at hk
  ·rename_i c
   obtain ⟨callee, args, at_⟩ := c
   simp only at hk
   split at hk
   ·rename_i f
    cases hk with
    | data hk =>
     refine aa1 h (o := ⟨dst, .call ⟨.value (.func f), args, at_⟩, type, pos, after, guard⟩) (K := fun r σ' => σ'.kt dst r K) ?_ Q _ ?_
     ·rw [← afo]; exact hk
     ·intro r σ' v w' β' S' hK hrel hR hn
      rw [St.bq] at hK
      exact ⟨_, β', S', hK, hrel.put hR (fun d hd' => by rw [hn]; exact hd d hd'), by rw [← hn]; cases dst <;> rfl⟩
    | own hk =>
     refine adr h (o := ⟨dst, .call ⟨.value (.func f), args, at_⟩, type, pos, after, guard⟩) rfl (K := fun r σ' => σ'.kt dst r K) hk Q _ ?_
     intro r σ' v w' β' S' hK hrel hR hn
     rw [St.bq] at hK
     exact ⟨_, β', S', hK, hrel.put hR (fun d hd' => by rw [hn]; exact hd d hd'), by rw [← hn]; cases dst <;> rfl⟩
   ·rename_i x _
    have hx := h.ev x
    split at hk
    ·rename_i f cs e
     rw [e] at hx
     simp only [AR] at hx
     obtain ⟨vs, hv, hcs⟩ := hx
     have hall : ARs β S w (args.toList.map (St.ev G ⟨n, env, heap⟩) ++ cs) (args.toList.map a.eval ++ vs.toList) := ajl (ARs.map (fun x => h.ev x) args.toList) hcs
     have hexec : ju P f = true → (execOp a.eval ⟨dst, .call ⟨.value x, args, at_⟩, type, pos, after, guard⟩).run P w = .ok (.enter f (args.toList.map a.eval ++ vs.toList).toArray) w := fun hc => by
      have harr : (args.toList.map a.eval ++ vs.toList).toArray = args.map a.eval ++ vs := by cases args; cases vs; simp
      rw [harr]
      simp only [execOp, Sem.run_bind, resolve]
      rw [hv]
      simp [Deferred.ofValue, invoke, p5 hc]
     cases hk with
     | data hk =>
      refine xb h hall hexec (K := fun r σ' => σ'.kt dst r K) ?_ Q _ ?_
      ·have e2 : ∀ (fresh : Bool) (bs : List Nat), (⟨n, env, if fresh then heap else atq heap bs⟩ : St) = if fresh then ⟨n, env, heap⟩ else St.freeze ⟨n, env, heap⟩ bs := by
        intro fresh bs; cases fresh
        ·simp [akb]
        ·rfl
       simp only [arp, e2] at hk
       exact hk
      ·intro r σ' v w' β' S' hK hrel hR hn
       rw [St.bq] at hK
       exact ⟨_, β', S', hK, hrel.put hR (fun d hd' => by rw [hn]; exact hd d hd'), by rw [← hn]; cases dst <;> rfl⟩
     | own hk =>
      refine aa0 h hall hexec (K := fun r σ' => σ'.kt dst r K) hk Q _ ?_
      intro r σ' v w' β' S' hK hrel hR hn
      rw [St.bq] at hK
      exact ⟨_, β', S', hK, hrel.put hR (fun d hd' => by rw [hn]; exact hd d hd'), by rw [← hn]; cases dst <;> rfl⟩
    ·exact hk.elim
   ·exact hk.elim
  ·exact hk.elim
theorem vg {P : Program} {G : bb} {T : Tab} {w0 : World} {M : Own} {S0 : Imm} (hT : b6 P T) {ops : Array Oper} {n : Nat} (hd : ∀ o ∈ ops.toList, ∀ d, o.dst = some d → d < n) {Q : Exit → Act → World → Prop} {K : St → Prop} (hQ : ∀ a w, z5 G w0 M S0 n K a w → Q .normal a w) :
  ∀ (rest : List Oper) (i : Nat) (σ : St) (a : Act) (w : World) (β : Own) (S : Imm), ops.toList.drop i = rest → σ.n = n → Rel G w0 M S0 σ a w β S → aaa P G T ops rest σ K → wpOps P ops Q ((List.range rest.length).map (i + ·)) a w
 | [], i, σ, a, w, β, S, _, hn, h, hk => by
  simp only [wpOps, List.length_nil, List.range_zero, List.map_nil]
  exact hQ a w ⟨σ, β, S, hk, h, hn⟩
 | o :: rest, i, σ, a, w, β, S, hdr, hn, h, hk => by
  have hi : ops[i]? = some o := by
   have : (ops.toList.drop i)[0]? = some o := by rw [hdr]; rfl
   simpa using this
  have hdr2 : ops.toList.drop (i + 1) = rest := by
   have : (ops.toList.drop i).drop 1 = rest := by rw [hdr]; rfl
   rwa [List.drop_drop] at this
  have hmem : o ∈ ops.toList := by
   have : ops.toList[i]? = some o := by simpa using hi
   exact List.mem_of_getElem? this
  have hlist : (List.range (o :: rest).length).map (i + ·) = i :: (List.range rest.length).map (i + 1 + ·) := by
   rw [List.length_cons, List.range_succ_eq_map, List.map_cons, List.map_map]
   congr 1
   apply List.map_congr_left
   intro j _
   simp only [Function.comp_def, Nat.succ_eq_add_one]; omega
  rw [hlist, wpOps_cons]
  simp only [aaa] at hk
  obtain ⟨σ1, h1, hn1, hcase⟩ := ahr h hk
  have hdo : ∀ d, o.dst = some d → d < σ1.n := fun d hd' => by rw [hn1, hn]; exact hd o hmem d hd'
  rcases hcase with ⟨hw, hy⟩ | ⟨hw, hno⟩
  ·refine v8 hi hw (Oper.wp_mono ?_ (al9 hT h1 hdo hy Q))
   rintro a' w' ⟨σ2, β2, S2, hK2, h2, hn2⟩
   exact vg hT hd hQ rest (i + 1) σ2 a' w' β2 S2 hdr2 (by rw [hn2, hn1, hn]) h2 hK2
  ·simp only [wpOp, hi, hw, Bool.false_eq_true, if_false]
   rw [St.bq] at hno
   refine vg hT hd hQ rest (i + 1) _ _ w β S hdr2 ?_ (y9 h1 o.dst hdo) hno
   cases o.dst <;> exact hn1.trans hn
def ak4 (P : Program) (G : bb) (T : Tab) (ops : Array Oper) (draw : Bool) (σ : St) (Q : Exit → St → Prop) (ps : List (Nat × Nat)) : Prop :=
 Cd (ak5 T σ.n ops draw ps = true) (xj P G T ops ops.toList σ (fun τ => b7 (aa4 G ops τ ps) (Q .normal τ)))
def aqb (P : Program) (G : bb) (T : Tab) (ops : Array Oper) (draw : Bool) (σ : St) (Q : Exit → St → Prop) (C : Cfg) : Prop :=
 match σ with
 | ⟨n, env, heap⟩ => Cd (Dw.ac4 T C n ops draw = true) (Cd (ka C heap = true) (ae (klE C.V env) fun env => yr P G T C ops 0 ops.toList ⟨n, env, heap⟩ (fun τ => b7 (Dw.mj G C ops τ = true) (Q .normal τ))))
def awm (G : bb) : List Nat → St → (St → Prop) → Prop
 | [], σ, K => K σ
 | s :: ss, ⟨n, env, heap⟩, K => ma (lk heap) (St.get ⟨n, env, heap⟩ s) fun x bs => ae (atq heap bs) fun h => awm G ss ⟨n, (s, .d x) :: env, h⟩ K
def aqa (P : Program) (G : bb) (T : Tab) (ops : Array Oper) (draw : Bool) (σ : St) (Q : Exit → St → Prop) (ss : List Nat) : Prop :=
 awm G ss σ fun σ => cx (Cd (ag4 T σ.n ops draw = true) (match draw with | true => xj P G T ops ops.toList σ (Q .normal) | false => aaa P G T ops ops.toList σ (Q .normal)))
   (ak4 P G T ops draw σ Q) (aqb P G T ops draw σ Q) (fun _ => False)
def awp (P : Program) (G : bb) (T : Tab) : Code → (Exit → St → Prop) → St → Prop
 | .skip, Q, σ => Q .normal σ
 | .label _, Q, σ => Q .normal σ
 | .exit i, Q, σ => Q (.exit i) σ
 | .goto l, Q, σ => Q (.goto l) σ
 | .ret, Q, σ => Q .ret σ
 | .seq a b, Q, σ => awp P G T a (fun e σ' => match e with | .normal => awp P G T b Q σ' | e => Q e σ') σ
 | .cond c a b, Q, σ => match σ.ev G c with
  | .d (.bool t) => Br t (awp P G T a Q σ) (awp P G T b Q σ)
  | _ => False
 | .block id c, Q, σ => awp P G T c (fun e σ' => match e with | .exit i => if i = id then Q .normal σ' else Q (.exit i) σ' | e => Q e σ') σ
 | .region _ ops draw, Q, σ => cx (Cd (ag4 T σ.n ops draw = true) (match draw with | true => xj P G T ops ops.toList σ (Q .normal) | false => aaa P G T ops ops.toList σ (Q .normal)))
   (ak4 P G T ops draw σ Q) (aqb P G T ops draw σ Q) (aqa P G T ops draw σ Q)
 | .loop c, Q, σ => ∃ (ad : List (Nat × Nat × Nat)) (L ks : List Nat) (I : Nat → List A → List (Nat × Bool × List A) → Prop),
   (σ.ah0 ad fun σ => aoq I L ks σ) ∧
   ∀ m xs h, I m xs h → match σ with | ⟨n, _, _⟩ => awp P G T c (fun e σ' => match e with | .normal => an I m L ks σ' | e => Q e σ') ⟨n, L.zip xs, h⟩
 | c, Q, σ => Wp' P G c Q σ
section
variable {P : Program} {G : bb} {T : Tab}
theorem auj {n : Nat} {ops : Array Oper} {draw : Bool} (h : ag4 T n ops draw = true) : (∀ o ∈ ops.toList, ∀ d, o.dst = some d → d < n) ∧ (draw = true → apy T ops = true) := by
 simp only [ag4, Bool.and_eq_true, Array.all_eq_true_iff_forall_mem] at h
 refine ⟨fun o ho d hd => ?_, fun e => by have := h.2; rw [e] at this; simpa using this⟩
 have := h.1 o (Array.mem_toList_iff.1 ho)
 rw [hd] at this
 simpa using this
theorem Rel.a34 {w0 : World} {M : Own} {S0 : Imm} {n : Nat} {env : List (Nat × A)} {heap : Hp} {a : Act} {w : World} {β : Own} {S : Imm} (h : Rel G w0 M S0 ⟨n, env, heap⟩ a w β S) {s : Nat} {x : D} (hx : DR S w x (a.tmps.getD s undef)) : Rel G w0 M S0 ⟨n, (s, .d x) :: env, heap⟩ a w β S := by
 refine { h with env := fun t y hy => ?_ }
 simp only [lk] at hy
 split at hy
 ·rename_i e
  subst e
  cases hy
  exact hx
 ·exact h.env t y hy
theorem adw {w0 : World} {M : Own} {S0 : Imm} {a : Act} {w : World} {β : Own} {K : St → Prop} : ∀ (ss : List Nat) {σ : St} {S : Imm}, Rel G w0 M S0 σ a w β S → awm G ss σ K → ∃ (σ' : St) (S' : Imm), K σ' ∧ Rel G w0 M S0 σ' a w β S' ∧ σ'.n = σ.n
 | [], σ, S, hr, h => ⟨σ, S, h, hr, rfl⟩
 | s :: ss, ⟨n, env, heap⟩, S, hr, h => by
  obtain ⟨x, bs, hk, hb, hd⟩ := ob hr h (hr.get s)
  have hfr := hr.freeze hb
  rw [akb] at hfr
  rw [je] at hk
  obtain ⟨σ', S', h1, h2, h3⟩ := adw ss (hfr.a34 (hd bs (fun b hb => hb))) hk
  exact ⟨σ', S', h1, h2, h3⟩
theorem ai7 (hT : b6 P T) {ops : Array Oper} {draw : Bool} {Q : Exit → St → Prop} {σ : St} {z : List Nat → Prop} (id : Nat) (h : cx (Cd (ag4 T σ.n ops draw = true) (match draw with | true => xj P G T ops ops.toList σ (Q .normal) | false => aaa P G T ops ops.toList σ (Q .normal)))
   (ak4 P G T ops draw σ Q) (aqb P G T ops draw σ Q) z) (hz : ∀ ss, z ss → Wp' P G (.region id ops draw) Q σ) : Wp' P G (.region id ops draw) Q σ := fun w0 M S0 a w β S hr => by
  rcases h with h | ⟨ps, h⟩ | ⟨C, h⟩ | ⟨ss, h⟩
  rotate_left 3
  ·exact hz ss h w0 M S0 a w β S hr
  rotate_left 2
  ·obtain ⟨n, env, heap⟩ := σ
   obtain ⟨hok, hb, h⟩ := h
   rw [je, af0] at h
   exact Dw.z7 hT hT.mix (σ := ⟨n, env, heap⟩) hok hb (fun a w h => h) hr h
  rotate_left
  ·obtain ⟨hok, h⟩ := h
   simp only [ak5, Bool.and_eq_true] at hok
   obtain ⟨⟨hd, rfl⟩, hok⟩ := hok
   rw [acn] at h
   refine apj hT hT.mix hok (fun o ho d hd' => ?_) (fun a w h => h) hr h
   have := Array.all_eq_true_iff_forall_mem.1 hd o (Array.mem_toList_iff.1 ho)
   rw [hd'] at this
   simpa using this
  obtain ⟨hok, h⟩ := h
  obtain ⟨hd, hdr⟩ := auj hok
  cases draw with
  | true =>
   simp only at h
   rw [acn] at h
   exact z7 hT hT.mix (hdr rfl) hd (fun a w h => h) hr h
  | false => ?_
  simp only at h
  refine wp_region ?_
  have := vg (P := P) (G := G) (w0 := w0) (M := M) (S0 := S0) (K := Q .normal) (Q := fun e a' w' => z5 G w0 M S0 σ.n (Q e) a' w') hT hd (fun a w h => h) ops.toList 0 σ a w β S (by simp) rfl hr h
  have e : (List.range ops.toList.length).map (0 + ·) = List.range ops.size := by simp
  rwa [e] at this
theorem ec (hT : b6 P T) : ∀ (c : Code) (Q : Exit → St → Prop) (σ : St), awp P G T c Q σ → Wp' P G c Q σ
 | .skip, Q, σ, h => fun w0 M S0 a w β S hr => wp_skip ⟨σ, β, S, h, hr, rfl⟩
 | .label _, Q, σ, h => fun w0 M S0 a w β S hr => wp_label ⟨σ, β, S, h, hr, rfl⟩
 | .exit i, Q, σ, h => fun w0 M S0 a w β S hr => wp_exit ⟨σ, β, S, h, hr, rfl⟩
 | .goto l, Q, σ, h => fun w0 M S0 a w β S hr => wp_goto ⟨σ, β, S, h, hr, rfl⟩
 | .ret, Q, σ, h => fun w0 M S0 a w β S hr => wp_ret ⟨σ, β, S, h, hr, rfl⟩
 | .seq x y, Q, σ, h => fun w0 M S0 a w β S hr => by
  refine wp_seq (wp_mono (ec hT x _ σ h w0 M S0 a w β S hr) ?_)
  rintro e a' w' ⟨σ', β', S', hq, hr', hn⟩
  cases e with
  | normal =>
   simp only [Exit.then]
   have := ec hT y _ σ' hq w0 M S0 a' w' β' S' hr'
   rw [hn] at this
   exact this
  | _ => exact ⟨σ', β', S', hq, hr', hn⟩
 | .cond c x y, Q, σ, h => fun w0 M S0 a w β S hr => by
  simp only [awp] at h
  split at h
  ·rename_i t ht
   have hv := hr.ev c
   rw [ht] at hv
   simp only [AR, DR] at hv
   exact wp_cond_split hv (fun e => ec hT x Q σ (h.tt e) w0 M S0 a w β S hr) (fun e => ec hT y Q σ (h.ff e) w0 M S0 a w β S hr)
  ·exact h.elim
 | .block id c, Q, σ, h => fun w0 M S0 a w β S hr => by
  refine wp_block (wp_mono (ec hT c _ σ h w0 M S0 a w β S hr) ?_)
  rintro e a' w' ⟨σ', β', S', hq, hr', hn⟩
  cases e with
  | exit i =>
   have hq : (if i = id then Q .normal σ' else Q (.exit i) σ') := hq
   simp only [Exit.inBlock]
   split
   ·rename_i e
    rw [if_pos e] at hq
    exact ⟨σ', β', S', hq, hr', hn⟩
   ·rename_i e
    rw [if_neg e] at hq
    exact ⟨σ', β', S', hq, hr', hn⟩
  | _ => exact ⟨σ', β', S', hq, hr', hn⟩
 | .region id ops draw, Q, σ, h => ai7 hT id h fun ss h w0 M S0 a w β S hr => by
  obtain ⟨σ', S', h', hr', hn⟩ := adw ss hr h
  have := ai7 hT id h' (fun _ h => h.elim) w0 M S0 a w β S' hr'
  rw [hn] at this
  exact this
 | .loop c, Q, σ, h => fun w0 M S0 a w β S hr => by
  obtain ⟨ad, L, ks, I, had, hround⟩ := h
  obtain ⟨σ1, β1, ⟨m, xs, hh, hcut, hI⟩, hr1, hn1⟩ := Rel.ah0 hr had
  intro b k cs
  have key : ∀ m a w xs hh β S, I m xs hh → Rel G w0 M S0 (St.at σ.n L xs hh) a w β S →
    ∃ e a' w', z5 G w0 M S0 σ.n (Q e) a' w' ∧ Arrives P (lone (b.at a (.code c :: .inLoop c :: k)) cs w) b k cs e a' w' := by
   intro m
   induction m using Nat.strongRecOn with
   | _ m ih =>
    intro a w xs hh β S hI hr
    obtain ⟨e, a₁, w₁, ⟨σ', β', S', hq, hr', hn⟩, harr⟩ := ec hT c _ _ (hround m xs hh hI) w0 M S0 a w β S hr b (.inLoop c :: k) cs
    cases e with
    | normal =>
     obtain ⟨m', xs', h', hcut', hlt, hI'⟩ := hq
     have hr2 := hr'.cut hcut'
     rw [hn] at hr2
     obtain ⟨e₂, a₂, w₂, hq₂, harr₂⟩ := ih m' hlt a₁ w₁ xs' h' _ S' hI' hr2
     exact ⟨e₂, a₂, w₂, hq₂, .of_steps (Steps.trans harr (.one step_inLoop)) harr₂⟩
    | exit id => exact ⟨_, a₁, w₁, ⟨σ', β', S', hq, hr', hn⟩, .pass (x := .inLoop c) rfl (fun _ _ => .inl (by simp)) harr⟩
    | goto l => exact ⟨_, a₁, w₁, ⟨σ', β', S', hq, hr', hn⟩, .pass (x := .inLoop c) rfl (fun _ _ => .inl (by simp)) harr⟩
    | ret => exact ⟨_, a₁, w₁, ⟨σ', β', S', hq, hr', hn⟩, .pass (x := .inLoop c) rfl (fun _ _ => .inl (by simp)) harr⟩
    | panic ch => exact ⟨_, a₁, w₁, ⟨σ', β', S', hq, hr', hn⟩, .pass (x := .inLoop c) rfl (fun _ _ => .inl (by simp)) harr⟩
    | outgrown => exact ⟨_, a₁, w₁, ⟨σ', β', S', hq, hr', hn⟩, .pass (x := .inLoop c) rfl (fun _ _ => .inl (by simp)) harr⟩
  have hr2 := hr1.cut hcut
  rw [hn1] at hr2
  obtain ⟨e, a', w', hq, harr⟩ := key m a w xs hh _ S hI hr2
  exact ⟨e, a', w', hq, .of_steps (.one step_loop) harr⟩
 | .rangeFunc f ps x c, Q, σ, h => h
 | .scope c, Q, σ, h => h
 | .refuse why, Q, σ, h => h
def ad3 (T : Tab) (σ : St) : List ResultVar → (List D → List Nat → Prop) → Prop
 | [], K => K [] []
 | .tmp t :: rs, K => ma σ.hp (σ.get t) fun x bs => ad3 T σ rs fun xs bs' => K (x :: xs) (bs ++ bs')
 | .cell c t :: rs, K => vm T σ.hp t (σ.get c) fun y => ma σ.hp y fun x bs => ad3 T σ rs fun xs bs' => K (x :: xs) (bs ++ bs')
def agi : List D → D
 | [x] => x
 | xs => .tup xs
structure Res (r : D) (xs : List D) : Prop where
 h : r = agi xs
def anl (T : Tab) (rs : List ResultVar) (r : D) (e : Exit) (σ : St) : Prop :=
 match e with
 | .ret | .normal => ad3 T σ rs fun xs _ => Res r xs
 | _ => False
def tr : Nat → List D → List (Nat × A)
 | _, [] => []
 | i, x :: xs => (i, .d x) :: tr (i + 1) xs
def St.enter (n : Nat) (args : List D) : St := { n, env := tr 0 args, heap := [] }
def D.sc : D → Bool
 | .bool _ | .int _ _ | .str _ | .any | .nil => true
 | .raw _ => true
 | .slice _ _ => false
 | .agg _ => false
 | .ptrd _ => false
 | .fnd _ _ => false
 | .tup l => l.all fun | .bool _ | .int _ _ | .str _ | .any | .nil | .raw _ => true | _ => false
theorem D.a5f {S S' : Imm} {w w' : World} : ∀ {x : D} {v : Value}, x.sc = true → DR S w x v → DR S' w' x v := by
 intro x v hs h
 cases x with
 | slice _ _ => simp [D.sc] at hs
 | agg _ => simp [D.sc] at hs
 | ptrd _ => simp [D.sc] at hs
 | fnd _ _ => simp [D.sc] at hs
 | tup l =>
  simp only [DR] at h ⊢
  obtain ⟨vs, hv, hl⟩ := h
  refine ⟨vs, hv, qj (cy hl) fun j y u hj hu => ?_⟩
  obtain ⟨u', hu', hR⟩ := ig hl hj
  rw [hu] at hu'; cases hu'
  simp only [D.sc, List.all_eq_true] at hs
  have := hs y (List.mem_of_getElem? hj)
  cases y <;> first | (simp at this; done) | (simp only [DR] at hR ⊢; exact hR) | exact hR
 | _ => first | exact h | (simp only [DR] at h ⊢; exact h)
theorem amr {S : Imm} {w : World} {β : Own} : ∀ {args : List D} {vs : List Value} {i t : Nat} {x : A}, DRs S w args vs → lk (tr i args) t = some x → ∃ u, i ≤ t ∧ vs[t - i]? = some u ∧ AR β S w x u
 | [], vs, i, t, x, _, h => by simp [tr, lk] at h
 | y :: args, vs, i, t, x, hd, h => by
  simp only [DRs] at hd
  obtain ⟨u, us, rfl, h1, h2⟩ := hd
  simp only [tr, lk] at h
  split at h
  ·rename_i e
   subst e; cases h
   exact ⟨u, Nat.le_refl _, by simp, by simp only [AR]; exact h1⟩
  ·obtain ⟨u', h3, h4, h5⟩ := amr h2 h
   refine ⟨u', by omega, ?_, h5⟩
   rw [show t - i = (t - (i + 1)) + 1 by omega]
   simpa using h4
theorem sf (hT : b6 P T) {w0 : World} {M : Own} {S0 : Imm} {σ : St} {a : Act} {w : World} {β : Own} {S : Imm} (h : Rel G w0 M S0 σ a w β S) : ∀ {rs : List ResultVar} {K : List D → List Nat → Prop}, ad3 T σ rs K →
  ∃ ds bs vs, K ds bs ∧ (∀ b ∈ bs, ∃ (fr : Bool) (l : List D), σ.hp b = some (fr, l.map A.d)) ∧ (∀ bs', (∀ b ∈ bs, b ∈ bs') → DRs (nk β σ bs' S) w ds vs) ∧
   (rs.mapM (fun | ResultVar.tmp t => pure (a.tmps.getD t undef) | .cell c t => do loadVar t (← asAddr (a.tmps.getD c undef)) : ResultVar → Sem Value)).run P w = .ok vs w
 | [], K, hk => ⟨[], [], [], hk, by simp, fun _ _ => rfl, by simp⟩
 | .tmp t :: rs, K, hk => by
  simp only [ad3] at hk
  obtain ⟨d, bs, hk, hb, hd⟩ := ob h hk (h.get t)
  obtain ⟨ds, bs2, vs, hk, hb2, hds, hrun⟩ := sf hT h hk
  refine ⟨_, _, a.tmps.getD t undef :: vs, hk, fun b hb' => ?_, fun bs' hbs => ⟨_, _, rfl, hd bs' fun b hb => hbs b (by simp [hb]), hds bs' fun b hb => hbs b (by simp [hb])⟩, ?_⟩
  ·rcases List.mem_append.1 hb' with hb' | hb'
   ·exact hb b hb'
   ·exact hb2 b hb'
  ·simp only [List.mapM_cons, Sem.run_bind, Sem.run_pure, Result.andThen_ok, hrun]
 | .cell c t :: rs, K, hk => by
  simp only [ad3] at hk
  obtain ⟨y, v, hk, hR, hrun0⟩ := abn (P := P) hT h.hrd hk (h.get c)
  obtain ⟨d, bs, hk, hb, hd⟩ := ob h hk hR
  obtain ⟨ds, bs2, vs, hk, hb2, hds, hrun⟩ := sf hT h hk
  refine ⟨_, _, v :: vs, hk, fun b hb' => ?_, fun bs' hbs => ⟨_, _, rfl, hd bs' fun b hb => hbs b (by simp [hb]), hds bs' fun b hb => hbs b (by simp [hb])⟩, ?_⟩
  ·rcases List.mem_append.1 hb' with hb' | hb'
   ·exact hb b hb'
   ·exact hb2 b hb'
  ·have hrun1 : (do loadVar t (← asAddr (a.tmps.getD c undef)) : Sem Value).run P w = .ok v w := by
    rw [← hrun0]
    unfold Instr.loadAt
    cases hv : a.tmps.getD c undef with
    | pointer p =>
     cases p with
     | none => rw [hv] at hrun0; simp [Instr.loadAt, Instr.sureAddr] at hrun0
     | some p => rfl
    | _ => rw [hv] at hrun0; simp [Instr.loadAt, Instr.sureAddr] at hrun0
   simp only [List.mapM_cons, Sem.run_bind, hrun1, Sem.run_pure, Result.andThen_ok, hrun]
theorem ad5 (hT : b6 P T) {f : FuncId} {fn : Func} {c : Code} {args : List D} {r : D} {env : List (Nat × A)} (henv : ∀ {S : Imm} {w : World} {β : Own} {vs : List Value} {t : Nat} {x : A}, DRs S w args vs → lk env t = some x → ∃ u, 0 ≤ t ∧ vs[t - 0]? = some u ∧ AR β S w x u) (hf : P.funcs[f]? = some fn) (hb : fn.body = some c) (hname : (fn.name == "runtime.NumGoroutine") = false) (hn : args.length ≤ fn.ntmps ∧ fn.ntmps ≤ 1000000)
  (h : awp P G T c (anl T fn.results.toList r) ⟨fn.ntmps, env, []⟩) : Sim P G r.sc f args r := by
 refine ⟨by simp [ju, hf, hb, hname], fun S w vs hS hG hargs => ?_⟩
 refine calls_of_wp hf hb ?_
 have hlen := cy hargs
 have hrel : Rel G w (fun _ => none) S ⟨fn.ntmps, env, []⟩ { tmps := vs.toArray ++ Array.replicate (fn.ntmps - vs.toArray.size) undef, defers := [] } w (fun _ => none) S := by
  refine { defers := rfl, size := ?_, env := ?_, glob := hG, keys := ?_, rd := ?_, live := ?_, froz := ?_, fd := ?_, nilb := ?_, inj := ?_, imm := hS, old := fun _ _ h _ => .inl h, ext := ⟨rfl, rfl, rfl, Nat.le_refl _, fun _ _ _ => rfl, fun k C Tc fr hk => ⟨C, hk, rfl⟩⟩, stay := fun _ _ _ h => absurd rfl h, small := hn.2, src := fun _ _ h => by cases h }
  ·simp; omega
  ·intro t x hx
   obtain ⟨u, _, hu, hR⟩ := henv (β := fun _ => none) hargs hx
   simp only [Nat.sub_zero] at hu
   have hlt : t < vs.length := (List.getElem?_eq_some_iff.1 hu).1
   have : (vs.toArray ++ Array.replicate (fn.ntmps - vs.toArray.size) undef).getD t undef = u := by
    rw [Array.getD_eq_getD_getElem?, Array.getElem?_append, if_pos (by simpa using hlt)]
    simp [hu]
   rw [this]; exact hR
  all_goals intros; simp_all [lk]
 refine wp_mono (ec hT c _ _ h w _ _ _ w _ S hrel) ?_
 rintro e a' w' ⟨σ', β', S', hq, hr, hn'⟩
 have hfin : ad3 T σ' fn.results.toList (fun xs _ => Res r xs) → bodyPost P fn (fun e w' => ∃ v, e = .returned v ∧ RowKit.Below w.heap.size w w' ∧
   ∃ S' : Imm, (∀ k o, S' k o → (r.sc = false ∧ S k o) ∨ (w.heap.size ≤ k ∧ k < w'.heap.size)) ∧ DR S' w' r v) .ret a' w' := by
  intro hq
  obtain ⟨ds, bs, us, ⟨rfl⟩, hbs, hds, hrun⟩ := sf hT hr hq
  have hd := hds bs (fun _ h => h)
  have hfr := hr.freeze hbs
  have hres : (results fn a'.tmps).run P w' = .ok (if h : us.toArray.size = 1 then us.toArray[0] else .tuple us.toArray) w' := by
   unfold results
   rw [Array.mapM_eq_mapM_toList]
   have : (List.mapM (fun | ResultVar.tmp t => pure (a'.tmps.getD t undef) | .cell c t => do loadVar t (← asAddr (a'.tmps.getD c undef)) : ResultVar → Sem Value) fn.results.toList).run P w' = .ok us w' := hrun
   simp only [Sem.run_bind, Sem.run_map]
   erw [this]
   simp only [Result.andThen_ok, Sem.run_pure]
  have hR : DR (nk β' σ' bs S') w' (agi ds) (if h : us.toArray.size = 1 then us.toArray[0] else .tuple us.toArray) := by
   have hl := cy hd
   unfold agi
   split
   ·rename_i x
    simp only [DRs] at hd
    obtain ⟨u, us', rfl, h1, rfl⟩ := hd
    simpa using h1
   ·rename_i hne
    rw [dif_neg]
    ·simp only [DR]; exact ⟨us.toArray, rfl, hd⟩
    ·intro h1
     have : ds.length = 1 := by rw [← hl]; simpa using h1
     obtain ⟨x, rfl⟩ := List.length_eq_one_iff.1 this
     exact hne x rfl
  refine ⟨hr.defers, _, hres, _, rfl, ⟨hr.ext.os, hr.ext.tape, hr.ext.output, hr.ext.size, fun k hk => hr.ext.block k hk (by rintro ⟨_, h⟩; cases h)⟩, ?_⟩
  cases hsc : (agi ds).sc with
  | true => exact ⟨fun _ _ => False, fun _ _ h => h.elim, D.a5f hsc hR⟩
  | false =>
   refine ⟨_, fun k o hk => ?_, hR⟩
   by_cases hlt : k < w.heap.size
   ·rcases hfr.old k o hk hlt with h1 | h1
    ·exact .inl ⟨rfl, h1⟩
    ·obtain ⟨_, h1⟩ := h1; cases h1
   ·exact .inr ⟨by omega, hfr.imm k o hk⟩
 cases e with
 | normal => exact hfin hq
 | ret => exact hfin hq
 | _ => exact hq.elim
theorem aqp (hT : b6 P T) {f : FuncId} {fn : Func} {c : Code} {args : List D} {r : D} (hf : P.funcs[f]? = some fn) (hb : fn.body = some c) (hname : (fn.name == "runtime.NumGoroutine") = false) (hn : args.length ≤ fn.ntmps ∧ fn.ntmps ≤ 1000000)
  (h : awp P G T c (anl T fn.results.toList r) (St.enter fn.ntmps args)) : Sim P G r.sc f args r :=
 ad5 hT (env := tr 0 args) (fun hd hx => amr hd hx) hf hb hname hn h
def D.aza : D → A
 | .ptrd c => .elem c
 | x => .d x
def D.toA : D → A
 | .ptrd c => .elem c
 | .fnd f l => .fn f (l.map D.aza)
 | .raw (.func (.func f) ⟨[]⟩ ⟨[]⟩) => .fn f []
 | x => .d x
theorem AR.aza {β : Own} {S : Imm} {w : World} : ∀ {x : D} {v : Value}, DR S w x v → AR β S w x.aza v := by
 intro x v h
 unfold D.aza
 split
 ·simp only [DR] at h; simp only [AR]; exact h
 ·simp only [AR]; exact h
theorem AR.toA {β : Own} {S : Imm} {w : World} : ∀ {x : D} {v : Value}, DR S w x v → AR β S w x.toA v := by
 intro x v h
 unfold D.toA
 split
 ·simp only [DR] at h; simp only [AR]; exact h
 ·rename_i f l
  simp only [DR] at h
  obtain ⟨vs, hv, hl⟩ := h
  simp only [AR]
  refine ⟨vs, hv, wz (by simpa using cy hl) fun j x u hj hu => ?_⟩
  simp only [List.getElem?_map, Option.map_eq_some_iff] at hj
  obtain ⟨y, hy, rfl⟩ := hj
  obtain ⟨u', hu', hR⟩ := ig hl hy
  rw [hu] at hu'; cases hu'
  exact AR.aza hR
 ·simp only [DR] at h
  simp only [AR]
  exact ⟨_, h, rfl⟩
 ·simp only [AR]; exact h
def qd : Nat → List D → List (Nat × A)
 | _, [] => []
 | i, x :: xs => (i, x.toA) :: qd (i + 1) xs
theorem air {S : Imm} {w : World} {β : Own} : ∀ {args : List D} {vs : List Value} {i t : Nat} {x : A}, DRs S w args vs → lk (qd i args) t = some x → ∃ u, i ≤ t ∧ vs[t - i]? = some u ∧ AR β S w x u
 | [], vs, i, t, x, _, h => by simp [qd, lk] at h
 | y :: args, vs, i, t, x, hd, h => by
  simp only [DRs] at hd
  obtain ⟨u, us, rfl, h1, h2⟩ := hd
  simp only [qd, lk] at h
  split at h
  ·rename_i e
   subst e; cases h
   exact ⟨u, Nat.le_refl _, by simp, AR.toA h1⟩
  ·obtain ⟨u', h3, h4, h5⟩ := air h2 h
   refine ⟨u', by omega, ?_, h5⟩
   rw [show t - i = (t - (i + 1)) + 1 by omega]
   simpa using h4
theorem a1q (hT : b6 P T) {f : FuncId} {fn : Func} {c : Code} {args : List D} {r : D} {fresh : Bool} (hf : P.funcs[f]? = some fn) (hb : fn.body = some c) (hname : (fn.name == "runtime.NumGoroutine") = false) (hs : r.sc = fresh) (hn : args.length ≤ fn.ntmps ∧ fn.ntmps ≤ 1000000)
  (h : awp P G T c (anl T fn.results.toList r) ⟨fn.ntmps, qd 0 args, []⟩) : Sim P G fresh f args r :=
 hs ▸ ad5 hT (env := qd 0 args) (fun hd hx => air hd hx) hf hb hname hn h
theorem a38 (hT : b6 P T) {f : FuncId} {fn : Func} {c : Code} {args : List D} {r : D} {fresh : Bool} (hf : P.funcs[f]? = some fn) (hb : fn.body = some c) (hname : (fn.name == "runtime.NumGoroutine") = false) (hs : r.sc = fresh) (hn : args.length ≤ fn.ntmps ∧ fn.ntmps ≤ 1000000)
  (h : awp P G T c (anl T fn.results.toList r) (St.enter fn.ntmps args)) : Sim P G fresh f args r := hs ▸ aqp hT hf hb hname hn h
inductive fo (T : Tab) (rs : List ResultVar) (r : A) (hout : Hp) (σ : St) : Prop where
 | own (t : Nat) (h : rs = [.tmp t]) (h1 : σ.get t = r) (h2 : σ.heap.filter (fun x => (hout.map (·.1)).contains x.1) = hout)
 | data (x : D) (h : ad3 T σ rs fun xs bs => agi xs = x ∧ (aab σ.heap bs).filter (fun x => (hout.map (·.1)).contains x.1) = hout) (h1 : r = .d x)
def a35 (T : Tab) (rs : List ResultVar) (r : A) (hout : Hp) (e : Exit) (σ : St) : Prop :=
 match e with
 | .ret | .normal => fo T rs r hout σ
 | _ => False
def z9 : Nat → List A → List (Nat × A)
 | _, [] => []
 | i, x :: xs => (i, x) :: z9 (i + 1) xs
theorem aiq {S : Imm} {w : World} {β : Own} : ∀ {args : List A} {vs : List Value} {i t : Nat} {x : A}, ARs β S w args vs → lk (z9 i args) t = some x → ∃ u, i ≤ t ∧ vs[t - i]? = some u ∧ AR β S w x u
 | [], vs, i, t, x, h, hx => by simp [z9, lk] at hx
 | y :: ys, vs, i, t, x, h, hx => by
  simp only [ARs] at h
  obtain ⟨u, us, rfl, h1, h2⟩ := h
  simp only [z9, lk] at hx
  split at hx
  ·rename_i e
   subst e
   cases hx
   exact ⟨u, Nat.le_refl _, by simp, h1⟩
  ·rename_i hne
   obtain ⟨u', h3, h4, h5⟩ := aiq h2 hx
   refine ⟨u', by omega, ?_, h5⟩
   have e : t - i = (t - (i + 1)) + 1 := by omega
   rw [e]; simpa using h4
theorem fy (hT : b6 P T) {f : FuncId} {fn : Func} {c : Code} {args : List A} {hin : Hp} {r : A} {hout : Hp} (hf : P.funcs[f]? = some fn) (hb : fn.body = some c) (hname : (fn.name == "runtime.NumGoroutine") = false) (hn : args.length ≤ fn.ntmps ∧ fn.ntmps ≤ 1000000)
  (r1 : A.a6 (hin.map (·.1)) args = true) (r2 : ∀ x ∈ hin, A.a6 (hin.map (·.1)) x.2.2 = true) (r3 : r.jk (hout.map (·.1)) = true) (r4 : ∀ x ∈ hout, A.a6 (hout.map (·.1)) x.2.2 = true)
  (h : awp P G T c (a35 T fn.results.toList r hout) ⟨fn.ntmps, z9 0 args, hin⟩) : ji P G f args hin r hout := by
 refine ⟨by simp [ju, hf, hb, hname], r1, r2, r3, r4, fun S w β vs hpre hargs => ?_⟩
 refine calls_of_wp hf hb ?_
 have hlen := dj hargs
 have hrel : Rel G w β S ⟨fn.ntmps, z9 0 args, hin⟩ { tmps := vs.toArray ++ Array.replicate (fn.ntmps - vs.toArray.size) undef, defers := [] } w β S := by
  refine { defers := rfl, size := ?_, env := ?_, glob := hpre.glob, keys := hpre.keys, rd := hpre.rd, live := hpre.live, froz := hpre.froz, fd := hpre.fd, nilb := hpre.nilb, inj := hpre.inj, imm := hpre.imm, old := hpre.old, ext := hpre.ext, stay := hpre.stay, small := hn.2, src := hpre.src }
  ·simp; omega
  ·intro t x hx
   obtain ⟨u, _, hu, hR⟩ := aiq hargs hx
   simp only [Nat.sub_zero] at hu
   have hlt : t < vs.length := (List.getElem?_eq_some_iff.1 hu).1
   have : (vs.toArray ++ Array.replicate (fn.ntmps - vs.toArray.size) undef).getD t undef = u := by
    rw [Array.getD_eq_getD_getElem?, Array.getElem?_append, if_pos (by simpa using hlt)]
    simp [hu]
   rw [this]; exact hR
 refine wp_mono (ec hT c _ _ h w _ _ _ w _ S hrel) ?_
 rintro e a' w' ⟨σ', β', S', hq, hr, hn'⟩
 have hfin : fo T fn.results.toList r hout σ' → bodyPost P fn (fun e w' => ∃ v β' S', e = .returned v ∧ Rel G w β S (St.mem hout) aor w' β' S' ∧ AR β' S' w' r v) .ret a' w' := by
  intro hq
  have hcut : ∀ {σ2 : St} {S2 : Imm}, Rel G w β S σ2 a' w' β' S2 → σ2.heap.filter (fun x => (hout.map (·.1)).contains x.1) = hout → Rel G w β S (St.mem hout) aor w' (β'.only (hout.map (·.1))) S2 := by
   intro σ2 S2 h2 he
   refine (h2.cut (L := []) (ks := hout.map (·.1)) (xs := []) (hh := hout) ⟨.inl rfl, he, rfl, ?_⟩).only
   rw [List.all_eq_true]
   exact r4
  cases hq with
  | own t h0 h1 h2 =>
   refine ⟨hr.defers, a'.tmps.getD t undef, ?_, _, _, _, rfl, hcut hr h2, ?_⟩
   ·unfold results
    have e1 : fn.results = #[.tmp t] := by
     cases hh : fn.results; rw [hh] at h0; simp only at h0; rw [h0]
    rw [e1]; simp
   ·refine aas r3 ?_
    rw [← h1]; exact hr.get t
  | data x hq h1 =>
   obtain ⟨ds, bs, us, ⟨rfl, hflt⟩, hbs, hds, hrun⟩ := sf hT hr hq
   subst h1
   have hd := hds bs (fun _ h => h)
   have hfr := hr.freeze hbs
   have hfe : σ'.freeze bs = ⟨σ'.n, σ'.env, aab σ'.heap bs⟩ := aro σ'.n σ'.env σ'.heap bs
   have hres : (results fn a'.tmps).run P w' = .ok (if h : us.toArray.size = 1 then us.toArray[0] else .tuple us.toArray) w' := by
    unfold results
    rw [Array.mapM_eq_mapM_toList]
    have : (List.mapM (fun | ResultVar.tmp t => pure (a'.tmps.getD t undef) | .cell c t => do loadVar t (← asAddr (a'.tmps.getD c undef)) : ResultVar → Sem Value) fn.results.toList).run P w' = .ok us w' := hrun
    simp only [Sem.run_bind, Sem.run_map]
    erw [this]
    simp only [Result.andThen_ok, Sem.run_pure]
   have hR : DR (nk β' σ' bs S') w' (agi ds) (if h : us.toArray.size = 1 then us.toArray[0] else .tuple us.toArray) := by
    have hl := cy hd
    unfold agi
    split
    ·rename_i x
     simp only [DRs] at hd
     obtain ⟨u, us', rfl, h1, rfl⟩ := hd
     simpa using h1
    ·rename_i hne
     rw [dif_neg]
     ·simp only [DR]; exact ⟨us.toArray, rfl, hd⟩
     ·intro h1
      have : ds.length = 1 := by rw [← hl]; simpa using h1
      obtain ⟨x, rfl⟩ := List.length_eq_one_iff.1 this
      exact hne x rfl
   rw [hfe] at hfr
   exact ⟨hr.defers, _, hres, _, _, _, rfl, hcut hfr hflt, by simp only [AR]; exact hR⟩
 cases e with
 | normal => exact hfin hq
 | ret => exact hfin hq
 | _ => exact hq.elim
end
end Go.Ev

namespace Go.Ev
open Go
theorem aj {n : Int} (h0 : -9223372036854775808 ≤ n) (h1 : n ≤ 9223372036854775807) : IntKind.i64.wrap n = n := by
 have e : IntKind.i64.wrap n = if (true && decide (n % 2 ^ 64 ≥ 2 ^ 63)) = true then n % 2 ^ 64 - 2 ^ 64 else n % 2 ^ 64 := rfl
 rw [e]
 by_cases h : n % 2 ^ 64 ≥ 2 ^ 63
 ·rw [if_pos (by simpa using h)]; omega
 ·rw [if_neg (by simpa using h)]; omega
theorem wrap_u64 {n : Int} (h0 : 0 ≤ n) (h1 : n < 18446744073709551616) : IntKind.u64.wrap n = n := by
 have e : IntKind.u64.wrap n = if (false && decide (n % 2 ^ 64 ≥ 2 ^ 63)) = true then n % 2 ^ 64 - 2 ^ 64 else n % 2 ^ 64 := rfl
 rw [e, if_neg (by simp)]
 omega
theorem wrap_u32 (n : Int) : IntKind.u32.wrap n = n % 4294967296 := by
 have e : IntKind.u32.wrap n = if (false && decide (n % 2 ^ 32 ≥ 2 ^ 31)) = true then n % 2 ^ 32 - 2 ^ 32 else n % 2 ^ 32 := rfl
 rw [e, if_neg (by simp)]
 rfl
def bj (l : List UInt32) : List D := l.map fun x => .int .u32 x.toNat
def sl (l : List UInt32) : D := .slice l.length (bj l)
@[simp] theorem px (l : List UInt32) : (bj l).length = l.length := by simp [bj]
theorem dw (l : List UInt32) (i : Nat) (h : i < l.length) : ((bj l).drop (i * 1))[0]? = some (.int .u32 (l.getD i 0).toNat) := by
 simp [bj, h]
theorem apk (l : List UInt32) (i : Nat) (h : i < l.length) : ((bj l).map A.d)[i]? = some (.d (.int .u32 (l.getD i 0).toNat)) := by
 simp [bj, h]
theorem ahf (l : List UInt32) (a b : Int) (h0 : 0 ≤ a) (h1 : a ≤ b) (h2 : b ≤ l.length) :
  D.slice (b - a).toNat (((bj l).drop (a.toNat * 1)).take ((b - a).toNat * 1)) = sl ((l.drop a.toNat).take (b - a).toNat) := by
 unfold sl bj
 rw [Nat.mul_one, Nat.mul_one, List.map_take, List.map_drop]
 congr 1
 simp; omega
end Go.Ev
