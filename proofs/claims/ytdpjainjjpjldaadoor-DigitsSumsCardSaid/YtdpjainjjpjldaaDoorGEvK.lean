/- Contracts of the given functions, on data. Conditions stand in each theorem. -/
import Derived.Lib.LaidTab
import Derived.Deep.Slices
import Derived.Carry
import Derived.ChangeSame
import Derived.RowKit
import Derived.ScopeJumps
import Derived.Test.YtdpjainjjpjldaaDoorProg
import Derived.Test.YtdpjainjjpjldaaDoorGEvN
set_option linter.unusedSimpArgs false
set_option linter.unusedVariables false
namespace Go.Ev
open Go
def Wp' (P : Program) (G : bj) (c : Code) (Q : Exit → St → Prop) (σ : St) : Prop :=
 ∀ w0 M S0 a w β S, Rel G w0 M S0 σ a w β S → c.wp P (fun e a' w' => py G w0 M S0 σ.n (Q e) a' w') a w
def St.at (n : Nat) (L : List Nat) (xs : List A) (h : List (Nat × Bool × List A)) : St := { n, env := L.zip xs, heap := h }
def St.afm (σ : St) (L : List Nat) : List A := L.map σ.get
def A.dnA : A → A
 | .d x => .d x.dn
 | x => x
theorem AR.dnA {β : Own} {S : Imm} {w : World} : ∀ {x : A} {v : Value}, AR β S w x v → AR β S w x.dnA v
 | .d x, v, h => by simp only [AR, A.dnA] at h ⊢; exact aku h
 | .ptr _ _, v, h => h
 | .tptr _ _ _, v, h => h
 | .town _ _ _, v, h => h
 | .elem _, v, h => h
 | .own _ _ _ _, v, h => h
 | .agg _, v, h => h
 | .tup _, v, h => h
 | .fn _ _, v, h => h
def St.cut (σ : St) (L : List Nat) (ks : List Nat) (xs : List A) (h : List (Nat × Bool × List A)) : Prop :=
 (σ.afm L = xs ∨ (σ.afm L).map A.dnA = xs) ∧ σ.heap.filter (fun x => ks.contains x.1) = h ∧ A.bc ks xs = true ∧ h.all (fun x => A.bc ks x.2.2) = true
def St.sq (σ : St) : List (Nat × Nat × Nat) → (St → Prop) → Prop
 | [], K => K σ
 | (t, b, sz) :: ad, K => σ.get t = .d .nil ∧ σ.hp b = none ∧ (t < σ.n ∧ b < 1000000) ∧ St.sq ((σ.new b []).put (some t) (.own b 0 0 sz)) ad K
section
variable {P : Program} {G : bj} {T : Tab} {w0 : World} {M : Own} {S0 : Imm} {σ : St} {a : Act} {w w' : World} {β : Own} {S : Imm}
def Own.only (β : Own) (ks : List Nat) : Own := fun b => if ks.contains b then β b else none
mutual
theorem ov {ks : List Nat} : ∀ {x : A} {v : Value}, x.dx ks = true → AR β S w x v → AR (β.only ks) S w x v
 | .d x, v, _, h => by simp only [AR] at h ⊢; exact h
 | .elem x, v, _, h => by simp only [AR] at h ⊢; exact h
 | .ptr c o, v, hr, h => by
  simp only [A.dx] at hr
  simp only [AR, Own.only, hr, if_true] at h ⊢; exact h
 | .tptr c t n, v, hr, h => by
  simp only [A.dx] at hr
  simp only [AR, Own.only, hr, if_true] at h ⊢; exact h
 | .town c n e, v, hr, h => by
  simp only [A.dx] at hr
  simp only [AR, Own.only, hr, if_true] at h ⊢; exact h
 | .own c o n sz, v, hr, h => by
  simp only [A.dx] at hr
  simp only [AR, Own.only, hr, if_true] at h ⊢; exact h
 | .agg l, v, hr, h => by
  simp only [A.dx] at hr
  simp only [AR] at h ⊢
  obtain ⟨vs, rfl, h⟩ := h
  exact ⟨vs, rfl, qm hr h⟩
 | .tup l, v, hr, h => by
  simp only [A.dx] at hr
  simp only [AR] at h ⊢
  obtain ⟨vs, rfl, h⟩ := h
  exact ⟨vs, rfl, qm hr h⟩
 | .fn f l, v, hr, h => by
  simp only [A.dx] at hr
  simp only [AR] at h ⊢
  obtain ⟨vs, rfl, h⟩ := h
  exact ⟨vs, rfl, qm hr h⟩
theorem qm {ks : List Nat} : ∀ {l : List A} {vs : List Value}, A.bc ks l = true → ARs β S w l vs → ARs (β.only ks) S w l vs
 | [], vs, _, h => by simpa [ARs] using h
 | x :: l, vs, hr, h => by
  simp only [A.bc, Bool.and_eq_true] at hr
  simp only [ARs] at h ⊢
  obtain ⟨u, us, rfl, h1, h2⟩ := h
  exact ⟨u, us, rfl, ov hr.1 h1, qm hr.2 h2⟩
end
theorem o3 (ks : List Nat) : ∀ (l : List (Nat × Bool × List A)) (t : Nat), lk (l.filter fun x => ks.contains x.1) t = if ks.contains t then lk l t else none
 | [], t => by simp [lk]
 | (k, x) :: l, t => by
  rw [List.filter_cons]
  split
  ·rename_i h
   simp only [lk]
   by_cases e : k = t
   ·subst e; simp only at h; rw [if_pos rfl, if_pos h, if_pos rfl]
   ·rw [if_neg e, if_neg e]; exact o3 ks l t
  ·rename_i h
   rw [o3 ks l t]
   simp only [lk]
   by_cases e : k = t
   ·subst e; simp only at h; rw [if_neg h, if_neg h]
   ·rw [if_neg e]
theorem ahn : ∀ {L : List Nat} {xs : List A} {t : Nat} {x : A}, lk (L.zip xs) t = some x → ∃ j : Nat, L[j]? = some t ∧ xs[j]? = some x
 | [], xs, t, x, h => by simp [lk] at h
 | l :: L, [], t, x, h => by simp [lk] at h
 | l :: L, y :: xs, t, x, h => by
  simp only [List.zip_cons_cons, lk] at h
  split at h
  ·rename_i e
   subst e; cases h
   exact ⟨0, rfl, rfl⟩
  ·obtain ⟨j, h1, h2⟩ := ahn h
   exact ⟨j + 1, by simpa using h1, by simpa using h2⟩
theorem Rel.cut (h : Rel G w0 M S0 σ a w β S) {L ks : List Nat} {xs : List A} {hh : List (Nat × Bool × List A)} (hc : σ.cut L ks xs hh) : Rel G w0 M S0 (St.at σ.n L xs hh) a w (β.only ks) S := by
 obtain ⟨hgx, rfl, hx, hr⟩ := hc
 have hon : ∀ b (k : Option Nat), β.only ks b = some k → ks.contains b = true ∧ β b = some k := by
  intro b k hb
  unfold Own.only at hb
  split at hb
  ·exact ⟨by assumption, hb⟩
  ·cases hb
 have hlk : ∀ b x, lk (σ.heap.filter fun x => ks.contains x.1) b = some x → ks.contains b = true ∧ lk σ.heap b = some x := by
  intro b x hb
  rw [o3] at hb
  split at hb
  ·exact ⟨by assumption, hb⟩
  ·cases hb
 have hmem : ∀ (l : List (Nat × Bool × List A)) (b : Nat) (x : Bool × List A), lk l b = some x → (b, x) ∈ l := by
  intro l
  induction l with
  | nil => intro b x h; simp [lk] at h
  | cons y l ih =>
   intro b x h
   obtain ⟨k, y⟩ := y
   simp only [lk] at h
   split at h
   ·rename_i e; subst e; cases h; simp
   ·exact List.mem_cons_of_mem _ (ih b x h)
 have hrefs : ∀ b x, lk (σ.heap.filter fun x => ks.contains x.1) b = some x → A.bc ks x.2 = true := by
  intro b x hb
  have := hmem _ _ _ hb
  exact List.all_eq_true.1 hr _ this
 refine { h with env := ?_, keys := ?_, rd := ?_, live := ?_, froz := ?_, fd := ?_, nilb := ?_, inj := ?_, stay := ?_, src := fun b k hb => h.src b k (hon b _ hb).2 }
 ·intro t x hx'
  obtain ⟨j, h1, h2⟩ := ahn hx'
  rcases hgx with rfl | rfl
  ·simp only [St.afm, List.getElem?_map, h1, Option.map_some, Option.some.injEq] at h2
   subst h2
   have hrx := gz hx (j := j) (x := σ.get t) (by simp [St.afm, h1])
   exact ov hrx (h.get t)
  ·simp only [St.afm, List.getElem?_map, h1, Option.map_some, Option.some.injEq] at h2
   subst h2
   have hrx := gz hx (j := j) (x := (σ.get t).dnA) (by simp [St.afm, h1])
   exact ov hrx (h.get t).dnA
 ·intro b hb
  obtain ⟨k, hk⟩ := Option.ne_none_iff_exists'.1 hb
  obtain ⟨h1, h2⟩ := hon b k hk
  show lk (σ.heap.filter fun x => ks.contains x.1) b ≠ none
  rw [o3, if_pos h1]
  exact h.keys b (by rw [h2]; simp)
 ·intro b k fr l hb hl
  obtain ⟨h1, h2⟩ := hon b _ hb
  obtain ⟨_, h3⟩ := hlk b _ hl
  obtain ⟨C, Tc, hC, hlen, hcell⟩ := h.rd b k fr l h2 h3
  refine ⟨C, Tc, hC, hlen, fun j x hj => ?_⟩
  obtain ⟨u, hu, hR⟩ := hcell j x hj
  exact ⟨u, hu, ov (gz (hrefs b _ hl) hj) hR⟩
 ·intro b k l hb hl
  exact h.live b k l (hon b _ hb).2 (hlk b _ hl).2
 ·intro b k l hb hl
  exact h.froz b k l (hon b _ hb).2 (hlk b _ hl).2
 ·intro b l hl
  exact h.fd b l (hlk b _ hl).2
 ·intro b fr l hb hl
  obtain ⟨h1, h2⟩ := hlk b _ hl
  have : β b = some none := by
   unfold Own.only at hb
   rwa [if_pos h1] at hb
  exact h.nilb b fr l this h2
 ·intro b b' k hb hb'
  exact h.inj b b' k (hon b _ hb).2 (hon b' _ hb').2
 ·intro b h1 h2 hb
  obtain ⟨x, hx⟩ := Option.ne_none_iff_exists'.1 hb
  obtain ⟨h3, h4⟩ := hlk b x hx
  show (if ks.contains b then β b else none) = M b
  rw [if_pos h3]
  exact h.stay b h1 h2 (by rw [h4]; simp)
theorem Rel.sq : ∀ {ad : List (Nat × Nat × Nat)} {σ : St} {β : Own} {K : St → Prop}, Rel G w0 M S0 σ a w β S → σ.sq ad K → ∃ σ' β', K σ' ∧ Rel G w0 M S0 σ' a w β' S ∧ σ'.n = σ.n
 | [], σ, β, K, h, hk => ⟨σ, β, hk, h, rfl⟩
 | (t, b, sz) :: ad, σ, β, K, h, hk => by
  obtain ⟨h1, h2, h3, hk⟩ := hk
  have hv := h.get t
  rw [h1] at hv
  simp only [AR, DR] at hv
  have hg := h.ghost h2 h3.2
  have hp : Rel G w0 M S0 ((σ.new b []).put (some t) (.own b 0 0 sz)) a w (β.gh b) S := by
   refine { hg with size := ?_, env := ?_ }
   ·exact hg.size
   ·intro t' x hx
    simp only [St.put, lk] at hx
    split at hx
    ·rename_i e
     subst e
     cases hx
     simp only [AR]
     exact .inr ⟨trivial, by simp [Own.gh], none, hv⟩
    ·exact hg.env t' x hx
  obtain ⟨σ', β', h4, h5, h6⟩ := Rel.sq hp hk
  exact ⟨σ', β', h4, h5, h6⟩
end
def xh {α : Type} : List α → Nat → List α → List α
 | [], _, _ => []
 | a :: l, n + 1, xs => a :: xh l n xs
 | _ :: l, 0, x :: xs => x :: xh l 0 xs
 | a :: l, 0, [] => a :: l
theorem abn {α : Type} : ∀ (l : List α) (o : Nat), xh l o [] = l
 | [], o => by cases o <;> rfl
 | a :: l, 0 => rfl
 | a :: l, n + 1 => by simp only [xh]; rw [abn l n]
theorem abo {α : Type} : ∀ (l : List α) (o : Nat) (x : α) (xs : List α), xh (l.set o x) (o + 1) xs = xh l o (x :: xs)
 | [], o, x, xs => by cases o <;> rfl
 | a :: l, 0, x, xs => by simp only [List.set, xh]
 | a :: l, n + 1, x, xs => by simp only [List.set, xh]; rw [abo l n]
theorem aex {α : Type} : ∀ (xs l : List α) (o : Nat), setAt l o xs = xh l o xs
 | [], l, o => (abn l o).symm
 | x :: xs, l, o => by rw [setAt, aex xs, abo]
theorem EqE.fP {α : Type} {l xs : List α} {o : Nat} {K : List α → Prop} (h : ag (xh l o xs) K) : EqE (setAt l o xs) K := by rw [aex]; exact EqE.fL h
def wk (T : Tab) (n : Nat) (ops : Array Oper) (draw : Bool) : Bool := (ops.all fun o => o.dst.all (· < n)) && (!draw || adl T ops)
def aib (T : Tab) (n : Nat) (ops : Array Oper) (draw : Bool) (ps : List (Nat × Nat)) : Bool := (ops.all fun o => o.dst.all (· < n)) && draw && zw T ops ps
inductive ab9 where
 | frz (s : Nat)
 | cut (b m : Nat)
inductive ai3 (a : Prop) (b : List (Nat × Nat) → Prop) (c : Cfg → Prop) (z : List ab9 → Prop) : Prop where
 | early (h : a)
 | late (ps : List (Nat × Nat)) (h : b ps)
 | own (C : Cfg) (h : c C)
 | frz (ss : List ab9) (h : z ss)
inductive ai (I : Nat → List A → List (Nat × Bool × List A) → Prop) (m : Nat) (L ks : List Nat) (σ' : St) : Prop where
 | mk (m' : Nat) (xs' : List A) (h' : List (Nat × Bool × List A)) (cut : σ'.cut L ks xs' h') (lt : m' < m) (inv : I m' xs' h')
inductive uo (I : Nat → List A → List (Nat × Bool × List A) → Prop) (L ks : List Nat) (σ : St) : Prop where
 | mk (m : Nat) (xs : List A) (h : List (Nat × Bool × List A)) (cut : σ.cut L ks xs h) (inv : I m xs h)
def afl (h : List (Nat × Bool × List A)) : List Nat → List (Nat × Bool × List A)
 | [] => h
 | bs => h.map fun x => (x.1, x.2.1 || bs.contains x.1, x.2.2)
def aha (fresh : Bool) (heap : List (Nat × Bool × List A)) (bs : List Nat) (K : List (Nat × Bool × List A) → Prop) : Prop :=
 match fresh, bs with
 | true, _ => K heap
 | false, [] => K heap
 | false, b :: bs => ag (afl heap (b :: bs)) K
theorem aeh (fresh : Bool) (heap : List (Nat × Bool × List A)) (bs : List Nat) (K : List (Nat × Bool × List A) → Prop) : aha fresh heap bs K = K (if fresh then heap else afl heap bs) := by
 cases fresh
 ·cases bs with
  | nil => rfl
  | cons b bs => simp only [aha, fc]; rfl
 ·rfl
def ab2 (T : Tab) (G : bj) (n : Nat) (env : List (Nat × A)) (heap : List (Nat × Bool × List A)) (d : Option Nat) (op : Op) (K : A → St → Prop) : Prop :=
 match op with
 | .store t a x => match St.ev G ⟨n, env, heap⟩ a with
  | .ptr b o => match lk heap b, T t with
   | some (false, l), some y => Cd ((St.ev G ⟨n, env, heap⟩ x).full = true) (Cd ((St.ev G ⟨n, env, heap⟩ x).cells.length = y.size) (Cd ((St.ev G ⟨n, env, heap⟩ x).cells.all A.one = true) (Cd (o + y.size ≤ l.length) (EqE (setAt l o (St.ev G ⟨n, env, heap⟩ x).cells) fun row => ag (tu heap b row) fun h => K (.d .any) ⟨n, env, h⟩))))
   | _, _ => False
  | _ => False
 | .call c => match c.callee, c.argTypes.toList, c.args.toList, d with
  | .builtin .append, [t, t2], [s, x], some d => bh T t fun _ ye => Cd (((T t2).any Ty.isApp && ye.yi) = true) <|
   ei (lk heap) ye.size (St.ev G ⟨n, env, heap⟩ x) fun m cs => Cd (∀ c ∈ cs, (A.d c).one = true) <| match St.ev G ⟨n, env, heap⟩ s with
    | .d .nil => Cd (m * ye.bytes ≤ 70368744177664) (Cd ((lk heap d).isNone = true) (EqE (cs.map A.d) fun row => K (.own d 0 m ye.size) ⟨n, env, (d, false, row) :: heap⟩))
    | .own b o k sz => match lk heap b with
     | some (false, l) => Cd (abk b o = 0 ∧ sz = ye.size) (Cd (l.length = k * sz) (Cd ((k + m) * ye.bytes ≤ 70368744177664) (DsE l fun _ => EqE (l ++ cs.map A.d) fun row => ag (tu (heap.map fun x => (x.1, x.2.1, A.ew b x.2.2)) b row) fun h => K (.own b 0 (k + m) sz) ⟨n, env.map fun x => (x.1, x.2.kill b), h⟩)))
     | _ => False
    | _ => False
  | _, _, _, _ => False
 | _ => False
def y4 (P : Program) (G : bj) (n : Nat) (env : List (Nat × A)) (heap : List (Nat × Bool × List A)) (op : Op) (K : A → St → Prop) : Prop :=
 match op with
 | .call c => match c.callee with
  | .value (.func f) => jb (lk heap) (c.args.toList.map (St.ev G ⟨n, env, heap⟩)) fun xs bs => fv P G f xs fun fresh r => aha fresh heap bs fun h => K (.d r) ⟨n, env, h⟩
  | .value x => match St.ev G ⟨n, env, heap⟩ x with
   | .fn f cs => jb (lk heap) (c.args.toList.map (St.ev G ⟨n, env, heap⟩) ++ cs) fun xs bs => fv P G f xs fun fresh r => aha fresh heap bs fun h => K (.d r) ⟨n, env, h⟩
   | _ => False
  | _ => False
 | _ => False
def xq (P : Program) (G : bj) (T : Tab) (σ : St) (o : Oper) (K : St → Prop) : Prop :=
 match σ with
 | ⟨n, env, heap⟩ => match kindOf o.op with
  | 0 => ez T (St.ev G ⟨n, env, heap⟩) (lk heap) o.op fun r => St.gl ⟨n, env, heap⟩ o.dst r K
  | 1 => match o.dst with
   | some d => Cd ((lk heap d).isNone = true) (l4 T (St.ev G ⟨n, env, heap⟩) d o.op fun r l => St.gl ⟨n, env, (d, false, l) :: heap⟩ (some d) r K)
   | none => False
  | 2 => ab2 T G n env heap o.dst o.op fun r σ' => σ'.gl o.dst r K
  | _ => y4 P G n env heap o.op fun r σ' => σ'.gl o.dst r K
def nw (P : Program) (G : bj) (T : Tab) (ops : Array Oper) : List Oper → St → (St → Prop) → Prop
 | [], σ, Q => Q σ
 | o :: rest, σ, Q => jv ops σ o (fun σ => xq P G T σ o fun σ' => nw P G T ops rest σ' Q) (fun σ => σ.gl o.dst (.d (.tup [])) fun σ => nw P G T ops rest σ Q)
theorem ze (n : Nat) (env : List (Nat × A)) (heap : List (Nat × Bool × List A)) (bs : List Nat) : St.freeze ⟨n, env, heap⟩ bs = ⟨n, env, afl heap bs⟩ := by cases bs <;> rfl
theorem uy (P : Program) (G : bj) (n : Nat) (env : List (Nat × A)) (heap : List (Nat × Bool × List A)) (op : Op) (K : A → St → Prop) : y4 P G n env heap op K = lf P G ⟨n, env, heap⟩ op K := by
 have e : ∀ (fresh : Bool) (bs : List Nat), (⟨n, env, if fresh then heap else afl heap bs⟩ : St) = if fresh then ⟨n, env, heap⟩ else St.freeze ⟨n, env, heap⟩ bs := by
  intro fresh bs; cases fresh
  ·simp [ze]
  ·rfl
 unfold y4 lf
 simp only [aeh, e]
 rfl
theorem ab3 (T : Tab) (G : bj) (n : Nat) (env : List (Nat × A)) (heap : List (Nat × Bool × List A)) (d : Option Nat) (op : Op) (K : A → St → Prop) : ab2 T G n env heap d op K = ma T G ⟨n, env, heap⟩ d op K := by
 unfold ab2 ma
 simp only [fc]
 rfl
theorem vj (P : Program) (G : bj) (T : Tab) (σ : St) (o : Oper) (K : St → Prop) : xq P G T σ o K = jc P G T σ o K := by
 obtain ⟨n, env, heap⟩ := σ
 unfold xq jc
 simp only [uy, ab3]
 rfl
theorem r0 (P : Program) (G : bj) (T : Tab) (ops : Array Oper) : ∀ (l : List Oper) (σ : St) (Q : St → Prop), nw P G T ops l σ Q = pj P G T ops l σ Q
 | [], σ, Q => rfl
 | o :: rest, σ, Q => by simp only [nw, pj, vj, r0 P G T ops rest]
def alb (P : Program) (G : bj) (T : Tab) (C : Cfg) (σ : St) (dst : Option Nat) (op : Op) (K : A → St → Prop) : Prop :=
 match σ with
 | ⟨n, env, heap⟩ => match op with
  | .call c => match c.callee with
   | .value x => match x with
    | .func f => akt P G C n env heap f (c.args.toList.map (St.ev G ⟨n, env, heap⟩)) K
    | _ => False
   | .builtin bi => match bi with
    | .append => Cd (ald G C ⟨n, env, heap⟩ c = true) (ab2 T G n env heap dst (.call c) K)
    | _ => False
   | _ => False
  | _ => False
theorem aiw (P : Program) (G : bj) (T : Tab) (C : Cfg) (σ : St) (dst : Option Nat) (op : Op) (K : A → St → Prop) : alb P G T C σ dst op K = ako P G T C σ dst op K := by
 obtain ⟨n, env, heap⟩ := σ
 cases op with
 | call c =>
  obtain ⟨callee, args, at_⟩ := c
  cases callee with
  | value x => cases x <;> rfl
  | builtin b =>
   cases b <;> first
    | rfl
    | (show Cd _ _ = Cd _ _; rw [ab3])
  | _ => rfl
 | _ => rfl
def ox (P : Program) (G : bj) (T : Tab) (C : Cfg) (ops : Array Oper) : Nat → List Oper → St → (St → Prop) → Prop
 | _, [], σ, Q => Q σ
 | i, o :: rest, σ, Q => jv ops σ o (fun σ => bif C.cs.contains i then alb P G T C σ o.dst o.op (fun r σ' => σ'.gl o.dst r fun σ' => vfK C σ' o.dst o.op (ox P G T C ops (i + 1) rest σ' Q)) else xq P G T σ o fun σ' => vfK C σ' o.dst o.op (ox P G T C ops (i + 1) rest σ' Q))
   (fun σ => σ.gl o.dst (.d (.tup [])) fun σ => ox P G T C ops (i + 1) rest σ Q)
theorem vk (P : Program) (G : bj) (T : Tab) (C : Cfg) (ops : Array Oper) : ∀ (i : Nat) (l : List Oper) (σ : St) (Q : St → Prop), ox P G T C ops i l σ Q = mi P G T C ops i l σ Q
 | _, [], σ, Q => rfl
 | i, o :: rest, σ, Q => by simp only [ox, mi, vj, aiw, vk P G T C ops (i + 1) rest]
inductive aw (P : Program) (G : bj) (n : Nat) (env : List (Nat × A)) (heap : List (Nat × Bool × List A)) (f : FuncId) (xs : List A) (K : A → St → Prop) : Prop where
 | data (h : jb (lk heap) xs fun ds bs => fv P G f ds fun fresh r => aha fresh heap bs fun h => K (.d r) ⟨n, env, h⟩)
 | own (h : ni P G n env heap f xs K)
def y5 (P : Program) (G : bj) (n : Nat) (env : List (Nat × A)) (heap : List (Nat × Bool × List A)) (op : Op) (K : A → St → Prop) : Prop :=
 match op with
 | .call c => match c.callee with
  | .value (.func f) => aw P G n env heap f (c.args.toList.map (St.ev G ⟨n, env, heap⟩)) K
  | .value x => match St.ev G ⟨n, env, heap⟩ x with
   | .fn f cs => aw P G n env heap f (c.args.toList.map (St.ev G ⟨n, env, heap⟩) ++ cs) K
   | _ => False
  | _ => False
 | _ => False
def xr (P : Program) (G : bj) (T : Tab) (σ : St) (o : Oper) (K : St → Prop) : Prop :=
 match σ with
 | ⟨n, env, heap⟩ => match kindOf o.op with
  | 0 => ez T (St.ev G ⟨n, env, heap⟩) (lk heap) o.op fun r => St.gl ⟨n, env, heap⟩ o.dst r K
  | 1 => match o.dst with
   | some d => Cd ((lk heap d).isNone = true) (l4 T (St.ev G ⟨n, env, heap⟩) d o.op fun r l => St.gl ⟨n, env, (d, false, l) :: heap⟩ (some d) r K)
   | none => False
  | 2 => ab2 T G n env heap o.dst o.op fun r σ' => σ'.gl o.dst r K
  | _ => y5 P G n env heap o.op fun r σ' => σ'.gl o.dst r K
def p8 (P : Program) (G : bj) (T : Tab) (ops : Array Oper) : List Oper → St → (St → Prop) → Prop
 | [], σ, Q => Q σ
 | o :: rest, σ, Q => jv ops σ o (fun σ => xr P G T σ o fun σ' => p8 P G T ops rest σ' Q) (fun σ => σ.gl o.dst (.d (.tup [])) fun σ => p8 P G T ops rest σ Q)
theorem afk {P : Program} {G : bj} {T : Tab} {n : Nat} {env : List (Nat × A)} {heap : List (Nat × Bool × List A)} {o : Oper} {K : St → Prop} (hc : kindOf o.op ≤ 2) (hk : xr P G T ⟨n, env, heap⟩ o K) : xq P G T ⟨n, env, heap⟩ o K := by
 unfold xr at hk
 unfold xq
 simp only at hk ⊢
 have h3 : kindOf o.op = 0 ∨ kindOf o.op = 1 ∨ kindOf o.op = 2 := by omega
 rcases h3 with e | e | e <;> rw [e] at hk ⊢ <;> exact hk
theorem acp {P : Program} {G : bj} {T : Tab} {n : Nat} {env : List (Nat × A)} {heap : List (Nat × Bool × List A)} {o : Oper} {K : St → Prop} (hc : ¬ kindOf o.op ≤ 2) (hk : xr P G T ⟨n, env, heap⟩ o K) : y5 P G n env heap o.op (fun r σ' => σ'.gl o.dst r K) := by
 unfold xr at hk
 simp only at hk
 have h3 : kindOf o.op = 3 := by have := xx o.op; omega
 rw [h3] at hk
 exact hk
theorem aax {P : Program} {G : bj} {T : Tab} {w0 : World} {M : Own} {S0 : Imm} {σ : St} {a : Act} {w : World} {β : Own} {S : Imm} (hT : bw P T) (h : Rel G w0 M S0 σ a w β S) {o : Oper} (hd : ∀ d, o.dst = some d → d < σ.n) {K : St → Prop} (hk : xr P G T σ o K) (Q : Exit → Act → World → Prop) :
  o.wp P a w (py G w0 M S0 σ.n K) Q := by
 obtain ⟨n, env, heap⟩ := σ
 by_cases hc : kindOf o.op ≤ 2
 ·refine mh hT h hd ?_ Q
  rw [← vj]
  exact afk hc hk
 ·replace hk := acp hc hk
  clear hc
  obtain ⟨dst, op, type, pos, after, guard⟩ := o
  simp only at hk hd
  unfold y5 at hk
  split at hk
  ·rename_i c
   obtain ⟨callee, args, at_⟩ := c
   simp only at hk
   split at hk
   ·rename_i f
    cases hk with
    | data hk =>
     refine qu h (o := ⟨dst, .call ⟨.value (.func f), args, at_⟩, type, pos, after, guard⟩) (K := fun r σ' => σ'.gl dst r K) ?_ Q _ ?_
     ·rw [← uy]; exact hk
     ·intro r σ' v w' β' S' hK hrel hR hn
      rw [St.bu] at hK
      exact ⟨_, β', S', hK, hrel.put hR (fun d hd' => by rw [hn]; exact hd d hd'), by rw [← hn]; cases dst <;> rfl⟩
    | own hk =>
     refine sv h (o := ⟨dst, .call ⟨.value (.func f), args, at_⟩, type, pos, after, guard⟩) rfl (K := fun r σ' => σ'.gl dst r K) hk Q _ ?_
     intro r σ' v w' β' S' hK hrel hR hn
     rw [St.bu] at hK
     exact ⟨_, β', S', hK, hrel.put hR (fun d hd' => by rw [hn]; exact hd d hd'), by rw [← hn]; cases dst <;> rfl⟩
   ·rename_i x _
    have hx := h.ev x
    split at hk
    ·rename_i f cs e
     rw [e] at hx
     simp only [AR] at hx
     obtain ⟨vs, hv, hcs⟩ := hx
     have hall : ARs β S w (args.toList.map (St.ev G ⟨n, env, heap⟩) ++ cs) (args.toList.map a.eval ++ vs.toList) := yu (ARs.map (fun x => h.ev x) args.toList) hcs
     have hexec : fb P f = true → (execOp a.eval ⟨dst, .call ⟨.value x, args, at_⟩, type, pos, after, guard⟩).run P w = .ok (.enter f (args.toList.map a.eval ++ vs.toList).toArray) w := fun hc => by
      have harr : (args.toList.map a.eval ++ vs.toList).toArray = args.map a.eval ++ vs := by cases args; cases vs; simp
      rw [harr]
      simp only [execOp, Sem.run_bind, resolve]
      rw [hv]
      simp [Deferred.ofValue, invoke, jy hc]
     cases hk with
     | data hk =>
      refine np h hall hexec (K := fun r σ' => σ'.gl dst r K) ?_ Q _ ?_
      ·have e2 : ∀ (fresh : Bool) (bs : List Nat), (⟨n, env, if fresh then heap else afl heap bs⟩ : St) = if fresh then ⟨n, env, heap⟩ else St.freeze ⟨n, env, heap⟩ bs := by
        intro fresh bs; cases fresh
        ·simp [ze]
        ·rfl
       simp only [aeh, e2] at hk
       exact hk
      ·intro r σ' v w' β' S' hK hrel hR hn
       rw [St.bu] at hK
       exact ⟨_, β', S', hK, hrel.put hR (fun d hd' => by rw [hn]; exact hd d hd'), by rw [← hn]; cases dst <;> rfl⟩
     | own hk =>
      refine qt h hall hexec (K := fun r σ' => σ'.gl dst r K) hk Q _ ?_
      intro r σ' v w' β' S' hK hrel hR hn
      rw [St.bu] at hK
      exact ⟨_, β', S', hK, hrel.put hR (fun d hd' => by rw [hn]; exact hd d hd'), by rw [← hn]; cases dst <;> rfl⟩
    ·exact hk.elim
   ·exact hk.elim
  ·exact hk.elim
theorem mj {P : Program} {G : bj} {T : Tab} {w0 : World} {M : Own} {S0 : Imm} (hT : bw P T) {ops : Array Oper} {n : Nat} (hd : ∀ o ∈ ops.toList, ∀ d, o.dst = some d → d < n) {Q : Exit → Act → World → Prop} {K : St → Prop} (hQ : ∀ a w, py G w0 M S0 n K a w → Q .normal a w) :
  ∀ (rest : List Oper) (i : Nat) (σ : St) (a : Act) (w : World) (β : Own) (S : Imm), ops.toList.drop i = rest → σ.n = n → Rel G w0 M S0 σ a w β S → p8 P G T ops rest σ K → wpOps P ops Q ((List.range rest.length).map (i + ·)) a w
 | [], i, σ, a, w, β, S, _, hn, h, hk => by
  simp only [wpOps, List.length_nil, List.range_zero, List.map_nil]
  exact hQ a w ⟨σ, β, S, hk, h, hn⟩
 | o :: rest, i, σ, a, w, β, S, hdr, hn, h, hk => by
  have hi : ops[i]? = some o := by
   have : (ops.toList.drop i)[0]? = some o := by rw [hdr]; rfl
   simpa using this
  have hdr2 : ops.toList.drop (i + 1) = rest := by
   have : (ops.toList.drop i).drop 1 = rest := by rw [hdr]; rfl
   rwa [List.drop_drop] at this
  have hmem : o ∈ ops.toList := by
   have : ops.toList[i]? = some o := by simpa using hi
   exact List.mem_of_getElem? this
  have hlist : (List.range (o :: rest).length).map (i + ·) = i :: (List.range rest.length).map (i + 1 + ·) := by
   rw [List.length_cons, List.range_succ_eq_map, List.map_cons, List.map_map]
   congr 1
   apply List.map_congr_left
   intro j _
   simp only [Function.comp_def, Nat.succ_eq_add_one]; omega
  rw [hlist, wpOps_cons]
  simp only [p8] at hk
  obtain ⟨σ1, h1, hn1, hcase⟩ := xd h hk
  have hdo : ∀ d, o.dst = some d → d < σ1.n := fun d hd' => by rw [hn1, hn]; exact hd o hmem d hd'
  rcases hcase with ⟨hw, hy⟩ | ⟨hw, hno⟩
  ·refine mw hi hw (Oper.wp_mono ?_ (aax hT h1 hdo hy Q))
   rintro a' w' ⟨σ2, β2, S2, hK2, h2, hn2⟩
   exact mj hT hd hQ rest (i + 1) σ2 a' w' β2 S2 hdr2 (by rw [hn2, hn1, hn]) h2 hK2
  ·simp only [wpOp, hi, hw, Bool.false_eq_true, if_false]
   rw [St.bu] at hno
   refine mj hT hd hQ rest (i + 1) _ _ w β S hdr2 ?_ (o7 h1 o.dst hdo) hno
   cases o.dst <;> exact hn1.trans hn
def z7 (P : Program) (G : bj) (T : Tab) (ops : Array Oper) (draw : Bool) (σ : St) (Q : Exit → St → Prop) (ps : List (Nat × Nat)) : Prop :=
 Cd (aib T σ.n ops draw ps = true) (nw P G T ops ops.toList σ (fun τ => a8 (qw G ops τ ps) (Q .normal τ)))
def ads (P : Program) (G : bj) (T : Tab) (ops : Array Oper) (draw : Bool) (σ : St) (Q : Exit → St → Prop) (C : Cfg) : Prop :=
 match σ with
 | ⟨n, env, heap⟩ => Cd (Dw.zy T C n ops draw = true) (Cd (tp C heap = true) (ag (klE C.V env) fun env => ox P G T C ops 0 ops.toList ⟨n, env, heap⟩ (fun τ => a8 (Dw.aky G C ops τ = true) (Q .normal τ))))
def aaz (G : bj) : List ab9 → St → (St → Prop) → Prop
 | [], σ, K => K σ
 | .cut b m :: ss, ⟨n, env, heap⟩, K => match lk heap b with
  | some (_, l) => EqE (l.take m) fun row => ag (tu heap b row) fun h => aaz G ss ⟨n, env, h⟩ K
  | none => False
 | .frz s :: ss, ⟨n, env, heap⟩, K => gx (lk heap) (St.get ⟨n, env, heap⟩ s) fun x bs => ag (afl heap bs) fun h => aaz G ss ⟨n, (s, .d x) :: env, h⟩ K
def al2 (P : Program) (G : bj) (T : Tab) (ops : Array Oper) (draw : Bool) (σ : St) (Q : Exit → St → Prop) (ss : List ab9) : Prop :=
 aaz G ss σ fun σ => ai3 (Cd (wk T σ.n ops draw = true) (match draw with | true => nw P G T ops ops.toList σ (Q .normal) | false => p8 P G T ops ops.toList σ (Q .normal)))
   (z7 P G T ops draw σ Q) (ads P G T ops draw σ Q) (fun _ => False)
def awp (P : Program) (G : bj) (T : Tab) : Code → (Exit → St → Prop) → St → Prop
 | .skip, Q, σ => Q .normal σ
 | .label _, Q, σ => Q .normal σ
 | .exit i, Q, σ => Q (.exit i) σ
 | .goto l, Q, σ => Q (.goto l) σ
 | .ret, Q, σ => Q .ret σ
 | .seq a b, Q, σ => awp P G T a (fun e σ' => match e with | .normal => awp P G T b Q σ' | e => Q e σ') σ
 | .cond c a b, Q, σ => match σ.ev G c with
  | .d (.bool t) => Br t (awp P G T a Q σ) (awp P G T b Q σ)
  | _ => False
 | .block id c, Q, σ => awp P G T c (fun e σ' => match e with | .exit i => if i = id then Q .normal σ' else Q (.exit i) σ' | e => Q e σ') σ
 | .region _ ops draw, Q, σ => ai3 (Cd (wk T σ.n ops draw = true) (match draw with | true => nw P G T ops ops.toList σ (Q .normal) | false => p8 P G T ops ops.toList σ (Q .normal)))
   (z7 P G T ops draw σ Q) (ads P G T ops draw σ Q) (al2 P G T ops draw σ Q)
 | .loop c, Q, σ => ∃ (ad : List (Nat × Nat × Nat)) (L ks : List Nat) (I : Nat → List A → List (Nat × Bool × List A) → Prop),
   (σ.sq ad fun σ => uo I L ks σ) ∧
   ∀ m xs h, I m xs h → match σ with | ⟨n, _, _⟩ => awp P G T c (fun e σ' => match e with | .normal => ai I m L ks σ' | e => Q e σ') ⟨n, L.zip xs, h⟩
 | c, Q, σ => Wp' P G c Q σ
section
variable {P : Program} {G : bj} {T : Tab}
theorem afz {n : Nat} {ops : Array Oper} {draw : Bool} (h : wk T n ops draw = true) : (∀ o ∈ ops.toList, ∀ d, o.dst = some d → d < n) ∧ (draw = true → adl T ops = true) := by
 simp only [wk, Bool.and_eq_true, Array.all_eq_true_iff_forall_mem] at h
 refine ⟨fun o ho d hd => ?_, fun e => by have := h.2; rw [e] at this; simpa using this⟩
 have := h.1 o (Array.mem_toList_iff.1 ho)
 rw [hd] at this
 simpa using this
theorem Rel.al3 {w0 : World} {M : Own} {S0 : Imm} {n : Nat} {env : List (Nat × A)} {heap : Hp} {a : Act} {w : World} {β : Own} {S : Imm} (h : Rel G w0 M S0 ⟨n, env, heap⟩ a w β S) {s : Nat} {x : D} (hx : DR S w x (a.tmps.getD s undef)) : Rel G w0 M S0 ⟨n, (s, .d x) :: env, heap⟩ a w β S := by
 refine { h with env := fun t y hy => ?_ }
 simp only [lk] at hy
 split at hy
 ·rename_i e
  subst e
  cases hy
  exact hx
 ·exact h.env t y hy
theorem ai1 {S : Imm} {w : World} {b : Nat} (m : Nat) : ∀ (l : List D) (o : Nat), DRL S w b o l → DRL S w b o (l.take m) := by
 induction m with
 | zero => intro l o _; exact trivial
 | succ m ih =>
  intro l o h
  cases l with
  | nil => exact trivial
  | cons x l =>
   rw [List.take_succ_cons]
   simp only [DRL] at h ⊢
   obtain ⟨h1, ⟨u, h2, h3⟩, h4⟩ := h
   exact ⟨h1, ⟨u, h2, h3⟩, ih l _ h4⟩
theorem ahm {heap : Hp} {b : Nat} {fr : Bool} {l row : List A} (h : lk heap b = some (fr, l)) (c : Nat) : lk (tu heap b row) c = if b = c then some (fr, row) else lk heap c := by
 rw [du]
 by_cases e : c = b
 ·subst e; rw [if_pos rfl, if_pos rfl, h]; rfl
 ·rw [if_neg e, if_neg (fun g => e g.symm)]
theorem Rel.amz {w0 : World} {M : Own} {S0 : Imm} {n : Nat} {env : List (Nat × A)} {heap : Hp} {a : Act} {w : World} {β : Own} {S : Imm} {b m : Nat} {fr : Bool} {l : List A} (h : Rel G w0 M S0 ⟨n, env, heap⟩ a w β S) (hl : lk heap b = some (fr, l)) : Rel G w0 M S0 ⟨n, env, tu heap b (l.take m)⟩ a w β S := by
 have hk := ahm (row := l.take m) hl
 have one : ∀ {c : Nat} {f : Bool} {q : List A}, lk (tu heap b (l.take m)) c = some (f, q) → ∃ q', lk heap c = some (f, q') ∧ (q = q' ∨ q = q'.take m) := fun {c f q} hq => by
  rw [hk] at hq
  split at hq
  ·rename_i e
   subst e
   cases hq
   exact ⟨l, hl, .inr rfl⟩
  ·exact ⟨q, hq, .inl rfl⟩
 have non : ∀ c, lk heap c ≠ none → lk (tu heap b (l.take m)) c ≠ none := fun c hc => by
  rw [hk]; split
  ·simp
  ·exact hc
 refine { h with keys := fun c hc => non c (h.keys c hc), rd := ?_, live := ?_, froz := ?_, fd := ?_, nilb := ?_, stay := fun c h1 h2 hc => h.stay c h1 h2 fun e => hc ?_ }
 ·intro c k f q hb hq
  obtain ⟨q', h1, h2⟩ := one hq
  obtain ⟨C, T, g1, g2, g3⟩ := h.rd c k f q' hb h1
  rcases h2 with rfl | rfl
  ·exact ⟨C, T, g1, g2, g3⟩
  ·refine ⟨C, T, g1, by rw [List.length_take]; omega, fun j x hx => g3 j x ?_⟩
   rw [List.getElem?_take] at hx
   split at hx
   ·exact hx
   ·cases hx
 ·intro c k q hb hq
  obtain ⟨q', h1, _⟩ := one hq
  exact h.live c k q' hb h1
 ·intro c k q hb hq
  obtain ⟨q', h1, h2⟩ := one hq
  obtain ⟨ds, rfl, g⟩ := h.froz c k q' hb h1
  rcases h2 with rfl | rfl
  ·exact ⟨ds, rfl, g⟩
  ·exact ⟨ds.take m, by rw [List.map_take], ai1 m ds 0 g⟩
 ·intro c q hq
  obtain ⟨q', h1, h2⟩ := one hq
  obtain ⟨ds, rfl⟩ := h.fd c q' h1
  rcases h2 with rfl | rfl
  ·exact ⟨ds, rfl⟩
  ·exact ⟨ds.take m, by rw [List.map_take]⟩
 ·intro c f q hb hq
  obtain ⟨q', h1, h2⟩ := one hq
  have := h.nilb c f q' hb h1
  subst this
  rcases h2 with rfl | rfl
  ·rfl
  ·simp
 ·rw [hk]; split
  ·rename_i g; subst g; rw [hl] at e; cases e
  ·exact e
theorem nz {w0 : World} {M : Own} {S0 : Imm} {a : Act} {w : World} {β : Own} {K : St → Prop} : ∀ (ss : List ab9) {σ : St} {S : Imm}, Rel G w0 M S0 σ a w β S → aaz G ss σ K → ∃ (σ' : St) (S' : Imm), K σ' ∧ Rel G w0 M S0 σ' a w β S' ∧ σ'.n = σ.n
 | [], σ, S, hr, h => ⟨σ, S, h, hr, rfl⟩
 | .cut b m :: ss, ⟨n, env, heap⟩, S, hr, h => by
  simp only [aaz] at h
  split at h
  ·rename_i fr l hl
   obtain ⟨row, rfl, h⟩ := h
   rw [fc] at h
   obtain ⟨σ', S', h1, h2, h3⟩ := nz ss (hr.amz hl) h
   exact ⟨σ', S', h1, h2, h3⟩
  ·exact h.elim
 | .frz s :: ss, ⟨n, env, heap⟩, S, hr, h => by
  obtain ⟨x, bs, hk, hb, hd⟩ := jk hr h (hr.get s)
  have hfr := hr.freeze hb
  rw [ze] at hfr
  rw [fc] at hk
  obtain ⟨σ', S', h1, h2, h3⟩ := nz ss (hfr.al3 (hd bs (fun b hb => hb))) hk
  exact ⟨σ', S', h1, h2, h3⟩
theorem yh (hT : bw P T) {ops : Array Oper} {draw : Bool} {Q : Exit → St → Prop} {σ : St} {z : List ab9 → Prop} (id : Nat) (h : ai3 (Cd (wk T σ.n ops draw = true) (match draw with | true => nw P G T ops ops.toList σ (Q .normal) | false => p8 P G T ops ops.toList σ (Q .normal)))
   (z7 P G T ops draw σ Q) (ads P G T ops draw σ Q) z) (hz : ∀ ss, z ss → Wp' P G (.region id ops draw) Q σ) : Wp' P G (.region id ops draw) Q σ := fun w0 M S0 a w β S hr => by
  rcases h with h | ⟨ps, h⟩ | ⟨C, h⟩ | ⟨ss, h⟩
  rotate_left 3
  ·exact hz ss h w0 M S0 a w β S hr
  rotate_left 2
  ·obtain ⟨n, env, heap⟩ := σ
   obtain ⟨hok, hb, h⟩ := h
   rw [fc, vk] at h
   exact Dw.p5 hT hT.mix (σ := ⟨n, env, heap⟩) hok hb (fun a w h => h) hr h
  rotate_left
  ·obtain ⟨hok, h⟩ := h
   simp only [aib, Bool.and_eq_true] at hok
   obtain ⟨⟨hd, rfl⟩, hok⟩ := hok
   rw [r0] at h
   refine ac4 hT hT.mix hok (fun o ho d hd' => ?_) (fun a w h => h) hr h
   have := Array.all_eq_true_iff_forall_mem.1 hd o (Array.mem_toList_iff.1 ho)
   rw [hd'] at this
   simpa using this
  obtain ⟨hok, h⟩ := h
  obtain ⟨hd, hdr⟩ := afz hok
  cases draw with
  | true =>
   simp only at h
   rw [r0] at h
   exact p5 hT hT.mix (hdr rfl) hd (fun a w h => h) hr h
  | false => ?_
  simp only at h
  refine wp_region ?_
  have := mj (P := P) (G := G) (w0 := w0) (M := M) (S0 := S0) (K := Q .normal) (Q := fun e a' w' => py G w0 M S0 σ.n (Q e) a' w') hT hd (fun a w h => h) ops.toList 0 σ a w β S (by simp) rfl hr h
  have e : (List.range ops.toList.length).map (0 + ·) = List.range ops.size := by simp
  rwa [e] at this
theorem eb (hT : bw P T) : ∀ (c : Code) (Q : Exit → St → Prop) (σ : St), awp P G T c Q σ → Wp' P G c Q σ
 | .skip, Q, σ, h => fun w0 M S0 a w β S hr => wp_skip ⟨σ, β, S, h, hr, rfl⟩
 | .label _, Q, σ, h => fun w0 M S0 a w β S hr => wp_label ⟨σ, β, S, h, hr, rfl⟩
 | .exit i, Q, σ, h => fun w0 M S0 a w β S hr => wp_exit ⟨σ, β, S, h, hr, rfl⟩
 | .goto l, Q, σ, h => fun w0 M S0 a w β S hr => wp_goto ⟨σ, β, S, h, hr, rfl⟩
 | .ret, Q, σ, h => fun w0 M S0 a w β S hr => wp_ret ⟨σ, β, S, h, hr, rfl⟩
 | .seq x y, Q, σ, h => fun w0 M S0 a w β S hr => by
  refine wp_seq (wp_mono (eb hT x _ σ h w0 M S0 a w β S hr) ?_)
  rintro e a' w' ⟨σ', β', S', hq, hr', hn⟩
  cases e with
  | normal =>
   simp only [Exit.then]
   have := eb hT y _ σ' hq w0 M S0 a' w' β' S' hr'
   rw [hn] at this
   exact this
  | _ => exact ⟨σ', β', S', hq, hr', hn⟩
 | .cond c x y, Q, σ, h => fun w0 M S0 a w β S hr => by
  simp only [awp] at h
  split at h
  ·rename_i t ht
   have hv := hr.ev c
   rw [ht] at hv
   simp only [AR, DR] at hv
   exact wp_cond_split hv (fun e => eb hT x Q σ (h.tt e) w0 M S0 a w β S hr) (fun e => eb hT y Q σ (h.ff e) w0 M S0 a w β S hr)
  ·exact h.elim
 | .block id c, Q, σ, h => fun w0 M S0 a w β S hr => by
  refine wp_block (wp_mono (eb hT c _ σ h w0 M S0 a w β S hr) ?_)
  rintro e a' w' ⟨σ', β', S', hq, hr', hn⟩
  cases e with
  | exit i =>
   have hq : (if i = id then Q .normal σ' else Q (.exit i) σ') := hq
   simp only [Exit.inBlock]
   split
   ·rename_i e
    rw [if_pos e] at hq
    exact ⟨σ', β', S', hq, hr', hn⟩
   ·rename_i e
    rw [if_neg e] at hq
    exact ⟨σ', β', S', hq, hr', hn⟩
  | _ => exact ⟨σ', β', S', hq, hr', hn⟩
 | .region id ops draw, Q, σ, h => yh hT id h fun ss h w0 M S0 a w β S hr => by
  obtain ⟨σ', S', h', hr', hn⟩ := nz ss hr h
  have := yh hT id h' (fun _ h => h.elim) w0 M S0 a w β S' hr'
  rw [hn] at this
  exact this
 | .loop c, Q, σ, h => fun w0 M S0 a w β S hr => by
  obtain ⟨ad, L, ks, I, had, hround⟩ := h
  obtain ⟨σ1, β1, ⟨m, xs, hh, hcut, hI⟩, hr1, hn1⟩ := Rel.sq hr had
  intro b k cs
  have key : ∀ m a w xs hh β S, I m xs hh → Rel G w0 M S0 (St.at σ.n L xs hh) a w β S →
    ∃ e a' w', py G w0 M S0 σ.n (Q e) a' w' ∧ Arrives P (lone (b.at a (.code c :: .inLoop c :: k)) cs w) b k cs e a' w' := by
   intro m
   induction m using Nat.strongRecOn with
   | _ m ih =>
    intro a w xs hh β S hI hr
    obtain ⟨e, a₁, w₁, ⟨σ', β', S', hq, hr', hn⟩, harr⟩ := eb hT c _ _ (hround m xs hh hI) w0 M S0 a w β S hr b (.inLoop c :: k) cs
    cases e with
    | normal =>
     obtain ⟨m', xs', h', hcut', hlt, hI'⟩ := hq
     have hr2 := hr'.cut hcut'
     rw [hn] at hr2
     obtain ⟨e₂, a₂, w₂, hq₂, harr₂⟩ := ih m' hlt a₁ w₁ xs' h' _ S' hI' hr2
     exact ⟨e₂, a₂, w₂, hq₂, .of_steps (Steps.trans harr (.one step_inLoop)) harr₂⟩
    | exit id => exact ⟨_, a₁, w₁, ⟨σ', β', S', hq, hr', hn⟩, .pass (x := .inLoop c) rfl (fun _ _ => .inl (by simp)) harr⟩
    | goto l => exact ⟨_, a₁, w₁, ⟨σ', β', S', hq, hr', hn⟩, .pass (x := .inLoop c) rfl (fun _ _ => .inl (by simp)) harr⟩
    | ret => exact ⟨_, a₁, w₁, ⟨σ', β', S', hq, hr', hn⟩, .pass (x := .inLoop c) rfl (fun _ _ => .inl (by simp)) harr⟩
    | panic ch => exact ⟨_, a₁, w₁, ⟨σ', β', S', hq, hr', hn⟩, .pass (x := .inLoop c) rfl (fun _ _ => .inl (by simp)) harr⟩
    | outgrown => exact ⟨_, a₁, w₁, ⟨σ', β', S', hq, hr', hn⟩, .pass (x := .inLoop c) rfl (fun _ _ => .inl (by simp)) harr⟩
  have hr2 := hr1.cut hcut
  rw [hn1] at hr2
  obtain ⟨e, a', w', hq, harr⟩ := key m a w xs hh _ S hI hr2
  exact ⟨e, a', w', hq, .of_steps (.one step_loop) harr⟩
 | .rangeFunc f ps x c, Q, σ, h => h
 | .scope c, Q, σ, h => h
 | .refuse why, Q, σ, h => h
def po (T : Tab) (σ : St) : List ResultVar → (List D → List Nat → Prop) → Prop
 | [], K => K [] []
 | .tmp t :: rs, K => gx σ.hp (σ.get t) fun x bs => po T σ rs fun xs bs' => K (x :: xs) (bs ++ bs')
 | .cell c t :: rs, K => mq T σ.hp t (σ.get c) fun y => gx σ.hp y fun x bs => po T σ rs fun xs bs' => K (x :: xs) (bs ++ bs')
def v8 : List D → D
 | [x] => x
 | xs => .tup xs
structure Res (r : D) (xs : List D) : Prop where
 h : r = v8 xs
def wo (T : Tab) (rs : List ResultVar) (r : D) (e : Exit) (σ : St) : Prop :=
 match e with
 | .ret | .normal => po T σ rs fun xs _ => Res r xs
 | _ => False
def kf : Nat → List D → List (Nat × A)
 | _, [] => []
 | i, x :: xs => (i, .d x) :: kf (i + 1) xs
def St.enter (n : Nat) (args : List D) : St := { n, env := kf 0 args, heap := [] }
def D.sc : D → Bool
 | .bool _ | .int _ _ | .str _ | .any | .nil => true
 | .raw _ => true
 | .slice _ _ => false
 | .agg _ => false
 | .ptrd _ => false
 | .fnd _ _ => false
 | .tup l => l.all fun | .bool _ | .int _ _ | .str _ | .any | .nil | .raw _ => true | _ => false
theorem D.amv {S S' : Imm} {w w' : World} : ∀ {x : D} {v : Value}, x.sc = true → DR S w x v → DR S' w' x v := by
 intro x v hs h
 cases x with
 | slice _ _ => simp [D.sc] at hs
 | agg _ => simp [D.sc] at hs
 | ptrd _ => simp [D.sc] at hs
 | fnd _ _ => simp [D.sc] at hs
 | tup l =>
  simp only [DR] at h ⊢
  obtain ⟨vs, hv, hl⟩ := h
  refine ⟨vs, hv, jq (c8 hl) fun j y u hj hu => ?_⟩
  obtain ⟨u', hu', hR⟩ := fw hl hj
  rw [hu] at hu'; cases hu'
  simp only [D.sc, List.all_eq_true] at hs
  have := hs y (List.mem_of_getElem? hj)
  cases y <;> first | (simp at this; done) | (simp only [DR] at hR ⊢; exact hR) | exact hR
 | _ => first | exact h | (simp only [DR] at h ⊢; exact h)
theorem vw {S : Imm} {w : World} {β : Own} : ∀ {args : List D} {vs : List Value} {i t : Nat} {x : A}, DRs S w args vs → lk (kf i args) t = some x → ∃ u, i ≤ t ∧ vs[t - i]? = some u ∧ AR β S w x u
 | [], vs, i, t, x, _, h => by simp [kf, lk] at h
 | y :: args, vs, i, t, x, hd, h => by
  simp only [DRs] at hd
  obtain ⟨u, us, rfl, h1, h2⟩ := hd
  simp only [kf, lk] at h
  split at h
  ·rename_i e
   subst e; cases h
   exact ⟨u, Nat.le_refl _, by simp, by simp only [AR]; exact h1⟩
  ·obtain ⟨u', h3, h4, h5⟩ := vw h2 h
   refine ⟨u', by omega, ?_, h5⟩
   rw [show t - i = (t - (i + 1)) + 1 by omega]
   simpa using h4
theorem k7 (hT : bw P T) {w0 : World} {M : Own} {S0 : Imm} {σ : St} {a : Act} {w : World} {β : Own} {S : Imm} (h : Rel G w0 M S0 σ a w β S) : ∀ {rs : List ResultVar} {K : List D → List Nat → Prop}, po T σ rs K →
  ∃ ds bs vs, K ds bs ∧ (∀ b ∈ bs, ∃ (fr : Bool) (l : List D), σ.hp b = some (fr, l.map A.d)) ∧ (∀ bs', (∀ b ∈ bs, b ∈ bs') → DRs (je β σ bs' S) w ds vs) ∧
   (rs.mapM (fun | ResultVar.tmp t => pure (a.tmps.getD t undef) | .cell c t => do loadVar t (← asAddr (a.tmps.getD c undef)) : ResultVar → Sem Value)).run P w = .ok vs w
 | [], K, hk => ⟨[], [], [], hk, by simp, fun _ _ => rfl, by simp⟩
 | .tmp t :: rs, K, hk => by
  simp only [po] at hk
  obtain ⟨d, bs, hk, hb, hd⟩ := jk h hk (h.get t)
  obtain ⟨ds, bs2, vs, hk, hb2, hds, hrun⟩ := k7 hT h hk
  refine ⟨_, _, a.tmps.getD t undef :: vs, hk, fun b hb' => ?_, fun bs' hbs => ⟨_, _, rfl, hd bs' fun b hb => hbs b (by simp [hb]), hds bs' fun b hb => hbs b (by simp [hb])⟩, ?_⟩
  ·rcases List.mem_append.1 hb' with hb' | hb'
   ·exact hb b hb'
   ·exact hb2 b hb'
  ·simp only [List.mapM_cons, Sem.run_bind, Sem.run_pure, Result.andThen_ok, hrun]
 | .cell c t :: rs, K, hk => by
  simp only [po] at hk
  obtain ⟨y, v, hk, hR, hrun0⟩ := q6 (P := P) hT h.hrd hk (h.get c)
  obtain ⟨d, bs, hk, hb, hd⟩ := jk h hk hR
  obtain ⟨ds, bs2, vs, hk, hb2, hds, hrun⟩ := k7 hT h hk
  refine ⟨_, _, v :: vs, hk, fun b hb' => ?_, fun bs' hbs => ⟨_, _, rfl, hd bs' fun b hb => hbs b (by simp [hb]), hds bs' fun b hb => hbs b (by simp [hb])⟩, ?_⟩
  ·rcases List.mem_append.1 hb' with hb' | hb'
   ·exact hb b hb'
   ·exact hb2 b hb'
  ·have hrun1 : (do loadVar t (← asAddr (a.tmps.getD c undef)) : Sem Value).run P w = .ok v w := by
    rw [← hrun0]
    unfold Instr.loadAt
    cases hv : a.tmps.getD c undef with
    | pointer p =>
     cases p with
     | none => rw [hv] at hrun0; simp [Instr.loadAt, Instr.sureAddr] at hrun0
     | some p => rfl
    | _ => rw [hv] at hrun0; simp [Instr.loadAt, Instr.sureAddr] at hrun0
   simp only [List.mapM_cons, Sem.run_bind, hrun1, Sem.run_pure, Result.andThen_ok, hrun]
theorem wv (hT : bw P T) {f : FuncId} {fn : Func} {c : Code} {args : List D} {r : D} {env : List (Nat × A)} (henv : ∀ {S : Imm} {w : World} {β : Own} {vs : List Value} {t : Nat} {x : A}, DRs S w args vs → lk env t = some x → ∃ u, 0 ≤ t ∧ vs[t - 0]? = some u ∧ AR β S w x u) (hf : P.funcs[f]? = some fn) (hb : fn.body = some c) (hname : (fn.name == "runtime.NumGoroutine") = false) (hn : args.length ≤ fn.ntmps ∧ fn.ntmps ≤ 1000000)
  (h : Wp' P G c (wo T fn.results.toList r) ⟨fn.ntmps, env, []⟩) : Sim P G r.sc f args r := by
 refine ⟨by simp [fb, hf, hb, hname], fun S w vs hS hG hargs => ?_⟩
 refine calls_of_wp hf hb ?_
 have hlen := c8 hargs
 have hrel : Rel G w (fun _ => none) S ⟨fn.ntmps, env, []⟩ { tmps := vs.toArray ++ Array.replicate (fn.ntmps - vs.toArray.size) undef, defers := [] } w (fun _ => none) S := by
  refine { defers := rfl, size := ?_, env := ?_, glob := hG, keys := ?_, rd := ?_, live := ?_, froz := ?_, fd := ?_, nilb := ?_, inj := ?_, imm := hS, old := fun _ _ h _ => .inl h, ext := ⟨rfl, rfl, rfl, Nat.le_refl _, fun _ _ _ => rfl, fun k C Tc fr hk => ⟨C, hk, rfl⟩⟩, stay := fun _ _ _ h => absurd rfl h, small := hn.2, src := fun _ _ h => by cases h }
  ·simp; omega
  ·intro t x hx
   obtain ⟨u, _, hu, hR⟩ := henv (β := fun _ => none) hargs hx
   simp only [Nat.sub_zero] at hu
   have hlt : t < vs.length := (List.getElem?_eq_some_iff.1 hu).1
   have : (vs.toArray ++ Array.replicate (fn.ntmps - vs.toArray.size) undef).getD t undef = u := by
    rw [Array.getD_eq_getD_getElem?, Array.getElem?_append, if_pos (by simpa using hlt)]
    simp [hu]
   rw [this]; exact hR
  all_goals intros; simp_all [lk]
 refine wp_mono (h w _ _ _ w _ S hrel) ?_
 rintro e a' w' ⟨σ', β', S', hq, hr, hn'⟩
 have hfin : po T σ' fn.results.toList (fun xs _ => Res r xs) → bodyPost P fn (fun e w' => ∃ v, e = .returned v ∧ RowKit.Below w.heap.size w w' ∧
   ∃ S' : Imm, (∀ k o, S' k o → (r.sc = false ∧ S k o) ∨ (w.heap.size ≤ k ∧ k < w'.heap.size)) ∧ DR S' w' r v) .ret a' w' := by
  intro hq
  obtain ⟨ds, bs, us, ⟨rfl⟩, hbs, hds, hrun⟩ := k7 hT hr hq
  have hd := hds bs (fun _ h => h)
  have hfr := hr.freeze hbs
  have hres : (results fn a'.tmps).run P w' = .ok (if h : us.toArray.size = 1 then us.toArray[0] else .tuple us.toArray) w' := by
   unfold results
   rw [Array.mapM_eq_mapM_toList]
   have : (List.mapM (fun | ResultVar.tmp t => pure (a'.tmps.getD t undef) | .cell c t => do loadVar t (← asAddr (a'.tmps.getD c undef)) : ResultVar → Sem Value) fn.results.toList).run P w' = .ok us w' := hrun
   simp only [Sem.run_bind, Sem.run_map]
   erw [this]
   simp only [Result.andThen_ok, Sem.run_pure]
  have hR : DR (je β' σ' bs S') w' (v8 ds) (if h : us.toArray.size = 1 then us.toArray[0] else .tuple us.toArray) := by
   have hl := c8 hd
   unfold v8
   split
   ·rename_i x
    simp only [DRs] at hd
    obtain ⟨u, us', rfl, h1, rfl⟩ := hd
    simpa using h1
   ·rename_i hne
    rw [dif_neg]
    ·simp only [DR]; exact ⟨us.toArray, rfl, hd⟩
    ·intro h1
     have : ds.length = 1 := by rw [← hl]; simpa using h1
     obtain ⟨x, rfl⟩ := List.length_eq_one_iff.1 this
     exact hne x rfl
  refine ⟨hr.defers, _, hres, _, rfl, ⟨hr.ext.os, hr.ext.tape, hr.ext.output, hr.ext.size, fun k hk => hr.ext.block k hk (by rintro ⟨_, h⟩; cases h)⟩, ?_⟩
  cases hsc : (v8 ds).sc with
  | true => exact ⟨fun _ _ => False, fun _ _ h => h.elim, D.amv hsc hR⟩
  | false =>
   refine ⟨_, fun k o hk => ?_, hR⟩
   by_cases hlt : k < w.heap.size
   ·rcases hfr.old k o hk hlt with h1 | h1
    ·exact .inl ⟨rfl, h1⟩
    ·obtain ⟨_, h1⟩ := h1; cases h1
   ·exact .inr ⟨by omega, hfr.imm k o hk⟩
 cases e with
 | normal => exact hfin hq
 | ret => exact hfin hq
 | _ => exact hq.elim
theorem abr (hT : bw P T) {f : FuncId} {fn : Func} {c : Code} {args : List D} {r : D} {env : List (Nat × A)} (henv : ∀ {S : Imm} {w : World} {β : Own} {vs : List Value} {t : Nat} {x : A}, DRs S w args vs → lk env t = some x → ∃ u, 0 ≤ t ∧ vs[t - 0]? = some u ∧ AR β S w x u) (hf : P.funcs[f]? = some fn) (hb : fn.body = some c) (hname : (fn.name == "runtime.NumGoroutine") = false) (hn : args.length ≤ fn.ntmps ∧ fn.ntmps ≤ 1000000)
  (h : awp P G T c (wo T fn.results.toList r) ⟨fn.ntmps, env, []⟩) : Sim P G r.sc f args r :=
 wv hT henv hf hb hname hn (eb hT c _ _ h)
theorem ady (hT : bw P T) {f : FuncId} {fn : Func} {c : Code} {args : List D} {r : D} (hf : P.funcs[f]? = some fn) (hb : fn.body = some c) (hname : (fn.name == "runtime.NumGoroutine") = false) (hn : args.length ≤ fn.ntmps ∧ fn.ntmps ≤ 1000000)
  (h : awp P G T c (wo T fn.results.toList r) (St.enter fn.ntmps args)) : Sim P G r.sc f args r :=
 abr hT (env := kf 0 args) (fun hd hx => vw hd hx) hf hb hname hn h
theorem al7 (hT : bw P T) {f : FuncId} {fn : Func} {c : Code} {args : List D} {r : D} {fresh : Bool} (hf : P.funcs[f]? = some fn) (hb : fn.body = some c) (hname : (fn.name == "runtime.NumGoroutine") = false) (hs : r.sc = fresh) (hn : args.length ≤ fn.ntmps ∧ fn.ntmps ≤ 1000000)
  (h : awp P G T c (wo T fn.results.toList r) (St.enter fn.ntmps args)) : Sim P G fresh f args r := hs ▸ ady hT hf hb hname hn h
inductive aam (T : Tab) (rs : List ResultVar) (r : A) (hout : Hp) (σ : St) : Prop where
 | own (t : Nat) (h : rs = [.tmp t]) (h1 : σ.get t = r) (h2 : σ.heap.filter (fun x => (hout.map (·.1)).contains x.1) = hout)
 | data (x : D) (h : po T σ rs fun xs bs => v8 xs = x ∧ (p9 σ.heap bs).filter (fun x => (hout.map (·.1)).contains x.1) = hout) (h1 : r = .d x)
 | tup (ts : List Nat) (h : rs = ts.map .tmp) (h0 : ts.length ≠ 1) (h1 : A.tup (ts.map σ.get) = r) (h2 : σ.heap.filter (fun x => (hout.map (·.1)).contains x.1) = hout)
theorem xj {β : Own} {S : Imm} {w : World} {g : Nat → A} {u : Nat → Value} (h : ∀ t, AR β S w (g t) (u t)) : ∀ ts : List Nat, ARs β S w (ts.map g) (ts.map u)
 | [] => by simp only [List.map_nil, ARs]
 | t :: ts => by simp only [List.map_cons, ARs]; exact ⟨_, _, rfl, h t, xj h ts⟩
theorem yl {P : Program} {w : World} {f : Nat → Value} {g : ResultVar → Sem Value} (hg : ∀ t, (g (.tmp t)).run P w = .ok (f t) w) : ∀ ts : List Nat, (List.mapM g (ts.map .tmp)).run P w = .ok (ts.map f) w
 | [] => by simp
 | t :: ts => by
  have ih := yl hg ts
  simp only [List.map_cons, List.mapM_cons, Sem.run_bind, hg t, Result.andThen_ok, ih, Sem.run_pure]
def al4 (T : Tab) (rs : List ResultVar) (r : A) (hout : Hp) (e : Exit) (σ : St) : Prop :=
 match e with
 | .ret | .normal => aam T rs r hout σ
 | _ => False
def p7 : Nat → List A → List (Nat × A)
 | _, [] => []
 | i, x :: xs => (i, x) :: p7 (i + 1) xs
theorem xy {S : Imm} {w : World} {β : Own} : ∀ {args : List A} {vs : List Value} {i t : Nat} {x : A}, ARs β S w args vs → lk (p7 i args) t = some x → ∃ u, i ≤ t ∧ vs[t - i]? = some u ∧ AR β S w x u
 | [], vs, i, t, x, h, hx => by simp [p7, lk] at hx
 | y :: ys, vs, i, t, x, h, hx => by
  simp only [ARs] at h
  obtain ⟨u, us, rfl, h1, h2⟩ := h
  simp only [p7, lk] at hx
  split at hx
  ·rename_i e
   subst e
   cases hx
   exact ⟨u, Nat.le_refl _, by simp, h1⟩
  ·rename_i hne
   obtain ⟨u', h3, h4, h5⟩ := xy h2 hx
   refine ⟨u', by omega, ?_, h5⟩
   have e : t - i = (t - (i + 1)) + 1 := by omega
   rw [e]; simpa using h4
theorem ake (hT : bw P T) {f : FuncId} {fn : Func} {c : Code} {args : List A} {hin : Hp} {r : A} {hout : Hp} (hf : P.funcs[f]? = some fn) (hb : fn.body = some c) (hname : (fn.name == "runtime.NumGoroutine") = false) (hn : args.length ≤ fn.ntmps ∧ fn.ntmps ≤ 1000000)
  (r1 : A.bc (hin.map (·.1)) args = true) (r2 : ∀ x ∈ hin, A.bc (hin.map (·.1)) x.2.2 = true) (r3 : r.dx (hout.map (·.1)) = true) (r4 : ∀ x ∈ hout, A.bc (hout.map (·.1)) x.2.2 = true)
  (h : awp P G T c (al4 T fn.results.toList r hout) ⟨fn.ntmps, p7 0 args, hin⟩) : qp P G f args hin r hout := by
 refine ⟨by simp [fb, hf, hb, hname], r1, r2, r3, r4, fun S w β vs hpre hargs => ?_⟩
 refine calls_of_wp hf hb ?_
 have hlen := c7 hargs
 have hrel : Rel G w β S ⟨fn.ntmps, p7 0 args, hin⟩ { tmps := vs.toArray ++ Array.replicate (fn.ntmps - vs.toArray.size) undef, defers := [] } w β S := by
  refine { defers := rfl, size := ?_, env := ?_, glob := hpre.glob, keys := hpre.keys, rd := hpre.rd, live := hpre.live, froz := hpre.froz, fd := hpre.fd, nilb := hpre.nilb, inj := hpre.inj, imm := hpre.imm, old := hpre.old, ext := hpre.ext, stay := hpre.stay, small := hn.2, src := hpre.src }
  ·simp; omega
  ·intro t x hx
   obtain ⟨u, _, hu, hR⟩ := xy hargs hx
   simp only [Nat.sub_zero] at hu
   have hlt : t < vs.length := (List.getElem?_eq_some_iff.1 hu).1
   have : (vs.toArray ++ Array.replicate (fn.ntmps - vs.toArray.size) undef).getD t undef = u := by
    rw [Array.getD_eq_getD_getElem?, Array.getElem?_append, if_pos (by simpa using hlt)]
    simp [hu]
   rw [this]; exact hR
 refine wp_mono (eb hT c _ _ h w _ _ _ w _ S hrel) ?_
 rintro e a' w' ⟨σ', β', S', hq, hr, hn'⟩
 have hfin : aam T fn.results.toList r hout σ' → bodyPost P fn (fun e w' => ∃ v β' S', e = .returned v ∧ Rel G w β S (St.mem hout) aca w' β' S' ∧ AR β' S' w' r v) .ret a' w' := by
  intro hq
  have hcut : ∀ {σ2 : St} {S2 : Imm}, Rel G w β S σ2 a' w' β' S2 → σ2.heap.filter (fun x => (hout.map (·.1)).contains x.1) = hout → Rel G w β S (St.mem hout) aca w' (β'.only (hout.map (·.1))) S2 := by
   intro σ2 S2 h2 he
   refine (h2.cut (L := []) (ks := hout.map (·.1)) (xs := []) (hh := hout) ⟨.inl rfl, he, rfl, ?_⟩).only
   rw [List.all_eq_true]
   exact r4
  cases hq with
  | own t h0 h1 h2 =>
   refine ⟨hr.defers, a'.tmps.getD t undef, ?_, _, _, _, rfl, hcut hr h2, ?_⟩
   ·unfold results
    have e1 : fn.results = #[.tmp t] := by
     cases hh : fn.results; rw [hh] at h0; simp only at h0; rw [h0]
    rw [e1]; simp
   ·refine ov r3 ?_
    rw [← h1]; exact hr.get t
  | data x hq h1 =>
   obtain ⟨ds, bs, us, ⟨rfl, hflt⟩, hbs, hds, hrun⟩ := k7 hT hr hq
   subst h1
   have hd := hds bs (fun _ h => h)
   have hfr := hr.freeze hbs
   have hfe : σ'.freeze bs = ⟨σ'.n, σ'.env, p9 σ'.heap bs⟩ := aeg σ'.n σ'.env σ'.heap bs
   have hres : (results fn a'.tmps).run P w' = .ok (if h : us.toArray.size = 1 then us.toArray[0] else .tuple us.toArray) w' := by
    unfold results
    rw [Array.mapM_eq_mapM_toList]
    have : (List.mapM (fun | ResultVar.tmp t => pure (a'.tmps.getD t undef) | .cell c t => do loadVar t (← asAddr (a'.tmps.getD c undef)) : ResultVar → Sem Value) fn.results.toList).run P w' = .ok us w' := hrun
    simp only [Sem.run_bind, Sem.run_map]
    erw [this]
    simp only [Result.andThen_ok, Sem.run_pure]
   have hR : DR (je β' σ' bs S') w' (v8 ds) (if h : us.toArray.size = 1 then us.toArray[0] else .tuple us.toArray) := by
    have hl := c8 hd
    unfold v8
    split
    ·rename_i x
     simp only [DRs] at hd
     obtain ⟨u, us', rfl, h1, rfl⟩ := hd
     simpa using h1
    ·rename_i hne
     rw [dif_neg]
     ·simp only [DR]; exact ⟨us.toArray, rfl, hd⟩
     ·intro h1
      have : ds.length = 1 := by rw [← hl]; simpa using h1
      obtain ⟨x, rfl⟩ := List.length_eq_one_iff.1 this
      exact hne x rfl
   rw [hfe] at hfr
   exact ⟨hr.defers, _, hres, _, _, _, rfl, hcut hfr hflt, by simp only [AR]; exact hR⟩
  | tup ts h0 h01 h1 h2 =>
   have hmap : (List.mapM (fun | ResultVar.tmp t => pure (a'.tmps.getD t undef) | .cell c t => do loadVar t (← asAddr (a'.tmps.getD c undef)) : ResultVar → Sem Value) fn.results.toList).run P w' = .ok (ts.map fun t => a'.tmps.getD t undef) w' := by
    rw [h0]
    exact yl (fun t => by simp) ts
   have hres : (results fn a'.tmps).run P w' = .ok (.tuple (ts.map fun t => a'.tmps.getD t undef).toArray) w' := by
    unfold results
    rw [Array.mapM_eq_mapM_toList]
    simp only [Sem.run_bind, Sem.run_map]
    erw [hmap]
    simp only [Result.andThen_ok, Sem.run_pure]
    rw [dif_neg (by simpa using h01)]
   refine ⟨hr.defers, _, hres, _, _, _, rfl, hcut hr h2, ov r3 ?_⟩
   rw [← h1]
   simp only [AR]
   exact ⟨_, rfl, xj (fun t => hr.get t) ts⟩
 cases e with
 | normal => exact hfin hq
 | ret => exact hfin hq
 | _ => exact hq.elim
end
end Go.Ev

namespace Go.Ev
open Go
theorem ah {n : Int} (h0 : -9223372036854775808 ≤ n) (h1 : n ≤ 9223372036854775807) : IntKind.i64.wrap n = n := by
 have e : IntKind.i64.wrap n = if (true && decide (n % 2 ^ 64 ≥ 2 ^ 63)) = true then n % 2 ^ 64 - 2 ^ 64 else n % 2 ^ 64 := rfl
 rw [e]
 by_cases h : n % 2 ^ 64 ≥ 2 ^ 63
 ·rw [if_pos (by simpa using h)]; omega
 ·rw [if_neg (by simpa using h)]; omega
theorem wrap_u64 {n : Int} (h0 : 0 ≤ n) (h1 : n < 18446744073709551616) : IntKind.u64.wrap n = n := by
 have e : IntKind.u64.wrap n = if (false && decide (n % 2 ^ 64 ≥ 2 ^ 63)) = true then n % 2 ^ 64 - 2 ^ 64 else n % 2 ^ 64 := rfl
 rw [e, if_neg (by simp)]
 omega
theorem wrap_u32 (n : Int) : IntKind.u32.wrap n = n % 4294967296 := by
 have e : IntKind.u32.wrap n = if (false && decide (n % 2 ^ 32 ≥ 2 ^ 31)) = true then n % 2 ^ 32 - 2 ^ 32 else n % 2 ^ 32 := rfl
 rw [e, if_neg (by simp)]
 rfl
def ba (l : List UInt32) : List D := l.map fun x => .int .u32 x.toNat
def sl (l : List UInt32) : D := .slice l.length (ba l)
@[simp] theorem jx (l : List UInt32) : (ba l).length = l.length := by simp [ba]
theorem a6 (l : List UInt32) (i : Nat) (h : i < l.length) : ((ba l).drop (i * 1))[0]? = some (.int .u32 (l.getD i 0).toNat) := by
 simp [ba, h]
theorem ac7 (l : List UInt32) (i : Nat) (h : i < l.length) : ((ba l).map A.d)[i]? = some (.d (.int .u32 (l.getD i 0).toNat)) := by
 simp [ba, h]
theorem bn (l : List UInt32) (a b : Int) (h0 : 0 ≤ a) (h1 : a ≤ b) (h2 : b ≤ l.length) :
  D.slice (b - a).toNat (((ba l).drop (a.toNat * 1)).take ((b - a).toNat * 1)) = sl ((l.drop a.toNat).take (b - a).toNat) := by
 unfold sl ba
 rw [Nat.mul_one, Nat.mul_one, List.map_take, List.map_drop]
 congr 1
 simp; omega
end Go.Ev

namespace Go.Ev
open Go
def Pw (k : Nat) : Nat := 4294967296 ^ k
theorem ai2 : Pw 0 = 1 := rfl
theorem fk (k : Nat) : Pw (k + 1) = 4294967296 * Pw k := by unfold Pw; rw [Nat.pow_succ, Nat.mul_comm]
theorem rp (a b : Nat) : Pw (a + b) = Pw a * Pw b := Nat.pow_add _ _ _
theorem agn (k : Nat) : 0 < Pw k := Nat.pow_pos (by decide)
theorem kb (k : Nat) : Pw k = 2 ^ (32 * k) := by unfold Pw; rw [Nat.pow_mul]
theorem im {a b : Nat} (h : a ≤ b) : Pw a ≤ Pw b := Nat.pow_le_pow_right (by decide) h
theorem ck (x : UInt32) : x.toNat < 4294967296 := x.toNat_lt
def nv : List UInt32 → Nat
 | [] => 0
 | x :: l => x.toNat + 4294967296 * nv l
@[simp] theorem mr : nv [] = 0 := rfl
theorem ef (x : UInt32) (l : List UInt32) : nv (x :: l) = x.toNat + 4294967296 * nv l := rfl
theorem gk : ∀ l : List UInt32, nv l < Pw l.length
 | [] => by simp [Pw]
 | x :: l => by
  have := gk l
  have := ck x
  rw [ef, List.length_cons, fk]; omega
theorem gy : ∀ a b : List UInt32, nv (a ++ b) = nv a + Pw a.length * nv b
 | [], b => by simp [Pw]
 | x :: a, b => by
  rw [List.cons_append, ef, ef, gy a b, List.length_cons, fk, Nat.mul_add, Nat.mul_assoc]; omega
theorem dw : ∀ n : Nat, nv (List.replicate n 0) = 0
 | 0 => rfl
 | n + 1 => by rw [List.replicate_succ, ef, dw n]; rfl
theorem gd (l : List UInt32) (i : Nat) (h : i ≤ l.length) : nv l = nv (l.take i) + Pw i * nv (l.drop i) := by
 have := gy (l.take i) (l.drop i)
 rw [List.take_append_drop, List.length_take, Nat.min_eq_left h] at this
 exact this
theorem adg : ∀ (l : List UInt32) (i : Nat) (v : UInt32), i < l.length → nv (l.set i v) + Pw i * (l.getD i 0).toNat = nv l + Pw i * v.toNat
 | [], i, v, h => by simp at h
 | x :: l, 0, v, h => by simp [ef, Pw]; omega
 | x :: l, i + 1, v, h => by
  have := adg l i v (by simpa using h)
  simp only [List.set_cons_succ, ef, List.getD_cons_succ, fk, Nat.mul_assoc]; omega
theorem q8 (l : List UInt32) (i : Nat) (h : i < l.length) : nv (l.take (i + 1)) = nv (l.take i) + Pw i * (l.getD i 0).toNat := by
 rw [List.take_succ_eq_append_getElem h, gy, List.length_take, Nat.min_eq_left (by omega)]
 simp [ef, h]
theorem k5 (l : List UInt32) (i : Nat) (h : i < l.length) : nv (l.drop i) = (l.getD i 0).toNat + 4294967296 * nv (l.drop (i + 1)) := by
 rw [List.drop_eq_getElem_cons h, ef]
 simp [h]
theorem fj (l : List UInt32) (i : Nat) : nv (l.drop i) = nv l / Pw i := by
 by_cases h : i ≤ l.length
 ·have h1 := gd l i h
  have h2 := gk (l.take i)
  rw [List.length_take, Nat.min_eq_left h] at h2
  rw [h1, Nat.add_mul_div_left _ _ (agn i), Nat.div_eq_of_lt h2, Nat.zero_add]
 ·rw [List.drop_eq_nil_of_le (by omega), mr, Nat.div_eq_of_lt]
  exact Nat.lt_of_lt_of_le (gk l) (im (by omega))
theorem abh (l : List UInt32) (i : Nat) : nv (l.take i) = nv l % Pw i := by
 by_cases h : i ≤ l.length
 ·have h1 := gd l i h
  have h2 := gk (l.take i)
  rw [List.length_take, Nat.min_eq_left h] at h2
  rw [h1, Nat.add_mul_mod_self_left, Nat.mod_eq_of_lt h2]
 ·rw [List.take_of_length_le (by omega), Nat.mod_eq_of_lt]
  exact Nat.lt_of_lt_of_le (gk l) (im (by omega))
theorem aes (l : List UInt32) (i : Nat) : (l.getD i 0).toNat = nv l / Pw i % 4294967296 := by
 rw [← fj]
 by_cases h : i < l.length
 ·rw [k5 l i h, Nat.add_mul_mod_self_left, Nat.mod_eq_of_lt (ck _)]
 ·rw [List.drop_eq_nil_of_le (by omega)]
  simp [List.getD, List.getElem?_eq_none (Nat.le_of_not_lt h)]
def ofN (n : Nat) : List UInt32 := if h : n = 0 then [] else UInt32.ofNat n :: ofN (n / 4294967296)
termination_by n
decreasing_by omega
theorem dj : ofN 0 = [] := by rw [ofN]; rfl
theorem o4 {n : Nat} (h : n ≠ 0) : ofN n = UInt32.ofNat n :: ofN (n / 4294967296) := by rw [ofN, dif_neg h]
@[simp] theorem di (n : Nat) : nv (ofN n) = n := by
 induction n using Nat.strongRecOn with
 | _ n ih =>
  by_cases h : n = 0
  ·rw [h, dj]; rfl
  ·rw [o4 h, ef, ih _ (by omega), UInt32.toNat_ofNat']; omega
theorem abi (x : UInt32) (n : Nat) (h : x.toNat + 4294967296 * n ≠ 0) : ofN (x.toNat + 4294967296 * n) = x :: ofN n := by
 have := ck x
 rw [o4 h]
 congr 1
 ·apply UInt32.toNat_inj.1; rw [UInt32.toNat_ofNat']; omega
 ·congr 1; omega
def ns (l : List UInt32) : Bool := l.getLast? != some 0
theorem lu (n : Nat) : ns (ofN n) = true := by
 induction n using Nat.strongRecOn with
 | _ n ih =>
  by_cases h : n = 0
  ·rw [h, dj]; rfl
  ·rw [o4 h]
   by_cases h2 : n / 4294967296 = 0
   ·rw [h2, dj]
    simp only [ns, List.getLast?_singleton, bne_iff_ne, ne_eq, Option.some.injEq]
    intro e
    have := congrArg UInt32.toNat e
    rw [UInt32.toNat_ofNat'] at this
    simp at this; omega
   ·have := ih _ (show n / 4294967296 < n by omega)
    rw [o4 h2] at this ⊢
    simpa [ns, List.getLast?_cons_cons] using this
theorem ahx : ∀ {l : List UInt32}, ns l = true → ofN (nv l) = l
 | [], _ => dj
 | [x], h => by
  rw [ef, mr, abi _ _ ?_, dj]
  intro e
  have : x = 0 := UInt32.toNat_inj.1 (by simp at e ⊢; omega)
  simp [ns, this] at h
 | x :: y :: l, h => by
  have ih := ahx (l := y :: l) (by simpa [ns, List.getLast?_cons_cons] using h)
  rw [ef, abi _ _ ?_, ih]
  intro e
  have e : nv (y :: l) = 0 := by omega
  rw [e, dj] at ih
  cases ih
theorem jg {n : Nat} (h : n ≠ 0) : ofN n ≠ [] := by rw [o4 h]; simp
theorem adj {n : Nat} : ofN n = [] ↔ n = 0 := ⟨fun h => by have := di n; rw [h] at this; exact this.symm, fun h => by rw [h, dj]⟩
theorem cw {n : Nat} : (ofN n).length = 0 ↔ n = 0 := by rw [List.length_eq_zero_iff, adj]
theorem aj5 {a b : Nat} (h : ofN a = ofN b) : a = b := by have := congrArg nv h; simpa using this
theorem ahv {l : List UInt32} (h : ns l = true) (hl : l ≠ []) : Pw (l.length - 1) ≤ nv l := by
 obtain ⟨a, x, rfl⟩ : ∃ a x, l = a ++ [x] := ⟨l.dropLast, l.getLast hl, (List.dropLast_concat_getLast hl).symm⟩
 have hx : x ≠ 0 := by simpa [ns] using h
 have hx : x.toNat ≠ 0 := fun e => hx (UInt32.toNat_inj.1 (by simpa using e))
 rw [gy, List.length_append]
 simp only [List.length_cons, List.length_nil, Nat.zero_add, Nat.add_sub_cancel, ef, mr, Nat.mul_zero, Nat.add_zero]
 have := Nat.mul_le_mul_left (Pw a.length) (show 1 ≤ x.toNat by omega)
 omega
theorem cj {n k : Nat} : (ofN n).length ≤ k ↔ n < Pw k := by
 constructor
 ·intro h
  have := gk (ofN n)
  rw [di] at this
  exact Nat.lt_of_lt_of_le this (im h)
 ·intro h
  by_cases e : n = 0
  ·rw [e, dj]; simp
  ·have h1 := ahv (lu n) (jg e)
   rw [di] at h1
   have h2 : Pw ((ofN n).length - 1) < Pw k := by omega
   by_cases h3 : (ofN n).length ≤ k
   ·exact h3
   ·have := im (show k ≤ (ofN n).length - 1 by omega); omega
theorem ee (l : List UInt32) : (ofN (nv l)).length ≤ l.length := cj.2 (gk l)
theorem adf {l : List UInt32} (h : l ≠ []) (h0 : (l.getD (l.length - 1) 0).toNat = 0) : nv (l.take (l.length - 1)) = nv l := by
 have hp : 0 < l.length := by cases l with | nil => exact absurd rfl h | cons _ _ => simp
 have := q8 l (l.length - 1) (by omega)
 rw [Nat.sub_add_cancel hp, List.take_length, h0] at this
 omega
theorem ry (l : List UInt32) : ns l = true ↔ l = [] ∨ (l.getD (l.length - 1) 0).toNat ≠ 0 := by
 cases l with
 | nil => simp [ns]
 | cons x l =>
  have e : (x :: l).getLast? = some ((x :: l).getD ((x :: l).length - 1) 0) := by
   rw [List.getLast?_eq_getElem?, List.getD_eq_getElem?_getD]
   simp
  rw [ns, e]
  simp only [bne_iff_ne, ne_eq, Option.some.injEq, reduceCtorEq, false_or]
  exact not_congr (by rw [← UInt32.toNat_inj]; rfl)
theorem zt {l : List UInt32} (h : l = [] ∨ (l.getD (l.length - 1) 0).toNat ≠ 0) : ofN (nv l) = l := ahx ((ry l).2 h)
theorem qe {a b : Nat} (h : (ofN a).length < (ofN b).length) : a < b := by
 have h1 := gk (ofN a)
 rw [di] at h1
 by_cases e : b = 0
 ·rw [e, dj] at h; simp at h
 ·have h2 := ahv (lu b) (jg e)
  rw [di] at h2
  have := im (show (ofN a).length ≤ (ofN b).length - 1 by omega)
  omega
end Go.Ev

namespace Go.Ev
open Go
def la (l : List UInt32) : List A := (ba l).map A.d
@[simp] theorem lx (l : List UInt32) : (la l).length = l.length := by simp [la]
theorem cv (l : List UInt32) (i j : Nat) (e : i = j) (h : j < l.length) : (la l)[i]? = some (.d (.int .u32 (l.getD j 0).toNat)) := by
 subst e; exact ac7 l i h
theorem ca (n : Nat) : ij n (k9 [ZK.int .u32]) = la (List.replicate n 0) := by
 induction n with
 | zero => rfl
 | succ n ih =>
  unfold ij at ih ⊢
  rw [List.replicate_succ, List.flatten_cons, ih]
  rfl
theorem db (l : List UInt32) (o j : Nat) (v : Int) (e : o = j) (hj : j < l.length) (h0 : 0 ≤ v) (h1 : v < 4294967296) :
  setAt (la l) o (A.cells (.d (.int .u32 v))) = la (l.set j (UInt32.ofNat v.toNat)) := by
 subst e
 have ev : ((UInt32.ofNat v.toNat).toNat : Int) = v := by rw [UInt32.toNat_ofNat']; omega
 have e2 : ba (l.set o (UInt32.ofNat v.toNat)) = (ba l).set o (.int .u32 v) := by
  unfold ba; rw [List.map_set, ev]
 unfold la
 rw [e2, List.map_set]
 rfl
theorem ax (l : List UInt32) (n o m : Nat) (hn : n = l.length) (ho : o = 0) (hm : m = n * 1) : D.slice n (((ba l).drop o).take m) = sl l := by
 subst hn; subst ho; subst hm
 unfold sl
 rw [List.drop_zero, List.take_of_length_le (by simp)]
theorem ai.go {I : Nat → List A → List (Nat × Bool × List A) → Prop} {m : Nat} {L ks : List Nat} {σ' : St} (xs' : List A) (h' : List (Nat × Bool × List A)) (cut : σ'.cut L ks xs' h') (inv : ∃ m', I m' xs' h' ∧ m' < m) : ai I m L ks σ' :=
 inv.elim fun m' h => ⟨m', xs', h', cut, h.2, h.1⟩
theorem av (x : UInt32) : IntKind.u64.wrap x.toNat = (x.toNat : Int) := wrap_u64 (by omega) (by have := ck x; omega)
theorem ed (x y : Nat) (h : x + y < 18446744073709551616) : IntKind.u64.wrap (↑x + ↑y) = ((x + y : Nat) : Int) := by rw [wrap_u64 (by omega) (by omega)]; omega
theorem ep (x y : Nat) (h : x * y < 18446744073709551616) : IntKind.u64.wrap (↑x * ↑y) = ((x * y : Nat) : Int) := by
 rw [← Int.natCast_mul, wrap_u64 (by omega) (by omega)]
theorem eg (x y : Nat) (hx : x < 18446744073709551616) (hy : y ≤ 18446744073709551616) : IntKind.u64.wrap (↑x - ↑y) = (((x + 18446744073709551616 - y) % 18446744073709551616 : Nat) : Int) := by
 have e : IntKind.u64.wrap (↑x - ↑y) = if (false && decide (((x : Int) - y) % 2 ^ 64 ≥ 2 ^ 63)) = true then ((x : Int) - y) % 2 ^ 64 - 2 ^ 64 else ((x : Int) - y) % 2 ^ 64 := rfl
 rw [e, if_neg (by simp)]
 omega
theorem aj (x k : Nat) (e : Int) (b : Nat) (he : (2 : Int) ^ min e.toNat b = ((k : Nat) : Int)) : (x : Int).fdiv (2 ^ min e.toNat b) = ((x / k : Nat) : Int) := by
 rw [he, Int.fdiv_eq_ediv_of_nonneg _ (by omega)]; rfl
theorem cc (x : Nat) : IntKind.u32.wrap x = ((x % 4294967296 : Nat) : Int) := by rw [wrap_u32]; omega
theorem ey (x : Nat) (h : x < 18446744073709551616) : IntKind.u64.wrap x = ((x : Nat) : Int) := wrap_u64 (by omega) (by omega)
theorem a7 (x : Nat) (h : x < 9223372036854775808) : IntKind.i64.wrap x = (x : Int) := ah (by omega) (by omega)
theorem ar (x : Nat) (h : x < 9223372036854775807) : IntKind.i64.wrap (↑x + 1) = ((x + 1 : Nat) : Int) := by rw [ah (by omega) (by omega)]; omega
theorem bo (l : List UInt32) (o j v : Nat) (e : o = j) (hj : j < l.length) (h1 : v < 4294967296) :
  setAt (la l) o (A.cells (.d (.int .u32 v))) = la (l.set j (UInt32.ofNat v)) := by
 have := db l o j v e hj (by omega) (by omega)
 rwa [Int.toNat_natCast] at this
theorem toNat_ofNat {v : Nat} (h : v < 4294967296) : (UInt32.ofNat v).toNat = v := by rw [UInt32.toNat_ofNat']; omega
theorem ly (p v : Nat) : p * (v % 4294967296) + 4294967296 * p * (v / 4294967296) = p * v := by
 rw [Nat.mul_comm 4294967296 p, Nat.mul_assoc, ← Nat.mul_add]; congr 1; omega
theorem n4 {l : List UInt32} {i : Nat} (h : l.length ≤ i) : (l.getD i 0).toNat = 0 := by simp [List.getD, List.getElem?_eq_none h]
theorem bp (l : List UInt32) (i : Nat) : nv (l.take (i + 1)) = nv (l.take i) + Pw i * (l.getD i 0).toNat := by
 by_cases h : i < l.length
 ·exact q8 l i h
 ·rw [n4 (by omega), List.take_of_length_le (by omega), List.take_of_length_le (by omega)]; rfl
theorem q7 {l : List UInt32} {i v : Nat} (h : i < l.length) (h0 : (l.getD i 0).toNat = 0) (hv : v < 4294967296) : nv (l.set i (UInt32.ofNat v)) = nv l + Pw i * v := by
 have := adg l i (UInt32.ofNat v) h
 rw [h0, toNat_ofNat hv] at this
 omega
theorem getD_set_ne {l : List UInt32} {i j : Nat} {v : UInt32} (h : i ≠ j) : ((l.set i v).getD j 0) = l.getD j 0 := by
 simp [List.getD, List.getElem?_set, h]
theorem n5 (n j : Nat) : ((List.replicate n (0 : UInt32)).getD j 0).toNat = 0 := by
 rw [aes, dw, Nat.zero_div]
theorem b9 (x y : Nat) : (if true = true then (if (y : Int) > x then (y : Int) else x) else (if (y : Int) < x then (y : Int) else x)) = ((max x y : Nat) : Int) := by
 rw [if_pos rfl]; omega
theorem min_eq (x y : Int) : (if false = true then (if y > x then y else x) else (if y < x then y else x)) = min x y := by
 rw [if_neg (by decide)]; omega
theorem all_nil (ks : List Nat) : List.all ([] : List (Nat × Bool × List A)) (fun x => A.bc ks x.2.2) = true := rfl
theorem cz (ks : List Nat) (k : Nat) (f : Bool) (l : List UInt32) (h : List (Nat × Bool × List A)) (H : h.all (fun x => A.bc ks x.2.2) = true) : List.all ((k, f, la l) :: h) (fun x => A.bc ks x.2.2) = true := by
 rw [List.all_cons, H, la, A.eu]; rfl
theorem af (i : Nat) : 0 + (i : Int).toNat * 1 = i := by simp
theorem ab (x : Int) : 0 + x.toNat * 1 = x.toNat := by simp
theorem az (l : List UInt32) (i : Nat) (h : i < l.length) : ((ba l).drop ((i : Int).toNat * 1))[0]? = some (.int .u32 (l.getD i 0).toNat) := by
 rw [Int.toNat_natCast]; exact a6 l i h
theorem EqE.idW {k : IntKind} {n : Int} {K : Int → Prop} (h : EqE (IntKind.wrap k n) K) : EqE (IntKind.wrap k n) K := h
theorem EqE.idS {l : List A} {o : Nat} {c : List A} {K : List A → Prop} (h : EqE (setAt l o c) K) : EqE (setAt l o c) K := h
theorem EqE.idR {l : List A} {n : Nat} {K : List A → Prop} (h : EqE (ij n l) K) : EqE (ij n l) K := h
theorem EqE.idI {c : Bool} {x y : Int} {K : Int → Prop} (h : EqE (if c = true then (if y > x then y else x) else (if y < x then y else x)) K) : EqE (if c = true then (if y > x then y else x) else (if y < x then y else x)) K := h
theorem EqE.idL {n : Nat} {l : List D} {K : D → Prop} (h : EqE (D.slice n l) K) : EqE (D.slice n l) K := h
theorem EqE.idF {x y : Int} {K : Int → Prop} (h : EqE (Int.fdiv x y) K) : EqE (Int.fdiv x y) K := h
theorem EqE.idA {a b : List A} {K : List A → Prop} (h : EqE (a ++ b) K) : EqE (a ++ b) K := h
theorem da (a b : List UInt32) : la a ++ (ba b).map A.d = la (a ++ b) := by simp [la, ba]
theorem b8 (b : List UInt32) : [] ++ (ba b).map A.d = la b := rfl
def nb (n : Nat) : Nat := if n = 0 then 0 else n.log2 + 1
theorem n8 {n k : Nat} : nb n ≤ k ↔ n < 2 ^ k := by
 unfold nb
 split
 ·rename_i h; subst h; exact ⟨fun _ => Nat.two_pow_pos k, fun _ => Nat.zero_le _⟩
 ·rename_i h; rw [← Nat.log2_lt h]; omega
theorem ams (n : Nat) : n < 2 ^ nb n := n8.1 (Nat.le_refl _)
theorem ak1 {n : Nat} (h : n ≠ 0) : 2 ^ (nb n - 1) ≤ n := by
 have h1 : ¬ nb n ≤ nb n - 1 := by unfold nb; rw [if_neg h]; omega
 rw [n8] at h1; omega
theorem amr {n k : Nat} (h1 : 2 ^ k ≤ n) (h2 : n < 2 ^ (k + 1)) : nb n = k + 1 := by
 have h3 := n8.2 h2
 have h4 : ¬ nb n ≤ k := by rw [n8]; omega
 omega
theorem se {n k : Nat} (h : 2 ^ k ≤ n) : nb n = k + nb (n / 2 ^ k) := by
 have h0 : n / 2 ^ k ≠ 0 := by
  exact Nat.ne_of_gt (Nat.div_pos h (Nat.two_pow_pos k))
 have h1 := ak1 h0
 have h2 := ams (n / 2 ^ k)
 have hp : nb (n / 2 ^ k) ≠ 0 := by
  intro e; rw [e] at h2; exact h0 (Nat.lt_one_iff.1 h2)
 have h3 : 2 ^ (k + (nb (n / 2 ^ k) - 1)) ≤ n := by
  rw [Nat.pow_add]
  exact Nat.le_trans (Nat.mul_le_mul_left _ h1) (Nat.mul_div_le _ _)
 have h4 : n < 2 ^ (k + nb (n / 2 ^ k)) := by
  rw [Nat.pow_add]
  have := Nat.lt_mul_div_succ n (Nat.two_pow_pos k)
  exact Nat.lt_of_lt_of_le this (Nat.mul_le_mul_left _ h2)
 have := amr (k := k + (nb (n / 2 ^ k) - 1)) h3 (by rw [show k + (nb (n / 2 ^ k) - 1) + 1 = k + nb (n / 2 ^ k) by omega]; exact h4)
 omega
theorem bd (l : List UInt32) : ∀ c ∈ ba l, (A.d c).one = true := by
 intro c hc
 simp only [ba, List.mem_map] at hc
 obtain ⟨x, _, rfl⟩ := hc
 rfl
theorem gu (x : Nat) : IntKind.u8.wrap x = ((x % 256 : Nat) : Int) := by
 have e : IntKind.u8.wrap x = if (false && decide ((x : Int) % 2 ^ 8 ≥ 2 ^ 7)) = true then (x : Int) % 2 ^ 8 - 2 ^ 8 else (x : Int) % 2 ^ 8 := rfl
 rw [e, if_neg (by simp)]
 omega
theorem al9 {n : Nat} {i : Int} (k : Nat) (h : (n == k) = true) (hi : 0 ≤ i ∧ i < k) : 0 ≤ i ∧ i < n := by
 simp only [beq_iff_eq] at h; subst h; exact hi
theorem akj {l : List UInt8} {i : Int} (f : Nat → Nat) (k : Nat) (j : Nat) (h : ((List.range k).all fun i => (nth 0 l i).toNat == f i) = true) (hi : i = j) (hk : j < k) : (((nth 0 l i.toNat).toNat : Nat) : Int) = ((f j : Nat) : Int) := by
 subst hi
 rw [List.all_eq_true] at h
 have := h j (by simpa using hk)
 simp only [beq_iff_eq] at this
 rw [Int.toNat_natCast, this]
theorem ahq {n : Nat} (h : n ≠ 0) : nb n = 32 * ((ofN n).length - 1) + nb ((ofN n).getD ((ofN n).length - 1) 0).toNat := by
 have h1 := ahv (lu n) (jg h)
 rw [di, kb] at h1
 rw [se h1, aes, di, kb]
 congr 1
 have h2 := gk (ofN n)
 rw [di, kb] at h2
 have hl : (ofN n).length ≠ 0 := fun e => jg h (List.eq_nil_of_length_eq_zero e)
 rw [Nat.mod_eq_of_lt]
 rw [Nat.div_lt_iff_lt_mul (Nat.two_pow_pos _)]
 have : 2 ^ (32 * (ofN n).length) = 4294967296 * 2 ^ (32 * ((ofN n).length - 1)) := by
  rw [show 32 * (ofN n).length = 32 + 32 * ((ofN n).length - 1) by omega, Nat.pow_add]
 omega
theorem vx {a b : List UInt32} (j : Nat) (h : nv (a.drop j) < nv (b.drop j)) : nv a < nv b := by
 rw [fj, fj] at h
 exact Nat.lt_of_not_le fun h' => absurd (Nat.div_le_div_right (c := Pw j) h') (by omega)
def xb (a b : Nat) : Int := if a < b then -1 else if a = b then 0 else 1
theorem y6 {a b : Nat} (h : a < b) : xb a b = -1 := by unfold xb; rw [if_pos h]
theorem aec {a b : Nat} (h : b < a) : xb a b = 1 := by unfold xb; rw [if_neg (by omega), if_neg (by omega)]
theorem ai8 {a b : Nat} (h : a = b) : xb a b = 0 := by unfold xb; rw [if_neg (by omega), if_pos h]
theorem eo (x y : Nat) (hx : x < 18446744073709551616) (hy : y < 18446744073709551616) : IntKind.u64.wrap (BitVec.ofInt IntKind.u64.bits x &&& BitVec.ofInt IntKind.u64.bits y).toNat = ((x &&& y : Nat) : Int) := by
 have h : x &&& y ≤ x := Nat.and_le_left
 have e : ∀ z : Nat, z < 18446744073709551616 → (BitVec.ofInt 64 (z : Int)).toNat = z := by
  intro z hz; rw [BitVec.toNat_ofInt]; omega
 show IntKind.u64.wrap ((BitVec.ofInt 64 (x : Int) &&& BitVec.ofInt 64 (y : Int)).toNat : Int) = _
 rw [BitVec.toNat_and, e x hx, e y hy, wrap_u64 (by omega) (by omega)]
theorem c6 (x : Nat) (hx : x < 18446744073709551616) : IntKind.u64.wrap (BitVec.ofInt IntKind.u64.bits x &&& BitVec.ofInt IntKind.u64.bits 1).toNat = ((x % 2 : Nat) : Int) := by
 rw [← Nat.and_one_is_mod]; exact eo x 1 hx (by decide)
theorem dd (x : Nat) (hx : x < 18446744073709551616) : IntKind.u64.wrap (BitVec.ofInt IntKind.u64.bits x &&& BitVec.ofInt IntKind.u64.bits 4294967295).toNat = ((x % 4294967296 : Nat) : Int) := by
 rw [show x % 4294967296 = x &&& 4294967295 from (Nat.and_two_pow_sub_one_eq_mod x 32).symm]; exact eo x 4294967295 hx (by decide)
theorem ig (x y : Nat) (hx : x < 18446744073709551616) (hy : y < 18446744073709551616) : IntKind.u64.wrap (BitVec.ofInt IntKind.u64.bits x ||| BitVec.ofInt IntKind.u64.bits y).toNat = ((x ||| y : Nat) : Int) := by
 have e : ∀ z : Nat, z < 18446744073709551616 → (BitVec.ofInt 64 (z : Int)).toNat = z := by
  intro z hz; rw [BitVec.toNat_ofInt]; omega
 have h : x ||| y < 2 ^ 64 := Nat.or_lt_two_pow hx hy
 show IntKind.u64.wrap ((BitVec.ofInt 64 (x : Int) ||| BitVec.ofInt 64 (y : Int)).toNat : Int) = _
 rw [BitVec.toNat_or, e x hx, e y hy, wrap_u64 (by omega) (by omega)]
theorem et (x s : Nat) (hs : s ≤ 64) (h : x * 2 ^ s < 18446744073709551616) : IntKind.u64.wrap (↑x * 2 ^ min (s : Int).toNat IntKind.u64.bits) = ((x * 2 ^ s : Nat) : Int) := by
 have e : min (s : Int).toNat IntKind.u64.bits = s := by
  show min (s : Int).toNat 64 = s
  omega
 rw [e, show (x : Int) * 2 ^ s = ((x * 2 ^ s : Nat) : Int) by simp, wrap_u64 (by omega) (by omega)]
theorem cg (x s : Nat) (hs : s ≤ 64) : (x : Int).fdiv (2 ^ min (s : Int).toNat IntKind.u64.bits) = ((x / 2 ^ s : Nat) : Int) := by
 have e : min (s : Int).toNat IntKind.u64.bits = s := by
  show min (s : Int).toNat 64 = s
  omega
 rw [e, Int.fdiv_eq_ediv_of_nonneg _ (by exact Int.le_of_lt (Int.pow_pos (by decide)))]
 simp
theorem er (x y : Nat) (hx : x < 9223372036854775808) : IntKind.i64.wrap ((x : Int).tdiv y) = ((x / y : Nat) : Int) := by
 have e : (x : Int).tdiv y = ((x / y : Nat) : Int) := by rw [Int.tdiv_eq_ediv_of_nonneg (by omega)]; rfl
 have := Nat.div_le_self x y
 rw [e]
 generalize x / y = q at *
 rw [ah (by omega) (by omega)]
theorem bm (x y : Nat) : ((x : Int).tmod y) = ((x % y : Nat) : Int) := by
 rw [Int.tmod_eq_emod_of_nonneg (by omega)]; rfl
theorem ib (x : Int) : (if true = true then (if (0 : Int) > x then 0 else x) else (if 0 < x then 0 else x)) = ((x.toNat : Nat) : Int) := by
 rw [if_pos rfl]; omega
theorem EqE.idM {x y : Int} {K : Int → Prop} (h : EqE (Int.tmod x y) K) : EqE (Int.tmod x y) K := h
theorem adh (l : List UInt32) (i : Nat) : nv (l.take i) ≤ nv l := by rw [abh]; exact Nat.mod_le _ _
theorem bx (x : Nat) (h : x < 4294967296) : IntKind.u64.wrap (↑x * 2 ^ min (Int.toNat 32) IntKind.u64.bits) = ((x * 4294967296 : Nat) : Int) := et x 32 (by decide) (by omega)
theorem aac {x s : Nat} (hx : x < 4294967296) (hs : s < 32) : x * 2 ^ s < 9223372036854775808 := by
 have h1 : 2 ^ s ≤ 2 ^ 31 := Nat.pow_le_pow_right (by decide) (by omega)
 have h2 := Nat.mul_le_mul_left x h1
 omega
theorem ym {y s : Nat} (hy : y < 4294967296) (hs : s < 32) : y * 2 ^ s / 4294967296 < 2 ^ s := by
 rw [Nat.div_lt_iff_lt_mul (by decide), Nat.mul_comm]
 exact Nat.mul_lt_mul_of_pos_left hy (Nat.two_pow_pos s)
theorem adn {x c s : Nat} (h : c < 2 ^ s) : x * 2 ^ s ||| c = x * 2 ^ s + c := by
 rw [Nat.mul_comm, Nat.two_pow_add_eq_or_of_lt h]
theorem ah0 {x y : Nat} (h : x < 4294967296) : x ||| y * 4294967296 = x + y * 4294967296 := by
 have := Nat.two_pow_add_eq_or_of_lt (i := 32) h y
 rw [Nat.or_comm, Nat.mul_comm, show (4294967296 : Nat) = 2 ^ 32 from rfl, ← this, Nat.add_comm]
theorem ae3 {x c s : Nat} (hs : s < 32) (h : c < 2 ^ s) : (x * 2 ^ s + c) / 4294967296 = x * 2 ^ s / 4294967296 := by
 have e : (4294967296 : Nat) = 2 ^ s * 2 ^ (32 - s) := by rw [← Nat.pow_add, show s + (32 - s) = 32 by omega]
 rw [e, ← Nat.div_div_eq_div_mul, ← Nat.div_div_eq_div_mul, Nat.mul_comm x, Nat.mul_add_div (Nat.two_pow_pos s), Nat.div_eq_of_lt h, Nat.mul_div_cancel_left _ (Nat.two_pow_pos s), Nat.add_zero]
theorem uq (q s : Nat) : Pw q * 2 ^ s = 2 ^ (32 * q + s) := by rw [kb, Nat.pow_add]
theorem aco {x y z s : Nat} (hs : s < 32) : (x + y * 4294967296) / 2 ^ s % 4294967296 = (x + 4294967296 * (y + 4294967296 * z)) / 2 ^ s % 4294967296 := by
 have e : (4294967296 : Nat) = 2 ^ s * 2 ^ (32 - s) := by rw [← Nat.pow_add, show s + (32 - s) = 32 by omega]
 have h : x + 4294967296 * (y + 4294967296 * z) = (x + y * 4294967296) + 2 ^ s * (4294967296 * (2 ^ (32 - s) * z)) := by
  have : 4294967296 * (4294967296 * z) = 2 ^ s * (4294967296 * (2 ^ (32 - s) * z)) := by
   conv => lhs; rw [show 4294967296 * (4294967296 * z) = 4294967296 * z * 4294967296 by grind]; rhs; rw [e]
   grind
  omega
 rw [h, Nat.add_mul_div_left _ _ (Nat.two_pow_pos s), Nat.add_mul_mod_self_left]
theorem gj (l : List UInt32) (i : Nat) : nv (l.drop i) = (l.getD i 0).toNat + 4294967296 * nv (l.drop (i + 1)) := by
 by_cases h : i < l.length
 ·exact k5 l i h
 ·rw [List.drop_eq_nil_of_le (by omega), List.drop_eq_nil_of_le (by omega), n4 (by omega)]; rfl
def tzn (n : Nat) : Nat := if h : n = 0 then 0 else if n % 2 = 1 then 0 else tzn (n / 2) + 1
termination_by n
decreasing_by omega
theorem akl {n : Nat} (h : n % 2 = 1) : tzn n = 0 := by rw [tzn, dif_neg (by omega), if_pos h]
theorem ais {n : Nat} (h0 : n ≠ 0) : tzn (2 * n) = tzn n + 1 := by
 rw [tzn, dif_neg (by omega), if_neg (by omega), Nat.mul_div_cancel_left _ (by decide)]
theorem yq (n : Nat) (h : n ≠ 0) : ∃ m, m % 2 = 1 ∧ n = 2 ^ tzn n * m := by
 induction n using Nat.strongRecOn with
 | _ n ih =>
  by_cases h1 : n % 2 = 1
  ·exact ⟨n, h1, by rw [akl h1]; simp⟩
  ·obtain ⟨m, hm, he⟩ := ih (n / 2) (by omega) (by omega)
   refine ⟨m, hm, ?_⟩
   have : n = 2 * (n / 2) := by omega
   conv => lhs; rw [this, he]
   conv => rhs; rw [this, ais (by omega), Nat.pow_succ, Nat.mul_comm (2 ^ _) 2, Nat.mul_assoc]
theorem amc {n k : Nat} (h0 : n ≠ 0) (h : n < 2 ^ k) : tzn n < k := by
 obtain ⟨m, hm, he⟩ := yq n h0
 refine (Nat.pow_lt_pow_iff_right (a := 2) (by decide)).1 (Nat.lt_of_le_of_lt ?_ h)
 have := Nat.mul_le_mul_left (2 ^ tzn n) (show 1 ≤ m by omega)
 omega
def deB : List UInt8 := [0, 1, 28, 2, 29, 14, 24, 3, 30, 22, 20, 15, 25, 17, 4, 8, 31, 27, 13, 23, 21, 19, 16, 7, 26, 12, 18, 6, 11, 5, 10, 9]
def am1 : List D := deB.map fun x => .int .u8 x.toNat
theorem lh {l : List UInt32} {i : Nat} {v : UInt32} (h : i < l.length) : ((l.set i v).getD i 0) = v := by
 rw [List.getD_eq_getElem?_getD, List.getElem?_set_self h]; rfl
theorem ai9 {a b : Nat} : xb a b ≥ 0 ↔ b ≤ a := by
 unfold xb
 split
 ·constructor <;> intro h <;> first | (simp at h; done) | omega
 ·split <;> constructor <;> intro h <;> first | omega | simp
end Go.Ev

namespace Go.Ev
open Go
def zv (b : Bool) (l : List UInt32) : Int := if b then -(nv l : Int) else nv l
def dm (n : Int) : Bool := decide (n < 0)
def zD (n : Int) : D := .agg [.bool (dm n), sl (ofN n.natAbs)]
theorem pd (b : Bool) (l : List UInt32) : (zv b l).natAbs = nv l := by unfold zv; split <;> omega
theorem aah (b : Bool) (l : List UInt32) : dm (zv b l) = (b && decide (0 < nv l)) := by
 unfold dm zv; cases b
 ·simp
 ·simp
theorem ae8 (n : Int) : zv (dm n) (ofN n.natAbs) = n := by
 unfold zv dm; rw [di]
 by_cases h : n < 0
 ·simp [h]; omega
 ·simp [h]; omega
theorem ab5 (l : List UInt32) : zv false l = nv l := rfl
theorem ae9 (l : List UInt32) : zv true l = -(nv l : Int) := rfl
theorem alc {c b : Bool} {l : List UInt32} (h : c = (b && decide (0 < nv l))) : D.agg [.bool c, sl (ofN (nv l))] = zD (zv b l) := by
 unfold zD; rw [aah, pd, h]
def Zt (h : Nat) (n : Int) : Prop := n.natAbs < 2 ^ h
theorem Zt.mono {a b : Nat} {n : Int} (h : Zt a n) (hab : a ≤ b) : Zt b n := Nat.lt_of_lt_of_le h (Nat.pow_le_pow_right (by decide) hab)
theorem Zt.add {a b c : Nat} {m n : Int} (hm : Zt a m) (hn : Zt b n) (h : max a b < c) : Zt c (m + n) := by
 have h1 : Zt (max a b) m := hm.mono (by omega)
 have h2 : Zt (max a b) n := hn.mono (by omega)
 have h3 : 2 ^ (max a b + 1) ≤ 2 ^ c := Nat.pow_le_pow_right (by decide) h
 unfold Zt at *
 rw [Nat.pow_succ] at h3
 omega
theorem Zt.shl {a k c : Nat} {m : Int} (hm : Zt a m) (h : a + k ≤ c) : Zt c (m * 2 ^ k) := by
 refine Zt.mono (a := a + k) ?_ h
 unfold Zt at *
 rw [Int.natAbs_mul, Int.natAbs_pow, Nat.pow_add]
 exact Nat.mul_lt_mul_of_pos_right hm (Nat.pow_pos (by decide))
theorem Zt.le {a : Nat} {m n : Int} (hm : Zt a m) (h : n.natAbs ≤ m.natAbs) : Zt a n := Nat.lt_of_le_of_lt h hm
theorem Zt.len {k h : Nat} {n : Int} (e : h ≤ 32 * k) (hn : Zt h n) : (ofN n.natAbs).length ≤ k := by
 rw [cj, kb]
 exact hn.mono e
theorem Zt.adk {k h : Nat} {b : Bool} {l : List UInt32} (hl : l.length ≤ k) (e : 32 * k ≤ h) : Zt h (zv b l) := by
 unfold Zt
 rw [pd]
 have := gk l
 rw [kb] at this
 exact Nat.lt_of_lt_of_le this (Nat.pow_le_pow_right (by decide) (by omega))
theorem Zt.small {h : Nat} {n : Int} (e : n.natAbs < 18446744073709551616) (hh : 64 ≤ h) : Zt h n := Nat.lt_of_lt_of_le e (Nat.pow_le_pow_right (n := 2) (i := 64) (by decide) hh)
inductive ZR : D → Int → Prop where
 | mk (b : Bool) (l : List UInt32) (h : l.length ≤ 4194304) : ZR (.agg [.bool b, sl l]) (zv b l)
theorem ZR.of {n : Int} (h : Zt 134217728 n) : ZR (zD n) n := by
 have h2 := ZR.mk (dm n) (ofN n.natAbs) (h.len (by decide))
 rw [ae8] at h2
 exact h2
def lg : Dyadic → Int
 | .zero => 0
 | .ofOdd n _ _ => n
def qv : Dyadic → Int
 | .zero => 0
 | .ofOdd _ k _ => -k
def dyD (q : Dyadic) : D := .agg [.bool (dm (lg q)), sl (ofN (lg q).natAbs), .int .i64 (qv q)]
def dof (m e : Int) : Dyadic := Dyadic.ofIntWithPrec m (-e)
theorem ag2 (q : Dyadic) : dof (lg q) (qv q) = q := by
 cases q with
 | zero => rfl
 | ofOdd n k h => simp only [dof, lg, qv, Int.neg_neg]; exact Dyadic.ofOdd_eq_ofIntWithPrec.symm
theorem rz (m e : Int) : (dof m e).toRat = m * 2 ^ e := by
 unfold dof; rw [Dyadic.toRat_ofIntWithPrec_eq_mul_two_pow, Int.neg_neg]
theorem ua (m e : Int) (k : Nat) : dof (m * 2 ^ k) e = dof m (e + k) := by
 have h := Dyadic.ofIntWithPrec_shiftLeft_add (x := m) (i := -(e + k)) (n := k)
 rw [Int.shiftLeft_eq] at h
 unfold dof
 rw [← h, show -(e + (k : Int)) + k = -e by omega]
theorem ajc (m n e : Int) : dof m e + dof n e = dof (m + n) e := by
 rw [← Dyadic.toRat_inj, Dyadic.toRat_add, rz, rz, rz, Rat.intCast_add, Rat.add_mul]
theorem ajd {s e : Int} (h : s % 2 = 1) : dof s e = .ofOdd s (-e) h := Dyadic.ofOdd_eq_ofIntWithPrec.symm
theorem akq {m : Int} (h : m ≠ 0) : ∃ s : Int, s % 2 = 1 ∧ m = s * 2 ^ tzn m.natAbs := by
 obtain ⟨k, hk, he⟩ := yq m.natAbs (by omega)
 rcases Int.natAbs_eq m with h1 | h1
 ·refine ⟨k, by omega, ?_⟩
  have : ((m.natAbs : Nat) : Int) = ((2 ^ tzn m.natAbs * k : Nat) : Int) := congrArg _ he
  rw [h1, Int.natAbs_natCast, this, Int.natCast_mul, Int.natCast_pow, Int.mul_comm]; rfl
 ·refine ⟨-k, by omega, ?_⟩
  have : ((m.natAbs : Nat) : Int) = ((2 ^ tzn m.natAbs * k : Nat) : Int) := congrArg _ he
  rw [h1, Int.natAbs_neg, Int.natAbs_natCast, this, Int.natCast_mul, Int.natCast_pow, Int.mul_comm, Int.neg_mul]; rfl
theorem afj {m : Int} (e : Int) (h : m ≠ 0) : dm (lg (dof m e)) = dm m ∧ (lg (dof m e)).natAbs = m.natAbs / 2 ^ tzn m.natAbs ∧ qv (dof m e) = e + tzn m.natAbs := by
 obtain ⟨s, hs, hm⟩ := akq h
 have h1 : dof m e = .ofOdd s (-(e + tzn m.natAbs)) hs := by
  rw [← ajd hs, ← ua, ← hm]
 have hp : (0 : Int) < 2 ^ tzn m.natAbs := Int.pow_pos (by decide)
 rw [h1]
 refine ⟨?_, ?_, ?_⟩
 ·simp only [lg, dm]
  conv => rhs; rw [hm]
  refine decide_eq_decide.2 ?_
  constructor
  ·intro h; exact Int.mul_neg_of_neg_of_pos h hp
  ·intro h
   rcases Int.lt_or_le s 0 with h2 | h2
   ·exact h2
   ·have := Int.mul_nonneg h2 (Int.le_of_lt hp); omega
 ·simp only [lg]
  have h2 : m.natAbs = s.natAbs * 2 ^ tzn m.natAbs := by
   have := congrArg Int.natAbs hm
   rw [Int.natAbs_mul, Int.natAbs_pow] at this
   exact this
  generalize tzn m.natAbs = t at h2
  rw [h2, Nat.mul_div_cancel _ (Nat.pow_pos (by decide))]
 ·simp only [qv, Int.neg_neg]
def dsg (q : Dyadic) : Int := Int.sign (lg q)
def Ht (h : Nat) (q : Dyadic) : Prop := ∃ n : Int, Zt (2 * h) n ∧ q = dof n (-h)
theorem Ht.mono {a b : Nat} {q : Dyadic} (h : Ht a q) (hab : a ≤ b) : Ht b q := by
 obtain ⟨n, h1, rfl⟩ := h
 refine ⟨n * 2 ^ (b - a), h1.shl (by omega), ?_⟩
 rw [ua]; congr 1; omega
theorem Ht.add {a b c : Nat} {p q : Dyadic} (hp : Ht a p) (hq : Ht b q) (h : max a b < c) : Ht c (p + q) := by
 obtain ⟨m, h1, rfl⟩ := hp.mono (show a ≤ max a b by omega)
 obtain ⟨n, h2, rfl⟩ := hq.mono (show b ≤ max a b by omega)
 refine Ht.mono (a := max a b + 1) ?_ (by omega)
 refine ⟨(m + n) * 2 ^ 1, ?_, ?_⟩
 ·exact (h1.add h2 (c := 2 * max a b + 1) (by omega)).shl (by omega)
 ·rw [ajc, ua]; congr 1; omega
theorem Ht.dof {a b h : Nat} {m e : Int} (hm : Zt a m) (h1 : -b ≤ e) (h2 : e ≤ b) (hab : a + b ≤ h) : Ht h (dof m e) := by
 refine ⟨m * 2 ^ (e + h).toNat, hm.shl (by omega), ?_⟩
 rw [ua]; congr 1; omega
theorem Ht.zero (h : Nat) : Ht h 0 := ⟨0, Nat.pow_pos (by decide), rfl⟩
theorem Ht.parts {h : Nat} {q : Dyadic} (hq : Ht h q) : Zt (2 * h) (lg q) ∧ -(h : Int) ≤ qv q ∧ qv q ≤ h := by
 obtain ⟨n, h1, rfl⟩ := hq
 by_cases h0 : n = 0
 ·subst h0; exact ⟨Nat.pow_pos (by decide), by show -(h : Int) ≤ 0; omega, by show (0 : Int) ≤ h; omega⟩
 ·obtain ⟨_, h2, h3⟩ := afj (-h : Int) h0
  have h4 : tzn n.natAbs < 2 * h := amc (by omega) h1
  refine ⟨?_, by omega, by omega⟩
  unfold Zt
  rw [h2]
  exact Nat.lt_of_le_of_lt (Nat.div_le_self _ _) h1
theorem Ht.one : Ht 1 1 := ⟨2, Nat.lt_of_lt_of_le (show Int.natAbs 2 < 4 by decide) (by decide), rfl⟩
inductive DyR : D → Dyadic → Prop where
 | mk (b : Bool) (l : List UInt32) (e : Int) (hl : l.length ≤ 65536) (h1 : -1048576 ≤ e) (h2 : e ≤ 1048576) (hq : Ht 1048576 (dof (zv b l) e)) : DyR (.agg [.bool b, sl l, .int .i64 e]) (dof (zv b l) e)
theorem DyR.of {q : Dyadic} (h : Ht 1048576 q) : DyR (dyD q) q := by
 obtain ⟨h1, h2, h3⟩ := h.parts
 have h4 := DyR.mk (dm (lg q)) (ofN (lg q).natAbs) (qv q) (h1.len (by decide)) (by omega) (by omega)
 rw [ae8, ag2] at h4
 exact h4 h
theorem DyR.ht {x : D} {q : Dyadic} (h : DyR x q) : Ht 1048576 q := by cases h; assumption
theorem DyR.parts {x : D} {q : Dyadic} (h : DyR x q) : Zt 2097152 (lg q) ∧ -1048576 ≤ qv q ∧ qv q ≤ 1048576 := h.ht.parts
attribute [irreducible] Zt
end Go.Ev

namespace Go.Ev
open Go
inductive Sh where
 | bool
 | int (k : IntKind)
 | str
 | slice (e : Sh)
 | struct (fs : List Sh)
mutual
def Sh.size : Sh → Nat
 | .struct fs => Sh.tj fs
 | _ => 1
def Sh.tj : List Sh → Nat
 | [] => 0
 | f :: fs => f.size + Sh.tj fs
end
mutual
def Sh.has : Sh → List D → Prop
 | .bool, ds => ∃ b, ds = [.bool b]
 | .int k, ds => ∃ n, ds = [.int k n] ∧ k.min ≤ n ∧ n ≤ k.max
 | .str, ds => ∃ s : ByteArray, ds = [.str s] ∧ s.size ≤ maxLen
 | .slice e, ds => ∃ n ls, ds = [.slice n (List.flatten ls)] ∧ ls.length = n ∧ n ≤ maxLen ∧ ∀ l ∈ ls, e.has l
 | .struct fs, ds => Sh.hasAll fs ds
def Sh.hasAll : List Sh → List D → Prop
 | [], ds => ds = []
 | f :: fs, ds => ∃ a b, ds = a ++ b ∧ f.has a ∧ Sh.hasAll fs b
end
mutual
def Sh.chk (P : Program) : Sh → TypeId → Bool
 | .bool, t => match P.underlying t with | some .bool => true | _ => false
 | .int k, t => match P.underlying t with | some (.int k') => k == k' | _ => false
 | .str, t => match P.underlying t with | some .string => true | _ => false
 | .slice e, t => match P.underlying t with | some (.slice t') => P.cellsOf t' == e.size && e.size != 0 && e.chk P t' | _ => false
 | .struct fs, t => match P.underlying t with | some (.struct l) => P.cellsOf t == Sh.tj fs && Sh.rr P fs 0 l.toList | _ => false
def Sh.rr (P : Program) : List Sh → Nat → List Field → Bool
 | [], _, [] => true
 | s :: ss, o, f :: fs => f.offset == o && P.cellsOf f.type == s.size && s.chk P f.type && Sh.rr P ss (o + s.size) fs
 | _, _, _ => false
end
def ja (w : World) : Imm := fun k _ => k < w.heap.size
section
variable {H : Type} {enc : TypeId × Value → H} {P : Program} {w : World} {base : Nat} {spare : Nat → Bool} {held : Bool}
theorem mapM_some {α β : Type} {f : α → Option β} : ∀ {l : List α} {r : List β}, l.mapM f = some r → r.length = l.length ∧ ∀ (i : Nat) (a : α), l[i]? = some a → ∃ b, r[i]? = some b ∧ f a = some b
 | _, _, h => ⟨Lib.mapM_length h, fun i a ha => Lib.mapM_at h i a ha⟩
theorem um {S : Imm} : ∀ {xs ys : List D} {us vs : List Value}, DRs S w xs us → DRs S w ys vs → DRs S w (xs ++ ys) (us ++ vs)
 | [], ys, us, vs, h1, h2 => by simp only [DRs] at h1; subst h1; simpa using h2
 | x :: xs, ys, us, vs, h1, h2 => by
  simp only [DRs] at h1
  obtain ⟨u, us', rfl, h3, h4⟩ := h1
  exact ⟨u, us' ++ vs, rfl, h3, um h4 h2⟩
theorem uk {S : Imm} {b : Nat} : ∀ {xs ys : List D} {o : Nat}, DRL S w b o xs → DRL S w b (o + xs.length) ys → DRL S w b o (xs ++ ys)
 | [], ys, o, _, h2 => by simpa using h2
 | x :: xs, ys, o, h1, h2 => by
  simp only [DRL] at h1
  simp only [List.cons_append, DRL]
  refine ⟨h1.1, h1.2.1, uk h1.2.2 ?_⟩
  rw [List.length_cons] at h2
  rwa [show o + 1 + xs.length = o + (xs.length + 1) by omega]
theorem cells_of_cells? {a : Addr} {n : Nat} {vs : List Value} (h : w.cells? base a n = some vs) : vs.length = n ∧ ∀ j, j < n → w.cell? (a.add j) = vs[j]? := by
 unfold World.cells? at h
 split at h
 ·obtain ⟨h1, h2⟩ := mapM_some h
  simp only [List.length_range] at h1
  refine ⟨h1, fun j hj => ?_⟩
  obtain ⟨b, hb, hf⟩ := h2 j j (by simp [hj])
  rw [hb, hf]
 ·cases h
theorem fi {a : Addr} {v : Value} (h : w.cell? a = some v) : a.spot = none ∧ a.block < w.heap.size := by
 unfold World.cell? at h
 split at h
 ·rename_i c _ _ hc
  refine ⟨?_, (Array.getElem?_eq_some_iff.1 hc).1⟩
  split at h
  ·cases h
  ·rename_i hs; simpa using hs
 ·cases h
theorem yy {a : Addr} {n : Nat} {vs : List Value} {ds : List D} (hs : a.spot = none) (h : w.cells? base a n = some vs) (hd : DRs (ja w) w ds vs) : DRL (ja w) w a.block a.off ds := by
 obtain ⟨h1, h2⟩ := cells_of_cells? h
 have hl := c8 hd
 refine ik fun j x hj => ?_
 obtain ⟨u, hu, hR⟩ := fw hd hj
 have hjn : j < n := by have := (List.getElem?_eq_some_iff.1 hu).1; omega
 have hc := h2 j hjn
 rw [hu] at hc
 have ha : a.add j = ⟨a.block, a.off + j, none⟩ := by
  obtain ⟨b, o, s⟩ := a
  simp only at hs; subst hs
  exact dh b o j
 rw [ha] at hc
 exact ⟨(fi hc).2, u, hc, hR⟩
mutual
theorem Sh.zh : ∀ {s : Sh} {ds : List D}, s.has ds → ds.length = s.size
 | .bool, ds, h => by obtain ⟨b, rfl⟩ := h; rfl
 | .int k, ds, h => by obtain ⟨n, rfl, _⟩ := h; rfl
 | .str, ds, h => by obtain ⟨n, rfl, _⟩ := h; rfl
 | .slice e, ds, h => by obtain ⟨n, ls, rfl, _⟩ := h; rfl
 | .struct fs, ds, h => by simp only [Sh.has] at h; simp only [Sh.size]; exact Sh.vp h
theorem Sh.vp : ∀ {fs : List Sh} {ds : List D}, Sh.hasAll fs ds → ds.length = Sh.tj fs
 | [], ds, h => by simp only [Sh.hasAll] at h; subst h; rfl
 | f :: fs, ds, h => by
  simp only [Sh.hasAll] at h
  obtain ⟨a, b, rfl, h1, h2⟩ := h
  simp only [List.length_append, Sh.tj, Sh.zh h1, Sh.vp h2]
end
theorem aaj {S : Imm} {b : Nat} {n : Nat} : ∀ {ls : List (List D)} {o : Nat}, (∀ l ∈ ls, l.length = n) → (∀ j l, ls[j]? = some l → DRL S w b (o + j * n) l) → DRL S w b o ls.flatten
 | [], o, _, _ => by simp [DRL]
 | l :: ls, o, h1, h2 => by
  rw [List.flatten_cons]
  refine uk (by have := h2 0 l rfl; simpa using this) (aaj (fun l hl => h1 l (by simp [hl])) fun j l' hj => ?_)
  have := h2 (j + 1) l' (by simpa using hj)
  rw [h1 l (by simp)]
  rwa [show o + n + j * n = o + (j + 1) * n by rw [Nat.add_mul]; omega]
theorem sw {α β : Type} {R : α → β → Prop} : ∀ {l : List α}, (∀ a ∈ l, ∃ b, R a b) → ∃ bs : List β, bs.length = l.length ∧ ∀ (j : Nat) (a : α) (b : β), l[j]? = some a → bs[j]? = some b → R a b
 | [], _ => ⟨[], rfl, by simp⟩
 | a :: l, h => by
  obtain ⟨b, hb⟩ := h a (by simp)
  obtain ⟨bs, h1, h2⟩ := sw (l := l) fun a ha => h a (by simp [ha])
  refine ⟨b :: bs, by simp [h1], fun j a' b' ha hb' => ?_⟩
  cases j with
  | zero => simp at ha hb'; subst ha; subst hb'; exact hb
  | succ j => exact h2 j a' b' (by simpa using ha) (by simpa using hb')
theorem ahl {fuel : Nat} {t : TypeId} {cs : List Value} {d : DataW H} {ps : List MemPlace} (hu : P.underlying t = some .bool) (h : DataW.trod enc P w 0 spare held fuel t cs = some (d, ps)) : ∃ b, cs = [.bool b] := by
 cases fuel with
 | zero => simp [DataW.trod] at h
 | succ fuel =>
  simp only [DataW.trod, hu] at h
  split at h <;> simp_all
theorem ajx {k : IntKind} {fuel : Nat} {t : TypeId} {cs : List Value} {d : DataW H} {ps : List MemPlace} (hu : P.underlying t = some (.int k)) (h : DataW.trod enc P w 0 spare held fuel t cs = some (d, ps)) : ∃ n, cs = [.int k n] ∧ k.min ≤ n ∧ n ≤ k.max := by
 cases fuel with
 | zero => simp [DataW.trod] at h
 | succ fuel =>
  simp only [DataW.trod, hu] at h
  split at h <;> simp_all
  simpa [Lit.wf] using h.1.2
theorem ajy {fuel : Nat} {t : TypeId} {cs : List Value} {d : DataW H} {ps : List MemPlace} (hu : P.underlying t = some .string) (h : DataW.trod enc P w 0 spare held fuel t cs = some (d, ps)) : ∃ s : ByteArray, cs = [.string s] ∧ s.size ≤ maxLen := by
 cases fuel with
 | zero => simp [DataW.trod] at h
 | succ fuel =>
  simp only [DataW.trod, hu] at h
  split at h <;> simp_all
mutual
theorem Sh.zu : ∀ (s : Sh) {fuel : Nat} {t : TypeId} {cs : List Value} {d : DataW H} {ps : List MemPlace}, s.chk P t = true → DataW.trod enc P w 0 spare held fuel t cs = some (d, ps) →
  ∃ ds, s.has ds ∧ DRs (ja w) w ds cs
 | .bool, fuel, t, cs, d, ps, hc, h => by
  simp only [Sh.chk] at hc
  split at hc
  ·rename_i hu
   obtain ⟨b, rfl⟩ := ahl hu h
   exact ⟨[.bool b], ⟨b, rfl⟩, by simp [DRs, DR]⟩
  ·cases hc
 | .int k, fuel, t, cs, d, ps, hc, h => by
  simp only [Sh.chk] at hc
  split at hc
  ·rename_i k' hu
   simp only [beq_iff_eq] at hc
   subst hc
   obtain ⟨n, rfl, h1, h2⟩ := ajx hu h
   exact ⟨[.int _ n], ⟨n, rfl, h1, h2⟩, by simp [DRs, DR]⟩
  ·cases hc
 | .str, fuel, t, cs, d, ps, hc, h => by
  simp only [Sh.chk] at hc
  split at hc
  ·rename_i hu
   obtain ⟨s, rfl, h1⟩ := ajy hu h
   exact ⟨[.str s], ⟨s, rfl, h1⟩, by simp [DRs, DR]⟩
  ·cases hc
 | .slice e, fuel, t, cs, d, ps, hc, h => by
  simp only [Sh.chk] at hc
  split at hc
  ·rename_i t' hu
   simp only [Bool.and_eq_true, beq_iff_eq, bne_iff_ne] at hc
   obtain ⟨⟨h1, h2⟩, h3⟩ := hc
   rcases Deep.open_slice hu h with ⟨rfl, _⟩ | ⟨a, len, cap, m, n, D, Pl, rfl, _, hl, hcap, hm, _, hel⟩
   ·refine ⟨[.slice 0 []], ⟨0, [], by simp⟩, ?_⟩
    simp [DRs, DR]
   ·have hlm : len ≤ m := by rw [hm]; split <;> omega
    rw [h1] at hel
    have hp : ∀ i ∈ List.range len, ∃ ds, e.has ds ∧ (a.spot = none → DRL (ja w) w a.block (a.off + i * e.size) ds) ∧ (i = 0 → a.spot = none) := by
     intro i hi
     have hi : i < len := by simpa using hi
     obtain ⟨cs', hc1, hc2⟩ := hel i (by omega)
     obtain ⟨ds, hd1, hd2⟩ := Sh.zu e h3 hc2
     refine ⟨ds, hd1, fun hs => ?_, fun hi0 => ?_⟩
     ·have ha : a.add (i * e.size) = ⟨a.block, a.off + i * e.size, none⟩ := by
       obtain ⟨b, o, s⟩ := a
       simp only at hs; subst hs
       exact dh b o _
      rw [ha] at hc1
      exact yy (a := ⟨a.block, a.off + i * e.size, none⟩) rfl hc1 hd2
     ·subst hi0
      obtain ⟨_, hc3⟩ := cells_of_cells? hc1
      have hc3 := hc3 0 (by omega)
      have hlen := c8 hd2
      have hel := Sh.zh hd1
      cases cs' with
      | nil => simp at hlen; omega
      | cons u us =>
       simp only [Nat.zero_mul, List.getElem?_cons_zero] at hc3
       exact (fi hc3).1
    obtain ⟨ls, hls, hR⟩ := sw hp
    simp only [List.length_range] at hls
    have hR : ∀ (j : Nat) (l : List Go.Ev.D), ls[j]? = some l → e.has l ∧ (a.spot = none → DRL (ja w) w a.block (a.off + j * e.size) l) ∧ (j = 0 → a.spot = none) := fun j l hj => by
     have hjl : j < len := by rw [← hls]; exact (List.getElem?_eq_some_iff.1 hj).1
     exact hR j j l (by simp [hjl]) hj
    refine ⟨[.slice len ls.flatten], ⟨len, ls, rfl, hls, by omega, fun l hl => ?_⟩, ?_⟩
    ·obtain ⟨j, hj⟩ := List.mem_iff_getElem?.1 hl
     exact (hR j l hj).1
    ·refine ⟨_, [], rfl, ?_, rfl⟩
     simp only [DR]
     refine ⟨some a, cap, rfl, hl, ?_⟩
     cases ls with
     | nil => exact .inl rfl
     | cons l0 ls =>
      have hs : a.spot = none := (hR 0 l0 rfl).2.2 rfl
      refine .inr ⟨a.block, a.off, ?_, aaj (n := e.size) (fun l hl => ?_) (fun j l hj => (hR j l hj).2.1 hs)⟩
      ·obtain ⟨b, o, s⟩ := a
       simp only at hs; subst hs; rfl
      ·obtain ⟨j, hj⟩ := List.mem_iff_getElem?.1 hl
       exact Sh.zh (hR j l hj).1
  ·cases hc
 | .struct fs, fuel, t, cs, d, ps, hc, h => by
  simp only [Sh.chk] at hc
  split at hc
  ·rename_i l hu
   simp only [Bool.and_eq_true, beq_iff_eq] at hc
   obtain ⟨xs, n, _, _, hl, hlen, hf⟩ := DataW.trod_struct hu h
   simp only [Sh.has]
   refine Sh.abj fs (n := n) (o := 0) hc.2 (fun i f hi => ?_) (by rw [hl, hc.1]; omega) |>.imp fun ds hd => by simpa using hd
   have hi2 : i < xs.length := by rw [hlen]; simpa using (List.getElem?_eq_some_iff.1 hi).1
   have := hf i f (by simpa using hi)
   exact ⟨xs[i], by rw [this, List.getElem?_eq_getElem hi2]⟩
  ·cases hc
theorem Sh.abj : ∀ (ss : List Sh) {n o : Nat} {fs : List Field} {cs : List Value}, Sh.rr P ss o fs = true →
  (∀ (i : Nat) (f : Field), fs[i]? = some f → ∃ x, DataW.trod enc P w 0 spare held n f.type ((cs.drop f.offset).take (P.cellsOf f.type)) = some x) → o + Sh.tj ss = cs.length →
  ∃ ds, Sh.hasAll ss ds ∧ DRs (ja w) w ds (cs.drop o)
 | [], n, o, [], cs, _, _, hl => ⟨[], rfl, by simp only [DRs]; simp only [Sh.tj] at hl; exact List.drop_eq_nil_of_le (by omega)⟩
 | s :: ss, n, o, f :: fs, cs, hc, hf, hl => by
  simp only [Sh.rr, Bool.and_eq_true, beq_iff_eq] at hc
  obtain ⟨⟨⟨h1, h2⟩, h3⟩, h4⟩ := hc
  obtain ⟨⟨d, ps⟩, hx⟩ := hf 0 f rfl
  obtain ⟨ds, hd1, hd2⟩ := Sh.zu s h3 hx
  simp only [Sh.tj] at hl
  obtain ⟨es, he1, he2⟩ := Sh.abj ss (n := n) h4 (fun i f hi => hf (i + 1) f (by simpa using hi)) (by omega)
  refine ⟨ds ++ es, ⟨ds, es, rfl, hd1, he1⟩, ?_⟩
  rw [h1, h2] at hd2
  have e : cs.drop o = (cs.drop o).take s.size ++ cs.drop (o + s.size) := by
   rw [← List.drop_drop, List.take_append_drop]
  rw [e]
  exact um hd2 he2
 | [], n, o, _ :: _, cs, hc, _, _ => by simp [Sh.rr] at hc
 | _ :: _, n, o, [], cs, hc, _, _ => by simp [Sh.rr] at hc
end
end
end Go.Ev

namespace Go.Ev
open Go
abbrev Cq := Dyadic × Dyadic
def cxD (z : Cq) : D := .agg [.bool (dm (lg z.1)), sl (ofN (lg z.1).natAbs), .int .i64 (qv z.1), .bool (dm (lg z.2)), sl (ofN (lg z.2).natAbs), .int .i64 (qv z.2)]
inductive CxR : D → Cq → Prop where
 | mk {b : Bool} {l : List UInt32} {e : Int} {c : Bool} {k : List UInt32} {f : Int} {p q : Dyadic} (hp : DyR (.agg [.bool b, sl l, .int .i64 e]) p) (hq : DyR (.agg [.bool c, sl k, .int .i64 f]) q) :
  CxR (.agg [.bool b, sl l, .int .i64 e, .bool c, sl k, .int .i64 f]) (p, q)
def Hc (h : Nat) (z : Cq) : Prop := Ht h z.1 ∧ Ht h z.2
theorem Hc.mono {a b : Nat} {z : Cq} (h : Hc a z) (hab : a ≤ b) : Hc b z := ⟨h.1.mono hab, h.2.mono hab⟩
theorem CxR.of {z : Cq} (h : Hc 1048576 z) : CxR (cxD z) z := .mk (.of h.1) (.of h.2)
theorem CxR.hc {x : D} {z : Cq} (h : CxR x z) : Hc 1048576 z := by cases h with | mk hp hq => exact ⟨hp.ht, hq.ht⟩
def ak8 (z : Cq) : Int := if 0 < z.1 ∧ 0 ≤ z.2 then 0 else if 0 < z.2 ∧ z.1 ≤ 0 then 1 else if z.1 < 0 ∧ z.2 ≤ 0 then 2 else if z.2 < 0 ∧ 0 ≤ z.1 then 3 else -1
def amk (a b : Cq) : Dyadic := a.1 * b.2 - a.2 * b.1
def am0 (x y s : Int) : Int × Bool := if x < 0 ∨ y < 0 then (0, false) else if (y - x + 4) % 4 = 3 then (-1, true) else if (y - x + 4) % 4 = 2 then (2 * s, decide (s ≠ 0)) else ((y - x + 4) % 4, true)
def am7 (a b : Cq) : Int × Bool := am0 (ak8 a) (ak8 b) (dsg (amk a b))
structure RC where
 b : Bool
 l : List UInt32
 e : Int
 c : Bool
 k : List UInt32
 f : Int
def RC.cells (r : RC) : List D := [.bool r.b, sl r.l, .int .i64 r.e, .bool r.c, sl r.k, .int .i64 r.f]
def RC.val (r : RC) : Cq := (dof (zv r.b r.l) r.e, dof (zv r.c r.k) r.f)
def RC.nil : RC := ⟨false, [], 0, false, [], 0⟩
def aje (n : Nat) (b : Int) (l : List UInt32) (e : Int) : Bool := decide (l.length ≤ n) && decide (-b ≤ e) && decide (e ≤ b)
def RC.few (n : Nat) (b : Int) (r : RC) : Bool := aje n b r.l r.e && aje n b r.k r.f
theorem ag8 {n : Nat} {b : Int} {l : List UInt32} {e : Int} : aje n b l e = true ↔ l.length ≤ n ∧ -b ≤ e ∧ e ≤ b := by
 simp only [aje, Bool.and_eq_true, decide_eq_true_eq, and_assoc]
theorem RC.aef {n : Nat} {b : Int} {r : RC} : r.few n b = true ↔ (r.l.length ≤ n ∧ -b ≤ r.e ∧ r.e ≤ b) ∧ (r.k.length ≤ n ∧ -b ≤ r.f ∧ r.f ≤ b) := by
 simp only [RC.few, Bool.and_eq_true, ag8]
theorem ahi {c : Bool} {n : Nat} {b : Nat} {l : List UInt32} {e : Int} (h : l.length ≤ n ∧ -(b : Int) ≤ e ∧ e ≤ b) : Ht (32 * n + b) (dof (zv c l) e) :=
 Ht.dof (a := 32 * n) (b := b) (Zt.adk h.1 (Nat.le_refl _)) h.2.1 h.2.2 (Nat.le_refl _)
theorem RC.hc {n : Nat} (b k : Nat) {B : Int} (hB : B = b) (hk : 32 * n + b ≤ k) {r : RC} (h : r.few n B = true) : Hc k r.val := by
 subst hB; refine Hc.mono ?_ hk; exact ⟨ahi (RC.aef.1 h).1, ahi (RC.aef.1 h).2⟩
def RC.of (z : Cq) : RC := ⟨dm (lg z.1), ofN (lg z.1).natAbs, qv z.1, dm (lg z.2), ofN (lg z.2).natAbs, qv z.2⟩
end Go.Ev

namespace Go.Ev
open Go Go.RowKit Go.ChangeShapes
def Sh.arg : Sh → List D → D
 | .struct _, ds => .agg ds
 | _, ds => ds.headD .any
def xk (s : Sh) (x : D) : Prop := ∃ ds, s.has ds ∧ x = s.arg ds
def ab7 : List Sh → List D → Prop
 | [], xs => xs = []
 | s :: ss, xs => ∃ y ys, xs = y :: ys ∧ xk s y ∧ ab7 ss ys
def Sh.ru (P : Program) : List Sh → List TypeId → Bool
 | [], [] => true
 | s :: ss, t :: ts => s.chk P t && Sh.ru P ss ts
 | _, _ => false
section
variable {H : Type} {enc : TypeId × Value → H} {P : Program} {w : World}
theorem Sh.ahy {s : Sh} {ds : List D} (hs : ∀ fs, s ≠ .struct fs) (h : s.has ds) : ∃ x, ds = [x] := by
 cases s with
 | struct fs => exact absurd rfl (hs fs)
 | bool => obtain ⟨b, rfl⟩ := h; exact ⟨_, rfl⟩
 | int k => obtain ⟨n, rfl, _⟩ := h; exact ⟨_, rfl⟩
 | str => obtain ⟨n, rfl, _⟩ := h; exact ⟨_, rfl⟩
 | slice e => obtain ⟨n, ls, rfl, _⟩ := h; exact ⟨_, rfl⟩
theorem ags {n : Nat} {s : Sh} {t : TypeId} {v : Value} {d : DataW H} {ps : List MemPlace} (hc : s.chk P t = true) (ht : DataW.Trod enc P w 0 (fun _ => true) true t v d ps) (hv : Value.okWide P w .any n t v) : ∃ x, xk s x ∧ DR (ja w) w x v := by
 obtain ⟨fuel, h⟩ := ht
 obtain ⟨ds, hd, hR⟩ := s.zu hc h
 refine ⟨_, ⟨ds, hd, rfl⟩, ?_⟩
 cases s with
 | struct fs =>
  simp only [Sh.chk] at hc
  split at hc
  ·rename_i l hu
   simp only [Value.okWide, hu] at hv
   obtain ⟨cs, rfl, _⟩ := hv
   simp only [Sh.arg, DR]
   exact ⟨cs, rfl, hR⟩
  ·cases hc
 | _ =>
  obtain ⟨x, rfl⟩ := Sh.ahy (fun _ => Sh.noConfusion) hd
  simp only [DRs] at hR
  obtain ⟨u, us, hu, hx, rfl⟩ := hR
  simp only [Sh.arg, List.headD_cons]
  cases v with
  | agg cs =>
   exfalso
   simp only [Sh.chk] at hc
   split at hc <;> simp_all [Value.okWide, Cell.okWide, Cell.ok]
  | _ => simp [Value.cells] at hu; subst hu; exact hx
theorem xn {n : Nat} : ∀ {ss : List Sh} {ts : List TypeId} {vs : List Value} {ds : List (DataW H)} {ps : List MemPlace}, Sh.ru P ss ts = true → DataW.TrodAll enc P w 0 (fun _ => true) true ts vs ds ps →
  (∀ (j : Nat) (t : TypeId) (v : Value), ts[j]? = some t → vs[j]? = some v → Value.okWide P w .any n t v) → ∃ xs, ab7 ss xs ∧ DRs (ja w) w xs vs
 | [], [], [], ds, ps, _, h, _ => ⟨[], rfl, rfl⟩
 | s :: ss, t :: ts, v :: vs, [], ps, hc, h, hv => by simp [DataW.TrodAll] at h
 | s :: ss, t :: ts, v :: vs, d :: ds, ps, hc, h, hv => by
  simp only [Sh.ru, Bool.and_eq_true] at hc
  obtain ⟨p, q, h1, h2, _⟩ := h
  obtain ⟨x, hx, hR⟩ := ags hc.1 h1 (hv 0 t v rfl rfl)
  obtain ⟨xs, hxs, hRs⟩ := xn hc.2 h2 fun j t v hj hj' => hv (j + 1) t v (by simpa using hj) (by simpa using hj')
  exact ⟨x :: xs, ⟨x, xs, rfl, hx, hxs⟩, ⟨v, vs, rfl, hR, hRs⟩⟩
 | [], [], _ :: _, ds, ps, _, h, _ => by cases ds <;> simp [DataW.TrodAll] at h
 | [], _ :: _, vs, ds, ps, hc, h, _ => by simp [Sh.ru] at hc
 | _ :: _, [], vs, ds, ps, hc, h, _ => by simp [Sh.ru] at hc
 | _ :: _, _ :: _, [], ds, ps, hc, h, _ => by cases ds <;> simp [DataW.TrodAll] at h
theorem tl : ∀ {ts : List TypeId} {vs : List Value} {ds : List (DataW H)} {ps : List MemPlace}, DataW.TrodAll enc P w 0 (fun _ => true) true ts vs ds ps → ds.length = ts.length
 | [], [], [], ps, h => rfl
 | t :: ts, v :: vs, d :: ds, ps, h => by obtain ⟨p, q, h1, h2, _⟩ := h; simp [tl h2]
 | [], [], _ :: _, ps, h => by simp [DataW.TrodAll] at h
 | [], _ :: _, ds, ps, h => by cases ds <;> simp [DataW.TrodAll] at h
 | _ :: _, [], ds, ps, h => by cases ds <;> simp [DataW.TrodAll] at h
 | _ :: _, _ :: _, [], ps, h => by simp [DataW.TrodAll] at h
def ue (P : Program) (ts : List TypeId) : Bool := ts.all fun t => P.readableRec t && decide (t < P.types.size)
theorem pr (hl : laidOutB P = true) {W W' : World} {sp : Nat → Bool} (hb : Below W.heap.size W W') : ∀ {ts : List TypeId} {vs : List Value} {ds : List (DataW H)} {ps : List MemPlace}, ue P ts = true →
  DataW.TrodAll enc P W 0 (fun _ => true) true ts vs ds ps → (∀ x ∈ ps, x.block < W.heap.size) → (∀ x ∈ ps, sp x.block = true) → DataW.TrodAll enc P W' 0 sp true ts vs ds ps
 | [], [], [], ps, _, h, _, _ => h
 | t :: ts, v :: vs, d :: ds, ps, hr, h, hlt, hs => by
  simp only [ue, List.all_cons, Bool.and_eq_true, decide_eq_true_eq] at hr
  obtain ⟨p, q, h1, h2, rfl⟩ := h
  exact ⟨p, q, WideElems.Trod_stays hl hr.1.1 hr.1.2 h1 (fun x hx => hb.same (hlt x (by simp [hx]))) (fun x hx => hs x (by simp [hx])), pr hl hb (by simpa [ue] using hr.2) h2 (fun x hx => hlt x (by simp [hx])) (fun x hx => hs x (by simp [hx])), rfl⟩
 | [], [], _ :: _, ps, _, h, _, _ => by simp [DataW.TrodAll] at h
 | [], _ :: _, ds, ps, _, h, _, _ => by cases ds <;> simp [DataW.TrodAll] at h
 | _ :: _, [], ds, ps, _, h, _, _ => by cases ds <;> simp [DataW.TrodAll] at h
 | _ :: _, _ :: _, [], ps, _, h, _, _ => by simp [DataW.TrodAll] at h
theorem adq {f : Func} {s : ChangeSpec} {W W' : World} {args : Array Value} {v : Value} {ds gs : List (DataW H)} {before pa pv : List MemPlace}
    (hW : DataW.Whole enc P f.params.toList s.vars false W args.toList ds gs before)
    (hres : ∀ (b : Nat) (sp : Nat → Bool) (hd : Bool), DataW.TrodAll enc P W' b sp hd f.resultTypes.toList (v.resultList f.resultTypes.size) (s.fn H (ds ++ gs)).results [])
    (hargs : ∀ sp : Nat → Bool, (∀ p ∈ before, sp p.block = true) → DataW.TrodAll enc P W' 0 sp true f.params.toList args.toList (s.fn H (ds ++ gs)).args pa)
    (hvars : ∀ sp : Nat → Bool, (∀ p ∈ before, sp p.block = true) → DataW.TrodVars enc P W' sp s.vars (s.fn H (ds ++ gs)).vars pv)
    (hps : before = pa ++ pv) (hk : W.keptBut W' (· ∈ before)) (hfz : ∀ a : Addr, a.block < W.heap.size → W'.frozen? a = W.frozen? a)
    (hok : ∀ (j : Nat) (t : TypeId) (r : Value), f.resultTypes[j]? = some t → (v.resultList f.resultTypes.size)[j]? = some r → Value.okWide P W' .any 0 t r) :
    s.post enc P f false true false false W args v W' := by
  have hold : ∀ p ∈ before, (fun b => decide (b < W.heap.size)) p.block = true := fun p hp => by simpa using hW.lt p hp
  refine ⟨ds, gs, before, [], pa, pv, hW, hres _ _ _, hargs _ hold, hvars _ hold, World.keptBut_mono (fun p hp => ⟨hp, ?_⟩) hk, fun h => by cases h⟩
  rw [hps, List.mem_append] at hp
  exact Or.inr hp
theorem mo {G : bj} {f : FuncId} {fn : Func} {s : ChangeSpec} {tb : TypeId} (ts : List TypeId) (ss : List Sh) (hts : fn.params.toList = ts) (hrt : fn.resultTypes = #[tb]) (htb : P.underlying tb = some .bool) (hvars : s.vars = [])
  (hl : laidOutB P = true) (hchk : Sh.ru P ss ts = true) (hread : ue P ts = true) (hspec : ∀ ds : List (DataW H), ds.length = ts.length → s.fn H ds = { results := [.lit (.bool true)], args := ds })
  (hsim : ∀ xs, ab7 ss xs → Sim P G true f xs (.bool true)) {W : World} {base : Nat} {args : Array Value} {ds gs : List (DataW H)} {before : List MemPlace}
  (hG : ∀ g, DRL (ja W) W g 0 (G g))
  (hval : ∀ (j : Nat) (t : TypeId) (v : Value), fn.params[j]? = some t → args[j]? = some v → Value.okWide P W .any base t v)
  (hW : DataW.Whole enc P fn.params.toList s.vars false W args.toList ds gs before) :
  Calls P f args W fun e W' => ∃ v, e = .returned v ∧ s.post enc P fn false true false false W args v W' := by
 have hW' := hW
 obtain ⟨p, q, hA, hV, rfl, hfz, hnd⟩ := hW
 rw [hvars] at hV
 obtain ⟨rfl, rfl⟩ : gs = [] ∧ q = [] := by
  cases gs with
  | nil => exact ⟨rfl, hV⟩
  | cons _ _ => simp [DataW.TrodVars] at hV
 rw [hts] at hA
 have hlen := tl hA
 obtain ⟨xs, hxs, hR⟩ := xn (n := base) hchk hA (fun j t v hj hj' => hval j t v (by rw [← hts] at hj; simpa using hj) (by simpa using hj'))
 have hcall := (hsim xs hxs).run (ja W) W args.toList (fun k o h => h) hG hR
 rw [show args.toList.toArray = args by simp] at hcall
 refine hcall.mono ?_
 rintro e W' ⟨v, rfl, hbel, S', _, hv⟩
 simp only [DR] at hv
 subst hv
 refine ⟨_, rfl, ?_⟩
 have hsp := hspec ds hlen
 refine adq (pa := p) (pv := []) hW' (fun b sp hd => ?_) (fun sp hsp2 => ?_) (fun sp _ => ?_) (by simp) (hbel.frame _) (fun a ha => hbel.frozen ha) (ok_one hrt rfl (by simp [Value.okWide, htb, Cell.okWide, Cell.ok]))
 ·rw [List.append_nil, hsp, hrt]
  exact ⟨[], [], ⟨1, by simp [DataW.trod, htb, Value.cells]⟩, rfl, rfl⟩
 ·rw [List.append_nil, hsp, hts]
  exact pr hl hbel hread hA (fun x hx => hW'.lt x (by simp [hx])) (fun x hx => hsp2 x (by simp [hx]))
 ·rw [List.append_nil, hsp, hvars]
  rfl
end
abbrev aab : Sh := .slice (.int .u32)
abbrev aif : Sh := .struct [.bool, aab]
theorem age (n : Int) (h1 : IntKind.u32.min ≤ n) (h2 : n ≤ IntKind.u32.max) : 0 ≤ n ∧ n ≤ 4294967295 := by
 have e1 : IntKind.u32.min = 0 := by decide
 have e2 : IntKind.u32.max = 4294967295 := by decide
 omega
theorem yc : maxLen = 9223372036854775807 := by decide
theorem xv : ∀ {ls : List (List D)}, (∀ l ∈ ls, (Sh.int .u32).has l) → ∃ l : List UInt32, ls.flatten = ba l ∧ l.length = ls.length
 | [], _ => ⟨[], rfl, rfl⟩
 | x :: ls, h => by
  obtain ⟨l, h1, h2⟩ := xv (ls := ls) fun y hy => h y (by simp [hy])
  obtain ⟨n, rfl, h3, h4⟩ := h x (by simp)
  have h5 := age n h3 h4
  refine ⟨UInt32.ofNat n.toNat :: l, ?_, by simp [h2]⟩
  rw [List.flatten_cons, h1]
  simp only [ba, List.map_cons, List.singleton_append, UInt32.toNat_ofNat']
  congr 2; omega
theorem aa3 {ds : List D} (h : aab.has ds) : ∃ l : List UInt32, ds = [sl l] ∧ l.length ≤ maxLen := by
 obtain ⟨n, ls, rfl, h1, h2, h3⟩ := h
 obtain ⟨l, h4, h5⟩ := xv h3
 refine ⟨l, ?_, by omega⟩
 rw [h4]; unfold sl; rw [h5, h1]
theorem ajj {ds : List D} (h : aif.has ds) : ∃ b l, ds = [.bool b, sl l] ∧ l.length ≤ maxLen := by
 simp only [Sh.has, Sh.hasAll] at h
 obtain ⟨_, _, rfl, ⟨b, rfl⟩, _, _, rfl, h2, rfl⟩ := h
 obtain ⟨l, rfl, hl⟩ := aa3 h2
 exact ⟨b, l, rfl, hl⟩
theorem ai5 {x : D} (h : xk aif x) : ∃ b l, x = .agg [.bool b, sl l] ∧ l.length ≤ 9223372036854775807 := by
 obtain ⟨ds, h1, rfl⟩ := h
 obtain ⟨b, l, rfl, h2⟩ := ajj h1
 rw [yc] at h2
 exact ⟨b, l, rfl, h2⟩
theorem aeb {k : IntKind} {x : D} (h : xk (.int k) x) : ∃ n, x = .int k n ∧ k.min ≤ n ∧ n ≤ k.max := by
 obtain ⟨ds, ⟨n, rfl, h1⟩, rfl⟩ := h
 exact ⟨n, rfl, h1⟩
end Go.Ev

namespace Go.Ev
open Go
theorem Br.am3 {p : Prop} [Decidable p] {a b : Prop} (h : p) (ha : a) : Br (decide p) a b := Br.dec (fun _ => ha) (fun g => absurd h g)
theorem Br.am2 {p : Prop} [Decidable p] {a b : Prop} (h : ¬ p) (hb : b) : Br (decide p) a b := Br.dec (fun g => absurd g h) (fun _ => hb)
section
variable {α : Type} {f : α → List D} {k : Nat}
theorem vl (hf : ∀ x, (f x).length = k) : ∀ xs : List α, (xs.flatMap f).length = xs.length * k
 | [] => by simp
 | x :: xs => by rw [List.flatMap_cons, List.length_append, vl hf xs, List.length_cons, hf, Nat.add_mul]; omega
def fa (f : α → List D) (xs : List α) : List A := (xs.flatMap f).map A.d
theorem alk (hf : ∀ x, (f x).length = k) (xs : List α) : (fa f xs).length = xs.length * k := by unfold fa; rw [List.length_map, vl hf]
theorem aey (f : α → List D) (ρ : List (Nat × Nat)) (xs : List α) : A.lj ρ (fa f xs) = fa f xs := A.l5 ρ _
end
end Go.Ev

namespace Go.Ev
open Go
theorem rgE {T : Tab} {n : Nat} {ops : Array Oper} {d : Bool} {X : Prop} {b : List (Nat × Nat) → Prop} {c : Cfg → Prop} {z : List ab9 → Prop} (k : X) (h : wk T n ops d = true := by kernel_rfl) : ai3 (Cd (wk T n ops d = true) X) b c z := .early (Cd.mk h k)
theorem Cd.om {p q : Prop} (k : q) (h : p := by first | omega | (dsimp only; omega) | (simp only [jx, lx, Nat.mul_one, List.length_set, List.length_take, List.length_drop, List.length_replicate, List.length_append, Int.toNat_natCast]; omega) | (rw [lx, Nat.mul_one]) | (rw [jx, Nat.mul_one]) | (refine ⟨⟨Int.le_refl _, ?_⟩, ?_⟩ <;> first | omega | (rw [Int.toNat_zero]; omega)) | (simp only [jx, lx, Nat.mul_one, List.length_set, List.length_take, List.length_drop, List.length_replicate]; exact Nat.le_refl _)) : Cd p q := .mk h k
theorem Cd.os {p q : Prop} (k : q) (h : p := by first | omega | (simp only [jx, lx]; omega)) : Cd p q := .mk h k
theorem Cd.ol {p q : Prop} (k : q) (h : p := by exact Nat.le_of_ble_eq_true rfl) : Cd p q := .mk h k
theorem Br.bt {p : Prop} [Decidable p] {a b : Prop} (ha : p → a) (hp : p := by omega) : Br (decide p) a b := Br.am3 hp (ha hp)
theorem Br.bf {p : Prop} [Decidable p] {a b : Prop} (hb : ¬ p → b) (hp : ¬ p := by omega) : Br (decide p) a b := Br.am2 hp (hb hp)
theorem acb {α : Type} (ks : List Nat) (k : Nat) (f : Bool) (g : α → List D) (l : List α) (h : List (Nat × Bool × List A)) (H : h.all (fun x => A.bc ks x.2.2) = true) : List.all ((k, f, fa g l) :: h) (fun x => A.bc ks x.2.2) = true := by
 rw [List.all_cons, H]; unfold fa; rw [A.eu]; rfl
theorem ai.cu {I : Nat → List A → List (Nat × Bool × List A) → Prop} {m : Nat} {L ks : List Nat} {σ' : St} (xs' : List A) (h' : List (Nat × Bool × List A)) (inv : ∃ m', I m' xs' h' ∧ m' < m) (cut : σ'.cut L ks xs' h' := by exact ⟨.inl rfl, rfl, rfl, by first | rfl | (repeat first | exact all_nil _ | refine cz _ _ _ _ _ ?_ | refine acb _ _ _ _ _ _ ?_)⟩) : ai I m L ks σ' := ai.go xs' h' cut inv
theorem aez (ρ : List (Nat × Nat)) (l : List UInt32) : A.lj ρ (la l) = la l := A.l5 _ _
theorem uf (ks : List Nat) (l : List UInt32) : A.bc ks (la l) = true := A.eu _ _
theorem cl {P : Program} {G : bj} {T : Tab} (hT : bw P T) {f : FuncId} {fn : Func} {c : Code} {args : List D} {r : D} {fresh : Bool} (hf : P.funcs[f]? = some fn)
  (h : awp P G T c (wo T fn.results.toList r) (St.enter fn.ntmps args)) (hb : fn.body = some c := by rfl) (hname : (fn.name == "runtime.NumGoroutine") = false := by kernel_rfl) (hs : r.sc = fresh := by rfl) (hn : args.length ≤ fn.ntmps ∧ fn.ntmps ≤ 1000000 := by exact ⟨Nat.le_of_ble_eq_true rfl, Nat.le_of_ble_eq_true rfl⟩) : Sim P G fresh f args r :=
 al7 hT hf hb hname hs hn h
theorem cE {P : Program} {G : bj} {f : FuncId} {xs : List D} {K : Bool → D → Prop} {fresh : Bool} {r : D} (h : Sim P G fresh f xs r) (k : K fresh r) : fv P G f xs K := .mk fresh r h k
theorem aly {b o o' n n' s : Nat} (h1 : o = o') (h2 : n = n') : Ev.A.own b o n s = Ev.A.own b o' n' s := by rw [h1, h2]
theorem ae5 {P : Program} {G : bj} {T : Tab} (hT : bw P T) {f : FuncId} {fn : Func} {c : Code} {args : List A} {hin : Hp} {r : A} {hout : Hp} (hf : P.funcs[f]? = some fn)
  (h : awp P G T c (al4 T fn.results.toList r hout) ⟨fn.ntmps, p7 0 args, hin⟩) (hb : fn.body = some c := by rfl) (hname : (fn.name == "runtime.NumGoroutine") = false := by kernel_rfl) (hn : args.length ≤ fn.ntmps ∧ fn.ntmps ≤ 1000000 := by exact ⟨Nat.le_of_ble_eq_true rfl, Nat.le_of_ble_eq_true rfl⟩)
  (r1 : A.bc (hin.map (·.1)) args = true := by rfl) (r2 : ∀ x ∈ hin, A.bc (hin.map (·.1)) x.2.2 = true := by (intro x hx; simp only [List.mem_cons, List.not_mem_nil, or_false] at hx <;> first | (subst hx; first | rfl | exact uf _ _ | exact A.eu _ _) | (rcases hx with rfl | rfl <;> first | rfl | exact uf _ _ | exact A.eu _ _))) (r3 : r.dx (hout.map (·.1)) = true := by rfl) (r4 : ∀ x ∈ hout, A.bc (hout.map (·.1)) x.2.2 = true := by (intro x hx; simp only [List.mem_cons, List.not_mem_nil, or_false] at hx <;> first | (subst hx; first | rfl | exact uf _ _ | exact A.eu _ _) | (rcases hx with rfl | rfl <;> first | rfl | exact uf _ _ | exact A.eu _ _))) : qp P G f args hin r hout :=
 ake hT hf hb hname hn r1 r2 r3 r4 h
theorem ni.au {P : Program} {G : bj} {n : Nat} {env : List (Nat × A)} {heap : Hp} {f : FuncId} {xs : List A} {K : A → St → Prop} {args : List A} {hin : Hp} {r : A} {hout : Hp} (hs : qp P G f args hin r hout) (ρ ν : List (Nat × Nat)) (rR : A) (houtR : Hp) (bs : List Nat)
  (k : K rR ⟨n, klE (fx ρ) env, houtR ++ jl ((ρ ++ ν).map (·.2)) (klH (fx ρ) (p9 heap bs))⟩)
  (ha : j8 (lk heap) ρ args xs bs := by (first | ((repeat (first | exact j8.nil | refine j8.own (by first | rfl | exact aly (by first | omega | (dsimp only; omega)) (by first | omega | (dsimp only; omega))) ?_ | refine j8.dt rfl ?_ | refine j8.data (b1 := []) (bs := []) ⟨rfl, rfl⟩ ?_ | fail)); done) | fail)) (hi : nj (p9 heap bs) ρ hin := by (first | exact trivial | exact ⟨⟨rfl, rfl⟩, trivial⟩ | (simp only [nj, aez]; (repeat' (first | exact trivial | exact rfl | refine And.intro ?_ ?_)); done) | (simp only [nj, aey]; repeat' (first | exact trivial | exact rfl | refine And.intro ?_ ?_)))) (hc : n9 ρ ν heap (hin.map (·.1)) (hout.map (·.1)) = true := by rfl) (hr : r.ren (ρ ++ ν) = rR := by rfl) (ho : re (ρ ++ ν) hout = houtR := by (first | rfl | (simp only [re, List.map_cons, List.map_nil, aez]; rfl) | (simp only [re, List.map_cons, List.map_nil, aey]; rfl))) : ni P G n env heap f xs K := .mk hs ρ ν rR houtR bs ha hi hc hr ho k
end Go.Ev

namespace Go.Ev
open Go
section
variable {P : Program} {G : bj} {T : Tab} {w0 : World} {M : Own} {S0 : Imm} {σ : St} {a : Act} {w w' : World} {β : Own} {S : Imm}
theorem qp.shrink {f : FuncId} {args : List A} {hin : Hp} {r : A} {t : Nat} {l : List A} (n : Nat) (h : qp P G f args hin r [(t, false, l)]) : qp P G f args hin r [(t, false, l.take n)] := by
 refine ⟨h.can, h.refArgs, h.refIn, h.refRes, ?_, fun S w β vs h1 h2 => ?_⟩
 ·intro x hx
  simp only [List.mem_cons, List.not_mem_nil, or_false] at hx
  subst hx
  have := h.refOut _ (List.mem_singleton.2 rfl)
  simp only at this ⊢
  have key : ∀ (l : List A) (n : Nat), A.bc [t] l = true → A.bc [t] (l.take n) = true := by
   intro l
   induction l with
   | nil => intro n _; simp [A.bc]
   | cons x l ih =>
    intro n hl
    cases n with
    | zero => rfl
    | succ n =>
     simp only [A.bc, Bool.and_eq_true, List.take_succ_cons] at hl ⊢
     exact ⟨hl.1, ih n hl.2⟩
  exact key l n this
 ·refine Calls.mono (h.run S w β vs h1 h2) ?_
  rintro e w' ⟨v, β', S', rfl, hr, hR⟩
  refine ⟨v, β', S', rfl, ?_, hR⟩
  have hl : ∀ b fr l1, lk [(t, false, l.take n)] b = some (fr, l1) → lk [(t, false, l)] b = some (fr, l) ∧ l1 = l.take n := by
   intro b fr l1 h
   simp only [lk] at h ⊢
   split at h
   ·rename_i e; rw [if_pos e]; cases h; exact ⟨rfl, rfl⟩
   ·cases h
  refine { hr with env := fun t x hx => by simp [St.mem, lk] at hx, keys := ?_, rd := ?_, live := ?_, froz := ?_, fd := ?_, nilb := ?_, stay := ?_ }
  ·intro b hb
   have := hr.keys b hb
   simp only [St.mem, lk] at this ⊢
   split
   ·simp
   ·rename_i e; rw [if_neg e] at this; exact absurd rfl this
  ·intro b k fr l1 hb hl1
   obtain ⟨h3, rfl⟩ := hl b fr l1 hl1
   obtain ⟨C, Tc, hC, hlen, hcell⟩ := hr.rd b k fr l hb h3
   refine ⟨C, Tc, hC, by rw [List.length_take]; omega, fun j x hx => ?_⟩
   rw [List.getElem?_take] at hx
   split at hx
   ·exact hcell j x hx
   ·cases hx
  ·intro b k l1 hb hl1
   exact hr.live b k l hb (hl b _ l1 hl1).1
  ·intro b k l1 hb hl1
   exfalso
   have := (hl b _ l1 hl1).1
   simp only [lk] at this
   split at this <;> cases this
  ·intro b l1 hl1
   exfalso
   have := (hl b _ l1 hl1).1
   simp only [lk] at this
   split at this <;> cases this
  ·intro b fr l1 hb hl1
   obtain ⟨h3, rfl⟩ := hl b fr l1 hl1
   rw [hr.nilb b fr l hb h3]; simp
  ·intro b h1 h2 hb
   refine hr.stay b h1 h2 ?_
   simp only [St.mem, lk] at hb ⊢
   split
   ·simp
   ·rename_i e; rw [if_neg e] at hb; exact absurd rfl hb
end
theorem wa : ∀ {a b : List UInt32}, a.length = b.length → nv a = nv b → a = b
 | [], [], _, _ => rfl
 | [], y :: b, h, _ => by simp at h
 | x :: a, [], h, _ => by simp at h
 | x :: a, y :: b, h, hn => by
  rw [ef, ef] at hn
  have h1 := ck x
  have h2 := ck y
  have e1 : x.toNat = y.toNat := by omega
  rw [UInt32.toNat_inj.1 e1, wa (a := a) (b := b) (by simpa using h) (by omega)]
def tw (n k : Nat) : List UInt32 := ofN n ++ List.replicate (k - (ofN n).length) 0
theorem oa {n k : Nat} (h : n < Pw k) : (tw n k).length = k := by
 have := cj.2 h
 unfold tw; simp; omega
theorem aet (n k : Nat) : nv (tw n k) = n := by unfold tw; rw [gy, di, dw]; omega
theorem aev {l : List UInt32} {n k : Nat} (h1 : l.length = k) (h2 : nv l = n) : l = tw n k :=
 wa (by rw [oa (by rw [← h2, ← h1]; exact gk l), h1]) (by rw [aet, h2])
theorem afx (n k : Nat) : (tw n k).take (ofN n).length = ofN n := by unfold tw; simp
theorem mm (A W : List UInt32) (i : Int) (j : Nat) (e : i = j) (hj : j < W.length) : (la (A ++ W))[A.length + i.toNat * 1]? = some (.d (.int .u32 (W.getD j 0).toNat)) := by
 subst e
 rw [Int.toNat_natCast, Nat.mul_one, cv (A ++ W) _ _ rfl (by simp; omega)]
 rw [List.getD_eq_getElem?_getD, List.getElem?_append_right (by omega), Nat.add_sub_cancel_left, ← List.getD_eq_getElem?_getD]
theorem mn (A W : List UInt32) (i : Int) (j v : Nat) (e : i = j) (hj : j < W.length) (hv : v < 4294967296) : setAt (la (A ++ W)) (A.length + i.toNat * 1) (Ev.A.d (.int .u32 (v : Nat))).cells = la (A ++ W.set j (UInt32.ofNat v)) := by
 subst e
 rw [Int.toNat_natCast, Nat.mul_one, bo (A ++ W) _ (A.length + j) v rfl (by simp; omega) hv]
 rw [List.set_append_right _ _ (by omega), Nat.add_sub_cancel_left]
theorem kj (l : List UInt32) (i : Int) (j : Nat) (e : i = j) (hj : j < l.length) : ((ba l).drop (i.toNat * 1))[0]? = some (.int .u32 (l.getD j 0).toNat) := by
 subst e
 exact a6 l _ (by simpa using hj)
theorem ac9 (x y : Nat) (hx : x < 4294967296) (hy : y < 4294967296) : IntKind.u64.wrap (BitVec.ofInt IntKind.u64.bits ((x * 4294967296 : Nat) : Int) ||| BitVec.ofInt IntKind.u64.bits (y : Int)).toNat = ((x * 4294967296 + y : Nat) : Int) := by
 rw [ig _ _ (by omega) (by omega)]
 congr 1
 exact adn (x := x) (c := y) (s := 32) (by omega)
theorem aeo (x y : Nat) (hx : x < 18446744073709551616) : IntKind.u64.wrap ((x : Int).tdiv y) = ((x / y : Nat) : Int) := by
 rw [Int.tdiv_eq_ediv_of_nonneg (by omega), ← Int.natCast_ediv]
 have := Nat.div_le_self x y
 generalize x / y = z at *
 exact wrap_u64 (by omega) (by omega)
theorem abe {x y : Nat} (hx : x < 4294967296) (hy : y < 4294967296) : x * y < 18446744073709551616 := by
 have : x * y ≤ 4294967295 * 4294967295 := Nat.mul_le_mul (by omega) (by omega)
 omega
theorem ada (x : Nat) (h : 1 ≤ x) (hx : x < 18446744073709551616) : IntKind.u64.wrap (↑x - 1) = ((x - 1 : Nat) : Int) := by
 rw [wrap_u64 (by omega) (by omega)]; omega
theorem ajz (x y : Nat) : IntKind.u32.wrap (↑x + ↑y) = (((x + y) % 4294967296 : Nat) : Int) := by rw [wrap_u32]; omega
theorem my {P : Program} {G : bj} {T : Tab} (hT : bw P T) {a b : Code} {Q : Exit → St → Prop} {n : Nat} {env : List (Nat × A)} {heap : Hp}
  (h : awp P G T a (fun e σ' => match e with | .normal => σ'.n = n → Wp' P G b Q σ' | e => Q e σ') ⟨n, env, heap⟩) : Wp' P G (.seq a b) Q ⟨n, env, heap⟩ := by
 intro w0 M S0 a' w β S hr
 refine wp_seq (wp_mono (eb hT a _ _ h w0 M S0 a' w β S hr) ?_)
 rintro e a2 w2 ⟨σ', β', S', hq, hr', hn⟩
 cases e with
 | normal =>
  simp only [Exit.then]
  have := hq hn w0 M S0 a2 w2 β' S' hr'
  rw [hn] at this
  exact this
 | _ => exact ⟨σ', β', S', hq, hr', hn⟩
theorem ui {P : Program} {G : bj} {c : Code} {Q : Exit → St → Prop} {n : Nat} {env : List (Nat × A)} {heap : Hp} (L ks : List Nat) (xs : List A) (h : Hp) (hc : St.cut ⟨n, env, heap⟩ L ks xs h)
  (hw : Wp' P G c Q ⟨n, L.zip xs, h⟩) : Wp' P G c Q ⟨n, env, heap⟩ := by
 intro w0 M S0 a w β S hr
 exact hw w0 M S0 a w _ S (hr.cut hc)
theorem ou {P : Program} {G : bj} {c : Code} {Q Q' : Exit → St → Prop} {σ : St} (h : ∀ e σ', Q e σ' → Q' e σ') (hw : Wp' P G c Q σ) : Wp' P G c Q' σ := by
 intro w0 M S0 a w β S hr
 refine wp_mono (hw w0 M S0 a w β S hr) ?_
 rintro e a' w' ⟨σ', β', S', hq, hr', hn⟩
 exact ⟨σ', β', S', h e σ' hq, hr', hn⟩
theorem agi {P : Program} {G : bj} {c rest : Code} {Q : Exit → St → Prop} {n : Nat} {env : List (Nat × A)} {heap : Hp} (l : Nat) (hl : findLabel c l = some rest) (L ks : List Nat) (I : Nat → List A → Hp → Prop)
  (h1 : Wp' P G c (fun e σ' => match e with | .goto l' => Cd (l' = l) (uo I L ks σ') | e => Q e σ') ⟨n, env, heap⟩)
  (h2 : ∀ m xs h, I m xs h → Wp' P G rest (fun e σ' => match e with | .goto l' => Cd (l' = l) (ai I m L ks σ') | e => Q e σ') ⟨n, L.zip xs, h⟩) : Wp' P G (.scope c) Q ⟨n, env, heap⟩ := by
 intro w0 M S0 a w β S hr b k cs
 have hg : gotoIn l (.inScope c :: k) = some (.code rest :: .inScope c :: k) := by simp [gotoIn, hl]
 have key : ∀ m a w xs hh β S, I m xs hh → Rel G w0 M S0 (St.at n L xs hh) a w β S →
   ∃ e a' w', py G w0 M S0 n (Q e) a' w' ∧ Arrives P (lone (b.at a (.code rest :: .inScope c :: k)) cs w) b k cs e a' w' := by
  intro m
  induction m using Nat.strongRecOn with
  | _ m ih =>
   intro a w xs hh β S hI hr
   obtain ⟨e, a₁, w₁, ⟨σ', β', S', hq, hr', hn⟩, harr⟩ := h2 m xs hh hI w0 M S0 a w β S hr b (.inScope c :: k) cs
   cases e with
   | normal => exact ⟨.normal, a₁, w₁, ⟨σ', β', S', hq, hr', hn⟩, Steps.trans harr (.one step_inScope)⟩
   | exit id => exact ⟨.exit id, a₁, w₁, ⟨σ', β', S', hq, hr', hn⟩, fun k' hk => harr k' (by simp [exitTo, hk])⟩
   | goto l' =>
    obtain ⟨rfl, m', xs', h', hcut', hlt, hI'⟩ := hq
    have hr2 := hr'.cut hcut'
    rw [hn] at hr2
    obtain ⟨e₂, a₂, w₂, hq₂, harr₂⟩ := ih m' hlt a₁ w₁ xs' h' _ S' hI' hr2
    exact ⟨e₂, a₂, w₂, hq₂, .of_steps (harr _ hg) harr₂⟩
   | ret => exact ⟨_, a₁, w₁, ⟨σ', β', S', hq, hr', hn⟩, harr⟩
   | panic ch => exact ⟨_, a₁, w₁, ⟨σ', β', S', hq, hr', hn⟩, harr⟩
   | outgrown => exact ⟨_, a₁, w₁, ⟨σ', β', S', hq, hr', hn⟩, harr⟩
 obtain ⟨e, a₁, w₁, ⟨σ', β', S', hq, hr', hn⟩, harr⟩ := h1 w0 M S0 a w β S hr b (.inScope c :: k) cs
 cases e with
 | normal => exact ⟨.normal, a₁, w₁, ⟨σ', β', S', hq, hr', hn⟩, .head step_scope (Steps.trans harr (.one step_inScope))⟩
 | exit id => exact ⟨.exit id, a₁, w₁, ⟨σ', β', S', hq, hr', hn⟩, fun k' hk => .head step_scope (harr k' (by simp [exitTo, hk]))⟩
 | goto l' =>
  obtain ⟨rfl, m, xs, hh, hcut, hI⟩ := hq
  have hr2 := hr'.cut hcut
  rw [hn] at hr2
  obtain ⟨e₂, a₂, w₂, hq₂, harr₂⟩ := key m a₁ w₁ xs hh _ S' hI hr2
  exact ⟨e₂, a₂, w₂, hq₂, .of_steps (.head step_scope (harr _ hg)) harr₂⟩
 | ret => exact ⟨_, a₁, w₁, ⟨σ', β', S', hq, hr', hn⟩, .of_steps (.one step_scope) harr⟩
 | panic ch => exact ⟨_, a₁, w₁, ⟨σ', β', S', hq, hr', hn⟩, .of_steps (.one step_scope) harr⟩
 | outgrown => exact ⟨_, a₁, w₁, ⟨σ', β', S', hq, hr', hn⟩, .of_steps (.one step_scope) harr⟩
def Code.snd : Code → Code
 | .seq _ b => b
 | c => c
def Code.inner : Code → Code
 | .scope c => c
 | c => c
end Go.Ev

namespace Go.Ev
def dg (b n : Nat) : List Nat := if h : n = 0 ∨ b < 2 then [] else dg b (n / b) ++ [n % b]
termination_by n
decreasing_by exact Nat.div_lt_self (by omega) (by omega)
def dv (b : Nat) (l : List Nat) : Nat := l.foldl (fun a d => a * b + d) 0
def dz (l : List Nat) : List Nat := l.dropWhile (· == 0)
def pad (k : Nat) (l : List Nat) : List Nat := List.replicate (k - l.length) 0 ++ l
theorem en {b : Nat} : dg b 0 = [] := by rw [dg]; simp
theorem ga {b n : Nat} (hb : 2 ≤ b) (hn : n ≠ 0) : dg b n = dg b (n / b) ++ [n % b] := by
 rw [dg, dif_neg (by omega)]
theorem qy {b : Nat} : ∀ {l : List Nat} {a : Nat}, l.foldl (fun a d => a * b + d) a = a * b ^ l.length + dv b l
 | [], a => by simp [dv]
 | d :: l, a => by
  show l.foldl _ (a * b + d) = _
  rw [qy]
  show _ = a * b ^ (l.length + 1) + l.foldl _ (0 * b + d)
  rw [qy, Nat.pow_succ, Nat.add_mul, Nat.zero_mul, Nat.zero_add, Nat.mul_assoc, Nat.mul_comm b, Nat.add_assoc]
theorem mg {b d : Nat} {l : List Nat} : dv b (d :: l) = d * b ^ l.length + dv b l := by
 show l.foldl _ (0 * b + d) = _
 rw [qy, Nat.zero_mul, Nat.zero_add]
theorem zc {b : Nat} {l m : List Nat} : dv b (l ++ m) = dv b l * b ^ m.length + dv b m := by
 show (l ++ m).foldl _ 0 = _
 rw [List.foldl_append, qy]; rfl
theorem ali {b d : Nat} : dv b [d] = d := by simp [dv]
theorem zd {b d : Nat} {l : List Nat} : dv b (l ++ [d]) = dv b l * b + d := by rw [zc, ali]; simp
theorem p6 {b : Nat} : ∀ k : Nat, dv b (List.replicate k 0) = 0
 | 0 => rfl
 | k + 1 => by rw [List.replicate_succ, mg, p6 k]; simp
theorem alj {b k : Nat} {l : List Nat} : dv b (pad k l) = dv b l := by rw [pad, zc, p6]; simp
theorem vh {b : Nat} (hb : 2 ≤ b) : ∀ n : Nat, dv b (dg b n) = n := by
 intro n
 induction n using Nat.strongRecOn with
 | ind n ih =>
  by_cases h : n = 0
  ·subst h; rw [en]; rfl
  ·rw [ga hb h, zd, ih _ (Nat.div_lt_self (by omega) (by omega)), Nat.mul_comm]
   exact Nat.div_add_mod n b
theorem sy {b : Nat} (hb : 2 ≤ b) : ∀ n : Nat, ∀ d ∈ dg b n, d < b := by
 intro n
 induction n using Nat.strongRecOn with
 | ind n ih =>
  intro d hd
  by_cases h : n = 0
  ·subst h; rw [en] at hd; cases hd
  ·rw [ga hb h, List.mem_append, List.mem_singleton] at hd
   rcases hd with hd | rfl
   ·exact ih _ (Nat.div_lt_self (by omega) (by omega)) d hd
   ·exact Nat.mod_lt _ (by omega)
theorem ow {b n : Nat} (hb : 2 ≤ b) : dg b n = [] ↔ n = 0 := by
 constructor
 ·intro h
  by_cases hn : n = 0
  ·exact hn
  ·rw [ga hb hn] at h; simp at h
 ·rintro rfl; exact en
theorem vi {b : Nat} : ∀ {l : List Nat}, (∀ d ∈ l, d < b) → dv b l < b ^ l.length
 | [], _ => by simp [dv]
 | d :: l, h => by
  rw [mg, List.length_cons, Nat.pow_succ, Nat.mul_comm (b ^ l.length)]
  have h1 := vi (l := l) fun x hx => h x (List.mem_cons_of_mem _ hx)
  have h2 : d < b := h d (List.mem_cons_self ..)
  have h3 : (d + 1) * b ^ l.length ≤ b * b ^ l.length := Nat.mul_le_mul_right _ h2
  rw [Nat.add_mul, Nat.one_mul] at h3
  omega
theorem zb {b n d : Nat} (hb : 2 ≤ b) (hd : d < b) (h : n * b + d ≠ 0) : dg b (n * b + d) = dg b n ++ [d] := by
 rw [ga hb h]
 congr 2
 ·rw [Nat.mul_comm, Nat.mul_add_div (by omega), Nat.div_eq_of_lt hd, Nat.add_zero]
 ·rw [Nat.mul_comm, Nat.mul_add_mod, Nat.mod_eq_of_lt hd]
theorem agy {b : Nat} (hb : 2 ≤ b) {n : Nat} (hn : n ≠ 0) : ∀ l : List Nat, (∀ d ∈ l, d < b) → dg b (n * b ^ l.length + dv b l) = dg b n ++ l := by
 have key : ∀ (l : List Nat) (n : Nat), n ≠ 0 → (∀ d ∈ l, d < b) → dg b (n * b ^ l.length + dv b l) = dg b n ++ l := by
  intro l
  induction l with
  | nil => intro n _ _; simp [dv]
  | cons d l ih =>
   intro n hn hd
   have hdb : d < b := hd d (List.mem_cons_self ..)
   have hnb : 0 < n * b := Nat.mul_pos (by omega) (by omega)
   have := ih (n * b + d) (by omega) fun x hx => hd x (List.mem_cons_of_mem _ hx)
   rw [zb hb hdb (by omega), List.append_assoc, List.singleton_append] at this
   rw [← this, mg, List.length_cons, Nat.pow_succ, Nat.add_mul, Nat.add_assoc, Nat.mul_assoc, Nat.mul_comm b]
 intro l h
 exact key l n hn h
theorem aee {b : Nat} (hb : 2 ≤ b) : ∀ l : List Nat, (∀ d ∈ l, d < b) → dg b (dv b l) = dz l
 | [], _ => en
 | d :: l, h => by
  have hl : ∀ x ∈ l, x < b := fun x hx => h x (List.mem_cons_of_mem _ hx)
  by_cases h0 : d = 0
  ·subst h0; rw [mg, Nat.zero_mul, Nat.zero_add, aee hb l hl]; simp [dz]
  ·have hd : d < b := h d (List.mem_cons_self ..)
   rw [mg, agy hb h0 l hl]
   have h1 : dg b d = [d] := by
    have := zb (n := 0) hb hd (by omega)
    rw [Nat.zero_mul, Nat.zero_add, en] at this; exact this
   rw [h1]; simp [dz, h0]
theorem amm {b : Nat} (hb : 2 ≤ b) (n : Nat) : dz (dg b n) = dg b n := by
 rw [← aee hb (dg b n) (sy hb n), vh hb]
theorem jr {b : Nat} (hb : 2 ≤ b) : ∀ (k n : Nat), n < b ^ k → (dg b n).length ≤ k
 | 0, n, h => by
  have : n = 0 := by simpa using h
  subst this; rw [en]; exact Nat.le_refl _
 | k + 1, n, h => by
  by_cases h0 : n = 0
  ·subst h0; rw [en]; exact Nat.zero_le _
  ·rw [ga hb h0, List.length_append]
   have := jr hb k (n / b) (by rw [Nat.div_lt_iff_lt_mul (by omega), ← Nat.pow_succ]; exact h)
   simp only [List.length_singleton]; omega
theorem zz {k : Nat} {l : List Nat} (h : l.length ≤ k) : (pad k l).length = k := by simp [pad]; omega
theorem al0 {b k : Nat} {l : List Nat} (hb : 0 < b) (h : ∀ d ∈ l, d < b) : ∀ d ∈ pad k l, d < b := by
 intro d hd
 rw [pad, List.mem_append] at hd
 rcases hd with hd | hd
 ·rw [List.mem_replicate] at hd; omega
 ·exact h d hd
def grp (b k : Nat) (l : List Nat) : List Nat := l.flatMap fun v => pad k (dg b v)
theorem acu {b k : Nat} (hb : 2 ≤ b) {l : List Nat} : ∀ d ∈ grp b k l, d < b := by
 intro d hd
 simp only [grp, List.mem_flatMap] at hd
 obtain ⟨v, _, hd⟩ := hd
 exact al0 (by omega) (sy hb v) d hd
theorem acs {b k : Nat} (hb : 2 ≤ b) : ∀ l : List Nat, (∀ v ∈ l, v < b ^ k) → dv b (grp b k l) = dv (b ^ k) l ∧ (grp b k l).length = k * l.length
 | [], _ => ⟨rfl, by simp [grp]⟩
 | v :: l, h => by
  obtain ⟨h1, h2⟩ := acs hb l fun x hx => h x (List.mem_cons_of_mem _ hx)
  have hv := jr hb k v (h v (List.mem_cons_self ..))
  have e : grp b k (v :: l) = pad k (dg b v) ++ grp b k l := rfl
  constructor
  ·rw [e, zc, alj, vh hb, h1, h2, mg, Nat.pow_mul]
  ·rw [e, List.length_append, zz hv, h2, List.length_cons, Nat.mul_succ, Nat.add_comm]
theorem ahc {b k : Nat} (hb : 2 ≤ b) {l : List Nat} (h : ∀ v ∈ l, v < b ^ k) : dz (grp b k l) = dg b (dv (b ^ k) l) := by
 rw [← aee hb _ (acu hb), (acs hb l h).1]
def ch (d : Nat) : UInt8 := if d < 10 then UInt8.ofNat (48 + d) else UInt8.ofNat (87 + d)
theorem xo : ch 0 = 48 := rfl
theorem akv {d : Nat} (h : d < 16) : (ch d == 48) = (d == 0) := by
 have : ∀ d : Fin 16, (ch d.1 == 48) = (d.1 == 0) := by decide
 exact this ⟨d, h⟩
theorem ag6 : ∀ {l : List Nat}, (∀ d ∈ l, d < 16) → (l.map ch).dropWhile (· == 48) = (dz l).map ch
  | [], _ => rfl
  | d :: l, h => by
    simp only [List.map_cons, List.dropWhile_cons, dz]
    rw [akv (h d (List.mem_cons_self ..))]
    split
    · exact ag6 fun x hx => h x (List.mem_cons_of_mem _ hx)
    · rfl
theorem acg {d : Nat} (h : d < 10) : (ch d).toNat = 48 + d := by
 have : ∀ d : Fin 10, (ch d.1).toNat = 48 + d.1 := by decide
 exact this ⟨d, h⟩
def txt (b : Nat) (neg : Bool) (n : Nat) : List UInt8 := if n = 0 then [48] else (if neg then [45] else []) ++ (dg b n).map ch
end Go.Ev

namespace Go.Ev
@[irreducible] def bst (l : List UInt8) : ByteArray := ⟨l.toArray⟩
theorem aa (l : List UInt8) : (bst l).size = l.length := by simp [bst, ByteArray.size]
theorem nn (l : List UInt8) : (bst l).data.toList = l := by simp [bst]
theorem an (l m : List UInt8) : bst l ++ bst m = bst (l ++ m) := by
 apply ByteArray.ext
 simp [bst, ByteArray.data_append]
theorem ae (l : List UInt8) (i j : Nat) : (bst l).extract i j = bst ((l.drop i).take (j - i)) := by unfold bst; exact ByteArray.extract_mk l i j
def jf (x : UInt8) : Bool := decide (48 ≤ x.toNat) && decide (x.toNat ≤ 57)
def nd (l : List UInt8) : Nat := (l.takeWhile jf).length
def dgs (l : List UInt8) : List Nat := l.map fun x => x.toNat - 48
def pn (l : List UInt8) : Nat := if l.head? = some 45 then 1 else 0
def prs (l : List UInt8) : Int × Nat × Nat :=
 let f := pn l
 let r := l.drop f
 let d := nd r
 if d = 0 then (0, f, if f = l.length then 15 else 14)
 else if r.head? = some 48 ∧ f = 1 then (0, f, 14)
 else if r.head? = some 48 ∧ 1 < d then (0, f + 1, 14)
 else if 400 < d then (0, f + 400, 14)
 else if f + d < l.length then (0, f + d, 14)
 else (if f = 1 then -(dv 10 (dgs r) : Int) else dv 10 (dgs r), l.length, 0)
theorem ajn {d : Nat} (h : d < 10) : jf (ch d) = true := by
 have : ∀ d : Fin 10, jf (ch d.1) = true := by decide
 exact this ⟨d, h⟩
theorem agz : ∀ {l : List Nat}, (∀ d ∈ l, d < 10) → dgs (l.map ch) = l
 | [], _ => rfl
 | d :: l, h => by
  have := acg (h d (List.mem_cons_self ..))
  simp only [dgs, List.map_cons, List.cons.injEq] at *
  exact ⟨by omega, agz fun x hx => h x (List.mem_cons_of_mem _ hx)⟩
theorem ak2 : ∀ {l : List Nat} {r : List UInt8}, (∀ d ∈ l, d < 10) → (∀ x ∈ r.head?, jf x = false) → nd (l.map ch ++ r) = l.length
  | [], r, _, hr => by
    cases r with
    | nil => rfl
    | cons x r => simp [nd, hr x (by simp)]
  | d :: l, r, h, hr => by
    simp only [nd, List.map_cons, List.cons_append, List.takeWhile_cons, ajn (h d (List.mem_cons_self ..)), if_true, List.length_cons]
    exact congrArg (· + 1) (ak2 (fun x hx => h x (List.mem_cons_of_mem _ hx)) hr)
def sgn (neg : Bool) : List UInt8 := if neg then [45] else []
theorem agw {d : Nat} (h : d < 10) : ch d ≠ 45 := by
 have : ∀ d : Fin 10, ch d.1 ≠ 45 := by decide
 exact this ⟨d, h⟩
theorem ai6 {d : Nat} (h : d < 10) : (ch d = 48) ↔ d = 0 := by
 have := akv (d := d) (by omega)
 rw [Bool.eq_iff_iff, beq_iff_eq, beq_iff_eq] at this
 exact this
theorem z6 {neg : Bool} {e : Nat} {ds : List Nat} {r : List UInt8} (h : ∀ d ∈ e :: ds, d < 10) (hr : ∀ x ∈ r.head?, jf x = false) :
  prs (sgn neg ++ ((e :: ds).map ch ++ r)) =
   if e = 0 ∧ neg = true then (0, 1, 14)
   else if e = 0 ∧ ds ≠ [] then (0, neg.toNat + 1, 14)
   else if 400 < ds.length + 1 then (0, neg.toNat + 400, 14)
   else if r ≠ [] then (0, neg.toNat + (ds.length + 1), 14)
   else (if neg then -(dv 10 (e :: ds) : Int) else dv 10 (e :: ds), neg.toNat + (ds.length + 1), 0) := by
 have he : e < 10 := h e (List.mem_cons_self ..)
 have hf : pn (sgn neg ++ ((e :: ds).map ch ++ r)) = neg.toNat := by
  cases neg <;> simp [pn, sgn, agw he]
 have hd : (sgn neg ++ ((e :: ds).map ch ++ r)).drop neg.toNat = (e :: ds).map ch ++ r := by
  cases neg <;> simp [sgn]
 have hl : (sgn neg ++ ((e :: ds).map ch ++ r)).length = neg.toNat + (ds.length + 1 + r.length) := by
  cases neg <;> simp [sgn] <;> omega
 have h1 : (((e :: ds).map ch ++ r).head? = some 48) ↔ e = 0 := by simp [ai6 he]
 unfold prs
 simp only [hf, hd, hl, ak2 h hr, h1, List.length_cons]
 rw [if_neg (by omega)]
 have e1 : (e = 0 ∧ neg.toNat = 1) ↔ (e = 0 ∧ neg = true) := by cases neg <;> simp
 have e2 : (e = 0 ∧ 1 < ds.length + 1) ↔ (e = 0 ∧ ds ≠ []) := by cases ds <;> simp
 have e3 : (neg.toNat + (ds.length + 1) < neg.toNat + (ds.length + 1 + r.length)) ↔ r ≠ [] := by cases r <;> simp
 simp only [e1, e2, e3]
 split
 ·rename_i q; rw [q.2]; rfl
 ·split
  ·rfl
  ·split
   ·rfl
   ·split
    ·rfl
    ·rename_i q
     have : r = [] := by simpa using q
     subst this
     rw [List.append_nil, agz h]
     cases neg <;> simp
end Go.Ev

namespace Go.Ev
theorem aed {b n : Nat} (hb : 2 ≤ b) (hn : n ≠ 0) : ∃ e ds, dg b n = e :: ds ∧ e ≠ 0 := by
 have h := amm hb n
 cases hd : dg b n with
 | nil => exact absurd ((ow hb).1 hd) hn
 | cons e ds =>
  refine ⟨e, ds, rfl, fun h0 => ?_⟩
  subst h0
  rw [hd] at h
  have h1 := congrArg List.length h
  have h2 : (dz (0 :: ds)).length ≤ ds.length := by
   simp only [dz, List.dropWhile_cons, beq_self_eq_true, if_true]
   exact (List.dropWhile_sublist _).length_le
  simp only [List.length_cons] at h1
  omega
theorem ag5 {b e : Nat} {ds : List Nat} (hb : 2 ≤ b) (h : ∀ d ∈ e :: ds, d < b) (he : e ≠ 0) : dv b (e :: ds) ≠ 0 ∧ dg b (dv b (e :: ds)) = e :: ds := by
 have h1 := aee hb (e :: ds) h
 have h2 : dz (e :: ds) = e :: ds := by simp [dz, he]
 rw [h2] at h1
 refine ⟨fun h0 => ?_, h1⟩
 rw [h0, en] at h1; cases h1
theorem ama {b e : Nat} {ds : List Nat} (neg : Bool) (hb : 2 ≤ b) (h : ∀ d ∈ e :: ds, d < b) (he : e ≠ 0) : txt b neg (dv b (e :: ds)) = sgn neg ++ (e :: ds).map ch := by
 obtain ⟨h1, h2⟩ := ag5 hb h he
 rw [txt, if_neg h1, h2, sgn]
theorem jz {b n : Nat} (neg : Bool) (h : n ≠ 0) : txt b neg n = sgn neg ++ (dg b n).map ch := by rw [txt, if_neg h, sgn]
def zs (neg : Bool) (n : Nat) : Int := if neg then -(n : Int) else n
theorem akb {neg : Bool} {n : Nat} (hn : n < 10 ^ 400) : prs (txt 10 neg n) = (zs neg n, (txt 10 neg n).length, 0) := by
 by_cases h : n = 0
 ·subst h
  have : prs [48] = (0, 1, 0) := by decide
  cases neg <;> simpa [txt, zs] using this
 ·obtain ⟨e, ds, hd, he⟩ := aed (b := 10) (by omega) h
  have hlt := sy (b := 10) (by omega) n
  have hlen := jr (b := 10) (by omega) 400 n hn
  have hv := vh (b := 10) (by omega) n
  rw [hd] at hlt hlen hv
  rw [List.length_cons] at hlen
  have := z6 (neg := neg) (r := []) hlt (by simp)
  rw [List.append_nil, if_neg (fun q => he q.1), if_neg (fun q => he q.1), if_neg (by omega), if_neg (by simp), hv] at this
  rw [jz neg h, hd, this]
  cases neg <;> simp [sgn, zs] <;> omega
theorem aa6 {c : UInt8} (h : jf c = true) : c.toNat - 48 < 10 ∧ ch (c.toNat - 48) = c := by
 have : ∀ c : Fin 256, jf (UInt8.ofNat c.1) = true → (UInt8.ofNat c.1).toNat - 48 < 10 ∧ ch ((UInt8.ofNat c.1).toNat - 48) = UInt8.ofNat c.1 := by decide +kernel
 have h2 := this ⟨c.toNat, c.toNat_lt⟩
 rw [UInt8.ofNat_toNat] at h2
 exact h2 h
theorem ah5 {neg : Bool} {n : Nat} (hn : n < 10 ^ 399) (c : UInt8) : prs (txt 10 neg n ++ [c]) =
  if n ≠ 0 ∧ jf c = true then (zs neg (n * 10 + (c.toNat - 48)), (txt 10 neg n).length + 1, 0) else (0, (txt 10 neg n).length, 14) := by
 by_cases h : n = 0
 ·subst h
  have : ∀ c : Fin 256, prs ([48] ++ [UInt8.ofNat c.1]) = (0, 1, 14) := by decide +kernel
  have h2 := this ⟨c.toNat, c.toNat_lt⟩
  rw [UInt8.ofNat_toNat] at h2
  rw [if_neg (by simp)]
  cases neg <;> simpa [txt] using h2
 ·obtain ⟨e, ds, hd, he⟩ := aed (b := 10) (by omega) h
  have hlt := sy (b := 10) (by omega) n
  have hlen := jr (b := 10) (by omega) 399 n hn
  have hv := vh (b := 10) (by omega) n
  rw [hd] at hlt hlen hv
  rw [List.length_cons] at hlen
  cases hc : jf c
  ·have := z6 (neg := neg) (r := [c]) hlt (by simpa using hc)
   rw [if_neg (fun q => he q.1), if_neg (fun q => he q.1), if_neg (by omega), if_pos (by simp)] at this
   rw [jz neg h, hd, List.append_assoc, this, if_neg (by simp)]
   cases neg <;> simp [sgn] <;> omega
  ·obtain ⟨c1, c2⟩ := aa6 hc
   have hlt2 : ∀ d ∈ e :: (ds ++ [c.toNat - 48]), d < 10 := by
    intro d hd
    rw [← List.cons_append, List.mem_append, List.mem_singleton] at hd
    rcases hd with hd | rfl
    ·exact hlt d hd
    ·exact c1
   have := z6 (neg := neg) (r := []) hlt2 (by simp)
   rw [List.append_nil, if_neg (fun q => he q.1), if_neg (fun q => he q.1), if_neg (by simp; omega), if_neg (by simp), ← List.cons_append, zd, hv, List.map_append, List.map_singleton, c2] at this
   rw [jz neg h, hd, List.append_assoc, this, if_pos (show n ≠ 0 ∧ true = true from ⟨h, rfl⟩)]
   refine Prod.ext ?_ (Prod.ext ?_ rfl)
   ·cases neg <;> rfl
   ·cases neg <;> simp [sgn] <;> omega
theorem aiq {neg : Bool} {n : Nat} (h : n ≠ 0) {c : UInt8} (hc : jf c = true) : txt 10 neg (n * 10 + (c.toNat - 48)) = txt 10 neg n ++ [c] := by
 obtain ⟨c1, c2⟩ := aa6 hc
 rw [jz neg h, jz neg (by omega), zb (by omega) c1 (by omega), List.map_append, List.map_singleton, c2, List.append_assoc]
theorem tm {b : Nat} (hb : 2 ≤ b) {neg : Bool} {n : Nat} (h : n ≠ 0) (k : Nat) : txt b neg (n * b ^ k) = txt b neg n ++ List.replicate k 48 := by
 have hp : 0 < b ^ k := Nat.pow_pos (by omega)
 have h1 : n * b ^ k ≠ 0 := by
  intro q
  rcases Nat.mul_eq_zero.1 q with q | q <;> omega
 have := agy hb h (List.replicate k 0) (by intro d hd; rw [List.mem_replicate] at hd; omega)
 rw [p6, List.length_replicate, Nat.add_zero] at this
 rw [jz neg h, jz neg h1, this, List.map_append, List.append_assoc, List.map_replicate]; rfl
theorem ajk {neg : Bool} {n : Nat} : (txt 16 neg n).length ≤ (txt 10 neg n).length := by
 by_cases h : n = 0
 ·subst h; simp [txt]
 ·rw [jz neg h, jz neg h]
  have h1 : n < 10 ^ (dg 10 n).length := by
   have := vi (sy (b := 10) (by omega) n)
   rwa [vh (by omega)] at this
  have h2 : n < 16 ^ (dg 10 n).length := Nat.lt_of_lt_of_le h1 (Nat.pow_le_pow_left (by omega) _)
  have := jr (b := 16) (by omega) _ n h2
  simp only [List.length_append, List.length_map]
  omega
theorem ah4 {neg : Bool} {e : Nat} {ds : List Nat} (h : ∀ d ∈ e :: ds, d < 10) (he : e ≠ 0) :
  prs (sgn neg ++ (e :: ds).map ch) = if 400 < ds.length + 1 then (0, neg.toNat + 400, 14) else (zs neg (dv 10 (e :: ds)), (sgn neg ++ (e :: ds).map ch).length, 0) := by
 have := z6 (neg := neg) (r := []) h (by simp)
 rw [List.append_nil, if_neg (fun q => he q.1), if_neg (fun q => he q.1)] at this
 rw [this]
 split
 ·rfl
 ·rw [if_neg (by simp)]
  cases neg <;> simp [sgn, zs] <;> omega
end Go.Ev

namespace Go.Ev
theorem ak7 : ∀ l : List UInt32, dv 4294967296 (l.reverse.map UInt32.toNat) = nv l
 | [] => rfl
 | x :: l => by
  rw [List.reverse_cons, List.map_append, List.map_singleton, zd, ak7 l, ef]
  omega
theorem ad3 (n : Nat) : ((grp 10 9 (dg 1000000000 n)).map ch).dropWhile (· == 48) = (dg 10 n).map ch := by
  have h := sy (b := 1000000000) (by omega) n
  rw [ag6 (fun d hd => Nat.lt_trans (acu (by omega) d hd) (by omega)), ahc (by omega) (k := 9) (fun v hv => h v hv)]
  have e : (10 : Nat) ^ 9 = 1000000000 := rfl
  rw [e, vh (by omega)]
theorem agd (l : List UInt32) : ((grp 16 8 (l.reverse.map UInt32.toNat)).map ch).dropWhile (· == 48) = (dg 16 (nv l)).map ch := by
  have e : (16 : Nat) ^ 8 = 4294967296 := rfl
  rw [ag6 (fun d hd => acu (by omega) d hd), ahc (by omega) (k := 8), e, ak7]
  intro v hv
  rw [List.mem_map] at hv
  obtain ⟨x, _, rfl⟩ := hv
  rw [e]; exact x.toNat_lt
theorem ag4 {a : Nat} {c : List Nat} (h : a = 0 ∨ c.length = 9) : a * 1000000000 + dv 10 c = a * 10 ^ c.length + dv 10 c := by
 rcases h with rfl | h
 ·simp
 ·rw [h]
end Go.Ev

namespace Go.Ev
open Go
section
variable {P : Program} {G : bj} {T : Tab}
def scE (I : Nat → List A → List (Nat × Bool × List A) → Prop) (l m : Nat) (L ks : List Nat) (Q : Exit → St → Prop) : Exit → St → Prop
 | .goto l', σ' => l' = l ∧ ai I m L ks σ'
 | e, σ' => Q e σ'
def scB (I : Nat → List A → List (Nat × Bool × List A) → Prop) (l : Nat) (ad : List (Nat × Nat × Nat)) (L ks : List Nat) (Q : Exit → St → Prop) : Exit → St → Prop
 | .goto l', σ' => l' = l ∧ σ'.sq ad fun σ' => uo I L ks σ'
 | e, σ' => Q e σ'
theorem ti (hT : bw P T) {c rest : Code} {Q : Exit → St → Prop} {σ : St} (l : Nat) (ad : List (Nat × Nat × Nat)) (L ks : List Nat) (I : Nat → List A → List (Nat × Bool × List A) → Prop)
  (hf : findLabel c l = some rest) (first : awp P G T c (scB I l ad L ks Q) σ)
  (pass : ∀ m xs h, I m xs h → match σ with | ⟨n, _, _⟩ => awp P G T rest (scE I l m L ks Q) ⟨n, L.zip xs, h⟩) : Wp' P G (.scope c) Q σ := by
 intro w0 M S0 a w β S hr b k cs
 have hg : gotoIn l (.inScope c :: k) = some (.code rest :: .inScope c :: k) := by simp [gotoIn, hf]
 have key : ∀ m a w xs hh β S, I m xs hh → Rel G w0 M S0 (St.at σ.n L xs hh) a w β S →
   ∃ e a' w', py G w0 M S0 σ.n (Q e) a' w' ∧ Arrives P (lone (b.at a (.code rest :: .inScope c :: k)) cs w) b k cs e a' w' := by
  intro m
  induction m using Nat.strongRecOn with
  | _ m ih =>
   intro a w xs hh β S hI hr
   obtain ⟨e, a₁, w₁, ⟨σ', β', S', hq, hr', hn⟩, harr⟩ := eb hT rest _ _ (pass m xs hh hI) w0 M S0 a w β S hr b (.inScope c :: k) cs
   cases e with
   | normal => exact ⟨.normal, a₁, w₁, ⟨σ', β', S', hq, hr', hn⟩, Steps.trans harr (.one step_inScope)⟩
   | exit id => exact ⟨.exit id, a₁, w₁, ⟨σ', β', S', hq, hr', hn⟩, fun k' hk => harr k' (by simp [exitTo, hk])⟩
   | goto l' =>
    obtain ⟨rfl, m', xs', h', hcut', hlt, hI'⟩ := hq
    have hr2 := hr'.cut hcut'
    rw [hn] at hr2
    obtain ⟨e₂, a₂, w₂, hq₂, harr₂⟩ := ih m' hlt a₁ w₁ xs' h' _ S' hI' hr2
    exact ⟨e₂, a₂, w₂, hq₂, .of_steps (harr _ hg) harr₂⟩
   | ret => exact ⟨_, a₁, w₁, ⟨σ', β', S', hq, hr', hn⟩, harr⟩
   | panic ch => exact ⟨_, a₁, w₁, ⟨σ', β', S', hq, hr', hn⟩, harr⟩
   | outgrown => exact ⟨_, a₁, w₁, ⟨σ', β', S', hq, hr', hn⟩, harr⟩
 obtain ⟨e, a₁, w₁, ⟨σ', β', S', hq, hr', hn⟩, harr⟩ := eb hT c _ _ first w0 M S0 a w β S hr b (.inScope c :: k) cs
 cases e with
 | normal => exact ⟨.normal, a₁, w₁, ⟨σ', β', S', hq, hr', hn⟩, .head step_scope (Steps.trans harr (.one step_inScope))⟩
 | exit id => exact ⟨.exit id, a₁, w₁, ⟨σ', β', S', hq, hr', hn⟩, fun k' hk => .head step_scope (harr k' (by simp [exitTo, hk]))⟩
 | goto l' =>
  obtain ⟨rfl, had⟩ := hq
  obtain ⟨σ1, β1, ⟨m, xs, hh, hcut, hI⟩, hr1, hn1⟩ := Rel.sq hr' had
  have hr2 := hr1.cut hcut
  rw [hn1, hn] at hr2
  obtain ⟨e₂, a₂, w₂, hq₂, harr₂⟩ := key m a₁ w₁ xs hh _ S' hI hr2
  exact ⟨e₂, a₂, w₂, hq₂, .of_steps (.head step_scope (harr _ hg)) harr₂⟩
 | ret => exact ⟨_, a₁, w₁, ⟨σ', β', S', hq, hr', hn⟩, .of_steps (.one step_scope) harr⟩
 | panic ch => exact ⟨_, a₁, w₁, ⟨σ', β', S', hq, hr', hn⟩, .of_steps (.one step_scope) harr⟩
 | outgrown => exact ⟨_, a₁, w₁, ⟨σ', β', S', hq, hr', hn⟩, .of_steps (.one step_scope) harr⟩
structure ad8 (P : Program) (G : bj) (c : Code) (Q : Exit → St → Prop) (σ : St) : Prop where
 h : Wp' P G c Q σ
def ale (P : Program) (G : bj) (T : Tab) : Nat → Code → (Exit → St → Prop) → St → Prop
 | n + 1, .seq a b, Q, σ => awp P G T a (fun e σ' => match e with | .normal => ale P G T n b Q σ' | e => Q e σ') σ
 | _, c, Q, σ => ad8 P G c Q σ
theorem uu (hT : bw P T) : ∀ (n : Nat) (c : Code) (Q : Exit → St → Prop) (σ : St), ale P G T n c Q σ → Wp' P G c Q σ
 | 0, c, Q, σ, h => by
  have : ad8 P G c Q σ := by cases c <;> exact h
  exact this.h
 | n + 1, c, Q, σ, h => by
  cases c with
  | seq a b =>
   intro w0 M S0 a' w β S hr
   refine wp_seq (wp_mono (eb hT a _ σ h w0 M S0 a' w β S hr) ?_)
   rintro e a' w' ⟨σ', β', S', hq, hr', hn⟩
   cases e with
   | normal =>
    simp only [Exit.then]
    have := uu hT n b Q σ' hq w0 M S0 a' w' β' S' hr'
    rw [hn] at this
    exact this
   | _ => exact ⟨σ', β', S', hq, hr', hn⟩
  | _ => exact ad8.h h
theorem amw (n : Nat) (hT : bw P T) {f : FuncId} {fn : Func} {c : Code} {args : List D} {r : D} {fresh : Bool} (hf : P.funcs[f]? = some fn) (hb : fn.body = some c) (h : ale P G T n c (wo T fn.results.toList r) (St.enter fn.ntmps args))
  (hname : (fn.name == "runtime.NumGoroutine") = false) (hs : r.sc = fresh) (hn : args.length ≤ fn.ntmps ∧ fn.ntmps ≤ 1000000) : Sim P G fresh f args r :=
 hs ▸ wv hT (env := kf 0 args) (fun hd hx => vw hd hx) hf hb hname hn (uu hT n c _ _ h)
theorem Rel.fresh {w0 w w' : World} {M : Own} {S0 S : Imm} {σ : St} {a a' : Act} {β : Own} {n : Nat} {env : List (Nat × A)} (h : Rel G w0 M S0 σ a w β S) (hb : RowKit.Below w.heap.size w w') (hd : a'.defers = []) (hn : a'.tmps.size = n) (hs : n ≤ 1000000)
  (he : ∀ t x, lk env t = some x → AR (fun _ => none) S w' x (a'.tmps.getD t undef)) : Rel G w0 M S0 ⟨n, env, []⟩ a' w' (fun _ => none) S := by
 have h1 : Rel G w0 M S0 (St.at σ.n [] [] []) a w (β.only []) S := h.cut ⟨.inl rfl, by simp, rfl, rfl⟩
 have h2 := h1.olds (w' := w') hb.block hb.os hb.tape hb.output hb.size (fun _ _ h => h) (fun _ _ h => .inl h)
 refine { h2 with defers := hd, size := hn, env := he, keys := ?_, rd := ?_, live := ?_, froz := ?_, nilb := ?_, inj := ?_, stay := ?_, src := ?_, small := hs }
 all_goals intros; simp_all [lk]
end
end Go.Ev

namespace Go.Ev
open Go
theorem ux (l : List UInt8) : (bst l).toList = l := by
 have key : ∀ (n i : Nat) (r : List UInt8), l.length - i = n → ByteArray.toList.loop (bst l) i r = r.reverse ++ l.drop i := by
  intro n
  induction n with
  | zero =>
   intro i r h
   rw [ByteArray.toList.loop, if_neg (by rw [aa]; omega), List.drop_eq_nil_of_le (by omega), List.append_nil]
  | succ n ih =>
   intro i r h
   have hi : i < l.length := by omega
   rw [ByteArray.toList.loop, if_pos (by rw [aa]; exact hi), ih (i + 1) _ (by omega)]
   have : (bst l).get! i = l[i] := by
    unfold bst
    show (l.toArray)[i]! = _
    simp [hi]
   rw [this, List.drop_eq_getElem_cons hi]
   simp
 rw [ByteArray.toList, key _ 0 [] rfl]; simp
theorem EqE.idT {x : ByteArray} {K : ByteArray → Prop} (h : EqE x K) : EqE x K := h
theorem EqE.idP {x : Bool} {K : Bool → Prop} (h : EqE x K) : EqE x K := h
theorem EqE.idN {x : Nat} {K : Int → Prop} (h : EqE (x : Int) K) : EqE (x : Int) K := h
theorem bz (l m : List UInt8) : ((bst l).toList == (bst m).toList) = decide (l = m) := by rw [ux, ux, Bool.eq_iff_iff]; simp
theorem b3 (l m : List UInt8) : (!((bst l).toList == (bst m).toList)) = !decide (l = m) := by rw [bz]
theorem ak (xs : Array UInt8) : (⟨xs⟩ : ByteArray) = bst xs.toList := by simp [bst]
theorem Cd.ob {p q : Prop} (k : q) (h : p := by (simp only [ak, List.toList_toArray, aa, List.length_drop, List.length_take, List.length_append, List.length_map, List.length_cons, List.length_nil, List.length_replicate, List.length_reverse]; omega)) : Cd p q := .mk h k
theorem Cd.ro {n m k l : Nat} {q : Prop} (k' : q) (h1 : n = m := by rfl) (h2 : k ≤ l := by exact Nat.le_of_ble_eq_true rfl) : Cd (n = m ∧ k ≤ l) q := .mk ⟨h1, h2⟩ k'
theorem Cd.dc {p q : Prop} [Decidable p] (k : q) (h : p := by decide) : Cd p q := .mk h k
theorem b4 (l : List UInt8) (i : Nat) : (l.drop i).take (l.length - i) = l.drop i := List.take_of_length_le (by simp)
theorem b5 (l : List UInt8) : l.take l.length = l := List.take_length
theorem bb (l : List UInt8) (i : Nat) : nth 0 (bst l).data.toList i = nth 0 l i := by rw [nn]
theorem ixx {l : List UInt8} {i : Nat} {x : UInt8} (h : nth 0 l i = x) : (((nth 0 (bst l).data.toList ((i : Nat) : Int).toNat).toNat : Nat) : Int) = ((x.toNat : Nat) : Int) := by rw [nn, Int.toNat_natCast, h]
theorem ac1 {l : List UInt8} {x : UInt8} (h : nth 0 l 0 = x) : (((nth 0 (bst l).data.toList (Int.toNat 0)).toNat : Nat) : Int) = ((x.toNat : Nat) : Int) := ixx (i := 0) h
theorem fp (l : List UInt8) : (⟨l.toArray⟩ : ByteArray) = bst l := by simp [bst]
end Go.Ev

namespace Go.Ev.Ar
open Go Go.Ev
def amy : List (Nat × Ty) := [
 (2, ⟨1, 8, false, .int .i64, [.int .i64], false⟩),
 (3, ⟨1, 8, false, .int .i64, [.int .i64], false⟩),
 (4, ⟨1, 1, false, .bool, [.bool], false⟩),
 (5, ⟨1, 1, false, .int .u8, [.int .u8], false⟩),
 (6, ⟨1, 1, false, .int .u8, [.int .u8], false⟩),
 (7, ⟨4, 24, true, .struct [(0, 1, false), (1, 1, false), (2, 1, false), (3, 1, false)], [.int .i64, .int .i64, .bool, .int .u8], false⟩),
 (8, ⟨4, 24, true, .struct [(0, 1, false), (1, 1, false), (2, 1, false), (3, 1, false)], [.int .i64, .int .i64, .bool, .int .u8], false⟩),
 (9, ⟨1, 16, false, .str, [.str], false⟩),
 (10, ⟨1, 16, false, .str, [.str], false⟩),
 (11, ⟨1, 16, false, .str, [.str], false⟩),
 (12, ⟨1, 8, false, .int .u64, [.int .u64], false⟩),
 (13, ⟨2, 24, true, .struct [(0, 1, false), (1, 1, false)], [.str, .int .u64], false⟩),
 (14, ⟨2, 24, true, .struct [(0, 1, false), (1, 1, false)], [.str, .int .u64], false⟩),
 (18, ⟨1, 8, true, .struct [(0, 1, false)], [.ptr], false⟩),
 (19, ⟨1, 8, true, .struct [(0, 1, false)], [.ptr], false⟩),
 (21, ⟨1, 4, false, .int .i32, [.int .i32], false⟩),
 (22, ⟨1, 24, false, .slice 44, [.nil], false⟩),
 (23, ⟨2, 32, true, .struct [(0, 1, false), (1, 1, false)], [.bool, .nil], false⟩),
 (24, ⟨2, 32, true, .struct [(0, 1, false), (1, 1, false)], [.bool, .nil], false⟩),
 (27, ⟨1, 8, false, .int .i64, [.int .i64], false⟩),
 (30, ⟨1, 24, false, .slice 5, [.nil], false⟩),
 (41, ⟨1, 24, false, .slice 9, [.nil], false⟩),
 (44, ⟨1, 4, false, .int .u32, [.int .u32], false⟩),
 (47, ⟨2, 32, true, .struct [(0, 1, false), (1, 1, false)], [.ptr, .nil], false⟩),
 (48, ⟨2, 32, true, .struct [(0, 1, false), (1, 1, false)], [.ptr, .nil], false⟩),
 (58, ⟨1, 8, false, .int .u64, [.int .u64], false⟩),
 (59, ⟨1, 8, false, .int .u64, [.int .u64], false⟩),
 (60, ⟨4, 32, true, .array 4 3, [.int .i64, .int .i64, .int .i64, .int .i64], false⟩),
 (83, ⟨256, 256, true, .array 256 4, [.bool, .bool, .bool, .bool, .bool, .bool, .bool, .bool, .bool, .bool, .bool, .bool, .bool, .bool, .bool, .bool, .bool, .bool, .bool, .bool, .bool, .bool, .bool, .bool, .bool, .bool, .bool, .bool, .bool, .bool, .bool, .bool, .bool, .bool, .bool, .bool, .bool, .bool, .bool, .bool, .bool, .bool, .bool, .bool, .bool, .bool, .bool, .bool, .bool, .bool, .bool, .bool, .bool, .bool, .bool, .bool, .bool, .bool, .bool, .bool, .bool, .bool, .bool, .bool, .bool, .bool, .bool, .bool, .bool, .bool, .bool, .bool, .bool, .bool, .bool, .bool, .bool, .bool, .bool, .bool, .bool, .bool, .bool, .bool, .bool, .bool, .bool, .bool, .bool, .bool, .bool, .bool, .bool, .bool, .bool, .bool, .bool, .bool, .bool, .bool, .bool, .bool, .bool, .bool, .bool, .bool, .bool, .bool, .bool, .bool, .bool, .bool, .bool, .bool, .bool, .bool, .bool, .bool, .bool, .bool, .bool, .bool, .bool, .bool, .bool, .bool, .bool, .bool, .bool, .bool, .bool, .bool, .bool, .bool, .bool, .bool, .bool, .bool, .bool, .bool, .bool, .bool, .bool, .bool, .bool, .bool, .bool, .bool, .bool, .bool, .bool, .bool, .bool, .bool, .bool, .bool, .bool, .bool, .bool, .bool, .bool, .bool, .bool, .bool, .bool, .bool, .bool, .bool, .bool, .bool, .bool, .bool, .bool, .bool, .bool, .bool, .bool, .bool, .bool, .bool, .bool, .bool, .bool, .bool, .bool, .bool, .bool, .bool, .bool, .bool, .bool, .bool, .bool, .bool, .bool, .bool, .bool, .bool, .bool, .bool, .bool, .bool, .bool, .bool, .bool, .bool, .bool, .bool, .bool, .bool, .bool, .bool, .bool, .bool, .bool, .bool, .bool, .bool, .bool, .bool, .bool, .bool, .bool, .bool, .bool, .bool, .bool, .bool, .bool, .bool, .bool, .bool, .bool, .bool, .bool, .bool, .bool, .bool, .bool, .bool, .bool, .bool, .bool, .bool, .bool, .bool, .bool, .bool, .bool, .bool, .bool, .bool, .bool, .bool, .bool, .bool], false⟩),
 (84, ⟨256, 256, true, .array 256 4, [.bool, .bool, .bool, .bool, .bool, .bool, .bool, .bool, .bool, .bool, .bool, .bool, .bool, .bool, .bool, .bool, .bool, .bool, .bool, .bool, .bool, .bool, .bool, .bool, .bool, .bool, .bool, .bool, .bool, .bool, .bool, .bool, .bool, .bool, .bool, .bool, .bool, .bool, .bool, .bool, .bool, .bool, .bool, .bool, .bool, .bool, .bool, .bool, .bool, .bool, .bool, .bool, .bool, .bool, .bool, .bool, .bool, .bool, .bool, .bool, .bool, .bool, .bool, .bool, .bool, .bool, .bool, .bool, .bool, .bool, .bool, .bool, .bool, .bool, .bool, .bool, .bool, .bool, .bool, .bool, .bool, .bool, .bool, .bool, .bool, .bool, .bool, .bool, .bool, .bool, .bool, .bool, .bool, .bool, .bool, .bool, .bool, .bool, .bool, .bool, .bool, .bool, .bool, .bool, .bool, .bool, .bool, .bool, .bool, .bool, .bool, .bool, .bool, .bool, .bool, .bool, .bool, .bool, .bool, .bool, .bool, .bool, .bool, .bool, .bool, .bool, .bool, .bool, .bool, .bool, .bool, .bool, .bool, .bool, .bool, .bool, .bool, .bool, .bool, .bool, .bool, .bool, .bool, .bool, .bool, .bool, .bool, .bool, .bool, .bool, .bool, .bool, .bool, .bool, .bool, .bool, .bool, .bool, .bool, .bool, .bool, .bool, .bool, .bool, .bool, .bool, .bool, .bool, .bool, .bool, .bool, .bool, .bool, .bool, .bool, .bool, .bool, .bool, .bool, .bool, .bool, .bool, .bool, .bool, .bool, .bool, .bool, .bool, .bool, .bool, .bool, .bool, .bool, .bool, .bool, .bool, .bool, .bool, .bool, .bool, .bool, .bool, .bool, .bool, .bool, .bool, .bool, .bool, .bool, .bool, .bool, .bool, .bool, .bool, .bool, .bool, .bool, .bool, .bool, .bool, .bool, .bool, .bool, .bool, .bool, .bool, .bool, .bool, .bool, .bool, .bool, .bool, .bool, .bool, .bool, .bool, .bool, .bool, .bool, .bool, .bool, .bool, .bool, .bool, .bool, .bool, .bool, .bool, .bool, .bool, .bool, .bool, .bool, .bool, .bool, .bool], false⟩),
 (93, ⟨24, 24, true, .array 24 5, [.int .u8, .int .u8, .int .u8, .int .u8, .int .u8, .int .u8, .int .u8, .int .u8, .int .u8, .int .u8, .int .u8, .int .u8, .int .u8, .int .u8, .int .u8, .int .u8, .int .u8, .int .u8, .int .u8, .int .u8, .int .u8, .int .u8, .int .u8, .int .u8], false⟩),
 (108, ⟨20, 160, true, .array 20 58, [.int .u64, .int .u64, .int .u64, .int .u64, .int .u64, .int .u64, .int .u64, .int .u64, .int .u64, .int .u64, .int .u64, .int .u64, .int .u64, .int .u64, .int .u64, .int .u64, .int .u64, .int .u64, .int .u64, .int .u64], false⟩),
 (109, ⟨65, 65, true, .array 65 5, [.int .u8, .int .u8, .int .u8, .int .u8, .int .u8, .int .u8, .int .u8, .int .u8, .int .u8, .int .u8, .int .u8, .int .u8, .int .u8, .int .u8, .int .u8, .int .u8, .int .u8, .int .u8, .int .u8, .int .u8, .int .u8, .int .u8, .int .u8, .int .u8, .int .u8, .int .u8, .int .u8, .int .u8, .int .u8, .int .u8, .int .u8, .int .u8, .int .u8, .int .u8, .int .u8, .int .u8, .int .u8, .int .u8, .int .u8, .int .u8, .int .u8, .int .u8, .int .u8, .int .u8, .int .u8, .int .u8, .int .u8, .int .u8, .int .u8, .int .u8, .int .u8, .int .u8, .int .u8, .int .u8, .int .u8, .int .u8, .int .u8, .int .u8, .int .u8, .int .u8, .int .u8, .int .u8, .int .u8, .int .u8, .int .u8], false⟩),
 (114, ⟨1, 8, false, .int .i64, [.int .i64], false⟩),
 (121, ⟨2, 2, true, .struct [(0, 1, false), (1, 1, false)], [.int .u8, .int .u8], false⟩),
 (122, ⟨2, 2, true, .struct [(0, 1, false), (1, 1, false)], [.int .u8, .int .u8], false⟩),
 (123, ⟨32, 32, true, .array 16 122, [.int .u8, .int .u8, .int .u8, .int .u8, .int .u8, .int .u8, .int .u8, .int .u8, .int .u8, .int .u8, .int .u8, .int .u8, .int .u8, .int .u8, .int .u8, .int .u8, .int .u8, .int .u8, .int .u8, .int .u8, .int .u8, .int .u8, .int .u8, .int .u8, .int .u8, .int .u8, .int .u8, .int .u8, .int .u8, .int .u8, .int .u8, .int .u8], false⟩),
 (128, ⟨3, 48, true, .struct [(0, 1, false), (1, 1, false), (2, 1, false)], [.str, .str, .iface], false⟩),
 (129, ⟨3, 48, true, .struct [(0, 1, false), (1, 1, false), (2, 1, false)], [.str, .str, .iface], false⟩),
 (131, ⟨32, 32, true, .array 32 5, [.int .u8, .int .u8, .int .u8, .int .u8, .int .u8, .int .u8, .int .u8, .int .u8, .int .u8, .int .u8, .int .u8, .int .u8, .int .u8, .int .u8, .int .u8, .int .u8, .int .u8, .int .u8, .int .u8, .int .u8, .int .u8, .int .u8, .int .u8, .int .u8, .int .u8, .int .u8, .int .u8, .int .u8, .int .u8, .int .u8, .int .u8, .int .u8], false⟩),
 (132, ⟨64, 64, true, .array 64 5, [.int .u8, .int .u8, .int .u8, .int .u8, .int .u8, .int .u8, .int .u8, .int .u8, .int .u8, .int .u8, .int .u8, .int .u8, .int .u8, .int .u8, .int .u8, .int .u8, .int .u8, .int .u8, .int .u8, .int .u8, .int .u8, .int .u8, .int .u8, .int .u8, .int .u8, .int .u8, .int .u8, .int .u8, .int .u8, .int .u8, .int .u8, .int .u8, .int .u8, .int .u8, .int .u8, .int .u8, .int .u8, .int .u8, .int .u8, .int .u8, .int .u8, .int .u8, .int .u8, .int .u8, .int .u8, .int .u8, .int .u8, .int .u8, .int .u8, .int .u8, .int .u8, .int .u8, .int .u8, .int .u8, .int .u8, .int .u8, .int .u8, .int .u8, .int .u8, .int .u8, .int .u8, .int .u8, .int .u8, .int .u8], false⟩),
 (134, ⟨1, 16, true, .struct [(0, 1, false)], [.str], false⟩),
 (135, ⟨1, 16, true, .struct [(0, 1, false)], [.str], false⟩),
 (137, ⟨4, 40, true, .struct [(0, 1, false), (1, 1, false), (2, 1, false), (3, 1, false)], [.ptr, .ptr, .ptr, .str], false⟩),
 (138, ⟨4, 40, true, .struct [(0, 1, false), (1, 1, false), (2, 1, false), (3, 1, false)], [.ptr, .ptr, .ptr, .str], false⟩),
 (139, ⟨0, 0, true, .array 0 16, [], false⟩),
 (142, ⟨1, 1, false, .int .u8, [.int .u8], false⟩),
 (143, ⟨1, 1, false, .int .u8, [.int .u8], false⟩),
 (145, ⟨1, 4, false, .int .i32, [.int .i32], false⟩),
 (146, ⟨1, 4, false, .int .i32, [.int .i32], false⟩),
 (147, ⟨11, 48, true, .struct [(0, 1, false), (1, 1, false), (2, 1, false), (3, 1, false), (4, 1, false), (5, 1, false), (6, 1, false), (7, 1, false), (8, 1, false), (9, 1, false), (10, 1, false)], [.int .u64, .int .u64, .int .u32, .int .u8, .int .u8, .int .u8, .int .u8, .func, .ptr, .int .i32, .int .i32], false⟩),
 (148, ⟨11, 48, true, .struct [(0, 1, false), (1, 1, false), (2, 1, false), (3, 1, false), (4, 1, false), (5, 1, false), (6, 1, false), (7, 1, false), (8, 1, false), (9, 1, false), (10, 1, false)], [.int .u64, .int .u64, .int .u32, .int .u8, .int .u8, .int .u8, .int .u8, .func, .ptr, .int .i32, .int .i32], false⟩)]
def tab : Tab := lk amy
theorem aki : (amy.all fun x => x.2.chk Go.Proofs.Tryd.prog x.1) = true := by kernel_rfl
theorem gr {α : Type} : ∀ {l : List (Nat × α)} {t : Nat} {y : α}, lk l t = some y → (t, y) ∈ l
 | [], _, _, h => by simp [lk] at h
 | (k, x) :: l, t, y, h => by
  simp only [lk] at h
  split at h
  ·rename_i e; subst e; cases h; simp
  ·exact List.mem_cons_of_mem _ (gr h)
theorem ay : bw Go.Proofs.Tryd.prog tab := ⟨fun t y h => List.all_eq_true.1 aki (t, y) (gr h), by kernel_rfl⟩
end Go.Ev.Ar

namespace Go.Ev.Ar
open Go Go.Ev
def alg : List Int := [0, 1, 56, 2, 57, 49, 28, 3, 61, 58, 42, 50, 38, 29, 17, 4, 62, 47, 59, 36, 45, 43, 51, 22, 53, 39, 33, 30, 24, 18, 12, 5, 63, 55, 48, 27, 60, 41, 37, 16, 46, 35, 44, 21, 52, 32, 23, 11, 54, 26, 40, 15, 34, 20, 31, 10, 25, 14, 19, 9, 13, 8, 7, 6]
abbrev alf : List D := alg.map (D.int .u8)
def ah1 : List Int := [1, 10, 100, 1000, 10000, 100000, 1000000, 10000000, 100000000, 1000000000, 10000000000, 100000000000, 1000000000000, 10000000000000, 100000000000000, 1000000000000000, 10000000000000000, 100000000000000000, 1000000000000000000, 10000000000000000000]
abbrev adr : List D := ah1.map (D.int .u64)
end Go.Ev.Ar

namespace Go.Ev.Ar
open Go Go.Ev Go.Proofs
abbrev G0 : bj := fun | 0 => adr | 6 => am1 | 7 => alf | _ => []
def at_ (l : List UInt32) (i : Int) : Nat := if 0 ≤ i then (l.getD i.toNat 0).toNat else 0
theorem sr (l : List UInt32) (i : Int) : at_ l i < 4294967296 := by unfold at_; split <;> first | exact ck _ | decide
theorem nm (l : List UInt32) (i : Nat) : at_ l i = (l.getD i 0).toNat := by unfold at_; simp
theorem y3 (l : List UInt32) (i : Int) : Sim Tryd.prog G0 true 61 [sl l, .int .i64 i] (.int .u64 (at_ l i)) := by
 refine cl ay Tryd.func61 ?_
 repeat' ((conv => whnf); first | refine rgE ?_ | refine Cd.mk rfl ?_ | refine Br.t ?_ | refine Br.f ?_ | with_reducible refine Br.dec (fun _ => ?_) (fun _ => ?_) | refine ao.mk _ (a6 _ _ (by omega)) ?_ | refine Res.mk ?_ | ((with_reducible refine EqE.idW ?_); with_reducible refine EqE.mk _ (av _) ?_) | refine Cd.om ?_)
 ·show _ = D.int _ _; unfold at_; rw [if_neg (by omega)]; rfl
 ·show _ = D.int _ _; unfold at_; rw [if_pos (by omega), n4 (by omega)]; rfl
 ·show _ = D.int _ _; unfold at_; rw [if_pos (by omega)]
theorem fm (l : List UInt32) (hl : l.length < 2^40) : Sim Tryd.prog G0 false 30 [sl l] (sl (ofN (nv l))) := by
 refine cl ay Tryd.func30 ?_
 repeat' ((conv => whnf); first | refine rgE ?_)
 refine ⟨[], [0], [], fun m xs h => ∃ l' : List UInt32, m = l'.length ∧ m ≤ l.length ∧ nv l' = nv l ∧ xs = [.d (sl l')] ∧ h = [], ⟨_, _, _, ⟨.inl rfl, rfl, rfl, rfl⟩, l, rfl, Nat.le_refl _, rfl, rfl, rfl⟩, ?_⟩
 rintro m xs h ⟨l', rfl, hle, hcut, rfl, rfl⟩
 repeat' ((conv => whnf); first | refine rgE ?_ | refine Cd.mk rfl ?_ | refine Br.t ?_ | refine Br.f ?_ | with_reducible refine Br.dec (fun _ => ?_) (fun _ => ?_) | refine ao.mk _ (a6 _ _ (by omega)) ?_ | refine Res.mk ?_ | refine ai.cu _ _ ?_ | ((with_reducible refine EqE.idW ?_); with_reducible refine EqE.mk _ (ah (by omega) (by omega)) ?_) | ((with_reducible refine EqE.idL ?_); refine EqE.mk _ (bn _ _ _ (by omega) (by omega) (by omega)) ?_) | refine Cd.om ?_)
 ·rename_i h0 h1
  refine ⟨_, ⟨_, rfl, by simp; omega, ?_, rfl, rfl⟩, by simp; omega⟩
  have e : ((l'.length : Int) - 1).toNat = l'.length - 1 := by omega
  rw [e] at h1
  simp only [Int.sub_zero, e, Int.toNat_zero, List.drop_zero]
  rw [adf (by intro e; simp [e] at h0) (by omega), hcut]
 ·rename_i h0 h1
  have e : ((l'.length : Int) - 1).toNat = l'.length - 1 := by omega
  show _ = sl l'
  rw [← hcut, zt (.inr (by rw [← e]; omega))]
 ·rename_i h0
  show _ = sl l'
  rw [← hcut, zt (.inl (List.eq_nil_of_length_eq_zero (by omega)))]
theorem ai4 (a b : List UInt32) (ha : a.length < 2^30) (hb : b.length < 2^30) : Sim Tryd.prog G0 false 60 [sl a, sl b] (sl (ofN (nv a + nv b))) := by
 refine cl ay Tryd.func60 ?_
 repeat' ((conv => whnf); first | refine rgE ?_ | refine Cd.mk rfl ?_ | ((with_reducible refine EqE.idW ?_); with_reducible refine EqE.mk _ (ar _ (by omega)) ?_) | ((with_reducible refine EqE.idI ?_); with_reducible refine EqE.mk _ (b9 _ _) ?_) | ((with_reducible refine EqE.idR ?_); refine EqE.mk _ (ca _) ?_) | refine Cd.om ?_)
 refine ⟨[], [0,1,5,6,16,17], [14], fun m xs h => ∃ (n i c : Nat) (l : List UInt32), m = n - i ∧ n = max a.length b.length + 1 ∧ i ≤ n ∧ c ≤ 1 ∧ l.length = n ∧ nv l + Pw i * c = nv (a.take i) + nv (b.take i) ∧ (∀ j, i ≤ j → (l.getD j 0).toNat = 0) ∧
  xs = [.d (sl a), .d (sl b), .own 14 0 n 1, .d (.int .u64 c), .d (.int .i64 n), .d (.int .i64 i)] ∧ h = [(14, false, la l)],
  ⟨_, _, _, ⟨.inl rfl, rfl, rfl, by first | rfl | (repeat first | exact all_nil _ | refine cz _ _ _ _ _ ?_)⟩, _, 0, 0, _, rfl, by omega, by omega, by omega, by simp, by simp [dw], fun j _ => n5 _ _, rfl, rfl⟩, ?_⟩
 rintro m xs h ⟨n, i, c, l, rfl, hn, hi, hc, hl, hv, hz, rfl, rfl⟩
 have hxa := sr a i
 have hxb := sr b i
 repeat' ((conv => whnf); first | refine aw.data ?_ | refine fv.mk _ _ (y3 _ _) ?_ | refine fv.mk _ _ (fm _ (by omega)) ?_ | refine rgE ?_ | refine Cd.mk rfl ?_ | with_reducible refine Br.dec (fun _ => ?_) (fun _ => ?_) | refine Res.mk ?_ | refine DsE.mk (ba _) rfl ?_ | refine ai.cu _ _ ?_ | ((with_reducible refine EqE.idW ?_); first | with_reducible refine EqE.mk _ (ed _ _ (by omega)) ?_ | with_reducible refine EqE.mk _ (cc _) ?_ | with_reducible refine EqE.mk _ (ar _ (by omega)) ?_) | ((with_reducible refine EqE.idF ?_); refine EqE.mk _ (aj _ 4294967296 _ _ rfl) ?_) | ((with_reducible refine EqE.idS ?_); refine EqE.mk _ (bo _ _ _ _ (by first | with_reducible exact af _ | with_reducible exact ab _ | exact af _ | exact ab _ | rfl) (by first | omega | (simp only [List.length_set]; omega)) (by omega)) ?_) | ((with_reducible refine EqE.idL ?_); refine EqE.mk _ (ax _ _ _ _ (by omega) (by omega) rfl) ?_) | refine Cd.om ?_)
 ·rename_i h0
  refine ⟨_, ⟨n, i + 1, (c + (at_ a i + at_ b i)) / 4294967296, _, rfl, hn, by omega, by omega, ?_, ?_, ?_, rfl, rfl⟩, by omega⟩
  ·simp [hl]
  ·have hz := hz i (Nat.le_refl _)
   rw [q7 (by omega) hz (by omega), bp, bp, fk, Nat.add_assoc, ly, nm, nm, Nat.mul_add, Nat.mul_add]
   omega
  ·intro j hj
   rw [getD_set_ne (by omega)]; exact hz j (by omega)
 ·rename_i h0
  show _ = sl _
  have e : i = n := by omega
  have h1 := gk a
  have h2 := gk b
  have h3 := im (show a.length ≤ n - 1 by omega)
  have h4 := im (show b.length ≤ n - 1 by omega)
  have h5 := fk (n - 1)
  rw [show n - 1 + 1 = n by omega] at h5
  rw [List.take_of_length_le (by omega), List.take_of_length_le (by omega), e] at hv
  have : c = 0 := by
   rcases (show c = 0 ∨ c = 1 by omega) with h | h
   ·exact h
   ·subst h; omega
  subst this
  rw [← hv]; rfl
end Go.Ev.Ar

-- STR
namespace Go.Ev.Ar
open Go Go.Ev Go.Proofs
theorem n48 {x : UInt8} : ((x.toNat : Nat) : Int) = 48 ↔ x = 48 := by
 constructor
 ·intro h; exact UInt8.toNat_inj.1 (by have : (48 : UInt8).toNat = 48 := rfl; omega)
 ·rintro rfl; rfl
theorem rk (l : List UInt8) (hl : l.length < 4611686018427387904) : Sim Tryd.prog G0 true 54 [.str (bst l), .int .u8 48] (.str (bst (l.dropWhile (· == 48)))) := by
  refine cl ay Tryd.func54 ?_
  repeat' ((conv => whnf); first | refine aw.data ?_ | refine rgE ?_ | refine Cd.mk rfl ?_ | refine Br.t ?_ | refine Br.f ?_ | with_reducible refine Br.dec (fun _ => ?_) (fun _ => ?_) | with_reducible refine Br.br (fun _ => ?_) (fun _ => ?_) | refine Br.mk (fun _ => ?_) (fun _ => ?_) | refine ao.mk _ (az _ _ (by omega)) ?_ | refine ao.mk _ (a6 _ _ (by omega)) ?_ | refine ao.mk _ (cv _ _ _ (by first | with_reducible exact af _ | with_reducible exact ab _ | exact af _ | exact ab _ | rfl) (by first | omega | (simp only [List.length_set]; omega))) ?_ | refine ao.mk _ rfl ?_ | refine And.intro (fun _ => ?_) ?_ | (refine TkE.fL ?_; (conv => whnf); fail_if_success (show ag _ _)) | refine TkE.mk _ rfl rfl ?_ | refine Res.mk ?_ | refine a8.mk (by repeat first | exact True.intro | refine And.intro (by kernel_rfl) ?_) ?_ | refine DsE.mk (ba _) rfl ?_ | refine DsE.mk [] rfl ?_ | refine ai.cu _ _ ?_ | ((with_reducible refine EqE.idT ?_); first | ((conv => arg 1; simp only [ak, List.toList_toArray, an, ae, aa, Int.toNat_natCast, Int.toNat_zero, Int.toNat_one, b4, b5, List.drop_zero, Nat.sub_zero, List.cons_append, List.nil_append]); refine EqE.mk _ rfl ?_) | refine EqE.mk _ rfl ?_) | ((with_reducible refine EqE.idP ?_); first | ((conv => arg 1; simp only [ak, List.toList_toArray, bz, b3]); refine EqE.mk _ rfl ?_) | refine EqE.mk _ rfl ?_) | ((with_reducible refine EqE.idN ?_); first | ((conv => arg 1; simp only [ak, List.toList_toArray, aa, bb, Int.toNat_natCast, Int.toNat_zero, Int.toNat_one, List.length_cons, List.length_nil, Nat.zero_add]); refine EqE.mk _ rfl ?_)) | ((with_reducible refine EqE.idW ?_); first | with_reducible refine EqE.mk _ (av _) ?_ | with_reducible refine EqE.mk _ (ed _ _ (by omega)) ?_ | with_reducible refine EqE.mk _ (bx _ (by omega)) ?_ | with_reducible refine EqE.mk _ (et _ _ (by omega) (by omega)) ?_ | with_reducible refine EqE.mk _ (ep _ _ (by omega)) ?_ | with_reducible refine EqE.mk _ (eg _ _ (by omega) (by omega)) ?_ | with_reducible refine EqE.mk _ (c6 _ (by omega)) ?_ | with_reducible refine EqE.mk _ (dd _ (by omega)) ?_ | with_reducible refine EqE.mk _ (n_and1_32 _ (by omega)) ?_ | with_reducible refine EqE.mk _ (eo _ _ (by omega) (by omega)) ?_ | with_reducible refine EqE.mk _ (ig _ _ (by omega) (by omega)) ?_ | refine EqE.mk _ (er _ 32 (by omega)) ?_ | with_reducible refine EqE.mk _ (cc _) ?_ | with_reducible refine EqE.mk _ (gu _) ?_ | with_reducible refine EqE.mk _ (ey _ (by omega)) ?_ | with_reducible refine EqE.mk _ (a7 _ (by omega)) ?_ | with_reducible refine EqE.mk _ (ar _ (by omega)) ?_ | with_reducible refine EqE.mk _ (n_iadd _ _ (by omega)) ?_ | with_reducible refine EqE.mk _ (wrap_u64 (by omega) (by omega)) ?_ | with_reducible refine EqE.mk _ (wrap_u32 _) ?_ | with_reducible refine EqE.mk _ (ah (by omega) (by omega)) ?_ | refine EqE.mk _ rfl ?_) | ((with_reducible refine EqE.idF ?_); first | with_reducible refine EqE.mk _ (n_shr63 _) ?_ | with_reducible refine EqE.mk _ (cg _ _ (by omega)) ?_ | with_reducible refine EqE.mk _ (n_shrv32 _ _ (by omega)) ?_ | with_reducible refine EqE.mk _ (n_shr1_32 _) ?_ | refine EqE.mk _ (aj _ 4294967296 _ _ rfl) ?_ | refine EqE.mk _ (aj _ 65536 _ _ rfl) ?_ | refine EqE.mk _ (aj _ 256 _ _ rfl) ?_ | refine EqE.mk _ (aj _ 134217728 _ _ rfl) ?_ | refine EqE.mk _ (aj _ 2 _ _ rfl) ?_ | refine EqE.mk _ (aj _ 16 _ _ rfl) ?_ | refine EqE.mk _ rfl ?_) | ((with_reducible refine EqE.idM ?_); first | refine EqE.mk _ (bm _ 32) ?_ | refine EqE.mk _ (bm _ _) ?_ | refine EqE.mk _ rfl ?_) | ((with_reducible refine EqE.idI ?_); first | refine EqE.mk _ (ib _) ?_ | with_reducible refine EqE.mk _ (b9 _ _) ?_ | refine EqE.mk _ (max_eq _ _) ?_ | refine EqE.mk _ (min_eq _ _) ?_) | ((with_reducible refine EqE.idS ?_); first | refine EqE.mk _ (bo _ _ _ _ (by first | with_reducible exact af _ | with_reducible exact ab _ | exact af _ | exact ab _ | rfl) (by first | omega | (simp only [List.length_set]; omega)) (by omega)) ?_ | refine EqE.mk _ (db _ _ _ _ (by first | with_reducible exact af _ | with_reducible exact ab _ | exact af _ | exact ab _ | rfl) (by omega) (by omega) (by omega)) ?_ | (refine EqE.fP ?_; (conv => whnf); fail_if_success (show ag _ _)) | refine EqE.mk _ rfl ?_) | ((with_reducible refine EqE.idA ?_); first | refine EqE.mk _ (b8 _) ?_ | refine EqE.mk _ (da _ _) ?_ | refine EqE.mk _ rfl ?_) | ((with_reducible refine EqE.idR ?_); first | refine EqE.mk _ (ca _) ?_ | refine EqE.mk _ rfl ?_) | ((with_reducible refine EqE.idL ?_); first | refine EqE.mk _ (ax _ _ _ _ (by omega) (by omega) rfl) ?_ | refine EqE.mk _ (sl_sliceN _ _ (by omega)) ?_ | refine EqE.mk _ (bn _ _ _ (by omega) (by omega) (by omega)) ?_ | refine EqE.mk _ rfl ?_) | refine EqE.mk _ rfl ?_ | refine Cd.ro ?_ | refine Cd.dc ?_ | refine Cd.ob ?_ | refine Cd.ol ?_ | refine Cd.mk ⟨rfl, rfl⟩ ?_ | refine Cd.mk (bd _) ?_ | refine Cd.om ?_ | refine Cd.mk ?_ ?_ | refine DsE.mk [_] rfl ?_ | refine DsE.mk [_, _, _] rfl ?_)
  refine ⟨[], [0, 1], [], fun m xs h => ∃ r : List UInt8, m = r.length ∧ r.length ≤ l.length ∧ r.dropWhile (· == 48) = l.dropWhile (· == 48) ∧ xs = [.d (.str (bst r)), .d (.int .u8 48)] ∧ h = [],
    ⟨_, _, _, ⟨.inl rfl, rfl, rfl, by first | rfl | (repeat first | exact all_nil _ | refine cz _ _ _ _ _ ?_)⟩, l, rfl, Nat.le_refl _, rfl, rfl, rfl⟩, ?_⟩
  rintro m xs h ⟨r, rfl, hr, hd, rfl, rfl⟩
  cases r with
  | nil =>
    repeat' ((conv => whnf); first | refine aw.data ?_ | with_reducible refine Br.bf fun _ => ?_ | refine rgE ?_ | refine Cd.mk rfl ?_ | refine Br.t ?_ | refine Br.f ?_ | with_reducible refine Br.dec (fun _ => ?_) (fun _ => ?_) | with_reducible refine Br.br (fun _ => ?_) (fun _ => ?_) | refine Br.mk (fun _ => ?_) (fun _ => ?_) | refine ao.mk _ (az _ _ (by omega)) ?_ | refine ao.mk _ (a6 _ _ (by omega)) ?_ | refine ao.mk _ (cv _ _ _ (by first | with_reducible exact af _ | with_reducible exact ab _ | exact af _ | exact ab _ | rfl) (by first | omega | (simp only [List.length_set]; omega))) ?_ | refine ao.mk _ rfl ?_ | refine And.intro (fun _ => ?_) ?_ | (refine TkE.fL ?_; (conv => whnf); fail_if_success (show ag _ _)) | refine TkE.mk _ rfl rfl ?_ | refine Res.mk ?_ | refine a8.mk (by repeat first | exact True.intro | refine And.intro (by kernel_rfl) ?_) ?_ | refine DsE.mk (ba _) rfl ?_ | refine DsE.mk [] rfl ?_ | refine ai.cu _ _ ?_ | ((with_reducible refine EqE.idT ?_); first | ((conv => arg 1; simp only [ak, List.toList_toArray, an, ae, aa, Int.toNat_natCast, Int.toNat_zero, Int.toNat_one, b4, b5, List.drop_zero, Nat.sub_zero, List.cons_append, List.nil_append]); refine EqE.mk _ rfl ?_) | refine EqE.mk _ rfl ?_) | ((with_reducible refine EqE.idP ?_); first | ((conv => arg 1; simp only [ak, List.toList_toArray, bz, b3]); refine EqE.mk _ rfl ?_) | refine EqE.mk _ rfl ?_) | ((with_reducible refine EqE.idN ?_); first | ((conv => arg 1; simp only [ak, List.toList_toArray, aa, bb, Int.toNat_natCast, Int.toNat_zero, Int.toNat_one, List.length_cons, List.length_nil, Nat.zero_add]); refine EqE.mk _ rfl ?_)) | ((with_reducible refine EqE.idW ?_); first | with_reducible refine EqE.mk _ (av _) ?_ | with_reducible refine EqE.mk _ (ed _ _ (by omega)) ?_ | with_reducible refine EqE.mk _ (bx _ (by omega)) ?_ | with_reducible refine EqE.mk _ (et _ _ (by omega) (by omega)) ?_ | with_reducible refine EqE.mk _ (ep _ _ (by omega)) ?_ | with_reducible refine EqE.mk _ (eg _ _ (by omega) (by omega)) ?_ | with_reducible refine EqE.mk _ (c6 _ (by omega)) ?_ | with_reducible refine EqE.mk _ (dd _ (by omega)) ?_ | with_reducible refine EqE.mk _ (n_and1_32 _ (by omega)) ?_ | with_reducible refine EqE.mk _ (eo _ _ (by omega) (by omega)) ?_ | with_reducible refine EqE.mk _ (ig _ _ (by omega) (by omega)) ?_ | refine EqE.mk _ (er _ 32 (by omega)) ?_ | with_reducible refine EqE.mk _ (cc _) ?_ | with_reducible refine EqE.mk _ (gu _) ?_ | with_reducible refine EqE.mk _ (ey _ (by omega)) ?_ | with_reducible refine EqE.mk _ (a7 _ (by omega)) ?_ | with_reducible refine EqE.mk _ (ar _ (by omega)) ?_ | with_reducible refine EqE.mk _ (n_iadd _ _ (by omega)) ?_ | with_reducible refine EqE.mk _ (wrap_u64 (by omega) (by omega)) ?_ | with_reducible refine EqE.mk _ (wrap_u32 _) ?_ | with_reducible refine EqE.mk _ (ah (by omega) (by omega)) ?_ | refine EqE.mk _ rfl ?_) | ((with_reducible refine EqE.idF ?_); first | with_reducible refine EqE.mk _ (n_shr63 _) ?_ | with_reducible refine EqE.mk _ (cg _ _ (by omega)) ?_ | with_reducible refine EqE.mk _ (n_shrv32 _ _ (by omega)) ?_ | with_reducible refine EqE.mk _ (n_shr1_32 _) ?_ | refine EqE.mk _ (aj _ 4294967296 _ _ rfl) ?_ | refine EqE.mk _ (aj _ 65536 _ _ rfl) ?_ | refine EqE.mk _ (aj _ 256 _ _ rfl) ?_ | refine EqE.mk _ (aj _ 134217728 _ _ rfl) ?_ | refine EqE.mk _ (aj _ 2 _ _ rfl) ?_ | refine EqE.mk _ (aj _ 16 _ _ rfl) ?_ | refine EqE.mk _ rfl ?_) | ((with_reducible refine EqE.idM ?_); first | refine EqE.mk _ (bm _ 32) ?_ | refine EqE.mk _ (bm _ _) ?_ | refine EqE.mk _ rfl ?_) | ((with_reducible refine EqE.idI ?_); first | refine EqE.mk _ (ib _) ?_ | with_reducible refine EqE.mk _ (b9 _ _) ?_ | refine EqE.mk _ (max_eq _ _) ?_ | refine EqE.mk _ (min_eq _ _) ?_) | ((with_reducible refine EqE.idS ?_); first | refine EqE.mk _ (bo _ _ _ _ (by first | with_reducible exact af _ | with_reducible exact ab _ | exact af _ | exact ab _ | rfl) (by first | omega | (simp only [List.length_set]; omega)) (by omega)) ?_ | refine EqE.mk _ (db _ _ _ _ (by first | with_reducible exact af _ | with_reducible exact ab _ | exact af _ | exact ab _ | rfl) (by omega) (by omega) (by omega)) ?_ | (refine EqE.fP ?_; (conv => whnf); fail_if_success (show ag _ _)) | refine EqE.mk _ rfl ?_) | ((with_reducible refine EqE.idA ?_); first | refine EqE.mk _ (b8 _) ?_ | refine EqE.mk _ (da _ _) ?_ | refine EqE.mk _ rfl ?_) | ((with_reducible refine EqE.idR ?_); first | refine EqE.mk _ (ca _) ?_ | refine EqE.mk _ rfl ?_) | ((with_reducible refine EqE.idL ?_); first | refine EqE.mk _ (ax _ _ _ _ (by omega) (by omega) rfl) ?_ | refine EqE.mk _ (sl_sliceN _ _ (by omega)) ?_ | refine EqE.mk _ (bn _ _ _ (by omega) (by omega) (by omega)) ?_ | refine EqE.mk _ rfl ?_) | refine EqE.mk _ rfl ?_ | refine Cd.ro ?_ | refine Cd.dc ?_ | refine Cd.ob ?_ | refine Cd.ol ?_ | refine Cd.mk ⟨rfl, rfl⟩ ?_ | refine Cd.mk (bd _) ?_ | refine Cd.om ?_ | refine Cd.mk ?_ ?_ | refine DsE.mk [_] rfl ?_ | refine DsE.mk [_, _, _] rfl ?_)
    show D.str _ = D.str _
    rw [← hd]; rfl
  | cons x r =>
    have hlen : (x :: r).length = r.length + 1 := rfl
    by_cases hx : x = 48
    · subst hx
      repeat' ((conv => whnf); first | refine aw.data ?_ | with_reducible refine Br.bt fun _ => ?_ | refine rgE ?_ | refine Cd.mk rfl ?_ | refine Br.t ?_ | refine Br.f ?_ | with_reducible refine Br.dec (fun _ => ?_) (fun _ => ?_) | with_reducible refine Br.br (fun _ => ?_) (fun _ => ?_) | refine Br.mk (fun _ => ?_) (fun _ => ?_) | refine ao.mk _ (az _ _ (by omega)) ?_ | refine ao.mk _ (a6 _ _ (by omega)) ?_ | refine ao.mk _ (cv _ _ _ (by first | with_reducible exact af _ | with_reducible exact ab _ | exact af _ | exact ab _ | rfl) (by first | omega | (simp only [List.length_set]; omega))) ?_ | refine ao.mk _ rfl ?_ | refine And.intro (fun _ => ?_) ?_ | (refine TkE.fL ?_; (conv => whnf); fail_if_success (show ag _ _)) | refine TkE.mk _ rfl rfl ?_ | refine Res.mk ?_ | refine a8.mk (by repeat first | exact True.intro | refine And.intro (by kernel_rfl) ?_) ?_ | refine DsE.mk (ba _) rfl ?_ | refine DsE.mk [] rfl ?_ | refine ai.cu _ _ ?_ | ((with_reducible refine EqE.idT ?_); first | ((conv => arg 1; simp only [ak, List.toList_toArray, an, ae, aa, Int.toNat_natCast, Int.toNat_zero, Int.toNat_one, b4, b5, List.drop_zero, Nat.sub_zero, List.cons_append, List.nil_append]); refine EqE.mk _ rfl ?_) | refine EqE.mk _ rfl ?_) | ((with_reducible refine EqE.idP ?_); first | ((conv => arg 1; simp only [ak, List.toList_toArray, bz, b3]); refine EqE.mk _ rfl ?_) | refine EqE.mk _ rfl ?_) | ((with_reducible refine EqE.idN ?_); first | ((conv => arg 1; simp only [ak, List.toList_toArray, aa, bb, Int.toNat_natCast, Int.toNat_zero, Int.toNat_one, List.length_cons, List.length_nil, Nat.zero_add]); refine EqE.mk _ rfl ?_)) | ((with_reducible refine EqE.idW ?_); first | with_reducible refine EqE.mk _ (av _) ?_ | with_reducible refine EqE.mk _ (ed _ _ (by omega)) ?_ | with_reducible refine EqE.mk _ (bx _ (by omega)) ?_ | with_reducible refine EqE.mk _ (et _ _ (by omega) (by omega)) ?_ | with_reducible refine EqE.mk _ (ep _ _ (by omega)) ?_ | with_reducible refine EqE.mk _ (eg _ _ (by omega) (by omega)) ?_ | with_reducible refine EqE.mk _ (c6 _ (by omega)) ?_ | with_reducible refine EqE.mk _ (dd _ (by omega)) ?_ | with_reducible refine EqE.mk _ (n_and1_32 _ (by omega)) ?_ | with_reducible refine EqE.mk _ (eo _ _ (by omega) (by omega)) ?_ | with_reducible refine EqE.mk _ (ig _ _ (by omega) (by omega)) ?_ | refine EqE.mk _ (er _ 32 (by omega)) ?_ | with_reducible refine EqE.mk _ (cc _) ?_ | with_reducible refine EqE.mk _ (gu _) ?_ | with_reducible refine EqE.mk _ (ey _ (by omega)) ?_ | with_reducible refine EqE.mk _ (a7 _ (by omega)) ?_ | with_reducible refine EqE.mk _ (ar _ (by omega)) ?_ | with_reducible refine EqE.mk _ (n_iadd _ _ (by omega)) ?_ | with_reducible refine EqE.mk _ (wrap_u64 (by omega) (by omega)) ?_ | with_reducible refine EqE.mk _ (wrap_u32 _) ?_ | with_reducible refine EqE.mk _ (ah (by omega) (by omega)) ?_ | refine EqE.mk _ rfl ?_) | ((with_reducible refine EqE.idF ?_); first | with_reducible refine EqE.mk _ (n_shr63 _) ?_ | with_reducible refine EqE.mk _ (cg _ _ (by omega)) ?_ | with_reducible refine EqE.mk _ (n_shrv32 _ _ (by omega)) ?_ | with_reducible refine EqE.mk _ (n_shr1_32 _) ?_ | refine EqE.mk _ (aj _ 4294967296 _ _ rfl) ?_ | refine EqE.mk _ (aj _ 65536 _ _ rfl) ?_ | refine EqE.mk _ (aj _ 256 _ _ rfl) ?_ | refine EqE.mk _ (aj _ 134217728 _ _ rfl) ?_ | refine EqE.mk _ (aj _ 2 _ _ rfl) ?_ | refine EqE.mk _ (aj _ 16 _ _ rfl) ?_ | refine EqE.mk _ rfl ?_) | ((with_reducible refine EqE.idM ?_); first | refine EqE.mk _ (bm _ 32) ?_ | refine EqE.mk _ (bm _ _) ?_ | refine EqE.mk _ rfl ?_) | ((with_reducible refine EqE.idI ?_); first | refine EqE.mk _ (ib _) ?_ | with_reducible refine EqE.mk _ (b9 _ _) ?_ | refine EqE.mk _ (max_eq _ _) ?_ | refine EqE.mk _ (min_eq _ _) ?_) | ((with_reducible refine EqE.idS ?_); first | refine EqE.mk _ (bo _ _ _ _ (by first | with_reducible exact af _ | with_reducible exact ab _ | exact af _ | exact ab _ | rfl) (by first | omega | (simp only [List.length_set]; omega)) (by omega)) ?_ | refine EqE.mk _ (db _ _ _ _ (by first | with_reducible exact af _ | with_reducible exact ab _ | exact af _ | exact ab _ | rfl) (by omega) (by omega) (by omega)) ?_ | (refine EqE.fP ?_; (conv => whnf); fail_if_success (show ag _ _)) | refine EqE.mk _ rfl ?_) | ((with_reducible refine EqE.idA ?_); first | refine EqE.mk _ (b8 _) ?_ | refine EqE.mk _ (da _ _) ?_ | refine EqE.mk _ rfl ?_) | ((with_reducible refine EqE.idR ?_); first | refine EqE.mk _ (ca _) ?_ | refine EqE.mk _ rfl ?_) | ((with_reducible refine EqE.idL ?_); first | refine EqE.mk _ (ax _ _ _ _ (by omega) (by omega) rfl) ?_ | refine EqE.mk _ (sl_sliceN _ _ (by omega)) ?_ | refine EqE.mk _ (bn _ _ _ (by omega) (by omega) (by omega)) ?_ | refine EqE.mk _ rfl ?_) | refine EqE.mk _ rfl ?_ | refine Cd.ro ?_ | refine Cd.dc ?_ | refine Cd.ob ?_ | refine Cd.ol ?_ | refine Cd.mk ⟨rfl, rfl⟩ ?_ | refine Cd.mk (bd _) ?_ | refine Cd.om ?_ | refine Cd.mk ?_ ?_ | refine DsE.mk [_] rfl ?_ | refine DsE.mk [_, _, _] rfl ?_)
      exact ⟨_, ⟨r, rfl, by omega, by rw [← hd]; rfl, rfl, rfl⟩, by omega⟩
    · have hx' := fun h => hx (n48.1 h)
      repeat' ((conv => whnf); first | refine aw.data ?_ | with_reducible refine Br.bt fun _ => ?_ | refine rgE ?_ | refine Cd.mk rfl ?_ | refine Br.t ?_ | refine Br.f ?_ | with_reducible refine Br.dec (fun _ => ?_) (fun _ => ?_) | with_reducible refine Br.br (fun _ => ?_) (fun _ => ?_) | refine Br.mk (fun _ => ?_) (fun _ => ?_) | refine ao.mk _ (az _ _ (by omega)) ?_ | refine ao.mk _ (a6 _ _ (by omega)) ?_ | refine ao.mk _ (cv _ _ _ (by first | with_reducible exact af _ | with_reducible exact ab _ | exact af _ | exact ab _ | rfl) (by first | omega | (simp only [List.length_set]; omega))) ?_ | refine ao.mk _ rfl ?_ | refine And.intro (fun _ => ?_) ?_ | (refine TkE.fL ?_; (conv => whnf); fail_if_success (show ag _ _)) | refine TkE.mk _ rfl rfl ?_ | refine Res.mk ?_ | refine a8.mk (by repeat first | exact True.intro | refine And.intro (by kernel_rfl) ?_) ?_ | refine DsE.mk (ba _) rfl ?_ | refine DsE.mk [] rfl ?_ | refine ai.cu _ _ ?_ | ((with_reducible refine EqE.idT ?_); first | ((conv => arg 1; simp only [ak, List.toList_toArray, an, ae, aa, Int.toNat_natCast, Int.toNat_zero, Int.toNat_one, b4, b5, List.drop_zero, Nat.sub_zero, List.cons_append, List.nil_append]); refine EqE.mk _ rfl ?_) | refine EqE.mk _ rfl ?_) | ((with_reducible refine EqE.idP ?_); first | ((conv => arg 1; simp only [ak, List.toList_toArray, bz, b3]); refine EqE.mk _ rfl ?_) | refine EqE.mk _ rfl ?_) | ((with_reducible refine EqE.idN ?_); first | ((conv => arg 1; simp only [ak, List.toList_toArray, aa, bb, Int.toNat_natCast, Int.toNat_zero, Int.toNat_one, List.length_cons, List.length_nil, Nat.zero_add]); refine EqE.mk _ rfl ?_)) | ((with_reducible refine EqE.idW ?_); first | with_reducible refine EqE.mk _ (av _) ?_ | with_reducible refine EqE.mk _ (ed _ _ (by omega)) ?_ | with_reducible refine EqE.mk _ (bx _ (by omega)) ?_ | with_reducible refine EqE.mk _ (et _ _ (by omega) (by omega)) ?_ | with_reducible refine EqE.mk _ (ep _ _ (by omega)) ?_ | with_reducible refine EqE.mk _ (eg _ _ (by omega) (by omega)) ?_ | with_reducible refine EqE.mk _ (c6 _ (by omega)) ?_ | with_reducible refine EqE.mk _ (dd _ (by omega)) ?_ | with_reducible refine EqE.mk _ (n_and1_32 _ (by omega)) ?_ | with_reducible refine EqE.mk _ (eo _ _ (by omega) (by omega)) ?_ | with_reducible refine EqE.mk _ (ig _ _ (by omega) (by omega)) ?_ | refine EqE.mk _ (er _ 32 (by omega)) ?_ | with_reducible refine EqE.mk _ (cc _) ?_ | with_reducible refine EqE.mk _ (gu _) ?_ | with_reducible refine EqE.mk _ (ey _ (by omega)) ?_ | with_reducible refine EqE.mk _ (a7 _ (by omega)) ?_ | with_reducible refine EqE.mk _ (ar _ (by omega)) ?_ | with_reducible refine EqE.mk _ (n_iadd _ _ (by omega)) ?_ | with_reducible refine EqE.mk _ (wrap_u64 (by omega) (by omega)) ?_ | with_reducible refine EqE.mk _ (wrap_u32 _) ?_ | with_reducible refine EqE.mk _ (ah (by omega) (by omega)) ?_ | refine EqE.mk _ rfl ?_) | ((with_reducible refine EqE.idF ?_); first | with_reducible refine EqE.mk _ (n_shr63 _) ?_ | with_reducible refine EqE.mk _ (cg _ _ (by omega)) ?_ | with_reducible refine EqE.mk _ (n_shrv32 _ _ (by omega)) ?_ | with_reducible refine EqE.mk _ (n_shr1_32 _) ?_ | refine EqE.mk _ (aj _ 4294967296 _ _ rfl) ?_ | refine EqE.mk _ (aj _ 65536 _ _ rfl) ?_ | refine EqE.mk _ (aj _ 256 _ _ rfl) ?_ | refine EqE.mk _ (aj _ 134217728 _ _ rfl) ?_ | refine EqE.mk _ (aj _ 2 _ _ rfl) ?_ | refine EqE.mk _ (aj _ 16 _ _ rfl) ?_ | refine EqE.mk _ rfl ?_) | ((with_reducible refine EqE.idM ?_); first | refine EqE.mk _ (bm _ 32) ?_ | refine EqE.mk _ (bm _ _) ?_ | refine EqE.mk _ rfl ?_) | ((with_reducible refine EqE.idI ?_); first | refine EqE.mk _ (ib _) ?_ | with_reducible refine EqE.mk _ (b9 _ _) ?_ | refine EqE.mk _ (max_eq _ _) ?_ | refine EqE.mk _ (min_eq _ _) ?_) | ((with_reducible refine EqE.idS ?_); first | refine EqE.mk _ (bo _ _ _ _ (by first | with_reducible exact af _ | with_reducible exact ab _ | exact af _ | exact ab _ | rfl) (by first | omega | (simp only [List.length_set]; omega)) (by omega)) ?_ | refine EqE.mk _ (db _ _ _ _ (by first | with_reducible exact af _ | with_reducible exact ab _ | exact af _ | exact ab _ | rfl) (by omega) (by omega) (by omega)) ?_ | (refine EqE.fP ?_; (conv => whnf); fail_if_success (show ag _ _)) | refine EqE.mk _ rfl ?_) | ((with_reducible refine EqE.idA ?_); first | refine EqE.mk _ (b8 _) ?_ | refine EqE.mk _ (da _ _) ?_ | refine EqE.mk _ rfl ?_) | ((with_reducible refine EqE.idR ?_); first | refine EqE.mk _ (ca _) ?_ | refine EqE.mk _ rfl ?_) | ((with_reducible refine EqE.idL ?_); first | refine EqE.mk _ (ax _ _ _ _ (by omega) (by omega) rfl) ?_ | refine EqE.mk _ (sl_sliceN _ _ (by omega)) ?_ | refine EqE.mk _ (bn _ _ _ (by omega) (by omega) (by omega)) ?_ | refine EqE.mk _ rfl ?_) | refine EqE.mk _ rfl ?_ | refine Cd.ro ?_ | refine Cd.dc ?_ | refine Cd.ob ?_ | refine Cd.ol ?_ | refine Cd.mk ⟨rfl, rfl⟩ ?_ | refine Cd.mk (bd _) ?_ | refine Cd.om ?_ | refine Cd.mk ?_ ?_ | refine DsE.mk [_] rfl ?_ | refine DsE.mk [_, _, _] rfl ?_)
      · exact absurd (by assumption) hx'
      · show D.str _ = D.str _
        rw [← hd, List.dropWhile_cons, if_neg (by simpa using hx)]
set_option maxRecDepth 20000 in
theorem agb (l : List UInt8) (hl : l.length < 4611686018427387904) : Sim Tryd.prog G0 true 40 [.str (bst l), .str ⟨#[48]⟩] (.str (bst (l.dropWhile (· == 48)))) := by
  refine cl ay Tryd.func40 ?_
  cases l with
  | nil =>
    repeat' ((conv => whnf); first | refine aw.data ?_ | refine cE ((rk [] hl)) ?_ | refine rgE ?_ | refine Cd.mk rfl ?_ | refine Br.t ?_ | refine Br.f ?_ | with_reducible refine Br.dec (fun _ => ?_) (fun _ => ?_) | with_reducible refine Br.br (fun _ => ?_) (fun _ => ?_) | refine Br.mk (fun _ => ?_) (fun _ => ?_) | refine ao.mk _ (az _ _ (by omega)) ?_ | refine ao.mk _ (a6 _ _ (by omega)) ?_ | refine ao.mk _ (cv _ _ _ (by first | with_reducible exact af _ | with_reducible exact ab _ | exact af _ | exact ab _ | rfl) (by first | omega | (simp only [List.length_set]; omega))) ?_ | refine ao.mk _ rfl ?_ | refine And.intro (fun _ => ?_) ?_ | (refine TkE.fL ?_; (conv => whnf); fail_if_success (show ag _ _)) | refine TkE.mk _ rfl rfl ?_ | refine Res.mk ?_ | refine a8.mk (by repeat first | exact True.intro | refine And.intro (by kernel_rfl) ?_) ?_ | refine DsE.mk (ba _) rfl ?_ | refine DsE.mk [] rfl ?_ | refine ai.cu _ _ ?_ | ((with_reducible refine EqE.idT ?_); first | ((conv => arg 1; simp only [ak, List.toList_toArray, an, ae, aa, Int.toNat_natCast, Int.toNat_zero, Int.toNat_one, b4, b5, List.drop_zero, Nat.sub_zero, List.cons_append, List.nil_append]); refine EqE.mk _ rfl ?_) | refine EqE.mk _ rfl ?_) | ((with_reducible refine EqE.idP ?_); first | ((conv => arg 1; simp only [ak, List.toList_toArray, bz, b3]); refine EqE.mk _ rfl ?_) | refine EqE.mk _ rfl ?_) | ((with_reducible refine EqE.idN ?_); first | ((conv => arg 1; simp only [ak, List.toList_toArray, aa, bb, Int.toNat_natCast, Int.toNat_zero, Int.toNat_one, List.length_cons, List.length_nil, Nat.zero_add]); refine EqE.mk _ rfl ?_)) | ((with_reducible refine EqE.idW ?_); first | with_reducible refine EqE.mk _ (av _) ?_ | with_reducible refine EqE.mk _ (ed _ _ (by omega)) ?_ | with_reducible refine EqE.mk _ (bx _ (by omega)) ?_ | with_reducible refine EqE.mk _ (et _ _ (by omega) (by omega)) ?_ | with_reducible refine EqE.mk _ (ep _ _ (by omega)) ?_ | with_reducible refine EqE.mk _ (eg _ _ (by omega) (by omega)) ?_ | with_reducible refine EqE.mk _ (c6 _ (by omega)) ?_ | with_reducible refine EqE.mk _ (dd _ (by omega)) ?_ | with_reducible refine EqE.mk _ (n_and1_32 _ (by omega)) ?_ | with_reducible refine EqE.mk _ (eo _ _ (by omega) (by omega)) ?_ | with_reducible refine EqE.mk _ (ig _ _ (by omega) (by omega)) ?_ | refine EqE.mk _ (er _ 32 (by omega)) ?_ | with_reducible refine EqE.mk _ (cc _) ?_ | with_reducible refine EqE.mk _ (gu _) ?_ | with_reducible refine EqE.mk _ (ey _ (by omega)) ?_ | with_reducible refine EqE.mk _ (a7 _ (by omega)) ?_ | with_reducible refine EqE.mk _ (ar _ (by omega)) ?_ | with_reducible refine EqE.mk _ (n_iadd _ _ (by omega)) ?_ | with_reducible refine EqE.mk _ (wrap_u64 (by omega) (by omega)) ?_ | with_reducible refine EqE.mk _ (wrap_u32 _) ?_ | with_reducible refine EqE.mk _ (ah (by omega) (by omega)) ?_ | refine EqE.mk _ rfl ?_) | ((with_reducible refine EqE.idF ?_); first | with_reducible refine EqE.mk _ (n_shr63 _) ?_ | with_reducible refine EqE.mk _ (cg _ _ (by omega)) ?_ | with_reducible refine EqE.mk _ (n_shrv32 _ _ (by omega)) ?_ | with_reducible refine EqE.mk _ (n_shr1_32 _) ?_ | refine EqE.mk _ (aj _ 4294967296 _ _ rfl) ?_ | refine EqE.mk _ (aj _ 65536 _ _ rfl) ?_ | refine EqE.mk _ (aj _ 256 _ _ rfl) ?_ | refine EqE.mk _ (aj _ 134217728 _ _ rfl) ?_ | refine EqE.mk _ (aj _ 2 _ _ rfl) ?_ | refine EqE.mk _ (aj _ 16 _ _ rfl) ?_ | refine EqE.mk _ rfl ?_) | ((with_reducible refine EqE.idM ?_); first | refine EqE.mk _ (bm _ 32) ?_ | refine EqE.mk _ (bm _ _) ?_ | refine EqE.mk _ rfl ?_) | ((with_reducible refine EqE.idI ?_); first | refine EqE.mk _ (ib _) ?_ | with_reducible refine EqE.mk _ (b9 _ _) ?_ | refine EqE.mk _ (max_eq _ _) ?_ | refine EqE.mk _ (min_eq _ _) ?_) | ((with_reducible refine EqE.idS ?_); first | refine EqE.mk _ (bo _ _ _ _ (by first | with_reducible exact af _ | with_reducible exact ab _ | exact af _ | exact ab _ | rfl) (by first | omega | (simp only [List.length_set]; omega)) (by omega)) ?_ | refine EqE.mk _ (db _ _ _ _ (by first | with_reducible exact af _ | with_reducible exact ab _ | exact af _ | exact ab _ | rfl) (by omega) (by omega) (by omega)) ?_ | (refine EqE.fP ?_; (conv => whnf); fail_if_success (show ag _ _)) | refine EqE.mk _ rfl ?_) | ((with_reducible refine EqE.idA ?_); first | refine EqE.mk _ (b8 _) ?_ | refine EqE.mk _ (da _ _) ?_ | refine EqE.mk _ rfl ?_) | ((with_reducible refine EqE.idR ?_); first | refine EqE.mk _ (ca _) ?_ | refine EqE.mk _ rfl ?_) | ((with_reducible refine EqE.idL ?_); first | refine EqE.mk _ (ax _ _ _ _ (by omega) (by omega) rfl) ?_ | refine EqE.mk _ (sl_sliceN _ _ (by omega)) ?_ | refine EqE.mk _ (bn _ _ _ (by omega) (by omega) (by omega)) ?_ | refine EqE.mk _ rfl ?_) | refine EqE.mk _ rfl ?_ | refine Cd.ro ?_ | refine Cd.dc ?_ | refine Cd.ob ?_ | refine Cd.ol ?_ | refine Cd.mk ⟨rfl, rfl⟩ ?_ | refine Cd.mk (bd _) ?_ | refine Cd.om ?_ | refine Cd.mk ?_ ?_ | refine DsE.mk [_] rfl ?_ | refine DsE.mk [_, _, _] rfl ?_)
    all_goals rfl
  | cons x r =>
    repeat' ((conv => whnf); first | refine aw.data ?_ | refine cE ((rk (x :: r) hl)) ?_ | refine rgE ?_ | refine Cd.mk rfl ?_ | refine Br.t ?_ | refine Br.f ?_ | with_reducible refine Br.dec (fun _ => ?_) (fun _ => ?_) | with_reducible refine Br.br (fun _ => ?_) (fun _ => ?_) | refine Br.mk (fun _ => ?_) (fun _ => ?_) | refine ao.mk _ (az _ _ (by omega)) ?_ | refine ao.mk _ (a6 _ _ (by omega)) ?_ | refine ao.mk _ (cv _ _ _ (by first | with_reducible exact af _ | with_reducible exact ab _ | exact af _ | exact ab _ | rfl) (by first | omega | (simp only [List.length_set]; omega))) ?_ | refine ao.mk _ rfl ?_ | refine And.intro (fun _ => ?_) ?_ | (refine TkE.fL ?_; (conv => whnf); fail_if_success (show ag _ _)) | refine TkE.mk _ rfl rfl ?_ | refine Res.mk ?_ | refine a8.mk (by repeat first | exact True.intro | refine And.intro (by kernel_rfl) ?_) ?_ | refine DsE.mk (ba _) rfl ?_ | refine DsE.mk [] rfl ?_ | refine ai.cu _ _ ?_ | ((with_reducible refine EqE.idT ?_); first | ((conv => arg 1; simp only [ak, List.toList_toArray, an, ae, aa, Int.toNat_natCast, Int.toNat_zero, Int.toNat_one, b4, b5, List.drop_zero, Nat.sub_zero, List.cons_append, List.nil_append]); refine EqE.mk _ rfl ?_) | refine EqE.mk _ rfl ?_) | ((with_reducible refine EqE.idP ?_); first | ((conv => arg 1; simp only [ak, List.toList_toArray, bz, b3]); refine EqE.mk _ rfl ?_) | refine EqE.mk _ rfl ?_) | ((with_reducible refine EqE.idN ?_); first | ((conv => arg 1; simp only [ak, List.toList_toArray, aa, bb, Int.toNat_natCast, Int.toNat_zero, Int.toNat_one, List.length_cons, List.length_nil, Nat.zero_add]); refine EqE.mk _ rfl ?_)) | ((with_reducible refine EqE.idW ?_); first | with_reducible refine EqE.mk _ (av _) ?_ | with_reducible refine EqE.mk _ (ed _ _ (by omega)) ?_ | with_reducible refine EqE.mk _ (bx _ (by omega)) ?_ | with_reducible refine EqE.mk _ (et _ _ (by omega) (by omega)) ?_ | with_reducible refine EqE.mk _ (ep _ _ (by omega)) ?_ | with_reducible refine EqE.mk _ (eg _ _ (by omega) (by omega)) ?_ | with_reducible refine EqE.mk _ (c6 _ (by omega)) ?_ | with_reducible refine EqE.mk _ (dd _ (by omega)) ?_ | with_reducible refine EqE.mk _ (n_and1_32 _ (by omega)) ?_ | with_reducible refine EqE.mk _ (eo _ _ (by omega) (by omega)) ?_ | with_reducible refine EqE.mk _ (ig _ _ (by omega) (by omega)) ?_ | refine EqE.mk _ (er _ 32 (by omega)) ?_ | with_reducible refine EqE.mk _ (cc _) ?_ | with_reducible refine EqE.mk _ (gu _) ?_ | with_reducible refine EqE.mk _ (ey _ (by omega)) ?_ | with_reducible refine EqE.mk _ (a7 _ (by omega)) ?_ | with_reducible refine EqE.mk _ (ar _ (by omega)) ?_ | with_reducible refine EqE.mk _ (n_iadd _ _ (by omega)) ?_ | with_reducible refine EqE.mk _ (wrap_u64 (by omega) (by omega)) ?_ | with_reducible refine EqE.mk _ (wrap_u32 _) ?_ | with_reducible refine EqE.mk _ (ah (by omega) (by omega)) ?_ | refine EqE.mk _ rfl ?_) | ((with_reducible refine EqE.idF ?_); first | with_reducible refine EqE.mk _ (n_shr63 _) ?_ | with_reducible refine EqE.mk _ (cg _ _ (by omega)) ?_ | with_reducible refine EqE.mk _ (n_shrv32 _ _ (by omega)) ?_ | with_reducible refine EqE.mk _ (n_shr1_32 _) ?_ | refine EqE.mk _ (aj _ 4294967296 _ _ rfl) ?_ | refine EqE.mk _ (aj _ 65536 _ _ rfl) ?_ | refine EqE.mk _ (aj _ 256 _ _ rfl) ?_ | refine EqE.mk _ (aj _ 134217728 _ _ rfl) ?_ | refine EqE.mk _ (aj _ 2 _ _ rfl) ?_ | refine EqE.mk _ (aj _ 16 _ _ rfl) ?_ | refine EqE.mk _ rfl ?_) | ((with_reducible refine EqE.idM ?_); first | refine EqE.mk _ (bm _ 32) ?_ | refine EqE.mk _ (bm _ _) ?_ | refine EqE.mk _ rfl ?_) | ((with_reducible refine EqE.idI ?_); first | refine EqE.mk _ (ib _) ?_ | with_reducible refine EqE.mk _ (b9 _ _) ?_ | refine EqE.mk _ (max_eq _ _) ?_ | refine EqE.mk _ (min_eq _ _) ?_) | ((with_reducible refine EqE.idS ?_); first | refine EqE.mk _ (bo _ _ _ _ (by first | with_reducible exact af _ | with_reducible exact ab _ | exact af _ | exact ab _ | rfl) (by first | omega | (simp only [List.length_set]; omega)) (by omega)) ?_ | refine EqE.mk _ (db _ _ _ _ (by first | with_reducible exact af _ | with_reducible exact ab _ | exact af _ | exact ab _ | rfl) (by omega) (by omega) (by omega)) ?_ | (refine EqE.fP ?_; (conv => whnf); fail_if_success (show ag _ _)) | refine EqE.mk _ rfl ?_) | ((with_reducible refine EqE.idA ?_); first | refine EqE.mk _ (b8 _) ?_ | refine EqE.mk _ (da _ _) ?_ | refine EqE.mk _ rfl ?_) | ((with_reducible refine EqE.idR ?_); first | refine EqE.mk _ (ca _) ?_ | refine EqE.mk _ rfl ?_) | ((with_reducible refine EqE.idL ?_); first | refine EqE.mk _ (ax _ _ _ _ (by omega) (by omega) rfl) ?_ | refine EqE.mk _ (sl_sliceN _ _ (by omega)) ?_ | refine EqE.mk _ (bn _ _ _ (by omega) (by omega) (by omega)) ?_ | refine EqE.mk _ rfl ?_) | refine EqE.mk _ rfl ?_ | refine Cd.ro ?_ | refine Cd.dc ?_ | refine Cd.ob ?_ | refine Cd.ol ?_ | refine Cd.mk ⟨rfl, rfl⟩ ?_ | refine Cd.mk (bd _) ?_ | refine Cd.om ?_ | refine Cd.mk ?_ ?_ | refine DsE.mk [_] rfl ?_ | refine DsE.mk [_, _, _] rfl ?_)
    all_goals rfl
theorem aj7 (l : List UInt8) (hl : l.length < 4611686018427387904) : Sim Tryd.prog G0 true 58 [.str (bst l), .str ⟨#[45]⟩] (.bool (decide (l.head? = some 45))) := by
 refine cl ay Tryd.func58 ?_
 cases l with
 | nil =>
  repeat' ((conv => whnf); first | refine aw.data ?_ | refine rgE ?_ | refine Cd.mk rfl ?_ | refine Br.t ?_ | refine Br.f ?_ | with_reducible refine Br.dec (fun _ => ?_) (fun _ => ?_) | with_reducible refine Br.br (fun _ => ?_) (fun _ => ?_) | refine Br.mk (fun _ => ?_) (fun _ => ?_) | refine ao.mk _ (az _ _ (by omega)) ?_ | refine ao.mk _ (a6 _ _ (by omega)) ?_ | refine ao.mk _ (cv _ _ _ (by first | with_reducible exact af _ | with_reducible exact ab _ | exact af _ | exact ab _ | rfl) (by first | omega | (simp only [List.length_set]; omega))) ?_ | refine ao.mk _ rfl ?_ | refine And.intro (fun _ => ?_) ?_ | (refine TkE.fL ?_; (conv => whnf); fail_if_success (show ag _ _)) | refine TkE.mk _ rfl rfl ?_ | refine Res.mk ?_ | refine a8.mk (by repeat first | exact True.intro | refine And.intro (by kernel_rfl) ?_) ?_ | refine DsE.mk (ba _) rfl ?_ | refine DsE.mk [] rfl ?_ | refine ai.cu _ _ ?_ | ((with_reducible refine EqE.idT ?_); first | ((conv => arg 1; simp only [ak, List.toList_toArray, an, ae, aa, Int.toNat_natCast, Int.toNat_zero, Int.toNat_one, b4, b5, List.drop_zero, Nat.sub_zero, List.cons_append, List.nil_append]); refine EqE.mk _ rfl ?_) | refine EqE.mk _ rfl ?_) | ((with_reducible refine EqE.idP ?_); first | ((conv => arg 1; simp only [ak, List.toList_toArray, bz, b3]); refine EqE.mk _ rfl ?_) | refine EqE.mk _ rfl ?_) | ((with_reducible refine EqE.idN ?_); first | ((conv => arg 1; simp only [ak, List.toList_toArray, aa, bb, Int.toNat_natCast, Int.toNat_zero, Int.toNat_one, List.length_cons, List.length_nil, Nat.zero_add]); refine EqE.mk _ rfl ?_)) | ((with_reducible refine EqE.idW ?_); first | with_reducible refine EqE.mk _ (av _) ?_ | with_reducible refine EqE.mk _ (ed _ _ (by omega)) ?_ | with_reducible refine EqE.mk _ (bx _ (by omega)) ?_ | with_reducible refine EqE.mk _ (et _ _ (by omega) (by omega)) ?_ | with_reducible refine EqE.mk _ (ep _ _ (by omega)) ?_ | with_reducible refine EqE.mk _ (eg _ _ (by omega) (by omega)) ?_ | with_reducible refine EqE.mk _ (c6 _ (by omega)) ?_ | with_reducible refine EqE.mk _ (dd _ (by omega)) ?_ | with_reducible refine EqE.mk _ (n_and1_32 _ (by omega)) ?_ | with_reducible refine EqE.mk _ (eo _ _ (by omega) (by omega)) ?_ | with_reducible refine EqE.mk _ (ig _ _ (by omega) (by omega)) ?_ | refine EqE.mk _ (er _ 32 (by omega)) ?_ | with_reducible refine EqE.mk _ (cc _) ?_ | with_reducible refine EqE.mk _ (gu _) ?_ | with_reducible refine EqE.mk _ (ey _ (by omega)) ?_ | with_reducible refine EqE.mk _ (a7 _ (by omega)) ?_ | with_reducible refine EqE.mk _ (ar _ (by omega)) ?_ | with_reducible refine EqE.mk _ (n_iadd _ _ (by omega)) ?_ | with_reducible refine EqE.mk _ (wrap_u64 (by omega) (by omega)) ?_ | with_reducible refine EqE.mk _ (wrap_u32 _) ?_ | with_reducible refine EqE.mk _ (ah (by omega) (by omega)) ?_ | refine EqE.mk _ rfl ?_) | ((with_reducible refine EqE.idF ?_); first | with_reducible refine EqE.mk _ (n_shr63 _) ?_ | with_reducible refine EqE.mk _ (cg _ _ (by omega)) ?_ | with_reducible refine EqE.mk _ (n_shrv32 _ _ (by omega)) ?_ | with_reducible refine EqE.mk _ (n_shr1_32 _) ?_ | refine EqE.mk _ (aj _ 4294967296 _ _ rfl) ?_ | refine EqE.mk _ (aj _ 65536 _ _ rfl) ?_ | refine EqE.mk _ (aj _ 256 _ _ rfl) ?_ | refine EqE.mk _ (aj _ 134217728 _ _ rfl) ?_ | refine EqE.mk _ (aj _ 2 _ _ rfl) ?_ | refine EqE.mk _ (aj _ 16 _ _ rfl) ?_ | refine EqE.mk _ rfl ?_) | ((with_reducible refine EqE.idM ?_); first | refine EqE.mk _ (bm _ 32) ?_ | refine EqE.mk _ (bm _ _) ?_ | refine EqE.mk _ rfl ?_) | ((with_reducible refine EqE.idI ?_); first | refine EqE.mk _ (ib _) ?_ | with_reducible refine EqE.mk _ (b9 _ _) ?_ | refine EqE.mk _ (max_eq _ _) ?_ | refine EqE.mk _ (min_eq _ _) ?_) | ((with_reducible refine EqE.idS ?_); first | refine EqE.mk _ (bo _ _ _ _ (by first | with_reducible exact af _ | with_reducible exact ab _ | exact af _ | exact ab _ | rfl) (by first | omega | (simp only [List.length_set]; omega)) (by omega)) ?_ | refine EqE.mk _ (db _ _ _ _ (by first | with_reducible exact af _ | with_reducible exact ab _ | exact af _ | exact ab _ | rfl) (by omega) (by omega) (by omega)) ?_ | (refine EqE.fP ?_; (conv => whnf); fail_if_success (show ag _ _)) | refine EqE.mk _ rfl ?_) | ((with_reducible refine EqE.idA ?_); first | refine EqE.mk _ (b8 _) ?_ | refine EqE.mk _ (da _ _) ?_ | refine EqE.mk _ rfl ?_) | ((with_reducible refine EqE.idR ?_); first | refine EqE.mk _ (ca _) ?_ | refine EqE.mk _ rfl ?_) | ((with_reducible refine EqE.idL ?_); first | refine EqE.mk _ (ax _ _ _ _ (by omega) (by omega) rfl) ?_ | refine EqE.mk _ (sl_sliceN _ _ (by omega)) ?_ | refine EqE.mk _ (bn _ _ _ (by omega) (by omega) (by omega)) ?_ | refine EqE.mk _ rfl ?_) | refine EqE.mk _ rfl ?_ | refine Cd.ro ?_ | refine Cd.dc ?_ | refine Cd.ob ?_ | refine Cd.ol ?_ | refine Cd.mk ⟨rfl, rfl⟩ ?_ | refine Cd.mk (bd _) ?_ | refine Cd.om ?_ | refine Cd.mk ?_ ?_ | refine DsE.mk [_] rfl ?_ | refine DsE.mk [_, _, _] rfl ?_)
  all_goals rfl
 | cons x r =>
  have hlen : (x :: r).length = r.length + 1 := rfl
  repeat' ((conv => whnf); first | refine aw.data ?_ | with_reducible refine Br.bt fun _ => ?_ | refine rgE ?_ | refine Cd.mk rfl ?_ | refine Br.t ?_ | refine Br.f ?_ | with_reducible refine Br.dec (fun _ => ?_) (fun _ => ?_) | with_reducible refine Br.br (fun _ => ?_) (fun _ => ?_) | refine Br.mk (fun _ => ?_) (fun _ => ?_) | refine ao.mk _ (az _ _ (by omega)) ?_ | refine ao.mk _ (a6 _ _ (by omega)) ?_ | refine ao.mk _ (cv _ _ _ (by first | with_reducible exact af _ | with_reducible exact ab _ | exact af _ | exact ab _ | rfl) (by first | omega | (simp only [List.length_set]; omega))) ?_ | refine ao.mk _ rfl ?_ | refine And.intro (fun _ => ?_) ?_ | (refine TkE.fL ?_; (conv => whnf); fail_if_success (show ag _ _)) | refine TkE.mk _ rfl rfl ?_ | refine Res.mk ?_ | refine a8.mk (by repeat first | exact True.intro | refine And.intro (by kernel_rfl) ?_) ?_ | refine DsE.mk (ba _) rfl ?_ | refine DsE.mk [] rfl ?_ | refine ai.cu _ _ ?_ | ((with_reducible refine EqE.idT ?_); first | ((conv => arg 1; simp only [ak, List.toList_toArray, an, ae, aa, Int.toNat_natCast, Int.toNat_zero, Int.toNat_one, b4, b5, List.drop_zero, Nat.sub_zero, List.cons_append, List.nil_append]); refine EqE.mk _ rfl ?_) | refine EqE.mk _ rfl ?_) | ((with_reducible refine EqE.idP ?_); first | ((conv => arg 1; simp only [ak, List.toList_toArray, bz, b3]); refine EqE.mk _ rfl ?_) | refine EqE.mk _ rfl ?_) | ((with_reducible refine EqE.idN ?_); first | ((conv => arg 1; simp only [ak, List.toList_toArray, aa, bb, Int.toNat_natCast, Int.toNat_zero, Int.toNat_one, List.length_cons, List.length_nil, Nat.zero_add]); refine EqE.mk _ rfl ?_)) | ((with_reducible refine EqE.idW ?_); first | with_reducible refine EqE.mk _ (av _) ?_ | with_reducible refine EqE.mk _ (ed _ _ (by omega)) ?_ | with_reducible refine EqE.mk _ (bx _ (by omega)) ?_ | with_reducible refine EqE.mk _ (et _ _ (by omega) (by omega)) ?_ | with_reducible refine EqE.mk _ (ep _ _ (by omega)) ?_ | with_reducible refine EqE.mk _ (eg _ _ (by omega) (by omega)) ?_ | with_reducible refine EqE.mk _ (c6 _ (by omega)) ?_ | with_reducible refine EqE.mk _ (dd _ (by omega)) ?_ | with_reducible refine EqE.mk _ (n_and1_32 _ (by omega)) ?_ | with_reducible refine EqE.mk _ (eo _ _ (by omega) (by omega)) ?_ | with_reducible refine EqE.mk _ (ig _ _ (by omega) (by omega)) ?_ | refine EqE.mk _ (er _ 32 (by omega)) ?_ | with_reducible refine EqE.mk _ (cc _) ?_ | with_reducible refine EqE.mk _ (gu _) ?_ | with_reducible refine EqE.mk _ (ey _ (by omega)) ?_ | with_reducible refine EqE.mk _ (a7 _ (by omega)) ?_ | with_reducible refine EqE.mk _ (ar _ (by omega)) ?_ | with_reducible refine EqE.mk _ (n_iadd _ _ (by omega)) ?_ | with_reducible refine EqE.mk _ (wrap_u64 (by omega) (by omega)) ?_ | with_reducible refine EqE.mk _ (wrap_u32 _) ?_ | with_reducible refine EqE.mk _ (ah (by omega) (by omega)) ?_ | refine EqE.mk _ rfl ?_) | ((with_reducible refine EqE.idF ?_); first | with_reducible refine EqE.mk _ (n_shr63 _) ?_ | with_reducible refine EqE.mk _ (cg _ _ (by omega)) ?_ | with_reducible refine EqE.mk _ (n_shrv32 _ _ (by omega)) ?_ | with_reducible refine EqE.mk _ (n_shr1_32 _) ?_ | refine EqE.mk _ (aj _ 4294967296 _ _ rfl) ?_ | refine EqE.mk _ (aj _ 65536 _ _ rfl) ?_ | refine EqE.mk _ (aj _ 256 _ _ rfl) ?_ | refine EqE.mk _ (aj _ 134217728 _ _ rfl) ?_ | refine EqE.mk _ (aj _ 2 _ _ rfl) ?_ | refine EqE.mk _ (aj _ 16 _ _ rfl) ?_ | refine EqE.mk _ rfl ?_) | ((with_reducible refine EqE.idM ?_); first | refine EqE.mk _ (bm _ 32) ?_ | refine EqE.mk _ (bm _ _) ?_ | refine EqE.mk _ rfl ?_) | ((with_reducible refine EqE.idI ?_); first | refine EqE.mk _ (ib _) ?_ | with_reducible refine EqE.mk _ (b9 _ _) ?_ | refine EqE.mk _ (max_eq _ _) ?_ | refine EqE.mk _ (min_eq _ _) ?_) | ((with_reducible refine EqE.idS ?_); first | refine EqE.mk _ (bo _ _ _ _ (by first | with_reducible exact af _ | with_reducible exact ab _ | exact af _ | exact ab _ | rfl) (by first | omega | (simp only [List.length_set]; omega)) (by omega)) ?_ | refine EqE.mk _ (db _ _ _ _ (by first | with_reducible exact af _ | with_reducible exact ab _ | exact af _ | exact ab _ | rfl) (by omega) (by omega) (by omega)) ?_ | (refine EqE.fP ?_; (conv => whnf); fail_if_success (show ag _ _)) | refine EqE.mk _ rfl ?_) | ((with_reducible refine EqE.idA ?_); first | refine EqE.mk _ (b8 _) ?_ | refine EqE.mk _ (da _ _) ?_ | refine EqE.mk _ rfl ?_) | ((with_reducible refine EqE.idR ?_); first | refine EqE.mk _ (ca _) ?_ | refine EqE.mk _ rfl ?_) | ((with_reducible refine EqE.idL ?_); first | refine EqE.mk _ (ax _ _ _ _ (by omega) (by omega) rfl) ?_ | refine EqE.mk _ (sl_sliceN _ _ (by omega)) ?_ | refine EqE.mk _ (bn _ _ _ (by omega) (by omega) (by omega)) ?_ | refine EqE.mk _ rfl ?_) | refine EqE.mk _ rfl ?_ | refine Cd.ro ?_ | refine Cd.dc ?_ | refine Cd.ob ?_ | refine Cd.ol ?_ | refine Cd.mk ⟨rfl, rfl⟩ ?_ | refine Cd.mk (bd _) ?_ | refine Cd.om ?_ | refine Cd.mk ?_ ?_ | refine DsE.mk [_] rfl ?_ | refine DsE.mk [_, _, _] rfl ?_)
  show D.bool _ = D.bool _
  congr 1
  by_cases hx : x = 45 <;> simp [hx]
theorem wh (l : List UInt8) (hl : l.length < 4611686018427387904) : Sim Tryd.prog G0 true 41 [.str (bst l), .str ⟨#[45]⟩] (.bool (decide (l.head? = some 45))) := by
 refine cl ay Tryd.func41 ?_
 repeat' ((conv => whnf); first | refine aw.data ?_ | refine cE ((aj7 l hl)) ?_ | refine rgE ?_ | refine Cd.mk rfl ?_ | refine Br.t ?_ | refine Br.f ?_ | with_reducible refine Br.dec (fun _ => ?_) (fun _ => ?_) | with_reducible refine Br.br (fun _ => ?_) (fun _ => ?_) | refine Br.mk (fun _ => ?_) (fun _ => ?_) | refine ao.mk _ (az _ _ (by omega)) ?_ | refine ao.mk _ (a6 _ _ (by omega)) ?_ | refine ao.mk _ (cv _ _ _ (by first | with_reducible exact af _ | with_reducible exact ab _ | exact af _ | exact ab _ | rfl) (by first | omega | (simp only [List.length_set]; omega))) ?_ | refine ao.mk _ rfl ?_ | refine And.intro (fun _ => ?_) ?_ | (refine TkE.fL ?_; (conv => whnf); fail_if_success (show ag _ _)) | refine TkE.mk _ rfl rfl ?_ | refine Res.mk ?_ | refine a8.mk (by repeat first | exact True.intro | refine And.intro (by kernel_rfl) ?_) ?_ | refine DsE.mk (ba _) rfl ?_ | refine DsE.mk [] rfl ?_ | refine ai.cu _ _ ?_ | ((with_reducible refine EqE.idT ?_); first | ((conv => arg 1; simp only [ak, List.toList_toArray, an, ae, aa, Int.toNat_natCast, Int.toNat_zero, Int.toNat_one, b4, b5, List.drop_zero, Nat.sub_zero, List.cons_append, List.nil_append]); refine EqE.mk _ rfl ?_) | refine EqE.mk _ rfl ?_) | ((with_reducible refine EqE.idP ?_); first | ((conv => arg 1; simp only [ak, List.toList_toArray, bz, b3]); refine EqE.mk _ rfl ?_) | refine EqE.mk _ rfl ?_) | ((with_reducible refine EqE.idN ?_); first | ((conv => arg 1; simp only [ak, List.toList_toArray, aa, bb, Int.toNat_natCast, Int.toNat_zero, Int.toNat_one, List.length_cons, List.length_nil, Nat.zero_add]); refine EqE.mk _ rfl ?_)) | ((with_reducible refine EqE.idW ?_); first | with_reducible refine EqE.mk _ (av _) ?_ | with_reducible refine EqE.mk _ (ed _ _ (by omega)) ?_ | with_reducible refine EqE.mk _ (bx _ (by omega)) ?_ | with_reducible refine EqE.mk _ (et _ _ (by omega) (by omega)) ?_ | with_reducible refine EqE.mk _ (ep _ _ (by omega)) ?_ | with_reducible refine EqE.mk _ (eg _ _ (by omega) (by omega)) ?_ | with_reducible refine EqE.mk _ (c6 _ (by omega)) ?_ | with_reducible refine EqE.mk _ (dd _ (by omega)) ?_ | with_reducible refine EqE.mk _ (n_and1_32 _ (by omega)) ?_ | with_reducible refine EqE.mk _ (eo _ _ (by omega) (by omega)) ?_ | with_reducible refine EqE.mk _ (ig _ _ (by omega) (by omega)) ?_ | refine EqE.mk _ (er _ 32 (by omega)) ?_ | with_reducible refine EqE.mk _ (cc _) ?_ | with_reducible refine EqE.mk _ (gu _) ?_ | with_reducible refine EqE.mk _ (ey _ (by omega)) ?_ | with_reducible refine EqE.mk _ (a7 _ (by omega)) ?_ | with_reducible refine EqE.mk _ (ar _ (by omega)) ?_ | with_reducible refine EqE.mk _ (n_iadd _ _ (by omega)) ?_ | with_reducible refine EqE.mk _ (wrap_u64 (by omega) (by omega)) ?_ | with_reducible refine EqE.mk _ (wrap_u32 _) ?_ | with_reducible refine EqE.mk _ (ah (by omega) (by omega)) ?_ | refine EqE.mk _ rfl ?_) | ((with_reducible refine EqE.idF ?_); first | with_reducible refine EqE.mk _ (n_shr63 _) ?_ | with_reducible refine EqE.mk _ (cg _ _ (by omega)) ?_ | with_reducible refine EqE.mk _ (n_shrv32 _ _ (by omega)) ?_ | with_reducible refine EqE.mk _ (n_shr1_32 _) ?_ | refine EqE.mk _ (aj _ 4294967296 _ _ rfl) ?_ | refine EqE.mk _ (aj _ 65536 _ _ rfl) ?_ | refine EqE.mk _ (aj _ 256 _ _ rfl) ?_ | refine EqE.mk _ (aj _ 134217728 _ _ rfl) ?_ | refine EqE.mk _ (aj _ 2 _ _ rfl) ?_ | refine EqE.mk _ (aj _ 16 _ _ rfl) ?_ | refine EqE.mk _ rfl ?_) | ((with_reducible refine EqE.idM ?_); first | refine EqE.mk _ (bm _ 32) ?_ | refine EqE.mk _ (bm _ _) ?_ | refine EqE.mk _ rfl ?_) | ((with_reducible refine EqE.idI ?_); first | refine EqE.mk _ (ib _) ?_ | with_reducible refine EqE.mk _ (b9 _ _) ?_ | refine EqE.mk _ (max_eq _ _) ?_ | refine EqE.mk _ (min_eq _ _) ?_) | ((with_reducible refine EqE.idS ?_); first | refine EqE.mk _ (bo _ _ _ _ (by first | with_reducible exact af _ | with_reducible exact ab _ | exact af _ | exact ab _ | rfl) (by first | omega | (simp only [List.length_set]; omega)) (by omega)) ?_ | refine EqE.mk _ (db _ _ _ _ (by first | with_reducible exact af _ | with_reducible exact ab _ | exact af _ | exact ab _ | rfl) (by omega) (by omega) (by omega)) ?_ | (refine EqE.fP ?_; (conv => whnf); fail_if_success (show ag _ _)) | refine EqE.mk _ rfl ?_) | ((with_reducible refine EqE.idA ?_); first | refine EqE.mk _ (b8 _) ?_ | refine EqE.mk _ (da _ _) ?_ | refine EqE.mk _ rfl ?_) | ((with_reducible refine EqE.idR ?_); first | refine EqE.mk _ (ca _) ?_ | refine EqE.mk _ rfl ?_) | ((with_reducible refine EqE.idL ?_); first | refine EqE.mk _ (ax _ _ _ _ (by omega) (by omega) rfl) ?_ | refine EqE.mk _ (sl_sliceN _ _ (by omega)) ?_ | refine EqE.mk _ (bn _ _ _ (by omega) (by omega) (by omega)) ?_ | refine EqE.mk _ rfl ?_) | refine EqE.mk _ rfl ?_ | refine Cd.ro ?_ | refine Cd.dc ?_ | refine Cd.ob ?_ | refine Cd.ol ?_ | refine Cd.mk ⟨rfl, rfl⟩ ?_ | refine Cd.mk (bd _) ?_ | refine Cd.om ?_ | refine Cd.mk ?_ ?_ | refine DsE.mk [_] rfl ?_ | refine DsE.mk [_, _, _] rfl ?_)
 rfl
def nt (l : List UInt8) (i : Nat) : Bool := decide (i < l.length) && jf (nth 0 l i)
set_option maxHeartbeats 1000000 in
theorem s7 (l : List UInt8) (i : Nat) (hl : l.length < 4611686018427387904) (hi : i < 4611686018427387904) : Sim Tryd.prog G0 true 42 [.str (bst l), .int .i64 i] (.bool (nt l i)) := by
 refine cl ay Tryd.func42 ?_
 repeat' ((conv => whnf); first | refine aw.data ?_ | refine rgE ?_ | refine Cd.mk rfl ?_ | refine Br.t ?_ | refine Br.f ?_ | with_reducible refine Br.dec (fun _ => ?_) (fun _ => ?_) | with_reducible refine Br.br (fun _ => ?_) (fun _ => ?_) | refine Br.mk (fun _ => ?_) (fun _ => ?_) | refine ao.mk _ (az _ _ (by omega)) ?_ | refine ao.mk _ (a6 _ _ (by omega)) ?_ | refine ao.mk _ (cv _ _ _ (by first | with_reducible exact af _ | with_reducible exact ab _ | exact af _ | exact ab _ | rfl) (by first | omega | (simp only [List.length_set]; omega))) ?_ | refine ao.mk _ rfl ?_ | refine And.intro (fun _ => ?_) ?_ | (refine TkE.fL ?_; (conv => whnf); fail_if_success (show ag _ _)) | refine TkE.mk _ rfl rfl ?_ | refine Res.mk ?_ | refine a8.mk (by repeat first | exact True.intro | refine And.intro (by kernel_rfl) ?_) ?_ | refine DsE.mk (ba _) rfl ?_ | refine DsE.mk [] rfl ?_ | refine ai.cu _ _ ?_ | ((with_reducible refine EqE.idT ?_); first | ((conv => arg 1; simp only [ak, List.toList_toArray, an, ae, aa, Int.toNat_natCast, Int.toNat_zero, Int.toNat_one, b4, b5, List.drop_zero, Nat.sub_zero, List.cons_append, List.nil_append]); refine EqE.mk _ rfl ?_) | refine EqE.mk _ rfl ?_) | ((with_reducible refine EqE.idP ?_); first | ((conv => arg 1; simp only [ak, List.toList_toArray, bz, b3]); refine EqE.mk _ rfl ?_) | refine EqE.mk _ rfl ?_) | ((with_reducible refine EqE.idN ?_); first | ((conv => arg 1; simp only [ak, List.toList_toArray, aa, bb, Int.toNat_natCast, Int.toNat_zero, Int.toNat_one, List.length_cons, List.length_nil, Nat.zero_add]); refine EqE.mk _ rfl ?_)) | ((with_reducible refine EqE.idW ?_); first | with_reducible refine EqE.mk _ (av _) ?_ | with_reducible refine EqE.mk _ (ed _ _ (by omega)) ?_ | with_reducible refine EqE.mk _ (bx _ (by omega)) ?_ | with_reducible refine EqE.mk _ (et _ _ (by omega) (by omega)) ?_ | with_reducible refine EqE.mk _ (ep _ _ (by omega)) ?_ | with_reducible refine EqE.mk _ (eg _ _ (by omega) (by omega)) ?_ | with_reducible refine EqE.mk _ (c6 _ (by omega)) ?_ | with_reducible refine EqE.mk _ (dd _ (by omega)) ?_ | with_reducible refine EqE.mk _ (n_and1_32 _ (by omega)) ?_ | with_reducible refine EqE.mk _ (eo _ _ (by omega) (by omega)) ?_ | with_reducible refine EqE.mk _ (ig _ _ (by omega) (by omega)) ?_ | refine EqE.mk _ (er _ 32 (by omega)) ?_ | with_reducible refine EqE.mk _ (cc _) ?_ | with_reducible refine EqE.mk _ (gu _) ?_ | with_reducible refine EqE.mk _ (ey _ (by omega)) ?_ | with_reducible refine EqE.mk _ (a7 _ (by omega)) ?_ | with_reducible refine EqE.mk _ (ar _ (by omega)) ?_ | with_reducible refine EqE.mk _ (n_iadd _ _ (by omega)) ?_ | with_reducible refine EqE.mk _ (wrap_u64 (by omega) (by omega)) ?_ | with_reducible refine EqE.mk _ (wrap_u32 _) ?_ | with_reducible refine EqE.mk _ (ah (by omega) (by omega)) ?_ | refine EqE.mk _ rfl ?_) | ((with_reducible refine EqE.idF ?_); first | with_reducible refine EqE.mk _ (n_shr63 _) ?_ | with_reducible refine EqE.mk _ (cg _ _ (by omega)) ?_ | with_reducible refine EqE.mk _ (n_shrv32 _ _ (by omega)) ?_ | with_reducible refine EqE.mk _ (n_shr1_32 _) ?_ | refine EqE.mk _ (aj _ 4294967296 _ _ rfl) ?_ | refine EqE.mk _ (aj _ 65536 _ _ rfl) ?_ | refine EqE.mk _ (aj _ 256 _ _ rfl) ?_ | refine EqE.mk _ (aj _ 134217728 _ _ rfl) ?_ | refine EqE.mk _ (aj _ 2 _ _ rfl) ?_ | refine EqE.mk _ (aj _ 16 _ _ rfl) ?_ | refine EqE.mk _ rfl ?_) | ((with_reducible refine EqE.idM ?_); first | refine EqE.mk _ (bm _ 32) ?_ | refine EqE.mk _ (bm _ _) ?_ | refine EqE.mk _ rfl ?_) | ((with_reducible refine EqE.idI ?_); first | refine EqE.mk _ (ib _) ?_ | with_reducible refine EqE.mk _ (b9 _ _) ?_ | refine EqE.mk _ (max_eq _ _) ?_ | refine EqE.mk _ (min_eq _ _) ?_) | ((with_reducible refine EqE.idS ?_); first | refine EqE.mk _ (bo _ _ _ _ (by first | with_reducible exact af _ | with_reducible exact ab _ | exact af _ | exact ab _ | rfl) (by first | omega | (simp only [List.length_set]; omega)) (by omega)) ?_ | refine EqE.mk _ (db _ _ _ _ (by first | with_reducible exact af _ | with_reducible exact ab _ | exact af _ | exact ab _ | rfl) (by omega) (by omega) (by omega)) ?_ | (refine EqE.fP ?_; (conv => whnf); fail_if_success (show ag _ _)) | refine EqE.mk _ rfl ?_) | ((with_reducible refine EqE.idA ?_); first | refine EqE.mk _ (b8 _) ?_ | refine EqE.mk _ (da _ _) ?_ | refine EqE.mk _ rfl ?_) | ((with_reducible refine EqE.idR ?_); first | refine EqE.mk _ (ca _) ?_ | refine EqE.mk _ rfl ?_) | ((with_reducible refine EqE.idL ?_); first | refine EqE.mk _ (ax _ _ _ _ (by omega) (by omega) rfl) ?_ | refine EqE.mk _ (sl_sliceN _ _ (by omega)) ?_ | refine EqE.mk _ (bn _ _ _ (by omega) (by omega) (by omega)) ?_ | refine EqE.mk _ rfl ?_) | refine EqE.mk _ rfl ?_ | refine Cd.ro ?_ | refine Cd.dc ?_ | refine Cd.ob ?_ | refine Cd.ol ?_ | refine Cd.mk ⟨rfl, rfl⟩ ?_ | refine Cd.mk (bd _) ?_ | refine Cd.om ?_ | refine Cd.mk ?_ ?_ | refine DsE.mk [_] rfl ?_ | refine DsE.mk [_, _, _] rfl ?_)
 all_goals (show D.bool _ = D.bool _; congr 1; unfold nt jf; rw [Bool.eq_iff_iff]; simp; try omega)
end Go.Ev.Ar
