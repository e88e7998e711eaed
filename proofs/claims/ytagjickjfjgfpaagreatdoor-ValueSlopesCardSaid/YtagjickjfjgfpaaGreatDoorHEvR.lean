/- Contracts of the given functions, on data. Conditions stand in each theorem. -/
import Derived.Lib.LaidTab
import Derived.Deep.Slices
import Derived.Carry
import Derived.ChangeSame
import Derived.RowKit
import Derived.Test.YtagjickjfjgfpaaGreatDoorProg
import Derived.Test.YtagjickjfjgfpaaGreatDoorHEvW
import Derived.Test.YtagjickjfjgfpaaGreatDoorHEvK
set_option linter.unusedSimpArgs false
set_option linter.unusedVariables false
namespace Go.Ev
open Go
inductive Sh where
 | bool
 | int (k : IntKind)
 | str
 | slice (e : Sh)
 | struct (fs : List Sh)
mutual
def Sh.size : Sh → Nat
 | .struct fs => Sh.ad6 fs
 | _ => 1
def Sh.ad6 : List Sh → Nat
 | [] => 0
 | f :: fs => f.size + Sh.ad6 fs
end
mutual
def Sh.has : Sh → List D → Prop
 | .bool, ds => ∃ b, ds = [.bool b]
 | .int k, ds => ∃ n, ds = [.int k n] ∧ k.min ≤ n ∧ n ≤ k.max
 | .str, ds => ∃ s : ByteArray, ds = [.str s] ∧ s.size ≤ maxLen
 | .slice e, ds => ∃ n ls, ds = [.slice n (List.flatten ls)] ∧ ls.length = n ∧ n ≤ maxLen ∧ ∀ l ∈ ls, e.has l
 | .struct fs, ds => Sh.hasAll fs ds
def Sh.hasAll : List Sh → List D → Prop
 | [], ds => ds = []
 | f :: fs, ds => ∃ a b, ds = a ++ b ∧ f.has a ∧ Sh.hasAll fs b
end
mutual
def Sh.chk (P : Program) : Sh → TypeId → Bool
 | .bool, t => match P.underlying t with | some .bool => true | _ => false
 | .int k, t => match P.underlying t with | some (.int k') => k == k' | _ => false
 | .str, t => match P.underlying t with | some .string => true | _ => false
 | .slice e, t => match P.underlying t with | some (.slice t') => P.cellsOf t' == e.size && e.size != 0 && e.chk P t' | _ => false
 | .struct fs, t => match P.underlying t with | some (.struct l) => P.cellsOf t == Sh.ad6 fs && Sh.aci P fs 0 l.toList | _ => false
def Sh.aci (P : Program) : List Sh → Nat → List Field → Bool
 | [], _, [] => true
 | s :: ss, o, f :: fs => f.offset == o && P.cellsOf f.type == s.size && s.chk P f.type && Sh.aci P ss (o + s.size) fs
 | _, _, _ => false
end
def qp (w : World) : Imm := fun k _ => k < w.heap.size
section
variable {H : Type} {enc : TypeId × Value → H} {P : Program} {w : World} {base : Nat} {spare : Nat → Bool} {held : Bool}
theorem mapM_some {α β : Type} {f : α → Option β} : ∀ {l : List α} {r : List β}, l.mapM f = some r → r.length = l.length ∧ ∀ (i : Nat) (a : α), l[i]? = some a → ∃ b, r[i]? = some b ∧ f a = some b
 | _, _, h => ⟨Lib.mapM_length h, fun i a ha => Lib.mapM_at h i a ha⟩
theorem afd {S : Imm} : ∀ {xs ys : List D} {us vs : List Value}, DRs S w xs us → DRs S w ys vs → DRs S w (xs ++ ys) (us ++ vs)
 | [], ys, us, vs, h1, h2 => by simp only [DRs] at h1; subst h1; simpa using h2
 | x :: xs, ys, us, vs, h1, h2 => by
  simp only [DRs] at h1
  obtain ⟨u, us', rfl, h3, h4⟩ := h1
  exact ⟨u, us' ++ vs, rfl, h3, afd h4 h2⟩
theorem afc {S : Imm} {b : Nat} : ∀ {xs ys : List D} {o : Nat}, DRL S w b o xs → DRL S w b (o + xs.length) ys → DRL S w b o (xs ++ ys)
 | [], ys, o, _, h2 => by simpa using h2
 | x :: xs, ys, o, h1, h2 => by
  simp only [DRL] at h1
  simp only [List.cons_append, DRL]
  refine ⟨h1.1, h1.2.1, afc h1.2.2 ?_⟩
  rw [List.length_cons] at h2
  rwa [show o + 1 + xs.length = o + (xs.length + 1) by omega]
theorem cells_of_cells? {a : Addr} {n : Nat} {vs : List Value} (h : w.cells? base a n = some vs) : vs.length = n ∧ ∀ j, j < n → w.cell? (a.add j) = vs[j]? := by
 unfold World.cells? at h
 split at h
 ·obtain ⟨h1, h2⟩ := mapM_some h
  simp only [List.length_range] at h1
  refine ⟨h1, fun j hj => ?_⟩
  obtain ⟨b, hb, hf⟩ := h2 j j (by simp [hj])
  rw [hb, hf]
 ·cases h
theorem adl {a : Addr} {v : Value} (h : w.cell? a = some v) : a.spot = none ∧ a.block < w.heap.size := by
 unfold World.cell? at h
 split at h
 ·rename_i c _ _ hc
  refine ⟨?_, (Array.getElem?_eq_some_iff.1 hc).1⟩
  split at h
  ·cases h
  ·rename_i hs; simpa using hs
 ·cases h
theorem ajp {a : Addr} {n : Nat} {vs : List Value} {ds : List D} (hs : a.spot = none) (h : w.cells? base a n = some vs) (hd : DRs (qp w) w ds vs) : DRL (qp w) w a.block a.off ds := by
 obtain ⟨h1, h2⟩ := cells_of_cells? h
 have hl := cy hd
 refine acf fun j x hj => ?_
 obtain ⟨u, hu, hR⟩ := ig hd hj
 have hjn : j < n := by have := (List.getElem?_eq_some_iff.1 hu).1; omega
 have hc := h2 j hjn
 rw [hu] at hc
 have ha : a.add j = ⟨a.block, a.off + j, none⟩ := by
  obtain ⟨b, o, s⟩ := a
  simp only at hs; subst hs
  exact dx b o j
 rw [ha] at hc
 exact ⟨(adl hc).2, u, hc, hR⟩
mutual
theorem Sh.akf : ∀ {s : Sh} {ds : List D}, s.has ds → ds.length = s.size
 | .bool, ds, h => by obtain ⟨b, rfl⟩ := h; rfl
 | .int k, ds, h => by obtain ⟨n, rfl, _⟩ := h; rfl
 | .str, ds, h => by obtain ⟨n, rfl, _⟩ := h; rfl
 | .slice e, ds, h => by obtain ⟨n, ls, rfl, _⟩ := h; rfl
 | .struct fs, ds, h => by simp only [Sh.has] at h; simp only [Sh.size]; exact Sh.af7 h
theorem Sh.af7 : ∀ {fs : List Sh} {ds : List D}, Sh.hasAll fs ds → ds.length = Sh.ad6 fs
 | [], ds, h => by simp only [Sh.hasAll] at h; subst h; rfl
 | f :: fs, ds, h => by
  simp only [Sh.hasAll] at h
  obtain ⟨a, b, rfl, h1, h2⟩ := h
  simp only [List.length_append, Sh.ad6, Sh.akf h1, Sh.af7 h2]
end
theorem alq {S : Imm} {b : Nat} {n : Nat} : ∀ {ls : List (List D)} {o : Nat}, (∀ l ∈ ls, l.length = n) → (∀ j l, ls[j]? = some l → DRL S w b (o + j * n) l) → DRL S w b o ls.flatten
 | [], o, _, _ => by simp [DRL]
 | l :: ls, o, h1, h2 => by
  rw [List.flatten_cons]
  refine afc (by have := h2 0 l rfl; simpa using this) (alq (fun l hl => h1 l (by simp [hl])) fun j l' hj => ?_)
  have := h2 (j + 1) l' (by simpa using hj)
  rw [h1 l (by simp)]
  rwa [show o + n + j * n = o + (j + 1) * n by rw [Nat.add_mul]; omega]
theorem ads {α β : Type} {R : α → β → Prop} : ∀ {l : List α}, (∀ a ∈ l, ∃ b, R a b) → ∃ bs : List β, bs.length = l.length ∧ ∀ (j : Nat) (a : α) (b : β), l[j]? = some a → bs[j]? = some b → R a b
 | [], _ => ⟨[], rfl, by simp⟩
 | a :: l, h => by
  obtain ⟨b, hb⟩ := h a (by simp)
  obtain ⟨bs, h1, h2⟩ := ads (l := l) fun a ha => h a (by simp [ha])
  refine ⟨b :: bs, by simp [h1], fun j a' b' ha hb' => ?_⟩
  cases j with
  | zero => simp at ha hb'; subst ha; subst hb'; exact hb
  | succ j => exact h2 j a' b' (by simpa using ha) (by simpa using hb')
theorem axb {fuel : Nat} {t : TypeId} {cs : List Value} {d : DataW H} {ps : List MemPlace} (hu : P.underlying t = some .bool) (h : DataW.trod enc P w 0 spare held fuel t cs = some (d, ps)) : ∃ b, cs = [.bool b] := by
 cases fuel with
 | zero => simp [DataW.trod] at h
 | succ fuel =>
  simp only [DataW.trod, hu] at h
  split at h <;> simp_all
theorem a0n {k : IntKind} {fuel : Nat} {t : TypeId} {cs : List Value} {d : DataW H} {ps : List MemPlace} (hu : P.underlying t = some (.int k)) (h : DataW.trod enc P w 0 spare held fuel t cs = some (d, ps)) : ∃ n, cs = [.int k n] ∧ k.min ≤ n ∧ n ≤ k.max := by
 cases fuel with
 | zero => simp [DataW.trod] at h
 | succ fuel =>
  simp only [DataW.trod, hu] at h
  split at h <;> simp_all
  simpa [Lit.wf] using h.1.2
theorem a0o {fuel : Nat} {t : TypeId} {cs : List Value} {d : DataW H} {ps : List MemPlace} (hu : P.underlying t = some .string) (h : DataW.trod enc P w 0 spare held fuel t cs = some (d, ps)) : ∃ s : ByteArray, cs = [.string s] ∧ s.size ≤ maxLen := by
 cases fuel with
 | zero => simp [DataW.trod] at h
 | succ fuel =>
  simp only [DataW.trod, hu] at h
  split at h <;> simp_all
mutual
theorem Sh.akv : ∀ (s : Sh) {fuel : Nat} {t : TypeId} {cs : List Value} {d : DataW H} {ps : List MemPlace}, s.chk P t = true → DataW.trod enc P w 0 spare held fuel t cs = some (d, ps) →
  ∃ ds, s.has ds ∧ DRs (qp w) w ds cs
 | .bool, fuel, t, cs, d, ps, hc, h => by
  simp only [Sh.chk] at hc
  split at hc
  ·rename_i hu
   obtain ⟨b, rfl⟩ := axb hu h
   exact ⟨[.bool b], ⟨b, rfl⟩, by simp [DRs, DR]⟩
  ·cases hc
 | .int k, fuel, t, cs, d, ps, hc, h => by
  simp only [Sh.chk] at hc
  split at hc
  ·rename_i k' hu
   simp only [beq_iff_eq] at hc
   subst hc
   obtain ⟨n, rfl, h1, h2⟩ := a0n hu h
   exact ⟨[.int _ n], ⟨n, rfl, h1, h2⟩, by simp [DRs, DR]⟩
  ·cases hc
 | .str, fuel, t, cs, d, ps, hc, h => by
  simp only [Sh.chk] at hc
  split at hc
  ·rename_i hu
   obtain ⟨s, rfl, h1⟩ := a0o hu h
   exact ⟨[.str s], ⟨s, rfl, h1⟩, by simp [DRs, DR]⟩
  ·cases hc
 | .slice e, fuel, t, cs, d, ps, hc, h => by
  simp only [Sh.chk] at hc
  split at hc
  ·rename_i t' hu
   simp only [Bool.and_eq_true, beq_iff_eq, bne_iff_ne] at hc
   obtain ⟨⟨h1, h2⟩, h3⟩ := hc
   rcases Deep.open_slice hu h with ⟨rfl, _⟩ | ⟨a, len, cap, m, n, D, Pl, rfl, _, hl, hcap, hm, _, hel⟩
   ·refine ⟨[.slice 0 []], ⟨0, [], by simp⟩, ?_⟩
    simp [DRs, DR]
   ·have hlm : len ≤ m := by rw [hm]; split <;> omega
    rw [h1] at hel
    have hp : ∀ i ∈ List.range len, ∃ ds, e.has ds ∧ (a.spot = none → DRL (qp w) w a.block (a.off + i * e.size) ds) ∧ (i = 0 → a.spot = none) := by
     intro i hi
     have hi : i < len := by simpa using hi
     obtain ⟨cs', hc1, hc2⟩ := hel i (by omega)
     obtain ⟨ds, hd1, hd2⟩ := Sh.akv e h3 hc2
     refine ⟨ds, hd1, fun hs => ?_, fun hi0 => ?_⟩
     ·have ha : a.add (i * e.size) = ⟨a.block, a.off + i * e.size, none⟩ := by
       obtain ⟨b, o, s⟩ := a
       simp only at hs; subst hs
       exact dx b o _
      rw [ha] at hc1
      exact ajp (a := ⟨a.block, a.off + i * e.size, none⟩) rfl hc1 hd2
     ·subst hi0
      obtain ⟨_, hc3⟩ := cells_of_cells? hc1
      have hc3 := hc3 0 (by omega)
      have hlen := cy hd2
      have hel := Sh.akf hd1
      cases cs' with
      | nil => simp at hlen; omega
      | cons u us =>
       simp only [Nat.zero_mul, List.getElem?_cons_zero] at hc3
       exact (adl hc3).1
    obtain ⟨ls, hls, hR⟩ := ads hp
    simp only [List.length_range] at hls
    have hR : ∀ (j : Nat) (l : List Go.Ev.D), ls[j]? = some l → e.has l ∧ (a.spot = none → DRL (qp w) w a.block (a.off + j * e.size) l) ∧ (j = 0 → a.spot = none) := fun j l hj => by
     have hjl : j < len := by rw [← hls]; exact (List.getElem?_eq_some_iff.1 hj).1
     exact hR j j l (by simp [hjl]) hj
    refine ⟨[.slice len ls.flatten], ⟨len, ls, rfl, hls, by omega, fun l hl => ?_⟩, ?_⟩
    ·obtain ⟨j, hj⟩ := List.mem_iff_getElem?.1 hl
     exact (hR j l hj).1
    ·refine ⟨_, [], rfl, ?_, rfl⟩
     simp only [DR]
     refine ⟨some a, cap, rfl, hl, ?_⟩
     cases ls with
     | nil => exact .inl rfl
     | cons l0 ls =>
      have hs : a.spot = none := (hR 0 l0 rfl).2.2 rfl
      refine .inr ⟨a.block, a.off, ?_, alq (n := e.size) (fun l hl => ?_) (fun j l hj => (hR j l hj).2.1 hs)⟩
      ·obtain ⟨b, o, s⟩ := a
       simp only at hs; subst hs; rfl
      ·obtain ⟨j, hj⟩ := List.mem_iff_getElem?.1 hl
       exact Sh.akf (hR j l hj).1
  ·cases hc
 | .struct fs, fuel, t, cs, d, ps, hc, h => by
  simp only [Sh.chk] at hc
  split at hc
  ·rename_i l hu
   simp only [Bool.and_eq_true, beq_iff_eq] at hc
   obtain ⟨xs, n, _, _, hl, hlen, hf⟩ := DataW.trod_struct hu h
   simp only [Sh.has]
   refine Sh.am3 fs (n := n) (o := 0) hc.2 (fun i f hi => ?_) (by rw [hl, hc.1]; omega) |>.imp fun ds hd => by simpa using hd
   have hi2 : i < xs.length := by rw [hlen]; simpa using (List.getElem?_eq_some_iff.1 hi).1
   have := hf i f (by simpa using hi)
   exact ⟨xs[i], by rw [this, List.getElem?_eq_getElem hi2]⟩
  ·cases hc
theorem Sh.am3 : ∀ (ss : List Sh) {n o : Nat} {fs : List Field} {cs : List Value}, Sh.aci P ss o fs = true →
  (∀ (i : Nat) (f : Field), fs[i]? = some f → ∃ x, DataW.trod enc P w 0 spare held n f.type ((cs.drop f.offset).take (P.cellsOf f.type)) = some x) → o + Sh.ad6 ss = cs.length →
  ∃ ds, Sh.hasAll ss ds ∧ DRs (qp w) w ds (cs.drop o)
 | [], n, o, [], cs, _, _, hl => ⟨[], rfl, by simp only [DRs]; simp only [Sh.ad6] at hl; exact List.drop_eq_nil_of_le (by omega)⟩
 | s :: ss, n, o, f :: fs, cs, hc, hf, hl => by
  simp only [Sh.aci, Bool.and_eq_true, beq_iff_eq] at hc
  obtain ⟨⟨⟨h1, h2⟩, h3⟩, h4⟩ := hc
  obtain ⟨⟨d, ps⟩, hx⟩ := hf 0 f rfl
  obtain ⟨ds, hd1, hd2⟩ := Sh.akv s h3 hx
  simp only [Sh.ad6] at hl
  obtain ⟨es, he1, he2⟩ := Sh.am3 ss (n := n) h4 (fun i f hi => hf (i + 1) f (by simpa using hi)) (by omega)
  refine ⟨ds ++ es, ⟨ds, es, rfl, hd1, he1⟩, ?_⟩
  rw [h1, h2] at hd2
  have e : cs.drop o = (cs.drop o).take s.size ++ cs.drop (o + s.size) := by
   rw [← List.drop_drop, List.take_append_drop]
  rw [e]
  exact afd hd2 he2
 | [], n, o, _ :: _, cs, hc, _, _ => by simp [Sh.aci] at hc
 | _ :: _, n, o, [], cs, hc, _, _ => by simp [Sh.aci] at hc
end
end
end Go.Ev

namespace Go.Ev
open Go
abbrev Cq := Dyadic × Dyadic
def cxD (z : Cq) : D := .agg [.bool (a7 (ak z.1)), sl (ofN (ak z.1).natAbs), .int .i64 (av z.1), .bool (a7 (ak z.2)), sl (ofN (ak z.2).natAbs), .int .i64 (av z.2)]
inductive CxR : D → Cq → Prop where
 | mk {b : Bool} {l : List UInt32} {e : Int} {c : Bool} {k : List UInt32} {f : Int} {p q : Dyadic} (hp : DyR (.agg [.bool b, sl l, .int .i64 e]) p) (hq : DyR (.agg [.bool c, sl k, .int .i64 f]) q) :
  CxR (.agg [.bool b, sl l, .int .i64 e, .bool c, sl k, .int .i64 f]) (p, q)
def Hc (h : Nat) (z : Cq) : Prop := Ht h z.1 ∧ Ht h z.2
theorem Hc.mono {a b : Nat} {z : Cq} (h : Hc a z) (hab : a ≤ b) : Hc b z := ⟨h.1.mono hab, h.2.mono hab⟩
theorem CxR.of {z : Cq} (h : Hc 1048576 z) : CxR (cxD z) z := .mk (.of h.1) (.of h.2)
theorem CxR.hc {x : D} {z : Cq} (h : CxR x z) : Hc 1048576 z := by cases h with | mk hp hq => exact ⟨hp.ht, hq.ht⟩
def a2g (z : Cq) : Int := if 0 < z.1 ∧ 0 ≤ z.2 then 0 else if 0 < z.2 ∧ z.1 ≤ 0 then 1 else if z.1 < 0 ∧ z.2 ≤ 0 then 2 else if z.2 < 0 ∧ 0 ≤ z.1 then 3 else -1
def a4s (a b : Cq) : Dyadic := a.1 * b.2 - a.2 * b.1
def a5n (x y s : Int) : Int × Bool := if x < 0 ∨ y < 0 then (0, false) else if (y - x + 4) % 4 = 3 then (-1, true) else if (y - x + 4) % 4 = 2 then (2 * s, decide (s ≠ 0)) else ((y - x + 4) % 4, true)
def a5m (a b : Cq) : Int × Bool := a5n (a2g a) (a2g b) (dsg (a4s a b))
structure RC where
 b : Bool
 l : List UInt32
 e : Int
 c : Bool
 k : List UInt32
 f : Int
def RC.cells (r : RC) : List D := [.bool r.b, sl r.l, .int .i64 r.e, .bool r.c, sl r.k, .int .i64 r.f]
def RC.val (r : RC) : Cq := (dof (zv r.b r.l) r.e, dof (zv r.c r.k) r.f)
def RC.nil : RC := ⟨false, [], 0, false, [], 0⟩
def ao3 (n : Nat) (b : Int) (l : List UInt32) (e : Int) : Bool := decide (l.length ≤ n) && decide (-b ≤ e) && decide (e ≤ b)
def RC.few (n : Nat) (b : Int) (r : RC) : Bool := ao3 n b r.l r.e && ao3 n b r.k r.f
theorem amc {n : Nat} {b : Int} {l : List UInt32} {e : Int} : ao3 n b l e = true ↔ l.length ≤ n ∧ -b ≤ e ∧ e ≤ b := by
 simp only [ao3, Bool.and_eq_true, decide_eq_true_eq, and_assoc]
theorem af2 {n : Nat} {b : Int} {l : List UInt32} {e : Int} (h : ¬ (l.length ≤ n ∧ -b ≤ e ∧ e ≤ b)) : ao3 n b l e = false := by
 rw [← Bool.not_eq_true, amc]; exact h
theorem RC.yu {n : Nat} {b : Int} {r : RC} : r.few n b = true ↔ (r.l.length ≤ n ∧ -b ≤ r.e ∧ r.e ≤ b) ∧ (r.k.length ≤ n ∧ -b ≤ r.f ∧ r.f ≤ b) := by
 simp only [RC.few, Bool.and_eq_true, amc]
theorem apb {c : Bool} {n : Nat} {b : Nat} {l : List UInt32} {e : Int} (h : l.length ≤ n ∧ -(b : Int) ≤ e ∧ e ≤ b) : Ht (32 * n + b) (dof (zv c l) e) :=
 Ht.dof (a := 32 * n) (b := b) (Zt.agr h.1 (Nat.le_refl _)) h.2.1 h.2.2 (Nat.le_refl _)
theorem ark {c : Bool} {n : Nat} {b : Nat} {l : List UInt32} {e : Int} (hn : n ≤ 1000) (hb : b ≤ 100000) (h : l.length ≤ n ∧ -(b : Int) ≤ e ∧ e ≤ b) : DyR (.agg [.bool c, sl l, .int .i64 e]) (dof (zv c l) e) :=
 .mk _ _ _ (by omega) (by omega) (by omega) ((apb h).mono (by omega))
theorem RC.cxR {n : Nat} (b : Nat) {B : Int} (hB : B = b) {r : RC} (hn : n ≤ 1000) (hb : b ≤ 100000) (h : r.few n B = true) : CxR (.agg r.cells) r.val := by
 subst hB; exact
 .mk (ark hn hb (RC.yu.1 h).1) (ark hn hb (RC.yu.1 h).2)
theorem RC.hc {n : Nat} (b k : Nat) {B : Int} (hB : B = b) (hk : 32 * n + b ≤ k) {r : RC} (h : r.few n B = true) : Hc k r.val := by
 subst hB; refine Hc.mono ?_ hk; exact ⟨apb (RC.yu.1 h).1, apb (RC.yu.1 h).2⟩
def RC.of (z : Cq) : RC := ⟨a7 (ak z.1), ofN (ak z.1).natAbs, av z.1, a7 (ak z.2), ofN (ak z.2).natAbs, av z.2⟩
end Go.Ev

namespace Go.Ev
open Go Go.RowKit Go.ChangeShapes
def Sh.arg : Sh → List D → D
 | .struct _, ds => .agg ds
 | _, ds => ds.headD .any
def aq4 (s : Sh) (x : D) : Prop := ∃ ds, s.has ds ∧ x = s.arg ds
def aoo : List Sh → List D → Prop
 | [], xs => xs = []
 | s :: ss, xs => ∃ y ys, xs = y :: ys ∧ aq4 s y ∧ aoo ss ys
def Sh.acj (P : Program) : List Sh → List TypeId → Bool
 | [], [] => true
 | s :: ss, t :: ts => s.chk P t && Sh.acj P ss ts
 | _, _ => false
section
variable {H : Type} {enc : TypeId × Value → H} {P : Program} {w : World}
theorem Sh.axx {s : Sh} {ds : List D} (hs : ∀ fs, s ≠ .struct fs) (h : s.has ds) : ∃ x, ds = [x] := by
 cases s with
 | struct fs => exact absurd rfl (hs fs)
 | bool => obtain ⟨b, rfl⟩ := h; exact ⟨_, rfl⟩
 | int k => obtain ⟨n, rfl, _⟩ := h; exact ⟨_, rfl⟩
 | str => obtain ⟨n, rfl, _⟩ := h; exact ⟨_, rfl⟩
 | slice e => obtain ⟨n, ls, rfl, _⟩ := h; exact ⟨_, rfl⟩
theorem avm {n : Nat} {s : Sh} {t : TypeId} {v : Value} {d : DataW H} {ps : List MemPlace} (hc : s.chk P t = true) (ht : DataW.Trod enc P w 0 (fun _ => true) true t v d ps) (hv : Value.okWide P w .any n t v) : ∃ x, aq4 s x ∧ DR (qp w) w x v := by
 obtain ⟨fuel, h⟩ := ht
 obtain ⟨ds, hd, hR⟩ := s.akv hc h
 refine ⟨_, ⟨ds, hd, rfl⟩, ?_⟩
 cases s with
 | struct fs =>
  simp only [Sh.chk] at hc
  split at hc
  ·rename_i l hu
   simp only [Value.okWide, hu] at hv
   obtain ⟨cs, rfl, _⟩ := hv
   simp only [Sh.arg, DR]
   exact ⟨cs, rfl, hR⟩
  ·cases hc
 | _ =>
  obtain ⟨x, rfl⟩ := Sh.axx (fun _ => Sh.noConfusion) hd
  simp only [DRs] at hR
  obtain ⟨u, us, hu, hx, rfl⟩ := hR
  simp only [Sh.arg, List.headD_cons]
  cases v with
  | agg cs =>
   exfalso
   simp only [Sh.chk] at hc
   split at hc <;> simp_all [Value.okWide, Cell.okWide, Cell.ok]
  | _ => simp [Value.cells] at hu; subst hu; exact hx
theorem ah5 {n : Nat} : ∀ {ss : List Sh} {ts : List TypeId} {vs : List Value} {ds : List (DataW H)} {ps : List MemPlace}, Sh.acj P ss ts = true → DataW.TrodAll enc P w 0 (fun _ => true) true ts vs ds ps →
  (∀ (j : Nat) (t : TypeId) (v : Value), ts[j]? = some t → vs[j]? = some v → Value.okWide P w .any n t v) → ∃ xs, aoo ss xs ∧ DRs (qp w) w xs vs
 | [], [], [], ds, ps, _, h, _ => ⟨[], rfl, rfl⟩
 | s :: ss, t :: ts, v :: vs, [], ps, hc, h, hv => by simp [DataW.TrodAll] at h
 | s :: ss, t :: ts, v :: vs, d :: ds, ps, hc, h, hv => by
  simp only [Sh.acj, Bool.and_eq_true] at hc
  obtain ⟨p, q, h1, h2, _⟩ := h
  obtain ⟨x, hx, hR⟩ := avm hc.1 h1 (hv 0 t v rfl rfl)
  obtain ⟨xs, hxs, hRs⟩ := ah5 hc.2 h2 fun j t v hj hj' => hv (j + 1) t v (by simpa using hj) (by simpa using hj')
  exact ⟨x :: xs, ⟨x, xs, rfl, hx, hxs⟩, ⟨v, vs, rfl, hR, hRs⟩⟩
 | [], [], _ :: _, ds, ps, _, h, _ => by cases ds <;> simp [DataW.TrodAll] at h
 | [], _ :: _, vs, ds, ps, hc, h, _ => by simp [Sh.acj] at hc
 | _ :: _, [], vs, ds, ps, hc, h, _ => by simp [Sh.acj] at hc
 | _ :: _, _ :: _, [], ds, ps, hc, h, _ => by cases ds <;> simp [DataW.TrodAll] at h
theorem ad8 : ∀ {ts : List TypeId} {vs : List Value} {ds : List (DataW H)} {ps : List MemPlace}, DataW.TrodAll enc P w 0 (fun _ => true) true ts vs ds ps → ds.length = ts.length
 | [], [], [], ps, h => rfl
 | t :: ts, v :: vs, d :: ds, ps, h => by obtain ⟨p, q, h1, h2, _⟩ := h; simp [ad8 h2]
 | [], [], _ :: _, ps, h => by simp [DataW.TrodAll] at h
 | [], _ :: _, ds, ps, h => by cases ds <;> simp [DataW.TrodAll] at h
 | _ :: _, [], ds, ps, h => by cases ds <;> simp [DataW.TrodAll] at h
 | _ :: _, _ :: _, [], ps, h => by simp [DataW.TrodAll] at h
def aex (P : Program) (ts : List TypeId) : Bool := ts.all fun t => P.readableRec t && decide (t < P.types.size)
theorem zx (hl : laidOutB P = true) {W W' : World} {sp : Nat → Bool} (hb : Below W.heap.size W W') : ∀ {ts : List TypeId} {vs : List Value} {ds : List (DataW H)} {ps : List MemPlace}, aex P ts = true →
  DataW.TrodAll enc P W 0 (fun _ => true) true ts vs ds ps → (∀ x ∈ ps, x.block < W.heap.size) → (∀ x ∈ ps, sp x.block = true) → DataW.TrodAll enc P W' 0 sp true ts vs ds ps
 | [], [], [], ps, _, h, _, _ => h
 | t :: ts, v :: vs, d :: ds, ps, hr, h, hlt, hs => by
  simp only [aex, List.all_cons, Bool.and_eq_true, decide_eq_true_eq] at hr
  obtain ⟨p, q, h1, h2, rfl⟩ := h
  exact ⟨p, q, WideElems.Trod_stays hl hr.1.1 hr.1.2 h1 (fun x hx => hb.same (hlt x (by simp [hx]))) (fun x hx => hs x (by simp [hx])), zx hl hb (by simpa [aex] using hr.2) h2 (fun x hx => hlt x (by simp [hx])) (fun x hx => hs x (by simp [hx])), rfl⟩
 | [], [], _ :: _, ps, _, h, _, _ => by simp [DataW.TrodAll] at h
 | [], _ :: _, ds, ps, _, h, _, _ => by cases ds <;> simp [DataW.TrodAll] at h
 | _ :: _, [], ds, ps, _, h, _, _ => by cases ds <;> simp [DataW.TrodAll] at h
 | _ :: _, _ :: _, [], ps, _, h, _, _ => by simp [DataW.TrodAll] at h
theorem ap5 {f : Func} {s : ChangeSpec} {W W' : World} {args : Array Value} {v : Value} {ds gs : List (DataW H)} {before pa pv : List MemPlace}
    (hW : DataW.Whole enc P f.params.toList s.vars false W args.toList ds gs before)
    (hres : ∀ (b : Nat) (sp : Nat → Bool) (hd : Bool), DataW.TrodAll enc P W' b sp hd f.resultTypes.toList (v.resultList f.resultTypes.size) (s.fn H (ds ++ gs)).results [])
    (hargs : ∀ sp : Nat → Bool, (∀ p ∈ before, sp p.block = true) → DataW.TrodAll enc P W' 0 sp true f.params.toList args.toList (s.fn H (ds ++ gs)).args pa)
    (hvars : ∀ sp : Nat → Bool, (∀ p ∈ before, sp p.block = true) → DataW.TrodVars enc P W' sp s.vars (s.fn H (ds ++ gs)).vars pv)
    (hps : before = pa ++ pv) (hk : W.keptBut W' (· ∈ before)) (hfz : ∀ a : Addr, a.block < W.heap.size → W'.frozen? a = W.frozen? a)
    (hok : ∀ (j : Nat) (t : TypeId) (r : Value), f.resultTypes[j]? = some t → (v.resultList f.resultTypes.size)[j]? = some r → Value.okWide P W' .any 0 t r) :
    s.post enc P f false true false false W args v W' := by
  have hold : ∀ p ∈ before, (fun b => decide (b < W.heap.size)) p.block = true := fun p hp => by simpa using hW.lt p hp
  refine ⟨ds, gs, before, [], pa, pv, hW, hres _ _ _, hargs _ hold, hvars _ hold, World.keptBut_mono (fun p hp => ⟨hp, ?_⟩) hk, fun h => by cases h⟩
  rw [hps, List.mem_append] at hp
  exact Or.inr hp
theorem akj {G : bb} {f : FuncId} {fn : Func} {s : ChangeSpec} {tb : TypeId} (ts : List TypeId) (ss : List Sh) (hts : fn.params.toList = ts) (hrt : fn.resultTypes = #[tb]) (htb : P.underlying tb = some .bool) (hvars : s.vars = [])
  (hl : laidOutB P = true) (hchk : Sh.acj P ss ts = true) (hread : aex P ts = true) (hspec : ∀ ds : List (DataW H), ds.length = ts.length → s.fn H ds = { results := [.lit (.bool true)], args := ds })
  (hsim : ∀ xs, aoo ss xs → Sim P G true f xs (.bool true)) {W : World} {base : Nat} {args : Array Value} {ds gs : List (DataW H)} {before : List MemPlace}
  (hG : ∀ g, DRL (qp W) W g 0 (G g))
  (hval : ∀ (j : Nat) (t : TypeId) (v : Value), fn.params[j]? = some t → args[j]? = some v → Value.okWide P W .any base t v)
  (hW : DataW.Whole enc P fn.params.toList s.vars false W args.toList ds gs before) :
  Calls P f args W fun e W' => ∃ v, e = .returned v ∧ s.post enc P fn false true false false W args v W' := by
 have hW' := hW
 obtain ⟨p, q, hA, hV, rfl, hfz, hnd⟩ := hW
 rw [hvars] at hV
 obtain ⟨rfl, rfl⟩ : gs = [] ∧ q = [] := by
  cases gs with
  | nil => exact ⟨rfl, hV⟩
  | cons _ _ => simp [DataW.TrodVars] at hV
 rw [hts] at hA
 have hlen := ad8 hA
 obtain ⟨xs, hxs, hR⟩ := ah5 (n := base) hchk hA (fun j t v hj hj' => hval j t v (by rw [← hts] at hj; simpa using hj) (by simpa using hj'))
 have hcall := (hsim xs hxs).run (qp W) W args.toList (fun k o h => h) hG hR
 rw [show args.toList.toArray = args by simp] at hcall
 refine hcall.mono ?_
 rintro e W' ⟨v, rfl, hbel, S', _, hv⟩
 simp only [DR] at hv
 subst hv
 refine ⟨_, rfl, ?_⟩
 have hsp := hspec ds hlen
 refine ap5 (pa := p) (pv := []) hW' (fun b sp hd => ?_) (fun sp hsp2 => ?_) (fun sp _ => ?_) (by simp) (hbel.frame _) (fun a ha => hbel.frozen ha) (ok_one hrt rfl (by simp [Value.okWide, htb, Cell.okWide, Cell.ok]))
 ·rw [List.append_nil, hsp, hrt]
  exact ⟨[], [], ⟨1, by simp [DataW.trod, htb, Value.cells]⟩, rfl, rfl⟩
 ·rw [List.append_nil, hsp, hts]
  exact zx hl hbel hread hA (fun x hx => hW'.lt x (by simp [hx])) (fun x hx => hsp2 x (by simp [hx]))
 ·rw [List.append_nil, hsp, hvars]
  rfl
end
abbrev ayz : Sh := .slice (.int .u32)
abbrev a2h : Sh := .struct [.bool, ayz]
abbrev a36 : Sh := .struct [a2h, .int .i64]
abbrev a1n : Sh := .struct [a36, a36]
theorem au5 (n : Int) (h1 : IntKind.u32.min ≤ n) (h2 : n ≤ IntKind.u32.max) : 0 ≤ n ∧ n ≤ 4294967295 := by
 have e1 : IntKind.u32.min = 0 := by decide
 have e2 : IntKind.u32.max = 4294967295 := by decide
 omega
theorem atz {n : Int} (h1 : IntKind.i64.min ≤ n) (h2 : n ≤ IntKind.i64.max) : -9223372036854775808 ≤ n ∧ n ≤ 9223372036854775807 := by
 have e1 : IntKind.i64.min = -9223372036854775808 := by decide
 have e2 : IntKind.i64.max = 9223372036854775807 := by decide
 omega
theorem aua : maxLen = 9223372036854775807 := by decide
theorem aik : ∀ {ls : List (List D)}, (∀ l ∈ ls, (Sh.int .u32).has l) → ∃ l : List UInt32, ls.flatten = bj l ∧ l.length = ls.length
 | [], _ => ⟨[], rfl, rfl⟩
 | x :: ls, h => by
  obtain ⟨l, h1, h2⟩ := aik (ls := ls) fun y hy => h y (by simp [hy])
  obtain ⟨n, rfl, h3, h4⟩ := h x (by simp)
  have h5 := au5 n h3 h4
  refine ⟨UInt32.ofNat n.toNat :: l, ?_, by simp [h2]⟩
  rw [List.flatten_cons, h1]
  simp only [bj, List.map_cons, List.singleton_append, UInt32.toNat_ofNat']
  congr 2; omega
theorem awy {ds : List D} (h : ayz.has ds) : ∃ l : List UInt32, ds = [sl l] ∧ l.length ≤ maxLen := by
 obtain ⟨n, ls, rfl, h1, h2, h3⟩ := h
 obtain ⟨l, h4, h5⟩ := aik h3
 refine ⟨l, ?_, by omega⟩
 rw [h4]; unfold sl; rw [h5, h1]
theorem a0e {ds : List D} (h : a2h.has ds) : ∃ b l, ds = [.bool b, sl l] ∧ l.length ≤ maxLen := by
 simp only [Sh.has, Sh.hasAll] at h
 obtain ⟨_, _, rfl, ⟨b, rfl⟩, _, _, rfl, h2, rfl⟩ := h
 obtain ⟨l, rfl, hl⟩ := awy h2
 exact ⟨b, l, rfl, hl⟩
theorem awx {ds : List D} (h : a36.has ds) : ∃ b l e, ds = [.bool b, sl l, .int .i64 e] ∧ l.length ≤ maxLen ∧ -9223372036854775808 ≤ e ∧ e ≤ 9223372036854775807 := by
 simp only [Sh.has, Sh.hasAll] at h
 obtain ⟨_, _, rfl, h1, _, _, rfl, ⟨e, rfl, h3, h4⟩, rfl⟩ := h
 obtain ⟨b, l, rfl, hl⟩ := a0e (by simp only [Sh.has, Sh.hasAll]; exact h1)
 exact ⟨b, l, e, rfl, hl, atz h3 h4⟩
theorem aww {ds : List D} (h : a1n.has ds) : ∃ r : RC, ds = r.cells := by
 simp only [Sh.has, Sh.hasAll] at h
 obtain ⟨_, _, rfl, h1, _, _, rfl, h2, rfl⟩ := h
 obtain ⟨b, l, e, rfl, _⟩ := awx (by simp only [Sh.has, Sh.hasAll]; exact h1)
 obtain ⟨c, k, f, rfl, _⟩ := awx (by simp only [Sh.has, Sh.hasAll]; exact h2)
 exact ⟨⟨b, l, e, c, k, f⟩, rfl⟩
theorem a2q {x : D} (h : aq4 a1n x) : ∃ r : RC, x = .agg r.cells := by
 obtain ⟨ds, h1, rfl⟩ := h
 obtain ⟨r, rfl⟩ := aww h1
 exact ⟨r, rfl⟩
end Go.Ev

namespace Go.Ev
open Go
theorem cx.ia {a : Prop} {T : Tab} {n : Nat} {ops : Array Oper} {d : Bool} {ps : List (Nat × Nat)} {X : Prop} {b : List (Nat × Nat) → Prop} {c : Cfg → Prop} {z : List Nat → Prop} (hs : (ps.all fun p => (ops[p.1]?).any ej) = true) (hk : ak5 T n ops d ps = true) (hx : X) (hb : b ps = Cd (ak5 T n ops d ps = true) X) : cx a b c z := .late ps (by rw [hb]; exact Cd.mk hk hx)
def a2v (f : Nat) (o : Oper) : Bool := match o.op with
 | .call c => match c.callee with
  | .value (.func g) => Nat.beq g f
  | .builtin .append => Nat.beq f 0
  | _ => false
 | _ => false
theorem cx.xr {a : Prop} {T : Tab} {n : Nat} {ops : Array Oper} {d : Bool} {C : Cfg} {heap : Hp} {X : Prop} {b : List (Nat × Nat) → Prop} {c : Cfg → Prop} {z : List Nat → Prop} (cf : List (Nat × Nat)) (hs : (d && cf.all fun x => (ops[x.1]?).any (a2v x.2)) = true) (hcf : C.cs = cf.map (·.1)) (hk : Dw.ac4 T C n ops d = true) (hb : ka C heap = true) (hx : X) (hc : c C = Cd (Dw.ac4 T C n ops d = true) (Cd (ka C heap = true) X)) : cx a b c z := .own C (by rw [hc]; exact Cd.mk hk (Cd.mk hb hx))
theorem cx.ao6 {P : Program} {G : bb} {T : Tab} {ops : Array Oper} {draw : Bool} {σ : St} {Q : Exit → St → Prop} {a : Prop} {b : List (Nat × Nat) → Prop} {c : Cfg → Prop} (d : Nat) (ss : List Nat) (hs : ((ops[0]?).any fun o => match o.dst with | some x => Nat.beq x d | none => false) = true) (h : aqa P G T ops draw σ Q ss) : cx a b c (aqa P G T ops draw σ Q) := .frz ss h
end Go.Ev

namespace Go.Ev
open Go
theorem Br.ck {p : Prop} [Decidable p] {a b : Prop} (h : p) (ha : a) : Br (decide p) a b := Br.dec (fun _ => ha) (fun g => absurd h g)
theorem Br.b4 {p : Prop} [Decidable p] {a b : Prop} (h : ¬ p) (hb : b) : Br (decide p) a b := Br.dec (fun g => absurd g h) (fun _ => hb)
section
variable {α : Type} {f : α → List D} {k : Nat}
theorem vh (hf : ∀ x, (f x).length = k) : ∀ xs : List α, (xs.flatMap f).length = xs.length * k
 | [] => by simp
 | x :: xs => by rw [List.flatMap_cons, List.length_append, vh hf xs, List.length_cons, hf, Nat.add_mul]; omega
theorem aka (hf : ∀ x, (f x).length = k) (z : α) : ∀ (xs : List α) (i : Nat), i < xs.length → ((xs.flatMap f).drop (i * k)).take k = f (xs.getD i z)
 | [], i, h => by simp at h
 | x :: xs, 0, _ => by
  rw [List.flatMap_cons, Nat.zero_mul, List.drop_zero, List.take_append_of_le_length (by rw [hf]; exact Nat.le_refl _), List.take_of_length_le (by rw [hf]; exact Nat.le_refl _)]; simp
 | x :: xs, i + 1, h => by
  have := aka hf z xs i (by simpa using h)
  rw [List.flatMap_cons, List.drop_append, show (i + 1) * k - (f x).length = i * k by rw [hf, Nat.add_mul]; omega, List.drop_eq_nil_of_le (by rw [hf, Nat.add_mul]; omega), List.nil_append, this]
  simp
theorem a16 (hf : ∀ x, (f x).length = k) (hk : 0 < k) (xs : List α) (i : Nat) (h : i < xs.length) : (0 ≤ (i : Int) ∧ (i : Int) < (xs.length : Int)) ∧ (i : Int).toNat * k < (xs.flatMap f).length := by
 rw [vh hf, Int.toNat_natCast]
 exact ⟨by omega, Nat.mul_lt_mul_of_pos_right h hk⟩
theorem a17 (hf : ∀ x, (f x).length = k) (z : α) (xs : List α) (i : Nat) (h : i < xs.length) : (((xs.flatMap f).drop ((i : Int).toNat * k)).drop 0).take k = f (xs.getD i z) := by
 rw [List.drop_zero, Int.toNat_natCast]; exact aka hf z xs i h
def fa (f : α → List D) (xs : List α) : List A := (xs.flatMap f).map A.d
theorem du (hf : ∀ x, (f x).length = k) (xs : List α) : (fa f xs).length = xs.length * k := by unfold fa; rw [List.length_map, vh hf]
theorem tv (hf : ∀ x, (f x).length = k) (z : α) (xs : List α) (i : Nat) (h : i < xs.length) : ((fa f xs).drop (0 + (i : Int).toNat * k)).take k = (f (xs.getD i z)).map A.d := by
 unfold fa
 rw [Nat.zero_add, Int.toNat_natCast, ← List.map_drop, ← List.map_take, aka hf z xs i h]
theorem ae0 (f : α → List D) (ρ : List (Nat × Nat)) (xs : List α) : A.vw ρ (fa f xs) = fa f xs := A.xz ρ _
theorem jy (f : α → List D) (V : List Nat) (xs : List α) : A.nrs V (fa f xs) = true := ar9 V _
theorem ajd {β : Type} : ∀ (ys l r : List β) (o : Nat), o = l.length → ∀ m : List β, m.length = ys.length → setAt (l ++ (m ++ r)) o ys = l ++ (ys ++ r)
 | [], l, r, o, ho, m, hm => by
  have : m = [] := List.length_eq_zero_iff.1 (by simpa using hm)
  subst this; rfl
 | y :: ys, l, r, o, ho, [], hm => by simp at hm
 | y :: ys, l, r, o, ho, x :: m, hm => by
  have e : (l ++ ((x :: m) ++ r)).set o y = (l ++ [y]) ++ (m ++ r) := by
   subst ho
   simp
  rw [setAt, e, ajd ys (l ++ [y]) r (o + 1) (by simp [ho]) m (by simpa using hm)]
  simp
theorem aco (hf : ∀ x, (f x).length = k) (xs : List α) (i : Nat) (x : α) (h : i < xs.length) : setAt (fa f xs) (0 + (i : Int).toNat * k) ((f x).map A.d) = fa f (xs.set i x) := by
 have e1 : xs = xs.take i ++ (xs[i] :: xs.drop (i + 1)) := by rw [List.getElem_cons_drop, List.take_append_drop]
 have e2 : xs.set i x = xs.take i ++ (x :: xs.drop (i + 1)) := List.set_eq_take_append_cons_drop .. |>.trans (by rw [if_pos h])
 rw [e2]
 have g : fa f xs = fa f (xs.take i) ++ ((f xs[i]).map A.d ++ fa f (xs.drop (i + 1))) := by
  unfold fa
  rw [← List.map_append, ← List.map_append, ← List.flatMap_cons, ← List.flatMap_append, ← e1]
 rw [g, ajd _ _ _ _ ?_ _ (by simp [hf])]
 ·unfold fa
  rw [← List.map_append, ← List.map_append, ← List.flatMap_cons, ← List.flatMap_append]
 ·rw [du hf, List.length_take, Int.toNat_natCast, Nat.min_eq_left (by omega)]; omega
end
end Go.Ev

namespace Go.Ev
open Go
theorem rgE {T : Tab} {n : Nat} {ops : Array Oper} {d : Bool} {X : Prop} {b : List (Nat × Nat) → Prop} {c : Cfg → Prop} {z : List Nat → Prop} (k : X) (h : ag4 T n ops d = true := by kernel_rfl) : cx (Cd (ag4 T n ops d = true) X) b c z := .early (Cd.mk h k)
theorem Cd.om {p q : Prop} (k : q) (h : p := by first | omega | (dsimp only; omega) | (simp only [px, ue, Nat.mul_one, List.length_set, List.length_take, List.length_drop, List.length_replicate, List.length_append, Int.toNat_natCast]; omega) | (rw [ue, Nat.mul_one]) | (rw [px, Nat.mul_one]) | (refine ⟨⟨Int.le_refl _, ?_⟩, ?_⟩ <;> first | omega | (rw [Int.toNat_zero]; omega)) | (simp only [px, ue, Nat.mul_one, List.length_set, List.length_take, List.length_drop, List.length_replicate]; exact Nat.le_refl _)) : Cd p q := .mk h k
theorem Cd.os {p q : Prop} (k : q) (h : p := by first | omega | (simp only [px, ue]; omega)) : Cd p q := .mk h k
theorem Cd.ol {p q : Prop} (k : q) (h : p := by exact Nat.le_of_ble_eq_true rfl) : Cd p q := .mk h k
theorem Br.bt {p : Prop} [Decidable p] {a b : Prop} (ha : p → a) (hp : p := by omega) : Br (decide p) a b := Br.ck hp (ha hp)
theorem Br.bf {p : Prop} [Decidable p] {a b : Prop} (hb : ¬ p → b) (hp : ¬ p := by omega) : Br (decide p) a b := Br.b4 hp (hb hp)
theorem avj {α : Type} (ks : List Nat) (k : Nat) (f : Bool) (g : α → List D) (l : List α) (h : List (Nat × Bool × List A)) (H : h.all (fun x => A.a6 ks x.2.2) = true) : List.all ((k, f, fa g l) :: h) (fun x => A.a6 ks x.2.2) = true := by
 rw [List.all_cons, H]; unfold fa; rw [A.dd]; rfl
theorem an.cu {I : Nat → List A → List (Nat × Bool × List A) → Prop} {m : Nat} {L ks : List Nat} {σ' : St} (xs' : List A) (h' : List (Nat × Bool × List A)) (inv : ∃ m', I m' xs' h' ∧ m' < m) (cut : σ'.cut L ks xs' h' := by exact ⟨.inl rfl, rfl, rfl, by first | rfl | (repeat first | exact all_nil _ | refine bm _ _ _ _ _ ?_ | refine avj _ _ _ _ _ _ ?_)⟩) : an I m L ks σ' := an.go xs' h' cut inv
theorem ae1 (ρ : List (Nat × Nat)) (l : List UInt32) : A.vw ρ (la l) = la l := A.xz _ _
theorem aey (ks : List Nat) (l : List UInt32) : A.a6 ks (la l) = true := A.dd _ _
theorem ao {P : Program} {G : bb} {T : Tab} (hT : b6 P T) {f : FuncId} {fn : Func} {c : Code} {args : List D} {r : D} {fresh : Bool} (hf : P.funcs[f]? = some fn)
  (h : awp P G T c (anl T fn.results.toList r) (St.enter fn.ntmps args)) (hb : fn.body = some c := by rfl) (hname : (fn.name == "runtime.NumGoroutine") = false := by kernel_rfl) (hs : r.sc = fresh := by rfl) (hn : args.length ≤ fn.ntmps ∧ fn.ntmps ≤ 1000000 := by exact ⟨Nat.le_of_ble_eq_true rfl, Nat.le_of_ble_eq_true rfl⟩) : Sim P G fresh f args r :=
 a38 hT hf hb hname hs hn h
theorem ax1 {b o o' n n' s : Nat} (h1 : o = o') (h2 : n = n') : Ev.A.own b o n s = Ev.A.own b o' n' s := by rw [h1, h2]
theorem jt.dt {hp : Nat → Option (Bool × List A)} {ρ : List (Nat × Nat)} {x y : D} {bs : List Nat} {cs cs' : List A} (h : y.dn = x) (t : jt hp ρ cs cs' bs) : jt hp ρ (.d x :: cs) (.d y :: cs') bs :=
 .data (b1 := []) ⟨h, rfl⟩ t
theorem jq {P : Program} {G : bb} {T : Tab} (hT : b6 P T) {f : FuncId} {fn : Func} {c : Code} {args : List A} {hin : Hp} {r : A} {hout : Hp} (hf : P.funcs[f]? = some fn)
  (h : awp P G T c (a35 T fn.results.toList r hout) ⟨fn.ntmps, z9 0 args, hin⟩) (hb : fn.body = some c := by rfl) (hname : (fn.name == "runtime.NumGoroutine") = false := by kernel_rfl) (hn : args.length ≤ fn.ntmps ∧ fn.ntmps ≤ 1000000 := by exact ⟨Nat.le_of_ble_eq_true rfl, Nat.le_of_ble_eq_true rfl⟩)
  (r1 : A.a6 (hin.map (·.1)) args = true := by rfl) (r2 : ∀ x ∈ hin, A.a6 (hin.map (·.1)) x.2.2 = true := by (intro x hx; simp only [List.mem_cons, List.not_mem_nil, or_false] at hx <;> first | (subst hx; first | rfl | exact aey _ _ | exact A.dd _ _) | (rcases hx with rfl | rfl <;> first | rfl | exact aey _ _ | exact A.dd _ _))) (r3 : r.jk (hout.map (·.1)) = true := by rfl) (r4 : ∀ x ∈ hout, A.a6 (hout.map (·.1)) x.2.2 = true := by (intro x hx; simp only [List.mem_cons, List.not_mem_nil, or_false] at hx <;> first | (subst hx; first | rfl | exact aey _ _ | exact A.dd _ _) | (rcases hx with rfl | rfl <;> first | rfl | exact aey _ _ | exact A.dd _ _))) : ji P G f args hin r hout :=
 fy hT hf hb hname hn r1 r2 r3 r4 h
theorem jl.au {P : Program} {G : bb} {n : Nat} {env : List (Nat × A)} {heap : Hp} {f : FuncId} {xs : List A} {K : A → St → Prop} {args : List A} {hin : Hp} {r : A} {hout : Hp} (hs : ji P G f args hin r hout) (ρ ν : List (Nat × Nat)) (rR : A) (houtR : Hp) (bs : List Nat)
  (k : K rR ⟨n, klE (ja ρ) env, houtR ++ m8 ((ρ ++ ν).map (·.2)) (klH (ja ρ) (aab heap bs))⟩)
  (ha : jt (lk heap) ρ args xs bs := by (first | ((repeat (first | exact jt.nil | refine jt.own (by first | rfl | exact ax1 (by first | omega | (dsimp only; omega)) (by first | omega | (dsimp only; omega))) ?_ | refine jt.dt rfl ?_ | refine jt.data (b1 := []) (bs := []) ⟨rfl, rfl⟩ ?_ | fail)); done) | fail)) (hi : s9 (aab heap bs) ρ hin := by (first | exact trivial | exact ⟨⟨rfl, rfl⟩, trivial⟩ | (simp only [s9, ae1]; (repeat' (first | exact trivial | exact rfl | refine And.intro ?_ ?_)); done) | (simp only [s9, ae0]; repeat' (first | exact trivial | exact rfl | refine And.intro ?_ ?_)))) (hc : wh ρ ν heap (hin.map (·.1)) (hout.map (·.1)) = true := by rfl) (hr : r.ren (ρ ++ ν) = rR := by rfl) (ho : aaj (ρ ++ ν) hout = houtR := by (first | rfl | (simp only [aaj, List.map_cons, List.map_nil, ae1]; rfl) | (simp only [aaj, List.map_cons, List.map_nil, ae0]; rfl))) : jl P G n env heap f xs K := .mk hs ρ ν rR houtR bs ha hi hc hr ho k
theorem eg.au {P : Program} {G : bb} {C : Cfg} {n : Nat} {env : List (Nat × A)} {heap : Hp} {f : FuncId} {xs : List A} {K : A → St → Prop} {args : List A} {hin : Hp} {r : A} {hout : Hp} (hs : ji P G f args hin r hout) (ρ ν : List (Nat × Nat)) (rR : A) (houtR : Hp)
  (k : K rR ⟨n, klE (ja ρ) env, houtR ++ m8 ((ρ ++ ν).map (·.2)) heap⟩)
  (ha : jt (lk heap) ρ args xs [] := by (first | ((repeat (first | exact jt.nil | refine jt.own (by first | rfl | exact ax1 (by first | omega | (dsimp only; omega)) (by first | omega | (dsimp only; omega))) ?_ | refine jt.dt rfl ?_ | refine jt.data (b1 := []) (bs := []) ⟨rfl, rfl⟩ ?_ | fail)); done) | fail)) (hi : s9 heap ρ hin := by (first | exact trivial | exact ⟨⟨rfl, rfl⟩, trivial⟩ | (simp only [s9, ae1]; (repeat' (first | exact trivial | exact rfl | refine And.intro ?_ ?_)); done) | (simp only [s9, ae0]; repeat' (first | exact trivial | exact rfl | refine And.intro ?_ ?_)))) (hc : wh ρ ν heap (hin.map (·.1)) (hout.map (·.1)) = true := by rfl)
  (hw : ((((ρ ++ ν).map (·.2)).all fun b => C.W.contains b) && (C.W.all fun b => ((ρ ++ ν).map (·.2)).contains b || (lk heap b).isNone) && ((ja ρ).all fun b => C.V.contains b) && (hout.all fun x => !x.2.1)) = true := by rfl) (hr : r.ren (ρ ++ ν) = rR := by rfl) (ho : aaj (ρ ++ ν) hout = houtR := by (first | rfl | (simp only [aaj, List.map_cons, List.map_nil, ae1]; rfl) | (simp only [aaj, List.map_cons, List.map_nil, ae0]; rfl))) : eg P G C n env heap f xs K := .mk hs ρ ν rR houtR ha hi hc hw hr ho k
end Go.Ev

namespace Go.Ev.Ar
open Go Go.Ev
def a5h : List (Nat × Ty) := [
 (2, ⟨1, 8, false, .int .i64, [.int .i64]⟩),
 (3, ⟨1, 8, false, .int .i64, [.int .i64]⟩),
 (4, ⟨1, 1, false, .bool, [.bool]⟩),
 (5, ⟨1, 1, false, .int .u8, [.int .u8]⟩),
 (6, ⟨1, 1, false, .int .u8, [.int .u8]⟩),
 (7, ⟨4, 24, true, .struct [(0, 1, false), (1, 1, false), (2, 1, false), (3, 1, false)], [.int .i64, .int .i64, .bool, .int .u8]⟩),
 (8, ⟨4, 24, true, .struct [(0, 1, false), (1, 1, false), (2, 1, false), (3, 1, false)], [.int .i64, .int .i64, .bool, .int .u8]⟩),
 (9, ⟨1, 16, false, .str, [.str]⟩),
 (10, ⟨1, 16, false, .str, [.str]⟩),
 (11, ⟨1, 16, false, .str, [.str]⟩),
 (12, ⟨1, 8, false, .int .u64, [.int .u64]⟩),
 (13, ⟨2, 24, true, .struct [(0, 1, false), (1, 1, false)], [.str, .int .u64]⟩),
 (14, ⟨2, 24, true, .struct [(0, 1, false), (1, 1, false)], [.str, .int .u64]⟩),
 (18, ⟨1, 8, true, .struct [(0, 1, false)], [.ptr]⟩),
 (19, ⟨1, 8, true, .struct [(0, 1, false)], [.ptr]⟩),
 (21, ⟨1, 4, false, .int .i32, [.int .i32]⟩),
 (22, ⟨1, 2, false, .int .i16, [.int .i16]⟩),
 (24, ⟨1, 24, false, .slice 138, [.nil]⟩),
 (25, ⟨2, 32, true, .struct [(0, 1, false), (1, 1, false)], [.bool, .nil]⟩),
 (26, ⟨2, 32, true, .struct [(0, 1, false), (1, 1, false)], [.bool, .nil]⟩),
 (27, ⟨3, 40, true, .struct [(0, 2, true), (2, 1, false)], [.bool, .nil, .int .i64]⟩),
 (28, ⟨3, 40, true, .struct [(0, 2, true), (2, 1, false)], [.bool, .nil, .int .i64]⟩),
 (30, ⟨6, 80, true, .struct [(0, 3, true), (3, 3, true)], [.bool, .nil, .int .i64, .bool, .nil, .int .i64]⟩),
 (31, ⟨6, 80, true, .struct [(0, 3, true), (3, 3, true)], [.bool, .nil, .int .i64, .bool, .nil, .int .i64]⟩),
 (32, ⟨9, 120, true, .array 3 28, [.bool, .nil, .int .i64, .bool, .nil, .int .i64, .bool, .nil, .int .i64]⟩),
 (34, ⟨1, 8, false, .int .i64, [.int .i64]⟩),
 (54, ⟨6, 80, true, .struct [(0, 3, true), (3, 3, true)], [.bool, .nil, .int .i64, .bool, .nil, .int .i64]⟩),
 (55, ⟨6, 80, true, .struct [(0, 3, true), (3, 3, true)], [.bool, .nil, .int .i64, .bool, .nil, .int .i64]⟩),
 (56, ⟨12, 160, true, .struct [(0, 6, true), (6, 6, true)], [.bool, .nil, .int .i64, .bool, .nil, .int .i64, .bool, .nil, .int .i64, .bool, .nil, .int .i64]⟩),
 (57, ⟨12, 160, true, .struct [(0, 6, true), (6, 6, true)], [.bool, .nil, .int .i64, .bool, .nil, .int .i64, .bool, .nil, .int .i64, .bool, .nil, .int .i64]⟩),
 (67, ⟨1, 24, false, .slice 92, [.nil]⟩),
 (68, ⟨1, 24, false, .slice 92, [.nil]⟩),
 (73, ⟨12, 160, true, .struct [(0, 6, true), (6, 6, true)], [.bool, .nil, .int .i64, .bool, .nil, .int .i64, .bool, .nil, .int .i64, .bool, .nil, .int .i64]⟩),
 (74, ⟨12, 160, true, .struct [(0, 6, true), (6, 6, true)], [.bool, .nil, .int .i64, .bool, .nil, .int .i64, .bool, .nil, .int .i64, .bool, .nil, .int .i64]⟩),
 (86, ⟨1, 24, false, .slice 55, [.nil]⟩),
 (91, ⟨10, 112, true, .struct [(0, 1, false), (1, 1, false), (2, 1, false), (3, 1, false), (4, 6, true)], [.int .i64, .int .i64, .int .i64, .int .i64, .bool, .nil, .int .i64, .bool, .nil, .int .i64]⟩),
 (92, ⟨10, 112, true, .struct [(0, 1, false), (1, 1, false), (2, 1, false), (3, 1, false), (4, 6, true)], [.int .i64, .int .i64, .int .i64, .int .i64, .bool, .nil, .int .i64, .bool, .nil, .int .i64]⟩),
 (108, ⟨1, 24, false, .slice 3, [.nil]⟩),
 (109, ⟨1, 24, false, .slice 111, [.nil]⟩),
 (110, ⟨12, 160, true, .struct [(0, 6, true), (6, 6, true)], [.bool, .nil, .int .i64, .bool, .nil, .int .i64, .bool, .nil, .int .i64, .bool, .nil, .int .i64]⟩),
 (111, ⟨12, 160, true, .struct [(0, 6, true), (6, 6, true)], [.bool, .nil, .int .i64, .bool, .nil, .int .i64, .bool, .nil, .int .i64, .bool, .nil, .int .i64]⟩),
 (114, ⟨1, 24, false, .slice 74, [.nil]⟩),
 (117, ⟨1, 24, false, .slice 57, [.nil]⟩),
 (120, ⟨1, 24, true, .struct [(0, 1, false)], [.nil]⟩),
 (121, ⟨1, 24, true, .struct [(0, 1, false)], [.nil]⟩),
 (122, ⟨1, 24, false, .slice 4, [.nil]⟩),
 (125, ⟨1, 24, false, .slice 86, [.nil]⟩),
 (138, ⟨1, 4, false, .int .u32, [.int .u32]⟩),
 (139, ⟨1, 8, false, .int .u64, [.int .u64]⟩),
 (141, ⟨1, 8, false, .int .u64, [.int .u64]⟩),
 (142, ⟨12, 160, true, .array 4 28, [.bool, .nil, .int .i64, .bool, .nil, .int .i64, .bool, .nil, .int .i64, .bool, .nil, .int .i64]⟩),
 (143, ⟨1, 24, false, .slice 28, [.nil]⟩),
 (173, ⟨4, 32, true, .array 4 3, [.int .i64, .int .i64, .int .i64, .int .i64]⟩),
 (175, ⟨32, 32, true, .array 32 5, [.int .u8, .int .u8, .int .u8, .int .u8, .int .u8, .int .u8, .int .u8, .int .u8, .int .u8, .int .u8, .int .u8, .int .u8, .int .u8, .int .u8, .int .u8, .int .u8, .int .u8, .int .u8, .int .u8, .int .u8, .int .u8, .int .u8, .int .u8, .int .u8, .int .u8, .int .u8, .int .u8, .int .u8, .int .u8, .int .u8, .int .u8, .int .u8]⟩),
 (182, ⟨4, 40, true, .struct [(0, 1, false), (1, 1, false), (2, 1, false), (3, 1, false)], [.ptr, .ptr, .ptr, .str]⟩),
 (183, ⟨4, 40, true, .struct [(0, 1, false), (1, 1, false), (2, 1, false), (3, 1, false)], [.ptr, .ptr, .ptr, .str]⟩),
 (184, ⟨0, 0, true, .array 0 16, []⟩),
 (188, ⟨1, 1, false, .int .u8, [.int .u8]⟩),
 (189, ⟨1, 1, false, .int .u8, [.int .u8]⟩),
 (192, ⟨1, 4, false, .int .i32, [.int .i32]⟩),
 (193, ⟨1, 4, false, .int .i32, [.int .i32]⟩),
 (194, ⟨11, 48, true, .struct [(0, 1, false), (1, 1, false), (2, 1, false), (3, 1, false), (4, 1, false), (5, 1, false), (6, 1, false), (7, 1, false), (8, 1, false), (9, 1, false), (10, 1, false)], [.int .u64, .int .u64, .int .u32, .int .u8, .int .u8, .int .u8, .int .u8, .func, .ptr, .int .i32, .int .i32]⟩),
 (195, ⟨11, 48, true, .struct [(0, 1, false), (1, 1, false), (2, 1, false), (3, 1, false), (4, 1, false), (5, 1, false), (6, 1, false), (7, 1, false), (8, 1, false), (9, 1, false), (10, 1, false)], [.int .u64, .int .u64, .int .u32, .int .u8, .int .u8, .int .u8, .int .u8, .func, .ptr, .int .i32, .int .i32]⟩)]
def tab : Tab := lk a5h
theorem a1v : (a5h.all fun x => x.2.chk Go.Proofs.Tryz.prog x.1) = true := by kernel_rfl
theorem lh {α : Type} : ∀ {l : List (Nat × α)} {t : Nat} {y : α}, lk l t = some y → (t, y) ∈ l
 | [], _, _, h => by simp [lk] at h
 | (k, x) :: l, t, y, h => by
  simp only [lk] at h
  split at h
  ·rename_i e; subst e; cases h; simp
  ·exact List.mem_cons_of_mem _ (lh h)
theorem af : b6 Go.Proofs.Tryz.prog tab := ⟨fun t y h => List.all_eq_true.1 a1v (t, y) (lh h), by kernel_rfl⟩
end Go.Ev.Ar

namespace Go.Ev.Ar
open Go Go.Ev Go.Proofs
abbrev G0 : bb := fun | 0 => a2y | _ => []
def at_ (l : List UInt32) (i : Int) : Nat := if 0 ≤ i then (l.getD i.toNat 0).toNat else 0
theorem oz (l : List UInt32) (i : Int) : at_ l i < 4294967296 := by unfold at_; split <;> first | exact bd _ | decide
theorem gg (l : List UInt32) (i : Nat) : at_ l i = (l.getD i 0).toNat := by unfold at_; simp
theorem afj (l : List UInt32) (i : Int) : Sim Tryz.prog G0 true 223 [sl l, .int .i64 i] (.int .u64 (at_ l i)) := by
 refine ao af Tryz.func223 ?_
 repeat' ((conv => whnf); first | refine rgE ?_ | refine Cd.mk rfl ?_ | refine Br.t ?_ | refine Br.f ?_ | with_reducible refine Br.dec (fun _ => ?_) (fun _ => ?_) | refine ah.mk _ (dw _ _ (by omega)) ?_ | refine Res.mk ?_ | ((with_reducible refine EqE.idW ?_); with_reducible refine EqE.mk _ (cj _) ?_) | refine Cd.om ?_)
 ·show _ = D.int _ _; unfold at_; rw [if_neg (by omega)]; rfl
 ·show _ = D.int _ _; unfold at_; rw [if_pos (by omega), oh (by omega)]; rfl
 ·show _ = D.int _ _; unfold at_; rw [if_pos (by omega)]
theorem fg (l : List UInt32) (hl : l.length < 2^40) : Sim Tryz.prog G0 false 218 [sl l] (sl (ofN (nv l))) := by
 refine ao af Tryz.func218 ?_
 repeat' ((conv => whnf); first | refine rgE ?_)
 refine ⟨[], [0], [], fun m xs h => ∃ l' : List UInt32, m = l'.length ∧ m ≤ l.length ∧ nv l' = nv l ∧ xs = [.d (sl l')] ∧ h = [], ⟨_, _, _, ⟨.inl rfl, rfl, rfl, rfl⟩, l, rfl, Nat.le_refl _, rfl, rfl, rfl⟩, ?_⟩
 rintro m xs h ⟨l', rfl, hle, hcut, rfl, rfl⟩
 repeat' ((conv => whnf); first | refine rgE ?_ | refine Cd.mk rfl ?_ | refine Br.t ?_ | refine Br.f ?_ | with_reducible refine Br.dec (fun _ => ?_) (fun _ => ?_) | refine ah.mk _ (dw _ _ (by omega)) ?_ | refine Res.mk ?_ | refine an.cu _ _ ?_ | ((with_reducible refine EqE.idW ?_); with_reducible refine EqE.mk _ (aj (by omega) (by omega)) ?_) | ((with_reducible refine EqE.idL ?_); refine EqE.mk _ (ahf _ _ _ (by omega) (by omega) (by omega)) ?_) | refine Cd.om ?_)
 ·rename_i h0 h1
  refine ⟨_, ⟨_, rfl, by simp; omega, ?_, rfl, rfl⟩, by simp; omega⟩
  have e : ((l'.length : Int) - 1).toNat = l'.length - 1 := by omega
  rw [e] at h1
  simp only [Int.sub_zero, e, Int.toNat_zero, List.drop_zero]
  rw [ago (by intro e; simp [e] at h0) (by omega), hcut]
 ·rename_i h0 h1
  have e : ((l'.length : Int) - 1).toNat = l'.length - 1 := by omega
  show _ = sl l'
  rw [← hcut, aku (.inr (by rw [← e]; omega))]
 ·rename_i h0
  show _ = sl l'
  rw [← hcut, aku (.inl (List.eq_nil_of_length_eq_zero (by omega)))]
theorem azs (a b : List UInt32) (ha : a.length < 2^30) (hb : b.length < 2^30) : Sim Tryz.prog G0 false 214 [sl a, sl b] (sl (ofN (nv a + nv b))) := by
 refine ao af Tryz.func214 ?_
 repeat' ((conv => whnf); first | refine rgE ?_ | refine Cd.mk rfl ?_ | ((with_reducible refine EqE.idW ?_); with_reducible refine EqE.mk _ (ax _ (by omega)) ?_) | ((with_reducible refine EqE.idI ?_); with_reducible refine EqE.mk _ (ako _ _) ?_) | ((with_reducible refine EqE.idR ?_); refine EqE.mk _ (ns _) ?_) | refine Cd.om ?_)
 refine ⟨[], [0,1,5,6,16,17], [14], fun m xs h => ∃ (n i c : Nat) (l : List UInt32), m = n - i ∧ n = max a.length b.length + 1 ∧ i ≤ n ∧ c ≤ 1 ∧ l.length = n ∧ nv l + Pw i * c = nv (a.take i) + nv (b.take i) ∧ (∀ j, i ≤ j → (l.getD j 0).toNat = 0) ∧
  xs = [.d (sl a), .d (sl b), .own 14 0 n 1, .d (.int .u64 c), .d (.int .i64 n), .d (.int .i64 i)] ∧ h = [(14, false, la l)],
  ⟨_, _, _, ⟨.inl rfl, rfl, rfl, by first | rfl | (repeat first | exact all_nil _ | refine bm _ _ _ _ _ ?_)⟩, _, 0, 0, _, rfl, by omega, by omega, by omega, by simp, by simp [bo], fun j _ => iy _ _, rfl, rfl⟩, ?_⟩
 rintro m xs h ⟨n, i, c, l, rfl, hn, hi, hc, hl, hv, hz, rfl, rfl⟩
 have hxa := oz a i
 have hxb := oz b i
 repeat' ((conv => whnf); first | with_reducible refine ag.data ?_ | refine aa.mk _ _ (afj _ _) ?_ | refine aa.mk _ _ (fg _ (by omega)) ?_ | refine rgE ?_ | refine Cd.mk rfl ?_ | with_reducible refine Br.dec (fun _ => ?_) (fun _ => ?_) | refine Res.mk ?_ | refine DsE.mk (bj _) rfl ?_ | refine an.cu _ _ ?_ | ((with_reducible refine EqE.idW ?_); first | with_reducible refine EqE.mk _ (agj _ _ (by omega)) ?_ | with_reducible refine EqE.mk _ (j8 _) ?_ | with_reducible refine EqE.mk _ (ax _ (by omega)) ?_) | ((with_reducible refine EqE.idF ?_); refine EqE.mk _ (l4 _ 4294967296 _ _ rfl) ?_) | ((with_reducible refine EqE.idS ?_); refine EqE.mk _ (ld _ _ _ _ (by first | with_reducible exact cp _ | with_reducible exact bw _ | exact cp _ | exact bw _ | rfl) (by first | omega | (simp only [List.length_set]; omega)) (by omega)) ?_) | ((with_reducible refine EqE.idL ?_); refine EqE.mk _ (ox _ _ _ _ (by omega) (by omega) rfl) ?_) | refine Cd.om ?_)
 ·rename_i h0
  refine ⟨_, ⟨n, i + 1, (c + (at_ a i + at_ b i)) / 4294967296, _, rfl, hn, by omega, by omega, ?_, ?_, ?_, rfl, rfl⟩, by omega⟩
  ·simp [hl]
  ·have hz := hz i (Nat.le_refl _)
   rw [mo (by omega) hz (by omega), ay, ay, c5, Nat.add_assoc, lu, gg, gg, Nat.mul_add, Nat.mul_add]
   omega
  ·intro j hj
   rw [getD_set_ne (by omega)]; exact hz j (by omega)
 ·rename_i h0
  show _ = sl _
  have e : i = n := by omega
  have h1 := dc a
  have h2 := dc b
  have h3 := e8 (show a.length ≤ n - 1 by omega)
  have h4 := e8 (show b.length ≤ n - 1 by omega)
  have h5 := c5 (n - 1)
  rw [show n - 1 + 1 = n by omega] at h5
  rw [List.take_of_length_le (by omega), List.take_of_length_le (by omega), e] at hv
  have : c = 0 := by
   rcases (show c = 0 ∨ c = 1 by omega) with h | h
   ·exact h
   ·subst h; omega
  subst this
  rw [← hv]; rfl
end Go.Ev.Ar

namespace Go.Ev.Ar
open Go Go.Ev Go.Proofs
theorem ah6 (l : List UInt32) (hl : l.length < 2^32) : Sim Tryz.prog G0 false 231 [sl l] (sl l) := by
 refine ao af Tryz.func231 ?_
 repeat' ((conv => whnf); first | refine rgE ?_ | refine Cd.mk rfl ?_ | refine Br.t ?_ | refine Br.f ?_ | refine And.intro (fun _ => ?_) ?_ | refine Res.mk ?_ | refine DsE.mk (bj _) rfl ?_ | refine DsE.mk [] rfl ?_ | ((with_reducible refine EqE.idA ?_); refine EqE.mk _ (a0l _) ?_) | ((with_reducible refine EqE.idL ?_); refine EqE.mk _ (ox _ _ _ _ (by omega) (by omega) rfl) ?_) | refine Cd.mk ⟨rfl, rfl⟩ ?_ | refine Cd.mk (aip _) ?_ | refine Cd.om ?_)
 ·rename_i h
  have h : l = [] := by simpa [bj] using h
  subst h; rfl
 ·rfl
theorem azd (l : List UInt32) (hl : l.length < 2^32) : Sim Tryz.prog G0 false 224 [sl l] (sl (ofN (nv l))) := by
 refine ao af Tryz.func224 ?_
 have h := cb l
 repeat' ((conv => whnf); first | with_reducible refine ag.data ?_ | refine aa.mk _ _ (fg _ (by omega)) ?_ | refine aa.mk _ _ (ah6 _ (by omega)) ?_ | refine rgE ?_ | refine Res.mk ?_)
 rfl
theorem a3c (l : List UInt32) (hl : l.length < 2^32) : Sim Tryz.prog G0 true 220 [sl l] (.bool (kj l)) := by
 refine ao af Tryz.func220 ?_
 repeat' ((conv => whnf); first | refine rgE ?_ | refine Cd.mk rfl ?_ | refine Br.t ?_ | refine Br.f ?_ | with_reducible refine Br.dec (fun _ => ?_) (fun _ => ?_) | refine ah.mk _ (dw _ _ (by omega)) ?_ | refine Res.mk ?_ | ((with_reducible refine EqE.idW ?_); with_reducible refine EqE.mk _ (aj (by omega) (by omega)) ?_) | refine Cd.om ?_)
 ·rename_i h
  show D.bool _ = D.bool _
  rw [(p8 l).2 (.inl (List.eq_nil_of_length_eq_zero (by omega)))]
 ·rename_i h
  show D.bool _ = D.bool _
  congr 1
  have e : ((l.length : Int) - 1).toNat = l.length - 1 := by omega
  rw [e, Bool.eq_iff_iff, p8]
  have : l ≠ [] := by intro e; simp [e] at h
  simp only [this, false_or, Bool.not_eq_true', decide_eq_false_iff_not]
  omega
end Go.Ev.Ar

namespace Go.Ev.Ar
open Go Go.Ev Go.Proofs
theorem akp (n : Nat) : nb (n % 256) ≤ 8 := uf.2 (by omega)
set_option maxHeartbeats 1000000 in
theorem aio (x : UInt32) : Sim Tryz.prog G0 true 219 [.int .u32 x.toNat] (.int .i64 (nb x.toNat)) := by
 refine ao af Tryz.func219 ?_
 have hx := bd x
 repeat' ((conv => whnf); first | refine Cd.mk (a4b 256 (by kernel_rfl) (by omega)) ?_ | refine EqE.mk _ (a1w nb 256 _ (by kernel_rfl) rfl (by omega)) ?_ | refine rgE ?_ | refine Cd.mk rfl ?_ | with_reducible refine Br.dec (fun _ => ?_) (fun _ => ?_) | refine Res.mk ?_ | ((with_reducible refine EqE.idW ?_); first | with_reducible refine EqE.mk _ (qx _ (Nat.lt_of_le_of_lt (uf.2 (show _ < 2 ^ 8 by omega)) (by decide))) ?_ | with_reducible refine EqE.mk _ (a5u _) ?_ | with_reducible refine EqE.mk _ (ax _ (by omega)) ?_ | with_reducible refine EqE.mk _ (aj (by omega) (by omega)) ?_ | refine EqE.mk _ rfl ?_) | ((with_reducible refine EqE.idF ?_); first | refine EqE.mk _ (l4 _ 65536 _ _ rfl) ?_ | refine EqE.mk _ (l4 _ 256 _ _ rfl) ?_) | refine Cd.om ?_)
 all_goals show D.int _ _ = D.int _ _
 ·have h1 := akp (x.toNat / 65536 / 256)
  have h2 : nb x.toNat = 16 + nb (x.toNat / 65536) := ac0 (k := 16) (by omega)
  have h3 : nb (x.toNat / 65536) = 8 + nb (x.toNat / 65536 / 256) := ac0 (k := 8) (by omega)
  rw [Nat.mod_eq_of_lt (show x.toNat / 65536 / 256 < 256 by omega)] at h1 ⊢
  rw [aj (by omega) (by omega), h2, h3]; congr 1; omega
 ·have h1 := akp (x.toNat / 65536)
  have h2 : nb x.toNat = 16 + nb (x.toNat / 65536) := ac0 (k := 16) (by omega)
  rw [Nat.mod_eq_of_lt (show x.toNat / 65536 < 256 by omega)] at h1 ⊢
  rw [aj (by omega) (by omega), h2]; congr 1
 ·have h1 := akp (x.toNat / 256)
  have h2 : nb x.toNat = 8 + nb (x.toNat / 256) := ac0 (k := 8) (by omega)
  rw [Nat.mod_eq_of_lt (show x.toNat / 256 < 256 by omega)] at h1 ⊢
  rw [aj (by omega) (by omega), h2]; congr 1
 ·have h1 := akp x.toNat
  rw [Nat.mod_eq_of_lt (show x.toNat < 256 by omega)] at h1 ⊢
  rw [aj (by omega) (by omega)]; congr 1; omega
end Go.Ev.Ar

namespace Go.Ev.Ar
open Go Go.Ev Go.Proofs
theorem afm (l : List UInt32) (hl : l.length < 2^32) : Sim Tryz.prog G0 true 195 [sl l] (.int .i64 (nb (nv l))) := by
 refine ao af Tryz.func195 ?_
 have h := cb l
 repeat' ((conv => whnf); first | with_reducible refine ag.data ?_ | refine aa.mk _ _ (fg _ (by omega)) ?_ | refine aa.mk _ _ (aio _) ?_ | refine rgE ?_ | refine Cd.mk rfl ?_ | with_reducible refine Br.dec (fun _ => ?_) (fun _ => ?_) | refine ah.mk _ (dw _ _ (by omega)) ?_ | refine Res.mk ?_ | ((with_reducible refine EqE.idW ?_); first | with_reducible refine EqE.mk _ (aj (by omega) (by omega)) ?_ | refine EqE.mk _ rfl ?_) | refine Cd.om ?_)
 ·rename_i h0
  show D.int _ _ = D.int _ _
  rw [bp.1 (show (ofN (nv l)).length = 0 by omega)]; rfl
 ·rename_i h0
  have hn : nv l ≠ 0 := fun e => h0 (by rw [e, bh]; rfl)
  have h4 : nb ((ofN (nv l)).getD ((ofN (nv l)).length - 1) 0).toNat ≤ 32 := uf.2 (bd _)
  have e : (((ofN (nv l)).length : Int) - 1).toNat = (ofN (nv l)).length - 1 := by omega
  show D.int _ _ = D.int _ _
  rw [aps hn, e]
  congr 1
  first | omega | (rw [aj (by omega) (by omega)]; omega)
theorem ael (a b : List UInt32) (ha : a.length < 2^32) (hb : b.length < 2^32) : Sim Tryz.prog G0 true 225 [sl a, sl b] (.int .i64 (u5 (nv a) (nv b))) := by
 refine ao af Tryz.func225 ?_
 have h1 := cb a
 have h2 := cb b
 repeat' ((conv => whnf); first | with_reducible refine ag.data ?_ | refine aa.mk _ _ (fg _ (by omega)) ?_ | refine rgE ?_ | refine Cd.mk rfl ?_ | with_reducible refine Br.dec (fun _ => ?_) (fun _ => ?_) | with_reducible refine Br.ac1 (fun _ => ?_) (fun _ => ?_) | refine Res.mk ?_ | ((with_reducible refine EqE.idW ?_); with_reducible refine EqE.mk _ (aj (by omega) (by omega)) ?_))
 ·rename_i h3 h4
  show D.int _ _ = D.int _ _
  rw [mc (q7 (by omega))]
 ·rename_i h3 h4
  show D.int _ _ = D.int _ _
  rw [aa2 (q7 (by omega))]
 rename_i h3
 skip
 refine ⟨[], [0, 1, 5], [], fun m xs h => m ≤ (ofN (nv a)).length ∧ nv ((ofN (nv a)).drop m) = nv ((ofN (nv b)).drop m) ∧ ∃ i : Int, i = m - 1 ∧ xs = [.d (sl (ofN (nv a))), .d (sl (ofN (nv b))), .d (.int .i64 i)] ∧ h = [],
  ⟨_, _, _, ⟨.inl rfl, rfl, rfl, by first | rfl | (repeat first | exact all_nil _ | refine bm _ _ _ _ _ ?_)⟩, Nat.le_refl _, ?_, _, rfl, rfl, rfl⟩, ?_⟩
 ·rw [List.drop_eq_nil_of_le (Nat.le_refl _), List.drop_eq_nil_of_le (by omega)]
 rintro m xs h ⟨hm, hv, i, hi, rfl, rfl⟩
 repeat' ((conv => whnf); first | refine rgE ?_ | refine Cd.mk rfl ?_ | with_reducible refine Br.dec (fun _ => ?_) (fun _ => ?_) | refine ah.mk _ (dw _ _ (by omega)) ?_ | refine Res.mk ?_ | refine an.cu _ _ ?_ | ((with_reducible refine EqE.idW ?_); with_reducible refine EqE.mk _ (aj (by omega) (by omega)) ?_) | refine Cd.om ?_)
 ·rename_i h4 h5
  have e : i.toNat = m - 1 := by omega
  rw [e] at h5
  show D.int _ _ = D.int _ _
  rw [mc]
  have h6 : nv ((ofN (nv a)).drop (m - 1)) < nv ((ofN (nv b)).drop (m - 1)) := by
   rw [jo (ofN (nv a)) (m - 1) (by omega), jo (ofN (nv b)) (m - 1) (by omega), show m - 1 + 1 = m by omega, hv]; omega
  simpa using vo _ h6
 ·rename_i h4 h6 h5
  have e : i.toNat = m - 1 := by omega
  rw [e] at h5
  show D.int _ _ = D.int _ _
  rw [aa2]
  have h6 : nv ((ofN (nv b)).drop (m - 1)) < nv ((ofN (nv a)).drop (m - 1)) := by
   rw [jo (ofN (nv a)) (m - 1) (by omega), jo (ofN (nv b)) (m - 1) (by omega), show m - 1 + 1 = m by omega, hv]; omega
  simpa using vo _ h6
 ·rename_i h4 h6 h5
  have e : i.toNat = m - 1 := by omega
  rw [e] at h5 h6
  refine ⟨m - 1, ⟨by omega, ?_, _, ?_, rfl, rfl⟩, by omega⟩
  ·rw [jo (ofN (nv a)) (m - 1) (by omega), jo (ofN (nv b)) (m - 1) (by omega), show m - 1 + 1 = m by omega, hv]; omega
  ·omega
 ·rename_i h4
  have e : m = 0 := by omega
  subst e
  show D.int _ _ = D.int _ _
  rw [ajy]
  simpa using hv
end Go.Ev.Ar
