/-
  One's own library, part 1: abstract values, the abstract heap, and how they stand to the model's values and worlds.
  No program is named here.
-/
import Derived.WalkKit
import Derived.Maps.AppendAt
import Derived.Deep.Draws
namespace Go.Proofs.Ytalhmnijkkihgaa
set_option linter.unusedVariables false
set_option linter.unusedSimpArgs false
set_option linter.unusedSectionVars false
open Go.RowKit

/-- Memory that never changes any more: at an address a value, or nothing. -/
abbrev Mem := Addr → Option Value

def plainV : Value → Bool
  | .bool _ | .int _ _ | .float _ _ | .complex _ _ _ | .string _ | .nilFunc | .nilIface => true
  | _ => false

/-- Data of one cell: a plain value, or a slice with its elements, each a list of cells. -/
inductive Dat where
  | v (x : Value)
  | sl (es : List (List Dat))
  deriving Inhabited

inductive VD (M : Mem) : Dat → Value → Prop
  | v {x : Value} : plainV x = true → VD M (.v x) x
  | nil {a : Option Addr} {cap : Nat} : VD M (.sl []) (.slice a 0 cap)
  | sl {es : List (List Dat)} {a : Addr} {cap sz : Nat} (u : Nat → Nat → Value) : es ≠ [] → es.length ≤ cap → cap ≤ maxLen → (∀ e ∈ es, e.length = sz) →
      (∀ (i : Nat) (e : List Dat) (j : Nat) (d : Dat), es[i]? = some e → e[j]? = some d → M (a.add (i * sz + j)) = some (u i j)) →
      (∀ (i : Nat) (e : List Dat) (j : Nat) (d : Dat), es[i]? = some e → e[j]? = some d → VD M d (u i j)) → VD M (.sl es) (.slice (some a) es.length cap)

inductive AV where
  | any
  | ub
  | d (x : Dat)
  | agg (cs : List AV)
  | tup (cs : List AV)
  | nilp
  | mnil
  | ptr (b off : Nat)
  | ip (cs : List Dat)
  | esl
  | gsl (b sz : Nat) (es : List (List Dat))
  | hsl (b off n cap sz : Nat)
  | mp (b : Nat)
  | fn (f : FuncId) (caps : List AV)
  deriving Inhabited

structure Sg where
  M : Mem
  φ : Nat → Nat → Option Value

structure Sg.le (σ σ' : Sg) : Prop where
  M : ∀ a v, σ.M a = some v → σ'.M a = some v
  φ : ∀ b n v, σ.φ b n = some v → σ'.φ b n = some v

theorem Sg.le.refl (σ : Sg) : σ.le σ := ⟨fun _ _ h => h, fun _ _ _ h => h⟩
theorem Sg.le.trans {a b c : Sg} (h : a.le b) (k : b.le c) : a.le c := ⟨fun _ _ x => k.M _ _ (h.M _ _ x), fun _ _ _ x => k.φ _ _ _ (h.φ _ _ _ x)⟩

inductive VR (σ : Sg) : AV → Value → Prop
  | any {u : Value} : VR σ .any u
  | ub {t : Bool} : VR σ .ub (.bool t)
  | d {x : Dat} {u : Value} : VD σ.M x u → VR σ (.d x) u
  | nilp : VR σ .nilp (.pointer none)
  | mnil : VR σ .mnil (.map none)
  | ptr {b g off : Nat} : σ.φ b 0 = some (.pointer (some ⟨g, 0, none⟩)) → VR σ (.ptr b off) (.pointer (some ⟨g, off, none⟩))
  | ip {cs : List Dat} {a : Addr} (u : Nat → Value) : (∀ (j : Nat) (d : Dat), cs[j]? = some d → σ.M (a.add j) = some (u j)) → (∀ (j : Nat) (d : Dat), cs[j]? = some d → VD σ.M d (u j)) → VR σ (.ip cs) (.pointer (some a))
  | esl {a : Option Addr} : VR σ .esl (.slice a 0 0)
  | gsl {b sz : Nat} {es : List (List Dat)} {u : Value} : σ.φ b es.length = some u → (∀ e ∈ es, e.length = sz) → VD σ.M (.sl es) u → VR σ (.gsl b sz es) u
  | hsl {b g off n cap cap' sz N : Nat} : σ.φ b 0 = some (.pointer (some ⟨g, 0, none⟩)) → σ.φ b 1 = some (.int .i64 N) → off + cap' * sz ≤ N → n ≤ cap → cap ≤ cap' → cap' ≤ maxLen → VR σ (.hsl b off n cap sz) (.slice (some ⟨g, off, none⟩) n cap')
  | hsl0 {b off sz : Nat} {a : Option Addr} {v : Value} : σ.φ b 0 = some v → VR σ (.hsl b off 0 0 sz) (.slice a 0 0)
  | mp {b g : Nat} : σ.φ b 0 = some (.map (some g)) → VR σ (.mp b) (.map (some g))
  | fn {f : FuncId} {caps : List AV} {us : List Value} : caps.length = us.length → (∀ (i : Nat) (c : AV) (u : Value), caps[i]? = some c → us[i]? = some u → VR σ c u) → VR σ (.fn f caps) (.func (.func f) #[] us.toArray)
  | agg {cs : List AV} {us : List Value} : cs.length = us.length → (∀ (i : Nat) (c : AV) (u : Value), cs[i]? = some c → us[i]? = some u → VR σ c u) → VR σ (.agg cs) (.agg us.toArray)
  | tup {cs : List AV} {us : List Value} : cs.length = us.length → (∀ (i : Nat) (c : AV) (u : Value), cs[i]? = some c → us[i]? = some u → VR σ c u) → VR σ (.tup cs) (.tuple us.toArray)

theorem VD.mono {M M' : Mem} (h : ∀ a v, M a = some v → M' a = some v) {x : Dat} {u : Value} (hv : VD M x u) : VD M' x u := by
  induction hv with
  | v hp => exact .v hp
  | nil => exact .nil
  | sl u h1 h2 hm h3 h4 _ ih => exact .sl u h1 h2 hm h3 (fun i e j d he hd => h _ _ (h4 i e j d he hd)) ih

theorem VR.mono {σ σ' : Sg} (h : σ.le σ') {x : AV} {u : Value} (hv : VR σ x u) : VR σ' x u := by
  induction hv with
  | any => exact .any
  | ub => exact .ub
  | d hd => exact .d (hd.mono h.M)
  | nilp => exact .nilp
  | mnil => exact .mnil
  | ptr hφ => exact .ptr (h.φ _ _ _ hφ)
  | ip u h1 h2 => exact .ip u (fun j d hj => h.M _ _ (h1 j d hj)) (fun j d hj => (h2 j d hj).mono h.M)
  | esl => exact .esl
  | gsl hφ hz hd => exact .gsl (h.φ _ _ _ hφ) hz (hd.mono h.M)
  | hsl hφ hN ho hn hc hm => exact .hsl (h.φ _ _ _ hφ) (h.φ _ _ _ hN) ho hn hc hm
  | hsl0 hφ => exact .hsl0 (h.φ _ _ _ hφ)
  | mp hφ => exact .mp (h.φ _ _ _ hφ)
  | fn hl _ ih => exact .fn hl ih
  | agg hl _ ih => exact .agg hl ih
  | tup hl _ ih => exact .tup hl ih

/-- Lists, cell by cell. -/
def VRs (σ : Sg) (cs : List AV) (us : List Value) : Prop := cs.length = us.length ∧ ∀ (i : Nat) (c : AV) (u : Value), cs[i]? = some c → us[i]? = some u → VR σ c u
theorem VRs.mono {σ σ' : Sg} (h : σ.le σ') {cs : List AV} {us : List Value} (hv : VRs σ cs us) : VRs σ' cs us :=
  ⟨hv.1, fun i c u h1 h2 => (hv.2 i c u h1 h2).mono h⟩
theorem VRs.nil {σ : Sg} : VRs σ [] [] := ⟨rfl, fun i c u h => by simp at h⟩
theorem VRs.cons {σ : Sg} {c : AV} {u : Value} {cs : List AV} {us : List Value} (h : VR σ c u) (hs : VRs σ cs us) : VRs σ (c :: cs) (u :: us) := by
  refine ⟨by simp [hs.1], fun i c' u' h1 h2 => ?_⟩
  cases i with
  | zero => simp at h1 h2; subst h1; subst h2; exact h
  | succ i => simp at h1 h2; exact hs.2 i c' u' h1 h2
theorem VRs.cons_inv {σ : Sg} {c : AV} {cs : List AV} {us : List Value} (h : VRs σ (c :: cs) us) : ∃ u us', us = u :: us' ∧ VR σ c u ∧ VRs σ cs us' := by
  match us, h with
  | [], h => exact absurd h.1 (by simp)
  | u :: us', h =>
    exact ⟨u, us', rfl, h.2 0 c u rfl rfl, by simpa using h.1, fun i c' u' h1 h2 => h.2 (i + 1) c' u' (by simpa using h1) (by simpa using h2)⟩
theorem VRs.append {σ : Sg} {cs ds : List AV} {us vs : List Value} (h : VRs σ cs us) (k : VRs σ ds vs) : VRs σ (cs ++ ds) (us ++ vs) := by
  refine ⟨by simp [h.1, k.1], fun i c u h1 h2 => ?_⟩
  rw [List.getElem?_append] at h1 h2
  by_cases hi : i < cs.length
  · rw [if_pos hi] at h1
    rw [if_pos (by rw [← h.1]; exact hi)] at h2
    exact h.2 i c u h1 h2
  · rw [if_neg hi] at h1
    rw [if_neg (by rw [← h.1]; exact hi)] at h2
    rw [← h.1] at h2
    exact k.2 _ c u h1 h2
theorem VRs.pre {σ : Sg} {cs : List AV} {us : List Value} (h : VRs σ cs us) : VRs σ cs (us.take cs.length) := by rw [h.1, List.take_length]; exact h
theorem VRs.take {σ : Sg} {cs : List AV} {us : List Value} (h : VRs σ cs us) (n : Nat) : VRs σ (cs.take n) (us.take n) := by
  refine ⟨by simp [h.1], fun i c u h1 h2 => ?_⟩
  rw [List.getElem?_take] at h1 h2
  split at h1
  · rename_i hi; rw [if_pos hi] at h2; exact h.2 i c u h1 h2
  · simp at h1
theorem VRs.drop {σ : Sg} {cs : List AV} {us : List Value} (h : VRs σ cs us) (n : Nat) : VRs σ (cs.drop n) (us.drop n) := by
  refine ⟨by simp [h.1], fun i c u h1 h2 => ?_⟩
  rw [List.getElem?_drop] at h1 h2
  exact h.2 _ c u h1 h2
theorem VRs.set {σ : Sg} {cs : List AV} {us : List Value} (h : VRs σ cs us) (n : Nat) {c : AV} {u : Value} (hc : VR σ c u) : VRs σ (cs.set n c) (us.set n u) := by
  refine ⟨by simp [h.1], fun i c' u' h1 h2 => ?_⟩
  rw [List.getElem?_set] at h1 h2
  by_cases hn : n = i
  · subst hn
    have hlt : n < cs.length := by
      by_cases hlt : n < cs.length
      · exact hlt
      · simp [hlt] at h1
    have hlt' : n < us.length := by rw [← h.1]; exact hlt
    simp only [if_true, hlt] at h1
    simp only [if_true, hlt'] at h2
    cases h1; cases h2; exact hc
  · rw [if_neg hn] at h1 h2
    exact h.2 i c' u' h1 h2
theorem VRs.getD {σ : Sg} {cs : List AV} {us : List Value} (h : VRs σ cs us) (n : Nat) (d : Value) : VR σ (cs.getD n .any) (us.getD n d) := by
  by_cases hn : n < cs.length
  · have hn' : n < us.length := by rw [← h.1]; exact hn
    simp only [List.getD_eq_getElem?_getD]
    exact h.2 n _ _ (by simp [List.getElem?_eq_getElem hn]) (by simp [List.getElem?_eq_getElem hn'])
  · simp only [List.getD_eq_getElem?_getD, List.getElem?_eq_none (Nat.le_of_not_lt hn), Option.getD_none]
    exact .any
theorem VRs.replicate {σ : Sg} (n : Nat) (us : List Value) (h : us.length = n) : VRs σ (List.replicate n .any) us := by
  refine ⟨by simp [h], fun i c u h1 _ => ?_⟩
  rw [List.getElem?_replicate] at h1
  split at h1
  · cases h1; exact .any
  · cases h1

/-- The kinds of a map key's cells. -/
inductive KC where
  | b | s
  | i (k : IntKind)
  deriving DecidableEq, Inhabited
structure KT where
  ag : Bool
  kk : List KC
  deriving DecidableEq, Inhabited
def kcFit : KC → Value → Bool
  | .b, .bool _ => true
  | .s, .string s => decide (s.size ≤ maxLen)
  | .i k, .int k' n => k' == k && (decide (k.min ≤ n) && decide (n ≤ k.max))
  | _, _ => false
def fitL : List KC → List Value → Bool
  | [], [] => true
  | k :: ks, v :: vs => kcFit k v && fitL ks vs
  | _, _ => false
def keyFits : KT → Value → Bool
  | ⟨true, kk⟩, .agg cs => fitL kk cs.toList
  | ⟨false, [k]⟩, v => kcFit k v
  | _, _ => false

inductive ABlk where
  | free
  | dead
  | cells (cs : List AV)
  | row (e sz n : Nat)
  | map (kt : KT) (ck : Nat) (es : List (Value × AV × Nat))
  deriving Inhabited

def ABlk.live : ABlk → Bool
  | .free | .dead => false
  | _ => true

def ABlk.ver : ABlk → Nat
  | .row _ _ n => n
  | _ => 0

def conc : Value → Option Nat
  | .pointer (some a) => some a.block
  | .slice (some a) _ cap => if cap = 0 then none else some a.block
  | .map (some g) => some g
  | _ => none

/-- A row that may grow: nothing yet, without room; or a row of one's own. -/
def RowAt (w : World) (e sz : Nat) (v : Value) (n : Nat) (xs : List Value) : Prop :=
  (n = 0 ∧ xs = [] ∧ ∃ a, v = .slice a 0 0) ∨
  ∃ g cap cur, 0 < cap ∧ v = .slice (some ⟨g, 0, none⟩) n cap ∧ w.heap[g]? = some (.cells cur e (0, 0)) ∧ n ≤ cap ∧ cap ≤ maxLen ∧ cur.size = cap * sz ∧ cur.toList.take (n * sz) = xs

def CellsAt (σ : Sg) (w : World) (b : Nat) (cs : List AV) : Prop :=
  ∃ g vs t, σ.φ b 0 = some (.pointer (some ⟨g, 0, none⟩)) ∧ σ.φ b 1 = some (.int .i64 vs.size) ∧ w.heap[g]? = some (.cells vs t (0, 0)) ∧ VRs σ cs (vs.toList.take cs.length) ∧ ∀ a : Addr, a.block = g → σ.M a = none

def BR (σ : Sg) (w : World) (b : Nat) : ABlk → Prop
  | .free => ∀ n, σ.φ b n = none
  | .dead => True
  | .cells cs => CellsAt σ w b cs ∨ (cs = [] ∧ ∃ v, σ.φ b 0 = some v ∧ conc v = none)
  | .row e sz n => ∃ v xs, σ.φ b n = some v ∧ RowAt w e sz v n xs ∧ (∀ m, n < m → σ.φ b m = none) ∧
      ∀ g, conc v = some g → (∀ j u, xs[j]? = some u → σ.M ⟨g, j, none⟩ = some u) ∧ ∀ a : Addr, a.block = g → n * sz ≤ a.off → σ.M a = none
  | .map kt ck es => ∃ g ms, σ.φ b 0 = some (.map (some g)) ∧ w.heap[g]? = some (.map ms ck) ∧ VRs σ (es.map (·.2.1)) (ms.toList.map (·.val)) ∧ ms.toList.map (·.key) = es.map (·.1) ∧
      ms.toList.map (·.born) = es.map (·.2.2) ∧ (∀ e ∈ es, keyFits kt e.1 = true) ∧ (es.map (·.1)).Nodup

structure HR (σ : Sg) (H : List ABlk) (w : World) : Prop where
  mem : ∀ a v, σ.M a = some v → w.cell? a = some v
  blk : ∀ b k, H[b]? = some k → BR σ w b k
  fresh : ∀ b n, H.length ≤ b → σ.φ b n = none
  inj : ∀ b b' k k' v v' g, H[b]? = some k → H[b']? = some k' → k.live = true → k'.live = true → σ.φ b k.ver = some v → σ.φ b' k'.ver = some v' → conc v = some g → conc v' = some g → b = b'

theorem HR.cellsAt {σ : Sg} {H : List ABlk} {w : World} (h : HR σ H w) {b g : Nat} {cs : List AV} (hb : H[b]? = some (.cells cs)) (hφ : σ.φ b 0 = some (.pointer (some ⟨g, 0, none⟩))) :
    ∃ vs t, σ.φ b 1 = some (.int .i64 vs.size) ∧ w.heap[g]? = some (.cells vs t (0, 0)) ∧ VRs σ cs (vs.toList.take cs.length) ∧ ∀ a : Addr, a.block = g → σ.M a = none := by
  rcases h.blk b _ hb with ⟨g', vs, t, h1, h2, h3, h4, h5⟩ | ⟨_, v, h1, h2⟩
  · rw [h1] at hφ; cases hφ
    exact ⟨vs, t, h2, h3, h4, h5⟩
  · rw [h1] at hφ; cases hφ; simp [conc] at h2

def foot (σ : Sg) (H : List ABlk) (k : Nat) : Prop := ∃ b blk v, H[b]? = some blk ∧ blk.live = true ∧ σ.φ b blk.ver = some v ∧ conc v = some k

structure Ext (σ : Sg) (H : List ABlk) (w : World) (σ' : Sg) (H' : List ABlk) (w' : World) : Prop where
  le : σ.le σ'
  os : w'.os = w.os
  tape : w'.tape = w.tape
  output : w'.output = w.output
  size : w.heap.size ≤ w'.heap.size
  frame : ∀ k, k < w.heap.size → ¬ foot σ H k → w'.heap[k]? = w.heap[k]?
  foot : ∀ k, foot σ' H' k → foot σ H k ∨ w.heap.size ≤ k
  new : ∀ a, σ'.M a ≠ σ.M a → Go.Proofs.Ytalhmnijkkihgaa.foot σ H a.block ∨ w.heap.size ≤ a.block
  dead : ∀ b : Nat, H[b]? = some .dead → H'[b]? = some .dead ∧ ∀ n, σ'.φ b n = σ.φ b n

theorem Ext.refl (σ : Sg) (H : List ABlk) (w : World) : Ext σ H w σ H w :=
  ⟨.refl σ, rfl, rfl, rfl, Nat.le_refl _, fun _ _ _ => rfl, fun _ h => .inl h, fun _ h => absurd rfl h, fun _ h => ⟨h, fun _ => rfl⟩⟩
theorem Ext.trans {σ σ' σ'' : Sg} {H H' H'' : List ABlk} {w w' w'' : World} (h : Ext σ H w σ' H' w') (k : Ext σ' H' w' σ'' H'' w'') : Ext σ H w σ'' H'' w'' := by
  refine ⟨h.le.trans k.le, k.os.trans h.os, k.tape.trans h.tape, k.output.trans h.output, Nat.le_trans h.size k.size, fun i hi hf => ?_, fun i hi => ?_, fun a ha => ?_, fun b hb => ?_⟩
  · rw [k.frame i (Nat.lt_of_lt_of_le hi h.size) (fun hf' => ?_), h.frame i hi hf]
    rcases h.foot i hf' with h1 | h1
    · exact hf h1
    · omega
  · rcases k.foot i hi with h1 | h1
    · exact h.foot i h1
    · exact .inr (Nat.le_trans h.size h1)
  · by_cases e : σ''.M a = σ'.M a
    · exact h.new a (by rw [← e]; exact ha)
    · rcases k.new a e with h1 | h1
      · exact h.foot _ h1
      · exact .inr (Nat.le_trans h.size h1)
  · obtain ⟨h1, h2⟩ := h.dead b hb
    obtain ⟨h3, h4⟩ := k.dead b h1
    exact ⟨h3, fun n => (h4 n).trans (h2 n)⟩

theorem addr_lit (g o i : Nat) : (⟨g, o, none⟩ : Addr).add i = ⟨g, o + i, none⟩ := by unfold Addr.add; split <;> simp_all

/-- A draw changes nothing. -/
theorem HR.drew {σ : Sg} {H : List ABlk} {w : World} (h : HR σ H w) : HR σ H w.drew :=
  ⟨h.mem, fun b k hb => by
    have := h.blk b k hb
    cases k <;> exact this, h.fresh, h.inj⟩
theorem Ext.drew (σ : Sg) (H : List ABlk) (w : World) : Ext σ H w σ H w.drew :=
  ⟨.refl σ, rfl, rfl, rfl, Nat.le_refl _, fun _ _ _ => rfl, fun _ h => .inl h, fun _ h => absurd rfl h, fun _ h => ⟨h, fun _ => rfl⟩⟩

/-- The frame's slots. -/
structure SS (σ : Sg) (s : List AV) (a : Act) : Prop where
  defers : a.defers = []
  tmps : VRs σ s a.tmps.toList
theorem SS.mono {σ σ' : Sg} (h : σ.le σ') {s : List AV} {a : Act} (hs : SS σ s a) : SS σ' s a := ⟨hs.defers, hs.tmps.mono h⟩

@[go_sem] def setO (s : List AV) (dst : Option Nat) (x : AV) : List AV :=
  match dst with
  | some d => s.set d x
  | none => s

theorem SS.put {σ : Sg} {s : List AV} {a : Act} (hs : SS σ s a) (dst : Option Nat) {x : AV} {v : Value} (h : VR σ x v) : SS σ (setO s dst x) (a.put dst v) := by
  cases dst with
  | none => exact hs
  | some d =>
    refine ⟨hs.defers, ?_⟩
    have := hs.tmps.set d h
    simpa [Act.put, setO] using this

end Go.Proofs.Ytalhmnijkkihgaa
