/-
  One's own library, part 1: abstract values, the abstract heap, and how they stand to the model's values and worlds.
  No program is named here.
-/
import Derived.WalkKit
import Derived.Maps.AppendAt
import Derived.Deep.Draws
import Derived.Lib.LaidTab
import Derived.Lib.ItoaNum
import Derived.Lib.Space
import Derived.Lib.TrailingZeros
set_option linter.unusedVariables false
set_option linter.unusedSimpArgs false
set_option linter.unusedSectionVars false
namespace Go.Proofs.YtmgmoamcbnkbfaaGreatDoor
open Go.RowKit

/-- Memory that never changes any more: at an address a value, or nothing. -/
abbrev Mem := Addr → Option Value

def plainV : Value → Bool
  | .bool _ | .int _ _ | .float _ _ | .complex _ _ _ | .string _ | .nilFunc | .nilIface => true
  | _ => false

/-- Data of one cell: a plain value, or a slice with its elements, each a list of cells. -/
inductive Dat where
  | v (x : Value)
  | sl (es : List (List Dat))
  deriving Inhabited

inductive VD (M : Mem) : Dat → Value → Prop
  | v {x : Value} : plainV x = true → VD M (.v x) x
  | nil {a : Option Addr} {cap : Nat} : VD M (.sl []) (.slice a 0 cap)
  | sl {es : List (List Dat)} {a : Addr} {cap sz : Nat} (u : Nat → Nat → Value) : es ≠ [] → es.length ≤ cap → cap ≤ maxLen → (∀ e ∈ es, e.length = sz) →
      (∀ (i : Nat) (e : List Dat) (j : Nat) (d : Dat), es[i]? = some e → e[j]? = some d → M (a.add (i * sz + j)) = some (u i j)) →
      (∀ (i : Nat) (e : List Dat) (j : Nat) (d : Dat), es[i]? = some e → e[j]? = some d → VD M d (u i j)) → VD M (.sl es) (.slice (some a) es.length cap)

inductive AV where
  | any
  | ub
  | d (x : Dat)
  | agg (cs : List AV)
  | tup (cs : List AV)
  | nilp
  | mnil
  | ptr (b off : Nat)
  | ip (cs : List Dat)
  | esl
  | gsl (b sz : Nat) (es : List (List Dat))
  | hsl (b off n cap sz : Nat)
  | mp (b : Nat)
  | fn (f : FuncId) (caps : List AV)
  deriving Inhabited

structure Sg where
  M : Mem
  φ : Nat → Nat → Option Value

structure Sg.le (σ σ' : Sg) : Prop where
  M : ∀ a v, σ.M a = some v → σ'.M a = some v
  φ : ∀ b n v, σ.φ b n = some v → σ'.φ b n = some v

theorem Sg.le.refl (σ : Sg) : σ.le σ := ⟨fun _ _ h => h, fun _ _ _ h => h⟩
theorem Sg.le.trans {a b c : Sg} (h : a.le b) (k : b.le c) : a.le c := ⟨fun _ _ x => k.M _ _ (h.M _ _ x), fun _ _ _ x => k.φ _ _ _ (h.φ _ _ _ x)⟩

inductive VR (σ : Sg) : AV → Value → Prop
  | any {u : Value} : VR σ .any u
  | ub {t : Bool} : VR σ .ub (.bool t)
  | d {x : Dat} {u : Value} : VD σ.M x u → VR σ (.d x) u
  | nilp : VR σ .nilp (.pointer none)
  | mnil : VR σ .mnil (.map none)
  | ptr {b g off : Nat} : σ.φ b 0 = some (.pointer (some ⟨g, 0, none⟩)) → VR σ (.ptr b off) (.pointer (some ⟨g, off, none⟩))
  | ip {cs : List Dat} {a : Addr} (u : Nat → Value) : (∀ (j : Nat) (d : Dat), cs[j]? = some d → σ.M (a.add j) = some (u j)) → (∀ (j : Nat) (d : Dat), cs[j]? = some d → VD σ.M d (u j)) → VR σ (.ip cs) (.pointer (some a))
  | esl {a : Option Addr} : VR σ .esl (.slice a 0 0)
  | gsl {b sz : Nat} {es : List (List Dat)} {u : Value} : σ.φ b es.length = some u → (∀ e ∈ es, e.length = sz) → VD σ.M (.sl es) u → VR σ (.gsl b sz es) u
  | hsl {b g off n cap cap' sz N : Nat} : σ.φ b 0 = some (.pointer (some ⟨g, 0, none⟩)) → σ.φ b 1 = some (.int .i64 N) → off + cap' * sz ≤ N → n ≤ cap → cap ≤ cap' → cap' ≤ maxLen → VR σ (.hsl b off n cap sz) (.slice (some ⟨g, off, none⟩) n cap')
  | hsl0 {b off sz : Nat} {a : Option Addr} {v : Value} : σ.φ b 0 = some v → VR σ (.hsl b off 0 0 sz) (.slice a 0 0)
  | mp {b g : Nat} : σ.φ b 0 = some (.map (some g)) → VR σ (.mp b) (.map (some g))
  | fn {f : FuncId} {caps : List AV} {us : List Value} : caps.length = us.length → (∀ (i : Nat) (c : AV) (u : Value), caps[i]? = some c → us[i]? = some u → VR σ c u) → VR σ (.fn f caps) (.func (.func f) #[] us.toArray)
  | agg {cs : List AV} {us : List Value} : cs.length = us.length → (∀ (i : Nat) (c : AV) (u : Value), cs[i]? = some c → us[i]? = some u → VR σ c u) → VR σ (.agg cs) (.agg us.toArray)
  | tup {cs : List AV} {us : List Value} : cs.length = us.length → (∀ (i : Nat) (c : AV) (u : Value), cs[i]? = some c → us[i]? = some u → VR σ c u) → VR σ (.tup cs) (.tuple us.toArray)

theorem VD.mono {M M' : Mem} (h : ∀ a v, M a = some v → M' a = some v) {x : Dat} {u : Value} (hv : VD M x u) : VD M' x u := by
  induction hv with
  | v hp => exact .v hp
  | nil => exact .nil
  | sl u h1 h2 hm h3 h4 _ ih => exact .sl u h1 h2 hm h3 (fun i e j d he hd => h _ _ (h4 i e j d he hd)) ih

theorem VR.mono {σ σ' : Sg} (h : σ.le σ') {x : AV} {u : Value} (hv : VR σ x u) : VR σ' x u := by
  induction hv with
  | any => exact .any
  | ub => exact .ub
  | d hd => exact .d (hd.mono h.M)
  | nilp => exact .nilp
  | mnil => exact .mnil
  | ptr hφ => exact .ptr (h.φ _ _ _ hφ)
  | ip u h1 h2 => exact .ip u (fun j d hj => h.M _ _ (h1 j d hj)) (fun j d hj => (h2 j d hj).mono h.M)
  | esl => exact .esl
  | gsl hφ hz hd => exact .gsl (h.φ _ _ _ hφ) hz (hd.mono h.M)
  | hsl hφ hN ho hn hc hm => exact .hsl (h.φ _ _ _ hφ) (h.φ _ _ _ hN) ho hn hc hm
  | hsl0 hφ => exact .hsl0 (h.φ _ _ _ hφ)
  | mp hφ => exact .mp (h.φ _ _ _ hφ)
  | fn hl _ ih => exact .fn hl ih
  | agg hl _ ih => exact .agg hl ih
  | tup hl _ ih => exact .tup hl ih

/-- Lists, cell by cell. -/
def VRs (σ : Sg) (cs : List AV) (us : List Value) : Prop := cs.length = us.length ∧ ∀ (i : Nat) (c : AV) (u : Value), cs[i]? = some c → us[i]? = some u → VR σ c u
theorem VRs.mono {σ σ' : Sg} (h : σ.le σ') {cs : List AV} {us : List Value} (hv : VRs σ cs us) : VRs σ' cs us :=
  ⟨hv.1, fun i c u h1 h2 => (hv.2 i c u h1 h2).mono h⟩
theorem VRs.nil {σ : Sg} : VRs σ [] [] := ⟨rfl, fun i c u h => by simp at h⟩
theorem VRs.cons {σ : Sg} {c : AV} {u : Value} {cs : List AV} {us : List Value} (h : VR σ c u) (hs : VRs σ cs us) : VRs σ (c :: cs) (u :: us) := by
  refine ⟨by simp [hs.1], fun i c' u' h1 h2 => ?_⟩
  cases i with
  | zero => simp at h1 h2; subst h1; subst h2; exact h
  | succ i => simp at h1 h2; exact hs.2 i c' u' h1 h2
theorem VRs.cons_inv {σ : Sg} {c : AV} {cs : List AV} {us : List Value} (h : VRs σ (c :: cs) us) : ∃ u us', us = u :: us' ∧ VR σ c u ∧ VRs σ cs us' := by
  match us, h with
  | [], h => exact absurd h.1 (by simp)
  | u :: us', h =>
    exact ⟨u, us', rfl, h.2 0 c u rfl rfl, by simpa using h.1, fun i c' u' h1 h2 => h.2 (i + 1) c' u' (by simpa using h1) (by simpa using h2)⟩
theorem VRs.append {σ : Sg} {cs ds : List AV} {us vs : List Value} (h : VRs σ cs us) (k : VRs σ ds vs) : VRs σ (cs ++ ds) (us ++ vs) := by
  refine ⟨by simp [h.1, k.1], fun i c u h1 h2 => ?_⟩
  rw [List.getElem?_append] at h1 h2
  by_cases hi : i < cs.length
  · rw [if_pos hi] at h1
    rw [if_pos (by rw [← h.1]; exact hi)] at h2
    exact h.2 i c u h1 h2
  · rw [if_neg hi] at h1
    rw [if_neg (by rw [← h.1]; exact hi)] at h2
    rw [← h.1] at h2
    exact k.2 _ c u h1 h2
theorem VRs.pre {σ : Sg} {cs : List AV} {us : List Value} (h : VRs σ cs us) : VRs σ cs (us.take cs.length) := by rw [h.1, List.take_length]; exact h
theorem VRs.take {σ : Sg} {cs : List AV} {us : List Value} (h : VRs σ cs us) (n : Nat) : VRs σ (cs.take n) (us.take n) := by
  refine ⟨by simp [h.1], fun i c u h1 h2 => ?_⟩
  rw [List.getElem?_take] at h1 h2
  split at h1
  · rename_i hi; rw [if_pos hi] at h2; exact h.2 i c u h1 h2
  · simp at h1
theorem VRs.drop {σ : Sg} {cs : List AV} {us : List Value} (h : VRs σ cs us) (n : Nat) : VRs σ (cs.drop n) (us.drop n) := by
  refine ⟨by simp [h.1], fun i c u h1 h2 => ?_⟩
  rw [List.getElem?_drop] at h1 h2
  exact h.2 _ c u h1 h2
theorem VRs.set {σ : Sg} {cs : List AV} {us : List Value} (h : VRs σ cs us) (n : Nat) {c : AV} {u : Value} (hc : VR σ c u) : VRs σ (cs.set n c) (us.set n u) := by
  refine ⟨by simp [h.1], fun i c' u' h1 h2 => ?_⟩
  rw [List.getElem?_set] at h1 h2
  by_cases hn : n = i
  · subst hn
    have hlt : n < cs.length := by
      by_cases hlt : n < cs.length
      · exact hlt
      · simp [hlt] at h1
    have hlt' : n < us.length := by rw [← h.1]; exact hlt
    simp only [if_true, hlt] at h1
    simp only [if_true, hlt'] at h2
    cases h1; cases h2; exact hc
  · rw [if_neg hn] at h1 h2
    exact h.2 i c' u' h1 h2
theorem VRs.getD {σ : Sg} {cs : List AV} {us : List Value} (h : VRs σ cs us) (n : Nat) (d : Value) : VR σ (cs.getD n .any) (us.getD n d) := by
  by_cases hn : n < cs.length
  · have hn' : n < us.length := by rw [← h.1]; exact hn
    simp only [List.getD_eq_getElem?_getD]
    exact h.2 n _ _ (by simp [List.getElem?_eq_getElem hn]) (by simp [List.getElem?_eq_getElem hn'])
  · simp only [List.getD_eq_getElem?_getD, List.getElem?_eq_none (Nat.le_of_not_lt hn), Option.getD_none]
    exact .any
theorem VRs.replicate {σ : Sg} (n : Nat) (us : List Value) (h : us.length = n) : VRs σ (List.replicate n .any) us := by
  refine ⟨by simp [h], fun i c u h1 _ => ?_⟩
  rw [List.getElem?_replicate] at h1
  split at h1
  · cases h1; exact .any
  · cases h1

/-- The kinds of a map key's cells. -/
inductive KC where
  | b | s
  | i (k : IntKind)
  deriving DecidableEq, Inhabited
structure KT where
  ag : Bool
  kk : List KC
  deriving DecidableEq, Inhabited
def kcFit : KC → Value → Bool
  | .b, .bool _ => true
  | .s, .string s => decide (s.size ≤ maxLen)
  | .i k, .int k' n => k' == k && (decide (k.min ≤ n) && decide (n ≤ k.max))
  | _, _ => false
def fitL : List KC → List Value → Bool
  | [], [] => true
  | k :: ks, v :: vs => kcFit k v && fitL ks vs
  | _, _ => false
def keyFits : KT → Value → Bool
  | ⟨true, kk⟩, .agg cs => fitL kk cs.toList
  | ⟨false, [k]⟩, v => kcFit k v
  | _, _ => false

inductive ABlk where
  | free
  | dead
  | cells (cs : List AV)
  | row (e sz n : Nat)
  | map (kt : KT) (ck : Nat) (es : List (Value × AV × Nat))
  | bld (t : TypeId)
  deriving Inhabited

def ABlk.live : ABlk → Bool
  | .free | .dead => false
  | _ => true

def ABlk.ver : ABlk → Nat
  | .row _ _ n => n
  | _ => 0

def conc : Value → Option Nat
  | .pointer (some a) => some a.block
  | .slice (some a) _ cap => if cap = 0 then none else some a.block
  | .map (some g) => some g
  | _ => none

/-- A row that may grow: nothing yet, without room; or a row of one's own. -/
def RowAt (w : World) (e sz : Nat) (v : Value) (n : Nat) (xs : List Value) : Prop :=
  (n = 0 ∧ xs = [] ∧ ∃ a, v = .slice a 0 0) ∨
  ∃ g cap cur, 0 < cap ∧ v = .slice (some ⟨g, 0, none⟩) n cap ∧ w.heap[g]? = some (.cells cur e (0, 0)) ∧ n ≤ cap ∧ cap ≤ maxLen ∧ cur.size = cap * sz ∧ cur.toList.take (n * sz) = xs

def CellsAt (σ : Sg) (w : World) (b : Nat) (cs : List AV) : Prop :=
  ∃ g vs t, σ.φ b 0 = some (.pointer (some ⟨g, 0, none⟩)) ∧ σ.φ b 1 = some (.int .i64 vs.size) ∧ w.heap[g]? = some (.cells vs t (0, 0)) ∧ VRs σ cs (vs.toList.take cs.length) ∧ ∀ a : Addr, a.block = g → σ.M a = none

/-- A new strings.Builder, whose type is known. -/
def BldAt (σ : Sg) (w : World) (b : Nat) (t : TypeId) : Prop :=
  ∃ g, σ.φ b 0 = some (.pointer (some ⟨g, 0, none⟩)) ∧ σ.φ b 1 = some (.int .i64 2) ∧ w.heap[g]? = some (.cells #[.pointer none, .slice none 0 0] t (0, 0)) ∧ ∀ a : Addr, a.block = g → σ.M a = none

def BR (σ : Sg) (w : World) (b : Nat) : ABlk → Prop
  | .free => ∀ n, σ.φ b n = none
  | .dead => True
  | .cells cs => CellsAt σ w b cs ∨ (cs = [] ∧ ∃ v, σ.φ b 0 = some v ∧ conc v = none)
  | .row e sz n => ∃ v xs, σ.φ b n = some v ∧ RowAt w e sz v n xs ∧ (∀ m, n < m → σ.φ b m = none) ∧
      ∀ g, conc v = some g → (∀ j u, xs[j]? = some u → σ.M ⟨g, j, none⟩ = some u) ∧ ∀ a : Addr, a.block = g → n * sz ≤ a.off → σ.M a = none
  | .map kt ck es => ∃ g ms, σ.φ b 0 = some (.map (some g)) ∧ w.heap[g]? = some (.map ms ck) ∧ VRs σ (es.map (·.2.1)) (ms.toList.map (·.val)) ∧ ms.toList.map (·.key) = es.map (·.1) ∧
      ms.toList.map (·.born) = es.map (·.2.2) ∧ (∀ e ∈ es, keyFits kt e.1 = true) ∧ (es.map (·.1)).Nodup
  | .bld t => BldAt σ w b t

/-- The program's laid tables: number, kind, what they hold. -/
def glTabs : List (Nat × IntKind × List Int) := [(1, .u8, Lib.asciiSpaceTab), (5, .u64, Lib.pow10Tab), (7, .u8, Lib.deBruijn64tab.map Int.ofNat)]
/-- The tables lie in the memory that never changes; and so does one variable that holds some integer. -/
def GlM (M : Mem) : Prop := (∃ m : Int, M ⟨0, 0, none⟩ = some (.int .i64 m)) ∧ ∀ t ∈ glTabs, ∀ (i : Nat) (x : Int), t.2.2[i]? = some x → M ⟨t.1, i, none⟩ = some (.int t.2.1 x)
theorem GlM.mono {M M' : Mem} (h : GlM M) (hm : ∀ a v, M a = some v → M' a = some v) : GlM M' :=
  ⟨h.1.imp fun _ h => hm _ _ h, fun t ht i x hx => hm _ _ (h.2 t ht i x hx)⟩
/-- The tables' blocks are as long as they. -/
def SzOk (w : World) : Prop := ∀ t ∈ glTabs, ∃ c e f, w.heap[t.1]? = some (.cells c e f) ∧ c.size = t.2.2.length
theorem SzOk.to {w w' : World} (h : SzOk w) (k : ∀ t ∈ glTabs, ∀ c e f, w.heap[t.1]? = some (.cells c e f) → ∃ c' e' f', w'.heap[t.1]? = some (.cells c' e' f') ∧ c'.size = c.size) : SzOk w' := fun t ht => by
  obtain ⟨c, e, f, h1, h2⟩ := h t ht
  obtain ⟨c', e', f', h3, h4⟩ := k t ht c e f h1
  exact ⟨c', e', f', h3, h4.trans h2⟩
structure MemOk (M : Mem) (w : World) : Prop where
  cell : ∀ a v, M a = some v → w.cell? a = some v
  gl : GlM M
  sz : SzOk w
instance {M : Mem} {w : World} : CoeFun (MemOk M w) (fun _ => ∀ a v, M a = some v → w.cell? a = some v) := ⟨MemOk.cell⟩
theorem GlM.ne {M : Mem} (h : GlM M) {t : Nat × IntKind × List Int} (ht : t ∈ glTabs) : ∃ v, M ⟨t.1, 0, none⟩ = some v := by
  have h2 := h.2 t ht 0
  simp only [glTabs, List.mem_cons, List.not_mem_nil, or_false] at ht
  rcases ht with rfl | rfl | rfl
  · exact ⟨_, h2 _ rfl⟩
  · exact ⟨_, h2 _ rfl⟩
  · exact ⟨_, h2 _ rfl⟩
structure HR (σ : Sg) (H : List ABlk) (w : World) : Prop where
  mem : MemOk σ.M w
  blk : ∀ b k, H[b]? = some k → BR σ w b k
  fresh : ∀ b n, H.length ≤ b → σ.φ b n = none
  inj : ∀ b b' k k' v v' g, H[b]? = some k → H[b']? = some k' → k.live = true → k'.live = true → σ.φ b k.ver = some v → σ.φ b' k'.ver = some v' → conc v = some g → conc v' = some g → b = b'

theorem HR.cellsAt {σ : Sg} {H : List ABlk} {w : World} (h : HR σ H w) {b g : Nat} {cs : List AV} (hb : H[b]? = some (.cells cs)) (hφ : σ.φ b 0 = some (.pointer (some ⟨g, 0, none⟩))) :
    ∃ vs t, σ.φ b 1 = some (.int .i64 vs.size) ∧ w.heap[g]? = some (.cells vs t (0, 0)) ∧ VRs σ cs (vs.toList.take cs.length) ∧ ∀ a : Addr, a.block = g → σ.M a = none := by
  rcases h.blk b _ hb with ⟨g', vs, t, h1, h2, h3, h4, h5⟩ | ⟨_, v, h1, h2⟩
  · rw [h1] at hφ; cases hφ
    exact ⟨vs, t, h2, h3, h4, h5⟩
  · rw [h1] at hφ; cases hφ; simp [conc] at h2

def foot (σ : Sg) (H : List ABlk) (k : Nat) : Prop := ∃ b blk v, H[b]? = some blk ∧ blk.live = true ∧ σ.φ b blk.ver = some v ∧ conc v = some k

structure Ext (σ : Sg) (H : List ABlk) (w : World) (σ' : Sg) (H' : List ABlk) (w' : World) : Prop where
  le : σ.le σ'
  os : w'.os = w.os
  tape : w'.tape = w.tape
  output : w'.output = w.output
  size : w.heap.size ≤ w'.heap.size
  frame : ∀ k, k < w.heap.size → ¬ foot σ H k → w'.heap[k]? = w.heap[k]?
  foot : ∀ k, foot σ' H' k → foot σ H k ∨ w.heap.size ≤ k
  new : ∀ a, σ'.M a ≠ σ.M a → Go.Proofs.YtmgmoamcbnkbfaaGreatDoor.foot σ H a.block ∨ w.heap.size ≤ a.block
  dead : ∀ b : Nat, H[b]? = some .dead → H'[b]? = some .dead ∧ ∀ n, σ'.φ b n = σ.φ b n

theorem Ext.refl (σ : Sg) (H : List ABlk) (w : World) : Ext σ H w σ H w :=
  ⟨.refl σ, rfl, rfl, rfl, Nat.le_refl _, fun _ _ _ => rfl, fun _ h => .inl h, fun _ h => absurd rfl h, fun _ h => ⟨h, fun _ => rfl⟩⟩
theorem Ext.trans {σ σ' σ'' : Sg} {H H' H'' : List ABlk} {w w' w'' : World} (h : Ext σ H w σ' H' w') (k : Ext σ' H' w' σ'' H'' w'') : Ext σ H w σ'' H'' w'' := by
  refine ⟨h.le.trans k.le, k.os.trans h.os, k.tape.trans h.tape, k.output.trans h.output, Nat.le_trans h.size k.size, fun i hi hf => ?_, fun i hi => ?_, fun a ha => ?_, fun b hb => ?_⟩
  · rw [k.frame i (Nat.lt_of_lt_of_le hi h.size) (fun hf' => ?_), h.frame i hi hf]
    rcases h.foot i hf' with h1 | h1
    · exact hf h1
    · omega
  · rcases k.foot i hi with h1 | h1
    · exact h.foot i h1
    · exact .inr (Nat.le_trans h.size h1)
  · by_cases e : σ''.M a = σ'.M a
    · exact h.new a (by rw [← e]; exact ha)
    · rcases k.new a e with h1 | h1
      · exact h.foot _ h1
      · exact .inr (Nat.le_trans h.size h1)
  · obtain ⟨h1, h2⟩ := h.dead b hb
    obtain ⟨h3, h4⟩ := k.dead b h1
    exact ⟨h3, fun n => (h4 n).trans (h2 n)⟩

theorem addr_lit (g o i : Nat) : (⟨g, o, none⟩ : Addr).add i = ⟨g, o + i, none⟩ := by unfold Addr.add; split <;> simp_all

/-- A draw changes nothing. -/
theorem HR.drew {σ : Sg} {H : List ABlk} {w : World} (h : HR σ H w) : HR σ H w.drew :=
  ⟨⟨h.mem.cell, h.mem.gl, h.mem.sz⟩, fun b k hb => by
    have := h.blk b k hb
    cases k <;> exact this, h.fresh, h.inj⟩
theorem Ext.drew (σ : Sg) (H : List ABlk) (w : World) : Ext σ H w σ H w.drew :=
  ⟨.refl σ, rfl, rfl, rfl, Nat.le_refl _, fun _ _ _ => rfl, fun _ h => .inl h, fun _ h => absurd rfl h, fun _ h => ⟨h, fun _ => rfl⟩⟩

/-- The frame's slots. -/
structure SS (σ : Sg) (s : List AV) (a : Act) : Prop where
  defers : a.defers = []
  tmps : VRs σ s a.tmps.toList
theorem SS.mono {σ σ' : Sg} (h : σ.le σ') {s : List AV} {a : Act} (hs : SS σ s a) : SS σ' s a := ⟨hs.defers, hs.tmps.mono h⟩

@[go_sem] def setO (s : List AV) (dst : Option Nat) (x : AV) : List AV :=
  match dst with
  | some d => s.set d x
  | none => s

theorem SS.put {σ : Sg} {s : List AV} {a : Act} (hs : SS σ s a) (dst : Option Nat) {x : AV} {v : Value} (h : VR σ x v) : SS σ (setO s dst x) (a.put dst v) := by
  cases dst with
  | none => exact hs
  | some d =>
    refine ⟨hs.defers, ?_⟩
    have := hs.tmps.set d h
    simpa [Act.put, setO] using this

end Go.Proofs.YtmgmoamcbnkbfaaGreatDoor

/-
  One's own library, part 2: the small language that the model's code is turned into, its evaluator and its weakest preconditions.
-/
namespace Go.Proofs.YtmgmoamcbnkbfaaGreatDoor
open Go.RowKit

/-! ### operands -/
inductive Opd where
  | t (n : Nat)
  | c (x : AV)
  deriving Inhabited

@[go_sem] def get (s : List AV) : Opd → AV
  | .t n => s.getD n .any
  | .c x => x

def cst1 : Value → Option AV
  | .slice none 0 0 => some .esl
  | .pointer none => some .nilp
  | .map none => some .mnil
  | v => if plainV v then some (.d (.v v)) else none
def cst : Value → Option AV
  | .agg cs => (cs.toList.mapM cst1).map .agg
  | v => cst1 v
def opd : Operand → Option Opd
  | .tmp t => some (.t t)
  | .const v => (cst v).map .c
  | .func f => some (.c (.fn f []))
  | .global _ => none

/-- How a slice that is made is held: as data, as a block of its own, or as a row that may grow. -/
inductive Md where
  | im | hp | gr
  deriving DecidableEq, Inhabited

inductive K where
  | mv (x : Opd)
  | mvg (e sz : Nat) (x : Opd)
  | pick (c a b : Opd)
  | al (z : List AV)
  | alb (t : TypeId)
  | bx (x : Opd)
  | bd (z : List AV) (parts : List (Nat × Nat × Opd))
  | bs (md : Md) (e sz : Nat) (parts : List Opd)
  | ld (x : Opd) (n : Nat) (ag : Bool)
  | st (x v : Opd) (n : Nat)
  | nc (x : Opd)
  | bin (op : BinOp) (x y : Opd)
  | un (op : UnOp) (x : Opd)
  | cvi (k : IntKind) (x : Opd)
  | fa (x : Opd) (off : Nat)
  | fld (x : Opd) (off n : Nat) (ag : Bool)
  | ia (x i : Opd) (sz : Nat)
  | iar (x i : Opd) (n sz : Nat)
  | ix (x i : Opd)
  | ixv (x i : Opd) (n : Nat)
  | sli (str : Bool) (x : Opd) (lo hi : Option Opd) (sz : Nat)
  | sla (x : Opd) (lo hi : Option Opd) (n sz : Nat)
  | slz (x : Opd)
  | ext (x : Opd) (i : Nat)
  | call (f : FuncId) (args : List Opd)
  | callv (g : Opd) (args : List Opd)
  | len (str : Bool) (x : Opd)
  | app (md : Md) (e sz bytes : Nat) (s x : Opd)
  | mn (xs : List Opd)
  | mx (xs : List Opd)
  | mkf (f : FuncId) (caps : List Opd)
  | mks (md : Md) (e sz bytes : Nat) (z : List AV) (n c : Opd)
  | cpy (sz : Nat) (d x : Opd)
  | mkm (kt : KT)
  | lk (kt : KT) (z : AV) (m k : Opd) (ok : Bool)
  | mu (kt : KT) (m k v : Opd)
  | me (kt : KT) (z : AV) (m k : Opd)
  | mes (m st v : Opd)
  | del (kt : KT) (m k : Opd)
  | ixb (f : FuncId) (x c : Opd)
  | eqg (kt : KT) (neg : Bool) (x y : Opd)
  | isn (mp neg : Bool) (x : Opd)
  | s2b (md : Md) (e : Nat) (x : Opd)
  | b2s (x : Opd)
  | eqs (neg : Bool) (x y : Opd)
  | eqp (neg : Bool) (x y : Opd)
  | eqi (neg : Bool) (x : Opd)
  deriving Inhabited

structure Ins where
  dst : Option Nat
  k : K
  g : Option (Nat × Bool) := none
  deriving Inhabited

inductive AC where
  | skip
  | reg (l : List Ins)
  | dreg (pr : List (List Nat)) (l : List Ins)
  | seq (a b : AC)
  | cond (x : Opd) (a b : AC)
  | block (id : Nat) (c : AC)
  | loop (c : AC)
  | exit (id : Nat)
  | ret
  | stuck
  deriving Inhabited

/-! ### small functions on abstract values -/
def shown : AV → Bool
  | .any | .tup _ => false
  | _ => true
@[go_sem] def one : AV → Bool
  | .any | .tup _ | .agg _ => false
  | _ => true
def cellsAV : AV → List AV
  | .agg cs => cs
  | x => [x]
@[go_sem] def toDat : AV → Option Dat
  | .d x => some x
  | .esl => some (.sl [])
  | .gsl _ _ es => some (.sl es)
  | _ => none
@[go_sem] def toDats : List AV → Option (List Dat)
  | [] => some []
  | x :: xs => match toDat x, toDats xs with
    | some d, some ds => some (d :: ds)
    | _, _ => none
@[go_sem] def splice (cs : List AV) (off : Nat) (vs : List AV) : List AV := cs.take off ++ vs ++ cs.drop (off + vs.length)
@[go_sem] def fillA (z : List AV) : List (Nat × Nat × AV) → Option (List AV)
  | [] => some z
  | (off, n, v) :: r => if shown v && (cellsAV v).length == n && decide (off + n ≤ z.length) then fillA (splice z off (cellsAV v)) r else none
@[go_sem] def loadA (H : List ABlk) (x : AV) (n : Nat) : Option (List AV) :=
  match x with
  | .ptr b off => match H[b]? with
    | some (.cells cs) => if off + n ≤ cs.length then some ((cs.drop off).take n) else none
    | _ => none
  | .ip cs => if n ≤ cs.length then some ((cs.take n).map .d) else none
  | _ => none
@[go_sem] def storeA (H : List ABlk) (x : AV) (vs : List AV) : Option (List ABlk) :=
  match x with
  | .ptr b off => match H[b]? with
    | some (.cells cs) => if off + vs.length ≤ cs.length ∧ vs.all one = true then some (H.set b (.cells (splice cs off vs))) else none
    | _ => none
  | _ => none
@[go_sem] def outA (ag : Bool) (cs : List AV) : Option AV :=
  if ag then some (.agg cs) else match cs with
    | [c] => some c
    | _ => none
@[go_sem] def binA (op : BinOp) (x y : AV) : Option AV :=
  match x, y with
  | .d (.v (.int k a)), .d (.v (.int k' b)) =>
    match op with
    | .shl => if b < 0 then none else some (.d (.v (.int k (k.wrap (a * 2 ^ (min b.toNat k.bits))))))
    | .shr => if b < 0 then none else some (.d (.v (.int k (a / (2 ^ (min b.toNat k.bits))))))
    | _ => if k = k' then
      match op with
      | .add => some (.d (.v (.int k (k.wrap (a + b)))))
      | .sub => some (.d (.v (.int k (k.wrap (a - b)))))
      | .mul => some (.d (.v (.int k (k.wrap (a * b)))))
      | .quo => if b = 0 then none else some (.d (.v (.int k (k.wrap (a.tdiv b)))))
      | .rem => if b = 0 then none else some (.d (.v (.int k (a.tmod b))))
      | .and => some (.d (.v (.int k (k.wrap (BitVec.ofInt k.bits a &&& BitVec.ofInt k.bits b).toNat))))
      | .or => some (.d (.v (.int k (k.wrap (BitVec.ofInt k.bits a ||| BitVec.ofInt k.bits b).toNat))))
      | .xor => some (.d (.v (.int k (k.wrap (BitVec.ofInt k.bits a ^^^ BitVec.ofInt k.bits b).toNat))))
      | .andNot => some (.d (.v (.int k (k.wrap (BitVec.ofInt k.bits a &&& ~~~ BitVec.ofInt k.bits b).toNat))))
      | .eql => some (.d (.v (.bool (a == b))))
      | .neq => some (.d (.v (.bool (a != b))))
      | .lss => some (.d (.v (.bool (decide (a < b)))))
      | .leq => some (.d (.v (.bool (decide (a ≤ b)))))
      | .gtr => some (.d (.v (.bool (decide (a > b)))))
      | .geq => some (.d (.v (.bool (decide (a ≥ b)))))
      | _ => none
      else none
  | .d (.v (.string a)), .d (.v (.string b)) =>
    match op with
    | .eql => some (.d (.v (.bool (decide (a = b)))))
    | .neq => some (.d (.v (.bool !(decide (a = b)))))
    | .add => if ((a.size + b.size : Nat) : Int) > IntKind.i64.max then none else some (.d (.v (.string (a ++ b))))
    | _ => none
  | _, _ => none
@[go_sem] def ptrsA (neg : Bool) (x y : AV) : Option AV :=
  match x, y with
  | .nilp, .nilp => some (.d (.v (.bool !neg)))
  | .ptr _ _, .nilp => some (.d (.v (.bool neg)))
  | .nilp, .ptr _ _ => some (.d (.v (.bool neg)))
  | .ip _, .nilp => some (.d (.v (.bool neg)))
  | _, _ => none
@[go_sem] def boolsA (op : BinOp) (x y : AV) : Option AV :=
  match x, y with
  | .d (.v (.bool a)), .d (.v (.bool b)) =>
    match op with
    | .eql => some (.d (.v (.bool (a == b))))
    | .neq => some (.d (.v (.bool !(a == b))))
    | _ => none
  | _, _ => none
@[go_sem] def unA (op : UnOp) (x : AV) : Option AV :=
  match op, x with
  | .not, .d (.v (.bool b)) => some (.d (.v (.bool !b)))
  | .neg, .d (.v (.int k n)) => some (.d (.v (.int k (k.wrap (0 - n)))))
  | _, _ => none
@[go_sem] def isStr : AV → Bool
  | .d (.v (.string _)) => true
  | _ => false
@[go_sem] def lenA : AV → Option Nat
  | .d (.v (.string s)) => some s.size
  | .d (.sl es) => some es.length
  | .esl => some 0
  | .gsl _ _ es => some es.length
  | .hsl _ _ n _ _ => some n
  | _ => none
@[go_sem] def faA (x : AV) (off : Nat) : Option AV :=
  match x with
  | .ptr b o => some (.ptr b (o + off))
  | .ip cs => some (.ip (cs.drop off))
  | _ => none
def iaA (x : AV) (i : Int) (sz : Nat) : Option AV :=
  match x with
  | .d (.sl es) => if 0 ≤ i ∧ i < es.length ∧ (es.getD i.toNat []).length = sz then some (.ip (es.getD i.toNat [])) else none
  | .gsl _ sz' es => if 0 ≤ i ∧ i < es.length ∧ sz' = sz then some (.ip (es.getD i.toNat [])) else none
  | .hsl b off n _ sz' => if 0 ≤ i ∧ i < n ∧ sz' = sz then some (.ptr b (off + i.toNat * sz)) else none
  | _ => none
@[go_sem] def bnd (s : List AV) (d : Nat) : Option Opd → Option Int
  | none => some d
  | some x => match get s x with
    | .d (.v (.int _ n)) => some n
    | _ => none
@[go_sem] def slA (x : AV) (lo hi : Int) (sz : Nat) : Option AV :=
  match x with
  | .d (.v (.string s)) => if 0 ≤ lo ∧ lo ≤ hi ∧ hi ≤ s.size then some (.d (.v (.string (s.extract lo.toNat hi.toNat)))) else none
  | .d (.sl es) => if 0 ≤ lo ∧ lo ≤ hi ∧ hi ≤ es.length ∧ es.all (fun e => e.length == sz) = true then some (.d (.sl ((es.drop lo.toNat).take (hi.toNat - lo.toNat)))) else none
  | .gsl _ sz' es => if 0 ≤ lo ∧ lo ≤ hi ∧ hi ≤ es.length ∧ sz' = sz then some (.d (.sl ((es.drop lo.toNat).take (hi.toNat - lo.toNat)))) else none
  | .esl => if lo = 0 ∧ hi = 0 then some .esl else none
  | .hsl b off _ cap sz' => if 0 ≤ lo ∧ lo ≤ hi ∧ hi ≤ cap ∧ sz' = sz then (if lo = cap then some (.d (.sl [])) else some (.hsl b (off + lo.toNat * sz) (hi.toNat - lo.toNat) (cap - lo.toNat) sz)) else none
  | _ => none
@[go_sem] def wanted (s : List AV) : Option (Nat × Bool) → Option Bool
  | none => some true
  | some (g, b) => match s.getD g .any with
    | .d (.v (.bool t)) => some (t == b)
    | .tup [] => some false
    | _ => none

@[go_sem] def ints (s : List AV) : List Opd → Option (List (IntKind × Int))
  | [] => some []
  | x :: xs => match get s x, ints s xs with
    | .d (.v (.int k n)), some r => some ((k, n) :: r)
    | _, _ => none

/-- Elements, for an append or a copy: each a list of cells. -/
def elemsA (H : List ABlk) (sz : Nat) : AV → Option (List (List AV))
  | .d (.sl es) => if es.all (fun e => e.length == sz) then some (es.map (·.map .d)) else none
  | .gsl _ sz' es => if sz' = sz then some (es.map (·.map .d)) else none
  | .esl => some []
  | .hsl b off n _ sz' => match H[b]? with
    | some (.cells cs) => if off + n * sz ≤ cs.length ∧ sz' = sz then some ((List.range n).map fun i => (cs.drop (off + i * sz)).take sz) else none
    | _ => none
  | .d (.v (.string s)) => if sz = 1 then some (s.data.toList.map fun b => [AV.d (.v (.int .u8 b.toNat))]) else none
  | _ => none
@[go_sem] def datss : List (List AV) → Option (List (List Dat))
  | [] => some []
  | x :: xs => match toDats x, datss xs with
    | some d, some ds => some (d :: ds)
    | _, _ => none

def keyOf1 : AV → Option Value
  | .d (.v x) => if plainV x then some x else none
  | _ => none
def keysOf : List AV → Option (List Value)
  | [] => some []
  | x :: xs => match keyOf1 x, keysOf xs with
    | some v, some vs => some (v :: vs)
    | _, _ => none
def keyOf : AV → Option Value
  | .d (.v x) => if plainV x then some x else none
  | .agg cs => match keysOf cs with
    | some l => some (.agg l.toArray)
    | none => none
  | _ => none
def keq1 : Value → Value → Bool
  | .bool a, .bool b => a == b
  | .int k a, .int k' b => k == k' && a == b
  | .string a, .string b => decide (a = b)
  | _, _ => false
def keqL : List Value → List Value → Bool
  | [], [] => true
  | a :: as, b :: bs => keq1 a b && keqL as bs
  | _, _ => false
def keq : Value → Value → Bool
  | .agg a, .agg b => keqL a.toList b.toList
  | a, b => keq1 a b
def mapGet : List (Value × AV × Nat) → Value → Option (AV × Nat)
  | [], _ => none
  | e :: r, k => if keq e.1 k then some e.2 else mapGet r k
def mapSet : List (Value × AV × Nat) → Value → AV → List (Value × AV × Nat)
  | [], _, _ => []
  | e :: r, k, v => if keq e.1 k then (e.1, v, e.2.2) :: r else e :: mapSet r k v
def mapDel : List (Value × AV × Nat) → Value → List (Value × AV × Nat)
  | [], _ => []
  | e :: r, k => if keq e.1 k then r else e :: mapDel r k
/-- m[k] = v -/
def mapPut (ck : Nat) (es : List (Value × AV × Nat)) (k : Value) (v : AV) : Nat × List (Value × AV × Nat) :=
  match mapGet es k with
  | some _ => (ck, mapSet es k v)
  | none => (ck + 1, es ++ [(k, v, ck)])
def mapSt : List (Value × AV × Nat) → Int → AV → Option (List (Value × AV × Nat))
  | [], _, _ => none
  | e :: r, t, v => if (e.2.2 : Int) == t then some ((e.1, v, e.2.2) :: r) else match mapSt r t v with
    | some r' => some (e :: r')
    | none => none
def mapOf (H : List ABlk) (kt : KT) : AV → Option (List (Value × AV × Nat))
  | .mnil => some []
  | .mp b => match H[b]? with
    | some (.map kt' _ es) => if kt' = kt then some es else none
    | _ => none
  | _ => none
def bytesOf : List (List AV) → Option (List UInt8)
  | [] => some []
  | [.d (.v (.int .u8 n))] :: r => match bytesOf r with
    | some l => some (UInt8.ofNat n.toNat :: l)
    | none => none
  | _ => none
/-- The first place of a byte. -/
def idxB : List UInt8 → UInt8 → Int
  | [], _ => -1
  | b :: l, c => if b == c then 0 else if idxB l c == -1 then -1 else idxB l c + 1

/-- Is it nil? -/
@[go_sem] def nilI (neg : Bool) : AV → Option AV
  | .d (.v .nilIface) => some (.d (.v (.bool (!neg))))
  | _ => none
def nilA (mp neg : Bool) (x : AV) : Option AV :=
  if mp then match x with
    | .mnil => some (.d (.v (.bool !neg)))
    | .mp _ => some (.d (.v (.bool neg)))
    | _ => none
  else match x with
    | .esl => some .ub
    | .d (.sl []) => some .ub
    | .d (.sl (_ :: _)) => some (.d (.v (.bool neg)))
    | .gsl _ _ [] => some .ub
    | .gsl _ _ (_ :: _) => some (.d (.v (.bool neg)))
    | .hsl _ _ 0 _ _ => some .ub
    | .hsl _ _ (_ + 1) _ _ => some (.d (.v (.bool neg)))
    | _ => none
/-- An append of what is no data. -/
def appH (md : Md) (sz bytes : Nat) (a : AV) (xs : List (List AV)) (H : List ABlk) : Option (AV × List ABlk) :=
  match md, a with
  | .hp, .esl => if xs.length * bytes ≤ 140737488355328 ∧ xs.length ≤ maxLen ∧ xs.flatten.all one = true then some (.hsl H.length 0 xs.length xs.length sz, H ++ [.cells xs.flatten]) else none
  | .hp, .hsl b 0 n _ sz' => match H[b]? with
    | some (.cells cs) => if sz' = sz ∧ n * sz ≤ cs.length ∧ (n + xs.length) * bytes ≤ 140737488355328 ∧ n + xs.length ≤ maxLen ∧ xs.flatten.all one = true then
        some (.hsl H.length 0 (n + xs.length) (n + xs.length) sz, H.set b .dead ++ [.cells (cs.take (n * sz) ++ xs.flatten)])
      else none
    | _ => none
  | _, _ => none
/-- THE EVALUATOR of everything that is no call. -/
@[go_sem] def evK (k : K) (s : List AV) (H : List ABlk) : Option (AV × List ABlk) :=
  match k with
  | .mv x => some (get s x, H)
  | .mvg e sz x => match get s x with
    | .esl => some (.gsl H.length sz [], H ++ [.row e sz 0])
    | .gsl b z es => some (.gsl b z es, H)
    | _ => none
  | .pick c a b => match get s c with
    | .d (.v (.bool t)) => some (bif t then get s a else get s b, H)
    | _ => none
  | .al z => some (.ptr H.length 0, H ++ [.cells z])
  | .alb t => some (.ptr H.length 0, H ++ [.bld t])
  | .bx x => if shown (get s x) then some (.ptr H.length 0, H ++ [.cells (cellsAV (get s x))]) else none
  | .bd z ps => match fillA z (ps.map fun p => (p.1, p.2.1, get s p.2.2)) with
    | some cs => some (.agg cs, H)
    | none => none
  | .bs md e sz ps =>
    if ps.all (fun p => shown (get s p) && (cellsAV (get s p)).length == sz) then
      match md with
      | .im => if ps.isEmpty then some (.esl, H) else match datss (ps.map fun p => cellsAV (get s p)) with
        | some es => some (.d (.sl es), H)
        | none => none
      | .hp => some (.hsl H.length 0 ps.length ps.length sz, H ++ [.cells (ps.map fun p => cellsAV (get s p)).flatten])
      | .gr => match datss (ps.map fun p => cellsAV (get s p)) with
        | some es => some (.gsl H.length sz es, H ++ [.row e sz es.length])
        | none => none
    else none
  | .ld x n ag => match loadA H (get s x) n with
    | some cs => match outA ag cs with
      | some v => some (v, H)
      | none => none
    | none => none
  | .st x v n => if shown (get s v) && (cellsAV (get s v)).length == n then
      match storeA H (get s x) (cellsAV (get s v)) with
      | some H' => some (.tup [], H')
      | none => none
    else none
  | .nc x => match get s x with
    | .ptr b o => some (.ptr b o, H)
    | .ip cs => some (.ip cs, H)
    | .fn f cs => some (.fn f cs, H)
    | _ => none
  | .bin op x y => match binA op (get s x) (get s y) with
    | some v => some (v, H)
    | none => none
  | .eqs neg x y => match boolsA (if neg then .neq else .eql) (get s x) (get s y) with
    | some v => some (v, H)
    | none => none
  | .eqp neg x y => match ptrsA neg (get s x) (get s y) with
    | some v => some (v, H)
    | none => none
  | .un op x => match unA op (get s x) with
    | some v => some (v, H)
    | none => none
  | .cvi k x => match get s x with
    | .d (.v (.int _ n)) => some (.d (.v (.int k (k.wrap n))), H)
    | _ => none
  | .fa x off => match faA (get s x) off with
    | some v => some (v, H)
    | none => none
  | .fld x off n ag => match get s x with
    | .agg cs => if off + n ≤ cs.length then match outA ag ((cs.drop off).take n) with
        | some v => some (v, H)
        | none => none
      else none
    | _ => none
  | .ia x i sz => match get s i with
    | .d (.v (.int _ n)) => match iaA (get s x) n sz with
      | some v => some (v, H)
      | none => none
    | _ => none
  | .iar x i n sz => match get s i with
    | .d (.v (.int _ j)) => if 0 ≤ j ∧ j < n then match faA (get s x) (j.toNat * sz) with
        | some v => some (v, H)
        | none => none
      else none
    | _ => none
  | .ix x i => match get s x, get s i with
    | .d (.v (.string b)), .d (.v (.int _ j)) => if 0 ≤ j ∧ j < b.size then some (.d (.v (.int .u8 ((b.data.toList.getD j.toNat 0).toNat))), H) else none
    | _, _ => none
  | .ixv x i n => match get s x, get s i with
    | .agg cs, .d (.v (.int _ j)) => if 0 ≤ j ∧ j < n ∧ n ≤ cs.length then some (cs.getD j.toNat .any, H) else none
    | _, _ => none
  | .sli str x lo hi sz => if isStr (get s x) = str then match lenA (get s x) with
    | some n => match bnd s 0 lo, bnd s n hi with
      | some l, some h => match slA (get s x) l h sz with
        | some v => some (v, H)
        | none => none
      | _, _ => none
    | none => none
    else none
  | .sla x lo hi n sz => match get s x with
    | .ptr b off => match H[b]?, bnd s 0 lo, bnd s n hi with
      | some (.cells cs), some l, some h => if off + n * sz ≤ cs.length ∧ n ≤ maxLen then match slA (.hsl b off n n sz) l h sz with
          | some v => some (v, H)
          | none => none
        else none
      | _, _, _ => none
    | _ => none
  | .slz x => match lenA (get s x) with
    | some _ => some (.esl, H)
    | none => none
  | .ext x i => match get s x with
    | .tup cs => match cs[i]? with
      | some v => some (v, H)
      | none => none
    | _ => none
  | .len str x => if isStr (get s x) = str then match lenA (get s x) with
    | some n => some (.d (.v (.int .i64 n)), H)
    | none => none
    else none
  | .mn xs => match ints s xs with
    | some ((k, n) :: r) => some (.d (.v (.int k (r.foldl (fun a b => if b.2 < a then b.2 else a) n))), H)
    | _ => none
  | .mx xs => match ints s xs with
    | some ((k, n) :: r) => some (.d (.v (.int k (r.foldl (fun a b => if b.2 > a then b.2 else a) n))), H)
    | _ => none
  | .mkf f caps => some (.fn f (caps.map (get s)), H)
  | .app md e sz bytes a x => match elemsA H sz (get s x) with
    | some xs => match datss xs with
      | some es =>
        match get s a with
        | .esl => if es.length * bytes ≤ 140737488355328 ∧ es.length ≤ maxLen then
            match md with
            | .im => some (.d (.sl es), H)
            | .hp => some (.hsl H.length 0 es.length es.length sz, H ++ [.cells xs.flatten])
            | .gr => some (.gsl H.length sz es, H ++ [.row e sz es.length])
          else none
        | .gsl b sz0 old => match H[b]? with
          | some (.row e' sz' n) => if n = old.length ∧ sz0 = sz ∧ sz' = sz ∧ e' = e ∧ (old.length + es.length) * bytes ≤ 140737488355328 ∧ old.length + es.length ≤ maxLen then
              some (.gsl b sz (old ++ es), H.set b (.row e sz (old.length + es.length))) else none
          | _ => none
        | .hsl b 0 n _ sz' => match H[b]? with
          | some (.cells cs) => if sz' = sz ∧ n * sz ≤ cs.length ∧ (n + es.length) * bytes ≤ 140737488355328 ∧ n + es.length ≤ maxLen then
              some (.hsl H.length 0 (n + es.length) (n + es.length) sz, H.set b .dead ++ [.cells (cs.take (n * sz) ++ xs.flatten)])
            else none
          | _ => none
        | _ => none
      | none => appH md sz bytes (get s a) xs H
    | none => none
  | .mks _ _ sz bytes z n c => match get s n, get s c with
    | .d (.v (.int _ l)), .d (.v (.int _ m)) => if 0 ≤ l ∧ l ≤ m ∧ m.toNat * bytes ≤ 140737488355328 ∧ m.toNat ≤ maxLen then
        some (.hsl H.length 0 l.toNat m.toNat sz, H ++ [.cells (List.replicate m.toNat z).flatten]) else none
    | _, _ => none
  | .cpy sz d x => match get s d with
    | .hsl b off n _ sz' => match H[b]?, elemsA H sz (get s x) with
      | some (.cells cs), some xs => match datss xs with
        | some es => if sz' = sz ∧ es.length ≤ n ∧ off + n * sz ≤ cs.length then
            some (.d (.v (.int .i64 es.length)), H.set b (.cells (splice cs off (es.flatten.map .d)))) else none
        | none => none
      | _, _ => none
    | _ => none
  | .mkm kt => some (.mp H.length, H ++ [.map kt 0 []])
  | .lk kt z m k ok => match keyOf (get s k) with
    | some kv => if keyFits kt kv = true then match mapOf H kt (get s m) with
        | some es => match mapGet es kv with
          | some e => some (if ok then .tup [e.1, .d (.v (.bool true))] else e.1, H)
          | none => some (if ok then .tup [z, .d (.v (.bool false))] else z, H)
        | none => none
      else none
    | none => none
  | .mu kt m k v => match get s m, keyOf (get s k) with
    | .mp b, some kv => if keyFits kt kv = true ∧ shown (get s v) = true then match H[b]? with
        | some (.map kt' ck es) => if kt' = kt then some (.tup [], H.set b (.map kt (mapPut ck es kv (get s v)).1 (mapPut ck es kv (get s v)).2)) else none
        | _ => none
      else none
    | _, _ => none
  | .me kt z m k => match get s m, keyOf (get s k) with
    | .mp b, some kv => if keyFits kt kv = true then match H[b]? with
        | some (.map kt' ck es) => if kt' = kt then match mapGet es kv with
            | some e => some (.tup [e.1, .d (.v (.int .i64 e.2))], H)
            | none => some (.tup [z, .d (.v (.int .i64 ck))], H.set b (.map kt (ck + 1) (es ++ [(kv, z, ck)])))
          else none
        | _ => none
      else none
    | _, _ => none
  | .mes m t v => match get s m, get s t with
    | .mp b, .d (.v (.int _ n)) => match H[b]? with
      | some (.map kt ck es) => if shown (get s v) = true then match mapSt es n (get s v) with
          | some es' => some (.tup [], H.set b (.map kt ck es'))
          | none => none
        else none
      | _ => none
    | _, _ => none
  | .del kt m k => match keyOf (get s k) with
    | some kv => if keyFits kt kv = true then match get s m with
        | .mnil => some (.tup [], H)
        | .mp b => match H[b]? with
          | some (.map kt' ck es) => if kt' = kt then some (.tup [], H.set b (.map kt ck (mapDel es kv))) else none
          | _ => none
        | _ => none
      else none
    | none => none
  | .s2b _ _ x => match get s x with
    | .d (.v (.string b)) => if b.size ≤ maxLen then some (.d (.sl (b.data.toList.map fun c => [.v (.int .u8 c.toNat)])), H) else none
    | _ => none
  | .b2s x => if isStr (get s x) = false then match elemsA H 1 (get s x) with
      | some xs => match bytesOf xs with
        | some l => some (.d (.v (.string ⟨l.toArray⟩)), H)
        | none => none
      | none => none
    else none
  | .ixb _ x c => match get s x, get s c with
    | .d (.v (.string b)), .d (.v (.int .u8 n)) => some (.d (.v (.int .i64 (idxB b.data.toList (UInt8.ofNat n.toNat)))), H)
    | _, _ => none
  | .eqg kt neg x y => match keyOf (get s x), keyOf (get s y) with
    | some a, some b => if keyFits kt a = true ∧ keyFits kt b = true then some (.d (.v (.bool (if neg then !(keq a b) else keq a b))), H) else none
    | _, _ => none
  | .isn mp neg x => match nilA mp neg (get s x) with
    | some v => some (v, H)
    | none => none
  | .eqi neg x => match nilI neg (get s x) with
    | some v => some (v, H)
    | none => none
  | _ => none

def ACalls (P : Program) (f : FuncId) (args : List AV) (H : List ABlk) (R : AV → List ABlk → Prop) : Prop :=
  ∀ (σ : Sg) (w : World) (vs : List Value), HR σ H w → VRs σ args vs →
    Calls P f vs.toArray w fun e w' => ∃ σ' H' v u, e = .returned u ∧ Ext σ H w σ' H' w' ∧ HR σ' H' w' ∧ VR σ' v u ∧ R v H'

def callOk (P : Program) (f : FuncId) : Bool := match P.funcs[f]? with
  | some fn => fn.body.isSome && !(fn.name == "runtime.NumGoroutine")
  | none => false

def wpIns (P : Program) : List Ins → List AV → List ABlk → (List AV → List ABlk → Prop) → Prop
  | [], s, H, Kk => Kk s H
  | i :: r, s, H, Kk =>
    match wanted s i.g with
    | some true =>
      match i.k with
      | .call f args => ACalls P f (args.map (get s)) H fun v H' => wpIns P r (setO s i.dst v) H' Kk
      | .callv g args => match get s g with
        | .fn f caps => callOk P f = true ∧ ACalls P f (args.map (get s) ++ caps) H fun v H' => wpIns P r (setO s i.dst v) H' Kk
        | _ => False
      | k => match evK k s H with
        | some (v, H') => wpIns P r (setO s i.dst v) H' Kk
        | none => False
    | some false => wpIns P r (setO s i.dst (.tup [])) H Kk
    | none => False

abbrev APost := Exit → List AV → List ABlk → Prop
def APost.then (n : List AV → List ABlk → Prop) (Q : APost) : APost
  | .normal, s, H => n s H
  | e, s, H => Q e s H
def APost.inBlock (id : Nat) (Q : APost) : APost
  | .exit id', s, H => if id' = id then Q .normal s H else Q (.exit id') s H
  | e, s, H => Q e s H

end Go.Proofs.YtmgmoamcbnkbfaaGreatDoor
