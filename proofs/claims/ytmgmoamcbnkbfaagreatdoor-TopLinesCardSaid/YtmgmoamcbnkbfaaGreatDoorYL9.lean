/-
  One's own library, part 12: arguments that are data, read as abstract values.
-/
import Derived.Test.YtmgmoamcbnkbfaaGreatDoorYTop
import Derived.Deep.Slices
import Derived.SizedLaws
import Derived.Test.YtmgmoamcbnkbfaaGreatDoorRows
import Derived.LaidMore
import Derived.LaidSub
import Derived.LaidOnce
import Derived.Deep.DeepWitnessRowRef
import Derived.Lib.LaidU8
import Derived.Shelf.Vars
set_option linter.unusedVariables false
set_option linter.unusedSimpArgs false
set_option linter.unusedSectionVars false
namespace Go.Proofs.YtmgmoamcbnkbfaaGreatDoor
set_option linter.unusedSimpArgs false
set_option linter.unusedVariables false
open Go.ChangeShapes Go.WideShapes Go.ChangeAt Go.RowKit

/-- The data of a type. -/
inductive TyD (P : Program) : TypeId → List Dat → Prop
  | bool {t : TypeId} {b : Bool} : P.underlying t = some .bool → TyD P t [.v (.bool b)]
  | int {t : TypeId} {k : IntKind} {n : Int} : P.underlying t = some (.int k) → (Lit.int k n).wf = true → TyD P t [.v (.int k n)]
  | str {t : TypeId} {s : ByteArray} : P.underlying t = some .string → s.size ≤ 140737488355328 → TyD P t [.v (.string s)]
  | sl {t e : TypeId} {es : List (List Dat)} : P.underlying t = some (.slice e) → es.length ≤ maxLen ∧ es.length * P.bytesOf e ≤ 140737488355328 → (∀ c, c ∈ es → TyD P e c) → TyD P t [.sl es]
  | st {t : TypeId} {fs : Array Field} {parts : List (List Dat)} : P.underlying t = some (.struct fs) → parts.length = fs.size →
      (∀ (i : Nat) (f : Field) (c : List Dat), fs[i]? = some f → parts[i]? = some c → TyD P f.type c) → TyD P t parts.flatten

def laidFrom (P : Program) : Nat → List Field → Nat → Bool
  | o, [], n => o == n
  | o, f :: fs, n => f.offset == o && laidFrom P (o + P.cellsOf f.type) fs n
def dataB (P : Program) (L : List TypeId) : Bool := L.all fun t =>
  match P.underlying t with
  | some .bool | some (.int _) | some .string => true
  | some (.slice e) => L.contains e
  | some (.struct fs) => laidFrom P 0 fs.toList (P.cellsOf t) && fs.toList.all fun f => L.contains f.type
  | _ => false

theorem parts_of {P : Program} {M : Mem} {cs : List Value} : ∀ (fs : List Field) (o : Nat), laidFrom P o fs cs.length = true → o ≤ cs.length →
    (∀ f ∈ fs, ∃ ds, VDs M ds ((cs.drop f.offset).take (P.cellsOf f.type)) ∧ TyD P f.type ds ∧ ds.length = P.cellsOf f.type) →
    ∃ parts : List (List Dat), parts.length = fs.length ∧ (∀ (i : Nat) (f : Field) (c : List Dat), fs[i]? = some f → parts[i]? = some c → TyD P f.type c) ∧ VDs M parts.flatten (cs.drop o)
  | [], o, hl, ho, _ => by
    have : o = cs.length := by simpa [laidFrom] using hl
    exact ⟨[], rfl, fun i f c h => by simp at h, by simp [this, VDs]⟩
  | f :: fs, o, hl, ho, h => by
    simp only [laidFrom, Bool.and_eq_true, beq_iff_eq] at hl
    obtain ⟨ds, h1, h2, h3⟩ := h f List.mem_cons_self
    rw [hl.1] at h1
    have h1' : ds.length = ((cs.drop o).take (P.cellsOf f.type)).length := h1.1
    have hle : o + P.cellsOf f.type ≤ cs.length := by
      rw [h3, List.length_take, List.length_drop] at h1'
      omega
    obtain ⟨parts, g1, g2, g3⟩ := parts_of fs (o + P.cellsOf f.type) hl.2 hle fun f' hf' => h f' (List.mem_cons_of_mem _ hf')
    refine ⟨ds :: parts, by simp [g1], fun i f' c hf hc => ?_, ?_⟩
    · match i with
      | 0 => simp at hf hc; subst hf; subst hc; exact h2
      | i + 1 => simp at hf hc; exact g2 i f' c hf hc
    · have := h1.append g3
      rw [← List.drop_drop, List.take_append_drop] at this
      exact this

section
variable {H : Type} {enc : TypeId × Value → H} {P : Program} {w : World} {base : Nat} {spare : Nat → Bool} {held : Bool}
theorem weightsAll_mem {e : TypeId} : ∀ {ds : List (DataW H)} {d : DataW H}, d ∈ ds → ∀ n ∈ d.weights P e, n ∈ DataW.weightsAll P e ds
  | d0 :: ds, d, hd, n, hn => by
    simp only [DataW.weightsAll, List.mem_append]
    rcases List.mem_cons.1 hd with rfl | hd
    · exact .inl hn
    · exact .inr (weightsAll_mem hd n hn)
theorem read_ty {L : List TypeId} (hL : dataB P L = true) (N : Nat) : ∀ (fuel : Nat) (t : TypeId) (cs : List Value) (x : DataW H × List MemPlace), fuel < N → t ∈ L → DataW.trod enc P w base spare held fuel t cs = some x → (∀ n ∈ x.1.weights P t, n ≤ reachBytes) → ∃ ds, VDs w.cell? ds cs ∧ TyD P t ds := by
  induction N with
  | zero => intro f t cs x h; omega
  | succ N ih =>
  intro fuel t cs x hN ht h hwt
  have hrb : reachBytes ≤ 140737488355328 := by decide
  have hB := List.all_eq_true.1 hL t ht
  have one : ∀ (d : Dat) (v : Value), VD w.cell? d v → VDs w.cell? [d] [v] := fun d v hv => ⟨rfl, fun i d' u hd hu => by
    match i with
    | 0 => simp at hd hu; subst hd; subst hu; exact hv
    | i + 1 => simp at hd⟩
  split at hB
  · rename_i hu
    obtain ⟨b, rfl, _⟩ := DataW.trod_bool hu h
    exact ⟨_, one _ _ (.v rfl), .bool hu⟩
  · rename_i k hu
    obtain ⟨n, rfl, _, hw⟩ := DataW.trod_int hu h
    exact ⟨_, one _ _ (.v rfl), .int hu hw⟩
  · rename_i hu
    obtain ⟨s, rfl, rfl, hs⟩ := DataW.trod_string hu h
    have hz := hwt s.size (by simp [DataW.weights])
    exact ⟨_, one _ _ (.v rfl), .str hu (Nat.le_trans hz hrb)⟩
  · rename_i e hu
    have he : e ∈ L := by simpa using hB
    rcases DataW.trod_slice hu h with hnil | ⟨a, len, cap, elems, rest, n', hn', hcs, hxx, hb, hle, hmx, hlen, hel, hsp, hns⟩
    · obtain ⟨rfl, _⟩ := hnil
      exact ⟨_, one _ _ .nil, .sl hu ⟨Nat.zero_le _, by simp⟩ (fun c hc => by simp at hc)⟩
    · subst hcs
      subst hxx
      have hszz : elems.length * P.bytesOf e ≤ 140737488355328 := by
        have h1 := hwt ((elems.length + rest.length) * P.bytesOf e) (by simp only [DataW.weights, hu, List.length_map]; exact List.mem_cons_self)
        exact Nat.le_trans (Nat.mul_le_mul_right _ (Nat.le_add_right _ _)) (Nat.le_trans h1 hrb)
      have hel2 : ∀ y ∈ elems, ∀ n ∈ y.1.weights P e, n ≤ reachBytes := fun y hy n hn => hwt n (by
        simp only [DataW.weights, hu]
        exact List.mem_cons_of_mem _ (List.mem_append_left _ (weightsAll_mem (List.mem_map_of_mem hy) n hn)))
      have key : ∀ i, ∃ ec : List Dat × List Value, i < len → (VDs w.cell? ec.1 ec.2 ∧ TyD P e ec.1 ∧ ec.2.length = P.cellsOf e ∧ ∀ (j : Nat) (v : Value), ec.2[j]? = some v → w.cell? (a.add (i * P.cellsOf e + j)) = some v) := by
        intro i
        by_cases hi : i < len
        · have h1 := hel i hi
          rw [List.getElem?_eq_getElem (show i < elems.length by omega)] at h1
          obtain ⟨cs', hc', ht'⟩ := Option.bind_eq_some_iff.1 h1
          obtain ⟨ds, hv, ho⟩ := ih n' e cs' _ (by omega) he ht' (hel2 _ (List.getElem_mem _))
          obtain ⟨_, hcl, hat⟩ := World.cells?_some hc'
          refine ⟨(ds, cs'), fun _ => ⟨hv, ho, hcl, fun j v hj => ?_⟩⟩
          have hj6 : j < P.cellsOf e := by have h6 : j < cs'.length := (List.getElem?_eq_some_iff.1 hj).1; omega
          rw [← Go.Deep.add_add, hat j hj6]
          exact hj
        · exact ⟨([], []), fun h => absurd h hi⟩
      obtain ⟨F, hF⟩ := Classical.axiomOfChoice key
      have hget : ∀ (i : Nat) (c : List Dat), ((List.range len).map fun i => (F i).1)[i]? = some c → i < len ∧ c = (F i).1 := by
        intro i c hc
        rw [List.getElem?_map] at hc
        by_cases hi : i < len
        · rw [List.getElem?_range hi] at hc
          simp at hc
          exact ⟨hi, hc.symm⟩
        · rw [List.getElem?_eq_none (by simp; omega)] at hc; simp at hc
      refine ⟨[.sl ((List.range len).map fun i => (F i).1)], one _ _ ?_, .sl hu ⟨by simp; omega, by rw [List.length_map, List.length_range, ← hlen]; exact hszz⟩ fun c hc => ?_⟩
      · rcases Nat.eq_zero_or_pos len with h0 | hpos
        · subst h0; exact .nil
        · have := VD.sl (M := w.cell?) (es := (List.range len).map fun i => (F i).1) (a := a) (cap := cap) (sz := P.cellsOf e) (fun i j => (F i).2.getD j undef) (by intro hc; have := congrArg List.length hc; simp at this; omega) (by simp; omega) hmx ?_ ?_ ?_
          · rw [List.length_map, List.length_range] at this; exact this
          · intro c hc
            obtain ⟨i, hi, rfl⟩ := List.mem_map.1 hc
            have := hF i (List.mem_range.1 hi)
            rw [this.1.1, this.2.2.1]
          · intro i c j d hc hd
            obtain ⟨hi, rfl⟩ := hget i c hc
            have hj : j < (F i).2.length := by rw [← (hF i hi).1.1]; exact (List.getElem?_eq_some_iff.1 hd).1
            rw [show (F i).2.getD j undef = (F i).2[j] by simp [hj]]
            exact (hF i hi).2.2.2 j _ (List.getElem?_eq_getElem hj)
          · intro i c j d hc hd
            obtain ⟨hi, rfl⟩ := hget i c hc
            have hj : j < (F i).2.length := by rw [← (hF i hi).1.1]; exact (List.getElem?_eq_some_iff.1 hd).1
            rw [show (F i).2.getD j undef = (F i).2[j] by simp [hj]]
            exact (hF i hi).1.2 j d _ hd (List.getElem?_eq_getElem hj)
      · obtain ⟨i, hi, rfl⟩ := List.mem_map.1 hc
        exact (hF i (List.mem_range.1 hi)).2.1
  · rename_i fs hu
    simp only [Bool.and_eq_true, List.all_eq_true] at hB
    obtain ⟨xs, n, hn, hxe, hl, hxl, hf⟩ := DataW.trod_struct hu h
    rw [← hl] at hB
    have hlaid : ∀ (o : Nat) (gs : List Field), laidFrom P o gs cs.length = true → ∀ f ∈ gs, f.offset + P.cellsOf f.type ≤ cs.length := by
      intro o gs
      induction gs generalizing o with
      | nil => intro _ f hf; simp at hf
      | cons g gs ihg =>
        intro hl f hf
        simp only [laidFrom, Bool.and_eq_true, beq_iff_eq] at hl
        have mono : ∀ (gs : List Field) (o : Nat), laidFrom P o gs cs.length = true → o ≤ cs.length := by
          intro gs
          induction gs with
          | nil => intro o h; simp [laidFrom] at h; omega
          | cons g gs ihm => intro o h; simp only [laidFrom, Bool.and_eq_true, beq_iff_eq] at h; have := ihm _ h.2; omega
        rcases List.mem_cons.1 hf with rfl | hf
        · have := mono _ _ hl.2; omega
        · exact ihg _ hl.2 f hf
    obtain ⟨parts, g1, g2, g3⟩ := parts_of (P := P) (M := w.cell?) (cs := cs) fs.toList 0 hB.1 (Nat.zero_le _) (fun f hf' => by
      obtain ⟨i, hi, rfl⟩ := List.getElem_of_mem hf'
      have hi' : i < fs.size := by simpa using hi
      have hfi : fs[i]? = some fs.toList[i] := by rw [Array.getElem?_eq_getElem hi']; simp
      have hx := hf i _ hfi
      rw [List.getElem?_eq_getElem (show i < xs.length by omega)] at hx
      obtain ⟨ds, hv, ho⟩ := ih n _ _ _ (by omega) (by simpa using hB.2 _ hf') hx (fun m hm => hwt m (by
        rw [hxe]
        simp only [DataW.weights, hu]
        exact DataW.weights_mem_each (j := i) (by rw [List.getElem?_map, List.getElem?_eq_getElem hi]; rfl) (by rw [List.getElem?_map, List.getElem?_eq_getElem (show i < xs.length by omega)]; rfl) m hm))
      have hle := hlaid 0 _ hB.1 _ hf'
      exact ⟨ds, hv, ho, by rw [hv.1, List.length_take, List.length_drop]; omega⟩)
    exact ⟨parts.flatten, by simpa using g3, .st hu (by simpa using g1) (fun i f c hfi hc => g2 i f c (by simpa using hfi) hc)⟩
  · cases hB

/-- An argument of a type of data. -/
def ArgD (P : Program) (t : TypeId) (a : AV) : Prop :=
  ∃ ds, TyD P t ds ∧ (((∃ fs, P.underlying t = some (.struct fs)) ∧ a = .agg (ds.map .d)) ∨ (∀ fs, P.underlying t ≠ some (.struct fs)) ∧ ∃ x, ds = [x] ∧ a = .d x)
theorem read_val {L : List TypeId} (hL : dataB P L = true) {r : Go.Reach} {b0 : Nat} {t : TypeId} {v : Value} {d : DataW H} {p : List MemPlace} (ht : t ∈ L) (hv : Value.okWide P w r b0 t v) (h : DataW.Trod enc P w base spare held t v d p) (hwt : ∀ n ∈ d.weights P t, n ≤ reachBytes) :
    ∃ a, ArgD P t a ∧ VR ⟨w.cell?, fun _ _ => none⟩ a v := by
  obtain ⟨fuel, hf⟩ := h
  obtain ⟨ds, h1, h2⟩ := read_ty hL _ fuel t _ _ (Nat.lt_succ_self _) ht hf hwt
  have hB := List.all_eq_true.1 hL t ht
  have fin : ∀ x, (∀ fs, P.underlying t ≠ some (.struct fs)) → ds = [x] → v.cells.toList = [v] → ∃ a, ArgD P t a ∧ VR ⟨w.cell?, fun _ _ => none⟩ a v := fun x hn hx hc =>
    ⟨.d x, ⟨ds, h2, .inr ⟨hn, x, hx, rfl⟩⟩, .d (h1.2 0 x v (by rw [hx]; rfl) (by rw [hc]; rfl))⟩
  cases h2 with
  | bool hu => obtain ⟨b, rfl⟩ := okWide_bool hu hv; exact fin _ (fun fs hc => by rw [hu] at hc; cases hc) rfl rfl
  | int hu hw => obtain ⟨b, rfl⟩ := okWide_int hu hv; exact fin _ (fun fs hc => by rw [hu] at hc; cases hc) rfl rfl
  | str hu hw => obtain ⟨b, rfl⟩ := okWide_string hu hv; exact fin _ (fun fs hc => by rw [hu] at hc; cases hc) rfl rfl
  | sl hu hw hc => obtain ⟨b, _, _, rfl⟩ := okWide_slice hu hv; exact fin _ (fun fs hc => by rw [hu] at hc; cases hc) rfl rfl
  | st hu hl hp =>
    rename_i fs parts
    obtain ⟨cs, rfl, _⟩ := okWide_struct hu hv
    refine ⟨.agg (parts.flatten.map .d), ⟨_, .st hu hl hp, .inl ⟨⟨_, hu⟩, rfl⟩⟩, ?_⟩
    have h1' : VDs w.cell? parts.flatten cs.toList := h1
    have := VR.agg (σ := ⟨w.cell?, fun _ _ => none⟩) (cs := parts.flatten.map .d) (us := cs.toList) (by rw [List.length_map]; exact h1'.1) (fun i c u hc hu => by
      rw [List.getElem?_map] at hc
      cases hd : parts.flatten[i]? with
      | none => rw [hd] at hc; simp at hc
      | some d => rw [hd] at hc; simp at hc; subst hc; exact .d (h1'.2 i d u hd hu))
    rw [show cs.toList.toArray = cs by simp] at this
    exact this
end

section
variable {P : Program} {t : TypeId}
theorem TyD.int_inv {k : IntKind} {ds : List Dat} (ht : P.underlying t = some (.int k)) (h : TyD P t ds) : ∃ n, ds = [.v (.int k n)] ∧ (Lit.int k n).wf = true := by
  cases h <;> simp_all
theorem TyD.bool_inv {ds : List Dat} (ht : P.underlying t = some .bool) (h : TyD P t ds) : ∃ b, ds = [.v (.bool b)] := by
  cases h <;> simp_all
theorem TyD.str_inv {ds : List Dat} (ht : P.underlying t = some .string) (h : TyD P t ds) : ∃ s, ds = [.v (.string s)] ∧ s.size ≤ 140737488355328 := by
  cases h <;> simp_all
theorem TyD.sl_inv {e : TypeId} {ds : List Dat} (ht : P.underlying t = some (.slice e)) (h : TyD P t ds) : ∃ es, ds = [.sl es] ∧ (es.length ≤ maxLen ∧ es.length * P.bytesOf e ≤ 140737488355328) ∧ ∀ c, c ∈ es → TyD P e c := by
  cases h <;> simp_all
theorem TyD.st_inv {fs : Array Field} {ds : List Dat} (ht : P.underlying t = some (.struct fs)) (h : TyD P t ds) :
    ∃ parts : List (List Dat), ds = parts.flatten ∧ parts.length = fs.size ∧ ∀ (i : Nat) (f : Field) (c : List Dat), fs[i]? = some f → parts[i]? = some c → TyD P f.type c := by
  cases h with
  | st hu hl hp => rw [ht] at hu; cases hu; exact ⟨_, rfl, hl, hp⟩
  | bool hu => rw [ht] at hu; cases hu
  | int hu => rw [ht] at hu; cases hu
  | str hu => rw [ht] at hu; cases hu
  | sl hu => rw [ht] at hu; cases hu
theorem ArgD.one {a : AV} (h : ArgD P t a) (hn : ∀ fs, P.underlying t ≠ some (.struct fs)) : ∃ x, a = .d x ∧ TyD P t [x] := by
  obtain ⟨ds, h1, ⟨⟨fs, hf⟩, _⟩ | ⟨_, x, rfl, rfl⟩⟩ := h
  · exact absurd hf (hn fs)
  · exact ⟨x, rfl, h1⟩
theorem ArgD.int {k : IntKind} {a : AV} (h : ArgD P t a) (ht : P.underlying t = some (.int k)) : ∃ n, a = .d (.v (.int k n)) ∧ (Lit.int k n).wf = true := by
  obtain ⟨x, rfl, hx⟩ := h.one (fun fs hc => by rw [ht] at hc; cases hc)
  obtain ⟨n, e, hn⟩ := hx.int_inv ht
  cases e
  exact ⟨n, rfl, hn⟩
theorem ArgD.bool {a : AV} (h : ArgD P t a) (ht : P.underlying t = some .bool) : ∃ b, a = .d (.v (.bool b)) := by
  obtain ⟨x, rfl, hx⟩ := h.one (fun fs hc => by rw [ht] at hc; cases hc)
  obtain ⟨n, e⟩ := hx.bool_inv ht
  cases e
  exact ⟨n, rfl⟩
theorem ArgD.str {a : AV} (h : ArgD P t a) (ht : P.underlying t = some .string) : ∃ s, a = .d (.v (.string s)) ∧ s.size ≤ 140737488355328 := by
  obtain ⟨x, rfl, hx⟩ := h.one (fun fs hc => by rw [ht] at hc; cases hc)
  obtain ⟨n, e, hn⟩ := hx.str_inv ht
  cases e
  exact ⟨n, rfl, hn⟩
theorem ArgD.sl {e : TypeId} {a : AV} (h : ArgD P t a) (ht : P.underlying t = some (.slice e)) : ∃ es, a = .d (.sl es) ∧ (es.length ≤ maxLen ∧ es.length * P.bytesOf e ≤ 140737488355328) ∧ ∀ c, c ∈ es → TyD P e c := by
  obtain ⟨x, rfl, hx⟩ := h.one (fun fs hc => by rw [ht] at hc; cases hc)
  obtain ⟨n, e, hn⟩ := hx.sl_inv ht
  cases e
  exact ⟨n, rfl, hn⟩
theorem ArgD.st {fs : Array Field} {a : AV} (h : ArgD P t a) (ht : P.underlying t = some (.struct fs)) : ∃ ds, a = .agg (ds.map .d) ∧ TyD P t ds := by
  obtain ⟨ds, h1, ⟨_, rfl⟩ | ⟨hn, _⟩⟩ := h
  · exact ⟨ds, rfl, h1⟩
  · exact absurd ht (hn fs)
theorem wf_u32 {n : Int} (h : (Lit.int .u32 n).wf = true) : 0 ≤ n ∧ n < 4294967296 := by
  simp only [Lit.wf, show IntKind.min .u32 = 0 from rfl, show IntKind.max .u32 = 4294967295 from rfl, Bool.and_eq_true, decide_eq_true_eq] at h
  omega
theorem wf_u16 {n : Int} (h : (Lit.int .u16 n).wf = true) : 0 ≤ n ∧ n < 65536 := by
  simp only [Lit.wf, show IntKind.min .u16 = 0 from rfl, show IntKind.max .u16 = 65535 from rfl, Bool.and_eq_true, decide_eq_true_eq] at h
  omega
theorem wf_u8 {n : Int} (h : (Lit.int .u8 n).wf = true) : 0 ≤ n ∧ n < 256 := by
  simp only [Lit.wf, show IntKind.min .u8 = 0 from rfl, show IntKind.max .u8 = 255 from rfl, Bool.and_eq_true, decide_eq_true_eq] at h
  omega
theorem wf_i64 {n : Int} (h : (Lit.int .i64 n).wf = true) : -9223372036854775808 ≤ n ∧ n < 9223372036854775808 := by
  simp only [Lit.wf, show IntKind.min .i64 = -9223372036854775808 from rfl, show IntKind.max .i64 = 9223372036854775807 from rfl, Bool.and_eq_true, decide_eq_true_eq] at h
  omega
end
end Go.Proofs.YtmgmoamcbnkbfaaGreatDoor

/- What the row lists, met. -/
namespace Go.Proofs.YtmgmoamcbnkbfaaGreatDoor
open Go.ChangeShapes Go.WideShapes Go.ChangeAt Go.RowKit
set_option maxRecDepth 100000

/-- A start in which the listed variables hold what is listed: the door's own, and the one table that the form knows by name. -/
noncomputable def laidW (os : Os) : World :=
  { World.doorLaid Tryz.prog 96 os with heap := ((World.doorLaid Tryz.prog 96 os).heap.toList.set 8 (.cells (Lib.firstTab.map fun z => Value.int .u8 z).toArray 107)).toArray }
noncomputable abbrev laidAt (os : Os) (args : Array Value) : World := ((laidW os).forCall (fun _ _ => 0) ⟨#[], args, []⟩).memory
theorem met1 (os : Os) (args : Array Value) : (DataW.laidRun Tryz.prog (laidAt os args) 8 (Rows.topLinesRow.laid.map (·.1))).map (fun x => (x.1, nodupBits 257 x.2 0 && laidRowsB Tryz.prog (laidAt os args) x.2)) = some (Rows.topLinesRow.laid, true) := by kernel_rfl
theorem door_met (os : Os) (args : Array Value) : laidMet Tryz.prog Rows.topLinesRow.laid (laidAt os args) := by
  have h := met1 os args
  rw [Option.map_eq_some_iff] at h
  obtain ⟨⟨l, ps⟩, hx, h2⟩ := h
  simp only [Prod.mk.injEq, Bool.and_eq_true] at h2
  obtain ⟨rfl, h3, h4⟩ := h2
  exact laidMet_of_run (ps := ps) 8 hx (decide_eq_true (nodupBits_sound h3).1) h4
theorem no_handle : (Rows.topLinesRow.laid.all fun x => x.2.handleName?.isNone) = true := by kernel_rfl
theorem door_metH (os : Os) (args : Array Value) : laidMetH Tryz.prog Rows.topLinesRow.laid ((laidW os).forCall (fun _ _ => 0) ⟨#[], args, []⟩).memory := by
  rw [MakeChecks.laidMetH_plain _ _ _ no_handle]
  exact door_met os args
theorem witness_row (os : Os) {H : Type} (enc : TypeId × Value → H) :
    (OpenSpec.ofChange Rows.topLinesSpec).preRow enc Tryz.prog Tryz.f3 Rows.topLinesRow.domain false Rows.topLinesRow.laid ((laidW os).forCall (fun _ _ => 0) ⟨#[], #[.slice none 0 0, .string ⟨#[]⟩, .int .i64 0], []⟩).memory #[.slice none 0 0, .string ⟨#[]⟩, .int .i64 0] := by
  have hw : (DataW.whole enc Tryz.prog ((laidW os).forCall (fun _ _ => 0) ⟨#[], #[.slice none 0 0, .string ⟨#[]⟩, .int .i64 0], []⟩).memory Tryz.f3.params.toList (OpenSpec.ofChange Rows.topLinesSpec).vars false #[Value.slice none 0 0, .string ⟨#[]⟩, .int .i64 0].toList 8).map (fun x => (x.1, x.2.1)) =
      some ([.nil, .lit (.string []), .lit (.int .i64 0)], []) := by kernel_rfl
  obtain ⟨⟨x1, x2, x3⟩, hx, hx1⟩ := Option.map_eq_some_iff.1 hw
  simp only [Prod.mk.injEq] at hx1
  obtain ⟨rfl, rfl⟩ := hx1
  exact OpenSpec.preRow_of_cond 8 hx (by kernel_rfl) (fun k hk => by cases hk) (by kernel_rfl) (door_metH os _)
theorem w_vars (os : Os) : ((laidW os).forCall (fun _ _ => 0) ⟨#[], #[.slice none 0 0, .string ⟨#[]⟩, .int .i64 0], []⟩).variablesRefB Tryz.checked.prog = true := by kernel_rfl
theorem w_rest (os : Os) : (((laidW os).forCall (fun _ _ => 0) ⟨#[], #[.slice none 0 0, .string ⟨#[]⟩, .int .i64 0], []⟩).heap.toList.drop Tryz.checked.prog.globals.size).take ((begin Tryz.checked.prog (fun _ _ => 0) default).world.heap.size - Tryz.checked.prog.globals.size) =
      (begin Tryz.checked.prog (fun _ _ => 0) default).world.heap.toList.drop Tryz.checked.prog.globals.size := by kernel_rfl
theorem w_args (os : Os) : Input.okWideB Tryz.checked.prog ((laidW os).forCall (fun _ _ => 0) ⟨#[], #[.slice none 0 0, .string ⟨#[]⟩, .int .i64 0], []⟩) 3 ⟨#[], #[.slice none 0 0, .string ⟨#[]⟩, .int .i64 0], []⟩ = true := by kernel_rfl
/-- A listed table, cell by cell. -/
theorem tab_of {W : World} (h : laidMet Tryz.prog Rows.topLinesRow.laid W) {n : String} {k : IntKind} {zs : List Int} {g t e m : Nat} (hl : Rows.topLinesRow.laid.filter (fun x => x.1 == n) = [(n, Lib.tabData k zs)])
    (hg : Tryz.prog.globalNamed n = some g) (hty : (Tryz.prog.globals[g]?).map (·.type) = some t) (ht : Tryz.prog.underlying t = some (.array m e)) (he : Tryz.prog.underlying e = some (.int k)) (hce : Tryz.prog.cellsOf e = 1) (hct : Tryz.prog.cellsOf t = m) :
    ∃ e f, W.heap[g]? = some (.cells (zs.map fun z => Value.int k z).toArray e f) := by
  have h1 := h.filter fun x => x.1 == n
  rw [hl] at h1
  have h2 := Lib.tabIs_of_head hg hty ht he hce hct h1
  unfold Lib.TabIs World.var? at h2
  rw [hg, Option.bind_some] at h2
  split at h2
  · rename_i cs e f hc
    cases h2
    exact ⟨e, f, hc⟩
  · cases h2
end Go.Proofs.YtmgmoamcbnkbfaaGreatDoor
