/-
  One's own library, part 17: a call of known values, by evaluation.
-/
import Derived.Test.YtmgmoamcbnkbfaaGreatDoorYDraw3
import Derived.Test.YtmgmoamcbnkbfaaGreatDoorYTop
set_option linter.unusedVariables false
set_option linter.unusedSimpArgs false
set_option linter.unusedSectionVars false
namespace Go.Proofs.YtmgmoamcbnkbfaaGreatDoor
set_option linter.unusedSimpArgs false
set_option linter.unusedVariables false
open Go.RowKit
noncomputable section

/-! ### values made plain, so that the evaluation does not carry what is put off -/
def forceN {β : Type} (m : Nat) (k : Nat → β) : β := Nat.casesOn (motive := fun _ => β) m (k 0) fun m' => k (m' + 1)
theorem forceN_eq {β : Type} (m : Nat) (k : Nat → β) : forceN m k = k m := by cases m <;> rfl
def forceI {β : Type} (n : Int) (k : Int → β) : β :=
  match n with
  | .ofNat m => forceN m fun m => k (.ofNat m)
  | .negSucc m => forceN m fun m => k (.negSucc m)
theorem forceI_eq {β : Type} (n : Int) (k : Int → β) : forceI n k = k n := by cases n <;> simp only [forceI, forceN_eq]
def forceB {β : Type} (b : Bool) (k : Bool → β) : β :=
  match b with
  | true => k true
  | false => k false
theorem forceB_eq {β : Type} (b : Bool) (k : Bool → β) : forceB b k = k b := by cases b <;> rfl
def forceV {β : Type} (x : AV) (k : AV → β) : β :=
  match x with
  | .d (.v (.int t n)) => forceI n fun n => k (.d (.v (.int t n)))
  | .d (.v (.bool b)) => forceB b fun b => k (.d (.v (.bool b)))
  | .ptr b o => forceN b fun b => forceN o fun o => k (.ptr b o)
  | x => k x
theorem forceV_eq {β : Type} (x : AV) (k : AV → β) : forceV x k = k x := by
  unfold forceV
  split <;> simp only [forceI_eq, forceB_eq, forceN_eq]
def forceL {α β : Type} (l : List α) (k : List α → β) : β :=
  List.rec (motive := fun _ => (List α → β) → β) (fun k => k []) (fun x _ ih k => ih fun ys => k (x :: ys)) l k
theorem forceL_eq {α β : Type} (l : List α) (k : List α → β) : forceL l k = k l := by
  induction l generalizing k with
  | nil => rfl
  | cons x xs ih => exact ih fun ys => k (x :: ys)
def setK {β : Type} (l : List AV) (n : Nat) (v : AV) (k : List AV → β) : β :=
  List.rec (motive := fun _ => Nat → (List AV → β) → β) (fun _ k => k []) (fun x xs ih n k => Nat.rec (motive := fun _ => β) (k (v :: xs)) (fun m _ => ih m fun ys => k (x :: ys)) n) l n k
theorem setK_eq {β : Type} (l : List AV) (n : Nat) (v : AV) (k : List AV → β) : setK l n v k = k (l.set n v) := by
  induction l generalizing n k with
  | nil => rfl
  | cons x xs ih =>
    cases n with
    | zero => rfl
    | succ n => exact ih n fun ys => k (x :: ys)
def putK {β : Type} (l : List AV) (d : Option Nat) (v : AV) (k : List AV → β) : β :=
  match d with
  | some d => setK l d v k
  | none => k l
theorem putK_eq {β : Type} (l : List AV) (d : Option Nat) (v : AV) (k : List AV → β) : putK l d v k = k (setO l d v) := by
  cases d with
  | none => rfl
  | some d => exact setK_eq l d v k
def getL (l : List AV) (n : Nat) : AV :=
  List.rec (motive := fun _ => Nat → AV) (fun _ => .any) (fun x _ ih n => Nat.rec (motive := fun _ => AV) x (fun m _ => ih m) n) l n
theorem getL_eq (l : List AV) (n : Nat) : getL l n = l.getD n .any := by
  induction l generalizing n with
  | nil => rfl
  | cons x xs ih =>
    cases n with
    | zero => rfl
    | succ n => exact ih n
def getF (s : List AV) : Opd → AV
  | .t n => getL s n
  | .c x => x
theorem getF_eq (s : List AV) (x : Opd) : getF s x = get s x := by
  cases x with
  | t n => exact getL_eq s n
  | c x => rfl
theorem getF_fun (s : List AV) : getF s = get s := funext (getF_eq s)
def wantF (s : List AV) : Option (Nat × Bool) → Option Bool
  | none => some true
  | some (g, b) => match getL s g with
    | .d (.v (.bool t)) => some (t == b)
    | .tup [] => some false
    | _ => none
theorem wantF_eq (s : List AV) (g : Option (Nat × Bool)) : wantF s g = wanted s g := by
  cases g with
  | none => rfl
  | some g => simp only [wantF, wanted, getL_eq]; rfl

/-! ### arithmetic, quickly -/
def sgF (M h : Int) (n : Int) : Int := forceI (n % M) fun m => if m ≥ h then m - M else m
def wrapF (k : IntKind) (n : Int) : Int :=
  match k with
  | .i8 => sgF 256 128 n
  | .i16 => sgF 65536 32768 n
  | .i32 => sgF 4294967296 2147483648 n
  | .i64 => sgF 18446744073709551616 9223372036854775808 n
  | .u8 => n % 256
  | .u16 => n % 65536
  | .u32 => n % 4294967296
  | .u64 => n % 18446744073709551616
theorem wrapF_eq (k : IntKind) (n : Int) : wrapF k n = k.wrap n := by
  cases k <;> simp [wrapF, sgF, forceI_eq, IntKind.wrap, IntKind.bits, IntKind.signed]
theorem pow2_eq (n : Nat) : ((2 ^ n : Nat) : Int) = (2 : Int) ^ n := by rw [Int.natCast_pow]; rfl
def binF (op : BinOp) (x y : AV) : Option AV :=
  match x, y with
  | .d (.v (.int k a)), .d (.v (.int k' b)) =>
    match op with
    | .shl => if b < 0 then none else some (.d (.v (.int k (wrapF k (a * ((2 ^ (min b.toNat k.bits) : Nat) : Int))))))
    | .shr => if b < 0 then none else some (.d (.v (.int k (a / (((2 ^ (min b.toNat k.bits) : Nat) : Int))))))
    | _ => if k = k' then
      match op with
      | .add => some (.d (.v (.int k (wrapF k (a + b)))))
      | .sub => some (.d (.v (.int k (wrapF k (a - b)))))
      | .mul => some (.d (.v (.int k (wrapF k (a * b)))))
      | .quo => if b = 0 then none else some (.d (.v (.int k (wrapF k (a.tdiv b)))))
      | .rem => if b = 0 then none else some (.d (.v (.int k (a.tmod b))))
      | .and => some (.d (.v (.int k (wrapF k (BitVec.ofInt k.bits a &&& BitVec.ofInt k.bits b).toNat))))
      | .or => some (.d (.v (.int k (wrapF k (BitVec.ofInt k.bits a ||| BitVec.ofInt k.bits b).toNat))))
      | .xor => some (.d (.v (.int k (wrapF k (BitVec.ofInt k.bits a ^^^ BitVec.ofInt k.bits b).toNat))))
      | .andNot => some (.d (.v (.int k (wrapF k (BitVec.ofInt k.bits a &&& ~~~ BitVec.ofInt k.bits b).toNat))))
      | .eql => some (.d (.v (.bool (a == b))))
      | .neq => some (.d (.v (.bool (a != b))))
      | .lss => some (.d (.v (.bool (decide (a < b)))))
      | .leq => some (.d (.v (.bool (decide (a ≤ b)))))
      | .gtr => some (.d (.v (.bool (decide (a > b)))))
      | .geq => some (.d (.v (.bool (decide (a ≥ b)))))
      | _ => none
      else none
  | .d (.v (.string a)), .d (.v (.string b)) =>
    match op with
    | .eql => some (.d (.v (.bool (decide (a = b)))))
    | .neq => some (.d (.v (.bool !(decide (a = b)))))
    | .add => if ((a.size + b.size : Nat) : Int) > IntKind.i64.max then none else some (.d (.v (.string (a ++ b))))
    | _ => none
  | _, _ => none
theorem binF_eq (op : BinOp) (x y : AV) : binF op x y = binA op x y := by
  unfold binF binA
  simp only [wrapF_eq, pow2_eq]
  rfl
def kcFitF : KC → Value → Bool
  | .b, .bool _ => true
  | .s, .string s => decide (s.size ≤ maxLen)
  | .i .i64, .int .i64 n => decide (-9223372036854775808 ≤ n) && decide (n ≤ 9223372036854775807)
  | k, v => kcFit k v
theorem kcFitF_eq (k : KC) (v : Value) : kcFitF k v = kcFit k v := by
  unfold kcFitF
  split <;> simp [kcFit, IntKind.min, IntKind.max, IntKind.signed, IntKind.bits]
def fitLF : List KC → List Value → Bool
  | [], [] => true
  | k :: ks, v :: vs => kcFitF k v && fitLF ks vs
  | _, _ => false
theorem fitLF_eq : ∀ (k : List KC) (v : List Value), fitLF k v = fitL k v
  | [], [] => rfl
  | k :: ks, v :: vs => by rw [fitLF, fitL, kcFitF_eq, fitLF_eq ks vs]
  | [], _ :: _ => rfl
  | _ :: _, [] => rfl
def keyFitsF : KT → Value → Bool
  | ⟨true, kk⟩, .agg cs => fitLF kk cs.toList
  | ⟨false, [k]⟩, v => kcFitF k v
  | _, _ => false
theorem keyFitsF_eq (k : KT) (v : Value) : keyFitsF k v = keyFits k v := by
  unfold keyFitsF keyFits
  simp only [fitLF_eq, kcFitF_eq]
  rfl
/-! ### the evaluator, each operation by itself (so that little is put in when it is reckoned) -/
def eK_mv (x : Opd) (s : List AV) (H : List ABlk) : Option (AV × List ABlk) := some (getF s x, H)
def eK_mvg (e : Nat) (sz : Nat) (x : Opd) (s : List AV) (H : List ABlk) : Option (AV × List ABlk) := match getF s x with
    | .esl => some (.gsl H.length sz [], H ++ [.row e sz 0])
    | .gsl b z es => some (.gsl b z es, H)
    | _ => none
def eK_pick (c : Opd) (a : Opd) (b : Opd) (s : List AV) (H : List ABlk) : Option (AV × List ABlk) := match getF s c with
    | .d (.v (.bool t)) => some (bif t then getF s a else getF s b, H)
    | _ => none
def eK_al (z : List AV) (s : List AV) (H : List ABlk) : Option (AV × List ABlk) := some (.ptr H.length 0, H ++ [.cells z])
def eK_bx (x : Opd) (s : List AV) (H : List ABlk) : Option (AV × List ABlk) := if shown (getF s x) then some (.ptr H.length 0, H ++ [.cells (cellsAV (getF s x))]) else none
def eK_bd (z : List AV) (ps : List (Nat × Nat × Opd)) (s : List AV) (H : List ABlk) : Option (AV × List ABlk) := match fillA z (ps.map fun p => (p.1, p.2.1, getF s p.2.2)) with
    | some cs => some (.agg cs, H)
    | none => none
def eK_bs (md : Md) (e : Nat) (sz : Nat) (ps : List Opd) (s : List AV) (H : List ABlk) : Option (AV × List ABlk) :=
    if ps.all (fun p => shown (getF s p) && (cellsAV (getF s p)).length == sz) then
      match md with
      | .im => if ps.isEmpty then some (.esl, H) else match datss (ps.map fun p => cellsAV (getF s p)) with
        | some es => some (.d (.sl es), H)
        | none => none
      | .hp => some (.hsl H.length 0 ps.length ps.length sz, H ++ [.cells (ps.map fun p => cellsAV (getF s p)).flatten])
      | .gr => match datss (ps.map fun p => cellsAV (getF s p)) with
        | some es => some (.gsl H.length sz es, H ++ [.row e sz es.length])
        | none => none
    else none
def eK_ld (x : Opd) (n : Nat) (ag : Bool) (s : List AV) (H : List ABlk) : Option (AV × List ABlk) := match loadA H (getF s x) n with
    | some cs => match outA ag cs with
      | some v => some (v, H)
      | none => none
    | none => none
def eK_st (x : Opd) (v : Opd) (n : Nat) (s : List AV) (H : List ABlk) : Option (AV × List ABlk) := if shown (getF s v) && (cellsAV (getF s v)).length == n then
      match storeA H (getF s x) (cellsAV (getF s v)) with
      | some H' => some (.tup [], H')
      | none => none
    else none
def eK_nc (x : Opd) (s : List AV) (H : List ABlk) : Option (AV × List ABlk) := match getF s x with
    | .ptr b o => some (.ptr b o, H)
    | .ip cs => some (.ip cs, H)
    | .fn f cs => some (.fn f cs, H)
    | _ => none
def eK_bin (op : BinOp) (x : Opd) (y : Opd) (s : List AV) (H : List ABlk) : Option (AV × List ABlk) := match binF op (getF s x) (getF s y) with
    | some v => some (v, H)
    | none => none
def eK_eqs (neg : Bool) (x : Opd) (y : Opd) (s : List AV) (H : List ABlk) : Option (AV × List ABlk) := match boolsA (if neg then .neq else .eql) (getF s x) (getF s y) with
    | some v => some (v, H)
    | none => none
def eK_eqp (neg : Bool) (x : Opd) (y : Opd) (s : List AV) (H : List ABlk) : Option (AV × List ABlk) := match ptrsA neg (getF s x) (getF s y) with
    | some v => some (v, H)
    | none => none
def eK_un (op : UnOp) (x : Opd) (s : List AV) (H : List ABlk) : Option (AV × List ABlk) := match unA op (getF s x) with
    | some v => some (v, H)
    | none => none
def eK_cvi (k : IntKind) (x : Opd) (s : List AV) (H : List ABlk) : Option (AV × List ABlk) := match getF s x with
    | .d (.v (.int _ n)) => some (.d (.v (.int k (wrapF k n))), H)
    | _ => none
def eK_fa (x : Opd) (off : Nat) (s : List AV) (H : List ABlk) : Option (AV × List ABlk) := match faA (getF s x) off with
    | some v => some (v, H)
    | none => none
def eK_fld (x : Opd) (off : Nat) (n : Nat) (ag : Bool) (s : List AV) (H : List ABlk) : Option (AV × List ABlk) := match getF s x with
    | .agg cs => if off + n ≤ cs.length then match outA ag ((cs.drop off).take n) with
        | some v => some (v, H)
        | none => none
      else none
    | _ => none
def eK_ia (x : Opd) (i : Opd) (sz : Nat) (s : List AV) (H : List ABlk) : Option (AV × List ABlk) := match getF s i with
    | .d (.v (.int _ n)) => match iaA (getF s x) n sz with
      | some v => some (v, H)
      | none => none
    | _ => none
def eK_iar (x : Opd) (i : Opd) (n : Nat) (sz : Nat) (s : List AV) (H : List ABlk) : Option (AV × List ABlk) := match getF s i with
    | .d (.v (.int _ j)) => if 0 ≤ j ∧ j < n then match faA (getF s x) (j.toNat * sz) with
        | some v => some (v, H)
        | none => none
      else none
    | _ => none
def eK_ix (x : Opd) (i : Opd) (s : List AV) (H : List ABlk) : Option (AV × List ABlk) := match getF s x, getF s i with
    | .d (.v (.string b)), .d (.v (.int _ j)) => if 0 ≤ j ∧ j < b.size then some (.d (.v (.int .u8 ((b.data.toList.getD j.toNat 0).toNat))), H) else none
    | _, _ => none
def eK_ixv (x : Opd) (i : Opd) (n : Nat) (s : List AV) (H : List ABlk) : Option (AV × List ABlk) := match getF s x, getF s i with
    | .agg cs, .d (.v (.int _ j)) => if 0 ≤ j ∧ j < n ∧ n ≤ cs.length then some (cs.getD j.toNat .any, H) else none
    | _, _ => none
def eK_sli (str : Bool) (x : Opd) (lo : Option Opd) (hi : Option Opd) (sz : Nat) (s : List AV) (H : List ABlk) : Option (AV × List ABlk) := if isStr (getF s x) = str then match lenA (getF s x) with
    | some n => match bnd s 0 lo, bnd s n hi with
      | some l, some h => match slA (getF s x) l h sz with
        | some v => some (v, H)
        | none => none
      | _, _ => none
    | none => none
    else none
def eK_sla (x : Opd) (lo : Option Opd) (hi : Option Opd) (n : Nat) (sz : Nat) (s : List AV) (H : List ABlk) : Option (AV × List ABlk) := match getF s x with
    | .ptr b off => match H[b]?, bnd s 0 lo, bnd s n hi with
      | some (.cells cs), some l, some h => if off + n * sz ≤ cs.length ∧ n ≤ maxLen then match slA (.hsl b off n n sz) l h sz with
          | some v => some (v, H)
          | none => none
        else none
      | _, _, _ => none
    | _ => none
def eK_slz (x : Opd) (s : List AV) (H : List ABlk) : Option (AV × List ABlk) := match lenA (getF s x) with
    | some _ => some (.esl, H)
    | none => none
def eK_ext (x : Opd) (i : Nat) (s : List AV) (H : List ABlk) : Option (AV × List ABlk) := match getF s x with
    | .tup cs => match cs[i]? with
      | some v => some (v, H)
      | none => none
    | _ => none
def eK_len (str : Bool) (x : Opd) (s : List AV) (H : List ABlk) : Option (AV × List ABlk) := if isStr (getF s x) = str then match lenA (getF s x) with
    | some n => some (.d (.v (.int .i64 n)), H)
    | none => none
    else none
def eK_mn (xs : List Opd) (s : List AV) (H : List ABlk) : Option (AV × List ABlk) := match ints s xs with
    | some ((k, n) :: r) => some (.d (.v (.int k (r.foldl (fun a b => if b.2 < a then b.2 else a) n))), H)
    | _ => none
def eK_mx (xs : List Opd) (s : List AV) (H : List ABlk) : Option (AV × List ABlk) := match ints s xs with
    | some ((k, n) :: r) => some (.d (.v (.int k (r.foldl (fun a b => if b.2 > a then b.2 else a) n))), H)
    | _ => none
def eK_mkf (f : FuncId) (caps : List Opd) (s : List AV) (H : List ABlk) : Option (AV × List ABlk) := some (.fn f (caps.map (getF s)), H)
def eK_app (md : Md) (e : Nat) (sz : Nat) (bytes : Nat) (a : Opd) (x : Opd) (s : List AV) (H : List ABlk) : Option (AV × List ABlk) := match elemsA H sz (getF s x) with
    | some xs => match datss xs with
      | some es =>
        match getF s a with
        | .esl => if es.length * bytes ≤ 140737488355328 ∧ es.length ≤ maxLen then
            match md with
            | .im => some (.d (.sl es), H)
            | .hp => some (.hsl H.length 0 es.length es.length sz, H ++ [.cells xs.flatten])
            | .gr => some (.gsl H.length sz es, H ++ [.row e sz es.length])
          else none
        | .gsl b sz0 old => match H[b]? with
          | some (.row e' sz' n) => if n = old.length ∧ sz0 = sz ∧ sz' = sz ∧ e' = e ∧ (old.length + es.length) * bytes ≤ 140737488355328 ∧ old.length + es.length ≤ maxLen then
              some (.gsl b sz (old ++ es), H.set b (.row e sz (old.length + es.length))) else none
          | _ => none
        | .hsl b 0 n _ sz' => match H[b]? with
          | some (.cells cs) => if sz' = sz ∧ n * sz ≤ cs.length ∧ (n + es.length) * bytes ≤ 140737488355328 ∧ n + es.length ≤ maxLen then
              some (.hsl H.length 0 (n + es.length) (n + es.length) sz, H.set b .dead ++ [.cells (cs.take (n * sz) ++ xs.flatten)])
            else none
          | _ => none
        | _ => none
      | none => appH md sz bytes (getF s a) xs H
    | none => none
def eK_mks (x0 : Md) (x1 : Nat) (sz : Nat) (bytes : Nat) (z : List AV) (n : Opd) (c : Opd) (s : List AV) (H : List ABlk) : Option (AV × List ABlk) := match getF s n, getF s c with
    | .d (.v (.int _ l)), .d (.v (.int _ m)) => if 0 ≤ l ∧ l ≤ m ∧ m.toNat * bytes ≤ 140737488355328 ∧ m.toNat ≤ maxLen then
        some (.hsl H.length 0 l.toNat m.toNat sz, H ++ [.cells (List.replicate m.toNat z).flatten]) else none
    | _, _ => none
def eK_cpy (sz : Nat) (d : Opd) (x : Opd) (s : List AV) (H : List ABlk) : Option (AV × List ABlk) := match getF s d with
    | .hsl b off n _ sz' => match H[b]?, elemsA H sz (getF s x) with
      | some (.cells cs), some xs => match datss xs with
        | some es => if sz' = sz ∧ es.length ≤ n ∧ off + n * sz ≤ cs.length then
            some (.d (.v (.int .i64 es.length)), H.set b (.cells (splice cs off (es.flatten.map .d)))) else none
        | none => none
      | _, _ => none
    | _ => none
def eK_mkm (kt : KT) (s : List AV) (H : List ABlk) : Option (AV × List ABlk) := some (.mp H.length, H ++ [.map kt 0 []])
def eK_lk (kt : KT) (z : AV) (m : Opd) (k : Opd) (ok : Bool) (s : List AV) (H : List ABlk) : Option (AV × List ABlk) := match keyOf (getF s k) with
    | some kv => if keyFitsF kt kv = true then match mapOf H kt (getF s m) with
        | some es => match mapGet es kv with
          | some e => some (if ok then .tup [e.1, .d (.v (.bool true))] else e.1, H)
          | none => some (if ok then .tup [z, .d (.v (.bool false))] else z, H)
        | none => none
      else none
    | none => none
def eK_mu (kt : KT) (m : Opd) (k : Opd) (v : Opd) (s : List AV) (H : List ABlk) : Option (AV × List ABlk) := match getF s m, keyOf (getF s k) with
    | .mp b, some kv => if keyFitsF kt kv = true ∧ shown (getF s v) = true then match H[b]? with
        | some (.map kt' ck es) => if kt' = kt then some (.tup [], H.set b (.map kt (mapPut ck es kv (getF s v)).1 (mapPut ck es kv (getF s v)).2)) else none
        | _ => none
      else none
    | _, _ => none
def eK_me (kt : KT) (z : AV) (m : Opd) (k : Opd) (s : List AV) (H : List ABlk) : Option (AV × List ABlk) := match getF s m, keyOf (getF s k) with
    | .mp b, some kv => if keyFitsF kt kv = true then match H[b]? with
        | some (.map kt' ck es) => if kt' = kt then match mapGet es kv with
            | some e => some (.tup [e.1, .d (.v (.int .i64 e.2))], H)
            | none => some (.tup [z, .d (.v (.int .i64 ck))], H.set b (.map kt (ck + 1) (es ++ [(kv, z, ck)])))
          else none
        | _ => none
      else none
    | _, _ => none
def eK_mes (m : Opd) (t : Opd) (v : Opd) (s : List AV) (H : List ABlk) : Option (AV × List ABlk) := match getF s m, getF s t with
    | .mp b, .d (.v (.int _ n)) => match H[b]? with
      | some (.map kt ck es) => if shown (getF s v) = true then match mapSt es n (getF s v) with
          | some es' => some (.tup [], H.set b (.map kt ck es'))
          | none => none
        else none
      | _ => none
    | _, _ => none
def eK_del (kt : KT) (m : Opd) (k : Opd) (s : List AV) (H : List ABlk) : Option (AV × List ABlk) := match keyOf (getF s k) with
    | some kv => if keyFitsF kt kv = true then match getF s m with
        | .mnil => some (.tup [], H)
        | .mp b => match H[b]? with
          | some (.map kt' ck es) => if kt' = kt then some (.tup [], H.set b (.map kt ck (mapDel es kv))) else none
          | _ => none
        | _ => none
      else none
    | none => none
def eK_s2b (x0 : Md) (x1 : Nat) (x : Opd) (s : List AV) (H : List ABlk) : Option (AV × List ABlk) := match getF s x with
    | .d (.v (.string b)) => if b.size ≤ maxLen then some (.d (.sl (b.data.toList.map fun c => [.v (.int .u8 c.toNat)])), H) else none
    | _ => none
def eK_b2s (x : Opd) (s : List AV) (H : List ABlk) : Option (AV × List ABlk) := if isStr (getF s x) = false then match elemsA H 1 (getF s x) with
      | some xs => match bytesOf xs with
        | some l => some (.d (.v (.string ⟨l.toArray⟩)), H)
        | none => none
      | none => none
    else none
def eK_ixb (x0 : FuncId) (x : Opd) (c : Opd) (s : List AV) (H : List ABlk) : Option (AV × List ABlk) := match getF s x, getF s c with
    | .d (.v (.string b)), .d (.v (.int .u8 n)) => some (.d (.v (.int .i64 (idxB b.data.toList (UInt8.ofNat n.toNat)))), H)
    | _, _ => none
def eK_eqg (kt : KT) (neg : Bool) (x : Opd) (y : Opd) (s : List AV) (H : List ABlk) : Option (AV × List ABlk) := match keyOf (getF s x), keyOf (getF s y) with
    | some a, some b => if keyFitsF kt a = true ∧ keyFitsF kt b = true then some (.d (.v (.bool (if neg then !(keq a b) else keq a b))), H) else none
    | _, _ => none
def eK_isn (mp : Bool) (neg : Bool) (x : Opd) (s : List AV) (H : List ABlk) : Option (AV × List ABlk) := match nilA mp neg (getF s x) with
    | some v => some (v, H)
    | none => none
def eK_eqi (neg : Bool) (x : Opd) (s : List AV) (H : List ABlk) : Option (AV × List ABlk) := match nilI neg (getF s x) with
    | some v => some (v, H)
    | none => none
def evK2 (k : K) (s : List AV) (H : List ABlk) : Option (AV × List ABlk) :=
  match k with
  | .mv a0 => eK_mv a0 s H
  | .mvg a0 a1 a2 => eK_mvg a0 a1 a2 s H
  | .pick a0 a1 a2 => eK_pick a0 a1 a2 s H
  | .al a0 => eK_al a0 s H
  | .alb a0 => some (.ptr H.length 0, H ++ [.bld a0])
  | .bx a0 => eK_bx a0 s H
  | .bd a0 a1 => eK_bd a0 a1 s H
  | .bs a0 a1 a2 a3 => eK_bs a0 a1 a2 a3 s H
  | .ld a0 a1 a2 => eK_ld a0 a1 a2 s H
  | .st a0 a1 a2 => eK_st a0 a1 a2 s H
  | .nc a0 => eK_nc a0 s H
  | .bin a0 a1 a2 => eK_bin a0 a1 a2 s H
  | .eqs a0 a1 a2 => eK_eqs a0 a1 a2 s H
  | .eqp a0 a1 a2 => eK_eqp a0 a1 a2 s H
  | .un a0 a1 => eK_un a0 a1 s H
  | .cvi a0 a1 => eK_cvi a0 a1 s H
  | .fa a0 a1 => eK_fa a0 a1 s H
  | .fld a0 a1 a2 a3 => eK_fld a0 a1 a2 a3 s H
  | .ia a0 a1 a2 => eK_ia a0 a1 a2 s H
  | .iar a0 a1 a2 a3 => eK_iar a0 a1 a2 a3 s H
  | .ix a0 a1 => eK_ix a0 a1 s H
  | .ixv a0 a1 a2 => eK_ixv a0 a1 a2 s H
  | .sli a0 a1 a2 a3 a4 => eK_sli a0 a1 a2 a3 a4 s H
  | .sla a0 a1 a2 a3 a4 => eK_sla a0 a1 a2 a3 a4 s H
  | .slz a0 => eK_slz a0 s H
  | .ext a0 a1 => eK_ext a0 a1 s H
  | .len a0 a1 => eK_len a0 a1 s H
  | .mn a0 => eK_mn a0 s H
  | .mx a0 => eK_mx a0 s H
  | .mkf a0 a1 => eK_mkf a0 a1 s H
  | .app a0 a1 a2 a3 a4 a5 => eK_app a0 a1 a2 a3 a4 a5 s H
  | .mks a0 a1 a2 a3 a4 a5 a6 => eK_mks a0 a1 a2 a3 a4 a5 a6 s H
  | .cpy a0 a1 a2 => eK_cpy a0 a1 a2 s H
  | .mkm a0 => eK_mkm a0 s H
  | .lk a0 a1 a2 a3 a4 => eK_lk a0 a1 a2 a3 a4 s H
  | .mu a0 a1 a2 a3 => eK_mu a0 a1 a2 a3 s H
  | .me a0 a1 a2 a3 => eK_me a0 a1 a2 a3 s H
  | .mes a0 a1 a2 => eK_mes a0 a1 a2 s H
  | .del a0 a1 a2 => eK_del a0 a1 a2 s H
  | .s2b a0 a1 a2 => eK_s2b a0 a1 a2 s H
  | .b2s a0 => eK_b2s a0 s H
  | .ixb a0 a1 a2 => eK_ixb a0 a1 a2 s H
  | .eqg a0 a1 a2 a3 => eK_eqg a0 a1 a2 a3 s H
  | .isn a0 a1 a2 => eK_isn a0 a1 a2 s H
  | .eqi a0 a1 => eK_eqi a0 a1 s H
  | _ => none
theorem evK2_eq (k : K) (s : List AV) (H : List ABlk) : evK2 k s H = evK k s H := by
  cases k <;> (try rfl) <;> simp only [evK2, evK, eK_mv, eK_mvg, eK_pick, eK_al, eK_bx, eK_bd, eK_bs, eK_ld, eK_st, eK_nc, eK_bin, eK_un, eK_cvi, eK_fa, eK_fld, eK_ia, eK_iar, eK_ix, eK_ixv, eK_sli, eK_sla, eK_slz, eK_ext, eK_len, eK_app, eK_mn, eK_mx, eK_mkf, eK_mks, eK_cpy, eK_mkm, eK_lk, eK_mu, eK_me, eK_mes, eK_del, eK_ixb, eK_eqg, eK_isn, eK_eqi, eK_s2b, eK_b2s, eK_eqs, eK_eqp, binF_eq, wrapF_eq, keyFitsF_eq, getF_eq, getF_fun] <;> (try rfl)
def pureK : K → Bool
  | .mv _ | .pick .. | .bd .. | .ld .. | .nc _ | .bin .. | .eqs .. | .eqp .. | .un .. | .cvi .. | .fa .. | .fld .. | .ia .. | .iar .. | .ix .. | .ixv .. | .sli .. | .sla .. | .slz _ | .ext .. | .len .. | .mn _ | .mx _ | .lk .. | .ixb .. | .eqg .. | .isn .. | .eqi .. | .mkf .. | .b2s _ | .s2b .. => true
  | _ => false
/-- Which names an operation writes: none, a new one, or an old one. -/
def opW (k : K) (s : List AV) (H : List ABlk) : Option (List Nat) :=
  if pureK k = true then some [] else match k with
    | .al _ | .bx _ | .mks .. => some [H.length]
    | .bs .im _ _ _ => some []
    | .bs .hp _ _ _ => some [H.length]
    | .bs .gr _ _ _ => some [H.length]
    | .st x _ _ => match get s x with
      | .ptr b _ => some [b]
      | _ => none
    | _ => none
theorem pureK_sound {k : K} {s : List AV} {H H' : List ABlk} {v : AV} (hk : pureK k = true) (h : evK k s H = some (v, H')) : H' = H := by
  cases k <;> first | (simp [pureK] at hk; done) | skip
  all_goals (
    simp only [evK] at h
    repeat' split at h
    all_goals (first | (cases h; rfl) | (cases h)))
inductive OpC (H : List ABlk) (w : List Nat) (H' : List ABlk) : Prop
  | pure : w = [] → H' = H → OpC H w H'
  | new (x : ABlk) : w = [H.length] → H' = H ++ [x] → OpC H w H'
  | old (b : Nat) (x : ABlk) : w = [b] → b < H.length → H' = H.set b x → OpC H w H'
theorem opW_sound {k : K} {s : List AV} {H H' : List ABlk} {v : AV} {w : List Nat} (h : evK k s H = some (v, H')) (hw : opW k s H = some w) : OpC H w H' := by
  unfold opW at hw
  split at hw
  · rename_i hp
    cases hw
    exact .pure rfl (pureK_sound hp h)
  · split at hw
    · cases hw
      simp only [evK] at h
      cases h
      exact .new _ rfl rfl
    · cases hw
      simp only [evK] at h
      split at h
      · cases h; exact .new _ rfl rfl
      · cases h
    · cases hw
      simp only [evK] at h
      split at h
      · split at h
        · cases h; exact .new _ rfl rfl
        · cases h
      · cases h
    · cases hw
      simp only [evK] at h
      split at h
      · split at h
        · cases h; exact .pure rfl rfl
        · split at h
          · cases h; exact .pure rfl rfl
          · cases h
      · cases h
    · cases hw
      simp only [evK] at h
      split at h
      · cases h; exact .new _ rfl rfl
      · cases h
    · cases hw
      simp only [evK] at h
      split at h
      · split at h
        · cases h; exact .new _ rfl rfl
        · cases h
      · cases h
    · split at hw
      · rename_i b o e
        cases hw
        simp only [evK] at h
        split at h
        · split at h
          · rename_i H2 e2
            cases h
            rw [e] at e2
            simp only [storeA] at e2
            split at e2
            · rename_i cs e3
              split at e2
              · cases e2
                exact .old b _ rfl (List.getElem?_eq_some_iff.1 e3).1 rfl
              · cases e2
            · cases e2
          · cases h
        · cases h
      · cases hw
    · cases hw
abbrev CF := Nat → FuncId → List AV → List ABlk → Option (AV × List ABlk)
def appOk (nb : Nat) (x : AV) : Bool := match x with
  | .esl => true
  | .gsl b _ _ => decide (nb ≤ b)
  | .hsl b _ _ _ _ => decide (nb ≤ b)
  | _ => false
def opOk (nb : Nat) (k : K) (s : List AV) (H : List ABlk) : Bool := nb == 0 || match opW k s H with
  | some w => w.all fun b => decide (nb ≤ b)
  | none => match k with
    | .app _ _ _ _ a _ => appOk nb (get s a)
    | .mkm _ => true
    | _ => false
/-- THE EVALUATION of a region's operations; no block below nb is written. -/
def evIs (F : CF) (ok : FuncId → Bool) (nb : Nat) : List Ins → List AV → List ABlk → Option (List AV × List ABlk)
  | [], s, H => some (s, H)
  | i :: r, s, H => match wantF s i.g with
    | some true => match i.k with
      | .call f args => match F nb f (args.map (getF s)) H with
        | some (v, H') => forceV v fun v => putK s i.dst v fun s => evIs F ok nb r s H'
        | none => none
      | .callv g args => match getF s g with
        | .fn f caps => if ok f = true then match F nb f (args.map (getF s) ++ caps) H with
            | some (v, H') => forceV v fun v => putK s i.dst v fun s => evIs F ok nb r s H'
            | none => none
          else none
        | _ => none
      | k => if opOk nb k s H = true then match evK2 k s H with
          | some (v, H') => forceV v fun v => putK s i.dst v fun s => evIs F ok nb r s H'
          | none => none
        else none
    | some false => evIs F ok nb r (setO s i.dst (.tup [])) H
    | none => none
/-! ### which operations come before which, as bits -/
def ancB (pr : List (List Nat)) : List Nat := pr.foldl (fun acc p => acc ++ [p.foldl (fun m i => m ||| (1 <<< i ||| acc.getD i 0)) 0]) []
theorem foldB {acc : List Nat} (x : Nat) : ∀ (p : List Nat) (m : Nat), (p.foldl (fun m i => m ||| (1 <<< i ||| acc.getD i 0)) m).testBit x = true ↔ m.testBit x = true ∨ x ∈ p ∨ ∃ k ∈ p, (acc.getD k 0).testBit x = true
  | [], m => by simp
  | i :: p, m => by
    rw [List.foldl_cons, foldB x p]
    simp only [Nat.testBit_or, Bool.or_eq_true, Nat.one_shiftLeft, Nat.testBit_two_pow, decide_eq_true_iff, List.mem_cons, exists_eq_or_imp]
    constructor
    · rintro ((h | h | h) | h | h)
      · exact .inl h
      · exact .inr (.inl (.inl h.symm))
      · exact .inr (.inr (.inl h))
      · exact .inr (.inl (.inr h))
      · exact .inr (.inr (.inr h))
    · rintro (h | (h | h) | h | h)
      · exact .inl (.inl h)
      · exact .inl (.inr (.inl h.symm))
      · exact .inr (.inl h)
      · exact .inl (.inr (.inr h))
      · exact .inr (.inr h)
theorem ancB_eq (pr : List (List Nat)) : (ancB pr).length = (anc pr).length ∧ ∀ j x, ((ancB pr).getD j 0).testBit x = ((anc pr).getD j []).contains x := by
  have go : ∀ (l : List (List Nat)) (A : List Nat) (B : List (List Nat)), A.length = B.length → (∀ j x, (A.getD j 0).testBit x = (B.getD j []).contains x) →
      (l.foldl (fun acc p => acc ++ [p.foldl (fun m i => m ||| (1 <<< i ||| acc.getD i 0)) 0]) A).length = (l.foldl (fun acc p => acc ++ [(p ++ p.flatMap fun i => acc.getD i []).eraseDups]) B).length ∧
      ∀ j x, ((l.foldl (fun acc p => acc ++ [p.foldl (fun m i => m ||| (1 <<< i ||| acc.getD i 0)) 0]) A).getD j 0).testBit x = ((l.foldl (fun acc p => acc ++ [(p ++ p.flatMap fun i => acc.getD i []).eraseDups]) B).getD j []).contains x := by
    intro l
    induction l with
    | nil => exact fun A B h1 h2 => ⟨h1, h2⟩
    | cons p l ih =>
      intro A B h1 h2
      rw [List.foldl_cons, List.foldl_cons]
      refine ih _ _ (by simp [h1]) fun j x => ?_
      rcases Nat.lt_trichotomy j A.length with hj | hj | hj
      · have e1 : ∀ y, (A ++ [y]).getD j 0 = A.getD j 0 := fun y => by rw [List.getD_eq_getElem?_getD, List.getElem?_append_left hj, ← List.getD_eq_getElem?_getD]
        have e2 : ∀ y, (B ++ [y]).getD j [] = B.getD j [] := fun y => by rw [List.getD_eq_getElem?_getD, List.getElem?_append_left (by omega), ← List.getD_eq_getElem?_getD]
        rw [e1, e2]; exact h2 j x
      · have e1 : ∀ y, (A ++ [y]).getD j 0 = y := fun y => by rw [hj, List.getD_eq_getElem?_getD, List.getElem?_append_right (Nat.le_refl _)]; simp
        have e2 : ∀ y, (B ++ [y]).getD j [] = y := fun y => by rw [hj, h1, List.getD_eq_getElem?_getD, List.getElem?_append_right (Nat.le_refl _)]; simp
        rw [e1, e2, Bool.eq_iff_iff, foldB]
        simp only [Nat.zero_testBit, Bool.false_eq_true, false_or, List.contains_eq_mem, decide_eq_true_iff, List.mem_eraseDups, List.mem_append, List.mem_flatMap]
        refine or_congr Iff.rfl ⟨?_, ?_⟩
        · rintro ⟨k, hk, hx⟩
          rw [h2, List.contains_eq_mem, decide_eq_true_iff] at hx
          exact ⟨k, hk, hx⟩
        · rintro ⟨k, hk, hx⟩
          refine ⟨k, hk, ?_⟩
          rw [h2, List.contains_eq_mem, decide_eq_true_iff]
          exact hx
      · have e1 : ∀ y, (A ++ [y]).getD j 0 = 0 := fun y => by rw [List.getD_eq_getElem?_getD, List.getElem?_eq_none (by simp; omega)]; rfl
        have e2 : ∀ y, (B ++ [y]).getD j [] = [] := fun y => by rw [List.getD_eq_getElem?_getD, List.getElem?_eq_none (by simp; omega)]; rfl
        rw [e1, e2]; simp
  exact go pr [] [] rfl fun j x => by simp
def drawB (an : List Nat) (pr : List (List Nat)) (l : List Ins) : Bool :=
  (List.range l.length).all fun j => (pr.getD j []).all (· < j) &&
    (List.range j).all fun i => (an.getD j 0).testBit i ||
      ((match wrOf l i with | some d => !(rdOf l j).contains d && wrOf l j != some d | none => true) &&
       (match wrOf l j with | some d => !(rdOf l i).contains d | none => true))
theorem drawB_eq (pr : List (List Nat)) (l : List Ins) : drawB (ancB pr) pr l = drawOk pr l := by
  simp only [drawB, drawOk, (ancB_eq pr).2]
  rfl
def killsB (an : List Nat) (ws : List (List Nat)) (n j : Nat) : List Nat :=
  (List.range n).flatMap fun i => match ws.getD i [] with
    | [] => []
    | w => if i == j || (an.getD j 0).testBit i || (an.getD i 0).testBit j then [] else w
theorem killsB_eq (pr ws : List (List Nat)) (n j : Nat) : killsB (ancB pr) ws n j = killsOf pr ws n j := by
  simp only [killsB, killsOf, (ancB_eq pr).2]
  congr 1
  funext i
  split
  · rename_i h; rw [h]; simp
  · rfl
def notDead (H : List ABlk) (b : Nat) : Bool := match H[b]? with
  | some .dead => false
  | _ => true
/-- The heap behind an operation that was made beside others. -/
def reG (H G : List ABlk) : List Nat → List ABlk
  | [] => H
  | b :: _ => if b = H.length then H ++ G.drop H.length else H.set b (G.getD b .dead)
/-- The evaluation of a region that draws its order: behind each operation what others may write is not there. -/
def dRun (F : CF) (H0 : List ABlk) : List (List Nat) → List Ins → List AV → List ABlk → Option (List (List Nat) × List AV × List ABlk)
  | u :: us, i :: r, s, H => match wantF s i.g with
    | some true => match i.k with
      | .call f args => match F H.length f (args.map (getF s)) (kill u H) with
        | some (v, G) => if (refs v).all (fun r => decide (r < H.length)) = true then match forceV v fun v => putK s i.dst v fun s => dRun F H0 us r s H with
            | some (ws, q) => some ([] :: ws, q)
            | none => none
          else if H.length < G.length ∧ (u.all fun b => decide (b < H.length) || decide (G.length ≤ b)) = true ∧ (((List.range (G.length - H.length)).map fun j => H.length + j).all fun b => notDead H0 b) = true then
            match forceV v fun v => putK s i.dst v fun s => forceL (H ++ G.drop H.length) fun G => dRun F H0 us r s G with
            | some (ws, q) => some (((List.range (G.length - H.length)).map fun j => H.length + j) :: ws, q)
            | none => none
          else none
        | none => if u = [] then match F 0 f (args.map (getF s)) H with
            | some (v, G) => if 0 < G.length ∧ H.length ≤ G.length ∧ ((List.range G.length).all fun b => notDead H0 b) = true then match forceV v fun v => putK s i.dst v fun s => forceL G fun G => dRun F H0 us r s G with
                | some (ws, q) => some (List.range G.length :: ws, q)
                | none => none
              else none
            | none => none
          else none
      | .callv _ _ => none
      | k => match opW k s (kill u H) with
        | some w => match evK2 k s (kill u H) with
          | some (v, G) => if (w.all fun b => !(u.contains b) && notDead H0 b) = true then match forceV v fun v => putK s i.dst v fun s => dRun F H0 us r s (reG H G w) with
              | some (ws, q) => some (w :: ws, q)
              | none => none
            else none
          | none => none
        | none => none
    | some false => match dRun F H0 us r (setO s i.dst (.tup [])) H with
      | some (ws, q) => some ([] :: ws, q)
      | none => none
    | none => none
  | [], [], s, H => some ([], s, H)
  | _, _, _, _ => none
def evD (F : CF) (pr : List (List Nat)) (l : List Ins) (s : List AV) (H : List ABlk) : Option (List (List Nat) × List AV × List ABlk) :=
  if drawB (ancB pr) pr l = true then match dRun F H (l.map fun _ => []) l s H with
    | some (ws, q) => if (ws.all fun w => w.isEmpty) = true then some (ws, q) else match dRun F H ((List.range l.length).map (killsB (ancB pr) ws l.length)) l s H with
        | some (ws', q) => if ws' = ws then some (ws, q) else none
        | none => none
    | none => none
  else none
theorem kills_none {pr ws : List (List Nat)} (h : (ws.all fun w => w.isEmpty) = true) (n j : Nat) : killsOf pr ws n j = [] := by
  simp only [killsOf]
  rw [List.flatMap_eq_nil_iff]
  intro i _
  split
  · rfl
  · rw [List.getD_eq_getElem?_getD]
    by_cases hi : i < ws.length
    · have := List.all_eq_true.1 h ws[i] (List.getElem_mem hi)
      rw [List.getElem?_eq_getElem hi]
      simpa using this
    · rw [List.getElem?_eq_none (by omega)]; rfl
theorem evD_inv {F : CF} {pr : List (List Nat)} {l : List Ins} {s : List AV} {H : List ABlk} {ws : List (List Nat)} {q : List AV × List ABlk} (h : evD F pr l s H = some (ws, q)) :
    drawOk pr l = true ∧ dRun F H ((List.range l.length).map (killsOf pr ws l.length)) l s H = some (ws, q) := by
  unfold evD at h
  rw [drawB_eq] at h
  split at h
  · rename_i hd
    refine ⟨hd, ?_⟩
    split at h
    · rename_i ws1 q1 e1
      split at h
      · rename_i hw
        cases h
        rw [show (List.range l.length).map (killsOf pr ws l.length) = l.map fun _ => [] from by
          rw [show killsOf pr ws l.length = fun _ => [] from funext fun j => kills_none hw _ _]
          rw [List.map_const', List.map_const', List.length_range]]
        exact e1
      · split at h
        · rename_i ws2 q2 e2
          split at h
          · rename_i hws
            cases h
            subst hws
            rw [show killsB (ancB pr) ws2 l.length = killsOf pr ws2 l.length from funext fun j => killsB_eq ..] at e2
            exact e2
          · cases h
        · cases h
    · cases h
  · cases h
abbrev EvR := Option (Exit × List AV × List ABlk)
def loopN (f : List AV → List ABlk → EvR) : Nat → List AV → List ABlk → EvR
  | 0, _, _ => none
  | n + 1, s, H => match f s H with
    | some (.normal, s', H') => loopN f n s' H'
    | r => r
/-- Operations that change nothing. -/
def pureRun : List Ins → List AV → List ABlk → Option (List AV)
  | [], s, _ => some s
  | ⟨d, k, none⟩ :: r, s, H => if pureK k = true then match evK2 k s H with
      | some (v, _) => pureRun r (setO s d v) H
      | none => none
    else none
  | _ :: _, _, _ => none
/-- m[k]++ -/
def mRun (pr : List (List Nat)) (l : List Ins) (s : List AV) (H : List ABlk) : Option (Nat × List AV × List ABlk) :=
  match l.drop (l.length - 5) with
  | [⟨some d1, .lk kt (.d (.v (.int .i64 0))) (.t m) (.t k) false, none⟩, ⟨some d2, .bin .add (.t e1) (.c (.d (.v (.int .i64 1)))), none⟩, ⟨some d3, .me kt2 (.d (.v (.int .i64 0))) (.t m2) (.t k2), none⟩, ⟨some d4, .ext (.t e3) 1, none⟩, ⟨none, .mes (.t m3) (.t e4) (.t e2), none⟩] =>
    if (e1 = d1 ∧ e2 = d2 ∧ e3 = d3 ∧ e4 = d4 ∧ kt2 = kt ∧ m2 = m ∧ m3 = m ∧ k2 = k) ∧ (m ≠ d1 ∧ m ≠ d2 ∧ m ≠ d3 ∧ m ≠ d4 ∧ k ≠ d1 ∧ k ≠ d2 ∧ k ≠ d3 ∧ k ≠ d4) ∧ d2 ≠ d3 ∧ d2 ≠ d4 ∧ drawOk pr l = true ∧ (ancOf pr (l.length - 5 + 4)).contains (l.length - 5) = true then
      match pureRun (l.take (l.length - 5)) s H with
      | some s1 => if d1 < s1.length ∧ d2 < s1.length ∧ d3 < s1.length ∧ d4 < s1.length then
          match get s1 (.t m), keyOf (get s1 (.t k)) with
          | .mp b, some kv => if (List.range l.length).map (killsOf pr (List.replicate (l.length - 5) [] ++ [[], [], [b], [], [b]]) l.length) = List.replicate (l.length - 5) [] ++ [[b], [b], [], [], []] then
              match H[b]? with
              | some (.map kt' ck es) => if kt' = kt ∧ keyFits kt kv = true ∧ keq kv kv = true then
                  match mapGet es kv with
                  | some (.d (.v (.int .i64 x)), c) => match mapSt es c (.d (.v (.int .i64 (IntKind.i64.wrap (x + 1))))) with
                    | some es2 => some (b, setO (setO (setO (setO s1 (some d1) (.d (.v (.int .i64 x)))) (some d2) (.d (.v (.int .i64 (IntKind.i64.wrap (x + 1)))))) (some d3) (.tup [.d (.v (.int .i64 x)), .d (.v (.int .i64 c))])) (some d4) (.d (.v (.int .i64 c))), H.set b (.map kt ck es2))
                    | none => none
                  | some _ => none
                  | none => match mapSt (es ++ [(kv, .d (.v (.int .i64 0)), ck)]) ck (.d (.v (.int .i64 (IntKind.i64.wrap (0 + 1))))) with
                    | some es2 => some (b, setO (setO (setO (setO s1 (some d1) (.d (.v (.int .i64 0)))) (some d2) (.d (.v (.int .i64 (IntKind.i64.wrap (0 + 1)))))) (some d3) (.tup [.d (.v (.int .i64 0)), .d (.v (.int .i64 ck))])) (some d4) (.d (.v (.int .i64 ck))), H.set b (.map kt (ck + 1) es2))
                    | none => none
                else none
              | _ => none
            else none
          | _, _ => none
        else none
      | none => none
    else none
  | _ => none
theorem evK2_eq' (k : K) (s : List AV) (H : List ABlk) : evK2 k s H = evK k s H := evK2_eq k s H
theorem pureRun_sound {P : Program} : ∀ {l : List Ins} {s s1 : List AV} {H : List ABlk} {Kk : List AV → List ABlk → Prop}, pureRun l s H = some s1 → Kk s1 H → PChain P l s H Kk
  | [], s, s1, H, Kk, h, hk => by cases h; exact hk
  | ⟨d, k, none⟩ :: r, s, s1, H, Kk, h, hk => by
    simp only [pureRun] at h
    split at h
    · rename_i hp
      split at h
      · rename_i v H' e
        rw [evK2_eq'] at e
        have := pureK_sound hp e
        subst this
        have ih := pureRun_sound (P := P) h hk
        simp only [PChain, wanted]
        cases k <;> first | (simp [pureK] at hp; done) | exact (by simp only [e]; exact ⟨trivial, ih⟩)
      · cases h
    · cases h
  | ⟨_, _, some _⟩ :: _, _, _, _, _, h, _ => by simp [pureRun] at h
theorem get_put {s : List AV} {d : Nat} {v : AV} (h : d < s.length) : get (setO s (some d) v) (.t d) = v := by
  simp only [get, setO, List.getD_eq_getElem?_getD]
  rw [List.getElem?_set_self h]; rfl
theorem setO_len (s : List AV) (d : Nat) (v : AV) : (setO s (some d) v).length = s.length := List.length_set
theorem mRun_sound {P : Program} {hint : Nat → Option Md} {nb : Nat} {pr : List (List Nat)} {l : List Ins} {s s' : List AV} {H H' : List ABlk} {b : Nat} {Q : APost} (hm : P.follows .mixedOrders = true) (h : mRun pr l s H = some (b, s', H')) :
    (∃ x, b < H.length ∧ H' = H.set b x) ∧ (Q .normal s' H' → W P hint nb (.dreg pr l) s H Q) := by
  unfold mRun at h
  split at h
  · rename_i d1 kt m k d2 e1 d3 kt2 m2 k2 d4 e3 m3 e4 e2 hl
    split at h
    · rename_i hc
      obtain ⟨⟨rfl, rfl, rfl, rfl, rfl, rfl, rfl, rfl⟩, hd, n23, n24, hdr, han⟩ := hc
      split at h
      · rename_i s1 hp
        split at h
        · rename_i hlt
          obtain ⟨l1, l2, l3, l4⟩ := hlt
          split at h
          · rename_i b0 kv hb1 hk1
            split at h
            · rename_i hU
              split at h
              · rename_i kt' ck es hb
                split at h
                · rename_i hkk
                  obtain ⟨rfl, hf, hq⟩ := hkk
                  have mend : ∀ (x y : AV) (c : Nat) (G : List ABlk) (K : List AV → List ABlk → Prop), K (setO (setO (setO (setO s1 (some e1) x) (some e2) y) (some e3) (.tup [x, .d (.v (.int .i64 c))])) (some e4) (.d (.v (.int .i64 c)))) G → MEnd b0 e1 e2 e3 e4 m3 k2 x y c kv H G K s1 := fun x y c G K hK =>
                    ⟨hb1, hk1, get_put l1, get_put (by rw [setO_len, setO_len]; exact l3), get_put (by rw [setO_len, setO_len, setO_len]; exact l4), by rw [get_setO_ne n24, get_setO_ne n23]; exact get_put (by rw [setO_len]; exact l2), hK⟩
                  split at h
                  · rename_i x c hg
                    split at h
                    · rename_i es2 hst
                      cases h
                      refine ⟨⟨_, (List.getElem?_eq_some_iff.1 hb).1, rfl⟩, fun hQ => ?_⟩
                      exact W.dregM _ _ e1 e2 e3 e4 m3 k2 kt' (.d (.v (.int .i64 0))) (.d (.v (.int .i64 x))) _ (.d (.v (.int .i64 1))) ck ck c kv es es es2 hl hm hdr hU han hd hb hf hq (.inl ⟨hg, rfl, rfl⟩) rfl hst rfl (pureRun_sound hp ⟨rfl, mend _ _ _ _ _ hQ⟩)
                    · cases h
                  · cases h
                  · rename_i hg
                    split at h
                    · rename_i es2 hst
                      cases h
                      refine ⟨⟨_, (List.getElem?_eq_some_iff.1 hb).1, rfl⟩, fun hQ => ?_⟩
                      exact W.dregM _ _ e1 e2 e3 e4 m3 k2 kt' (.d (.v (.int .i64 0))) (.d (.v (.int .i64 0))) _ (.d (.v (.int .i64 1))) ck (ck + 1) ck kv es _ es2 hl hm hdr hU han hd hb hf hq (.inr ⟨hg, rfl, rfl, rfl, rfl⟩) rfl hst rfl (pureRun_sound hp ⟨rfl, mend _ _ _ _ _ hQ⟩)
                    · cases h
                · cases h
              · cases h
            · cases h
          · cases h
        · cases h
      · cases h
    · cases h
  · cases h
def evA (F : CF) (ok : FuncId → Bool) (n nb : Nat) : AC → List AV → List ABlk → EvR
  | .skip, s, H => some (.normal, s, H)
  | .reg l, s, H => match evIs F ok nb l s H with
    | some (s', H') => forceL H' fun H' => some (.normal, s', H')
    | none => none
  | .dreg pr l, s, H => match evD F pr l s H with
    | some (ws, s', H') => if (nb == 0 || ws.all fun w => w.all fun b => decide (nb ≤ b)) = true then forceL H' fun H' => some (.normal, s', H') else none
    | none => match mRun pr l s H with
      | some (b, s', H') => if (nb == 0 || decide (nb ≤ b)) = true then forceL H' fun H' => some (.normal, s', H') else none
      | none => none
  | .seq a b, s, H => match evA F ok n nb a s H with
    | some (.normal, s', H') => evA F ok n nb b s' H'
    | r => r
  | .cond x a b, s, H => match getF s x with
    | .d (.v (.bool true)) => evA F ok n nb a s H
    | .d (.v (.bool false)) => evA F ok n nb b s H
    | _ => none
  | .block id c, s, H => match evA F ok n nb c s H with
    | some (.exit id', s', H') => if id' = id then some (.normal, s', H') else some (.exit id', s', H')
    | r => r
  | .loop c, s, H => loopN (evA F ok n nb c) n s H
  | .exit id, s, H => some (.exit id, s, H)
  | .ret, s, H => some (.ret, s, H)
  | .stuck, _, _ => none
/-- What is known of each function: its code, its results, its number of slots. -/
abbrev Env := FuncId → Option (AC × List RC × Nat)
def evF (E : Env) : Nat → CF
  | 0 => fun _ _ _ _ => none
  | n + 1 => fun nb f args H => match E f with
    | some (ac, rs, nt) => match evA (evF E n) (fun f => (E f).isSome) 100000 nb ac (args ++ List.replicate (nt - args.length) .any) H with
      | some (.normal, s, H') => (resA rs s H').map fun v => (v, H')
      | some (.ret, s, H') => (resA rs s H').map fun v => (v, H')
      | _ => none
    | none => none

/-- The same, where some calls are known by their contracts. -/
def evX (X : CF) (E : Env) : Nat → CF
  | 0 => fun _ _ _ _ => none
  | n + 1 => fun nb f args H => match X nb f args H with
    | some r => some r
    | none => match E f with
      | some (ac, rs, nt) => match evA (evX X E n) (fun f => (E f).isSome) 100000 nb ac (args ++ List.replicate (nt - args.length) .any) H with
        | some (.normal, s, H') => (resA rs s H').map fun v => (v, H')
        | some (.ret, s, H') => (resA rs s H').map fun v => (v, H')
        | _ => none
      | none => none

/-! ### soundness -/
def Keep (nb : Nat) (H H' : List ABlk) : Prop := H'.take nb = H.take nb ∧ nb ≤ H'.length
theorem Keep.refl {nb : Nat} {H : List ABlk} (h : nb ≤ H.length) : Keep nb H H := ⟨rfl, h⟩
theorem Keep.trans {nb : Nat} {H H' H'' : List ABlk} (h : Keep nb H H') (k : Keep nb H' H'') : Keep nb H H'' := ⟨k.1.trans h.1, k.2⟩
theorem Keep.zero (H H' : List ABlk) : Keep 0 H H' := ⟨rfl, Nat.zero_le _⟩
theorem Keep.app {nb : Nat} {H l : List ABlk} (h : nb ≤ H.length) : Keep nb H (H ++ l) := ⟨List.take_append_of_le_length h, by rw [List.length_append]; omega⟩
theorem Keep.set {nb b : Nat} {H : List ABlk} {x : ABlk} (h : nb ≤ H.length) (hb : nb ≤ b) : Keep nb H (H.set b x) := ⟨List.take_set_of_le hb, by rw [List.length_set]; exact h⟩
theorem OpC.keep {nb : Nat} {H H' : List ABlk} {w : List Nat} (h : OpC H w H') (hn : nb ≤ H.length) (hw : ∀ b ∈ w, nb ≤ b) : Keep nb H H' := by
  cases h with
  | pure _ e => rw [e]; exact .refl hn
  | new x _ e => rw [e]; exact .app hn
  | old b x hb _ e => rw [e]; exact .set hn (hw b (by rw [hb]; simp))
theorem app_keep {nb e sz bytes : Nat} {md : Md} {a x : Opd} {s : List AV} {H H' : List ABlk} {v : AV} (hn : nb ≤ H.length) (ho : appOk nb (get s a) = true) (h : evK (.app md e sz bytes a x) s H = some (v, H')) : Keep nb H H' := by
  simp only [evK] at h
  split at h
  · split at h
    · split at h
      · split at h
        · split at h <;> (cases h; first | exact .refl hn | exact .app hn)
        · cases h
      · rename_i b _ _ e1
        rw [e1] at ho
        have hb : nb ≤ b := of_decide_eq_true ho
        split at h
        · split at h
          · cases h; exact .set hn hb
          · cases h
        · cases h
      · rename_i b _ _ _ e1
        rw [e1] at ho
        have hb : nb ≤ b := of_decide_eq_true ho
        split at h
        · split at h
          · cases h; exact (Keep.set hn hb).trans (.app (by rw [List.length_set]; exact hn))
          · cases h
        · cases h
      · cases h
    · unfold appH at h
      split at h
      · split at h
        · cases h; exact .app hn
        · cases h
      · rename_i b _ _ _ e1
        rw [e1] at ho
        have hb : nb ≤ b := of_decide_eq_true ho
        split at h
        · split at h
          · cases h; exact (Keep.set hn hb).trans (.app (by rw [List.length_set]; exact hn))
          · cases h
        · cases h
      · cases h
  · cases h
theorem opOk_keep {nb : Nat} {k : K} {s : List AV} {H H' : List ABlk} {v : AV} (hn : nb ≤ H.length) (ho : opOk nb k s H = true) (h : evK k s H = some (v, H')) : Keep nb H H' := by
  simp only [opOk, Bool.or_eq_true, beq_iff_eq] at ho
  rcases ho with rfl | ho
  · exact .zero _ _
  · split at ho
    · rename_i w hw
      exact (opW_sound h hw).keep hn fun b hb => of_decide_eq_true (List.all_eq_true.1 ho b hb)
    · split at ho
      · exact app_keep hn ho h
      · simp only [evK] at h
        cases h
        exact .app hn
      · cases ho
section
variable {P : Program} {F : CF} {ok : FuncId → Bool}
def FOk (P : Program) (F : CF) : Prop := ∀ nb f args H v H', nb ≤ H.length → F nb f args H = some (v, H') → ACalls P f args H (fun v' H'' => v' = v ∧ H'' = H') ∧ Keep nb H H'
theorem evIs_sound (hF : FOk P F) (hok : ∀ f, ok f = true → callOk P f = true) {nb : Nat} : ∀ {l : List Ins} {s : List AV} {H : List ABlk} {s' : List AV} {H' : List ABlk}, nb ≤ H.length → evIs F ok nb l s H = some (s', H') →
    Keep nb H H' ∧ ∀ {Kk : List AV → List ABlk → Prop}, Kk s' H' → wpIns P l s H Kk
  | [], s, H, s', H', hn, h => by
    simp only [evIs] at h
    cases h
    exact ⟨.refl hn, fun hk => hk⟩
  | i :: r, s, H, s', H', hn, h => by
    simp only [evIs, forceV_eq, forceL_eq, putK_eq, wantF_eq, getF_eq, getF_fun, evK2_eq] at h
    simp only [wpIns]
    cases hw : wanted s i.g with
    | none => rw [hw] at h; cases h
    | some b =>
      rw [hw] at h
      cases b with
      | false => exact evIs_sound hF hok hn h
      | true =>
        simp only at h ⊢
        cases hik : i.k
        case call f args =>
          simp only [hik] at h ⊢
          split at h
          · rename_i v H2 e
            obtain ⟨h1, h2⟩ := hF _ _ _ _ _ _ hn e
            obtain ⟨h3, h4⟩ := evIs_sound hF hok h2.2 h
            refine ⟨h2.trans h3, fun hk => h1.mono ?_⟩
            rintro v' H'' ⟨rfl, rfl⟩
            exact h4 hk
          · cases h
        case callv g args =>
          simp only [hik] at h ⊢
          split at h
          · rename_i f caps e
            rw [e]
            split at h
            · rename_i hf
              split at h
              · rename_i v H2 e2
                obtain ⟨h1, h2⟩ := hF _ _ _ _ _ _ hn e2
                obtain ⟨h3, h4⟩ := evIs_sound hF hok h2.2 h
                refine ⟨h2.trans h3, fun hk => ⟨hok _ hf, h1.mono ?_⟩⟩
                rintro v' H'' ⟨rfl, rfl⟩
                exact h4 hk
              · cases h
            · cases h
          · cases h
        all_goals (
          simp only [hik] at h ⊢
          split at h
          · rename_i ho
            split at h
            · rename_i v H2 e
              have h2 := opOk_keep hn ho e
              rw [e]
              obtain ⟨h3, h4⟩ := evIs_sound hF hok h2.2 h
              exact ⟨h2.trans h3, h4⟩
            · cases h
          · cases h)
theorem reG_keep {nb : Nat} {H G : List ABlk} {w : List Nat} (hn : nb ≤ H.length) (hw : ∀ b ∈ w, nb ≤ b) : Keep nb H (reG H G w) := by
  cases w with
  | nil => exact .refl hn
  | cons b w =>
    simp only [reG]
    split
    · exact .app hn
    · exact .set hn (hw b (by simp))
theorem dRun_keep {H0 : List ABlk} {nb : Nat} : ∀ {us : List (List Nat)} {l : List Ins} {s : List AV} {H : List ABlk} {ws : List (List Nat)} {s' : List AV} {H' : List ABlk}, nb ≤ H.length → dRun F H0 us l s H = some (ws, s', H') → (∀ w ∈ ws, ∀ b ∈ w, nb ≤ b) → Keep nb H H'
  | [], [], s, H, ws, s', H', hn, h, hw => by simp only [dRun] at h; cases h; exact .refl hn
  | [], _ :: _, s, H, ws, s', H', hn, h, hw => by simp only [dRun] at h; cases h
  | _ :: _, [], s, H, ws, s', H', hn, h, hw => by simp only [dRun] at h; cases h
  | u :: us, ⟨d, k, g⟩ :: r, s, H, ws, s', H', hn, h, hw => by
    simp only [dRun, forceV_eq, forceL_eq, putK_eq, wantF_eq, getF_eq, getF_fun, evK2_eq] at h
    split at h
    · split at h
      · split at h
        · split at h
          · split at h
            · rename_i e; cases h; exact dRun_keep hn e fun w hw' => hw w (by simp [hw'])
            · cases h
          · split at h
            · split at h
              · rename_i e; cases h; exact (Keep.app hn).trans (dRun_keep (by rw [List.length_append]; omega) e fun w hw' => hw w (by simp [hw']))
              · cases h
            · cases h
        · split at h
          · split at h
            · rename_i v G eG
              split at h
              · rename_i hG
                split at h
                · rename_i e
                  cases h
                  have h0 := hw _ (List.mem_cons_self ..) 0 (List.mem_range.2 hG.1)
                  have hz : nb = 0 := by omega
                  subst hz
                  exact .zero _ _
                · cases h
              · cases h
            · cases h
          · cases h
      · cases h
      · split at h
        · rename_i w ew
          split at h
          · rename_i v G eG
            split at h
            · split at h
              · rename_i ws' q e
                cases h
                have h2 := reG_keep (G := G) hn (hw w (by simp))
                exact h2.trans (dRun_keep h2.2 e fun w hw' => hw w (by simp [hw']))
              · cases h
            · cases h
          · cases h
        · cases h
    · split at h
      · rename_i e; cases h; exact dRun_keep hn e fun w hw' => hw w (by simp [hw'])
      · cases h
    · cases h
theorem take_pre {H G : List ABlk} (h : G.take H.length = H) : G = H ++ G.drop H.length := by
  have := List.take_append_drop H.length G
  rw [h] at this
  exact this.symm
theorem F_pure (hF : FOk P F) {f : FuncId} {args : List AV} {H : List ABlk} {v : AV} {G : List ABlk} (h : F H.length f args H = some (v, G)) (hr : ∀ r ∈ refs v, r < H.length) : ACalls P f args H fun v' H' => v' = v ∧ H' = H := by
  obtain ⟨h1, h2⟩ := hF _ _ _ _ _ _ (Nat.le_refl _) h
  refine h1.trim ?_
  rintro v' Hf ⟨rfl, rfl⟩
  have e : Hf = H ++ Hf.drop H.length := take_pre (by rw [h2.1, List.take_length])
  exact ⟨H, _, e, Nat.le_refl _, fun b k hb => .inl hb, hr, rfl, rfl⟩
theorem dRun_sound (hF : FOk P F) {H0 : List ABlk} : ∀ {us : List (List Nat)} {l : List Ins} {s : List AV} {H : List ABlk} {ws : List (List Nat)} {s' : List AV} {H' : List ABlk}, dRun F H0 us l s H = some (ws, s', H') →
    ws.length = l.length ∧ us.length = l.length ∧ (∀ z ∈ ws.zip us, ∀ b ∈ z.1, b ∉ z.2 ∧ H0[b]? ≠ some .dead) ∧ ∀ {Kk : List AV → List ABlk → Prop}, Kk s' H' → DC P (ws.zip us) l s H Kk
  | [], [], s, H, ws, s', H', h => by simp only [dRun] at h; cases h; exact ⟨rfl, rfl, fun z hz => by simp at hz, fun hk => hk⟩
  | [], _ :: _, s, H, ws, s', H', h => by simp only [dRun] at h; cases h
  | _ :: _, [], s, H, ws, s', H', h => by simp only [dRun] at h; cases h
  | u :: us, ⟨d, k, g⟩ :: r, s, H, ws, s', H', h => by
    have kl : (kill u H).length = H.length := kill_length u H
    simp only [dRun, forceV_eq, forceL_eq, putK_eq, wantF_eq, getF_eq, getF_fun, evK2_eq] at h
    split at h
    · rename_i hw
      split at h
      · rename_i f args
        split at h
        · rename_i v G e
          split at h
          · rename_i hrv
            split at h
            · rename_i ws' q e2
              cases h
              obtain ⟨h1, h2, h3, h4⟩ := dRun_sound hF e2
              rw [← kl] at e
              have hp := F_pure hF e fun r hr => by rw [kl]; exact of_decide_eq_true (List.all_eq_true.1 hrv r hr)
              refine ⟨by simp [h1], by simp [h2], fun z hz => ?_, fun hk => ?_⟩
              · rcases List.mem_cons.1 hz with rfl | hz
                · intro b hb; cases hb
                · exact h3 z hz
              · show PChain P [_] s (kill u H) _
                simp only [PChain, hw]
                exact ⟨v, hp, h4 hk⟩
            · cases h
          · split at h
            · rename_i hG
              obtain ⟨g1, g2, g3⟩ := hG
              split at h
              · rename_i ws' q e2
                cases h
                obtain ⟨h1, h2, h3, h4⟩ := dRun_sound hF e2
                obtain ⟨hc, hkeep, hkl⟩ := hF _ _ _ _ _ _ (by rw [kl]; exact Nat.le_refl _) e
                have hu : ∀ b ∈ u, b < H.length ∨ G.length ≤ b := fun b hb => by
                  have := List.all_eq_true.1 g2 b hb
                  simpa using this
                have hD : (G.drop H.length).length = G.length - H.length := List.length_drop
                have hGe : kill u (H ++ G.drop H.length) = G := by
                  rw [kill_app fun b hb => by rw [hD]; have := hu b hb; omega]
                  rw [List.take_of_length_le (l := kill u H) (by rw [kl]; exact Nat.le_refl _)] at hkeep
                  conv => rhs; rw [← List.take_append_drop H.length G, hkeep]
                have hmem : ∀ c, c ∈ ((List.range (G.length - H.length)).map fun j => H.length + j) ↔ H.length ≤ c ∧ c < G.length := fun c => by
                  rw [List.mem_map]
                  constructor
                  · rintro ⟨j, hj, rfl⟩
                    have := List.mem_range.1 hj
                    omega
                  · rintro ⟨c1, c2⟩
                    exact ⟨c - H.length, List.mem_range.2 (by omega), by omega⟩
                refine ⟨by simp [h1], by simp [h2], fun z hz => ?_, fun {Kk} hk => ?_⟩
                · rcases List.mem_cons.1 hz with rfl | hz
                  · intro b hb
                    refine ⟨fun hbu => ?_, fun hd => ?_⟩
                    · have h5 := (hmem b).1 hb
                      have := hu b hbu
                      omega
                    · have h5 := List.all_eq_true.1 g3 b hb
                      rw [notDead, hd] at h5
                      cases h5
                  · exact h3 z hz
                · have hne : ∃ b w, ((List.range (G.length - H.length)).map fun j => H.length + j) = b :: w := by
                    cases hr : ((List.range (G.length - H.length)).map fun j => H.length + j) with
                    | nil => have := congrArg List.length hr; rw [List.length_map, List.length_range, List.length_nil] at this; omega
                    | cons b w => exact ⟨b, w, rfl⟩
                  obtain ⟨b, w, hr⟩ := hne
                  have hout : ∀ c, c ∉ b :: w → (H ++ G.drop H.length)[c]? = H[c]? := fun c hc => by
                    rw [← hr, hmem] at hc
                    rcases Nat.lt_or_ge c H.length with h' | h'
                    · rw [List.getElem?_append_left h']
                    · rw [List.getElem?_eq_none (by rw [List.length_append, hD]; omega), List.getElem?_eq_none h']
                  rw [hr]
                  refine ⟨v, H ++ G.drop H.length, ?_, hout, by rw [List.length_append]; omega, h4 hk⟩
                  simp only [StepOk, hw]
                  rw [hGe]
                  exact hc
              · cases h
            · cases h
        · split at h
          · rename_i hu
            subst hu
            split at h
            · rename_i v G eG
              split at h
              · rename_i hG
                split at h
                · rename_i ws' q e2
                  cases h
                  obtain ⟨h1, h2, h3, h4⟩ := dRun_sound hF e2
                  obtain ⟨hc, _⟩ := hF _ _ _ _ _ _ (Nat.zero_le _) eG
                  refine ⟨by simp [h1], by simp [h2], fun z hz => ?_, fun {Kk} hk => ?_⟩
                  · rcases List.mem_cons.1 hz with rfl | hz
                    · intro b hb
                      refine ⟨by simp, fun hd => ?_⟩
                      have h5 := List.all_eq_true.1 hG.2.2 b hb
                      rw [notDead, hd] at h5
                      cases h5
                    · exact h3 z hz
                  · have hne : ∃ b w, List.range G.length = b :: w := by
                      cases hr : List.range G.length with
                      | nil => have := congrArg List.length hr; rw [List.length_range, List.length_nil] at this; have := hG.1; omega
                      | cons b w => exact ⟨b, w, rfl⟩
                    obtain ⟨b, w, hr⟩ := hne
                    have hout : ∀ c, c ∉ b :: w → G[c]? = H[c]? := fun c hc => by
                      rw [← hr, List.mem_range] at hc
                      rw [List.getElem?_eq_none (by omega), List.getElem?_eq_none (by omega)]
                    rw [hr]
                    refine ⟨v, G, ?_, hout, hG.2.1, h4 hk⟩
                    simp only [StepOk, hw]
                    exact hc
                · cases h
              · cases h
            · cases h
          · cases h
      · cases h
      · rename_i hk1 hk2
        split at h
        · rename_i w ew
          split at h
          · rename_i v G e
            split at h
            · rename_i hall
              split at h
              · rename_i ws' q e2
                cases h
                obtain ⟨h1, h2, h3, h4⟩ := dRun_sound hF e2
                have hz0 : ∀ b ∈ w, b ∉ u ∧ H0[b]? ≠ some .dead := fun b hb => by
                  have := List.all_eq_true.1 hall b hb
                  simp only [Bool.and_eq_true, Bool.not_eq_true', List.contains_eq_mem, decide_eq_false_iff_not] at this
                  refine ⟨this.1, fun hd => ?_⟩
                  have h5 := this.2
                  rw [notDead, hd] at h5
                  cases h5
                refine ⟨by simp [h1], by simp [h2], fun z hz => ?_, fun {Kk} hk => ?_⟩
                · rcases List.mem_cons.1 hz with rfl | hz
                  · exact hz0
                  · exact h3 z hz
                · have hstep : ∀ G2, G = kill u G2 → StepOk P ⟨d, k, g⟩ s (kill u H) v (kill u G2) := fun G2 hG => by
                    rw [← hG]
                    simp only [StepOk, hw]
                    cases k <;> first | exact absurd rfl (hk1 _ _) | exact absurd rfl (hk2 _ _) | exact e
                  have h4 := h4 hk
                  cases opW_sound e ew with
                  | pure w0 hG =>
                    subst w0
                    show PChain P [⟨d, k, g⟩] s (kill u H) _
                    simp only [PChain, hw]
                    cases k <;> first | exact absurd rfl (hk1 _ _) | exact absurd rfl (hk2 _ _) | (simp only [e]; exact ⟨hG, h4⟩)
                  | new x w0 hG =>
                    rw [kl] at w0
                    subst w0
                    have hr : reG H G [H.length] = H ++ [x] := by
                      simp only [reG, if_true]
                      rw [hG, ← kl, List.drop_left]
                    rw [hr] at h4
                    have hu : H.length ∉ u := (hz0 _ (by simp)).1
                    refine ⟨v, H ++ [x], hstep _ ?_, fun c hc => ?_, by simp, h4⟩
                    · rw [hG, kill_app fun b hb => ?_]
                      have : b ≠ H.length := fun e => hu (e ▸ hb)
                      simp only [List.length_cons, List.length_nil]
                      omega
                    · have hc : c ≠ H.length := by simpa using hc
                      rcases Nat.lt_or_ge c H.length with h' | h'
                      · exact List.getElem?_append_left h'
                      · rw [List.getElem?_eq_none (by simp; omega), List.getElem?_eq_none h']
                  | old b x w0 hb hG =>
                    subst w0
                    rw [kl] at hb
                    have hr : reG H G [b] = H.set b x := by
                      simp only [reG]
                      rw [if_neg (by omega), hG, List.getD_eq_getElem?_getD, List.getElem?_set_self (by rw [kl]; exact hb)]
                      rfl
                    rw [hr] at h4
                    refine ⟨v, H.set b x, hstep _ ?_, fun c hc => ?_, by simp, h4⟩
                    · rw [hG, kill_comm (hz0 b (by simp)).1]
                    · exact List.getElem?_set_ne fun e => hc (by simp [e])
              · cases h
            · cases h
          · cases h
        · cases h
    · rename_i hw
      split at h
      · rename_i ws' q e2
        cases h
        obtain ⟨h1, h2, h3, h4⟩ := dRun_sound hF e2
        refine ⟨by simp [h1], by simp [h2], fun z hz => ?_, fun hk => ?_⟩
        · rcases List.mem_cons.1 hz with rfl | hz
          · intro b hb; cases hb
          · exact h3 z hz
        · show PChain P [_] s (kill u H) _
          simp only [PChain, hw]
          exact h4 hk
      · cases h
    · cases h
theorem evA_sound {hint : Nat → Option Md} {nb0 : Nat} (hF : FOk P F) (hok : ∀ f, ok f = true → callOk P f = true) (hm : P.follows .mixedOrders = true) (n : Nat) {nb : Nat} : ∀ {ac : AC} {s : List AV} {H : List ABlk} {e : Exit} {s' : List AV} {H' : List ABlk},
    nb ≤ H.length → evA F ok n nb ac s H = some (e, s', H') → Keep nb H H' ∧ ∀ {Q : APost}, Q e s' H' → W P hint nb0 ac s H Q := by
  intro ac
  induction ac with
  | skip => intro s H e s' H' hn h; simp only [evA] at h; cases h; exact ⟨.refl hn, fun hq => .skip hq⟩
  | exit id => intro s H e s' H' hn h; simp only [evA] at h; cases h; exact ⟨.refl hn, fun hq => .exit hq⟩
  | ret => intro s H e s' H' hn h; simp only [evA] at h; cases h; exact ⟨.refl hn, fun hq => .ret hq⟩
  | stuck => intro s H e s' H' hn h; simp only [evA] at h; cases h
  | reg l =>
    intro s H e s' H' hn h
    simp only [evA, forceL_eq] at h
    split at h
    · rename_i s2 H2 e2
      cases h
      obtain ⟨h1, h2⟩ := evIs_sound hF hok hn e2
      exact ⟨h1, fun hq => .reg (h2 hq)⟩
    · cases h
  | dreg pr l =>
    intro s H e s' H' hn h
    simp only [evA, forceL_eq] at h
    split at h
    · rename_i ws s2 H2 e2
      split at h
      · rename_i hnb
        cases h
        obtain ⟨hd1, d2⟩ := evD_inv e2
        obtain ⟨h1, h2, h3, h4⟩ := dRun_sound hF d2
        have z1 : (ws.zip ((List.range l.length).map (killsOf pr ws l.length))).map (·.1) = ws := List.map_fst_zip (by rw [h1, h2]; exact Nat.le_refl _)
        have z2 : (ws.zip ((List.range l.length).map (killsOf pr ws l.length))).map (·.2) = (List.range l.length).map (killsOf pr ws l.length) := List.map_snd_zip (by rw [h1, h2]; exact Nat.le_refl _)
        refine ⟨?_, fun hq => W.dregD _ hm hd1 (by rw [List.length_zip, h1, h2, Nat.min_self]) (by rw [z1, z2]) h3 (h4 hq)⟩
        simp only [Bool.or_eq_true, beq_iff_eq] at hnb
        rcases hnb with rfl | hnb
        · exact .zero _ _
        · exact dRun_keep hn d2 fun w hw b hb => of_decide_eq_true (List.all_eq_true.1 (List.all_eq_true.1 hnb w hw) b hb)
      · cases h
    · split at h
      · rename_i b s2 H2 e3
        split at h
        · rename_i hnb
          cases h
          refine ⟨?_, fun hq => (mRun_sound hm e3).2 hq⟩
          obtain ⟨⟨x, hb, rfl⟩, -⟩ := mRun_sound (P := P) (hint := hint) (nb := 0) (Q := fun _ _ _ => True) hm e3
          simp only [Bool.or_eq_true, beq_iff_eq, decide_eq_true_eq] at hnb
          rcases hnb with rfl | hnb
          · exact .zero _ _
          · exact .set hn hnb
        · cases h
      · cases h
  | seq a b iha ihb =>
    intro s H e s' H' hn h
    simp only [evA] at h
    cases ha : evA F ok n nb a s H with
    | none => rw [ha] at h; cases h
    | some r =>
      obtain ⟨e1, s1, H1⟩ := r
      rw [ha] at h
      obtain ⟨k1, k2⟩ := iha hn ha
      cases e1 with
      | normal =>
        obtain ⟨k3, k4⟩ := ihb k1.2 h
        exact ⟨k1.trans k3, fun hq => .seq (k2 (k4 hq))⟩
      | _ => cases h; exact ⟨k1, fun hq => .seq (k2 hq)⟩
  | cond x a b iha ihb =>
    intro s H e s' H' hn h
    simp only [evA, getF_eq] at h
    split at h
    · rename_i hx
      obtain ⟨k1, k2⟩ := iha hn h
      exact ⟨k1, fun hq => .cond true hx (fun _ => k2 hq) (fun k => by cases k)⟩
    · rename_i hx
      obtain ⟨k1, k2⟩ := ihb hn h
      exact ⟨k1, fun hq => .cond false hx (fun k => by cases k) (fun _ => k2 hq)⟩
    · cases h
  | block id c ih =>
    intro s H e s' H' hn h
    simp only [evA] at h
    cases hc : evA F ok n nb c s H with
    | none => rw [hc] at h; cases h
    | some r =>
      obtain ⟨e1, s1, H1⟩ := r
      rw [hc] at h
      obtain ⟨k1, k2⟩ := ih hn hc
      cases e1 with
      | exit id' =>
        simp only at h
        split at h
        · rename_i hid
          cases h
          exact ⟨k1, fun hq => .block (k2 (by simp only [APost.inBlock, if_pos hid]; exact hq))⟩
        · rename_i hid
          cases h
          exact ⟨k1, fun hq => .block (k2 (by simp only [APost.inBlock, if_neg hid]; exact hq))⟩
      | _ => cases h; exact ⟨k1, fun hq => .block (k2 hq)⟩
  | loop c ih =>
    intro s H e s' H' hn h
    simp only [evA] at h
    have key : ∀ (k : Nat) (s1 : List AV) (H1 : List ABlk), nb ≤ H1.length → loopN (evA F ok n nb c) k s1 H1 = some (e, s', H') → Keep nb H1 H' := by
      intro k
      induction k with
      | zero => intro s1 H1 _ hk; simp only [loopN] at hk; cases hk
      | succ k ihk =>
        intro s1 H1 hn1 hk
        simp only [loopN] at hk
        cases hc : evA F ok n nb c s1 H1 with
        | none => rw [hc] at hk; cases hk
        | some r =>
          obtain ⟨e1, s2, H2⟩ := r
          rw [hc] at hk
          have k1 := (ih hn1 hc).1
          cases e1 with
          | normal => exact k1.trans (ihk s2 H2 k1.2 hk)
          | _ => cases hk; exact k1
    refine ⟨key n s H hn h, fun {Q} hq => ?_⟩
    refine .loop (fun k s H => nb ≤ H.length ∧ loopN (evA F ok n nb c) k s H = some (e, s', H')) n ⟨s, H, Wk.refl, hn, h⟩ ?_
    rintro k s1 H1 ⟨hn1, hk⟩
    cases k with
    | zero => simp only [loopN] at hk; cases hk
    | succ k =>
      simp only [loopN] at hk
      cases hc : evA F ok n nb c s1 H1 with
      | none => rw [hc] at hk; cases hk
      | some r =>
        obtain ⟨e1, s2, H2⟩ := r
        rw [hc] at hk
        obtain ⟨k1, k2⟩ := ih hn1 hc
        cases e1 with
        | normal => exact k2 ⟨k, by omega, s2, H2, Wk.refl, k1.2, hk⟩
        | _ => cases hk; exact k2 hq
structure EnvOk (P : Program) (E : Env) : Prop where
  m : P.follows .mixedOrders = true
  code : ∀ f ac rs nt, E f = some (ac, rs, nt) → callOk P f = true ∧ ∃ fn hint, P.funcs[f]? = some fn ∧ fn.body.bind (comp P hint) = some ac ∧ resC P fn = some rs ∧ fn.ntmps = nt
theorem evF_sound {E : Env} (hE : EnvOk P E) : ∀ n, FOk P (evF E n)
  | 0 => fun nb f args H v H' _ h => by simp only [evF] at h; cases h
  | n + 1 => fun nb f args H v H' hn h => by
    simp only [evF] at h
    cases he : E f with
    | none => rw [he] at h; cases h
    | some q =>
      obtain ⟨ac, rs, nt⟩ := q
      rw [he] at h
      obtain ⟨_, fn, hint, h1, h2, h3, h4⟩ := hE.code f ac rs nt he
      subst h4
      have hok : ∀ f, (E f).isSome = true → callOk P f = true := fun f hf => by
        cases hq : E f with
        | none => rw [hq] at hf; cases hf
        | some q => exact (hE.code f q.1 q.2.1 q.2.2 hq).1
      simp only at h
      split at h
      · rename_i s2 H2 e2
        obtain ⟨v2, hv, hh⟩ := Option.map_eq_some_iff.1 h
        cases hh
        obtain ⟨k1, _⟩ := evA_sound (hint := hint) (nb0 := 0) (evF_sound hE n) hok hE.m _ hn e2
        exact ⟨.enter h1 h2 h3 fun hcl => (evA_sound (evF_sound hE n) hok hE.m _ hn e2).2 ⟨_, hv, _, _, Wk.refl, rfl, rfl⟩, k1⟩
      · rename_i s2 H2 e2
        obtain ⟨v2, hv, hh⟩ := Option.map_eq_some_iff.1 h
        cases hh
        obtain ⟨k1, _⟩ := evA_sound (hint := hint) (nb0 := 0) (evF_sound hE n) hok hE.m _ hn e2
        exact ⟨.enter h1 h2 h3 fun hcl => (evA_sound (evF_sound hE n) hok hE.m _ hn e2).2 ⟨_, hv, _, _, Wk.refl, rfl, rfl⟩, k1⟩
      · cases h
theorem evX_sound {E : Env} {X : CF} (hX : FOk P X) (hE : EnvOk P E) : ∀ n, FOk P (evX X E n)
  | 0 => fun nb f args H v H' _ h => by simp only [evX] at h; cases h
  | n + 1 => fun nb f args H v H' hn h => by
    simp only [evX] at h
    cases hx : X nb f args H with
    | some r =>
      rw [hx] at h
      cases h
      exact hX nb f args H v H' hn hx
    | none =>
      rw [hx] at h
      simp only at h
      cases he : E f with
      | none => rw [he] at h; cases h
      | some q =>
        obtain ⟨ac, rs, nt⟩ := q
        rw [he] at h
        obtain ⟨_, fn, hint, h1, h2, h3, h4⟩ := hE.code f ac rs nt he
        subst h4
        have hok : ∀ f, (E f).isSome = true → callOk P f = true := fun f hf => by
          cases hq : E f with
          | none => rw [hq] at hf; cases hf
          | some q => exact (hE.code f q.1 q.2.1 q.2.2 hq).1
        simp only at h
        split at h
        · rename_i s2 H2 e2
          obtain ⟨v2, hv, hh⟩ := Option.map_eq_some_iff.1 h
          cases hh
          obtain ⟨k1, _⟩ := evA_sound (hint := hint) (nb0 := 0) (evX_sound hX hE n) hok hE.m _ hn e2
          exact ⟨.enter h1 h2 h3 fun hcl => (evA_sound (evX_sound hX hE n) hok hE.m _ hn e2).2 ⟨_, hv, _, _, Wk.refl, rfl, rfl⟩, k1⟩
        · rename_i s2 H2 e2
          obtain ⟨v2, hv, hh⟩ := Option.map_eq_some_iff.1 h
          cases hh
          obtain ⟨k1, _⟩ := evA_sound (hint := hint) (nb0 := 0) (evX_sound hX hE n) hok hE.m _ hn e2
          exact ⟨.enter h1 h2 h3 fun hcl => (evA_sound (evX_sound hX hE n) hok hE.m _ hn e2).2 ⟨_, hv, _, _, Wk.refl, rfl, rfl⟩, k1⟩
        · cases h
/-- What tells plain values out of nothing tells them beside anything. -/
theorem ACalls.plain {f : FuncId} {x : Value} (h : ACalls P f [] [] fun v _ => v = .d (.v x)) (H : List ABlk) : ACalls P f [] H fun v H' => v = .d (.v x) ∧ H' = H := by
  intro σ w vs h1 h2
  have h0 : HR ⟨σ.M, fun _ _ => none⟩ [] w := ⟨h1.mem, fun b k hb => by simp at hb, fun _ _ _ => rfl, fun b b' k k' u u' g hb => by simp at hb⟩
  have hv : vs = [] := by have := h2.1; simpa using this.symm
  subst hv
  refine (h ⟨σ.M, fun _ _ => none⟩ w [] h0 .nil).mono fun e w' he => ?_
  obtain ⟨σ', H', v, u, e1, x1, x2, x3, rfl⟩ := he
  have nofoot : ∀ k, ¬ foot ⟨σ.M, fun _ _ => none⟩ [] k := fun k => by
    rintro ⟨b, blk, v', hb, _⟩
    simp at hb
  have hfr : ∀ k, k < w.heap.size → w'.heap[k]? = w.heap[k]? := fun k hk => x1.frame k hk (nofoot k)
  refine ⟨σ, H, .d (.v x), u, e1, ⟨.refl σ, x1.os, x1.tape, x1.output, x1.size, fun k hk _ => hfr k hk, fun k hk => .inl hk, fun a ha => absurd rfl ha, fun b hb => ⟨hb, fun _ => rfl⟩⟩, ?_, ?_, rfl, rfl⟩
  · refine ⟨⟨fun a v ha => ?_, h1.mem.gl, x2.mem.sz⟩, fun b k hb => ?_, h1.fresh, h1.inj⟩
    · exact x2.mem a v (x1.le.M a v ha)
    · exact (h1.blk b k hb).keep (.refl σ) (fun _ => rfl) fun v' g hl hv' hc => ⟨hfr g ((h1.blk b k hb).lt hl hv' hc), fun _ _ => rfl⟩
  · cases x3 with | d hd => cases hd with | v hp => exact .d (.v hp)
/-- A CALL OF NOTHING THAT TELLS TRUE, by evaluation. -/
theorem EnvOk.tells {E : Env} (hE : EnvOk P E) {f : FuncId} (n : Nat) (h : (match evF E n 0 f [] [] with | some (.d (.v (.bool b)), _) => b | _ => false) = true) (H : List ABlk) : ACalls P f [] H fun v H' => v = .d (.v (.bool true)) ∧ H' = H := by
  split at h
  · rename_i b H' e
    subst h
    exact (((evF_sound hE n) 0 f [] [] _ _ (Nat.le_refl _) e).1.mono fun v H'' hv => hv.1).plain H
  · cases h
theorem EnvOk.tellsX {E : Env} {X : CF} (hX : FOk P X) (hE : EnvOk P E) {f : FuncId} (n : Nat) (h : (match evX X E n 0 f [] [] with | some (.d (.v (.bool b)), _) => b | _ => false) = true) (H : List ABlk) : ACalls P f [] H fun v H' => v = .d (.v (.bool true)) ∧ H' = H := by
  split at h
  · rename_i b H' e
    subst h
    exact (((evX_sound hX hE n) 0 f [] [] _ _ (Nat.le_refl _) e).1.mono fun v H'' hv => hv.1).plain H
  · cases h
end
end
end Go.Proofs.YtmgmoamcbnkbfaaGreatDoor
