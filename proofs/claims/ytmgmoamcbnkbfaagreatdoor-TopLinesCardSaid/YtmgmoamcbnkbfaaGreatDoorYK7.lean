/- strconv.FormatUint to the base 16. -/
import Derived.Test.YtmgmoamcbnkbfaaGreatDoorYK5
import Derived.Test.YtmgmoamcbnkbfaaGreatDoorYQ2
set_option linter.unusedVariables false
set_option linter.unusedSimpArgs false
set_option linter.unusedSectionVars false
namespace Go.Proofs.YtmgmoamcbnkbfaaGreatDoor
set_option linter.unusedSimpArgs false
set_option linter.unusedVariables false
set_option maxRecDepth 20000
set_option maxHeartbeats 2000000
open Go.RowKit

abbrev lv (n : Int) : AV := .d (.v (.int .u64 n))
abbrev b8 (n : Int) : AV := .d (.v (.int .u8 n))
abbrev hx8 (l : List Nat) : List AV := l.map fun d => b8 ((hexD d).toNat : Nat)
theorem and15 (a : Nat) (h : a < 18446744073709551616) : IntKind.u64.wrap ((BitVec.ofInt IntKind.u64.bits (a : Int) &&& BitVec.ofInt IntKind.u64.bits 15).toNat : Int) = ((a % 16 : Nat) : Int) := by
  have e1 : (BitVec.ofInt IntKind.u64.bits (a : Int) &&& BitVec.ofInt IntKind.u64.bits 15).toNat = a % 16 := by
    rw [BitVec.toNat_and]
    have h1 : (BitVec.ofInt IntKind.u64.bits (a : Int)).toNat = a := by
      rw [BitVec.toNat_ofInt]
      simp only [IntKind.bits]
      omega
    have h2 : (BitVec.ofInt IntKind.u64.bits 15).toNat = 2 ^ 4 - 1 := by decide
    rw [h1, h2, Nat.and_two_pow_sub_one_eq_mod]
  rw [e1]
  simp only [IntKind.wrap, IntKind.bits, IntKind.signed]
  simp
  omega
def dgS : ByteArray := ⟨#[48, 49, 50, 51, 52, 53, 54, 55, 56, 57, 97, 98, 99, 100, 101, 102, 103, 104, 105, 106, 107, 108, 109, 110, 111, 112, 113, 114, 115, 116, 117, 118, 119, 120, 121, 122]⟩
theorem dgS_at : ∀ d : Fin 16, dgS.data.toList.getD d.1 0 = hexD d.1 := by decide +kernel
theorem ev_dg {s : List AV} {H : List ABlk} {i : Opd} {k : IntKind} {d : Nat} (hd : d < 16) (hi : get s i = .d (.v (.int k d))) : evK (.ix (.c (sv dgS)) i) s H = some (b8 ((hexD d).toNat : Nat), H) := by
  have hx : get s (.c (sv dgS)) = sv dgS := rfl
  have h1 := dgS_at ⟨d, hd⟩
  simp only at h1
  simp only [evK, hx, hi, Int.toNat_natCast, h1]
  rw [if_pos ⟨by omega, by have : dgS.size = 36 := by decide
                           rw [this]; omega⟩]
theorem isp_c (H : List ABlk) : ACalls Tryz.prog 128 [iv 16] H fun v H' => v = bv true ∧ H' = H := by
  refine ACalls.into Tryz.func128 cc128 rr128 fun hcl => ?_
  simp (maxSteps := 2000000) (disch := omega) only [Tryz.ntmps128, c128, r128, go_sem, seval, eq_self, if_true, if_false, reduceCtorEq]
  exact Ret.keep ⟨rfl, rfl⟩
/-- The array when the digits l lie at its end. -/
def ar (l : List Nat) : List AV := List.replicate (65 - l.length) (b8 0) ++ hx8 l
theorem ar_len {l : List Nat} (h : l.length ≤ 65) : (ar l).length = 65 := by simp [ar]; omega
theorem ar_set {l : List Nat} (h : l.length < 65) (d : Nat) : List.take (64 - l.length) (ar l) ++ b8 ((hexD d).toNat : Nat) :: List.drop (64 - l.length + 1) (ar l) = ar (d :: l) := by
  obtain ⟨k, hk⟩ : ∃ k, 65 - l.length = k + 1 := ⟨64 - l.length, by omega⟩
  have e1 : 64 - l.length = k := by omega
  have e2 : 65 - (d :: l).length = k := by rw [List.length_cons]; omega
  simp only [ar, hk, e1, e2, hx8, List.map_cons]
  rw [List.take_append_of_le_length (by simp), List.drop_append_of_le_length (by simp)]
  simp [List.take_replicate, List.drop_replicate]
theorem el_ar {H : List ABlk} {b cap : Nat} {l : List Nat} (hl : l.length ≤ 65) (hb : H[b]? = some (.cells (ar l))) : elemsA H 1 (.hsl b (65 - l.length) l.length cap 1) = some (l.map fun d => [b8 ((hexD d).toNat : Nat)]) := by
  have hal := ar_len hl
  simp only [elemsA, hb]
  rw [if_pos ⟨by omega, trivial⟩]
  congr 1
  apply List.ext_getElem?
  intro i
  rw [List.getElem?_map, List.getElem?_map]
  by_cases hi : i < l.length
  · rw [List.getElem?_range hi, List.getElem?_eq_getElem hi]
    simp only [Option.map_some, Option.some.injEq, Nat.mul_one]
    have h1 : (ar l).drop (65 - l.length + i) = (hx8 l).drop i := by
      unfold ar
      rw [List.drop_append, List.drop_eq_nil_of_le (by simp), List.nil_append]
      simp
    rw [h1]
    have h2 : i < (hx8 l).length := by simpa using hi
    rw [List.drop_eq_getElem_cons h2, List.take_succ_cons, List.take_zero]
    simp [hx8]
  · rw [List.getElem?_eq_none (by simpa using hi), List.getElem?_eq_none (by simpa using hi)]
    rfl
theorem by_hex : ∀ l : List Nat, bytesOf (l.map fun d => [b8 ((hexD d).toNat : Nat)]) = some (l.map hexD)
  | [] => rfl
  | d :: l => by
    simp only [List.map_cons, bytesOf, by_hex l, Int.toNat_natCast]
    simp
theorem fbits_c (u : Nat) (hu : u < 4294967296) (H : List ABlk) : ACalls Tryz.prog 100 [.esl, lv u, iv 16, bv false, bv false] H fun v H' => v = .tup [.esl, sv (bs ((digs u).map hexD))] ∧ H' = H := by
  refine ACalls.enter Tryz.func100 cc100 rr100 fun hcl => ?_
  simp only [Tryz.ntmps100, c100, r100]
  refine W.seq_reg ?_
  simp (maxSteps := 2000000) (disch := omega) only [go_sem, seval, eq_self, if_true, if_false, reduceCtorEq]
  refine W.cut (fun s' H' => s' = [.esl, lv u, iv 16, bv false, bv false, .any, .any, .any, .any, .any, .esl] ++ List.replicate 91 .any ∧ H' = H) (wpA.W ?_) ?_
  · simp (maxSteps := 2000000) (disch := omega) only [go_sem, seval, eq_self, if_true, if_false, reduceCtorEq]
    exact ⟨_, _, Wk.slots (by (try simp only [List.replicate, List.cons_append, List.nil_append]); repeat' first | exact WkL.nil | refine WkL.cons (Wk1.rfl _) ?_ | refine WkL.cons Wk1.esl ?_ | refine WkL.cons (Wk1.gsl _ _ _) ?_ | refine WkL.cons (Wk1.any _) ?_), rfl, rfl⟩
  rintro s' H' ⟨rfl, rfl⟩
  refine W.cut (fun s1 H1 => s1 = [.esl, lv u, iv 16, bv false, bv false, .any, .any, .any, .any, .any, .esl, .any, .ptr H'.length 0] ++ List.replicate 89 .any ∧ H1 = H' ++ [.cells (ar [])]) (wpA.W ?_) ?_
  · simp (maxSteps := 2000000) (disch := omega) only [go_sem, seval, eq_self, if_true, if_false, reduceCtorEq]
    exact ⟨_, _, Wk.slots (by (try simp only [List.replicate, List.cons_append, List.nil_append]); repeat' first | exact WkL.nil | refine WkL.cons (Wk1.rfl _) ?_ | refine WkL.cons Wk1.esl ?_ | refine WkL.cons (Wk1.gsl _ _ _) ?_ | refine WkL.cons (Wk1.any _) ?_), rfl, rfl⟩
  rintro s1 H1 ⟨rfl, rfl⟩
  refine wpA.W ?_
  simp (maxSteps := 2000000) (disch := omega) only [go_sem, seval, eq_self, if_true, if_false, reduceCtorEq]
  refine Cont.mk (isp_c _) ?_
  simp (maxSteps := 2000000) (disch := omega) only [go_sem, seval, eq_self, if_true, if_false, reduceCtorEq]
  refine Cont.mk (tz16_c _) ?_
  simp (maxSteps := 2000000) (disch := omega) only [go_sem, seval, eq_self, if_true, if_false, reduceCtorEq]
  obtain ⟨S, hS⟩ : ∃ S : Nat × List Nat → List AV, ∀ g, S g = [.esl, lv g.1, iv 16, bv false, bv false, .any, .any, .any, .any, .any, .esl, .any, .ptr H'.length 0, iv (65 - (g.2.length : Int)), lv 4, lv 16, lv 15] ++ List.replicate 85 .any := ⟨_, fun _ => rfl⟩
  refine W.loopG (γ := Nat × List Nat) (fun g => g.1) S (fun g => H' ++ [.cells (ar g.2)]) (fun g => digs u = digs g.1 ++ g.2 ∧ g.1 < 16 ^ (8 - g.2.length) ∧ g.2.length ≤ 7) (u, []) (Wk.slots (by rw [hS]; exact WkL.tail 17 _ rfl (by simp only [List.take_succ_cons, List.take_zero]; repeat' first | exact WkL.nil | refine WkL.cons (Wk1.rfl _) ?_ | refine WkL.cons Wk1.esl ?_ | refine WkL.cons (Wk1.gsl _ _ _) ?_ | refine WkL.cons (Wk1.any _) ?_))) ⟨by simp, by simpa using hu, by simp⟩ (fun g hg => ?_)
  obtain ⟨v, L⟩ := g
  obtain ⟨hd, hv, hL⟩ := hg
  simp only at hd hv hL
  have hal := ar_len (l := L) (by omega)
  have hv64 : v < 18446744073709551616 := by
    have : 16 ^ (8 - L.length) ≤ 16 ^ 8 := Nat.pow_le_pow_right (by decide) (by omega)
    omega
  have hA := and15 v hv64
  have hA2 := hA
  try simp only [go_sem, seval, eq_self, if_true, if_false, reduceCtorEq] at hA2
  have hj : (65 - (L.length : Int) - 1).toNat = 64 - L.length := by omega
  by_cases h16 : 16 ≤ v
  · have hx : digs v = digs (v / 16) ++ [v % 16] := digs_big (by omega)
    have hz := ar_set (l := L) (by omega) (v % 16)
    have hvd : v / 16 < 16 ^ (8 - (L.length + 1)) := by
      obtain ⟨n, hn⟩ : ∃ n, 8 - L.length = n + 1 := ⟨7 - L.length, by omega⟩
      rw [show 8 - (L.length + 1) = n by omega, Nat.div_lt_iff_lt_mul (by decide)]
      rw [hn, Nat.pow_succ] at hv; exact hv
    have hs36 : (#[48, 49, 50, 51, 52, 53, 54, 55, 56, 57, 97, 98, 99, 100, 101, 102, 103, 104, 105, 106, 107, 108, 109, 110, 111, 112, 113, 114, 115, 116, 117, 118, 119, 120, 121, 122] : Array UInt8).size = 36 := rfl
    have hdg : ([48, 49, 50, 51, 52, 53, 54, 55, 56, 57, 97, 98, 99, 100, 101, 102, 103, 104, 105, 106, 107, 108, 109, 110, 111, 112, 113, 114, 115, 116, 117, 118, 119, 120, 121, 122] : List UInt8).getD (v % 16) 0 = hexD (v % 16) := dgS_at ⟨v % 16, by omega⟩
    have he : 65 - (L.length : Int) - 1 = 65 - (((v % 16 :: L).length : Nat) : Int) := by rw [List.length_cons]; omega
    simp (maxSteps := 2000000) (disch := omega) only [hS, c100l1, hA, hA2, hs36, hdg, hj, hal, hz, go_sem, seval, eq_self, if_true, if_false, reduceCtorEq]
    rw [he, show (v : Int) / 16 = ((v / 16 : Nat) : Int) from rfl]
    have h7 : L.length + 1 ≤ 7 := by
      refine Nat.le_of_not_lt fun h => ?_
      have h7 : L.length = 7 := by omega
      rw [h7] at hv; omega
    refine Nxt.mk (v / 16, v % 16 :: L) (by simp only; omega) (Wk.slots (by rw [hS]; exact WkL.tail 17 _ rfl (by simp only [List.take_succ_cons, List.take_zero]; repeat' first | exact WkL.nil | refine WkL.cons (Wk1.rfl _) ?_ | refine WkL.cons Wk1.esl ?_ | refine WkL.cons (Wk1.gsl _ _ _) ?_ | refine WkL.cons (Wk1.any _) ?_))) ⟨by simp only; rw [hd, hx, List.append_assoc]; rfl, by simpa using hvd, by simpa using h7⟩
  · have hx : digs v = [v] := digs_small (by omega)
    have hs36 : (#[48, 49, 50, 51, 52, 53, 54, 55, 56, 57, 97, 98, 99, 100, 101, 102, 103, 104, 105, 106, 107, 108, 109, 110, 111, 112, 113, 114, 115, 116, 117, 118, 119, 120, 121, 122] : Array UInt8).size = 36 := rfl
    have hdg : ([48, 49, 50, 51, 52, 53, 54, 55, 56, 57, 97, 98, 99, 100, 101, 102, 103, 104, 105, 106, 107, 108, 109, 110, 111, 112, 113, 114, 115, 116, 117, 118, 119, 120, 121, 122] : List UInt8).getD v 0 = hexD v := dgS_at ⟨v, by omega⟩
    have hz := ar_set (l := L) (by omega) v
    have hal2 := ar_len (l := v :: L) (by rw [List.length_cons]; omega)
    have hel := el_ar (H := H' ++ [.cells (ar (v :: L))]) (b := H'.length) (cap := (v :: L).length) (l := v :: L) (by rw [List.length_cons]; omega) (by simp)
    rw [List.length_cons, show 65 - (L.length + 1) = 64 - L.length by omega, show L.length + 1 = 65 - (64 - L.length) by omega] at hel
    have hby := by_hex (v :: L)
    simp only [List.map_cons] at hby
    have hdd : digs u = v :: L := by rw [hd, hx]; rfl
    rw [hdd]
    simp (maxSteps := 2000000) (disch := omega) only [hS, c100l1, hs36, hdg, hj, hal, hz, hal2, hel, hby, go_sem, seval, eq_self, if_true, if_false, reduceCtorEq]
    exact Ret.drop _ H' (Nat.le_refl _) hcl (.rfl _) (by simp [refs, refs.refsL]) ⟨rfl, rfl⟩
theorem fu16_c (u : Nat) (hu : u < 4294967296) (H : List ABlk) : ACalls Tryz.prog 37 [lv u, iv 16] H fun v H' => v = sv (bs ((digs u).map hexD)) ∧ H' = H := by
  have h1 : ∀ H, ACalls Tryz.prog 61 [lv u, iv 16] H fun v H' => v = sv (bs ((digs u).map hexD)) ∧ H' = H := fun H => by
    refine ACalls.into Tryz.func61 cc61 rr61 fun hcl => ?_
    simp (maxSteps := 2000000) (disch := omega) only [Tryz.ntmps61, c61, r61, go_sem, seval, eq_self, if_true, if_false, reduceCtorEq]
    refine Cont.mk (fbits_c u hu _) ?_
    simp (maxSteps := 2000000) (disch := omega) only [go_sem, seval, eq_self, if_true, if_false, reduceCtorEq]
    exact Ret.keep ⟨rfl, rfl⟩
  refine ACalls.into Tryz.func37 cc37 rr37 fun hcl => ?_
  simp (maxSteps := 2000000) (disch := omega) only [Tryz.ntmps37, c37, r37, go_sem, seval, eq_self, if_true, if_false, reduceCtorEq]
  refine Cont.mk (h1 _) ?_
  simp (maxSteps := 2000000) (disch := omega) only [go_sem, seval, eq_self, if_true, if_false, reduceCtorEq]
  exact Ret.keep ⟨rfl, rfl⟩
/-- A word that is no instruction, as a line. -/
def rawT (u : Nat) : List UInt8 := 35 :: (hex8 u).map hexD
theorem rep0 : ∀ k : Nat, Lib.repeatL [48] k = (List.replicate k 0).map hexD
  | 0 => rfl
  | k + 1 => by
    simp only [Lib.repeatL, rep0 k, List.replicate_succ, List.map_cons]
    rfl
theorem raw_c (u : Nat) (hu : u < 4294967296) (H : List ABlk) : ACalls Tryz.prog 17 [.d (.v (.int .u32 u))] H fun v H' => v = sv (bs (rawT u)) ∧ H' = H := by
  obtain ⟨hl1, hl2⟩ := digs_len 7 u (by simpa using hu)
  have hsz : (bs ((digs u).map hexD)).size = (digs u).length := by
    show ((digs u).map hexD).toArray.size = _
    simp
  have hr := repeat_c ⟨#[48]⟩ (8 - (digs u).length) (by show 1 * _ ≤ _; omega) (by omega) (by decide)
  have hr1 : ((8 - (digs u).length : Nat) : Int) = 8 - ((digs u).length : Int) := by omega
  have hr2 : Lib.repeatL (⟨#[48]⟩ : ByteArray).data.toList (8 - (digs u).length) = (List.replicate (8 - (digs u).length) 0).map hexD := rep0 _
  rw [hr1, hr2] at hr
  refine ACalls.into Tryz.func17 cc17 rr17 fun hcl => ?_
  simp (maxSteps := 2000000) (disch := omega) only [Tryz.ntmps17, c17, r17, go_sem, seval, eq_self, if_true, if_false, reduceCtorEq]
  refine Cont.mk (fu16_c u hu _) ?_
  simp (maxSteps := 2000000) (disch := omega) only [hsz, go_sem, seval, eq_self, if_true, if_false, reduceCtorEq]
  refine Cont.mk (hr _) ?_
  have e1 : (⟨#[35]⟩ : ByteArray) ++ ⟨((List.replicate (8 - (digs u).length) 0).map hexD).toArray⟩ = bs (35 :: (List.replicate (8 - (digs u).length) 0).map hexD) := bs_app [35] _
  have e2 : bs (35 :: (List.replicate (8 - (digs u).length) 0).map hexD) ++ bs ((digs u).map hexD) = bs (rawT u) := by
    rw [bs_app]; simp [rawT, hex8]
  have a1 := add_ok (a := [35]) (b := (List.replicate (8 - (digs u).length) 0).map hexD) (by simp; omega)
  have a2 := add_ok (a := 35 :: (List.replicate (8 - (digs u).length) 0).map hexD) (b := (digs u).map hexD) (by simp; omega)
  simp (maxSteps := 2000000) (disch := omega) only [e1, e2, a1, a2, go_sem, seval, eq_self, if_true, if_false, reduceCtorEq]
  exact Ret.keep ⟨rfl, rfl⟩
end Go.Proofs.YtmgmoamcbnkbfaaGreatDoor

/- strconv.ParseUint to the base 16. -/
namespace Go.Proofs.YtmgmoamcbnkbfaaGreatDoor
set_option linter.unusedSimpArgs false
set_option linter.unusedVariables false
set_option maxRecDepth 20000
set_option maxHeartbeats 2000000
open Go.RowKit

theorem lower_c (d : Nat) (h0 : 10 ≤ d) (h1 : d < 16) (H : List ABlk) : ACalls Tryz.prog 88 [b8 ((87 + d : Nat) : Int)] H fun v H' => v = b8 ((87 + d : Nat) : Int) ∧ H' = H := by
  have : d = 10 ∨ d = 11 ∨ d = 12 ∨ d = 13 ∨ d = 14 ∨ d = 15 := by omega
  rcases this with rfl | rfl | rfl | rfl | rfl | rfl <;>
  · refine ACalls.into Tryz.func88 cc88 rr88 fun hcl => ?_
    simp (maxSteps := 2000000) (disch := omega) only [Tryz.ntmps88, c88, r88, go_sem, seval, eq_self, if_true, if_false, reduceCtorEq]
    exact Ret.keep ⟨rfl, rfl⟩
theorem by_len (l : List UInt8) : (l.map by8).length = l.length := List.length_map ..
theorem by_ia {l : List UInt8} {k : Nat} (h : k < l.length) : iaA (.d (.sl (l.map by8))) (k : Int) 1 = some (.ip (by8 (l.getD k 0))) := by
  have hl := by_len l
  have hx : (l.map by8).getD k [] = by8 (l.getD k 0) := by simp [List.getD_eq_getElem?_getD, List.getElem?_eq_getElem h]
  simp only [iaA]
  rw [if_pos ⟨by omega, by omega, by rw [Int.toNat_natCast, hx]; rfl⟩, Int.toNat_natCast, hx]
theorem pui_c (ds : List Nat) (hl : ds.length = 8) (hd : ∀ d ∈ ds, d < 16) (H : List ABlk) : ACalls Tryz.prog 56 [sv (bs (ds.map hexD)), iv 16, iv 32] H fun v H' => v = .tup [lv (hexV 0 ds), .d (.v .nilIface)] ∧ H' = H := by
  have hsz : (bs (ds.map hexD)).size = 8 := by rw [bs_size, List.length_map]; exact hl
  have hne : (bs (ds.map hexD) = ⟨#[]⟩) = False := eq_false fun h => by rw [h] at hsz; cases hsz
  refine ACalls.enter Tryz.func56 cc56 rr56 fun hcl => ?_
  simp only [Tryz.ntmps56, c56, r56]
  refine W.seq_reg ?_
  simp (maxSteps := 2000000) (disch := omega) only [go_sem, seval, eq_self, if_true, if_false, reduceCtorEq]
  refine wpA.W ?_
  have hs8 : (ds.map hexD).toArray.size = 8 := by simpa using hl
  have hlD : ((ds.map hexD).map by8).length = 8 := by rw [by_len, List.length_map]; exact hl
  simp (maxSteps := 2000000) (disch := omega) only [hne, hs8, hlD, go_sem, seval, eq_self, if_true, if_false, reduceCtorEq]
  obtain ⟨S, hS⟩ : ∃ S : Nat → List AV, ∀ k, S k = [sv (bs (ds.map hexD)), iv 16, iv 32, .any, .any, .any, .any, .any, bv false, .any, lv 1152921504606846976, lv 4294967295, bv false, lv (hexV 0 (ds.take k)), .any, .any, .any, .any, .any, .any, .any, .any, .any, .any, .any, .any, .any, .any, .any, .any, .any, .any, .any, .any, .any, .any, .any, .any, .any, .any, .any, .any, .any, .any, .any, .any, .any, .any, .any, .any, .any, .any, .any, .any, .any, .any, .any, .any, .any, .any, .any, .any, .any, .any, .any, .any, .any, .any, .any, .any, .any, .any, .any, .any, .any, .any, .any, .any, .any, .any, .any, .any, .any, .any, .any, .any, .any, .any, .any, .any, .any, .any, .any, .any, .any, .any, .any, .any, .any, .d (.sl ((ds.map hexD).map by8)), iv 8, iv k] ++ List.replicate 70 .any := ⟨_, fun _ => rfl⟩
  refine W.loopG (γ := Nat) (fun k => 8 - k) S (fun _ => H) (fun k => k ≤ 8) 0 (Wk.slots (by rw [hS]; exact WkL.tail 102 _ rfl (by simp only [List.take_succ_cons, List.take_zero]; repeat' first | exact WkL.nil | refine WkL.cons (Wk1.rfl _) ?_ | refine WkL.cons Wk1.esl ?_ | refine WkL.cons (Wk1.gsl _ _ _) ?_ | refine WkL.cons (Wk1.any _) ?_))) (by simp) (fun k hk => ?_)
  by_cases h8 : k < 8
  · obtain ⟨d, hdk⟩ : ∃ d, ds[k]? = some d := ⟨_, List.getElem?_eq_getElem (by omega)⟩
    have hd16 := hd d (List.mem_of_getElem? hdk)
    have hia := by_ia (l := ds.map hexD) (k := k) (by rw [List.length_map]; omega)
    have hg : (ds.map hexD).getD k 0 = hexD d := by rw [List.getD_eq_getElem?_getD, List.getElem?_map, hdk]; rfl
    rw [hg] at hia
    have htk : hexV 0 (ds.take (k + 1)) = hexV 0 (ds.take k) * 16 + d := by
      rw [List.take_add_one, hdk]; exact hexV_app 0 _ d
    have hn0 : hexV 0 (ds.take k) < 16 ^ k := by
      have := hexV_lt (ds.take k) 0 0 (fun x hx => hd x (List.mem_of_mem_take hx)) (by decide)
      rwa [List.length_take, show min k ds.length = k by omega, Nat.zero_add] at this
    have hn1 : 16 ^ k ≤ 16 ^ 7 := Nat.pow_le_pow_right (by decide) (by omega)
    obtain ⟨n, hn⟩ : ∃ n, n = hexV 0 (ds.take k) := ⟨_, rfl⟩
    rw [← hn] at hn0 htk
    have hhx := hexD_nat hd16
    by_cases h10 : d < 10
    · rw [if_pos h10] at hhx
      simp only [by8, hhx] at hia
      simp (maxSteps := 2000000) (disch := omega) only [hS, c56l0, hia, ← hn, go_sem, seval, eq_self, if_true, if_false, reduceCtorEq]
      have hv : (n : Int) * 16 + (((48 + d : Nat) : Int) - 48) = ((hexV 0 (ds.take (k + 1)) : Nat) : Int) := by rw [htk]; omega
      rw [hv]
      refine Nxt.mk (k + 1) (by omega) (Wk.slots (by rw [hS]; exact WkL.tail 102 _ rfl (by simp only [List.take_succ_cons, List.take_zero]; repeat' first | exact WkL.nil | refine WkL.cons (Wk1.rfl _) ?_ | refine WkL.cons Wk1.esl ?_ | refine WkL.cons (Wk1.gsl _ _ _) ?_ | refine WkL.cons (Wk1.any _) ?_))) (by omega)
    · rw [if_neg h10] at hhx
      simp only [by8, hhx] at hia
      have hlo := lower_c d (by omega) hd16
      simp (maxSteps := 2000000) (disch := omega) only [hS, c56l0, hia, ← hn, go_sem, seval, eq_self, if_true, if_false, reduceCtorEq]
      refine Cont.mk (hlo _) ?_
      simp (maxSteps := 2000000) (disch := omega) only [go_sem, seval, eq_self, if_true, if_false, reduceCtorEq]
      refine Cont.mk (hlo _) ?_
      simp (maxSteps := 2000000) (disch := omega) only [go_sem, seval, eq_self, if_true, if_false, reduceCtorEq]
      refine Cont.mk (hlo _) ?_
      simp (maxSteps := 2000000) (disch := omega) only [go_sem, seval, eq_self, if_true, if_false, reduceCtorEq]
      have hv : (n : Int) * 16 + (((87 + d : Nat) : Int) - 97 + 10) = ((hexV 0 (ds.take (k + 1)) : Nat) : Int) := by rw [htk]; omega
      rw [hv]
      refine Nxt.mk (k + 1) (by omega) (Wk.slots (by rw [hS]; exact WkL.tail 102 _ rfl (by simp only [List.take_succ_cons, List.take_zero]; repeat' first | exact WkL.nil | refine WkL.cons (Wk1.rfl _) ?_ | refine WkL.cons Wk1.esl ?_ | refine WkL.cons (Wk1.gsl _ _ _) ?_ | refine WkL.cons (Wk1.any _) ?_))) (by omega)
  · have e8 : k = 8 := by omega
    subst e8
    have ht : ds.take 8 = ds := List.take_of_length_le (by omega)
    simp (maxSteps := 2000000) (disch := omega) only [hS, c56l0, ht, go_sem, seval, eq_self, if_true, if_false, reduceCtorEq]
    exact Ret.keep ⟨rfl, rfl⟩
theorem pu_c (ds : List Nat) (hl : ds.length = 8) (hd : ∀ d ∈ ds, d < 16) (H : List ABlk) : ACalls Tryz.prog 32 [sv (bs (ds.map hexD)), iv 16, iv 32] H fun v H' => v = .tup [lv (hexV 0 ds), .d (.v .nilIface)] ∧ H' = H := by
  refine ACalls.into Tryz.func32 cc32 rr32 fun hcl => ?_
  simp (maxSteps := 2000000) (disch := omega) only [Tryz.ntmps32, c32, r32, go_sem, seval, eq_self, if_true, if_false, reduceCtorEq]
  refine Cont.mk (pui_c ds hl hd _) ?_
  simp (maxSteps := 2000000) (disch := omega) only [go_sem, seval, eq_self, if_true, if_false, reduceCtorEq]
  exact Ret.keep ⟨rfl, rfl⟩
end Go.Proofs.YtmgmoamcbnkbfaaGreatDoor
