/- The tree of the code's normal forms, and the quick evaluator over it. -/
import Derived.Test.YtofpekbidngnfaaGreatDoorYV2a
import Derived.Test.YtofpekbidngnfaaGreatDoorYV2b
import Derived.Test.YtofpekbidngnfaaGreatDoorYV2c
import Derived.Test.YtofpekbidngnfaaGreatDoorYV2d
import Derived.Test.YtofpekbidngnfaaGreatDoorYV2e
import Derived.Test.YtofpekbidngnfaaGreatDoorYG3
import Derived.Test.YtofpekbidngnfaaGreatDoorYD13
import Derived.KernelRfl
set_option linter.unusedSectionVars false
set_option linter.unusedSimpArgs false
set_option linter.unusedVariables false
set_option maxHeartbeats 4000000
set_option maxRecDepth 100000
namespace Go.Proofs.YtofpekbidngnfaaGreatDoor
noncomputable section
def n2:C2:=all8 (all8 .no)
def n3:C3:=all8 n2
def ctM (a b c d e f g h i j:C2):C4:=.mk (.mk a b c d e f g h) (.mk i j n2 n2 n2 n2 n2 n2) n3 n3 n3 n3 n3 n3
def ct:C4:=ctM pt0.1 pt1.1 pt2.1 pt3.1 pt4.1 pt5.1 pt6.1 pt7.1 pt8.1 pt9.1
def E' (f:Nat):FF:=bif' (Nat.blt f 640) (r8get (d8 (Nat.mod f 8)) (r8get (d8 (Nat.mod (Nat.div f 8) 8)) (r8get (d8 (Nat.mod (Nat.div f 64) 8)) (r8get (d8 (Nat.div (Nat.div f 64) 8)) ct)))) .no
def ev':FC':=evFG (X pdp11.1 pdp30.1 pdp48.1 prp31.1 okf) E' okf 100000 1000
end
end Go.Proofs.YtofpekbidngnfaaGreatDoor
namespace Go.Proofs.YtofpekbidngnfaaGreatDoor
open Go.RowKit
noncomputable section
noncomputable abbrev TP:Program:=Tryz.prog
theorem mixed:TP.follows .mixedOrders = true:=by kernel_rfl
theorem okf_ok (f:Nat) (h:okf f = true):callOk TP f = true:=by
 have q:∀ l:List Nat,(∀ x ∈ l,callOk TP x = true)->inN f l = true->callOk TP f = true:=by
  intro l
  induction l with
  | nil=>intro _ h; cases h
  | cons a l ih =>
   intro hl h
   have h:bif' (Nat.beq f a) true (inN f l) = true:=h
   cases hq:Nat.beq f a with
   | true=>rw [Nat.eq_of_beq_eq_true hq]; exact hl a (List.mem_cons_self)
   | false=>rw [hq] at h; exact ih (λx hx=>hl x (List.mem_cons_of_mem _ hx)) h
 refine q _ ?_ h; have:([49,83,91,116,162,206,254,255,256,257,258,259,292,297,303,306,307,309,331,359,360,382,388,391,393,420,452,488]:List Nat).all (callOk TP) = true:=by kernel_rfl
 exact List.all_eq_true.1 this
theorem reg_ok {F:FC'} (hF:FOk TP F) (nb:Nat):RegOk TP hp nb F okf:=regOk hF okf_ok mixed (mppOk mixed)
theorem x332_ok {F:FC'} (hF:FOk TP F) {args:List FV} {h:Hp} {H:List ABlk} {v:FV} {h':Hp} (hr:HpR h H) (e:x332 F args h = .ok v h') :
 ∃ pre H',HpR h' H'/\Fra pre h h' H H'/\ACalls TP 332 (toAs args) H λv' H''=>v' = toA v/\H'' = H':=by
 obtain ⟨a,r,rfl,e1⟩:=lcs_ok e
 cases a with
 | esl =>
  obtain ⟨h1,e2⟩:=bifR (show bif' (Nat.beq (lenL r 0) 0) (newB h (.c 0 [] .any) λp h=>.ok (.hsl p 0 0 0 2) h) .no = .ok v h' from e1); have h1:=Nat.eq_of_beq_eq_true h1; rw [lenL_eq] at h1; have hr0:r = []:=List.length_eq_zero_iff.1 (by omega); subst hr0; obtain ⟨p,h2,hp,hr2,hf,e3⟩:=newB_ok hr e2 (blk:=.cells []) (show ABlk.cells [] = .cells (padL .any 0 []) from rfl)
  cases e3
  refine ⟨[],_,hr2,hf,(clone0_c H).mono λv' H'' hv=>⟨hv.1.trans ?_,hv.2⟩⟩
  show AV.hsl H.length 0 0 0 2 = .hsl (num p) 0 0 0 2
  rw [hp]
 | x a=>exact hF hr e1
 | hsl p o n c z=>exact hF hr e1
 | _=>first | exact hF hr e1 | cases e1
theorem X0_ok {F:FC'} (hF:FOk TP F):FOk TP (X0 F):=
 FOk.one x54_ok (FOk.one x369_ok (FOk.one (x332_ok hF) (FOk.one x477_ok (FOk.one x580_ok (FOk.one x247_ok (FOk.one x53_ok (FOk.one x51_ok hF)))))))
theorem d11_ok {F:FC'} (hF:FOk TP F) {args:List FV} {h:Hp} {H:List ABlk} {v:FV} {h':Hp} (hr:HpR h H) (e:runD F okf 100000 dp11.c0 8 (k11 F okf 100000 dp11.c1) dp11.rs args h = .ok v h') :
 ∃ pre H',HpR h' H'/\Fra pre h h' H H'/\ACalls TP 11 (toAs args) H λv' H''=>v' = toA v/\H'' = H':=by
 have hc1:dA1 11 = .seq (.dreg pr11 l11) r11:=by kernel_rfl
 refine runD_ok (hint:=hp) hF okf_ok (reg_ok hF) (ac0:=dA0 11) (ac1:=.seq (.dreg pr11 l11) r11) (rs:=rsA 11) Tryz.func11 rfl (by kernel_rfl) (by kernel_rfl) defR (by kernel_rfl) (by decide) (λar w hs=>idle26 ar w hs) (λar w=>invD (by kernel_rfl) ar w) (by kernel_rfl) (by kernel_rfl) (by decide)
  (λ{nb t S h H e t' h'} hl hf hr hx=>k11_ok hF okf_ok (reg_ok hF nb) mixed (n:=Tryz.f11.ntmps) (by kernel_rfl) hl (Nat.le_trans (by decide) hl) hf hr hx) hr e
theorem d30_ok {F:FC'} (hF:FOk TP F) {args:List FV} {h:Hp} {H:List ABlk} {v:FV} {h':Hp} (hr:HpR h H) (e:runD F okf 100000 dp30.c0 12 (fA F okf 100000 dp30.c1) dp30.rs args h = .ok v h') :
 ∃ pre H',HpR h' H'/\Fra pre h h' H H'/\ACalls TP 30 (toAs args) H λv' H''=>v' = toA v/\H'' = H':=by
 refine runD_ok (hint:=hp) hF okf_ok (reg_ok hF) (ac0:=dA0 30) (ac1:=dA1 30) (rs:=rsA 30) Tryz.func30 rfl (by kernel_rfl) (by kernel_rfl) defR (by kernel_rfl) (by decide) (λar w hs=>idle71 ar w hs) (λar w=>invD (by kernel_rfl) ar w) (by kernel_rfl) (by kernel_rfl) (by decide)
  (λ{nb t S h H e t' h'} hl hf hr hx=>fA_ok hF okf_ok (reg_ok hF nb) (n:=Tryz.f30.ntmps) (by kernel_rfl) hl hf hr hx) hr e
theorem d48_ok {F:FC'} (hF:FOk TP F) {args:List FV} {h:Hp} {H:List ABlk} {v:FV} {h':Hp} (hr:HpR h H) (e:runD F okf 100000 dp48.c0 8 (fA F okf 100000 dp48.c1) dp48.rs args h = .ok v h') :
 ∃ pre H',HpR h' H'/\Fra pre h h' H H'/\ACalls TP 48 (toAs args) H λv' H''=>v' = toA v/\H'' = H':=by
 refine runD_ok (hint:=hp) hF okf_ok (reg_ok hF) (ac0:=dA0 48) (ac1:=dA1 48) (rs:=rsA 48) Tryz.func48 rfl (by kernel_rfl) (by kernel_rfl) defR (by kernel_rfl) (by decide) (λar w hs=>idle100 ar w hs) (λar w=>invD (by kernel_rfl) ar w) (by kernel_rfl) (by kernel_rfl) (by decide)
  (λ{nb t S h H e t' h'} hl hf hr hx=>fA_ok hF okf_ok (reg_ok hF nb) (n:=Tryz.f48.ntmps) (by kernel_rfl) hl hf hr hx) hr e
theorem d31_ok {F:FC'} (hF:FOk TP F) {args:List FV} {h:Hp} {H:List ABlk} {v:FV} {h':Hp} (hr:HpR h H)
 (e:runR F okf 100000 rp31.pre rp31.l0 rp31.x rp31.m rp31.d rp31.b rp31.e rp31.id2 ks31 rp31.l2 rp31.c2 rp31.cr rp31.rs args h = .ok v h') :
 ∃ pre H',HpR h' H'/\Fra pre h h' H H'/\ACalls TP 31 (toAs args) H λv' H''=>v' = toA v/\H'' = H':=by
 refine runR_ok (hint:=hp) hF okf_ok (reg_ok hF) (fn:=Tryz.f31) (pre:=rd31.1) (r:=rd31.2.1) (rest:=rd31.2.2) (rs:=rsA 31) (ks:=ks31) Tryz.func31 (by kernel_rfl) (by kernel_rfl) (by kernel_rfl) (by kernel_rfl) (by kernel_rfl) (by kernel_rfl) (by decide) hr e
theorem X_ok {F:FC'} (hF:FOk TP F):FOk TP (X dp11 dp30 dp48 rp31 okf F):=by
 have h0:=X0_ok hF; exact FOk.one (d11_ok h0) (FOk.one (d30_ok h0) (FOk.one (d48_ok h0) (FOk.one (d31_ok h0) h0)))
end
noncomputable section
theorem g8_get {α:Type} (w:Nat) (h:Nat->α) (k:Nat):∀ {d:Nat},d < 8->r8get (d8 d) (g8 w h k) = h (k + d * w)
 | 0,_=>by rw [Nat.zero_mul]; rfl
 | 1,_=>by rw [Nat.one_mul]; rfl
 | 2,_=>rfl
 | 3,_=>rfl
 | 4,_=>rfl
 | 5,_=>rfl
 | 6,_=>rfl
 | 7,_=>rfl
 | n + 8,h=>absurd h (by omega)
theorem ctM_get (s:Nat->C2):∀ {m:Nat},m < 10->r8get (d8 (m % 8)) (r8get (d8 (m / 8)) (ctM (s 0) (s 1) (s 2) (s 3) (s 4) (s 5) (s 6) (s 7) (s 8) (s 9))) = s m
 | 0,_=>rfl
 | 1,_=>rfl
 | 2,_=>rfl
 | 3,_=>rfl
 | 4,_=>rfl
 | 5,_=>rfl
 | 6,_=>rfl
 | 7,_=>rfl
 | 8,_=>rfl
 | 9,_=>rfl
 | n + 10,h=>absurd h (by omega)
theorem ct_eq:ct = ctM (tc2 0) (tc2 64) (tc2 128) (tc2 192) (tc2 256) (tc2 320) (tc2 384) (tc2 448) (tc2 512) (tc2 576):=by
 unfold ct
 rw [<- pt0.2,<- pt1.2,<- pt2.2,<- pt3.2,<- pt4.2,<- pt5.2,<- pt6.2,<- pt7.2,<- pt8.2,<- pt9.2]
theorem E'_eok:EOk TP E':=by
 refine EOk.of (codeP_ok TP) λf c rs h=>?_
 cases hb:Nat.blt f 640 with
 | false =>
  have h:bif' (Nat.blt f 640) (r8get (d8 (f % 8)) (r8get (d8 (f / 8 % 8)) (r8get (d8 (f / 64 % 8)) (r8get (d8 (f / 64 / 8)) ct)))) .no = .ok c rs:=h; rw [hb] at h; cases h
 | true =>
  have h:bif' (Nat.blt f 640) (r8get (d8 (f % 8)) (r8get (d8 (f / 8 % 8)) (r8get (d8 (f / 64 % 8)) (r8get (d8 (f / 64 / 8)) ct)))) .no = .ok c rs:=h; rw [hb] at h; have hf:=blt_iff.1 hb; have h:r8get (d8 (f % 8)) (r8get (d8 (f / 8 % 8)) (r8get (d8 (f / 64 % 8)) (r8get (d8 (f / 64 / 8)) ct))) = .ok c rs:=h; have e:f / 64 * 64 + f / 8 % 8 * 8 + f % 8 * 1 = f:=by omega
  rw [ct_eq,ctM_get (λm=>tc2 (m * 64)) (by omega),tc2,g8_get _ _ _ (Nat.mod_lt _ (by decide)),g8_get _ _ _ (Nat.mod_lt _ (by decide)),e] at h; have h:bif' (Nat.beq (Nat.mod (Nat.shiftRight entN f) 2) 1) (codeP TP f) .no = .ok c rs:=h
  cases hc:Nat.beq (Nat.mod (Nat.shiftRight entN f) 2) 1 with
  | false=>rw [hc] at h; cases h
  | true=>rw [hc] at h; exact h
theorem ev'_ok:FOk TP ev':=by
 have e:ev' = evFF (X dp11 dp30 dp48 rp31 okf) E' okf 100000 1000:=by
  show evFG (X pdp11.1 pdp30.1 pdp48.1 prp31.1 okf) E' okf 100000 1000 = _
  rw [evFG_eq,<- pdp11.2,<- pdp30.2,<- pdp48.2,<- prp31.2]
 rw [e]; exact ev_ok (λF hF=>X_ok hF) E'_eok okf_ok mixed 100000 1000
end
end Go.Proofs.YtofpekbidngnfaaGreatDoor
