/-
  One's own library, part 14: the rules of rewriting, united.
-/
import Derived.Test.YtmgmoamcbnkbfaaGreatDoorYDraw3
set_option linter.unusedVariables false
set_option linter.unusedSimpArgs false
set_option linter.unusedSectionVars false
namespace Go.Proofs.YtmgmoamcbnkbfaaGreatDoor
set_option linter.unusedVariables false
open Go.RowKit

@[go_sem ↓] theorem rD0 : (∀ {P : Program} {hint : Nat → Option Md} {nb : Nat} {s : List AV} {H : List ABlk} {Q : APost}, wpA P hint nb AC.skip s H Q = Q Exit.normal s H) ∧
  (∀ {P : Program} {hint : Nat → Option Md} {nb : Nat} {l : List Ins} {s : List AV} {H : List ABlk} {Q : APost}, wpA P hint nb (AC.reg l) s H Q = wpIns P l s H (Q Exit.normal)) ∧
  (∀ {P : Program} {hint : Nat → Option Md} {nb : Nat} {pr : List (List Nat)} {l : List Ins} {s : List AV} {H : List ABlk} {Q : APost}, wpA P hint nb (AC.dreg pr l) s H Q = W P hint nb (AC.dreg pr l) s H Q) ∧
  (∀ {P : Program} {hint : Nat → Option Md} {nb : Nat} {a b : AC} {s : List AV} {H : List ABlk} {Q : APost}, wpA P hint nb (a.seq b) s H Q = wpA P hint nb a s H (APost.then (kA P hint nb b Q) Q)) ∧
  (∀ {P : Program} {hint : Nat → Option Md} {nb : Nat} {x : Opd} {a b : AC} {s : List AV} {H : List ABlk} {Q : APost}, wpA P hint nb (AC.cond x a b) s H Q = CBr (get s x) (Lz (kA P hint nb a Q) s H) (Lz (kA P hint nb b Q) s H)) ∧
  (∀ {P : Program} {hint : Nat → Option Md} {nb id : Nat} {c : AC} {s : List AV} {H : List ABlk} {Q : APost}, wpA P hint nb (AC.block id c) s H Q = wpA P hint nb c s H (APost.inBlock id Q)) ∧
  (∀ {P : Program} {hint : Nat → Option Md} {nb : Nat} {c : AC} {s : List AV} {H : List ABlk} {Q : APost}, wpA P hint nb c.loop s H Q = W P hint nb c.loop s H Q) ∧
  (∀ {P : Program} {hint : Nat → Option Md} {nb id : Nat} {s : List AV} {H : List ABlk} {Q : APost}, wpA P hint nb (AC.exit id) s H Q = Q (Exit.exit id) s H) ∧
  (∀ {P : Program} {hint : Nat → Option Md} {nb : Nat} {s : List AV} {H : List ABlk} {Q : APost}, wpA P hint nb AC.ret s H Q = Q Exit.ret s H) ∧
  (∀ {n : List AV → List ABlk → Prop} {Q : APost} {s : List AV} {H : List ABlk}, APost.then n Q Exit.normal s H = n s H) ∧
  (∀ {n : List AV → List ABlk → Prop} {Q : APost} {s : List AV} {H : List ABlk}, APost.then n Q Exit.ret s H = Q Exit.ret s H) ∧
  (∀ {n : List AV → List ABlk → Prop} {Q : APost} {s : List AV} {H : List ABlk} {id : Nat}, APost.then n Q (Exit.exit id) s H = Q (Exit.exit id) s H) ∧
  (∀ {id : Nat} {Q : APost} {s : List AV} {H : List ABlk}, APost.inBlock id Q Exit.normal s H = Q Exit.normal s H) ∧
  (∀ {id : Nat} {Q : APost} {s : List AV} {H : List ABlk}, APost.inBlock id Q Exit.ret s H = Q Exit.ret s H) ∧
  (∀ {id : Nat} {Q : APost} {s : List AV} {H : List ABlk}, APost.inBlock id Q (Exit.exit id) s H = Q Exit.normal s H) ∧
  (∀ {nb : Nat} {rs : List RC} {R : AV → List ABlk → Prop} {s : List AV} {H : List ABlk}, retW rs nb R Exit.ret s H = Ret rs nb R (resA rs s H) H) ∧
  (∀ {nb : Nat} {rs : List RC} {R : AV → List ABlk → Prop} {s : List AV} {H : List ABlk}, retW rs nb R Exit.normal s H = Ret rs nb R (resA rs s H) H) ∧
  (∀ {P : Program} {d : Option Nat} {f : FuncId} {args : List Opd} {r : List Ins} {s : List AV} {H : List ABlk} {Kk : List AV → List ABlk → Prop}, wpIns P ({ dst := d, k := K.call f args } :: r) s H Kk = ACalls P f (List.map (get s) args) H (Cont P r s d Kk)) ∧
  (∀ {P : Program} {d : Option Nat} {f : FuncId} {args : List Opd} {g : Nat × Bool} {r : List Ins} {s : List AV} {H : List ABlk} {Kk : List AV → List ABlk → Prop}, wpIns P ({ dst := d, k := K.call f args, g := Option.some g } :: r) s H Kk = GBr (s.getD g.fst AV.any) g.snd (Lz (kC P f args d r Kk) s H) (Lz (kU P d r Kk) s H)) ∧
  (∀ {P : Program} {d : Option Nat} {f : Opd} {args : List Opd} {r : List Ins} {s : List AV} {H : List ABlk} {Kk : List AV → List ABlk → Prop}, wpIns P ({ dst := d, k := K.callv f args } :: r) s H Kk = CallV P (get s f) (List.map (get s) args) r s d H Kk) ∧
  (∀ {P : Program} {d : Option Nat} {g : Option (Nat × Bool)} {r : List Ins} {s : List AV} {H : List ABlk} {Kk : List AV → List ABlk → Prop} {a0 : Opd}, wpIns P ({ dst := d, k := K.mv a0, g := g } :: r) s H Kk = Stp P d (K.mv a0) g r s H Kk) ∧
  (∀ {P : Program} {d : Option Nat} {g : Option (Nat × Bool)} {r : List Ins} {s : List AV} {H : List ABlk} {Kk : List AV → List ABlk → Prop} {a0 a1 : Nat} {a2 : Opd}, wpIns P ({ dst := d, k := K.mvg a0 a1 a2, g := g } :: r) s H Kk = Stp P d (K.mvg a0 a1 a2) g r s H Kk) ∧
  (∀ {P : Program} {d : Option Nat} {g : Option (Nat × Bool)} {r : List Ins} {s : List AV} {H : List ABlk} {Kk : List AV → List ABlk → Prop} {a0 a1 a2 : Opd}, wpIns P ({ dst := d, k := K.pick a0 a1 a2, g := g } :: r) s H Kk = Stp P d (K.pick a0 a1 a2) g r s H Kk) ∧
  (∀ {P : Program} {d : Option Nat} {g : Option (Nat × Bool)} {r : List Ins} {s : List AV} {H : List ABlk} {Kk : List AV → List ABlk → Prop} {a0 : List AV}, wpIns P ({ dst := d, k := K.al a0, g := g } :: r) s H Kk = Stp P d (K.al a0) g r s H Kk) ∧
  (∀ {P : Program} {d : Option Nat} {g : Option (Nat × Bool)} {r : List Ins} {s : List AV} {H : List ABlk} {Kk : List AV → List ABlk → Prop} {a0 : Opd}, wpIns P ({ dst := d, k := K.bx a0, g := g } :: r) s H Kk = Stp P d (K.bx a0) g r s H Kk) :=
  ⟨@wpA_skip, @wpA_reg, @wpA_dreg, @wpA_seq, @wpA_cond, @wpA_block, @wpA_loop, @wpA_exit, @wpA_ret, @then_n, @then_r, @then_e, @inB_n, @inB_r, @inB_e, @retW_r, @retW_n, @wpIns_call, @wpIns_callg', @wpIns_callv', @wi_mv, @wi_mvg, @wi_pick, @wi_al, @wi_bx⟩
@[go_sem ↓] theorem rD1 : (∀ {P : Program} {d : Option Nat} {g : Option (Nat × Bool)} {r : List Ins} {s : List AV} {H : List ABlk} {Kk : List AV → List ABlk → Prop} {a0 : List AV} {a1 : List (Nat × Nat × Opd)}, wpIns P ({ dst := d, k := K.bd a0 a1, g := g } :: r) s H Kk = Stp P d (K.bd a0 a1) g r s H Kk) ∧
  (∀ {P : Program} {d : Option Nat} {g : Option (Nat × Bool)} {r : List Ins} {s : List AV} {H : List ABlk} {Kk : List AV → List ABlk → Prop} {a0 : Md} {a1 a2 : Nat} {a3 : List Opd}, wpIns P ({ dst := d, k := K.bs a0 a1 a2 a3, g := g } :: r) s H Kk = Stp P d (K.bs a0 a1 a2 a3) g r s H Kk) ∧
  (∀ {P : Program} {d : Option Nat} {g : Option (Nat × Bool)} {r : List Ins} {s : List AV} {H : List ABlk} {Kk : List AV → List ABlk → Prop} {a0 : Opd} {a1 : Nat} {a2 : Bool}, wpIns P ({ dst := d, k := K.ld a0 a1 a2, g := g } :: r) s H Kk = Stp P d (K.ld a0 a1 a2) g r s H Kk) ∧
  (∀ {P : Program} {d : Option Nat} {g : Option (Nat × Bool)} {r : List Ins} {s : List AV} {H : List ABlk} {Kk : List AV → List ABlk → Prop} {a0 a1 : Opd} {a2 : Nat}, wpIns P ({ dst := d, k := K.st a0 a1 a2, g := g } :: r) s H Kk = Stp P d (K.st a0 a1 a2) g r s H Kk) ∧
  (∀ {P : Program} {d : Option Nat} {g : Option (Nat × Bool)} {r : List Ins} {s : List AV} {H : List ABlk} {Kk : List AV → List ABlk → Prop} {a0 : Opd}, wpIns P ({ dst := d, k := K.nc a0, g := g } :: r) s H Kk = Stp P d (K.nc a0) g r s H Kk) ∧
  (∀ {P : Program} {d : Option Nat} {g : Option (Nat × Bool)} {r : List Ins} {s : List AV} {H : List ABlk} {Kk : List AV → List ABlk → Prop} {a0 : BinOp} {a1 a2 : Opd}, wpIns P ({ dst := d, k := K.bin a0 a1 a2, g := g } :: r) s H Kk = Stp P d (K.bin a0 a1 a2) g r s H Kk) ∧
  (∀ {P : Program} {d : Option Nat} {g : Option (Nat × Bool)} {r : List Ins} {s : List AV} {H : List ABlk} {Kk : List AV → List ABlk → Prop} {a0 : UnOp} {a1 : Opd}, wpIns P ({ dst := d, k := K.un a0 a1, g := g } :: r) s H Kk = Stp P d (K.un a0 a1) g r s H Kk) ∧
  (∀ {P : Program} {d : Option Nat} {g : Option (Nat × Bool)} {r : List Ins} {s : List AV} {H : List ABlk} {Kk : List AV → List ABlk → Prop} {a0 : IntKind} {a1 : Opd}, wpIns P ({ dst := d, k := K.cvi a0 a1, g := g } :: r) s H Kk = Stp P d (K.cvi a0 a1) g r s H Kk) ∧
  (∀ {P : Program} {d : Option Nat} {g : Option (Nat × Bool)} {r : List Ins} {s : List AV} {H : List ABlk} {Kk : List AV → List ABlk → Prop} {a0 : Opd} {a1 : Nat}, wpIns P ({ dst := d, k := K.fa a0 a1, g := g } :: r) s H Kk = Stp P d (K.fa a0 a1) g r s H Kk) ∧
  (∀ {P : Program} {d : Option Nat} {g : Option (Nat × Bool)} {r : List Ins} {s : List AV} {H : List ABlk} {Kk : List AV → List ABlk → Prop} {a0 : Opd} {a1 a2 : Nat} {a3 : Bool}, wpIns P ({ dst := d, k := K.fld a0 a1 a2 a3, g := g } :: r) s H Kk = Stp P d (K.fld a0 a1 a2 a3) g r s H Kk) ∧
  (∀ {P : Program} {d : Option Nat} {g : Option (Nat × Bool)} {r : List Ins} {s : List AV} {H : List ABlk} {Kk : List AV → List ABlk → Prop} {a0 a1 : Opd} {a2 : Nat}, wpIns P ({ dst := d, k := K.ia a0 a1 a2, g := g } :: r) s H Kk = Stp P d (K.ia a0 a1 a2) g r s H Kk) ∧
  (∀ {P : Program} {d : Option Nat} {g : Option (Nat × Bool)} {r : List Ins} {s : List AV} {H : List ABlk} {Kk : List AV → List ABlk → Prop} {a0 a1 : Opd} {a2 a3 : Nat}, wpIns P ({ dst := d, k := K.iar a0 a1 a2 a3, g := g } :: r) s H Kk = Stp P d (K.iar a0 a1 a2 a3) g r s H Kk) ∧
  (∀ {P : Program} {d : Option Nat} {g : Option (Nat × Bool)} {r : List Ins} {s : List AV} {H : List ABlk} {Kk : List AV → List ABlk → Prop} {a0 a1 : Opd}, wpIns P ({ dst := d, k := K.ix a0 a1, g := g } :: r) s H Kk = Stp P d (K.ix a0 a1) g r s H Kk) ∧
  (∀ {P : Program} {d : Option Nat} {g : Option (Nat × Bool)} {r : List Ins} {s : List AV} {H : List ABlk} {Kk : List AV → List ABlk → Prop} {a0 : Bool} {a1 : Opd} {a2 a3 : Option Opd} {a4 : Nat}, wpIns P ({ dst := d, k := K.sli a0 a1 a2 a3 a4, g := g } :: r) s H Kk = Stp P d (K.sli a0 a1 a2 a3 a4) g r s H Kk) ∧
  (∀ {P : Program} {d : Option Nat} {g : Option (Nat × Bool)} {r : List Ins} {s : List AV} {H : List ABlk} {Kk : List AV → List ABlk → Prop} {a0 : Opd} {a1 a2 : Option Opd} {a3 a4 : Nat}, wpIns P ({ dst := d, k := K.sla a0 a1 a2 a3 a4, g := g } :: r) s H Kk = Stp P d (K.sla a0 a1 a2 a3 a4) g r s H Kk) ∧
  (∀ {P : Program} {d : Option Nat} {g : Option (Nat × Bool)} {r : List Ins} {s : List AV} {H : List ABlk} {Kk : List AV → List ABlk → Prop} {a0 : Opd}, wpIns P ({ dst := d, k := K.slz a0, g := g } :: r) s H Kk = Stp P d (K.slz a0) g r s H Kk) ∧
  (∀ {P : Program} {d : Option Nat} {g : Option (Nat × Bool)} {r : List Ins} {s : List AV} {H : List ABlk} {Kk : List AV → List ABlk → Prop} {a0 : Opd} {a1 : Nat}, wpIns P ({ dst := d, k := K.ext a0 a1, g := g } :: r) s H Kk = Stp P d (K.ext a0 a1) g r s H Kk) ∧
  (∀ {P : Program} {d : Option Nat} {g : Option (Nat × Bool)} {r : List Ins} {s : List AV} {H : List ABlk} {Kk : List AV → List ABlk → Prop} {a0 : Bool} {a1 : Opd}, wpIns P ({ dst := d, k := K.len a0 a1, g := g } :: r) s H Kk = Stp P d (K.len a0 a1) g r s H Kk) ∧
  (∀ {P : Program} {d : Option Nat} {g : Option (Nat × Bool)} {r : List Ins} {s : List AV} {H : List ABlk} {Kk : List AV → List ABlk → Prop} {a0 : Md} {a1 a2 a3 : Nat} {a4 a5 : Opd}, wpIns P ({ dst := d, k := K.app a0 a1 a2 a3 a4 a5, g := g } :: r) s H Kk = Stp P d (K.app a0 a1 a2 a3 a4 a5) g r s H Kk) ∧
  (∀ {P : Program} {d : Option Nat} {g : Option (Nat × Bool)} {r : List Ins} {s : List AV} {H : List ABlk} {Kk : List AV → List ABlk → Prop} {a0 : List Opd}, wpIns P ({ dst := d, k := K.mn a0, g := g } :: r) s H Kk = Stp P d (K.mn a0) g r s H Kk) ∧
  (∀ {P : Program} {d : Option Nat} {g : Option (Nat × Bool)} {r : List Ins} {s : List AV} {H : List ABlk} {Kk : List AV → List ABlk → Prop} {a0 : List Opd}, wpIns P ({ dst := d, k := K.mx a0, g := g } :: r) s H Kk = Stp P d (K.mx a0) g r s H Kk) ∧
  (∀ {P : Program} {d : Option Nat} {g : Option (Nat × Bool)} {r : List Ins} {s : List AV} {H : List ABlk} {Kk : List AV → List ABlk → Prop} {a0 : FuncId} {a1 : List Opd}, wpIns P ({ dst := d, k := K.mkf a0 a1, g := g } :: r) s H Kk = Stp P d (K.mkf a0 a1) g r s H Kk) ∧
  (∀ {P : Program} {d : Option Nat} {g : Option (Nat × Bool)} {r : List Ins} {s : List AV} {H : List ABlk} {Kk : List AV → List ABlk → Prop} {a0 : Md} {a1 a2 a3 : Nat} {a4 : List AV} {a5 a6 : Opd}, wpIns P ({ dst := d, k := K.mks a0 a1 a2 a3 a4 a5 a6, g := g } :: r) s H Kk = Stp P d (K.mks a0 a1 a2 a3 a4 a5 a6) g r s H Kk) ∧
  (∀ {P : Program} {d : Option Nat} {g : Option (Nat × Bool)} {r : List Ins} {s : List AV} {H : List ABlk} {Kk : List AV → List ABlk → Prop} {a0 : Nat} {a1 a2 : Opd}, wpIns P ({ dst := d, k := K.cpy a0 a1 a2, g := g } :: r) s H Kk = Stp P d (K.cpy a0 a1 a2) g r s H Kk) ∧
  (∀ {P : Program} {d : Option Nat} {g : Option (Nat × Bool)} {r : List Ins} {s : List AV} {H : List ABlk} {Kk : List AV → List ABlk → Prop} {a0 : KT}, wpIns P ({ dst := d, k := K.mkm a0, g := g } :: r) s H Kk = Stp P d (K.mkm a0) g r s H Kk) :=
  ⟨@wi_bd, @wi_bs, @wi_ld, @wi_st, @wi_nc, @wi_bin, @wi_un, @wi_cvi, @wi_fa, @wi_fld, @wi_ia, @wi_iar, @wi_ix, @wi_sli, @wi_sla, @wi_slz, @wi_ext, @wi_len, @wi_app, @wi_mn, @wi_mx, @wi_mkf, @wi_mks, @wi_cpy, @wi_mkm⟩
@[go_sem ↓] theorem rD2 : (∀ {P : Program} {d : Option Nat} {g : Option (Nat × Bool)} {r : List Ins} {s : List AV} {H : List ABlk} {Kk : List AV → List ABlk → Prop} {a0 : KT} {a1 : AV} {a2 a3 : Opd} {a4 : Bool}, wpIns P ({ dst := d, k := K.lk a0 a1 a2 a3 a4, g := g } :: r) s H Kk = Stp P d (K.lk a0 a1 a2 a3 a4) g r s H Kk) ∧
  (∀ {P : Program} {d : Option Nat} {g : Option (Nat × Bool)} {r : List Ins} {s : List AV} {H : List ABlk} {Kk : List AV → List ABlk → Prop} {a0 : KT} {a1 a2 a3 : Opd}, wpIns P ({ dst := d, k := K.mu a0 a1 a2 a3, g := g } :: r) s H Kk = Stp P d (K.mu a0 a1 a2 a3) g r s H Kk) ∧
  (∀ {P : Program} {d : Option Nat} {g : Option (Nat × Bool)} {r : List Ins} {s : List AV} {H : List ABlk} {Kk : List AV → List ABlk → Prop} {a0 : KT} {a1 : AV} {a2 a3 : Opd}, wpIns P ({ dst := d, k := K.me a0 a1 a2 a3, g := g } :: r) s H Kk = Stp P d (K.me a0 a1 a2 a3) g r s H Kk) ∧
  (∀ {P : Program} {d : Option Nat} {g : Option (Nat × Bool)} {r : List Ins} {s : List AV} {H : List ABlk} {Kk : List AV → List ABlk → Prop} {a0 a1 a2 : Opd}, wpIns P ({ dst := d, k := K.mes a0 a1 a2, g := g } :: r) s H Kk = Stp P d (K.mes a0 a1 a2) g r s H Kk) ∧
  (∀ {P : Program} {d : Option Nat} {g : Option (Nat × Bool)} {r : List Ins} {s : List AV} {H : List ABlk} {Kk : List AV → List ABlk → Prop} {a0 : KT} {a1 a2 : Opd}, wpIns P ({ dst := d, k := K.del a0 a1 a2, g := g } :: r) s H Kk = Stp P d (K.del a0 a1 a2) g r s H Kk) ∧
  (∀ {P : Program} {d : Option Nat} {g : Option (Nat × Bool)} {r : List Ins} {s : List AV} {H : List ABlk} {Kk : List AV → List ABlk → Prop} {a0 : Md} {a1 : Nat} {a2 : Opd}, wpIns P ({ dst := d, k := K.s2b a0 a1 a2, g := g } :: r) s H Kk = Stp P d (K.s2b a0 a1 a2) g r s H Kk) ∧
  (∀ {P : Program} {d : Option Nat} {g : Option (Nat × Bool)} {r : List Ins} {s : List AV} {H : List ABlk} {Kk : List AV → List ABlk → Prop} {a0 : Opd}, wpIns P ({ dst := d, k := K.b2s a0, g := g } :: r) s H Kk = Stp P d (K.b2s a0) g r s H Kk) ∧
  (∀ {P : Program} {d : Option Nat} {g : Option (Nat × Bool)} {r : List Ins} {s : List AV} {H : List ABlk} {Kk : List AV → List ABlk → Prop} {a0 : Bool} {a1 a2 : Opd}, wpIns P ({ dst := d, k := K.eqs a0 a1 a2, g := g } :: r) s H Kk = Stp P d (K.eqs a0 a1 a2) g r s H Kk) ∧
  (∀ {P : Program} {d : Option Nat} {g : Option (Nat × Bool)} {r : List Ins} {s : List AV} {H : List ABlk} {Kk : List AV → List ABlk → Prop} {a0 : Bool} {a1 a2 : Opd}, wpIns P ({ dst := d, k := K.eqp a0 a1 a2, g := g } :: r) s H Kk = Stp P d (K.eqp a0 a1 a2) g r s H Kk) ∧
  (∀ {P : Program} {d : Option Nat} {g : Option (Nat × Bool)} {r : List Ins} {s : List AV} {H : List ABlk} {Kk : List AV → List ABlk → Prop} {a0 a1 : Bool} {a2 : Opd}, wpIns P ({ dst := d, k := K.isn a0 a1 a2, g := g } :: r) s H Kk = Stp P d (K.isn a0 a1 a2) g r s H Kk) ∧
  (∀ {P : Program} {d : Option Nat} {g : Option (Nat × Bool)} {r : List Ins} {s : List AV} {H : List ABlk} {Kk : List AV → List ABlk → Prop} {a0 : Bool} {a1 : Opd}, wpIns P ({ dst := d, k := K.eqi a0 a1, g := g } :: r) s H Kk = Stp P d (K.eqi a0 a1) g r s H Kk) ∧
  (∀ {P : Program} {d : Option Nat} {g : Option (Nat × Bool)} {r : List Ins} {s : List AV} {H : List ABlk} {Kk : List AV → List ABlk → Prop} {a0 : FuncId} {a1 a2 : Opd}, wpIns P ({ dst := d, k := K.ixb a0 a1 a2, g := g } :: r) s H Kk = Stp P d (K.ixb a0 a1 a2) g r s H Kk) ∧
  (∀ {P : Program} {d : Option Nat} {g : Option (Nat × Bool)} {r : List Ins} {s : List AV} {H : List ABlk} {Kk : List AV → List ABlk → Prop} {a0 : KT} {a1 : Bool} {a2 a3 : Opd}, wpIns P ({ dst := d, k := K.eqg a0 a1 a2 a3, g := g } :: r) s H Kk = Stp P d (K.eqg a0 a1 a2 a3) g r s H Kk) ∧
  (∀ {P : Program} {d : Option Nat} {k : K} {r : List Ins} {s : List AV} {H : List ABlk} {Kk : List AV → List ABlk → Prop}, Stp P d k Option.none r s H Kk = Ev P d (evK k s H) r s Kk) ∧
  (∀ {P : Program} {d : Option Nat} {k : K} {g : Nat × Bool} {r : List Ins} {s : List AV} {H : List ABlk} {Kk : List AV → List ABlk → Prop}, Stp P d k (Option.some g) r s H Kk = GBr (s.getD g.fst AV.any) g.snd (Lz (kS P d k r Kk) s H) (Lz (kU P d r Kk) s H)) ∧
  (∀ {P : Program} {d : Option Nat} {r : List Ins} {s : List AV} {H : List ABlk} {Kk : List AV → List ABlk → Prop} {f : FuncId} {args : List Opd}, PChain P ({ dst := d, k := K.call f args } :: r) s H Kk = PCont P f (List.map (get s) args) r s d H Kk) ∧
  (∀ {P : Program} {d : Option Nat} {f : FuncId} {args : List Opd} {g : Nat × Bool} {r : List Ins} {s : List AV} {H : List ABlk} {Kk : List AV → List ABlk → Prop}, PChain P ({ dst := d, k := K.call f args, g := Option.some g } :: r) s H Kk = GBr (s.getD g.fst AV.any) g.snd (Lz (pC P f args d r Kk) s H) (Lz (pU P d r Kk) s H)) ∧
  (∀ {P : Program} {d : Option Nat} {g : Option (Nat × Bool)} {r : List Ins} {s : List AV} {H : List ABlk} {Kk : List AV → List ABlk → Prop} {a0 : Opd}, PChain P ({ dst := d, k := K.mv a0, g := g } :: r) s H Kk = PStp P d (K.mv a0) g r s H Kk) ∧
  (∀ {P : Program} {d : Option Nat} {g : Option (Nat × Bool)} {r : List Ins} {s : List AV} {H : List ABlk} {Kk : List AV → List ABlk → Prop} {a0 a1 : Nat} {a2 : Opd}, PChain P ({ dst := d, k := K.mvg a0 a1 a2, g := g } :: r) s H Kk = PStp P d (K.mvg a0 a1 a2) g r s H Kk) ∧
  (∀ {P : Program} {d : Option Nat} {g : Option (Nat × Bool)} {r : List Ins} {s : List AV} {H : List ABlk} {Kk : List AV → List ABlk → Prop} {a0 a1 a2 : Opd}, PChain P ({ dst := d, k := K.pick a0 a1 a2, g := g } :: r) s H Kk = PStp P d (K.pick a0 a1 a2) g r s H Kk) ∧
  (∀ {P : Program} {d : Option Nat} {g : Option (Nat × Bool)} {r : List Ins} {s : List AV} {H : List ABlk} {Kk : List AV → List ABlk → Prop} {a0 : List AV}, PChain P ({ dst := d, k := K.al a0, g := g } :: r) s H Kk = PStp P d (K.al a0) g r s H Kk) ∧
  (∀ {P : Program} {d : Option Nat} {g : Option (Nat × Bool)} {r : List Ins} {s : List AV} {H : List ABlk} {Kk : List AV → List ABlk → Prop} {a0 : Opd}, PChain P ({ dst := d, k := K.bx a0, g := g } :: r) s H Kk = PStp P d (K.bx a0) g r s H Kk) ∧
  (∀ {P : Program} {d : Option Nat} {g : Option (Nat × Bool)} {r : List Ins} {s : List AV} {H : List ABlk} {Kk : List AV → List ABlk → Prop} {a0 : List AV} {a1 : List (Nat × Nat × Opd)}, PChain P ({ dst := d, k := K.bd a0 a1, g := g } :: r) s H Kk = PStp P d (K.bd a0 a1) g r s H Kk) ∧
  (∀ {P : Program} {d : Option Nat} {g : Option (Nat × Bool)} {r : List Ins} {s : List AV} {H : List ABlk} {Kk : List AV → List ABlk → Prop} {a0 : Md} {a1 a2 : Nat} {a3 : List Opd}, PChain P ({ dst := d, k := K.bs a0 a1 a2 a3, g := g } :: r) s H Kk = PStp P d (K.bs a0 a1 a2 a3) g r s H Kk) ∧
  (∀ {P : Program} {d : Option Nat} {g : Option (Nat × Bool)} {r : List Ins} {s : List AV} {H : List ABlk} {Kk : List AV → List ABlk → Prop} {a0 : Opd} {a1 : Nat} {a2 : Bool}, PChain P ({ dst := d, k := K.ld a0 a1 a2, g := g } :: r) s H Kk = PStp P d (K.ld a0 a1 a2) g r s H Kk) ∧
  (∀ {P : Program} {d : Option Nat} {g : Option (Nat × Bool)} {r : List Ins} {s : List AV} {H : List ABlk} {Kk : List AV → List ABlk → Prop} {a0 a1 : Opd} {a2 : Nat}, PChain P ({ dst := d, k := K.st a0 a1 a2, g := g } :: r) s H Kk = PStp P d (K.st a0 a1 a2) g r s H Kk) :=
  ⟨@wi_lk, @wi_mu, @wi_me, @wi_mes, @wi_del, @wi_s2b, @wi_b2s, @wi_eqs, @wi_eqp, @wi_isn, @wi_eqi, @wi_ixb, @wi_eqg, @Stp_n, @Stp_g, @PChain_call, @PChain_callg', @pc_mv, @pc_mvg, @pc_pick, @pc_al, @pc_bx, @pc_bd, @pc_bs, @pc_ld, @pc_st⟩
@[go_sem ↓] theorem rD3 : (∀ {P : Program} {d : Option Nat} {g : Option (Nat × Bool)} {r : List Ins} {s : List AV} {H : List ABlk} {Kk : List AV → List ABlk → Prop} {a0 : Opd}, PChain P ({ dst := d, k := K.nc a0, g := g } :: r) s H Kk = PStp P d (K.nc a0) g r s H Kk) ∧
  (∀ {P : Program} {d : Option Nat} {g : Option (Nat × Bool)} {r : List Ins} {s : List AV} {H : List ABlk} {Kk : List AV → List ABlk → Prop} {a0 : BinOp} {a1 a2 : Opd}, PChain P ({ dst := d, k := K.bin a0 a1 a2, g := g } :: r) s H Kk = PStp P d (K.bin a0 a1 a2) g r s H Kk) ∧
  (∀ {P : Program} {d : Option Nat} {g : Option (Nat × Bool)} {r : List Ins} {s : List AV} {H : List ABlk} {Kk : List AV → List ABlk → Prop} {a0 : UnOp} {a1 : Opd}, PChain P ({ dst := d, k := K.un a0 a1, g := g } :: r) s H Kk = PStp P d (K.un a0 a1) g r s H Kk) ∧
  (∀ {P : Program} {d : Option Nat} {g : Option (Nat × Bool)} {r : List Ins} {s : List AV} {H : List ABlk} {Kk : List AV → List ABlk → Prop} {a0 : IntKind} {a1 : Opd}, PChain P ({ dst := d, k := K.cvi a0 a1, g := g } :: r) s H Kk = PStp P d (K.cvi a0 a1) g r s H Kk) ∧
  (∀ {P : Program} {d : Option Nat} {g : Option (Nat × Bool)} {r : List Ins} {s : List AV} {H : List ABlk} {Kk : List AV → List ABlk → Prop} {a0 : Opd} {a1 : Nat}, PChain P ({ dst := d, k := K.fa a0 a1, g := g } :: r) s H Kk = PStp P d (K.fa a0 a1) g r s H Kk) ∧
  (∀ {P : Program} {d : Option Nat} {g : Option (Nat × Bool)} {r : List Ins} {s : List AV} {H : List ABlk} {Kk : List AV → List ABlk → Prop} {a0 : Opd} {a1 a2 : Nat} {a3 : Bool}, PChain P ({ dst := d, k := K.fld a0 a1 a2 a3, g := g } :: r) s H Kk = PStp P d (K.fld a0 a1 a2 a3) g r s H Kk) ∧
  (∀ {P : Program} {d : Option Nat} {g : Option (Nat × Bool)} {r : List Ins} {s : List AV} {H : List ABlk} {Kk : List AV → List ABlk → Prop} {a0 a1 : Opd} {a2 : Nat}, PChain P ({ dst := d, k := K.ia a0 a1 a2, g := g } :: r) s H Kk = PStp P d (K.ia a0 a1 a2) g r s H Kk) ∧
  (∀ {P : Program} {d : Option Nat} {g : Option (Nat × Bool)} {r : List Ins} {s : List AV} {H : List ABlk} {Kk : List AV → List ABlk → Prop} {a0 a1 : Opd} {a2 a3 : Nat}, PChain P ({ dst := d, k := K.iar a0 a1 a2 a3, g := g } :: r) s H Kk = PStp P d (K.iar a0 a1 a2 a3) g r s H Kk) ∧
  (∀ {P : Program} {d : Option Nat} {g : Option (Nat × Bool)} {r : List Ins} {s : List AV} {H : List ABlk} {Kk : List AV → List ABlk → Prop} {a0 a1 : Opd}, PChain P ({ dst := d, k := K.ix a0 a1, g := g } :: r) s H Kk = PStp P d (K.ix a0 a1) g r s H Kk) ∧
  (∀ {P : Program} {d : Option Nat} {g : Option (Nat × Bool)} {r : List Ins} {s : List AV} {H : List ABlk} {Kk : List AV → List ABlk → Prop} {a0 : Bool} {a1 : Opd} {a2 a3 : Option Opd} {a4 : Nat}, PChain P ({ dst := d, k := K.sli a0 a1 a2 a3 a4, g := g } :: r) s H Kk = PStp P d (K.sli a0 a1 a2 a3 a4) g r s H Kk) ∧
  (∀ {P : Program} {d : Option Nat} {g : Option (Nat × Bool)} {r : List Ins} {s : List AV} {H : List ABlk} {Kk : List AV → List ABlk → Prop} {a0 : Opd} {a1 a2 : Option Opd} {a3 a4 : Nat}, PChain P ({ dst := d, k := K.sla a0 a1 a2 a3 a4, g := g } :: r) s H Kk = PStp P d (K.sla a0 a1 a2 a3 a4) g r s H Kk) ∧
  (∀ {P : Program} {d : Option Nat} {g : Option (Nat × Bool)} {r : List Ins} {s : List AV} {H : List ABlk} {Kk : List AV → List ABlk → Prop} {a0 : Opd}, PChain P ({ dst := d, k := K.slz a0, g := g } :: r) s H Kk = PStp P d (K.slz a0) g r s H Kk) ∧
  (∀ {P : Program} {d : Option Nat} {g : Option (Nat × Bool)} {r : List Ins} {s : List AV} {H : List ABlk} {Kk : List AV → List ABlk → Prop} {a0 : Opd} {a1 : Nat}, PChain P ({ dst := d, k := K.ext a0 a1, g := g } :: r) s H Kk = PStp P d (K.ext a0 a1) g r s H Kk) ∧
  (∀ {P : Program} {d : Option Nat} {g : Option (Nat × Bool)} {r : List Ins} {s : List AV} {H : List ABlk} {Kk : List AV → List ABlk → Prop} {a0 : Bool} {a1 : Opd}, PChain P ({ dst := d, k := K.len a0 a1, g := g } :: r) s H Kk = PStp P d (K.len a0 a1) g r s H Kk) ∧
  (∀ {P : Program} {d : Option Nat} {g : Option (Nat × Bool)} {r : List Ins} {s : List AV} {H : List ABlk} {Kk : List AV → List ABlk → Prop} {a0 : Md} {a1 a2 a3 : Nat} {a4 a5 : Opd}, PChain P ({ dst := d, k := K.app a0 a1 a2 a3 a4 a5, g := g } :: r) s H Kk = PStp P d (K.app a0 a1 a2 a3 a4 a5) g r s H Kk) ∧
  (∀ {P : Program} {d : Option Nat} {g : Option (Nat × Bool)} {r : List Ins} {s : List AV} {H : List ABlk} {Kk : List AV → List ABlk → Prop} {a0 : List Opd}, PChain P ({ dst := d, k := K.mn a0, g := g } :: r) s H Kk = PStp P d (K.mn a0) g r s H Kk) ∧
  (∀ {P : Program} {d : Option Nat} {g : Option (Nat × Bool)} {r : List Ins} {s : List AV} {H : List ABlk} {Kk : List AV → List ABlk → Prop} {a0 : List Opd}, PChain P ({ dst := d, k := K.mx a0, g := g } :: r) s H Kk = PStp P d (K.mx a0) g r s H Kk) ∧
  (∀ {P : Program} {d : Option Nat} {g : Option (Nat × Bool)} {r : List Ins} {s : List AV} {H : List ABlk} {Kk : List AV → List ABlk → Prop} {a0 : FuncId} {a1 : List Opd}, PChain P ({ dst := d, k := K.mkf a0 a1, g := g } :: r) s H Kk = PStp P d (K.mkf a0 a1) g r s H Kk) ∧
  (∀ {P : Program} {d : Option Nat} {g : Option (Nat × Bool)} {r : List Ins} {s : List AV} {H : List ABlk} {Kk : List AV → List ABlk → Prop} {a0 : Md} {a1 a2 a3 : Nat} {a4 : List AV} {a5 a6 : Opd}, PChain P ({ dst := d, k := K.mks a0 a1 a2 a3 a4 a5 a6, g := g } :: r) s H Kk = PStp P d (K.mks a0 a1 a2 a3 a4 a5 a6) g r s H Kk) ∧
  (∀ {P : Program} {d : Option Nat} {g : Option (Nat × Bool)} {r : List Ins} {s : List AV} {H : List ABlk} {Kk : List AV → List ABlk → Prop} {a0 : Nat} {a1 a2 : Opd}, PChain P ({ dst := d, k := K.cpy a0 a1 a2, g := g } :: r) s H Kk = PStp P d (K.cpy a0 a1 a2) g r s H Kk) ∧
  (∀ {P : Program} {d : Option Nat} {g : Option (Nat × Bool)} {r : List Ins} {s : List AV} {H : List ABlk} {Kk : List AV → List ABlk → Prop} {a0 : KT}, PChain P ({ dst := d, k := K.mkm a0, g := g } :: r) s H Kk = PStp P d (K.mkm a0) g r s H Kk) ∧
  (∀ {P : Program} {d : Option Nat} {g : Option (Nat × Bool)} {r : List Ins} {s : List AV} {H : List ABlk} {Kk : List AV → List ABlk → Prop} {a0 : KT} {a1 : AV} {a2 a3 : Opd} {a4 : Bool}, PChain P ({ dst := d, k := K.lk a0 a1 a2 a3 a4, g := g } :: r) s H Kk = PStp P d (K.lk a0 a1 a2 a3 a4) g r s H Kk) ∧
  (∀ {P : Program} {d : Option Nat} {g : Option (Nat × Bool)} {r : List Ins} {s : List AV} {H : List ABlk} {Kk : List AV → List ABlk → Prop} {a0 : KT} {a1 a2 a3 : Opd}, PChain P ({ dst := d, k := K.mu a0 a1 a2 a3, g := g } :: r) s H Kk = PStp P d (K.mu a0 a1 a2 a3) g r s H Kk) ∧
  (∀ {P : Program} {d : Option Nat} {g : Option (Nat × Bool)} {r : List Ins} {s : List AV} {H : List ABlk} {Kk : List AV → List ABlk → Prop} {a0 : KT} {a1 : AV} {a2 a3 : Opd}, PChain P ({ dst := d, k := K.me a0 a1 a2 a3, g := g } :: r) s H Kk = PStp P d (K.me a0 a1 a2 a3) g r s H Kk) ∧
  (∀ {P : Program} {d : Option Nat} {g : Option (Nat × Bool)} {r : List Ins} {s : List AV} {H : List ABlk} {Kk : List AV → List ABlk → Prop} {a0 a1 a2 : Opd}, PChain P ({ dst := d, k := K.mes a0 a1 a2, g := g } :: r) s H Kk = PStp P d (K.mes a0 a1 a2) g r s H Kk) :=
  ⟨@pc_nc, @pc_bin, @pc_un, @pc_cvi, @pc_fa, @pc_fld, @pc_ia, @pc_iar, @pc_ix, @pc_sli, @pc_sla, @pc_slz, @pc_ext, @pc_len, @pc_app, @pc_mn, @pc_mx, @pc_mkf, @pc_mks, @pc_cpy, @pc_mkm, @pc_lk, @pc_mu, @pc_me, @pc_mes⟩
@[go_sem ↓] theorem rD4 : (∀ {P : Program} {d : Option Nat} {g : Option (Nat × Bool)} {r : List Ins} {s : List AV} {H : List ABlk} {Kk : List AV → List ABlk → Prop} {a0 : KT} {a1 a2 : Opd}, PChain P ({ dst := d, k := K.del a0 a1 a2, g := g } :: r) s H Kk = PStp P d (K.del a0 a1 a2) g r s H Kk) ∧
  (∀ {P : Program} {d : Option Nat} {g : Option (Nat × Bool)} {r : List Ins} {s : List AV} {H : List ABlk} {Kk : List AV → List ABlk → Prop} {a0 : Md} {a1 : Nat} {a2 : Opd}, PChain P ({ dst := d, k := K.s2b a0 a1 a2, g := g } :: r) s H Kk = PStp P d (K.s2b a0 a1 a2) g r s H Kk) ∧
  (∀ {P : Program} {d : Option Nat} {g : Option (Nat × Bool)} {r : List Ins} {s : List AV} {H : List ABlk} {Kk : List AV → List ABlk → Prop} {a0 : Opd}, PChain P ({ dst := d, k := K.b2s a0, g := g } :: r) s H Kk = PStp P d (K.b2s a0) g r s H Kk) ∧
  (∀ {P : Program} {d : Option Nat} {g : Option (Nat × Bool)} {r : List Ins} {s : List AV} {H : List ABlk} {Kk : List AV → List ABlk → Prop} {a0 : Bool} {a1 a2 : Opd}, PChain P ({ dst := d, k := K.eqs a0 a1 a2, g := g } :: r) s H Kk = PStp P d (K.eqs a0 a1 a2) g r s H Kk) ∧
  (∀ {P : Program} {d : Option Nat} {g : Option (Nat × Bool)} {r : List Ins} {s : List AV} {H : List ABlk} {Kk : List AV → List ABlk → Prop} {a0 : Bool} {a1 a2 : Opd}, PChain P ({ dst := d, k := K.eqp a0 a1 a2, g := g } :: r) s H Kk = PStp P d (K.eqp a0 a1 a2) g r s H Kk) ∧
  (∀ {P : Program} {d : Option Nat} {g : Option (Nat × Bool)} {r : List Ins} {s : List AV} {H : List ABlk} {Kk : List AV → List ABlk → Prop} {a0 a1 : Bool} {a2 : Opd}, PChain P ({ dst := d, k := K.isn a0 a1 a2, g := g } :: r) s H Kk = PStp P d (K.isn a0 a1 a2) g r s H Kk) ∧
  (∀ {P : Program} {d : Option Nat} {g : Option (Nat × Bool)} {r : List Ins} {s : List AV} {H : List ABlk} {Kk : List AV → List ABlk → Prop} {a0 : Bool} {a1 : Opd}, PChain P ({ dst := d, k := K.eqi a0 a1, g := g } :: r) s H Kk = PStp P d (K.eqi a0 a1) g r s H Kk) ∧
  (∀ {P : Program} {d : Option Nat} {g : Option (Nat × Bool)} {r : List Ins} {s : List AV} {H : List ABlk} {Kk : List AV → List ABlk → Prop} {a0 : FuncId} {a1 a2 : Opd}, PChain P ({ dst := d, k := K.ixb a0 a1 a2, g := g } :: r) s H Kk = PStp P d (K.ixb a0 a1 a2) g r s H Kk) ∧
  (∀ {P : Program} {d : Option Nat} {g : Option (Nat × Bool)} {r : List Ins} {s : List AV} {H : List ABlk} {Kk : List AV → List ABlk → Prop} {a0 : KT} {a1 : Bool} {a2 a3 : Opd}, PChain P ({ dst := d, k := K.eqg a0 a1 a2 a3, g := g } :: r) s H Kk = PStp P d (K.eqg a0 a1 a2 a3) g r s H Kk) ∧
  (∀ {P : Program} {d : Option Nat} {k : K} {r : List Ins} {s : List AV} {H : List ABlk} {Kk : List AV → List ABlk → Prop}, PStp P d k Option.none r s H Kk = PEv P d (evK k s H) r s H Kk) ∧
  (∀ {P : Program} {d : Option Nat} {k : K} {g : Nat × Bool} {r : List Ins} {s : List AV} {H : List ABlk} {Kk : List AV → List ABlk → Prop}, PStp P d k (Option.some g) r s H Kk = GBr (s.getD g.fst AV.any) g.snd (Lz (pS P d k r Kk) s H) (Lz (pU P d r Kk) s H)) :=
  ⟨@pc_del, @pc_s2b, @pc_b2s, @pc_eqs, @pc_eqp, @pc_isn, @pc_eqi, @pc_ixb, @pc_eqg, @PStp_n, @PStp_g⟩
@[go_sem] theorem rU0 : (∀ (a b : Int), (a == b) = Decidable.decide (a = b)) ∧
  (∀ {α β : Type} {as : List α} (f : α → β), (List.map f as).length = as.length) ∧
  (∀ {α : Type} {as : List α} {i : Nat} {a : α}, (as.set i a).length = as.length) ∧
  (∀ (a b : Int), (a != b) = !Decidable.decide (a = b)) ∧
  (∀ {a b : Nat}, a ≤ b → (a ≤ b) = True) ∧
  (∀ {a b : Nat}, b < a → (a ≤ b) = False) ∧
  (∀ {a b : Nat}, a < b → (a < b) = True) ∧
  (∀ {a b : Nat}, b ≤ a → (a < b) = False) ∧
  (∀ {a b : Int}, a ≤ b → (a ≤ b) = True) ∧
  (∀ {a b : Int}, b < a → (a ≤ b) = False) ∧
  (∀ {a b : Int}, a < b → (a < b) = True) ∧
  (∀ {a b : Int}, b ≤ a → (a < b) = False) ∧
  (∀ (a b : Int), (a > b) = (b < a)) ∧
  (∀ (a b : Int), (a ≥ b) = (b ≤ a)) ∧
  (∀ {a b : Nat}, a = b → (a = b) = True) ∧
  (∀ {a b : Nat}, a ≠ b → (a = b) = False) ∧
  (∀ {a b : Int}, a = b → (a = b) = True) ∧
  (∀ {a b : Int}, a ≠ b → (a = b) = False) ∧
  (Go.maxLen = 9223372036854775807) ∧
  (∀ (h : Decidable True), Decidable.decide True = Bool.true) ∧
  (∀ (h : Decidable False), Decidable.decide False = Bool.false) ∧
  (∀ {x : Int}, -9223372036854775808 ≤ x → x < 9223372036854775808 → IntKind.i64.wrap x = x) ∧
  (∀ (x : Int), IntKind.u8.wrap x = x % 256) ∧
  (∀ (x : Int), IntKind.u32.wrap x = x % 4294967296) ∧
  (∀ {x : Int}, 0 ≤ x → x < 18446744073709551616 → IntKind.u64.wrap x = x) :=
  ⟨@beqI, @List.length_map, @List.length_set, @bneI, @leN_t, @leN_f, @ltN_t, @ltN_f, @leI_t, @leI_f, @ltI_t, @ltI_f, @gtI, @geI, @eqN_t, @eqN_f, @eqI_t, @eqI_f, @mx_eq, @decide_true, @decide_false, @w_i64, @w_u8, @w_u32, @w_u64⟩
@[go_sem] theorem rU1 : (∀ {x : Int}, 0 ≤ x → x < 65536 → IntKind.u16.wrap x = x) ∧
  (IntKind.u8.bits = 8) ∧
  (IntKind.u16.bits = 16) ∧
  (IntKind.u32.bits = 32) ∧
  (IntKind.u64.bits = 64) ∧
  (IntKind.i64.bits = 64) ∧
  (∀ {a b : Int}, 0 ≤ a → a.tdiv b = a / b) ∧
  (∀ {a b : Int}, 0 ≤ a → a.tmod b = a % b) ∧
  (∀ {a b : Int}, 0 ≤ a → a < b → a % b = a) ∧
  (∀ (n : Nat), n * 1 = n) ∧
  (∀ (n : Nat), 1 * n = n) ∧
  (∀ (n : Nat), 0 * n = 0) ∧
  (∀ {a b : Nat}, a ≤ b → Min.min a b = a) ∧
  (∀ {a b : Nat}, b ≤ a → Min.min a b = b) ∧
  (∀ {b off n cap sz' sz : Nat} {i : Int}, iaA (AV.hsl b off n cap sz') i sz = if 0 ≤ i ∧ i < ↑n ∧ sz' = sz then Option.some (AV.ptr b (off + i.toNat * sz)) else Option.none) ∧
  (∀ {t : Bool} {p q : Prop}, GBr (AV.d (Dat.v (Value.bool t))) Bool.true p q = Br t p q) ∧
  (∀ {t : Bool} {p q : Prop}, GBr (AV.d (Dat.v (Value.bool t))) Bool.false p q = Br t q p) ∧
  (∀ {b : Bool} {p : Prop} {f : List AV → List ABlk → Prop} {s : List AV} {H : List ABlk}, GBr (AV.tup []) b p (Lz f s H) = f s H) ∧
  (∀ {t : Bool} {p q : Prop}, CBr (AV.d (Dat.v (Value.bool t))) p q = Br t p q) ∧
  (∀ {f : List AV → List ABlk → Prop} {s : List AV} {H : List ABlk} {q : Prop}, Br Bool.true (Lz f s H) q = f s H) ∧
  (∀ {f : List AV → List ABlk → Prop} {s : List AV} {H : List ABlk} {p : Prop}, Br Bool.false p (Lz f s H) = f s H) ∧
  (∀ {P : Program} {d : Option Nat} {k : K} {r : List Ins} {Kk : List AV → List ABlk → Prop} {s : List AV} {H : List ABlk}, kS P d k r Kk s H = Stp P d k Option.none r s H Kk) ∧
  (∀ {P : Program} {d : Option Nat} {r : List Ins} {Kk : List AV → List ABlk → Prop} {s : List AV} {H : List ABlk}, kU P d r Kk s H = wpIns P r (setO s d (AV.tup [])) H Kk) ∧
  (∀ {P : Program} {f : FuncId} {args : List Opd} {d : Option Nat} {r : List Ins} {Kk : List AV → List ABlk → Prop} {s : List AV} {H : List ABlk}, kC P f args d r Kk s H = ACalls P f (List.map (get s) args) H (Cont P r s d Kk)) ∧
  (∀ {P : Program} {d : Option Nat} {k : K} {r : List Ins} {Kk : List AV → List ABlk → Prop} {s : List AV} {H : List ABlk}, pS P d k r Kk s H = PStp P d k Option.none r s H Kk) :=
  ⟨@w_u16, @bits_u8, @bits_u16, @bits_u32, @bits_u64, @bits_i64, @tdiv_nn, @tmod_nn, @Int.emod_eq_of_lt, @Nat.mul_one, @Nat.one_mul, @Nat.zero_mul, @Nat.min_eq_left, @Nat.min_eq_right, @iaA_h, @GBr_t, @GBr_f, @GBr_u, @CBr_t, @Br_lt, @Br_lf, @kS_a, @kU_a, @kC_a, @pS_a⟩
@[go_sem] theorem rU2 : (∀ {P : Program} {d : Option Nat} {r : List Ins} {Kk : List AV → List ABlk → Prop} {s : List AV} {H : List ABlk}, pU P d r Kk s H = PChain P r (setO s d (AV.tup [])) H Kk) ∧
  (∀ {P : Program} {f : FuncId} {args : List Opd} {d : Option Nat} {r : List Ins} {Kk : List AV → List ABlk → Prop} {s : List AV} {H : List ABlk}, pC P f args d r Kk s H = PCont P f (List.map (get s) args) r s d H Kk) ∧
  (∀ {P : Program} {hint : Nat → Option Md} {nb : Nat} {ac : AC} {Q : APost} {s : List AV} {H : List ABlk}, kA P hint nb ac Q s H = wpA P hint nb ac s H Q) ∧
  (∀ {t : Bool} {p q : Prop}, Br (!t) p q = Br t q p) ∧
  (∀ {P : Program} {f : FuncId} {caps args : List AV} {r : List Ins} {s : List AV} {d : Option Nat} {H : List ABlk} {Kk : List AV → List ABlk → Prop}, CallV P (AV.fn f caps) args r s d H Kk = (callOk P f = Bool.true ∧ ACalls P f (args ++ caps) H (Cont P r s d Kk))) ∧
  (∀ {P : Program} {d : Option Nat} {v : AV} {H' : List ABlk} {r : List Ins} {s : List AV} {Kk : List AV → List ABlk → Prop}, Ev P d (Option.some (v, H')) r s Kk = wpIns P r (setO s d v) H' Kk) ∧
  (∀ {P : Program} {s : List AV} {H : List ABlk} {Kk : List AV → List ABlk → Prop}, wpIns P [] s H Kk = Kk s H) ∧
  (∀ {P : Program} {d : Option Nat} {v : AV} {H H' : List ABlk} {r : List Ins} {s : List AV} {Kk : List AV → List ABlk → Prop}, PEv P d (Option.some (v, H')) r s H Kk = (H' = H ∧ PChain P r (setO s d v) H Kk)) ∧
  (∀ {P : Program} {s : List AV} {H : List ABlk} {Kk : List AV → List ABlk → Prop}, PChain P [] s H Kk = Kk s H) ∧
  (∀ {v : AV} {G : List ABlk} {Kk : AV → List ABlk → Prop}, EvK (Option.some (v, G)) Kk = Kk v G) ∧
  (∀ {neg : Bool} {b o n c z : Nat}, 0 < n → nilA Bool.false neg (AV.hsl b o n c z) = Option.some (AV.d (Dat.v (Value.bool neg)))) ∧
  (∀ {neg : Bool} {es : List (List Dat)}, 0 < es.length → nilA Bool.false neg (AV.d (Dat.sl es)) = Option.some (AV.d (Dat.v (Value.bool neg)))) ∧
  (∀ {neg : Bool} {b z : Nat} {es : List (List Dat)}, 0 < es.length → nilA Bool.false neg (AV.gsl b z es) = Option.some (AV.d (Dat.v (Value.bool neg)))) ∧
  (∀ {neg : Bool}, nilA Bool.false neg AV.esl = Option.some AV.ub) ∧
  (∀ {neg : Bool}, nilA Bool.false neg (AV.d (Dat.sl [])) = Option.some AV.ub) ∧
  (∀ {neg : Bool} {b z : Nat}, nilA Bool.false neg (AV.gsl b z []) = Option.some AV.ub) ∧
  (∀ {neg : Bool} {b o c z : Nat}, nilA Bool.false neg (AV.hsl b o 0 c z) = Option.some AV.ub) ∧
  (∀ {neg : Bool}, nilA Bool.true neg AV.mnil = Option.some (AV.d (Dat.v (Value.bool !neg)))) ∧
  (∀ {neg : Bool} {b : Nat}, nilA Bool.true neg (AV.mp b) = Option.some (AV.d (Dat.v (Value.bool neg)))) ∧
  (∀ {α : Type} {x : α} {xs : List α} {d : α}, (x :: xs).getD 0 d = x) ∧
  (∀ {α : Type} {x : α} {xs : List α} {n : Nat} {d : α}, (x :: xs).getD (n + 1) d = xs.getD n d) ∧
  (∀ {α : Type} {x : α} {xs : List α} {a : α}, (x :: xs).set 0 a = a :: xs) ∧
  (∀ {α : Type} {x : α} {xs : List α} {i : Nat} {a : α}, (x :: xs).set (i + 1) a = x :: xs.set i a) ∧
  (∀ (x : Dat), shown (AV.d x) = Bool.true) ∧
  (∀ (x : Dat), cellsAV (AV.d x) = [AV.d x]) :=
  ⟨@pU_a, @pC_a, @kA_a, @Br_not, @CallV_fn, @Ev_some, @wpIns_nil, @PEv_some, @PChain_nil, @EvK_some, @nilA_h, @nilA_d, @nilA_g, @nilA_e, @nilA_d0, @nilA_g0, @nilA_h0, @nilA_mn, @nilA_mp, @List.getD_cons_zero, @List.getD_cons_succ, @List.set_cons_zero, @List.set_cons_succ, @sh_d, @ce_d⟩
@[go_sem] theorem rU3 : (∀ (x : List AV), shown (AV.agg x) = Bool.true) ∧
  (∀ (x : List AV), cellsAV (AV.agg x) = x) ∧
  (shown AV.nilp = Bool.true) ∧
  (cellsAV AV.nilp = [AV.nilp]) ∧
  (shown AV.mnil = Bool.true) ∧
  (cellsAV AV.mnil = [AV.mnil]) ∧
  (∀ (b o : Nat), shown (AV.ptr b o) = Bool.true) ∧
  (∀ (b o : Nat), cellsAV (AV.ptr b o) = [AV.ptr b o]) ∧
  (∀ (x : List Dat), shown (AV.ip x) = Bool.true) ∧
  (∀ (x : List Dat), cellsAV (AV.ip x) = [AV.ip x]) ∧
  (shown AV.esl = Bool.true) ∧
  (cellsAV AV.esl = [AV.esl]) ∧
  (∀ (x : Nat), shown (AV.mp x) = Bool.true) ∧
  (∀ (x : Nat), cellsAV (AV.mp x) = [AV.mp x]) ∧
  (∀ (b sz : Nat) (es : List (List Dat)), shown (AV.gsl b sz es) = Bool.true) ∧
  (∀ (b sz : Nat) (es : List (List Dat)), cellsAV (AV.gsl b sz es) = [AV.gsl b sz es]) ∧
  (∀ (b o n c z : Nat), shown (AV.hsl b o n c z) = Bool.true) ∧
  (∀ (b o n c z : Nat), cellsAV (AV.hsl b o n c z) = [AV.hsl b o n c z]) ∧
  (∀ (f : FuncId) (cs : List AV), shown (AV.fn f cs) = Bool.true) ∧
  (∀ (f : FuncId) (cs : List AV), cellsAV (AV.fn f cs) = [AV.fn f cs]) ∧
  (∀ (H : List ABlk) (sz : Nat) (es : List (List Dat)), elemsA H sz (AV.d (Dat.sl es)) = if (es.all fun (e : List Dat) => e.length == sz) = Bool.true then Option.some (List.map (fun (x : List Dat) => List.map AV.d x) es) else Option.none) ∧
  (∀ (H : List ABlk) (sz b sz' : Nat) (es : List (List Dat)), elemsA H sz (AV.gsl b sz' es) = if sz' = sz then Option.some (List.map (fun (x : List Dat) => List.map AV.d x) es) else Option.none) ∧
  (∀ (H : List ABlk) (sz : Nat), elemsA H sz AV.esl = Option.some []) ∧
  (∀ (H : List ABlk) (sz : Nat) (s : ByteArray), elemsA H sz (AV.d (Dat.v (Value.string s))) = if sz = 1 then Option.some (List.map (fun (b : UInt8) => [AV.d (Dat.v (Value.int IntKind.u8 ↑b.toNat))]) s.data.toList) else Option.none) ∧
  (∀ (es : List (List Dat)), datss (List.map (fun (x : List Dat) => List.map AV.d x) es) = Option.some es) :=
  ⟨@sh_agg, @ce_agg, @sh_nilp, @ce_nilp, @sh_mnil, @ce_mnil, @sh_ptr, @ce_ptr, @sh_ip, @ce_ip, @sh_esl, @ce_esl, @sh_mp, @ce_mp, @sh_gsl, @ce_gsl, @sh_hsl, @ce_hsl, @sh_fn, @ce_fn, @elems_d, @elems_g, @elems_e, @elems_s, @datss_map_d⟩
@[go_sem] theorem rU4 : (∀ {α β : Type} {f : α → β} {a : α} {l : List α}, List.map f (a :: l) = f a :: List.map f l) ∧
  (∀ {α β : Type} {f : α → β}, List.map f [] = []) ∧
  (∀ {α : Type} {a : α} {as : List α}, (a :: as).length = as.length + 1) ∧
  (∀ {α : Type} {as bs : List α}, (as ++ bs).length = as.length + bs.length) ∧
  (∀ {α : Type} (as bs cs : List α), as ++ bs ++ cs = as ++ (bs ++ cs)) ∧
  (∀ {α : Type} {a : α} {as bs : List α}, a :: as ++ bs = a :: (as ++ bs)) ∧
  (∀ {α : Type} (as : List α), [] ++ as = as) ∧
  (∀ (H l : List ABlk), (H ++ l)[H.length]? = l[0]?) ∧
  (∀ (H l : List ABlk) (k : Nat), (H ++ l)[H.length + k]? = l[k]?) ∧
  (∀ (H l : List ABlk) (x : ABlk), (H ++ l).set H.length x = H ++ l.set 0 x) ∧
  (∀ (H l : List ABlk) (k : Nat) (x : ABlk), (H ++ l).set (H.length + k) x = H ++ l.set k x) ∧
  (∀ {α : Type} {a : α} {l : List α}, (a :: l)[0]? = Option.some a) ∧
  (∀ {α : Type} {a : α} {i : Nat} {l : List α}, (a :: l)[i + 1]? = l[i]?) ∧
  (∀ {α : Type} {a : α} {as : List α} {i : Nat}, List.take (i + 1) (a :: as) = a :: List.take i as) ∧
  (∀ {α : Type} {l : List α}, List.take 0 l = []) ∧
  (∀ {α : Type} {a : α} {l : List α} {i : Nat}, List.drop (i + 1) (a :: l) = List.drop i l) ∧
  (∀ {α : Type} {l : List α}, List.drop 0 l = l) ∧
  (∀ {α : Type} {a : α} {l : List α} {f : α → Bool}, (a :: l).all f = (f a && l.all f)) ∧
  (∀ {α : Type} {f : α → Bool}, [].all f = Bool.true) ∧
  (∀ {α : Type} {l : List α} {L : List (List α)}, (l :: L).flatten = l ++ L.flatten) ∧
  (∀ {α : Type} (as : List α), as ++ [] = as) ∧
  (∀ (n : Nat), n + 0 = n) ∧
  (∀ (n : Nat), 0 + n = n) ∧
  (∀ (n : Nat), n ≤ n) ∧
  (∀ {α : Type} [inst : BEq α] [ReflBEq α] (a : α), (a == a) = Bool.true) :=
  ⟨@List.map_cons, @List.map_nil, @List.length_cons, @List.length_append, @List.append_assoc, @List.cons_append, @List.nil_append, @hg0, @hgk, @hs0, @hsk, @List.getElem?_cons_zero, @List.getElem?_cons_succ, @List.take_succ_cons, @List.take_zero, @List.drop_succ_cons, @List.drop_zero, @List.all_cons, @List.all_nil, @List.flatten_cons, @List.append_nil, @Nat.add_zero, @Nat.zero_add, @Nat.le_refl, @beq_self_eq_true⟩
@[go_sem] theorem rU5 : (∀ (b : Bool), (b && b) = b) ∧
  (∀ (b : Bool), (b && Bool.true) = b) ∧
  (∀ (b : Bool), (Bool.true && b) = b) ∧
  (∀ (p : Prop), (p ∧ p) = p) ∧
  (∀ (p : Prop), (p ∧ True) = p) ∧
  (∀ (p : Prop), (True ∧ p) = p) ∧
  (∀ {α β : Type} {a : α} {l : List α} {f : β → α → β} {b : β}, List.foldl f b (a :: l) = List.foldl f (f b a) l) ∧
  (∀ {α β : Type} {f : α → β → α} {b : α}, List.foldl f b [] = b) ∧
  ((!Bool.true) = Bool.false) ∧
  ((!Bool.false) = Bool.true) ∧
  (∀ (b : Bool), (b == Bool.true) = b) ∧
  (∀ (b : Bool), (b == Bool.false) = !b) ∧
  (∀ (a b : Int), (if b > a then b else a) = Max.max a b) ∧
  (∀ (a b : Int), (if b < a then b else a) = Min.min a b) ∧
  ((Bool.false = Bool.true) = False) :=
  ⟨@Bool.and_self, @Bool.and_true, @Bool.true_and, @and_self, @and_true, @true_and, @List.foldl_cons, @List.foldl_nil, @Bool.not_true, @Bool.not_false, @btrue, @bfalse, @imax, @imin, @Bool.false_eq_true⟩
@[go_sem] theorem rU6 : (∀ {α : Type}, ([] : List α).length = 0) ∧
  (∀ {α : Type}, ([] : List (List α)).flatten = []) ∧
  (∀ {α : Type}, ([] : List α).isEmpty = Bool.true) ∧
  (∀ {α : Type} (a : α) (l : List α), (a :: l).isEmpty = Bool.false) ∧
  (∀ {α : Type} (a : α), List.replicate 0 a = []) ∧
  (∀ {α : Type} (n : Nat) (a : α), List.replicate (n + 1) a = a :: List.replicate n a) ∧
  (∀ {α : Type} (a b : α), cond Bool.true a b = a) ∧
  (∀ {α : Type} (a b : α), cond Bool.false a b = b) ∧
  (∀ n : Nat, n - 0 = n) :=
  ⟨@fun _ => rfl, @fun _ => rfl, @fun _ => rfl, @fun _ _ _ => rfl, @fun _ _ => rfl, @fun _ _ _ => rfl, @fun _ _ _ => rfl, @fun _ _ _ => rfl, Nat.sub_zero⟩
end Go.Proofs.YtmgmoamcbnkbfaaGreatDoor
