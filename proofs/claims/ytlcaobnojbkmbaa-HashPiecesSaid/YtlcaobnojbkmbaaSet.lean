/- The words by which what is owed is worked out, in short lists. For any program. -/
import Derived.Test.YtlcaobnojbkmbaaEng3
namespace Go.Proofs.Ytlcaobnojbkmbaa
open Go Go.RowKit
theorem qaa : type_of% (And.intro (And.intro @both_true (And.intro @both_false @vc_skip)) (And.intro @vc_draw (And.intro @vc_list @vc_seq))) :=
  (And.intro (And.intro @both_true (And.intro @both_false @vc_skip)) (And.intro @vc_draw (And.intro @vc_list @vc_seq)))
theorem qab : type_of% (And.intro (And.intro @vc_seqn (And.intro @vc_seqe @vc_seqr)) (And.intro @vc_cond (And.intro @vc_block @vc_blockn))) :=
  (And.intro (And.intro @vc_seqn (And.intro @vc_seqe @vc_seqr)) (And.intro @vc_cond (And.intro @vc_block @vc_blockn)))
theorem qac : type_of% (And.intro (And.intro @vc_blockr (And.intro @vc_blocke @vc_loop)) (And.intro @vc_exit (And.intro @vc_ret @vc_loopn))) :=
  (And.intro (And.intro @vc_blockr (And.intro @vc_blocke @vc_loop)) (And.intro @vc_exit (And.intro @vc_ret @vc_loopn)))
theorem qad : type_of% (And.intro (And.intro @vc_loope (And.intro @vc_loopr @vcl_nil)) (And.intro @vcl_cons (And.intro @lw_eq @retW_eq))) :=
  (And.intro (And.intro @vc_loope (And.intro @vc_loopr @vcl_nil)) (And.intro @vcl_cons (And.intro @lw_eq @retW_eq)))
theorem qae : type_of% (And.intro (And.intro @extW_eq (And.intro @rowW_eq @aggW_eq)) (And.intro @plv_nil (And.intro @plv_tk @plv_fz))) :=
  (And.intro (And.intro @extW_eq (And.intro @rowW_eq @aggW_eq)) (And.intro @plv_nil (And.intro @plv_tk @plv_fz)))
theorem qaf : type_of% (And.intro (And.intro @plv_lm (And.intro @pm_eq @plv_ld)) (And.intro @pt_eq (And.intro @pz_eq @pl_eq))) :=
  (And.intro (And.intro @plv_lm (And.intro @pm_eq @plv_ld)) (And.intro @pt_eq (And.intro @pz_eq @pl_eq)))
theorem qag : type_of% (And.intro (And.intro @keepM_nil (And.intro @vc_jn @vc_je)) (And.intro @vc_jr (And.intro @stU_env @stU_mem))) :=
  (And.intro (And.intro @keepM_nil (And.intro @vc_jn @vc_je)) (And.intro @vc_jr (And.intro @stU_env @stU_mem)))
theorem qah : type_of% (And.intro (And.intro @both_true (And.intro @both_false @both_dec)) (And.intro @both_ndec (And.intro @Bool.false_eq_true @true_or))) :=
  (And.intro (And.intro @both_true (And.intro @both_false @both_dec)) (And.intro @both_ndec (And.intro @Bool.false_eq_true @true_or)))
theorem qai : type_of% (And.intro (And.intro @or_true (And.intro @List.append_eq.{0} @Int.cast_ofNat_Int)) (And.intro @List.any_cons.{0} (And.intro @List.any_nil.{0} @beq_iff_eq.{0}))) :=
  (And.intro (And.intro @or_true (And.intro @List.append_eq.{0} @Int.cast_ofNat_Int)) (And.intro @List.any_cons.{0} (And.intro @List.any_nil.{0} @beq_iff_eq.{0})))
theorem qaj : type_of% (And.intro (And.intro @Bool.decide_eq_true (And.intro @Option.getD_some.{0} @Option.getD_none.{0})) (And.intro @Option.map_some.{0, 0} (And.intro @Option.map_none.{0, 0} @Option.bind_some.{0, 0}))) :=
  (And.intro (And.intro @Bool.decide_eq_true (And.intro @Option.getD_some.{0} @Option.getD_none.{0})) (And.intro @Option.map_some.{0, 0} (And.intro @Option.map_none.{0, 0} @Option.bind_some.{0, 0})))
theorem qak : type_of% (And.intro (And.intro @Option.isSome_some.{0} (And.intro @Option.isNone_some.{0} @Option.isNone_none.{0})) (And.intro @Option.isSome_none.{0} (And.intro @decide_true @decide_false))) :=
  (And.intro (And.intro @Option.isSome_some.{0} (And.intro @Option.isNone_some.{0} @Option.isNone_none.{0})) (And.intro @Option.isSome_none.{0} (And.intro @decide_true @decide_false)))
theorem qal : type_of% (And.intro (And.intro @and_true (And.intro @true_and @and_self)) (And.intro @Bool.or_true (And.intro @Bool.true_or @Bool.or_false))) :=
  (And.intro (And.intro @and_true (And.intro @true_and @and_self)) (And.intro @Bool.or_true (And.intro @Bool.true_or @Bool.or_false)))
theorem qam : type_of% (And.intro (And.intro @Bool.false_or (And.intro @Bool.not_true @Bool.not_false)) (And.intro @List.map_cons.{0, 0} (And.intro @List.map_nil.{0, 0} @List.length_cons.{0}))) :=
  (And.intro (And.intro @Bool.false_or (And.intro @Bool.not_true @Bool.not_false)) (And.intro @List.map_cons.{0, 0} (And.intro @List.map_nil.{0, 0} @List.length_cons.{0})))
theorem qan : type_of% (And.intro (And.intro @List.length_nil.{0} (And.intro @List.getElem?_toArray.{0} @List.getElem?_cons_zero.{0})) (And.intro @List.getElem?_cons_succ.{0} (And.intro @List.getElem?_nil.{0} @true_implies))) :=
  (And.intro (And.intro @List.length_nil.{0} (And.intro @List.getElem?_toArray.{0} @List.getElem?_cons_zero.{0})) (And.intro @List.getElem?_cons_succ.{0} (And.intro @List.getElem?_nil.{0} @true_implies)))
theorem qao : type_of% (And.intro (And.intro @false_and (And.intro @and_false @false_implies)) (And.intro @Bool.true_eq_false (And.intro @not_true @not_false_iff))) :=
  (And.intro (And.intro @false_and (And.intro @and_false @false_implies)) (And.intro @Bool.true_eq_false (And.intro @not_true @not_false_iff)))
theorem qap : type_of% (And.intro (And.intro @Nat.sub_zero (And.intro @Nat.zero_add @Nat.add_zero)) (And.intro @List.drop_zero.{0} (And.intro @List.drop_succ_cons.{0} @List.drop_nil.{0}))) :=
  (And.intro (And.intro @Nat.sub_zero (And.intro @Nat.zero_add @Nat.add_zero)) (And.intro @List.drop_zero.{0} (And.intro @List.drop_succ_cons.{0} @List.drop_nil.{0})))
theorem qaq : type_of% (And.intro (And.intro @List.take_zero.{0} (And.intro @List.take_succ_cons.{0} @List.take_nil.{0})) (And.intro @List.set_cons_zero.{0} (And.intro @List.set_cons_succ.{0} @List.nil_append.{0}))) :=
  (And.intro (And.intro @List.take_zero.{0} (And.intro @List.take_succ_cons.{0} @List.take_nil.{0})) (And.intro @List.set_cons_zero.{0} (And.intro @List.set_cons_succ.{0} @List.nil_append.{0})))
theorem qar : type_of% (And.intro (And.intro @List.cons_append.{0} (And.intro @List.append_nil.{0} @List.replicate_zero.{0})) (And.intro @List.replicate_succ.{0} (And.intro @BitVec.ofNat_eq_ofNat @Option.some.injEq.{0}))) :=
  (And.intro (And.intro @List.cons_append.{0} (And.intro @List.append_nil.{0} @List.replicate_zero.{0})) (And.intro @List.replicate_succ.{0} (And.intro @BitVec.ofNat_eq_ofNat @Option.some.injEq.{0})))
theorem qas : type_of% (And.intro (And.intro @AV.int.injEq (And.intro @AV.u64.injEq @AV.u32.injEq)) (And.intro @AV.u8.injEq (And.intro @AV.bool.injEq @AV.a64.injEq))) :=
  (And.intro (And.intro @AV.int.injEq (And.intro @AV.u64.injEq @AV.u32.injEq)) (And.intro @AV.u8.injEq (And.intro @AV.bool.injEq @AV.a64.injEq)))
theorem qat : type_of% (And.intro (And.intro @AV.a32.injEq @AV.a8.injEq) (And.intro @Nat.zero_le @Int.toNat_natCast)) :=
  (And.intro (And.intro @AV.a32.injEq @AV.a8.injEq) (And.intro @Nat.zero_le @Int.toNat_natCast))
end Go.Proofs.Ytlcaobnojbkmbaa
