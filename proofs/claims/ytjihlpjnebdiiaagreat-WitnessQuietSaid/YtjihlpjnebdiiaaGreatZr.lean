/- Rules: what closes goals. My own work. -/
set_option linter.unusedVariables false
set_option linter.unusedSectionVars false
set_option linter.unusedSimpArgs false
namespace Go.Sx
theorem zqR {P : Prop} (h : P := by
  repeat (first | exact ResOk.nil | (apply ResOk.tmp; rfl) | (apply resOk_cell; rfl; exact inferInstance; rfl; rfl))) : P := h
theorem zqA {P : Prop} (h : P := by
  first | (with_reducible assumption) | (with_reducible rfl) | (with_reducible exact nn_eq) | (with_reducible exact nn_ne) | omega | decide | exact rfl) : P := h
theorem zqD {P : Prop} (h : P := by
  first | (with_reducible assumption) | (with_reducible rfl) | (with_reducible exact nn_eq) | (with_reducible exact nn_ne) | omega | decide) : P := h
theorem zqG {P : Prop} (h : P := by
  first | (with_reducible assumption) | exact List.getElem?_eq_getElem (by first | (with_reducible assumption) | omega)) : P := h
theorem zqB {P : Prop} (h : P := by
  first | exact Bnd.none | (apply bnd_nat; rfl) | (apply Bnd.some; rfl; omega)) : P := h
theorem zqS {P : Prop} (h : P := by
  first | rfl | (with_reducible assumption) | (simp; done) | (simp; omega) | omega | (constructor <;> (simp) <;> omega)) : P := h
theorem zqU {P : Prop} (h : P := by
  (repeat (first | exact Sub.nil | (refine Sub.cons (by first | rfl | (simp only [Nat.zero_add]; rfl)) ?_))); all_goals fail) : P := h
theorem zqP {P : Prop} (h : P := by
  (repeat (first | (with_reducible exact pk_here) | (apply pk_there))); all_goals fail) : P := h
theorem zqE {P : Prop} (h : P := by
  grind [isGet, isPut, isPack, isTok, isIA, isDone, tokN]) : P := h
theorem zqT {P : Prop} (h : P := by
  first | (with_reducible rfl) | exact congrArg Value.bool (by with_reducible assumption) | exact congrArg Value.bool (dec_t zqA)) : P := h
theorem zqF {P : Prop} (h : P := by
  first | (with_reducible rfl) | exact congrArg Value.bool (by with_reducible assumption) | exact congrArg Value.bool (dec_f zqA)) : P := h
theorem zqI {P : Prop} (h : P := by
  first | exact GIn.none | (apply gin_t; rfl; rfl; exact zqT) | (apply gin_f; rfl; rfl; exact zqF)) : P := h
theorem zqO {P : Prop} (h : P := by
  first | (apply gout_u; rfl; rfl; (with_reducible rfl)) | (apply gout_t; rfl; rfl; exact zqT) | (apply gout_f; rfl; rfl; exact zqF)) : P := h
theorem zqN {P : Prop} (h : P := by
  (repeat (first | exact Ent.refl | exact Ent.nil | apply Ent.pick | apply Ent.drop)); all_goals fail) : P := h
theorem zqL {P : Prop} (h : P := by
  first | exact ⟨rfl, rfl⟩ | exact ⟨congrArg Value.bool (by decide), rfl⟩ | exact ⟨_, rfl, rfl⟩ | exact ⟨_, _, rfl, rfl⟩) : P := h
theorem zqV {P : Prop} (h : P := by
  first | (apply v_move; rfl) | (apply v_assign; rfl) | (apply v_nilCheck; rfl) | (apply v_fieldAddr; rfl; rfl; exact inferInstance) | (apply v_load1; rfl; rfl; exact inferInstance; rfl) | (apply v_load_all; rfl; rfl; exact inferInstance; rfl) | (apply v_loadN; rfl; rfl; exact inferInstance; exact inferInstance; rfl) | (apply v_load; rfl; exact inferInstance; rfl; rfl) | (apply v_extract; rfl; rfl) | (apply v_lss; rfl; rfl) | (apply v_leq; rfl; rfl) | (apply v_gtr; rfl; rfl) | (apply v_geq; rfl; rfl) | (apply v_eql; rfl; rfl) | (apply v_neq; rfl; rfl) | (apply v_eqb_xt; rfl; rfl) | (apply v_eqb_xf; rfl; rfl) | (apply v_eqb_yt; rfl; rfl) | (apply v_eqb_yf; rfl; rfl) | (apply v_neb_xt; rfl; rfl) | (apply v_neb_xf; rfl; rfl) | (apply v_neb_yt; rfl; rfl) | (apply v_neb_yf; rfl; rfl) | (apply v_eqb; rfl; rfl) | (apply v_neb; rfl; rfl) | (apply v_not_t; rfl; (with_reducible rfl)) | (apply v_not_f; rfl; (with_reducible rfl)) | (apply v_not_ht; rfl; (with_reducible assumption)) | (apply v_not_hf; rfl; (with_reducible assumption)) | (apply v_not_dec; rfl) | (apply v_not; rfl) | (apply v_pick_t; rfl; (with_reducible rfl); rfl) | (apply v_pick_f; rfl; (with_reducible rfl); rfl) | (apply v_pick_t; rfl; exact congrArg Value.bool (dec_t zqD); rfl) | (apply v_pick_f; rfl; exact congrArg Value.bool (dec_f zqD); rfl) | (apply v_add'; rfl; rfl; omega; omega) | (apply v_add; rfl; rfl) | (apply v_sub'; rfl; rfl; omega; omega) | (apply v_sub; rfl; rfl) | (apply v_mul'; rfl; rfl; omega; omega) | (apply v_mul; rfl; rfl) | (apply v_fieldN; rfl; rfl; exact inferInstance; rfl) | (apply v_field; rfl; rfl; rfl) | (apply v_len_slice; rfl) | (apply v_len_string; rfl) | (apply v_len_array; rfl) | (apply v_build_struct; rfl; rfl; exact inferInstance; exact inferInstance; exact inferInstance; rfl; rfl) | (apply v_build_array; rfl; rfl; exact inferInstance; exact inferInstance; exact inferInstance; exact inferInstance; rfl; rfl) | (apply v_makeFunc; rfl; rfl) | (apply v_indexAddr_slice; rfl; rfl; omega; omega) | (apply v_indexAddr_array; rfl; rfl; omega; omega) | (apply v_index_array; rfl; rfl; omega; omega; rfl; rfl) | (apply v_convert_int; rfl) | (apply v_min; rfl; rfl) | (apply v_and; rfl; rfl) | (apply v_or; rfl; rfl) | (apply v_shr; rfl; rfl; omega) | (apply v_shl; rfl; rfl; omega) | (apply v_rem; rfl; rfl; omega) | (apply v_quo; rfl; rfl; omega) | (apply v_neg; rfl) | (apply v_slice_array0; rfl) | (apply v_slice_array; rfl; exact zqB; exact zqB; omega; omega) | (apply v_load1; rfl; rfl; exact inferInstance; (with_reducible assumption)) | (apply v_slice; rfl; exact zqB; exact zqB; exact zqB; (first | exact fun h => h | (intro _; rfl) | (intro h; exact nomatch h)); omega; omega; omega) | (apply v_load_rd; rfl; exact inferInstance; (refine sub_flat ?_ _ _ ?_; (exact fun _ => rfl); (first | (with_reducible assumption) | omega)); rfl; rfl) | (apply v_load_rd; rfl; exact inferInstance; (apply sub_flat_e0; (exact fun _ => rfl); exact zqG; rfl); rfl; rfl) | (apply v_load_rdfN; rfl; rfl; exact inferInstance; (exact fun _ => rfl); exact zqG; exact inferInstance; rfl; rfl) | (apply v_load_rdf; rfl; exact inferInstance; (apply sub_flat_e; (exact fun _ => rfl); exact zqG; rfl); rfl; rfl) | (apply v_eqs_none; rfl; rfl) | (apply v_eqs_some; rfl; rfl) | (apply v_nes_none; rfl; rfl) | (apply v_nes_some; rfl; rfl) | (apply v_eqp_none; rfl; rfl) | (apply v_eqp_some; rfl; rfl) | (apply v_nep_none; rfl; rfl) | (apply v_nep_some; rfl; rfl) | (apply v_len_rd; rfl; exact inferInstance) | (apply v_indexAddr_rdn; rfl; exact inferInstance; rfl; (first | (with_reducible assumption) | omega)) | (apply v_indexAddr_rd; rfl; exact inferInstance; rfl; omega; omega) | (apply v_indexAddr_pun; rfl; (with_reducible assumption); rfl; (first | (with_reducible assumption) | omega)) | (apply v_indexAddr_pu; rfl; (with_reducible assumption); rfl; omega; omega) | (apply v_lookupT; rfl; rfl; exact inferInstance) | (apply v_lookup2T; rfl; rfl; exact inferInstance) | (apply v_len_mapT; rfl; exact inferInstance) | (apply v_entry; rfl; exact inferInstance) | (apply v_eq_agg; rfl; rfl; rfl; rfl) | (apply v_ne_agg; rfl; rfl; rfl; rfl)) : P := h
theorem zqK {P : Prop} (h : P := by
  first | (apply K_buildSlice0; rfl; rfl) | (apply K_store_all; rfl; rfl; exact inferInstance; exact inferInstance; rfl; rfl; rfl) | (apply K_storeN; rfl; rfl; exact inferInstance; exact inferInstance; exact inferInstance; rfl; rfl; rfl; rfl) | (apply K_store; rfl; rfl; exact inferInstance; rfl; rfl; rfl; rfl) | (apply K_box; rfl; exact inferInstance; rfl) | (apply K_alloc; rfl) | (apply K_buildSlice; rfl; rfl; rfl; exact inferInstance; exact inferInstance; exact inferInstance; exact inferInstance; exact inferInstance; rfl; rfl; rfl) | (apply K_append; rfl; rfl; exact inferInstance; (first | exact inferInstance | exact rd_lit inferInstance rfl rfl); (first | omega | (simp only [List.length_append, List.length_cons, List.length_nil]; omega)); (first | omega | (simp only [List.length_append, List.length_cons, List.length_nil]; omega)); rfl; rfl; rfl) | (apply K_makeMapT; rfl) | (apply K_mapUpdateT; rfl; rfl; rfl; exact inferInstance; rfl) | (apply K_deleteT; rfl; rfl; exact inferInstance) | (apply K_makeSliceC; rfl; omega; omega; omega; rfl; rfl) | (apply K_copy; rfl; rfl; exact inferInstance; (first | exact inferInstance | exact rd_lit inferInstance rfl rfl); (first | omega | (simp only [List.length_cons, List.length_nil]; omega)); rfl; rfl) | (apply K_store_own; rfl; rfl; exact inferInstance; exact inferInstance; rfl; rfl; omega; omega) | (apply K_store_ownf; rfl; rfl; exact inferInstance; exact inferInstance; rfl; rfl; omega; omega)) : P := h
theorem zr {α β : Type} {a : α} {b : β} {P : α → β → Prop} (h : P a b) : ∀ r L, r = a ∧ L = b → P r L := by
  rintro _ _ ⟨rfl, rfl⟩
  exact h
theorem enx {C Q : Prop} (c : C) (h : C → Q := by
  intro c
  (repeat (first | (with_reducible exact Ent.refl) | exact Ent.nil | (apply ent_pickE; exact zqP) | (apply c) | apply Ent.drop)); all_goals exact zqS) : Q := h c
end Go.Sx
