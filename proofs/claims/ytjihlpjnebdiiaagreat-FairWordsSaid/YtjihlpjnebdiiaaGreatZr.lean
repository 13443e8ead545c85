/- Rules: what closes goals. My own work. -/
set_option linter.unusedVariables false
set_option linter.unusedSectionVars false
set_option linter.unusedSimpArgs false
namespace Go.Sx
theorem bH {P : Prop} (h : P := by
  repeat (first | exact ResOk.nil | (apply ResOk.tmp; rfl) | (apply c3q; rfl; exact inferInstance; rfl; rfl))) : P := h
theorem a4t {P : Prop} (h : P := by
  first | (with_reducible assumption) | (with_reducible rfl) | (with_reducible exact uG) | (with_reducible exact uH) | omega | decide | exact rfl) : P := h
theorem f5u {P : Prop} (h : P := by
  first | (with_reducible assumption) | (with_reducible rfl) | (with_reducible exact uG) | (with_reducible exact uH) | omega | decide) : P := h
theorem f5q {P : Prop} (h : P := by
  first | (with_reducible assumption) | exact List.getElem?_eq_getElem (by first | (with_reducible assumption) | omega)) : P := h
theorem f1u {P : Prop} (h : P := by
  first | exact Bnd.none | (apply b5h; rfl) | (apply Bnd.some; rfl; omega)) : P := h
theorem mZ {P : Prop} (h : P := by
  first | rfl | (with_reducible assumption) | (simp; done) | (simp; omega) | omega | (constructor <;> (simp) <;> omega)) : P := h
theorem m9 {P : Prop} (h : P := by
  (repeat (first | exact Sub.nil | (refine Sub.cons (by first | rfl | (simp only [Nat.zero_add]; rfl)) ?_))); all_goals fail) : P := h
theorem f1n {P : Prop} (h : P := by
  (repeat (first | (with_reducible exact rV) | (apply oX))); all_goals fail) : P := h
theorem cH {P : Prop} (h : P := by
  grind [a6y, qB, o8, cX, rG, dC, c2e]) : P := h
theorem f5v {P : Prop} (h : P := by
  first | (with_reducible rfl) | exact congrArg Value.bool (by with_reducible assumption) | exact congrArg Value.bool (jP a4t)) : P := h
theorem f5w {P : Prop} (h : P := by
  first | (with_reducible rfl) | exact congrArg Value.bool (by with_reducible assumption) | exact congrArg Value.bool (jQ a4t)) : P := h
theorem b8u {P : Prop} (h : P := by
  first | exact GIn.none | (apply f3n; rfl; rfl; exact f5v) | (apply gin_f; rfl; rfl; exact f5w)) : P := h
theorem e0p {P : Prop} (h : P := by
  first | (apply gout_u; rfl; rfl; (with_reducible rfl)) | (apply gout_t; rfl; rfl; exact f5v) | (apply f0h; rfl; rfl; exact f5w)) : P := h
theorem jM {P : Prop} (h : P := by
  (repeat (first | exact Ent.refl | exact Ent.nil | apply Ent.pick | apply Ent.drop)); all_goals fail) : P := h
theorem oO {P : Prop} (h : P := by
  first | exact ⟨rfl, rfl⟩ | exact ⟨congrArg Value.bool (by decide), rfl⟩ | exact ⟨_, rfl, rfl⟩ | exact ⟨_, _, rfl, rfl⟩) : P := h
theorem b7f {P : Prop} (h : P := by
  first | (apply f0c; rfl) | (apply d6d; rfl) | (apply c3v; rfl) | (apply b8x; rfl; rfl; exact inferInstance) | (apply c7u; rfl; rfl; exact inferInstance; rfl) | (apply c3w; rfl; rfl; exact inferInstance; rfl) | (apply e5d; rfl; rfl; exact inferInstance; exact inferInstance; rfl) | (apply c5m; rfl; exact inferInstance; rfl; rfl) | (apply d0y; rfl; rfl) | (apply f3c; rfl; rfl) | (apply f3d; rfl; rfl) | (apply f3e; rfl; rfl) | (apply f3f; rfl; rfl) | (apply f3g; rfl; rfl) | (apply f3h; rfl; rfl) | (apply v_eqb_xt; rfl; rfl) | (apply v_eqb_xf; rfl; rfl) | (apply v_eqb_yt; rfl; rfl) | (apply v_eqb_yf; rfl; rfl) | (apply v_neb_xt; rfl; rfl) | (apply v_neb_xf; rfl; rfl) | (apply v_neb_yt; rfl; rfl) | (apply v_neb_yf; rfl; rfl) | (apply v_eqb; rfl; rfl) | (apply f3k; rfl; rfl) | (apply e5b; rfl; (with_reducible rfl)) | (apply e5c; rfl; (with_reducible rfl)) | (apply d6e; rfl; (with_reducible assumption)) | (apply d6f; rfl; (with_reducible assumption)) | (apply d0x; rfl) | (apply b7g; rfl) | (apply c0w; rfl; (with_reducible rfl); rfl) | (apply c0x; rfl; (with_reducible rfl); rfl) | (apply c0w; rfl; exact congrArg Value.bool (jP f5u); rfl) | (apply c0x; rfl; exact congrArg Value.bool (jQ f5u); rfl) | (apply f0d; rfl; rfl; omega; omega) | (apply e7e; rfl; rfl) | (apply f0e; rfl; rfl; omega; omega) | (apply e7f; rfl; rfl) | (apply f0f; rfl; rfl; omega; omega) | (apply e7g; rfl; rfl) | (apply v_fieldN; rfl; rfl; exact inferInstance; rfl) | (apply v_field; rfl; rfl; rfl) | (apply b8z; rfl) | (apply v_len_string; rfl) | (apply v_len_array; rfl) | (apply a6i; rfl; rfl; exact inferInstance; exact inferInstance; exact inferInstance; rfl; rfl) | (apply b1y; rfl; rfl; exact inferInstance; exact inferInstance; exact inferInstance; exact inferInstance; rfl; rfl) | (apply c3x; rfl; rfl) | (apply a0j; rfl; rfl; omega; omega) | (apply a0k; rfl; rfl; omega; omega) | (apply y7; rfl; rfl; omega; omega; rfl; rfl) | (apply b1w; rfl) | (apply v_min; rfl; rfl) | (apply f3j; rfl; rfl) | (apply v_or; rfl; rfl) | (apply f3l; rfl; rfl; omega) | (apply v_shl; rfl; rfl; omega) | (apply f3i; rfl; rfl; omega) | (apply v_quo; rfl; rfl; omega) | (apply v_neg; rfl) | (apply a6g; rfl) | (apply yO; rfl; exact f1u; exact f1u; omega; omega) | (apply c7u; rfl; rfl; exact inferInstance; (with_reducible assumption)) | (apply c6u; rfl; exact f1u; exact f1u; exact f1u; (first | exact fun h => h | (intro _; rfl) | (intro h; exact nomatch h)); omega; omega; omega) | (apply a3i; rfl; exact inferInstance; (refine c0z ?_ _ _ ?_; (exact fun _ => rfl); (first | (with_reducible assumption) | omega)); rfl; rfl) | (apply a3i; rfl; exact inferInstance; (apply b8c; (exact fun _ => rfl); exact f5q; rfl); rfl; rfl) | (apply b8d; rfl; rfl; exact inferInstance; (exact fun _ => rfl); exact f5q; exact inferInstance; rfl; rfl) | (apply a7i; rfl; exact inferInstance; (apply a7j; (exact fun _ => rfl); exact f5q; rfl); rfl; rfl) | (apply c2w; rfl; rfl) | (apply c2x; rfl; rfl) | (apply v_nes_none; rfl; rfl) | (apply v_nes_some; rfl; rfl) | (apply c2y; rfl; rfl) | (apply c2z; rfl; rfl) | (apply c3a; rfl; rfl) | (apply c3b; rfl; rfl) | (apply d4f; rfl; exact inferInstance) | (apply a5f; rfl; exact inferInstance; rfl; (first | (with_reducible assumption) | omega)) | (apply vP; rfl; exact inferInstance; rfl; omega; omega) | (apply a5g; rfl; (with_reducible assumption); rfl; (first | (with_reducible assumption) | omega)) | (apply vR; rfl; (with_reducible assumption); rfl; omega; omega) | (apply c9u; rfl; rfl; exact inferInstance) | (apply c2q; rfl; rfl; exact inferInstance) | (apply v_len_mapT; rfl; exact inferInstance) | (apply v_entry; rfl; exact inferInstance) | (apply d5c; rfl; rfl; rfl; rfl) | (apply d5d; rfl; rfl; rfl; rfl)) : P := h
theorem e7d {P : Prop} (h : P := by
  first | (apply b1n; rfl; rfl) | (apply b8y; rfl; rfl; exact inferInstance; exact inferInstance; rfl; rfl; rfl) | (apply d6g; rfl; rfl; exact inferInstance; exact inferInstance; exact inferInstance; rfl; rfl; rfl; rfl) | (apply vE; rfl; rfl; exact inferInstance; rfl; rfl; rfl; rfl) | (apply f3m; rfl; exact inferInstance; rfl) | (apply e5e; rfl) | (apply b4u; rfl; rfl; rfl; exact inferInstance; exact inferInstance; exact inferInstance; exact inferInstance; exact inferInstance; rfl; rfl; rfl) | (apply d4g; rfl; rfl; exact inferInstance; (first | exact inferInstance | exact s5 inferInstance rfl rfl); (first | omega | (simp only [List.length_append, List.length_cons, List.length_nil]; omega)); (first | omega | (simp only [List.length_append, List.length_cons, List.length_nil]; omega)); rfl; rfl; rfl) | (apply c2r; rfl) | (apply pH; rfl; rfl; rfl; exact inferInstance; rfl) | (apply c9v; rfl; rfl; exact inferInstance) | (apply b4z; rfl; omega; omega; omega; rfl; rfl) | (apply d9w; rfl; rfl; exact inferInstance; (first | exact inferInstance | exact s5 inferInstance rfl rfl); (first | omega | (simp only [List.length_cons, List.length_nil]; omega)); rfl; rfl) | (apply a4j; rfl; rfl; exact inferInstance; exact inferInstance; rfl; rfl; omega; omega) | (apply b4m; rfl; rfl; exact inferInstance; exact inferInstance; rfl; rfl; omega; omega)) : P := h
theorem zr {α β : Type} {a : α} {b : β} {P : α → β → Prop} (h : P a b) : ∀ r L, r = a ∧ L = b → P r L := by
  rintro _ _ ⟨rfl, rfl⟩
  exact h
theorem om {P : Prop} (h : P := by omega) : P := h
theorem zR {C Q : Prop} (c : C) (h : C → Q := by
  intro c
  (repeat (first | (with_reducible exact Ent.refl) | exact Ent.nil | (apply iS; exact f1n) | (apply c) | apply Ent.drop)); all_goals exact mZ) : Q := h c
end Go.Sx
