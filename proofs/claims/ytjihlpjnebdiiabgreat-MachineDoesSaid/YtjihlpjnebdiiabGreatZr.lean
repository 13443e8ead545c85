/- Rules: what closes goals. My own work. -/
set_option linter.unusedVariables false
set_option linter.unusedSectionVars false
set_option linter.unusedSimpArgs false
namespace Go.Sx
theorem ar {P : Prop} (h : P := by
  repeat (first | exact lr.nil | (apply lr.tmp; rfl) | (apply HF; rfl; exact inferInstance; rfl; rfl))) : P := h
theorem lR {P : Prop} (h : P := by
  first | (with_reducible assumption) | (with_reducible rfl) | (with_reducible exact p4) | (with_reducible exact p5) | omega | decide | exact rfl) : P := h
theorem Y8 {P : Prop} (h : P := by
  first | (with_reducible assumption) | (with_reducible rfl) | (with_reducible exact p4) | (with_reducible exact p5) | omega | decide) : P := h
theorem Xr {P : Prop} (h : P := by
  first | (with_reducible assumption) | exact List.getElem?_eq_getElem (by first | (with_reducible assumption) | omega)) : P := h
theorem JZ {P : Prop} (h : P := by
  first | exact Ak.none | (apply DR; rfl) | (apply Ak.some; rfl; omega)) : P := h
theorem bu {P : Prop} (h : P := by
  first | rfl | (with_reducible assumption) | (simp; done) | (simp; omega) | omega | (constructor <;> (simp) <;> omega)) : P := h
theorem bH {P : Prop} (h : P := by
  (repeat (first | exact Sub.nil | (refine Sub.cons (by first | rfl | (simp only [Nat.zero_add]; rfl)) ?_))); all_goals fail) : P := h
theorem G4 {P : Prop} (h : P := by
  (repeat (first | (with_reducible exact qM) | (apply ol))); all_goals fail) : P := h
theorem zqE {P : Prop} (h : P := by
  grind [Zf, Zg, Yb, Zh, isIA, Yc, tokN]) : P := h
theorem Y9 {P : Prop} (h : P := by
  first | (with_reducible rfl) | exact congrArg Value.bool (by with_reducible assumption) | exact congrArg Value.bool (je lR)) : P := h
theorem Za {P : Prop} (h : P := by
  first | (with_reducible rfl) | exact congrArg Value.bool (by with_reducible assumption) | exact congrArg Value.bool (jg lR)) : P := h
theorem qy {P : Prop} (h : P := by
  first | exact tB.none | (apply VX; rfl; rfl; exact Y9) | (apply VY; rfl; rfl; exact Za)) : P := h
theorem Aj {P : Prop} (h : P := by
  first | (apply Yd; rfl; rfl; (with_reducible rfl)) | (apply SY; rfl; rfl; exact Y9) | (apply SZ; rfl; rfl; exact Za)) : P := h
theorem bM {P : Prop} (h : P := by
  (repeat (first | exact ai.refl | exact ai.nil | apply ai.pick | apply ai.drop)); all_goals fail) : P := h
theorem cS {P : Prop} (h : P := by
  first | exact ⟨rfl, rfl⟩ | exact ⟨congrArg Value.bool (by decide), rfl⟩ | exact ⟨_, rfl, rfl⟩ | exact ⟨_, _, rfl, rfl⟩) : P := h
theorem qE {P : Prop} (h : P := by
  first | (apply SR; rfl) | (apply Nj; rfl) | (apply HV; rfl) | (apply Gh; rfl; rfl; exact inferInstance) | (apply Jj; rfl; rfl; exact inferInstance; rfl) | (apply HX; rfl; rfl; exact inferInstance; rfl) | (apply PZ; rfl; rfl; exact inferInstance; exact inferInstance; rfl) | (apply Hi; rfl; exact inferInstance; rfl; rfl) | (apply Kq; rfl; rfl) | (apply VJ; rfl; rfl) | (apply VK; rfl; rfl) | (apply VL; rfl; rfl) | (apply VM; rfl; rfl) | (apply VN; rfl; rfl) | (apply VO; rfl; rfl) | (apply Ws; rfl; rfl) | (apply Wt; rfl; rfl) | (apply Wu; rfl; rfl) | (apply Wv; rfl; rfl) | (apply Ww; rfl; rfl) | (apply Wx; rfl; rfl) | (apply Wy; rfl; rfl) | (apply Wz; rfl; rfl) | (apply VS; rfl; rfl) | (apply VT; rfl; rfl) | (apply PX; rfl; (with_reducible rfl)) | (apply PY; rfl; (with_reducible rfl)) | (apply Nk; rfl; (with_reducible assumption)) | (apply Nl; rfl; (with_reducible assumption)) | (apply Kp; rfl) | (apply Ci; rfl) | (apply E6; rfl; (with_reducible rfl); rfl) | (apply E7; rfl; (with_reducible rfl); rfl) | (apply E6; rfl; exact congrArg Value.bool (je Y8); rfl) | (apply E7; rfl; exact congrArg Value.bool (jg Y8); rfl) | (apply SS; rfl; rfl; omega; omega) | (apply RK; rfl; rfl) | (apply SU; rfl; rfl; omega; omega) | (apply RM; rfl; rfl) | (apply SV; rfl; rfl; omega; omega) | (apply RN; rfl; rfl) | (apply WA; rfl; rfl; exact inferInstance; rfl) | (apply Xt; rfl; rfl; rfl) | (apply Gj; rfl) | (apply RI; rfl) | (apply SQ; rfl) | (apply BY; rfl; rfl; exact inferInstance; exact inferInstance; exact inferInstance; rfl; rfl) | (apply CF; rfl; rfl; exact inferInstance; exact inferInstance; exact inferInstance; exact inferInstance; rfl; rfl) | (apply HY; rfl; rfl) | (apply xT; rfl; rfl; omega; omega) | (apply xU; rfl; rfl; omega; omega) | (apply vV; rfl; rfl; omega; omega; rfl; rfl) | (apply CD; rfl) | (apply Zi; rfl; rfl) | (apply VR; rfl; rfl) | (apply v_or; rfl; rfl) | (apply VU; rfl; rfl; omega) | (apply Zj; rfl; rfl; omega) | (apply VP; rfl; rfl; omega) | (apply VQ; rfl; rfl; omega) | (apply Zk; rfl) | (apply BW; rfl) | (apply vU; rfl; exact JZ; exact JZ; omega; omega) | (apply Jj; rfl; rfl; exact inferInstance; (with_reducible assumption)) | (apply DS; rfl; exact JZ; exact JZ; exact JZ; (first | exact fun h => h | (intro _; rfl) | (intro h; exact nomatch h)); omega; omega; omega) | (apply yf; rfl; exact inferInstance; (refine E8 ?_ _ _ ?_; (exact fun _ => rfl); (first | (with_reducible assumption) | omega)); rfl; rfl) | (apply yf; rfl; exact inferInstance; (apply Gd; (exact fun _ => rfl); exact Xr; rfl); rfl; rfl) | (apply Ge; rfl; rfl; exact inferInstance; (exact fun _ => rfl); exact Xr; exact inferInstance; rfl; rfl) | (apply A6; rfl; exact inferInstance; (apply A7; (exact fun _ => rfl); exact Xr; rfl); rfl; rfl) | (apply HO; rfl; rfl) | (apply HQ; rfl; rfl) | (apply Ug; rfl; rfl) | (apply Uh; rfl; rfl) | (apply HR; rfl; rfl) | (apply HS; rfl; rfl) | (apply HT; rfl; rfl) | (apply HU; rfl; rfl) | (apply Ng; rfl; exact inferInstance) | (apply Ag; rfl; exact inferInstance; rfl; (first | (with_reducible assumption) | omega)) | (apply u7; rfl; exact inferInstance; rfl; omega; omega) | (apply Ah; rfl; (with_reducible assumption); rfl; (first | (with_reducible assumption) | omega)) | (apply vd; rfl; (with_reducible assumption); rfl; omega; omega) | (apply Kl; rfl; rfl; exact inferInstance) | (apply Ui; rfl; rfl; exact inferInstance) | (apply Uj; rfl; exact inferInstance) | (apply Xu; rfl; exact inferInstance) | (apply M5; rfl; rfl; rfl; rfl) | (apply M6; rfl; rfl; rfl; rfl)) : P := h
theorem Ei {P : Prop} (h : P := by
  first | (apply CC; rfl; rfl) | (apply Gi; rfl; rfl; exact inferInstance; exact inferInstance; rfl; rfl; rfl) | (apply Nm; rfl; rfl; exact inferInstance; exact inferInstance; exact inferInstance; rfl; rfl; rfl; rfl) | (apply nN; rfl; rfl; exact inferInstance; rfl; rfl; rfl; rfl) | (apply VV; rfl; exact inferInstance; rfl) | (apply P0; rfl) | (apply Ew; rfl; rfl; rfl; exact inferInstance; exact inferInstance; exact inferInstance; exact inferInstance; exact inferInstance; rfl; rfl; rfl) | (apply Nh; rfl; rfl; exact inferInstance; (first | exact inferInstance | exact qV inferInstance rfl rfl); (first | omega | (simp only [List.length_append, List.length_cons, List.length_nil]; omega)); (first | omega | (simp only [List.length_append, List.length_cons, List.length_nil]; omega)); rfl; rfl; rfl) | (apply HL; rfl) | (apply pE; rfl; rfl; rfl; exact inferInstance; rfl) | (apply Km; rfl; rfl; exact inferInstance) | (apply Es; rfl; omega; omega; omega; rfl; rfl) | (apply Mp; rfl; rfl; exact inferInstance; (first | exact inferInstance | exact qV inferInstance rfl rfl); (first | omega | (simp only [List.length_cons, List.length_nil]; omega)); rfl; rfl) | (apply y8; rfl; rfl; exact inferInstance; exact inferInstance; rfl; rfl; omega; omega) | (apply Ev; rfl; rfl; exact inferInstance; exact inferInstance; rfl; rfl; omega; omega)) : P := h
theorem zr {α β : Type} {a : α} {b : β} {P : α → β → Prop} (h : P a b) : ∀ r L, r = a ∧ L = b → P r L := by
  rintro _ _ ⟨rfl, rfl⟩;exact h
theorem om {P : Prop} (h : P := by omega) : P := h
theorem eb {C Q : Prop} (c : C) (h : C → Q := by
  intro c
  (repeat (first | (with_reducible exact ai.refl) | exact ai.nil | (apply iX; exact G4) | (apply c) | apply ai.drop)); all_goals exact bu) : Q := h c
end Go.Sx
