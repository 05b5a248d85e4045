/- Contracts of functions, by program (gen.py). No condition. -/
import Derived.Test.YtapjficbenpaeaaGreatZL
import Derived.Test.YtapjficbenpaeaaGreatZM
import Derived.Test.YtapjficbenpaeaaGreatZCB
import Derived.Test.YtapjficbenpaeaaGreatZS12
namespace Go.Proofs.Tryz
open Go Go.Abs Go.Stop
set_option maxRecDepth 8000
set_option linter.unusedVariables false
set_option linter.unusedSimpArgs false
theorem P326 (f_1 : List TField) (bib_2 : Int) (r_3 : Bool) (h : M326 f_1 bib_2 = some r_3) :
    PC prog 4 [(.ls (List.map eTField f_1)), (.i .i64 bib_2)] (fun rs => rs = [(.b r_3)]) := by
 refine PC.of_tr (cx := ⟨58, none, lay, 0⟩) layOK func4 rfl rfl rfl rfl rfl (by simp [f4]) ?_
 unfold M326 at h
 refine sg ?_
 conv=>whnf
 refine Tr.seq ?_
 refine sg ?_
 conv=>whnf
 obtain ⟨r_4, hc5, h⟩ := bS h
 refine PC.ecall (P243 r_4 hc5) (fun rs hrs => ?_)
 subst hrs
 conv=>whnf
 refine Tr.cond ?_
 conv=>whnf
 refine cB h (fun hb6 h => ?_) (fun hb6 h => ?_)
 ·refine sg ?_
  conv=>whnf
  refine Tr.ret ?_
  conv=>whnf
  cases h
  rfl
 refine Tr.skip ?_
 conv=>whnf
 refine Tr.seq ?_
 refine sg ?_
 conv=>whnf
 obtain ⟨r_7, hc8, h⟩ := bS h
 refine PC.ecall (P253 f_1 r_7 hc8) (fun rs hrs => ?_)
 subst hrs
 conv=>whnf
 refine Tr.cond ?_
 conv=>whnf
 refine cB h (fun hb9 h => ?_) (fun hb9 h => ?_)
 ·refine sg ?_
  conv=>whnf
  refine Tr.ret ?_
  conv=>whnf
  cases h
  rfl
 refine Tr.skip ?_
 conv=>whnf
 refine sg ?_
 conv=>whnf
 obtain ⟨⟨r_10, r_11⟩, hc12, h⟩ := bS h
 refine PC.ecall (P145 f_1 bib_2 r_10 r_11 hc12) (fun rs hrs => ?_)
 subst hrs
 conv=>whnf
 refine sg ?_
 conv=>whnf
 obtain ⟨⟨r_13, r_14⟩, hc15, h⟩ := bS h
 refine PC.ecall (P322 f_1 bib_2 r_13 r_14 hc15) (fun rs hrs => ?_)
 subst hrs
 conv=>whnf
 refine sg ?_
 conv=>whnf
 obtain ⟨⟨r_16, r_17⟩, hc18, h⟩ := bS h
 refine PC.ecall (P190 f_1 r_16 r_17 hc18) (fun rs hrs => ?_)
 subst hrs
 conv=>whnf
 refine sg ?_
 conv=>whnf
 obtain ⟨⟨r_19, r_20⟩, hc21, h⟩ := bS h
 refine PC.ecall (P325 f_1 r_19 r_20 hc21) (fun rs hrs => ?_)
 subst hrs
 conv=>whnf
 refine Tr.seq ?_
 obtain ⟨v_22, hv23, h⟩ := bS h
 refine Tr.cutQ1 ([(4, .d (.b v_22))]) ([]) ?_ (fun T1 H1 hw => ?_)
 ·replace h := hv23; clear hv23
  refine rg ?_
  conv=>whnf
  obtain ⟨r_24, hc25, h⟩ := bS h
  refine PC.ecall (P194 r_10 r_13 r_24 hc25) (fun rs hrs => ?_)
  subst hrs
  conv=>whnf
  refine cB h (fun hb26 h => ?_) (fun hb26 h => ?_)
  ·conv=>whnf
   refine cB h (fun hb27 h => ?_) (fun hb27 h => ?_)
   ·conv=>whnf
    obtain ⟨r_28, hc29, h⟩ := bS h
    refine PC.ecall (P242 r_16 r_19 r_28 hc29) (fun rs hrs => ?_)
    subst hrs
    conv=>whnf
    refine cB h (fun hb30 h => ?_) (fun hb30 h => ?_)
    ·conv=>whnf
     cases h
     exact Wk.mk2 [] 2 rfl rfl (by decide) rfl trivial ⟨rr, trivial⟩
    conv=>whnf
    cases h
    exact Wk.mk2 [] 2 rfl rfl (by decide) rfl trivial ⟨rr, trivial⟩
   conv=>whnf
   cases h
   exact Wk.mk2 [] 2 rfl rfl (by decide) rfl trivial ⟨rr, trivial⟩
  conv=>whnf
  cases h
  exact Wk.mk2 [] 2 rfl rfl (by decide) rfl trivial ⟨rr, trivial⟩
 clear hv23
 conv=>whnf
 refine Tr.weak hw ?_
 refine Tr.ret ?_
 conv=>whnf
 cases h
 rfl
end Go.Proofs.Tryz
