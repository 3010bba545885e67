/-
  The contracts of all functions.
-/
import Derived.Test.YteobfadhflofpaaGreatDoorFunK
set_option linter.unusedSectionVars false
set_option linter.unusedVariables false
set_option linter.unusedSimpArgs false
namespace Go.Lift
open Go Go.Proofs
set_option maxRecDepth 100000
section
variable (m_slices_Clone_uint32 : Has Tryz.prog sg_slices_Clone_uint32) (m_trace_evidence_explanations : Has Tryz.prog sg_trace_evidence_explanations) (m_strings_Join : Has Tryz.prog sg_strings_Join) (m_strconv_Itoa : Has Tryz.prog sg_strconv_Itoa) (m_strings_Split : Has Tryz.prog sg_strings_Split) (m_strings_Cut : Has Tryz.prog sg_strings_Cut) (m_strconv_Atoi : Has Tryz.prog sg_strconv_Atoi)  (i_strings_SplitSeq : FCi Tryz.prog 31 it_strings_SplitSeq)
theorem h_trace_first : Has Tryz.prog sg_trace_first :=
  has_of prog_mixed tys_ok nfs_ok eqs_ok (own := []) all_nil (n := an_trace_first) Tryz.func53 (by kernel_rfl) fun x => ck_trace_first x
theorem h_trace_unless : Has Tryz.prog sg_trace_unless :=
  has_of prog_mixed tys_ok nfs_ok eqs_ok (own := []) all_nil (n := an_trace_unless) Tryz.func56 (by kernel_rfl) fun x => ck_trace_unless x.1 x.2
theorem h_trace_within : Has Tryz.prog sg_trace_within :=
  has_of prog_mixed tys_ok nfs_ok eqs_ok (own := []) all_nil (n := an_trace_within) Tryz.func57 (by kernel_rfl) fun x => ck_trace_within x.1 x.2.1 x.2.2
theorem h_trace_course_stepsErr : Has Tryz.prog sg_trace_course_stepsErr :=
  has_of prog_mixed tys_ok nfs_ok eqs_ok (own := []) (all_cons h_trace_unless (all_cons h_trace_within all_nil)) (n := an_trace_course_stepsErr) Tryz.func55 (by kernel_rfl) fun x => ck_trace_course_stepsErr x.1 x.2
theorem h_trace_trimmed : Has Tryz.prog sg_trace_trimmed :=
  has_of prog_mixed tys_ok nfs_ok eqs_ok (own := []) all_nil (n := an_trace_trimmed) Tryz.func132 (by kernel_rfl) fun x => ck_trace_trimmed x
theorem h_trace_naturalOf : Has Tryz.prog sg_trace_naturalOf :=
  has_of prog_mixed tys_ok nfs_ok eqs_ok (own := []) (all_cons h_trace_trimmed all_nil) (n := an_trace_naturalOf) Tryz.func92 (by kernel_rfl) fun x => ck_trace_naturalOf x
theorem h_trace_size : Has Tryz.prog sg_trace_size :=
  has_of prog_mixed tys_ok nfs_ok eqs_ok (own := []) all_nil (n := an_trace_size) Tryz.func93 (by kernel_rfl) fun x => ck_trace_size x
theorem h_trace_whole : Has Tryz.prog sg_trace_whole :=
  has_of prog_mixed tys_ok nfs_ok eqs_ok (own := []) (all_cons h_trace_naturalOf (all_cons h_trace_size all_nil)) (n := an_trace_whole) Tryz.func59 (by kernel_rfl) fun x => ck_trace_whole x
theorem h_trace_isName : Has Tryz.prog sg_trace_isName :=
  has_of prog_mixed tys_ok nfs_ok eqs_ok (own := []) (all_cons h_trace_within all_nil) (n := an_trace_isName) Tryz.func115 (by kernel_rfl) fun x => ck_trace_isName x
theorem h_trace_isArea : Has Tryz.prog sg_trace_isArea :=
  has_of prog_mixed tys_ok nfs_ok eqs_ok (own := []) (all_cons h_trace_within all_nil) (n := an_trace_isArea) Tryz.func116 (by kernel_rfl) fun x => ck_trace_isArea x
theorem h_trace_strip_length : Has Tryz.prog sg_trace_strip_length :=
  has_of prog_mixed tys_ok nfs_ok eqs_ok (own := []) all_nil (n := an_trace_strip_length) Tryz.func43 (by kernel_rfl) fun x => ck_trace_strip_length x
theorem h_trace_natural_cmp : Has Tryz.prog sg_trace_natural_cmp :=
  has_of prog_mixed tys_ok nfs_ok eqs_ok (own := []) all_nil (n := an_trace_natural_cmp) Tryz.func118 (by kernel_rfl) fun x => ck_trace_natural_cmp x.1 x.2
theorem h_trace_natural_digit : Has Tryz.prog sg_trace_natural_digit :=
  has_of prog_mixed tys_ok nfs_ok eqs_ok (own := []) all_nil (n := an_trace_natural_digit) Tryz.func119 (by kernel_rfl) fun x => ck_trace_natural_digit x.1 x.2
theorem h_trace_natural_times : Has Tryz.prog sg_trace_natural_times :=
  has_of prog_mixed tys_ok nfs_ok eqs_ok (own := []) (all_cons h_trace_natural_digit (all_cons h_trace_trimmed all_nil)) (n := an_trace_natural_times) Tryz.func133 (by kernel_rfl) fun x => ck_trace_natural_times x.1 x.2
theorem h_trace_natural_plus : Has Tryz.prog sg_trace_natural_plus :=
  has_of prog_mixed tys_ok nfs_ok eqs_ok (own := []) (all_cons h_trace_natural_digit (all_cons h_trace_trimmed all_nil)) (n := an_trace_natural_plus) Tryz.func135 (by kernel_rfl) fun x => ck_trace_natural_plus x.1 x.2
theorem h_trace_natural_minus : Has Tryz.prog sg_trace_natural_minus :=
  has_of prog_mixed tys_ok nfs_ok eqs_ok (own := []) (all_cons h_trace_natural_digit (all_cons h_trace_trimmed all_nil)) (n := an_trace_natural_minus) Tryz.func136 (by kernel_rfl) fun x => ck_trace_natural_minus x.1 x.2
theorem h_bits_Len32 : Has Tryz.prog sg_bits_Len32 :=
  has_of prog_mixed tys_ok nfs_ok eqs_ok (own := []) all_nil (n := an_bits_Len32) Tryz.func209 (by kernel_rfl) fun x => ck_bits_Len32 x
theorem h_trace_natural_length : Has Tryz.prog sg_trace_natural_length :=
  has_of prog_mixed tys_ok nfs_ok eqs_ok (own := []) (all_cons h_bits_Len32 all_nil) (n := an_trace_natural_length) Tryz.func201 (by kernel_rfl) fun x => ck_trace_natural_length x
theorem h_trace_natural_shifted : Has Tryz.prog sg_trace_natural_shifted :=
  has_of prog_mixed tys_ok nfs_ok eqs_ok (own := [10]) (all_cons h_trace_natural_digit (all_cons h_trace_trimmed all_nil)) (n := an_trace_natural_shifted) Tryz.func202 (by kernel_rfl) fun x => ck_trace_natural_shifted x.1 x.2
include m_slices_Clone_uint32 in
theorem h_trace_natural_divided : Has Tryz.prog sg_trace_natural_divided :=
  has_of prog_mixed tys_ok nfs_ok eqs_ok (own := []) (all_cons h_trace_natural_cmp (all_cons h_trace_natural_plus (all_cons h_trace_natural_minus (all_cons m_slices_Clone_uint32 (all_cons h_trace_natural_length (all_cons h_trace_natural_shifted all_nil)))))) (n := an_trace_natural_divided) Tryz.func179 (by kernel_rfl) fun x => ck_trace_natural_divided x.1 x.2
include m_slices_Clone_uint32 in
theorem h_trace_divisor : Has Tryz.prog sg_trace_divisor :=
  has_of prog_mixed tys_ok nfs_ok eqs_ok (own := []) (all_cons (h_trace_natural_divided m_slices_Clone_uint32) all_nil) (n := an_trace_divisor) Tryz.func178 (by kernel_rfl) fun x => ck_trace_divisor x.1 x.2
include m_slices_Clone_uint32 in
theorem h_trace_ratioOf : Has Tryz.prog sg_trace_ratioOf :=
  has_of prog_mixed tys_ok nfs_ok eqs_ok (own := []) (all_cons (h_trace_divisor m_slices_Clone_uint32) (all_cons (h_trace_natural_divided m_slices_Clone_uint32) all_nil)) (n := an_trace_ratioOf) Tryz.func134 (by kernel_rfl) fun x => ck_trace_ratioOf x.1 x.2.1 x.2.2
include m_slices_Clone_uint32 in
theorem h_trace_ratio_plus : Has Tryz.prog sg_trace_ratio_plus :=
  has_of prog_mixed tys_ok nfs_ok eqs_ok (own := []) (all_cons h_trace_natural_cmp (all_cons h_trace_natural_times (all_cons (h_trace_ratioOf m_slices_Clone_uint32) (all_cons h_trace_natural_plus (all_cons h_trace_natural_minus all_nil))))) (n := an_trace_ratio_plus) Tryz.func95 (by kernel_rfl) fun x => ck_trace_ratio_plus x.1 x.2
theorem h_trace_ratio_opposite : Has Tryz.prog sg_trace_ratio_opposite :=
  has_of prog_mixed tys_ok nfs_ok eqs_ok (own := []) all_nil (n := an_trace_ratio_opposite) Tryz.func131 (by kernel_rfl) fun x => ck_trace_ratio_opposite x
include m_slices_Clone_uint32 in
theorem h_trace_ratio_minus : Has Tryz.prog sg_trace_ratio_minus :=
  has_of prog_mixed tys_ok nfs_ok eqs_ok (own := []) (all_cons (h_trace_ratio_plus m_slices_Clone_uint32) (all_cons h_trace_ratio_opposite all_nil)) (n := an_trace_ratio_minus) Tryz.func91 (by kernel_rfl) fun x => ck_trace_ratio_minus x.1 x.2
include m_slices_Clone_uint32 in
theorem h_trace_ratio_cmp : Has Tryz.prog sg_trace_ratio_cmp :=
  has_of prog_mixed tys_ok nfs_ok eqs_ok (own := []) (all_cons (h_trace_ratio_minus m_slices_Clone_uint32) all_nil) (n := an_trace_ratio_cmp) Tryz.func58 (by kernel_rfl) fun x => ck_trace_ratio_cmp x.1 x.2
include m_slices_Clone_uint32 in
theorem h_trace_ratio_between : Has Tryz.prog sg_trace_ratio_between :=
  has_of prog_mixed tys_ok nfs_ok eqs_ok (own := []) (all_cons (h_trace_ratio_cmp m_slices_Clone_uint32) all_nil) (n := an_trace_ratio_between) Tryz.func94 (by kernel_rfl) fun x => ck_trace_ratio_between x.1 x.2.1 x.2.2
include m_slices_Clone_uint32 in
theorem h_trace_strip_has : Has Tryz.prog sg_trace_strip_has :=
  has_of prog_mixed tys_ok nfs_ok eqs_ok (own := []) (all_cons h_trace_strip_length (all_cons h_trace_whole (all_cons (h_trace_ratio_between m_slices_Clone_uint32) all_nil))) (n := an_trace_strip_has) Tryz.func90 (by kernel_rfl) fun x => ck_trace_strip_has x.1 x.2
theorem h_trace_isPosition : Has Tryz.prog sg_trace_isPosition :=
  has_of prog_mixed tys_ok nfs_ok eqs_ok (own := []) (all_cons h_trace_within all_nil) (n := an_trace_isPosition) Tryz.func139 (by kernel_rfl) fun x => ck_trace_isPosition x
theorem h_slices_IndexFunc_int : Has Tryz.prog sg_slices_IndexFunc_int :=
  has_of prog_mixed tys_ok nfs_ok eqs_ok (own := []) all_nil (n := an_slices_IndexFunc_int) Tryz.func195 (by kernel_rfl) fun x => ck_slices_IndexFunc_int x.1 x.2
theorem h_slices_ContainsFunc_int : Has Tryz.prog sg_slices_ContainsFunc_int :=
  has_of prog_mixed tys_ok nfs_ok eqs_ok (own := []) (all_cons h_slices_IndexFunc_int all_nil) (n := an_slices_ContainsFunc_int) Tryz.func160 (by kernel_rfl) fun x => ck_slices_ContainsFunc_int x.1 x.2
theorem h_trace_strip_step_1 : Has Tryz.prog sg_trace_strip_step_1 :=
  has_of prog_mixed tys_ok nfs_ok eqs_ok (own := []) (all_cons h_trace_isArea all_nil) (n := an_trace_strip_step_1) Tryz.func161 (by kernel_rfl) fun x => ck_trace_strip_step_1 x
include m_slices_Clone_uint32 in
theorem h_trace_ratio_times : Has Tryz.prog sg_trace_ratio_times :=
  has_of prog_mixed tys_ok nfs_ok eqs_ok (own := []) (all_cons h_trace_natural_times (all_cons (h_trace_ratioOf m_slices_Clone_uint32) all_nil)) (n := an_trace_ratio_times) Tryz.func96 (by kernel_rfl) fun x => ck_trace_ratio_times x.1 x.2
include m_slices_Clone_uint32 in
theorem h_trace_quotient : Has Tryz.prog sg_trace_quotient :=
  has_of prog_mixed tys_ok nfs_ok eqs_ok (own := []) (all_cons h_trace_naturalOf (all_cons h_trace_size (all_cons (h_trace_ratioOf m_slices_Clone_uint32) all_nil))) (n := an_trace_quotient) Tryz.func97 (by kernel_rfl) fun x => ck_trace_quotient x.1 x.2
include m_slices_Clone_uint32 in
theorem h_trace_section_length : Has Tryz.prog sg_trace_section_length :=
  has_of prog_mixed tys_ok nfs_ok eqs_ok (own := []) (all_cons (h_trace_ratio_minus m_slices_Clone_uint32) all_nil) (n := an_trace_section_length) Tryz.func196 (by kernel_rfl) fun x => ck_trace_section_length x
include m_slices_Clone_uint32 in
theorem h_trace_strip_rolled : Has Tryz.prog sg_trace_strip_rolled :=
  has_of prog_mixed tys_ok nfs_ok eqs_ok (own := []) (all_cons h_trace_whole (all_cons (h_trace_ratio_plus m_slices_Clone_uint32) (all_cons (h_trace_ratio_times m_slices_Clone_uint32) (all_cons (h_trace_quotient m_slices_Clone_uint32) (all_cons (h_trace_section_length m_slices_Clone_uint32) all_nil))))) (n := an_trace_strip_rolled) Tryz.func162 (by kernel_rfl) fun x => ck_trace_strip_rolled x.1 x.2
include m_slices_Clone_uint32 in
theorem h_trace_strip_cut : Has Tryz.prog sg_trace_strip_cut :=
  has_of prog_mixed tys_ok nfs_ok eqs_ok (own := []) (all_cons (h_trace_ratio_cmp m_slices_Clone_uint32) (all_cons h_trace_whole (all_cons (h_trace_ratio_minus m_slices_Clone_uint32) (all_cons (h_trace_ratio_plus m_slices_Clone_uint32) (all_cons (h_trace_ratio_times m_slices_Clone_uint32) (all_cons (h_trace_quotient m_slices_Clone_uint32) all_nil)))))) (n := an_trace_strip_cut) Tryz.func163 (by kernel_rfl) fun x => ck_trace_strip_cut x.1 x.2.1 x.2.2
theorem h_trace_ratio_frac : Has Tryz.prog sg_trace_ratio_frac :=
  has_of prog_mixed tys_ok nfs_ok eqs_ok (own := []) (all_cons h_trace_naturalOf (all_cons h_trace_natural_cmp (all_cons h_trace_natural_digit all_nil))) (n := an_trace_ratio_frac) Tryz.func76 (by kernel_rfl) fun x => ck_trace_ratio_frac x
include m_slices_Clone_uint32 in
theorem h_trace_strip_isSmall : Has Tryz.prog sg_trace_strip_isSmall :=
  has_of prog_mixed tys_ok nfs_ok eqs_ok (own := []) (all_cons h_trace_ratio_frac (all_cons (h_trace_section_length m_slices_Clone_uint32) all_nil)) (n := an_trace_strip_isSmall) Tryz.func164 (by kernel_rfl) fun x => ck_trace_strip_isSmall x
include m_slices_Clone_uint32 in
theorem h_trace_strip_step : Has Tryz.prog sg_trace_strip_step :=
  has_of prog_mixed tys_ok nfs_ok eqs_ok (own := []) (all_cons h_trace_first (all_cons h_trace_unless (all_cons (h_trace_strip_has m_slices_Clone_uint32) (all_cons h_trace_isPosition (all_cons h_slices_ContainsFunc_int (all_cons h_trace_strip_step_1 (all_cons (h_trace_strip_rolled m_slices_Clone_uint32) (all_cons (h_trace_strip_cut m_slices_Clone_uint32) (all_cons (h_trace_strip_isSmall m_slices_Clone_uint32) all_nil))))))))) (n := an_trace_strip_step) Tryz.func117 (by kernel_rfl) fun x => ck_trace_strip_step x.1 x.2
include m_slices_Clone_uint32 in
theorem h_trace_open : Has Tryz.prog sg_trace_open :=
  has_of prog_mixed tys_ok nfs_ok eqs_ok (own := []) (all_cons h_trace_first (all_cons h_trace_unless (all_cons h_trace_within (all_cons h_trace_whole (all_cons h_trace_isName (all_cons h_trace_isArea (all_cons (h_trace_strip_step m_slices_Clone_uint32) all_nil))))))) (n := an_trace_open) Tryz.func73 (by kernel_rfl) fun x => ck_trace_open x
include m_slices_Clone_uint32 in
theorem h_trace_opened : Has Tryz.prog sg_trace_opened :=
  has_of prog_mixed tys_ok nfs_ok eqs_ok (own := []) (all_cons h_trace_first (all_cons h_trace_course_stepsErr (all_cons (h_trace_open m_slices_Clone_uint32) all_nil))) (n := an_trace_opened) Tryz.func39 (by kernel_rfl) fun x => ck_trace_opened x.1 x.2
include m_slices_Clone_uint32 in
theorem h_trace_course_readingErr : Has Tryz.prog sg_trace_course_readingErr :=
  has_of prog_mixed tys_ok nfs_ok eqs_ok (own := []) (all_cons h_trace_course_stepsErr (all_cons h_trace_unless (all_cons (h_trace_strip_has m_slices_Clone_uint32) all_nil))) (n := an_trace_course_readingErr) Tryz.func54 (by kernel_rfl) fun x => ck_trace_course_readingErr x.1 x.2
include m_slices_Clone_uint32 in
theorem h_trace_course_openReadings : Has Tryz.prog sg_trace_course_openReadings :=
  has_of prog_mixed tys_ok nfs_ok eqs_ok (own := []) (all_cons (h_trace_course_readingErr m_slices_Clone_uint32) all_nil) (n := an_trace_course_openReadings) Tryz.func40 (by kernel_rfl) fun x => ck_trace_course_openReadings x.1 x.2
theorem h_trace_small : Has Tryz.prog sg_trace_small :=
  has_of prog_mixed tys_ok nfs_ok eqs_ok (own := []) (all_cons h_trace_unless (all_cons h_trace_ratio_frac all_nil)) (n := an_trace_small) Tryz.func41 (by kernel_rfl) fun x => ck_trace_small x
theorem h_trace_course_last : Has Tryz.prog sg_trace_course_last :=
  has_of prog_mixed tys_ok nfs_ok eqs_ok (own := []) all_nil (n := an_trace_course_last) Tryz.func42 (by kernel_rfl) fun x => ck_trace_course_last x
include m_strconv_Itoa in
theorem h_trace_written : Has Tryz.prog sg_trace_written :=
  has_of prog_mixed tys_ok nfs_ok eqs_ok (own := []) (all_cons m_strconv_Itoa all_nil) (n := an_trace_written) Tryz.func44 (by kernel_rfl) fun x => ck_trace_written x
include m_slices_Clone_uint32 in
theorem h_trace_strip_slabAt : Has Tryz.prog sg_trace_strip_slabAt :=
  has_of prog_mixed tys_ok nfs_ok eqs_ok (own := []) (all_cons (h_trace_ratio_minus m_slices_Clone_uint32) (all_cons (h_trace_ratio_between m_slices_Clone_uint32) (all_cons (h_trace_ratio_plus m_slices_Clone_uint32) (all_cons (h_trace_ratio_times m_slices_Clone_uint32) (all_cons (h_trace_quotient m_slices_Clone_uint32) all_nil))))) (n := an_trace_strip_slabAt) Tryz.func60 (by kernel_rfl) fun x => ck_trace_strip_slabAt x.1 x.2
include m_slices_Clone_uint32 in
theorem h_trace_strip_at : Has Tryz.prog sg_trace_strip_at :=
  has_of prog_mixed tys_ok nfs_ok eqs_ok (own := []) (all_cons (h_trace_ratio_minus m_slices_Clone_uint32) (all_cons (h_trace_ratio_between m_slices_Clone_uint32) (all_cons (h_trace_ratio_plus m_slices_Clone_uint32) (all_cons (h_trace_ratio_times m_slices_Clone_uint32) (all_cons (h_trace_quotient m_slices_Clone_uint32) all_nil))))) (n := an_trace_strip_at) Tryz.func77 (by kernel_rfl) fun x => ck_trace_strip_at x.1 x.2
include m_slices_Clone_uint32 in
theorem h_trace_course_place : Has Tryz.prog sg_trace_course_place :=
  has_of prog_mixed tys_ok nfs_ok eqs_ok (own := []) (all_cons h_trace_whole (all_cons (h_trace_strip_slabAt m_slices_Clone_uint32) (all_cons (h_trace_strip_at m_slices_Clone_uint32) all_nil))) (n := an_trace_course_place) Tryz.func45 (by kernel_rfl) fun x => ck_trace_course_place x.1 x.2.1 x.2.2
include m_slices_Clone_uint32 m_strings_Join m_strconv_Itoa in
theorem h_trace_ReportOf : Has Tryz.prog sg_trace_ReportOf :=
  has_of prog_mixed tys_ok nfs_ok eqs_ok (own := []) (all_cons m_strconv_Itoa (all_cons m_strings_Join (all_cons (h_trace_opened m_slices_Clone_uint32) (all_cons (h_trace_course_openReadings m_slices_Clone_uint32) (all_cons h_trace_small (all_cons h_trace_course_last (all_cons h_trace_strip_length (all_cons (h_trace_written m_strconv_Itoa) (all_cons (h_trace_course_place m_slices_Clone_uint32) all_nil))))))))) (n := an_trace_ReportOf) Tryz.func13 (by kernel_rfl) fun x => ck_trace_ReportOf x.1 x.2
include m_slices_Clone_uint32 in
theorem h_trace_PlaceOf : Has Tryz.prog sg_trace_PlaceOf :=
  has_of prog_mixed tys_ok nfs_ok eqs_ok (own := []) (all_cons (h_trace_opened m_slices_Clone_uint32) (all_cons h_trace_small (all_cons (h_trace_course_place m_slices_Clone_uint32) (all_cons h_trace_first (all_cons (h_trace_course_readingErr m_slices_Clone_uint32) (all_cons h_trace_course_stepsErr all_nil)))))) (n := an_trace_PlaceOf) Tryz.func18 (by kernel_rfl) fun x => ck_trace_PlaceOf x.1 x.2.1 x.2.2
theorem h_l9_Course : Has Tryz.prog sg_l9_Course :=
  has_of prog_mixed tys_ok nfs_ok eqs_ok (own := []) all_nil (n := an_l9_Course) Tryz.func19 (by kernel_rfl) fun x => ck_l9_Course 
include m_slices_Clone_uint32 in
theorem h_trace_PiecesOf : Has Tryz.prog sg_trace_PiecesOf :=
  has_of prog_mixed tys_ok nfs_ok eqs_ok (own := []) (all_cons (h_trace_opened m_slices_Clone_uint32) (all_cons h_trace_small (all_cons h_trace_course_last (all_cons h_trace_strip_length (all_cons h_trace_first (all_cons h_trace_unless (all_cons h_trace_within (all_cons (h_trace_ratio_cmp m_slices_Clone_uint32) (all_cons h_trace_whole (all_cons (h_trace_strip_slabAt m_slices_Clone_uint32) all_nil)))))))))) (n := an_trace_PiecesOf) Tryz.func20 (by kernel_rfl) fun x => ck_trace_PiecesOf x.1 x.2
theorem h_slices_IndexFunc_apiTraceCause : Has Tryz.prog sg_slices_IndexFunc_apiTraceCause :=
  has_of prog_mixed tys_ok nfs_ok eqs_ok (own := []) all_nil (n := an_slices_IndexFunc_apiTraceCause) Tryz.func180 (by kernel_rfl) fun x => ck_slices_IndexFunc_apiTraceCause x.1 x.2
theorem h_slices_ContainsFunc_apiTraceCause : Has Tryz.prog sg_slices_ContainsFunc_apiTraceCause :=
  has_of prog_mixed tys_ok nfs_ok eqs_ok (own := []) (all_cons h_slices_IndexFunc_apiTraceCause all_nil) (n := an_slices_ContainsFunc_apiTraceCause) Tryz.func137 (by kernel_rfl) fun x => ck_slices_ContainsFunc_apiTraceCause x.1 x.2
theorem h_trace_openCauses_1 : Has Tryz.prog sg_trace_openCauses_1 :=
  has_of prog_mixed tys_ok nfs_ok eqs_ok (own := []) all_nil (n := an_trace_openCauses_1) Tryz.func138 (by kernel_rfl) fun x => ck_trace_openCauses_1 x.1 x.2
include m_slices_Clone_uint32 in
theorem h_trace_openCauses : Has Tryz.prog sg_trace_openCauses :=
  has_of prog_mixed tys_ok nfs_ok eqs_ok (own := []) (all_cons (h_trace_opened m_slices_Clone_uint32) (all_cons h_trace_first (all_cons h_trace_course_stepsErr (all_cons h_trace_unless (all_cons h_trace_isName (all_cons h_slices_ContainsFunc_apiTraceCause (all_cons h_trace_openCauses_1 (all_cons h_trace_isPosition all_nil)))))))) (n := an_trace_openCauses) Tryz.func98 (by kernel_rfl) fun x => ck_trace_openCauses x.1 x.2
include m_slices_Clone_uint32 in
theorem h_trace_ratio_over : Has Tryz.prog sg_trace_ratio_over :=
  has_of prog_mixed tys_ok nfs_ok eqs_ok (own := []) (all_cons (h_trace_ratio_times m_slices_Clone_uint32) all_nil) (n := an_trace_ratio_over) Tryz.func181 (by kernel_rfl) fun x => ck_trace_ratio_over x.1 x.2
include m_slices_Clone_uint32 in
theorem h_trace_ratio_floor : Has Tryz.prog sg_trace_ratio_floor :=
  has_of prog_mixed tys_ok nfs_ok eqs_ok (own := []) (all_cons (h_trace_natural_divided m_slices_Clone_uint32) all_nil) (n := an_trace_ratio_floor) Tryz.func182 (by kernel_rfl) fun x => ck_trace_ratio_floor x
include m_slices_Clone_uint32 in
theorem h_trace_course_predicts : Has Tryz.prog sg_trace_course_predicts :=
  has_of prog_mixed tys_ok nfs_ok eqs_ok (own := []) (all_cons (h_trace_course_place m_slices_Clone_uint32) (all_cons (h_trace_ratio_cmp m_slices_Clone_uint32) (all_cons h_trace_whole (all_cons (h_trace_ratio_minus m_slices_Clone_uint32) (all_cons (h_trace_ratio_times m_slices_Clone_uint32) (all_cons (h_trace_ratio_over m_slices_Clone_uint32) (all_cons (h_trace_ratio_floor m_slices_Clone_uint32) all_nil))))))) (n := an_trace_course_predicts) Tryz.func140 (by kernel_rfl) fun x => ck_trace_course_predicts x.1 x.2.1 x.2.2
include m_slices_Clone_uint32 in
theorem h_trace_course_evidenceOf : Has Tryz.prog sg_trace_course_evidenceOf :=
  has_of prog_mixed tys_ok nfs_ok eqs_ok (own := []) (all_cons (h_trace_course_predicts m_slices_Clone_uint32) all_nil) (n := an_trace_course_evidenceOf) Tryz.func99 (by kernel_rfl) fun x => ck_trace_course_evidenceOf x.1 x.2.1 x.2.2
include m_slices_Clone_uint32 in
theorem h_trace_openEvidence : Has Tryz.prog sg_trace_openEvidence :=
  has_of prog_mixed tys_ok nfs_ok eqs_ok (own := []) (all_cons (h_trace_course_openReadings m_slices_Clone_uint32) (all_cons (h_trace_openCauses m_slices_Clone_uint32) (all_cons (h_trace_course_evidenceOf m_slices_Clone_uint32) all_nil))) (n := an_trace_openEvidence) Tryz.func61 (by kernel_rfl) fun x => ck_trace_openEvidence x.1 x.2.1 x.2.2
theorem h_bits_OnesCount32 : Has Tryz.prog sg_bits_OnesCount32 :=
  has_of prog_mixed tys_ok nfs_ok eqs_ok (own := []) all_nil (n := an_bits_OnesCount32) Tryz.func143 (by kernel_rfl) fun x => ck_bits_OnesCount32 x
theorem h_bits_OnesCount64 : Has Tryz.prog sg_bits_OnesCount64 :=
  has_of prog_mixed tys_ok nfs_ok eqs_ok (own := []) all_nil (n := an_bits_OnesCount64) Tryz.func144 (by kernel_rfl) fun x => ck_bits_OnesCount64 x
theorem h_bits_OnesCount : Has Tryz.prog sg_bits_OnesCount :=
  has_of prog_mixed tys_ok nfs_ok eqs_ok (own := []) (all_cons h_bits_OnesCount32 (all_cons h_bits_OnesCount64 all_nil)) (n := an_bits_OnesCount) Tryz.func101 (by kernel_rfl) fun x => ck_bits_OnesCount x
theorem h_trace_set_has : Has Tryz.prog sg_trace_set_has :=
  has_of prog_mixed tys_ok nfs_ok eqs_ok (own := []) all_nil (n := an_trace_set_has) Tryz.func103 (by kernel_rfl) fun x => ck_trace_set_has x.1 x.2
theorem h_trace_evidence_firstWrong : Has Tryz.prog sg_trace_evidence_firstWrong :=
  has_of prog_mixed tys_ok nfs_ok eqs_ok (own := []) (all_cons h_trace_set_has all_nil) (n := an_trace_evidence_firstWrong) Tryz.func102 (by kernel_rfl) fun x => ck_trace_evidence_firstWrong x.1 x.2.1 x.2.2
theorem h_trace_evidence_every : Has Tryz.prog sg_trace_evidence_every :=
  has_of prog_mixed tys_ok nfs_ok eqs_ok (own := []) all_nil (n := an_trace_evidence_every) Tryz.func63 (by kernel_rfl) fun x => ck_trace_evidence_every x
theorem h_trace_set_list : Has Tryz.prog sg_trace_set_list :=
  has_of prog_mixed tys_ok nfs_ok eqs_ok (own := []) (all_cons h_trace_set_has all_nil) (n := an_trace_set_list) Tryz.func64 (by kernel_rfl) fun x => ck_trace_set_list x
include m_slices_Clone_uint32 m_trace_evidence_explanations in
theorem h_trace_Explanations : Has Tryz.prog sg_trace_Explanations :=
  has_of prog_mixed tys_ok nfs_ok eqs_ok (own := []) (all_cons h_trace_unless (all_cons (h_trace_openEvidence m_slices_Clone_uint32) (all_cons m_trace_evidence_explanations (all_cons h_trace_evidence_every (all_cons h_trace_set_list all_nil))))) (n := an_trace_Explanations) Tryz.func21 (by kernel_rfl) fun x => ck_trace_Explanations x.1 x.2.1 x.2.2
theorem h_l9_Causes : Has Tryz.prog sg_l9_Causes :=
  has_of prog_mixed tys_ok nfs_ok eqs_ok (own := []) all_nil (n := an_l9_Causes) Tryz.func22 (by kernel_rfl) fun x => ck_l9_Causes 
theorem h_b0_Whole : Has Tryz.prog sg_b0_Whole :=
  has_of prog_mixed tys_ok nfs_ok eqs_ok (own := []) all_nil (n := an_b0_Whole) Tryz.func23 (by kernel_rfl) fun x => ck_b0_Whole x
theorem h_b0_Ints : Has Tryz.prog sg_b0_Ints :=
  has_of prog_mixed tys_ok nfs_ok eqs_ok (own := []) all_nil (n := an_b0_Ints) Tryz.func38 (by kernel_rfl) fun x => ck_b0_Ints x.1 x.2
theorem h_b0_Lists : Has Tryz.prog sg_b0_Lists :=
  has_of prog_mixed tys_ok nfs_ok eqs_ok (own := []) (all_cons h_b0_Ints all_nil) (n := an_b0_Lists) Tryz.func24 (by kernel_rfl) fun x => ck_b0_Lists x.1 x.2
include m_slices_Clone_uint32 m_trace_evidence_explanations m_strings_Join m_strconv_Itoa in
theorem h_l9_awake : Has Tryz.prog sg_l9_awake :=
  has_of prog_mixed tys_ok nfs_ok eqs_ok (own := []) (all_cons (h_trace_ReportOf m_slices_Clone_uint32 m_strings_Join m_strconv_Itoa) (all_cons (h_trace_PlaceOf m_slices_Clone_uint32) (all_cons h_l9_Course (all_cons (h_trace_PiecesOf m_slices_Clone_uint32) (all_cons (h_trace_Explanations m_slices_Clone_uint32 m_trace_evidence_explanations) (all_cons h_l9_Causes (all_cons h_b0_Whole (all_cons h_b0_Lists all_nil)))))))) (n := an_l9_awake) Tryz.func5 (by kernel_rfl) fun x => ck_l9_awake 
theorem h_l9_Few : Has Tryz.prog sg_l9_Few :=
  has_of prog_mixed tys_ok nfs_ok eqs_ok (own := []) all_nil (n := an_l9_Few) Tryz.func6 (by kernel_rfl) fun x => ck_l9_Few x
theorem h_trace_at : Has Tryz.prog sg_trace_at :=
  has_of prog_mixed tys_ok nfs_ok eqs_ok (own := []) all_nil (n := an_trace_at) Tryz.func26 (by kernel_rfl) fun x => ck_trace_at x.1 x.2
include m_strings_Join m_strconv_Itoa in
theorem h_trace_numbers : Has Tryz.prog sg_trace_numbers :=
  has_of prog_mixed tys_ok nfs_ok eqs_ok (own := []) (all_cons m_strconv_Itoa (all_cons m_strings_Join all_nil)) (n := an_trace_numbers) Tryz.func28 (by kernel_rfl) fun x => ck_trace_numbers x
include m_strings_Join m_strconv_Itoa in
theorem h_trace_FormatCourse : Has Tryz.prog sg_trace_FormatCourse :=
  has_of prog_mixed tys_ok nfs_ok eqs_ok (own := []) (all_cons m_strconv_Itoa (all_cons h_trace_at (all_cons m_strings_Join (all_cons (h_trace_numbers m_strings_Join m_strconv_Itoa) all_nil)))) (n := an_trace_FormatCourse) Tryz.func7 (by kernel_rfl) fun x => ck_trace_FormatCourse x
theorem h_b0_CopyInts : Has Tryz.prog sg_b0_CopyInts :=
  has_of prog_mixed tys_ok nfs_ok eqs_ok (own := []) all_nil (n := an_b0_CopyInts) Tryz.func29 (by kernel_rfl) fun x => ck_b0_CopyInts x
theorem h_r9_CopyCourse : Has Tryz.prog sg_r9_CopyCourse :=
  has_of prog_mixed tys_ok nfs_ok eqs_ok (own := []) (all_cons h_b0_CopyInts all_nil) (n := an_r9_CopyCourse) Tryz.func8 (by kernel_rfl) fun x => ck_r9_CopyCourse x
include m_strconv_Itoa m_strconv_Atoi i_strings_SplitSeq in
theorem h_trace_parsed : Has Tryz.prog sg_trace_parsed :=
  has_ofI prog_mixed tys_ok nfs_ok eqs_ok (own := []) (its := [(31, it_strings_SplitSeq)]) (all_cons m_strconv_Itoa (all_cons m_strconv_Atoi all_nil)) (fun e he => by rcases List.mem_cons.1 he with rfl | he; exact i_strings_SplitSeq; cases he) (n := an_trace_parsed) Tryz.func32 (by kernel_rfl) fun x => ck_trace_parsed x.1 x.2
include m_strconv_Itoa m_strings_Cut m_strconv_Atoi i_strings_SplitSeq in
theorem h_trace_stepOf : Has Tryz.prog sg_trace_stepOf :=
  has_of prog_mixed tys_ok nfs_ok eqs_ok (own := []) (all_cons (h_trace_parsed m_strconv_Itoa m_strconv_Atoi i_strings_SplitSeq) (all_cons m_strings_Cut all_nil)) (n := an_trace_stepOf) Tryz.func33 (by kernel_rfl) fun x => ck_trace_stepOf x
include m_slices_Clone_uint32 in
theorem h_trace_CheckCourse : Has Tryz.prog sg_trace_CheckCourse :=
  has_of prog_mixed tys_ok nfs_ok eqs_ok (own := []) (all_cons (h_trace_open m_slices_Clone_uint32) all_nil) (n := an_trace_CheckCourse) Tryz.func34 (by kernel_rfl) fun x => ck_trace_CheckCourse x
include m_slices_Clone_uint32 m_strconv_Itoa m_strings_Split m_strings_Cut m_strconv_Atoi i_strings_SplitSeq in
theorem h_trace_ParseCourse : Has Tryz.prog sg_trace_ParseCourse :=
  has_ofI prog_mixed tys_ok nfs_ok eqs_ok (own := []) (its := [(31, it_strings_SplitSeq)]) (all_cons m_strings_Split (all_cons (h_trace_parsed m_strconv_Itoa m_strconv_Atoi i_strings_SplitSeq) (all_cons (h_trace_stepOf m_strconv_Itoa m_strings_Cut m_strconv_Atoi i_strings_SplitSeq) (all_cons (h_trace_CheckCourse m_slices_Clone_uint32) all_nil)))) (fun e he => by rcases List.mem_cons.1 he with rfl | he; exact i_strings_SplitSeq; cases he) (n := an_trace_ParseCourse) Tryz.func9 (by kernel_rfl) fun x => ck_trace_ParseCourse x
theorem h_r9_SameCourse : Has Tryz.prog sg_r9_SameCourse :=
  has_of prog_mixed tys_ok nfs_ok eqs_ok (own := []) (all_cons h_b0_Ints all_nil) (n := an_r9_SameCourse) Tryz.func12 (by kernel_rfl) fun x => ck_r9_SameCourse x.1 x.2
theorem h_r9_CopyReadings : Has Tryz.prog sg_r9_CopyReadings :=
  has_of prog_mixed tys_ok nfs_ok eqs_ok (own := []) all_nil (n := an_r9_CopyReadings) Tryz.func14 (by kernel_rfl) fun x => ck_r9_CopyReadings x
theorem h_b0_IsName : Has Tryz.prog sg_b0_IsName :=
  has_of prog_mixed tys_ok nfs_ok eqs_ok (own := []) all_nil (n := an_b0_IsName) Tryz.func78 (by kernel_rfl) fun x => ck_b0_IsName x
theorem h_b0_Within : Has Tryz.prog sg_b0_Within :=
  has_of prog_mixed tys_ok nfs_ok eqs_ok (own := []) all_nil (n := an_b0_Within) Tryz.func79 (by kernel_rfl) fun x => ck_b0_Within x.1 x.2.1 x.2.2
theorem h_b0_Size : Has Tryz.prog sg_b0_Size :=
  has_of prog_mixed tys_ok nfs_ok eqs_ok (own := []) all_nil (n := an_b0_Size) Tryz.func75 (by kernel_rfl) fun x => ck_b0_Size x
theorem h_b0_trimmed : Has Tryz.prog sg_b0_trimmed :=
  has_of prog_mixed tys_ok nfs_ok eqs_ok (own := []) all_nil (n := an_b0_trimmed) Tryz.func197 (by kernel_rfl) fun x => ck_b0_trimmed x
theorem h_b0_wideOf : Has Tryz.prog sg_b0_wideOf :=
  has_of prog_mixed tys_ok nfs_ok eqs_ok (own := []) (all_cons h_b0_trimmed all_nil) (n := an_b0_wideOf) Tryz.func168 (by kernel_rfl) fun x => ck_b0_wideOf x.1 x.2
theorem h_b0_WideOf : Has Tryz.prog sg_b0_WideOf :=
  has_of prog_mixed tys_ok nfs_ok eqs_ok (own := []) (all_cons h_b0_Size (all_cons h_b0_wideOf all_nil)) (n := an_b0_WideOf) Tryz.func126 (by kernel_rfl) fun x => ck_b0_WideOf x
theorem h_b0_RatioInt : Has Tryz.prog sg_b0_RatioInt :=
  has_of prog_mixed tys_ok nfs_ok eqs_ok (own := []) (all_cons h_b0_WideOf all_nil) (n := an_b0_RatioInt) Tryz.func84 (by kernel_rfl) fun x => ck_b0_RatioInt x
theorem h_r9_slab : Has Tryz.prog sg_r9_slab :=
  has_of prog_mixed tys_ok nfs_ok eqs_ok (own := []) (all_cons h_b0_RatioInt all_nil) (n := an_r9_slab) Tryz.func80 (by kernel_rfl) fun x => ck_r9_slab x
theorem h_b0_WideMul : Has Tryz.prog sg_b0_WideMul :=
  has_of prog_mixed tys_ok nfs_ok eqs_ok (own := []) (all_cons h_b0_wideOf all_nil) (n := an_b0_WideMul) Tryz.func125 (by kernel_rfl) fun x => ck_b0_WideMul x.1 x.2
theorem h_b0_digit : Has Tryz.prog sg_b0_digit :=
  has_of prog_mixed tys_ok nfs_ok eqs_ok (own := []) all_nil (n := an_b0_digit) Tryz.func199 (by kernel_rfl) fun x => ck_b0_digit x.1 x.2
theorem h_b0_addDigits : Has Tryz.prog sg_b0_addDigits :=
  has_of prog_mixed tys_ok nfs_ok eqs_ok (own := []) (all_cons h_b0_digit all_nil) (n := an_b0_addDigits) Tryz.func173 (by kernel_rfl) fun x => ck_b0_addDigits x.1 x.2
theorem h_b0_cmpDigits : Has Tryz.prog sg_b0_cmpDigits :=
  has_of prog_mixed tys_ok nfs_ok eqs_ok (own := []) all_nil (n := an_b0_cmpDigits) Tryz.func174 (by kernel_rfl) fun x => ck_b0_cmpDigits x.1 x.2
theorem h_b0_subDigits : Has Tryz.prog sg_b0_subDigits :=
  has_of prog_mixed tys_ok nfs_ok eqs_ok (own := []) (all_cons h_b0_trimmed (all_cons h_b0_digit all_nil)) (n := an_b0_subDigits) Tryz.func175 (by kernel_rfl) fun x => ck_b0_subDigits x.1 x.2
theorem h_b0_WideAdd : Has Tryz.prog sg_b0_WideAdd :=
  has_of prog_mixed tys_ok nfs_ok eqs_ok (own := []) (all_cons h_b0_wideOf (all_cons h_b0_addDigits (all_cons h_b0_cmpDigits (all_cons h_b0_subDigits all_nil)))) (n := an_b0_WideAdd) Tryz.func128 (by kernel_rfl) fun x => ck_b0_WideAdd x.1 x.2
theorem h_b0_WideNeg : Has Tryz.prog sg_b0_WideNeg :=
  has_of prog_mixed tys_ok nfs_ok eqs_ok (own := []) all_nil (n := an_b0_WideNeg) Tryz.func170 (by kernel_rfl) fun x => ck_b0_WideNeg x
theorem h_b0_WideSub : Has Tryz.prog sg_b0_WideSub :=
  has_of prog_mixed tys_ok nfs_ok eqs_ok (own := []) (all_cons h_b0_WideAdd (all_cons h_b0_WideNeg all_nil)) (n := an_b0_WideSub) Tryz.func167 (by kernel_rfl) fun x => ck_b0_WideSub x.1 x.2
theorem h_b0_WideCmp : Has Tryz.prog sg_b0_WideCmp :=
  has_of prog_mixed tys_ok nfs_ok eqs_ok (own := []) (all_cons h_b0_WideSub all_nil) (n := an_b0_WideCmp) Tryz.func124 (by kernel_rfl) fun x => ck_b0_WideCmp x.1 x.2
theorem h_b0_WideSign : Has Tryz.prog sg_b0_WideSign :=
  has_of prog_mixed tys_ok nfs_ok eqs_ok (own := []) all_nil (n := an_b0_WideSign) Tryz.func169 (by kernel_rfl) fun x => ck_b0_WideSign x
theorem h_b0_WideFloor : Has Tryz.prog sg_b0_WideFloor :=
  has_of prog_mixed tys_ok nfs_ok eqs_ok (own := []) (all_cons h_b0_WideMul (all_cons h_b0_WideOf (all_cons h_b0_WideSub (all_cons h_b0_wideOf (all_cons h_b0_cmpDigits (all_cons h_b0_subDigits (all_cons h_b0_trimmed all_nil))))))) (n := an_b0_WideFloor) Tryz.func172 (by kernel_rfl) fun x => ck_b0_WideFloor x.1 x.2
theorem h_b0_wideSize : Has Tryz.prog sg_b0_wideSize :=
  has_of prog_mixed tys_ok nfs_ok eqs_ok (own := []) (all_cons h_b0_WideNeg all_nil) (n := an_b0_wideSize) Tryz.func198 (by kernel_rfl) fun x => ck_b0_wideSize x
theorem h_b0_wideGcd : Has Tryz.prog sg_b0_wideGcd :=
  has_of prog_mixed tys_ok nfs_ok eqs_ok (own := []) (all_cons h_b0_WideMul (all_cons h_b0_WideSub (all_cons h_b0_WideSign (all_cons h_b0_WideFloor (all_cons h_b0_wideSize all_nil))))) (n := an_b0_wideGcd) Tryz.func171 (by kernel_rfl) fun x => ck_b0_wideGcd x.1 x.2
theorem h_b0_RatioMake : Has Tryz.prog sg_b0_RatioMake :=
  has_of prog_mixed tys_ok nfs_ok eqs_ok (own := []) (all_cons h_b0_WideCmp (all_cons h_b0_WideOf (all_cons h_b0_WideSign (all_cons h_b0_WideNeg (all_cons h_b0_wideGcd (all_cons h_b0_WideFloor all_nil)))))) (n := an_b0_RatioMake) Tryz.func127 (by kernel_rfl) fun x => ck_b0_RatioMake x.1 x.2
theorem h_b0_RatioAdd : Has Tryz.prog sg_b0_RatioAdd :=
  has_of prog_mixed tys_ok nfs_ok eqs_ok (own := []) (all_cons h_b0_WideMul (all_cons h_b0_RatioMake (all_cons h_b0_WideAdd all_nil))) (n := an_b0_RatioAdd) Tryz.func88 (by kernel_rfl) fun x => ck_b0_RatioAdd x.1 x.2
theorem h_r9_Strip_Length : Has Tryz.prog sg_r9_Strip_Length :=
  has_of prog_mixed tys_ok nfs_ok eqs_ok (own := []) (all_cons h_b0_RatioInt (all_cons h_b0_RatioAdd all_nil)) (n := an_r9_Strip_Length) Tryz.func50 (by kernel_rfl) fun x => ck_r9_Strip_Length x
theorem h_b0_RatioCmp : Has Tryz.prog sg_b0_RatioCmp :=
  has_of prog_mixed tys_ok nfs_ok eqs_ok (own := []) (all_cons h_b0_WideCmp (all_cons h_b0_WideMul all_nil)) (n := an_b0_RatioCmp) Tryz.func83 (by kernel_rfl) fun x => ck_b0_RatioCmp x.1 x.2
theorem h_b0_RatioMul : Has Tryz.prog sg_b0_RatioMul :=
  has_of prog_mixed tys_ok nfs_ok eqs_ok (own := []) (all_cons h_b0_WideMul (all_cons h_b0_RatioMake all_nil)) (n := an_b0_RatioMul) Tryz.func165 (by kernel_rfl) fun x => ck_b0_RatioMul x.1 x.2
theorem h_b0_RatioOf : Has Tryz.prog sg_b0_RatioOf :=
  has_of prog_mixed tys_ok nfs_ok eqs_ok (own := []) (all_cons h_b0_WideOf (all_cons h_b0_RatioMake all_nil)) (n := an_b0_RatioOf) Tryz.func166 (by kernel_rfl) fun x => ck_b0_RatioOf x.1 x.2
theorem h_r9_pass : Has Tryz.prog sg_r9_pass :=
  has_of prog_mixed tys_ok nfs_ok eqs_ok (own := []) (all_cons h_b0_RatioMul (all_cons h_b0_RatioOf all_nil)) (n := an_r9_pass) Tryz.func120 (by kernel_rfl) fun x => ck_r9_pass x.1 x.2
theorem h_b0_RatioNeg : Has Tryz.prog sg_b0_RatioNeg :=
  has_of prog_mixed tys_ok nfs_ok eqs_ok (own := []) (all_cons h_b0_WideNeg all_nil) (n := an_b0_RatioNeg) Tryz.func177 (by kernel_rfl) fun x => ck_b0_RatioNeg x
theorem h_b0_RatioSub : Has Tryz.prog sg_b0_RatioSub :=
  has_of prog_mixed tys_ok nfs_ok eqs_ok (own := []) (all_cons h_b0_RatioAdd (all_cons h_b0_RatioNeg all_nil)) (n := an_b0_RatioSub) Tryz.func130 (by kernel_rfl) fun x => ck_b0_RatioSub x.1 x.2
theorem h_r9_cut : Has Tryz.prog sg_r9_cut :=
  has_of prog_mixed tys_ok nfs_ok eqs_ok (own := []) (all_cons h_b0_RatioCmp (all_cons h_b0_RatioInt (all_cons h_b0_RatioAdd (all_cons h_b0_RatioSub all_nil)))) (n := an_r9_cut) Tryz.func121 (by kernel_rfl) fun x => ck_r9_cut x.1 x.2.1 x.2.2
theorem h_r9_Strip_Ends : Has Tryz.prog sg_r9_Strip_Ends :=
  has_of prog_mixed tys_ok nfs_ok eqs_ok (own := []) (all_cons h_b0_RatioInt (all_cons h_b0_RatioAdd all_nil)) (n := an_r9_Strip_Ends) Tryz.func122 (by kernel_rfl) fun x => ck_r9_Strip_Ends x
theorem h_b0_WideInt : Has Tryz.prog sg_b0_WideInt :=
  has_of prog_mixed tys_ok nfs_ok eqs_ok (own := []) all_nil (n := an_b0_WideInt) Tryz.func85 (by kernel_rfl) fun x => ck_b0_WideInt x
theorem h_b0_IsSmall : Has Tryz.prog sg_b0_IsSmall :=
  has_of prog_mixed tys_ok nfs_ok eqs_ok (own := []) (all_cons h_b0_Within all_nil) (n := an_b0_IsSmall) Tryz.func86 (by kernel_rfl) fun x => ck_b0_IsSmall x
theorem h_b0_RatioFrac : Has Tryz.prog sg_b0_RatioFrac :=
  has_of prog_mixed tys_ok nfs_ok eqs_ok (own := []) (all_cons h_b0_WideInt (all_cons h_b0_IsSmall all_nil)) (n := an_b0_RatioFrac) Tryz.func48 (by kernel_rfl) fun x => ck_b0_RatioFrac x
theorem h_r9_isSmall : Has Tryz.prog sg_r9_isSmall :=
  has_of prog_mixed tys_ok nfs_ok eqs_ok (own := []) (all_cons h_b0_RatioFrac all_nil) (n := an_r9_isSmall) Tryz.func123 (by kernel_rfl) fun x => ck_r9_isSmall x
theorem h_r9_stepErr : Has Tryz.prog sg_r9_stepErr :=
  has_of prog_mixed tys_ok nfs_ok eqs_ok (own := []) (all_cons h_r9_Strip_Length (all_cons h_b0_Within (all_cons h_b0_RatioCmp (all_cons h_b0_RatioInt (all_cons h_r9_pass (all_cons h_r9_cut (all_cons h_r9_Strip_Ends (all_cons h_r9_isSmall all_nil)))))))) (n := an_r9_stepErr) Tryz.func81 (by kernel_rfl) fun x => ck_r9_stepErr x.1 x.2
theorem h_r9_CheckCourse : Has Tryz.prog sg_r9_CheckCourse :=
  has_of prog_mixed tys_ok nfs_ok eqs_ok (own := []) (all_cons h_b0_IsName (all_cons h_b0_Within (all_cons h_r9_slab (all_cons h_r9_stepErr all_nil)))) (n := an_r9_CheckCourse) Tryz.func46 (by kernel_rfl) fun x => ck_r9_CheckCourse x
theorem h_r9_CourseErr : Has Tryz.prog sg_r9_CourseErr :=
  has_of prog_mixed tys_ok nfs_ok eqs_ok (own := []) (all_cons h_r9_CheckCourse all_nil) (n := an_r9_CourseErr) Tryz.func15 (by kernel_rfl) fun x => ck_r9_CourseErr x
theorem h_r9_strips : Has Tryz.prog sg_r9_strips :=
  has_of prog_mixed tys_ok nfs_ok eqs_ok (own := []) (all_cons h_r9_slab (all_cons h_r9_pass (all_cons h_r9_cut all_nil))) (n := an_r9_strips) Tryz.func87 (by kernel_rfl) fun x => ck_r9_strips x.1 x.2
theorem h_r9_After : Has Tryz.prog sg_r9_After :=
  has_of prog_mixed tys_ok nfs_ok eqs_ok (own := []) (all_cons h_r9_strips all_nil) (n := an_r9_After) Tryz.func49 (by kernel_rfl) fun x => ck_r9_After x.1 x.2
theorem h_r9_StepsErr : Has Tryz.prog sg_r9_StepsErr :=
  has_of prog_mixed tys_ok nfs_ok eqs_ok (own := []) (all_cons h_b0_Within all_nil) (n := an_r9_StepsErr) Tryz.func82 (by kernel_rfl) fun x => ck_r9_StepsErr x.1 x.2
theorem h_r9_ReadingErr : Has Tryz.prog sg_r9_ReadingErr :=
  has_of prog_mixed tys_ok nfs_ok eqs_ok (own := []) (all_cons h_r9_After (all_cons h_r9_Strip_Length (all_cons h_r9_StepsErr (all_cons h_b0_RatioCmp (all_cons h_b0_RatioInt all_nil))))) (n := an_r9_ReadingErr) Tryz.func47 (by kernel_rfl) fun x => ck_r9_ReadingErr x.1 x.2
theorem h_r9_ReadingsErr : Has Tryz.prog sg_r9_ReadingsErr :=
  has_of prog_mixed tys_ok nfs_ok eqs_ok (own := []) (all_cons h_r9_ReadingErr all_nil) (n := an_r9_ReadingsErr) Tryz.func16 (by kernel_rfl) fun x => ck_r9_ReadingsErr x.1 x.2
theorem h_b0_Decimal : Has Tryz.prog sg_b0_Decimal :=
  has_of prog_mixed tys_ok nfs_ok eqs_ok (own := []) (all_cons h_b0_Size all_nil) (n := an_b0_Decimal) Tryz.func37 (by kernel_rfl) fun x => ck_b0_Decimal x
theorem h_r9_text : Has Tryz.prog sg_r9_text :=
  has_of prog_mixed tys_ok nfs_ok eqs_ok (own := []) (all_cons h_b0_Decimal all_nil) (n := an_r9_text) Tryz.func51 (by kernel_rfl) fun x => ck_r9_text x
theorem h_b0_RatioDiv : Has Tryz.prog sg_b0_RatioDiv :=
  has_of prog_mixed tys_ok nfs_ok eqs_ok (own := []) (all_cons h_b0_WideMul (all_cons h_b0_RatioMake all_nil)) (n := an_b0_RatioDiv) Tryz.func176 (by kernel_rfl) fun x => ck_b0_RatioDiv x.1 x.2
theorem h_r9_through : Has Tryz.prog sg_r9_through :=
  has_of prog_mixed tys_ok nfs_ok eqs_ok (own := []) (all_cons h_b0_RatioCmp (all_cons h_b0_RatioInt (all_cons h_b0_RatioAdd (all_cons h_b0_RatioSub (all_cons h_b0_RatioMul (all_cons h_b0_RatioDiv all_nil)))))) (n := an_r9_through) Tryz.func129 (by kernel_rfl) fun x => ck_r9_through x.1 x.2.1 x.2.2
theorem h_r9_Move : Has Tryz.prog sg_r9_Move :=
  has_of prog_mixed tys_ok nfs_ok eqs_ok (own := []) (all_cons h_b0_RatioCmp (all_cons h_b0_RatioInt (all_cons h_r9_strips (all_cons h_b0_RatioAdd (all_cons h_r9_through (all_cons h_b0_RatioSub all_nil)))))) (n := an_r9_Move) Tryz.func89 (by kernel_rfl) fun x => ck_r9_Move x.1 x.2.1 x.2.2.1 x.2.2.2
theorem h_r9_PlaceOf : Has Tryz.prog sg_r9_PlaceOf :=
  has_of prog_mixed tys_ok nfs_ok eqs_ok (own := []) (all_cons h_b0_RatioFrac (all_cons h_b0_RatioInt (all_cons h_r9_Move all_nil))) (n := an_r9_PlaceOf) Tryz.func52 (by kernel_rfl) fun x => ck_r9_PlaceOf x.1 x.2.1 x.2.2
theorem h_r9_ReportOf : Has Tryz.prog sg_r9_ReportOf :=
  has_of prog_mixed tys_ok nfs_ok eqs_ok (own := []) (all_cons h_b0_Decimal (all_cons h_b0_RatioFrac (all_cons h_r9_After (all_cons h_r9_Strip_Length (all_cons h_r9_text (all_cons h_r9_PlaceOf all_nil)))))) (n := an_r9_ReportOf) Tryz.func17 (by kernel_rfl) fun x => ck_r9_ReportOf x.1 x.2
include m_slices_Clone_uint32 m_trace_evidence_explanations m_strings_Join m_strconv_Itoa m_strings_Split m_strings_Cut m_strconv_Atoi i_strings_SplitSeq in
theorem h_l9_TraceReports : Has Tryz.prog sg_l9_TraceReports :=
  has_of prog_mixed tys_ok nfs_ok eqs_ok (own := []) (all_cons (h_l9_awake m_slices_Clone_uint32 m_trace_evidence_explanations m_strings_Join m_strconv_Itoa) (all_cons h_l9_Few (all_cons (h_trace_FormatCourse m_strings_Join m_strconv_Itoa) (all_cons h_r9_CopyCourse (all_cons (h_trace_ParseCourse m_slices_Clone_uint32 m_strconv_Itoa m_strings_Split m_strings_Cut m_strconv_Atoi i_strings_SplitSeq) (all_cons h_r9_SameCourse (all_cons (h_trace_ReportOf m_slices_Clone_uint32 m_strings_Join m_strconv_Itoa) (all_cons h_r9_CopyReadings (all_cons h_r9_CourseErr (all_cons h_r9_ReadingsErr (all_cons h_r9_ReportOf all_nil))))))))))) (n := an_l9_TraceReports) Tryz.func4 (by kernel_rfl) fun x => ck_l9_TraceReports x.1 x.2
end
end Go.Lift
