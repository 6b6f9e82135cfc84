/-
  The functions of the seat in the evaluator's syntax (printed by a program of mine; checked in a text that follows).
-/
import Derived.Test.YtcephlgejkngiaaGreatDoorCoa
namespace Go.Proofs.YtcephlgejkngiaaGreatDoor.Co
open Go.Evl

def codes : List (Nat × CF) := [
  (n_law05_PriorityRanks, c_law05_PriorityRanks),
  (n_ref05_Short, c_ref05_Short),
  (n_ref02_Brief, c_ref02_Brief),
  (n_law05_awake, c_law05_awake),
  (n_priority_Print, c_priority_Print),
  (n_law05_program, c_law05_program),
  (n_priority_ClassOf, c_priority_ClassOf),
  (n_ref05_CheckProgram, c_ref05_CheckProgram),
  (n_ref01_First, c_ref01_First),
  (n_ref05_CheckClaim, c_ref05_CheckClaim),
  (n_ref05_ClassOf, c_ref05_ClassOf),
  (n_priority_CheckProgram, c_priority_CheckProgram),
  (n_ref05_Same, c_ref05_Same),
  (n_law05_own, c_law05_own),
  (n_priority_Default, c_priority_Default),
  (n_priority_Parse, c_priority_Parse),
  (n_priority_Interleave, c_priority_Interleave),
  (n_ref01_CheckRange, c_ref01_CheckRange),
  (n_ref05_Interleave, c_ref05_Interleave),
  (n_ref01_SameInts, c_ref01_SameInts),
  (n_ref05_Decide, c_ref05_Decide),
  (n_ref05_ShortClaims, c_ref05_ShortClaims),
  (n_priority_Lots, c_priority_Lots),
  (n_law05_claims, c_law05_claims),
  (n_ref05_CheckClaims, c_ref05_CheckClaims),
  (n_ref05_Lots, c_ref05_Lots),
  (n_priority_Rank, c_priority_Rank),
  (n_priority_Why, c_priority_Why),
  (n_priority_CheckRank, c_priority_CheckRank),
  (n_priority_Better, c_priority_Better),
  (n_ref05_Rank, c_ref05_Rank),
  (n_ref05_Why, c_ref05_Why),
  (n_ref05_Better, c_ref05_Better),
  (n_ref01_SameWords, c_ref01_SameWords),
  (n_law05_sample, c_law05_sample),
  (n_priority_Fact, c_priority_Fact),
  (n_priority_Newcomer, c_priority_Newcomer),
  (n_ref01_DaysOf, c_ref01_DaysOf),
  (n_priority_Print_1, c_priority_Print_1),
  (n_strings_Builder_WriteString, c_strings_Builder_WriteString),
  (n_priority_Key_sign, c_priority_Key_sign),
  (n_priority_first, c_priority_first),
  (n_priority_CheckClaim, c_priority_CheckClaim),
  (n_priority_Program_classOf, c_priority_Program_classOf),
  (n_ref05_added, c_ref05_added),
  (n_ref05_CheckPool, c_ref05_CheckPool),
  (n_ref02_CheckRequest, c_ref02_CheckRequest),
  (n_ref05_Holds, c_ref05_Holds),
  (n_priority_when, c_priority_when),
  (n_priority_each_priority_Class, c_priority_each_priority_Class),
  (n_priority_added, c_priority_added),
  (n_priority_Program_pool, c_priority_Program_pool),
  (n_strings_SplitAfter, c_strings_SplitAfter),
  (n_priority_Program_line, c_priority_Program_line),
  (n_priority_within, c_priority_within),
  (n_priority_interleaved, c_priority_interleaved),
  (n_priority_Program_decide, c_priority_Program_decide),
  (n_ref05_Fact, c_ref05_Fact),
  (n_priority_checkKey, c_priority_checkKey),
  (n_priority_checkClaims, c_priority_checkClaims),
  (n_priority_lots, c_priority_lots),
  (n_slices_Equal_Lint_int, c_slices_Equal_Lint_int),
  (n_ref01_Draw, c_ref01_Draw),
  (n_priority_checkRanking, c_priority_checkRanking),
  (n_priority_ranked, c_priority_ranked),
  (n_priority_ranking_order, c_priority_ranking_order),
  (n_priority_ranking_compare, c_priority_ranking_compare),
  (n_slices_Index_Lint_int, c_slices_Index_Lint_int),
  (n_ref05_Base, c_ref05_Base),
  (n_ref05_ahead, c_ref05_ahead),
  (n_priority_known, c_priority_known),
  (n_calendar_IsName, c_calendar_IsName),
  (n_priority_each_api_Request, c_priority_each_api_Request),
  (n_priority_Newcomer_1, c_priority_Newcomer_1),
  (n_slices_ContainsFunc_Lapi_Request_api_Request, c_slices_ContainsFunc_Lapi_Request_api_Request),
  (n_priority_Newcomer_1_1, c_priority_Newcomer_1_1),
  (n_message_CheckRequest, c_message_CheckRequest),
  (n_calendar_Has, c_calendar_Has),
  (n_priority_bit, c_priority_bit),
  (n_ref01_Has, c_ref01_Has),
  (n_priority_holds, c_priority_holds),
  (n_ref05_CheckClass, c_ref05_CheckClass),
  (n_ref01_IsName, c_ref01_IsName),
  (n_ref02_optional, c_ref02_optional),
  (n_ref01_CheckPeriod, c_ref01_CheckPeriod),
  (n_slices_ContainsFunc_Lpriority_Class_priority_Class, c_slices_ContainsFunc_Lpriority_Class_priority_Class),
  (n_priority_added_1, c_priority_added_1),
  (n_priority_Class_check, c_priority_Class_check),
  (n_strings_CutSuffix, c_strings_CutSuffix),
  (n_slices_Contains_Lstring_string, c_slices_Contains_Lstring_string),
  (n_priority_reader_next, c_priority_reader_next),
  (n_priority_reader_class, c_priority_reader_class),
  (n_priority_reader_pool, c_priority_reader_pool),
  (n_priority_Program_keys, c_priority_Program_keys),
  (n_ref05_bit, c_ref05_bit),
  (n_priority_each_priority_Claim, c_priority_each_priority_Claim),
  (n_priority_checkClaims_1, c_priority_checkClaims_1),
  (n_slices_ContainsFunc_Lpriority_Claim_priority_Claim, c_slices_ContainsFunc_Lpriority_Claim_priority_Claim),
  (n_priority_checkClaims_1_1, c_priority_checkClaims_1_1),
  (n_priority_indices, c_priority_indices),
  (n_slices_SortFunc_Lint_int, c_slices_SortFunc_Lint_int),
  (n_priority_lots_1, c_priority_lots_1),
  (n_cmp_Compare_string, c_cmp_Compare_string),
  (n_calendar_Draw, c_calendar_Draw),
  (n_priority_ranking_order_1, c_priority_ranking_order_1),
  (n_slices_IndexFunc_Lint_int, c_slices_IndexFunc_Lint_int),
  (n_priority_ranking_order_2, c_priority_ranking_order_2),
  (n_slices_Clone_Lint_int, c_slices_Clone_Lint_int),
  (n_cmp_Compare_int, c_cmp_Compare_int),
  (n_priority_facts, c_priority_facts),
  (n_slices_IndexFunc_Lapi_Request_api_Request, c_slices_IndexFunc_Lapi_Request_api_Request),
  (n_message_first, c_message_first),
  (n_message_named, c_message_named),
  (n_message_optional, c_message_optional),
  (n_message_when, c_message_when),
  (n_message_isKind, c_message_isKind),
  (n_calendar_CheckPeriod, c_calendar_CheckPeriod),
  (n_message_within, c_message_within),
  (n_calendar_first, c_calendar_first),
  (n_calendar_checkDay, c_calendar_checkDay),
  (n_calendar_has, c_calendar_has),
  (n_ref01_InMask, c_ref01_InMask),
  (n_ref01_Weekday, c_ref01_Weekday),
  (n_ref05_CheckTest, c_ref05_CheckTest),
  (n_ref01_HasWord, c_ref01_HasWord),
  (n_ref05_Facts, c_ref05_Facts),
  (n_ref01_CheckDay, c_ref01_CheckDay),
  (n_slices_IndexFunc_Lpriority_Class_priority_Class, c_slices_IndexFunc_Lpriority_Class_priority_Class),
  (n_priority_each_priority_Test, c_priority_each_priority_Test),
  (n_priority_Class_check_1, c_priority_Class_check_1),
  (n_priority_Test_check, c_priority_Test_check),
  (n_priority_each_priority_Key, c_priority_each_priority_Key),
  (n_priority_Class_check_2, c_priority_Class_check_2),
  (n_slices_ContainsFunc_Lpriority_Key_priority_Key, c_slices_ContainsFunc_Lpriority_Key_priority_Key),
  (n_priority_Class_check_2_1, c_priority_Class_check_2_1),
  (n_priority_Facts, c_priority_Facts),
  (n_internal_stringslite_CutSuffix, c_internal_stringslite_CutSuffix),
  (n_slices_Index_Lstring_string, c_slices_Index_Lstring_string),
  (n_priority_all_priority_Test, c_priority_all_priority_Test),
  (n_priority_test, c_priority_test),
  (n_priority_all_priority_Key, c_priority_all_priority_Key),
  (n_priority_key, c_priority_key),
  (n_priority_integer, c_priority_integer),
  (n_priority_Program_keys_1, c_priority_Program_keys_1),
  (n_slices_IndexFunc_Lpriority_Claim_priority_Claim, c_slices_IndexFunc_Lpriority_Claim_priority_Claim),
  (n_slices_pdqsortCmpFunc_int, c_slices_pdqsortCmpFunc_int),
  (n_math_bits_Len, c_math_bits_Len),
  (n_cmp_isNaN_string, c_cmp_isNaN_string),
  (n_calendar_within, c_calendar_within),
  (n_cmp_isNaN_int, c_cmp_isNaN_int),
  (n_priority_facts_1, c_priority_facts_1),
  (n_priority_facts_2, c_priority_facts_2),
  (n_priority_facts_3, c_priority_facts_3),
  (n_priority_facts_4, c_priority_facts_4),
  (n_priority_facts_5, c_priority_facts_5),
  (n_calendar_Count, c_calendar_Count),
  (n_priority_facts_6, c_priority_facts_6),
  (n_priority_facts_7, c_priority_facts_7),
  (n_priority_facts_8, c_priority_facts_8),
  (n_priority_facts_9, c_priority_facts_9),
  (n_priority_facts_10, c_priority_facts_10),
  (n_calendar_when, c_calendar_when),
  (n_calendar_inMask, c_calendar_inMask),
  (n_calendar_weekday, c_calendar_weekday),
  (n_slices_IndexFunc_Lpriority_Key_priority_Key, c_slices_IndexFunc_Lpriority_Key_priority_Key),
  (n_slices_insertionSortCmpFunc_int, c_slices_insertionSortCmpFunc_int),
  (n_math_bits_Len32, c_math_bits_Len32),
  (n_math_bits_Len64, c_math_bits_Len64),
  (n_calendar_DaysOf, c_calendar_DaysOf),
  (n_calendar_collected_int, c_calendar_collected_int),
  (n_calendar_daysOf, c_calendar_daysOf),
  (n_calendar_DaysOf_1, c_calendar_DaysOf_1),
  (n_calendar_daysOf_1, c_calendar_daysOf_1)]

def code (f : Nat) : Option CF := findC f codes

theorem code_law05_PriorityRanks : code n_law05_PriorityRanks = some c_law05_PriorityRanks := rfl
theorem code_ref05_Short : code n_ref05_Short = some c_ref05_Short := rfl
theorem code_ref02_Brief : code n_ref02_Brief = some c_ref02_Brief := rfl
theorem code_law05_awake : code n_law05_awake = some c_law05_awake := rfl
theorem code_priority_Print : code n_priority_Print = some c_priority_Print := rfl
theorem code_law05_program : code n_law05_program = some c_law05_program := rfl
theorem code_priority_ClassOf : code n_priority_ClassOf = some c_priority_ClassOf := rfl
theorem code_ref05_CheckProgram : code n_ref05_CheckProgram = some c_ref05_CheckProgram := rfl
theorem code_ref01_First : code n_ref01_First = some c_ref01_First := rfl
theorem code_ref05_CheckClaim : code n_ref05_CheckClaim = some c_ref05_CheckClaim := rfl
theorem code_ref05_ClassOf : code n_ref05_ClassOf = some c_ref05_ClassOf := rfl
theorem code_priority_CheckProgram : code n_priority_CheckProgram = some c_priority_CheckProgram := rfl
theorem code_ref05_Same : code n_ref05_Same = some c_ref05_Same := rfl
theorem code_law05_own : code n_law05_own = some c_law05_own := rfl
theorem code_priority_Default : code n_priority_Default = some c_priority_Default := rfl
theorem code_priority_Parse : code n_priority_Parse = some c_priority_Parse := rfl
theorem code_priority_Interleave : code n_priority_Interleave = some c_priority_Interleave := rfl
theorem code_ref01_CheckRange : code n_ref01_CheckRange = some c_ref01_CheckRange := rfl
theorem code_ref05_Interleave : code n_ref05_Interleave = some c_ref05_Interleave := rfl
theorem code_ref01_SameInts : code n_ref01_SameInts = some c_ref01_SameInts := rfl
theorem code_ref05_Decide : code n_ref05_Decide = some c_ref05_Decide := rfl
theorem code_ref05_ShortClaims : code n_ref05_ShortClaims = some c_ref05_ShortClaims := rfl
theorem code_priority_Lots : code n_priority_Lots = some c_priority_Lots := rfl
theorem code_law05_claims : code n_law05_claims = some c_law05_claims := rfl
theorem code_ref05_CheckClaims : code n_ref05_CheckClaims = some c_ref05_CheckClaims := rfl
theorem code_ref05_Lots : code n_ref05_Lots = some c_ref05_Lots := rfl
theorem code_priority_Rank : code n_priority_Rank = some c_priority_Rank := rfl
theorem code_priority_Why : code n_priority_Why = some c_priority_Why := rfl
theorem code_priority_CheckRank : code n_priority_CheckRank = some c_priority_CheckRank := rfl
theorem code_priority_Better : code n_priority_Better = some c_priority_Better := rfl
theorem code_ref05_Rank : code n_ref05_Rank = some c_ref05_Rank := rfl
theorem code_ref05_Why : code n_ref05_Why = some c_ref05_Why := rfl
theorem code_ref05_Better : code n_ref05_Better = some c_ref05_Better := rfl
theorem code_ref01_SameWords : code n_ref01_SameWords = some c_ref01_SameWords := rfl
theorem code_law05_sample : code n_law05_sample = some c_law05_sample := rfl
theorem code_priority_Fact : code n_priority_Fact = some c_priority_Fact := rfl
theorem code_priority_Newcomer : code n_priority_Newcomer = some c_priority_Newcomer := rfl
theorem code_ref01_DaysOf : code n_ref01_DaysOf = some c_ref01_DaysOf := rfl
theorem code_priority_Print_1 : code n_priority_Print_1 = some c_priority_Print_1 := rfl
theorem code_strings_Builder_WriteString : code n_strings_Builder_WriteString = some c_strings_Builder_WriteString := rfl
theorem code_priority_Key_sign : code n_priority_Key_sign = some c_priority_Key_sign := rfl
theorem code_priority_first : code n_priority_first = some c_priority_first := rfl
theorem code_priority_CheckClaim : code n_priority_CheckClaim = some c_priority_CheckClaim := rfl
theorem code_priority_Program_classOf : code n_priority_Program_classOf = some c_priority_Program_classOf := rfl
theorem code_ref05_added : code n_ref05_added = some c_ref05_added := rfl
theorem code_ref05_CheckPool : code n_ref05_CheckPool = some c_ref05_CheckPool := rfl
theorem code_ref02_CheckRequest : code n_ref02_CheckRequest = some c_ref02_CheckRequest := rfl
theorem code_ref05_Holds : code n_ref05_Holds = some c_ref05_Holds := rfl
theorem code_priority_when : code n_priority_when = some c_priority_when := rfl
theorem code_priority_each_priority_Class : code n_priority_each_priority_Class = some c_priority_each_priority_Class := rfl
theorem code_priority_added : code n_priority_added = some c_priority_added := rfl
theorem code_priority_Program_pool : code n_priority_Program_pool = some c_priority_Program_pool := rfl
theorem code_strings_SplitAfter : code n_strings_SplitAfter = some c_strings_SplitAfter := rfl
theorem code_priority_Program_line : code n_priority_Program_line = some c_priority_Program_line := rfl
theorem code_priority_within : code n_priority_within = some c_priority_within := rfl
theorem code_priority_interleaved : code n_priority_interleaved = some c_priority_interleaved := rfl
theorem code_priority_Program_decide : code n_priority_Program_decide = some c_priority_Program_decide := rfl
theorem code_ref05_Fact : code n_ref05_Fact = some c_ref05_Fact := rfl
theorem code_priority_checkKey : code n_priority_checkKey = some c_priority_checkKey := rfl
theorem code_priority_checkClaims : code n_priority_checkClaims = some c_priority_checkClaims := rfl
theorem code_priority_lots : code n_priority_lots = some c_priority_lots := rfl
theorem code_slices_Equal_Lint_int : code n_slices_Equal_Lint_int = some c_slices_Equal_Lint_int := rfl
theorem code_ref01_Draw : code n_ref01_Draw = some c_ref01_Draw := rfl
theorem code_priority_checkRanking : code n_priority_checkRanking = some c_priority_checkRanking := rfl
theorem code_priority_ranked : code n_priority_ranked = some c_priority_ranked := rfl
theorem code_priority_ranking_order : code n_priority_ranking_order = some c_priority_ranking_order := rfl
theorem code_priority_ranking_compare : code n_priority_ranking_compare = some c_priority_ranking_compare := rfl
theorem code_slices_Index_Lint_int : code n_slices_Index_Lint_int = some c_slices_Index_Lint_int := rfl
theorem code_ref05_Base : code n_ref05_Base = some c_ref05_Base := rfl
theorem code_ref05_ahead : code n_ref05_ahead = some c_ref05_ahead := rfl
theorem code_priority_known : code n_priority_known = some c_priority_known := rfl
theorem code_calendar_IsName : code n_calendar_IsName = some c_calendar_IsName := rfl
theorem code_priority_each_api_Request : code n_priority_each_api_Request = some c_priority_each_api_Request := rfl
theorem code_priority_Newcomer_1 : code n_priority_Newcomer_1 = some c_priority_Newcomer_1 := rfl
theorem code_slices_ContainsFunc_Lapi_Request_api_Request : code n_slices_ContainsFunc_Lapi_Request_api_Request = some c_slices_ContainsFunc_Lapi_Request_api_Request := rfl
theorem code_priority_Newcomer_1_1 : code n_priority_Newcomer_1_1 = some c_priority_Newcomer_1_1 := rfl
theorem code_message_CheckRequest : code n_message_CheckRequest = some c_message_CheckRequest := rfl
theorem code_calendar_Has : code n_calendar_Has = some c_calendar_Has := rfl
theorem code_priority_bit : code n_priority_bit = some c_priority_bit := rfl
theorem code_ref01_Has : code n_ref01_Has = some c_ref01_Has := rfl
theorem code_priority_holds : code n_priority_holds = some c_priority_holds := rfl
theorem code_ref05_CheckClass : code n_ref05_CheckClass = some c_ref05_CheckClass := rfl
theorem code_ref01_IsName : code n_ref01_IsName = some c_ref01_IsName := rfl
theorem code_ref02_optional : code n_ref02_optional = some c_ref02_optional := rfl
theorem code_ref01_CheckPeriod : code n_ref01_CheckPeriod = some c_ref01_CheckPeriod := rfl
theorem code_slices_ContainsFunc_Lpriority_Class_priority_Class : code n_slices_ContainsFunc_Lpriority_Class_priority_Class = some c_slices_ContainsFunc_Lpriority_Class_priority_Class := rfl
theorem code_priority_added_1 : code n_priority_added_1 = some c_priority_added_1 := rfl
theorem code_priority_Class_check : code n_priority_Class_check = some c_priority_Class_check := rfl
theorem code_strings_CutSuffix : code n_strings_CutSuffix = some c_strings_CutSuffix := rfl
theorem code_slices_Contains_Lstring_string : code n_slices_Contains_Lstring_string = some c_slices_Contains_Lstring_string := rfl
theorem code_priority_reader_next : code n_priority_reader_next = some c_priority_reader_next := rfl
theorem code_priority_reader_class : code n_priority_reader_class = some c_priority_reader_class := rfl
theorem code_priority_reader_pool : code n_priority_reader_pool = some c_priority_reader_pool := rfl
theorem code_priority_Program_keys : code n_priority_Program_keys = some c_priority_Program_keys := rfl
theorem code_ref05_bit : code n_ref05_bit = some c_ref05_bit := rfl
theorem code_priority_each_priority_Claim : code n_priority_each_priority_Claim = some c_priority_each_priority_Claim := rfl
theorem code_priority_checkClaims_1 : code n_priority_checkClaims_1 = some c_priority_checkClaims_1 := rfl
theorem code_slices_ContainsFunc_Lpriority_Claim_priority_Claim : code n_slices_ContainsFunc_Lpriority_Claim_priority_Claim = some c_slices_ContainsFunc_Lpriority_Claim_priority_Claim := rfl
theorem code_priority_checkClaims_1_1 : code n_priority_checkClaims_1_1 = some c_priority_checkClaims_1_1 := rfl
theorem code_priority_indices : code n_priority_indices = some c_priority_indices := rfl
theorem code_slices_SortFunc_Lint_int : code n_slices_SortFunc_Lint_int = some c_slices_SortFunc_Lint_int := rfl
theorem code_priority_lots_1 : code n_priority_lots_1 = some c_priority_lots_1 := rfl
theorem code_cmp_Compare_string : code n_cmp_Compare_string = some c_cmp_Compare_string := rfl
theorem code_calendar_Draw : code n_calendar_Draw = some c_calendar_Draw := rfl
theorem code_priority_ranking_order_1 : code n_priority_ranking_order_1 = some c_priority_ranking_order_1 := rfl
theorem code_slices_IndexFunc_Lint_int : code n_slices_IndexFunc_Lint_int = some c_slices_IndexFunc_Lint_int := rfl
theorem code_priority_ranking_order_2 : code n_priority_ranking_order_2 = some c_priority_ranking_order_2 := rfl
theorem code_slices_Clone_Lint_int : code n_slices_Clone_Lint_int = some c_slices_Clone_Lint_int := rfl
theorem code_cmp_Compare_int : code n_cmp_Compare_int = some c_cmp_Compare_int := rfl
theorem code_priority_facts : code n_priority_facts = some c_priority_facts := rfl
theorem code_slices_IndexFunc_Lapi_Request_api_Request : code n_slices_IndexFunc_Lapi_Request_api_Request = some c_slices_IndexFunc_Lapi_Request_api_Request := rfl
theorem code_message_first : code n_message_first = some c_message_first := rfl
theorem code_message_named : code n_message_named = some c_message_named := rfl
theorem code_message_optional : code n_message_optional = some c_message_optional := rfl
theorem code_message_when : code n_message_when = some c_message_when := rfl
theorem code_message_isKind : code n_message_isKind = some c_message_isKind := rfl
theorem code_calendar_CheckPeriod : code n_calendar_CheckPeriod = some c_calendar_CheckPeriod := rfl
theorem code_message_within : code n_message_within = some c_message_within := rfl
theorem code_calendar_first : code n_calendar_first = some c_calendar_first := rfl
theorem code_calendar_checkDay : code n_calendar_checkDay = some c_calendar_checkDay := rfl
theorem code_calendar_has : code n_calendar_has = some c_calendar_has := rfl
theorem code_ref01_InMask : code n_ref01_InMask = some c_ref01_InMask := rfl
theorem code_ref01_Weekday : code n_ref01_Weekday = some c_ref01_Weekday := rfl
theorem code_ref05_CheckTest : code n_ref05_CheckTest = some c_ref05_CheckTest := rfl
theorem code_ref01_HasWord : code n_ref01_HasWord = some c_ref01_HasWord := rfl
theorem code_ref05_Facts : code n_ref05_Facts = some c_ref05_Facts := rfl
theorem code_ref01_CheckDay : code n_ref01_CheckDay = some c_ref01_CheckDay := rfl
theorem code_slices_IndexFunc_Lpriority_Class_priority_Class : code n_slices_IndexFunc_Lpriority_Class_priority_Class = some c_slices_IndexFunc_Lpriority_Class_priority_Class := rfl
theorem code_priority_each_priority_Test : code n_priority_each_priority_Test = some c_priority_each_priority_Test := rfl
theorem code_priority_Class_check_1 : code n_priority_Class_check_1 = some c_priority_Class_check_1 := rfl
theorem code_priority_Test_check : code n_priority_Test_check = some c_priority_Test_check := rfl
theorem code_priority_each_priority_Key : code n_priority_each_priority_Key = some c_priority_each_priority_Key := rfl
theorem code_priority_Class_check_2 : code n_priority_Class_check_2 = some c_priority_Class_check_2 := rfl
theorem code_slices_ContainsFunc_Lpriority_Key_priority_Key : code n_slices_ContainsFunc_Lpriority_Key_priority_Key = some c_slices_ContainsFunc_Lpriority_Key_priority_Key := rfl
theorem code_priority_Class_check_2_1 : code n_priority_Class_check_2_1 = some c_priority_Class_check_2_1 := rfl
theorem code_priority_Facts : code n_priority_Facts = some c_priority_Facts := rfl
theorem code_internal_stringslite_CutSuffix : code n_internal_stringslite_CutSuffix = some c_internal_stringslite_CutSuffix := rfl
theorem code_slices_Index_Lstring_string : code n_slices_Index_Lstring_string = some c_slices_Index_Lstring_string := rfl
theorem code_priority_all_priority_Test : code n_priority_all_priority_Test = some c_priority_all_priority_Test := rfl
theorem code_priority_test : code n_priority_test = some c_priority_test := rfl
theorem code_priority_all_priority_Key : code n_priority_all_priority_Key = some c_priority_all_priority_Key := rfl
theorem code_priority_key : code n_priority_key = some c_priority_key := rfl
theorem code_priority_integer : code n_priority_integer = some c_priority_integer := rfl
theorem code_priority_Program_keys_1 : code n_priority_Program_keys_1 = some c_priority_Program_keys_1 := rfl
theorem code_slices_IndexFunc_Lpriority_Claim_priority_Claim : code n_slices_IndexFunc_Lpriority_Claim_priority_Claim = some c_slices_IndexFunc_Lpriority_Claim_priority_Claim := rfl
theorem code_slices_pdqsortCmpFunc_int : code n_slices_pdqsortCmpFunc_int = some c_slices_pdqsortCmpFunc_int := rfl
theorem code_math_bits_Len : code n_math_bits_Len = some c_math_bits_Len := rfl
theorem code_cmp_isNaN_string : code n_cmp_isNaN_string = some c_cmp_isNaN_string := rfl
theorem code_calendar_within : code n_calendar_within = some c_calendar_within := rfl
theorem code_cmp_isNaN_int : code n_cmp_isNaN_int = some c_cmp_isNaN_int := rfl
theorem code_priority_facts_1 : code n_priority_facts_1 = some c_priority_facts_1 := rfl
theorem code_priority_facts_2 : code n_priority_facts_2 = some c_priority_facts_2 := rfl
theorem code_priority_facts_3 : code n_priority_facts_3 = some c_priority_facts_3 := rfl
theorem code_priority_facts_4 : code n_priority_facts_4 = some c_priority_facts_4 := rfl
theorem code_priority_facts_5 : code n_priority_facts_5 = some c_priority_facts_5 := rfl
theorem code_calendar_Count : code n_calendar_Count = some c_calendar_Count := rfl
theorem code_priority_facts_6 : code n_priority_facts_6 = some c_priority_facts_6 := rfl
theorem code_priority_facts_7 : code n_priority_facts_7 = some c_priority_facts_7 := rfl
theorem code_priority_facts_8 : code n_priority_facts_8 = some c_priority_facts_8 := rfl
theorem code_priority_facts_9 : code n_priority_facts_9 = some c_priority_facts_9 := rfl
theorem code_priority_facts_10 : code n_priority_facts_10 = some c_priority_facts_10 := rfl
theorem code_calendar_when : code n_calendar_when = some c_calendar_when := rfl
theorem code_calendar_inMask : code n_calendar_inMask = some c_calendar_inMask := rfl
theorem code_calendar_weekday : code n_calendar_weekday = some c_calendar_weekday := rfl
theorem code_slices_IndexFunc_Lpriority_Key_priority_Key : code n_slices_IndexFunc_Lpriority_Key_priority_Key = some c_slices_IndexFunc_Lpriority_Key_priority_Key := rfl
theorem code_slices_insertionSortCmpFunc_int : code n_slices_insertionSortCmpFunc_int = some c_slices_insertionSortCmpFunc_int := rfl
theorem code_math_bits_Len32 : code n_math_bits_Len32 = some c_math_bits_Len32 := rfl
theorem code_math_bits_Len64 : code n_math_bits_Len64 = some c_math_bits_Len64 := rfl
theorem code_calendar_DaysOf : code n_calendar_DaysOf = some c_calendar_DaysOf := rfl
theorem code_calendar_collected_int : code n_calendar_collected_int = some c_calendar_collected_int := rfl
theorem code_calendar_daysOf : code n_calendar_daysOf = some c_calendar_daysOf := rfl
theorem code_calendar_DaysOf_1 : code n_calendar_DaysOf_1 = some c_calendar_DaysOf_1 := rfl
theorem code_calendar_daysOf_1 : code n_calendar_daysOf_1 = some c_calendar_daysOf_1 := rfl

def globs : Globs := [(1, [.int .u64 1, .int .u64 10, .int .u64 100, .int .u64 1000, .int .u64 10000, .int .u64 100000, .int .u64 1000000, .int .u64 10000000, .int .u64 100000000, .int .u64 1000000000, .int .u64 10000000000, .int .u64 100000000000, .int .u64 1000000000000, .int .u64 10000000000000, .int .u64 100000000000000, .int .u64 1000000000000000, .int .u64 10000000000000000, .int .u64 100000000000000000, .int .u64 1000000000000000000, .int .u64 10000000000000000000])]

end Go.Proofs.YtcephlgejkngiaaGreatDoor.Co
