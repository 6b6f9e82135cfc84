/-
  The functions of the seat in the evaluator's syntax (printed by a program of mine; checked in a text that follows).
-/
import Derived.Test.YtgpgcadcpogcbaaGreatDoorCoa
namespace Go.Proofs.YtgpgcadcpogcbaaGreatDoor.Co
open Go.Evl

def codes : List (Nat × CF) := [
  (n_law02_MessageParses, c_law02_MessageParses),
  (n_law02_MessageLeaves, c_law02_MessageLeaves),
  (n_law02_MessageChanges, c_law02_MessageChanges),
  (n_law02_MessageResults, c_law02_MessageResults),
  (n_law02_MessageBack, c_law02_MessageBack),
  (n_law02_MessageStrict, c_law02_MessageStrict),
  (n_law02_awake, c_law02_awake),
  (n_message_ParseMessage, c_message_ParseMessage),
  (n_ref02_ParseMessage, c_ref02_ParseMessage),
  (n_ref02_SameMessages, c_ref02_SameMessages),
  (n_law02_own, c_law02_own),
  (n_ref02_ShortMessage, c_ref02_ShortMessage),
  (n_law02_program, c_law02_program),
  (n_message_Requests, c_message_Requests),
  (n_ref02_Requests, c_ref02_Requests),
  (n_ref02_SameEntries, c_ref02_SameEntries),
  (n_law02_ownEntries, c_law02_ownEntries),
  (n_ref02_Short, c_ref02_Short),
  (n_message_Changed, c_message_Changed),
  (n_law02_copied, c_law02_copied),
  (n_ref01_First, c_ref01_First),
  (n_ref02_CheckRequests, c_ref02_CheckRequests),
  (n_ref02_Changed, c_ref02_Changed),
  (n_ref02_SameLines, c_ref02_SameLines),
  (n_law02_ownLines, c_law02_ownLines),
  (n_message_Results, c_message_Results),
  (n_ref02_Results, c_ref02_Results),
  (n_ref02_SameResults, c_ref02_SameResults),
  (n_law02_ownResults, c_law02_ownResults),
  (n_ref02_CheckMessage, c_ref02_CheckMessage),
  (n_message_PrintMessage, c_message_PrintMessage),
  (n_message_PrintLine, c_message_PrintLine),
  (n_message_ParseLine, c_message_ParseLine),
  (n_message_ParseMinute, c_message_ParseMinute),
  (n_message_PrintMinute, c_message_PrintMinute),
  (n_law02_sample, c_law02_sample),
  (n_message_Answers, c_message_Answers),
  (n_message_texts, c_message_texts),
  (n_strings_CutSuffix, c_strings_CutSuffix),
  (n_message_head, c_message_head),
  (n_message_first, c_message_first),
  (n_message_when, c_message_when),
  (n_message_number, c_message_number),
  (n_message_checkLines, c_message_checkLines),
  (n_ref02_pieces, c_ref02_pieces),
  (n_ref02_head, c_ref02_head),
  (n_ref02_ended, c_ref02_ended),
  (n_ref02_split, c_ref02_split),
  (n_ref02_ParseLine, c_ref02_ParseLine),
  (n_ref02_digits, c_ref02_digits),
  (n_ref02_CheckLines, c_ref02_CheckLines),
  (n_ref02_ShortLines, c_ref02_ShortLines),
  (n_law02_lines, c_law02_lines),
  (n_message_CheckMessage, c_message_CheckMessage),
  (n_message_step, c_message_step),
  (n_ref02_step, c_ref02_step),
  (n_ref02_Brief, c_ref02_Brief),
  (n_message_checkRequests, c_message_checkRequests),
  (n_message_Changed_1, c_message_Changed_1),
  (n_slices_IndexFunc_Lapi_Request_api_Request, c_slices_IndexFunc_Lapi_Request_api_Request),
  (n_message_Changed_1_1, c_message_Changed_1_1),
  (n_message_twins, c_message_twins),
  (n_message_filtered_api_Request_message_Line, c_message_filtered_api_Request_message_Line),
  (n_message_Changed_2, c_message_Changed_2),
  (n_message_Changed_3, c_message_Changed_3),
  (n_ref02_CheckRequest, c_ref02_CheckRequest),
  (n_ref02_At, c_ref02_At),
  (n_ref02_twin, c_ref02_twin),
  (n_message_filtered_message_Line_message_Result, c_message_filtered_message_Line_message_Result),
  (n_message_Results_1, c_message_Results_1),
  (n_ref02_CheckHead, c_ref02_CheckHead),
  (n_strings_Builder_WriteString, c_strings_Builder_WriteString),
  (n_message_wide, c_message_wide),
  (n_message_printLine, c_message_printLine),
  (n_message_CheckLine, c_message_CheckLine),
  (n_message_fields, c_message_fields),
  (n_message_within, c_message_within),
  (n_message_checkHead, c_message_checkHead),
  (n_message_checkBoth, c_message_checkBoth),
  (n_message_moved, c_message_moved),
  (n_message_texts_1, c_message_texts_1),
  (n_strings_IndexByte, c_strings_IndexByte),
  (n_internal_stringslite_CutSuffix, c_internal_stringslite_CutSuffix),
  (n_message_isMessage, c_message_isMessage),
  (n_message_actions, c_message_actions),
  (n_ref02_fits, c_ref02_fits),
  (n_ref01_ParseMask, c_ref01_ParseMask),
  (n_ref02_undashed, c_ref02_undashed),
  (n_ref02_ParseMinute, c_ref02_ParseMinute),
  (n_ref02_CheckLine, c_ref02_CheckLine),
  (n_ref02_Asks, c_ref02_Asks),
  (n_message_find, c_message_find),
  (n_ref02_place, c_ref02_place),
  (n_message_CheckRequest, c_message_CheckRequest),
  (n_ref01_IsName, c_ref01_IsName),
  (n_ref02_optional, c_ref02_optional),
  (n_ref01_CheckPeriod, c_ref01_CheckPeriod),
  (n_ref01_CheckRange, c_ref01_CheckRange),
  (n_ref02_IsSeason, c_ref02_IsSeason),
  (n_ref01_CheckDay, c_ref01_CheckDay),
  (n_message_isAction, c_message_isAction),
  (n_message_text, c_message_text),
  (n_message_fields_1, c_message_fields_1),
  (n_message_fields_2, c_message_fields_2),
  (n_calendar_IsName, c_calendar_IsName),
  (n_message_fields_3, c_message_fields_3),
  (n_message_fields_4, c_message_fields_4),
  (n_message_isKind, c_message_isKind),
  (n_message_fields_5, c_message_fields_5),
  (n_message_digits, c_message_digits),
  (n_message_fields_6, c_message_fields_6),
  (n_message_fields_7, c_message_fields_7),
  (n_message_fields_8, c_message_fields_8),
  (n_calendar_PrintMask, c_calendar_PrintMask),
  (n_message_fields_9, c_message_fields_9),
  (n_calendar_ParseMask, c_calendar_ParseMask),
  (n_message_fields_10, c_message_fields_10),
  (n_message_fields_11, c_message_fields_11),
  (n_message_fields_12, c_message_fields_12),
  (n_message_fields_13, c_message_fields_13),
  (n_message_fields_14, c_message_fields_14),
  (n_message_dashed, c_message_dashed),
  (n_message_fields_15, c_message_fields_15),
  (n_message_fields_16, c_message_fields_16),
  (n_message_named, c_message_named),
  (n_message_isSeason, c_message_isSeason),
  (n_message_checkResults, c_message_checkResults),
  (n_ref02_Replies, c_ref02_Replies),
  (n_ref01_PrintMask, c_ref01_PrintMask),
  (n_ref01_HasWord, c_ref01_HasWord),
  (n_slices_IndexFunc_Lmessage_Entry_message_Entry, c_slices_IndexFunc_Lmessage_Entry_message_Entry),
  (n_message_find_1, c_message_find_1),
  (n_message_optional, c_message_optional),
  (n_calendar_CheckPeriod, c_calendar_CheckPeriod),
  (n_message_text_1, c_message_text_1),
  (n_message_text_2, c_message_text_2),
  (n_message_digits_1, c_message_digits_1),
  (n_message_digits_2, c_message_digits_2),
  (n_calendar_within, c_calendar_within),
  (n_calendar_printMask, c_calendar_printMask),
  (n_message_dashed_1, c_message_dashed_1),
  (n_message_dashed_2, c_message_dashed_2),
  (n_ref01_InMask, c_ref01_InMask),
  (n_ref01_digit, c_ref01_digit),
  (n_calendar_first, c_calendar_first),
  (n_calendar_checkDay, c_calendar_checkDay),
  (n_calendar_when, c_calendar_when),
  (n_calendar_inMask, c_calendar_inMask),
  (n_strings_Builder_WriteByte, c_strings_Builder_WriteByte)]

def code (f : Nat) : Option CF := findC f codes

theorem code_law02_MessageParses : code n_law02_MessageParses = some c_law02_MessageParses := rfl
theorem code_law02_MessageLeaves : code n_law02_MessageLeaves = some c_law02_MessageLeaves := rfl
theorem code_law02_MessageChanges : code n_law02_MessageChanges = some c_law02_MessageChanges := rfl
theorem code_law02_MessageResults : code n_law02_MessageResults = some c_law02_MessageResults := rfl
theorem code_law02_MessageBack : code n_law02_MessageBack = some c_law02_MessageBack := rfl
theorem code_law02_MessageStrict : code n_law02_MessageStrict = some c_law02_MessageStrict := rfl
theorem code_law02_awake : code n_law02_awake = some c_law02_awake := rfl
theorem code_message_ParseMessage : code n_message_ParseMessage = some c_message_ParseMessage := rfl
theorem code_ref02_ParseMessage : code n_ref02_ParseMessage = some c_ref02_ParseMessage := rfl
theorem code_ref02_SameMessages : code n_ref02_SameMessages = some c_ref02_SameMessages := rfl
theorem code_law02_own : code n_law02_own = some c_law02_own := rfl
theorem code_ref02_ShortMessage : code n_ref02_ShortMessage = some c_ref02_ShortMessage := rfl
theorem code_law02_program : code n_law02_program = some c_law02_program := rfl
theorem code_message_Requests : code n_message_Requests = some c_message_Requests := rfl
theorem code_ref02_Requests : code n_ref02_Requests = some c_ref02_Requests := rfl
theorem code_ref02_SameEntries : code n_ref02_SameEntries = some c_ref02_SameEntries := rfl
theorem code_law02_ownEntries : code n_law02_ownEntries = some c_law02_ownEntries := rfl
theorem code_ref02_Short : code n_ref02_Short = some c_ref02_Short := rfl
theorem code_message_Changed : code n_message_Changed = some c_message_Changed := rfl
theorem code_law02_copied : code n_law02_copied = some c_law02_copied := rfl
theorem code_ref01_First : code n_ref01_First = some c_ref01_First := rfl
theorem code_ref02_CheckRequests : code n_ref02_CheckRequests = some c_ref02_CheckRequests := rfl
theorem code_ref02_Changed : code n_ref02_Changed = some c_ref02_Changed := rfl
theorem code_ref02_SameLines : code n_ref02_SameLines = some c_ref02_SameLines := rfl
theorem code_law02_ownLines : code n_law02_ownLines = some c_law02_ownLines := rfl
theorem code_message_Results : code n_message_Results = some c_message_Results := rfl
theorem code_ref02_Results : code n_ref02_Results = some c_ref02_Results := rfl
theorem code_ref02_SameResults : code n_ref02_SameResults = some c_ref02_SameResults := rfl
theorem code_law02_ownResults : code n_law02_ownResults = some c_law02_ownResults := rfl
theorem code_ref02_CheckMessage : code n_ref02_CheckMessage = some c_ref02_CheckMessage := rfl
theorem code_message_PrintMessage : code n_message_PrintMessage = some c_message_PrintMessage := rfl
theorem code_message_PrintLine : code n_message_PrintLine = some c_message_PrintLine := rfl
theorem code_message_ParseLine : code n_message_ParseLine = some c_message_ParseLine := rfl
theorem code_message_ParseMinute : code n_message_ParseMinute = some c_message_ParseMinute := rfl
theorem code_message_PrintMinute : code n_message_PrintMinute = some c_message_PrintMinute := rfl
theorem code_law02_sample : code n_law02_sample = some c_law02_sample := rfl
theorem code_message_Answers : code n_message_Answers = some c_message_Answers := rfl
theorem code_message_texts : code n_message_texts = some c_message_texts := rfl
theorem code_strings_CutSuffix : code n_strings_CutSuffix = some c_strings_CutSuffix := rfl
theorem code_message_head : code n_message_head = some c_message_head := rfl
theorem code_message_first : code n_message_first = some c_message_first := rfl
theorem code_message_when : code n_message_when = some c_message_when := rfl
theorem code_message_number : code n_message_number = some c_message_number := rfl
theorem code_message_checkLines : code n_message_checkLines = some c_message_checkLines := rfl
theorem code_ref02_pieces : code n_ref02_pieces = some c_ref02_pieces := rfl
theorem code_ref02_head : code n_ref02_head = some c_ref02_head := rfl
theorem code_ref02_ended : code n_ref02_ended = some c_ref02_ended := rfl
theorem code_ref02_split : code n_ref02_split = some c_ref02_split := rfl
theorem code_ref02_ParseLine : code n_ref02_ParseLine = some c_ref02_ParseLine := rfl
theorem code_ref02_digits : code n_ref02_digits = some c_ref02_digits := rfl
theorem code_ref02_CheckLines : code n_ref02_CheckLines = some c_ref02_CheckLines := rfl
theorem code_ref02_ShortLines : code n_ref02_ShortLines = some c_ref02_ShortLines := rfl
theorem code_law02_lines : code n_law02_lines = some c_law02_lines := rfl
theorem code_message_CheckMessage : code n_message_CheckMessage = some c_message_CheckMessage := rfl
theorem code_message_step : code n_message_step = some c_message_step := rfl
theorem code_ref02_step : code n_ref02_step = some c_ref02_step := rfl
theorem code_ref02_Brief : code n_ref02_Brief = some c_ref02_Brief := rfl
theorem code_message_checkRequests : code n_message_checkRequests = some c_message_checkRequests := rfl
theorem code_message_Changed_1 : code n_message_Changed_1 = some c_message_Changed_1 := rfl
theorem code_slices_IndexFunc_Lapi_Request_api_Request : code n_slices_IndexFunc_Lapi_Request_api_Request = some c_slices_IndexFunc_Lapi_Request_api_Request := rfl
theorem code_message_Changed_1_1 : code n_message_Changed_1_1 = some c_message_Changed_1_1 := rfl
theorem code_message_twins : code n_message_twins = some c_message_twins := rfl
theorem code_message_filtered_api_Request_message_Line : code n_message_filtered_api_Request_message_Line = some c_message_filtered_api_Request_message_Line := rfl
theorem code_message_Changed_2 : code n_message_Changed_2 = some c_message_Changed_2 := rfl
theorem code_message_Changed_3 : code n_message_Changed_3 = some c_message_Changed_3 := rfl
theorem code_ref02_CheckRequest : code n_ref02_CheckRequest = some c_ref02_CheckRequest := rfl
theorem code_ref02_At : code n_ref02_At = some c_ref02_At := rfl
theorem code_ref02_twin : code n_ref02_twin = some c_ref02_twin := rfl
theorem code_message_filtered_message_Line_message_Result : code n_message_filtered_message_Line_message_Result = some c_message_filtered_message_Line_message_Result := rfl
theorem code_message_Results_1 : code n_message_Results_1 = some c_message_Results_1 := rfl
theorem code_ref02_CheckHead : code n_ref02_CheckHead = some c_ref02_CheckHead := rfl
theorem code_strings_Builder_WriteString : code n_strings_Builder_WriteString = some c_strings_Builder_WriteString := rfl
theorem code_message_wide : code n_message_wide = some c_message_wide := rfl
theorem code_message_printLine : code n_message_printLine = some c_message_printLine := rfl
theorem code_message_CheckLine : code n_message_CheckLine = some c_message_CheckLine := rfl
theorem code_message_fields : code n_message_fields = some c_message_fields := rfl
theorem code_message_within : code n_message_within = some c_message_within := rfl
theorem code_message_checkHead : code n_message_checkHead = some c_message_checkHead := rfl
theorem code_message_checkBoth : code n_message_checkBoth = some c_message_checkBoth := rfl
theorem code_message_moved : code n_message_moved = some c_message_moved := rfl
theorem code_message_texts_1 : code n_message_texts_1 = some c_message_texts_1 := rfl
theorem code_strings_IndexByte : code n_strings_IndexByte = some c_strings_IndexByte := rfl
theorem code_internal_stringslite_CutSuffix : code n_internal_stringslite_CutSuffix = some c_internal_stringslite_CutSuffix := rfl
theorem code_message_isMessage : code n_message_isMessage = some c_message_isMessage := rfl
theorem code_message_actions : code n_message_actions = some c_message_actions := rfl
theorem code_ref02_fits : code n_ref02_fits = some c_ref02_fits := rfl
theorem code_ref01_ParseMask : code n_ref01_ParseMask = some c_ref01_ParseMask := rfl
theorem code_ref02_undashed : code n_ref02_undashed = some c_ref02_undashed := rfl
theorem code_ref02_ParseMinute : code n_ref02_ParseMinute = some c_ref02_ParseMinute := rfl
theorem code_ref02_CheckLine : code n_ref02_CheckLine = some c_ref02_CheckLine := rfl
theorem code_ref02_Asks : code n_ref02_Asks = some c_ref02_Asks := rfl
theorem code_message_find : code n_message_find = some c_message_find := rfl
theorem code_ref02_place : code n_ref02_place = some c_ref02_place := rfl
theorem code_message_CheckRequest : code n_message_CheckRequest = some c_message_CheckRequest := rfl
theorem code_ref01_IsName : code n_ref01_IsName = some c_ref01_IsName := rfl
theorem code_ref02_optional : code n_ref02_optional = some c_ref02_optional := rfl
theorem code_ref01_CheckPeriod : code n_ref01_CheckPeriod = some c_ref01_CheckPeriod := rfl
theorem code_ref01_CheckRange : code n_ref01_CheckRange = some c_ref01_CheckRange := rfl
theorem code_ref02_IsSeason : code n_ref02_IsSeason = some c_ref02_IsSeason := rfl
theorem code_ref01_CheckDay : code n_ref01_CheckDay = some c_ref01_CheckDay := rfl
theorem code_message_isAction : code n_message_isAction = some c_message_isAction := rfl
theorem code_message_text : code n_message_text = some c_message_text := rfl
theorem code_message_fields_1 : code n_message_fields_1 = some c_message_fields_1 := rfl
theorem code_message_fields_2 : code n_message_fields_2 = some c_message_fields_2 := rfl
theorem code_calendar_IsName : code n_calendar_IsName = some c_calendar_IsName := rfl
theorem code_message_fields_3 : code n_message_fields_3 = some c_message_fields_3 := rfl
theorem code_message_fields_4 : code n_message_fields_4 = some c_message_fields_4 := rfl
theorem code_message_isKind : code n_message_isKind = some c_message_isKind := rfl
theorem code_message_fields_5 : code n_message_fields_5 = some c_message_fields_5 := rfl
theorem code_message_digits : code n_message_digits = some c_message_digits := rfl
theorem code_message_fields_6 : code n_message_fields_6 = some c_message_fields_6 := rfl
theorem code_message_fields_7 : code n_message_fields_7 = some c_message_fields_7 := rfl
theorem code_message_fields_8 : code n_message_fields_8 = some c_message_fields_8 := rfl
theorem code_calendar_PrintMask : code n_calendar_PrintMask = some c_calendar_PrintMask := rfl
theorem code_message_fields_9 : code n_message_fields_9 = some c_message_fields_9 := rfl
theorem code_calendar_ParseMask : code n_calendar_ParseMask = some c_calendar_ParseMask := rfl
theorem code_message_fields_10 : code n_message_fields_10 = some c_message_fields_10 := rfl
theorem code_message_fields_11 : code n_message_fields_11 = some c_message_fields_11 := rfl
theorem code_message_fields_12 : code n_message_fields_12 = some c_message_fields_12 := rfl
theorem code_message_fields_13 : code n_message_fields_13 = some c_message_fields_13 := rfl
theorem code_message_fields_14 : code n_message_fields_14 = some c_message_fields_14 := rfl
theorem code_message_dashed : code n_message_dashed = some c_message_dashed := rfl
theorem code_message_fields_15 : code n_message_fields_15 = some c_message_fields_15 := rfl
theorem code_message_fields_16 : code n_message_fields_16 = some c_message_fields_16 := rfl
theorem code_message_named : code n_message_named = some c_message_named := rfl
theorem code_message_isSeason : code n_message_isSeason = some c_message_isSeason := rfl
theorem code_message_checkResults : code n_message_checkResults = some c_message_checkResults := rfl
theorem code_ref02_Replies : code n_ref02_Replies = some c_ref02_Replies := rfl
theorem code_ref01_PrintMask : code n_ref01_PrintMask = some c_ref01_PrintMask := rfl
theorem code_ref01_HasWord : code n_ref01_HasWord = some c_ref01_HasWord := rfl
theorem code_slices_IndexFunc_Lmessage_Entry_message_Entry : code n_slices_IndexFunc_Lmessage_Entry_message_Entry = some c_slices_IndexFunc_Lmessage_Entry_message_Entry := rfl
theorem code_message_find_1 : code n_message_find_1 = some c_message_find_1 := rfl
theorem code_message_optional : code n_message_optional = some c_message_optional := rfl
theorem code_calendar_CheckPeriod : code n_calendar_CheckPeriod = some c_calendar_CheckPeriod := rfl
theorem code_message_text_1 : code n_message_text_1 = some c_message_text_1 := rfl
theorem code_message_text_2 : code n_message_text_2 = some c_message_text_2 := rfl
theorem code_message_digits_1 : code n_message_digits_1 = some c_message_digits_1 := rfl
theorem code_message_digits_2 : code n_message_digits_2 = some c_message_digits_2 := rfl
theorem code_calendar_within : code n_calendar_within = some c_calendar_within := rfl
theorem code_calendar_printMask : code n_calendar_printMask = some c_calendar_printMask := rfl
theorem code_message_dashed_1 : code n_message_dashed_1 = some c_message_dashed_1 := rfl
theorem code_message_dashed_2 : code n_message_dashed_2 = some c_message_dashed_2 := rfl
theorem code_ref01_InMask : code n_ref01_InMask = some c_ref01_InMask := rfl
theorem code_ref01_digit : code n_ref01_digit = some c_ref01_digit := rfl
theorem code_calendar_first : code n_calendar_first = some c_calendar_first := rfl
theorem code_calendar_checkDay : code n_calendar_checkDay = some c_calendar_checkDay := rfl
theorem code_calendar_when : code n_calendar_when = some c_calendar_when := rfl
theorem code_calendar_inMask : code n_calendar_inMask = some c_calendar_inMask := rfl
theorem code_strings_Builder_WriteByte : code n_strings_Builder_WriteByte = some c_strings_Builder_WriteByte := rfl

def globs : Globs := [(3, [.int .u64 1, .int .u64 10, .int .u64 100, .int .u64 1000, .int .u64 10000, .int .u64 100000, .int .u64 1000000, .int .u64 10000000, .int .u64 100000000, .int .u64 1000000000, .int .u64 10000000000, .int .u64 100000000000, .int .u64 1000000000000, .int .u64 10000000000000, .int .u64 100000000000000, .int .u64 1000000000000000, .int .u64 10000000000000000, .int .u64 100000000000000000, .int .u64 1000000000000000000, .int .u64 10000000000000000000])]

end Go.Proofs.YtgpgcadcpogcbaaGreatDoor.Co
