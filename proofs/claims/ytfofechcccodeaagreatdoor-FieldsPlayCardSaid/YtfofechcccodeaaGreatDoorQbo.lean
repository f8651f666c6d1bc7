/-
  Small texts in one (RfI). No conditions.
-/
import Derived.Test.YtfofechcccodeaaGreatDoorQaq
namespace Go.Proofs.YtfofechcccodeaaGreatDoor
open Go.RowKit Go.Proofs.Tryz
set_option linter.unusedVariables false
set_option linter.unusedSimpArgs false
set_option maxRecDepth 100000
set_option maxHeartbeats 4000000
theorem mem_tab (R:S4) (f:Nat->Bool) (h:(List.range 256).all (fun c=>R.mem c == f c)=true) (c:Nat) (hc:c < 256):R.mem c=f c:=by
 rw [List.all_eq_true] at h;simpa using h c (by simpa using hc)
theorem in_xdigit_all (c:Nat) (hc:c < 256) (w:World):Calls prog 121 #[.string ⟨#[120,100,105,103,105,116]⟩,.int .i64 (c:Int)] w fun e w'=>e = .returned (.tuple #[.bool (S4.mem (S4.or (S4.range 48 57) (S4.both 65 70 97 102)) c),.bool true])/\w=w':=by
 rw [mem_tab (S4.or (S4.range 48 57) (S4.both 65 70 97 102)) (fun c=>decide (48 <= c/\c < 58) || decide (65 <= c/\c < 71) || decide (97 <= c/\c < 103)) (by kernel_rfl) c hc];rcases (show (0 <= c/\c < 48) ∨ (48 <= c/\c < 58) ∨ (58 <= c/\c < 65) ∨ (65 <= c/\c < 71) ∨ (71 <= c/\c < 91) ∨ (91 <= c/\c < 97) ∨ (97 <= c/\c < 103) ∨ (103 <= c/\c < 123) ∨ (123 <= c/\c < 256) by omega) with ⟨h1,h2⟩ | ⟨h1,h2⟩ | ⟨h1,h2⟩ | ⟨h1,h2⟩ | ⟨h1,h2⟩ | ⟨h1,h2⟩ | ⟨h1,h2⟩ | ⟨h1,h2⟩ | ⟨h1,h2⟩
 all_goals
  first
   | rw [show (decide (48 <= c/\c < 58) || decide (65 <= c/\c < 71) || decide (97 <= c/\c < 103))=true by simp;omega]
   | rw [show (decide (48 <= c/\c < 58) || decide (65 <= c/\c < 71) || decide (97 <= c/\c < 103))=false by simp;omega]
  go_enter func121,ntmps121
  go_wp2_with fail
  go_ret2
  refine ⟨?_,rfl⟩;first | rfl | (simp <;> omega)
theorem in_punct_all (c:Nat) (hc:c < 256) (w:World):Calls prog 121 #[.string ⟨#[112,117,110,99,116]⟩,.int .i64 (c:Int)] w fun e w'=>e = .returned (.tuple #[.bool (S4.mem (S4.not (S4.or (S4.not (S4.range 33 126)) (S4.or (S4.range 48 57) (S4.both 65 90 97 122)))) c),.bool true])/\w=w':=by
 rw [mem_tab (S4.not (S4.or (S4.not (S4.range 33 126)) (S4.or (S4.range 48 57) (S4.both 65 90 97 122)))) (fun c=>decide (33 <= c/\c < 48) || decide (58 <= c/\c < 65) || decide (91 <= c/\c < 97) || decide (123 <= c/\c < 127)) (by kernel_rfl) c hc];rcases (show (0 <= c/\c < 33) ∨ (33 <= c/\c < 48) ∨ (48 <= c/\c < 58) ∨ (58 <= c/\c < 65) ∨ (65 <= c/\c < 91) ∨ (91 <= c/\c < 97) ∨ (97 <= c/\c < 123) ∨ (123 <= c/\c < 127) ∨ (127 <= c/\c < 256) by omega) with ⟨h1,h2⟩ | ⟨h1,h2⟩ | ⟨h1,h2⟩ | ⟨h1,h2⟩ | ⟨h1,h2⟩ | ⟨h1,h2⟩ | ⟨h1,h2⟩ | ⟨h1,h2⟩ | ⟨h1,h2⟩
 all_goals
  first
   | rw [show (decide (33 <= c/\c < 48) || decide (58 <= c/\c < 65) || decide (91 <= c/\c < 97) || decide (123 <= c/\c < 127))=true by simp;omega]
   | rw [show (decide (33 <= c/\c < 48) || decide (58 <= c/\c < 65) || decide (91 <= c/\c < 97) || decide (123 <= c/\c < 127))=false by simp;omega]
  go_enter func121,ntmps121
  go_wp2_with fail
  go_ret2
  refine ⟨?_,rfl⟩;first | rfl | (simp <;> omega)
theorem in_alnum_all (c:Nat) (hc:c < 256) (w:World):Calls prog 121 #[.string ⟨#[97,108,110,117,109]⟩,.int .i64 (c:Int)] w fun e w'=>e = .returned (.tuple #[.bool (S4.mem (S4.or (S4.range 48 57) (S4.both 65 90 97 122)) c),.bool true])/\w=w':=by
 rw [mem_tab (S4.or (S4.range 48 57) (S4.both 65 90 97 122)) (fun c=>decide (48 <= c/\c < 58) || decide (65 <= c/\c < 91) || decide (97 <= c/\c < 123)) (by kernel_rfl) c hc];rcases (show (0 <= c/\c < 48) ∨ (48 <= c/\c < 58) ∨ (58 <= c/\c < 65) ∨ (65 <= c/\c < 91) ∨ (91 <= c/\c < 97) ∨ (97 <= c/\c < 123) ∨ (123 <= c/\c < 256) by omega) with ⟨h1,h2⟩ | ⟨h1,h2⟩ | ⟨h1,h2⟩ | ⟨h1,h2⟩ | ⟨h1,h2⟩ | ⟨h1,h2⟩ | ⟨h1,h2⟩
 all_goals
  first
   | rw [show (decide (48 <= c/\c < 58) || decide (65 <= c/\c < 91) || decide (97 <= c/\c < 123))=true by simp;omega]
   | rw [show (decide (48 <= c/\c < 58) || decide (65 <= c/\c < 91) || decide (97 <= c/\c < 123))=false by simp;omega]
  go_enter func121,ntmps121
  go_wp2_with fail
  go_ret2
  refine ⟨?_,rfl⟩;first | rfl | (simp <;> omega)
theorem in_alpha_all (c:Nat) (hc:c < 256) (w:World):Calls prog 121 #[.string ⟨#[97,108,112,104,97]⟩,.int .i64 (c:Int)] w fun e w'=>e = .returned (.tuple #[.bool (S4.mem (S4.or S4.empty (S4.both 65 90 97 122)) c),.bool true])/\w=w':=by
 rw [mem_tab (S4.or S4.empty (S4.both 65 90 97 122)) (fun c=>decide (65 <= c/\c < 91) || decide (97 <= c/\c < 123)) (by kernel_rfl) c hc];rcases (show (0 <= c/\c < 48) ∨ (48 <= c/\c < 58) ∨ (58 <= c/\c < 65) ∨ (65 <= c/\c < 91) ∨ (91 <= c/\c < 97) ∨ (97 <= c/\c < 123) ∨ (123 <= c/\c < 256) by omega) with ⟨h1,h2⟩ | ⟨h1,h2⟩ | ⟨h1,h2⟩ | ⟨h1,h2⟩ | ⟨h1,h2⟩ | ⟨h1,h2⟩ | ⟨h1,h2⟩
 all_goals
  first
   | rw [show (decide (65 <= c/\c < 91) || decide (97 <= c/\c < 123))=true by simp;omega]
   | rw [show (decide (65 <= c/\c < 91) || decide (97 <= c/\c < 123))=false by simp;omega]
  go_enter func121,ntmps121
  go_wp2_with fail
  go_ret2
  refine ⟨?_,rfl⟩;first | rfl | (simp <;> omega)
theorem in_digit_all (c:Nat) (hc:c < 256) (w:World):Calls prog 121 #[.string ⟨#[100,105,103,105,116]⟩,.int .i64 (c:Int)] w fun e w'=>e = .returned (.tuple #[.bool (S4.mem (S4.range 48 57) c),.bool true])/\w=w':=by
 rw [mem_tab (S4.range 48 57) (fun c=>decide (48 <= c/\c < 58)) (by kernel_rfl) c hc];rcases (show (0 <= c/\c < 48) ∨ (48 <= c/\c < 58) ∨ (58 <= c/\c < 65) ∨ (65 <= c/\c < 91) ∨ (91 <= c/\c < 97) ∨ (97 <= c/\c < 123) ∨ (123 <= c/\c < 256) by omega) with ⟨h1,h2⟩ | ⟨h1,h2⟩ | ⟨h1,h2⟩ | ⟨h1,h2⟩ | ⟨h1,h2⟩ | ⟨h1,h2⟩ | ⟨h1,h2⟩
 all_goals
  first
   | rw [show (decide (48 <= c/\c < 58))=true by simp;omega]
   | rw [show (decide (48 <= c/\c < 58))=false by simp;omega]
  go_enter func121,ntmps121
  go_wp2_with fail
  go_ret2
  refine ⟨?_,rfl⟩;first | rfl | (simp <;> omega)
theorem in_upper_all (c:Nat) (hc:c < 256) (w:World):Calls prog 121 #[.string ⟨#[117,112,112,101,114]⟩,.int .i64 (c:Int)] w fun e w'=>e = .returned (.tuple #[.bool (S4.mem (S4.range 65 90) c),.bool true])/\w=w':=by
 rw [mem_tab (S4.range 65 90) (fun c=>decide (65 <= c/\c < 91)) (by kernel_rfl) c hc];rcases (show (0 <= c/\c < 48) ∨ (48 <= c/\c < 58) ∨ (58 <= c/\c < 65) ∨ (65 <= c/\c < 91) ∨ (91 <= c/\c < 97) ∨ (97 <= c/\c < 123) ∨ (123 <= c/\c < 256) by omega) with ⟨h1,h2⟩ | ⟨h1,h2⟩ | ⟨h1,h2⟩ | ⟨h1,h2⟩ | ⟨h1,h2⟩ | ⟨h1,h2⟩ | ⟨h1,h2⟩
 all_goals
  first
   | rw [show (decide (65 <= c/\c < 91))=true by simp;omega]
   | rw [show (decide (65 <= c/\c < 91))=false by simp;omega]
  go_enter func121,ntmps121
  go_wp2_with fail
  go_ret2
  refine ⟨?_,rfl⟩;first | rfl | (simp <;> omega)
theorem in_lower_all (c:Nat) (hc:c < 256) (w:World):Calls prog 121 #[.string ⟨#[108,111,119,101,114]⟩,.int .i64 (c:Int)] w fun e w'=>e = .returned (.tuple #[.bool (S4.mem (S4.range 97 122) c),.bool true])/\w=w':=by
 rw [mem_tab (S4.range 97 122) (fun c=>decide (97 <= c/\c < 123)) (by kernel_rfl) c hc];rcases (show (0 <= c/\c < 48) ∨ (48 <= c/\c < 58) ∨ (58 <= c/\c < 65) ∨ (65 <= c/\c < 91) ∨ (91 <= c/\c < 97) ∨ (97 <= c/\c < 123) ∨ (123 <= c/\c < 256) by omega) with ⟨h1,h2⟩ | ⟨h1,h2⟩ | ⟨h1,h2⟩ | ⟨h1,h2⟩ | ⟨h1,h2⟩ | ⟨h1,h2⟩ | ⟨h1,h2⟩
 all_goals
  first
   | rw [show (decide (97 <= c/\c < 123))=true by simp;omega]
   | rw [show (decide (97 <= c/\c < 123))=false by simp;omega]
  go_enter func121,ntmps121
  go_wp2_with fail
  go_ret2
  refine ⟨?_,rfl⟩;first | rfl | (simp <;> omega)
theorem in_space_all (c:Nat) (hc:c < 256) (w:World):Calls prog 121 #[.string ⟨#[115,112,97,99,101]⟩,.int .i64 (c:Int)] w fun e w'=>e = .returned (.tuple #[.bool (S4.mem (S4.both 9 13 32 32) c),.bool true])/\w=w':=by
 rw [mem_tab (S4.both 9 13 32 32) (fun c=>decide (9 <= c/\c < 14) || decide (32 <= c/\c < 33)) (by kernel_rfl) c hc];rcases (show (0 <= c/\c < 9) ∨ (9 <= c/\c < 14) ∨ (14 <= c/\c < 32) ∨ (32 <= c/\c < 33) ∨ (33 <= c/\c < 48) ∨ (48 <= c/\c < 58) ∨ (58 <= c/\c < 65) ∨ (65 <= c/\c < 91) ∨ (91 <= c/\c < 97) ∨ (97 <= c/\c < 123) ∨ (123 <= c/\c < 256) by omega) with ⟨h1,h2⟩ | ⟨h1,h2⟩ | ⟨h1,h2⟩ | ⟨h1,h2⟩ | ⟨h1,h2⟩ | ⟨h1,h2⟩ | ⟨h1,h2⟩ | ⟨h1,h2⟩ | ⟨h1,h2⟩ | ⟨h1,h2⟩ | ⟨h1,h2⟩
 all_goals
  first
   | rw [show (decide (9 <= c/\c < 14) || decide (32 <= c/\c < 33))=true by simp;omega]
   | rw [show (decide (9 <= c/\c < 14) || decide (32 <= c/\c < 33))=false by simp;omega]
  first
   | have e32:((c:Int) == 32)=true:=by simp;omega
   | have e32:((c:Int) == 32)=false:=by simp;omega
  go_enter func121,ntmps121
  go_wp2_with fail
  go_ret2
  refine ⟨?_,rfl⟩;first | rfl | (simp <;> omega)
theorem in_blank_all (c:Nat) (hc:c < 256) (w:World):Calls prog 121 #[.string ⟨#[98,108,97,110,107]⟩,.int .i64 (c:Int)] w fun e w'=>e = .returned (.tuple #[.bool (S4.mem (S4.both 9 9 32 32) c),.bool true])/\w=w':=by
 rw [mem_tab (S4.both 9 9 32 32) (fun c=>decide (9 <= c/\c < 10) || decide (32 <= c/\c < 33)) (by kernel_rfl) c hc];rcases (show (0 <= c/\c < 9) ∨ (9 <= c/\c < 10) ∨ (10 <= c/\c < 32) ∨ (32 <= c/\c < 33) ∨ (33 <= c/\c < 48) ∨ (48 <= c/\c < 58) ∨ (58 <= c/\c < 65) ∨ (65 <= c/\c < 91) ∨ (91 <= c/\c < 97) ∨ (97 <= c/\c < 123) ∨ (123 <= c/\c < 256) by omega) with ⟨h1,h2⟩ | ⟨h1,h2⟩ | ⟨h1,h2⟩ | ⟨h1,h2⟩ | ⟨h1,h2⟩ | ⟨h1,h2⟩ | ⟨h1,h2⟩ | ⟨h1,h2⟩ | ⟨h1,h2⟩ | ⟨h1,h2⟩ | ⟨h1,h2⟩
 all_goals
  first
   | rw [show (decide (9 <= c/\c < 10) || decide (32 <= c/\c < 33))=true by simp;omega]
   | rw [show (decide (9 <= c/\c < 10) || decide (32 <= c/\c < 33))=false by simp;omega]
  first
   | have e9:((c:Int) == 9)=true:=by simp;omega
   | have e9:((c:Int) == 9)=false:=by simp;omega
  first
   | have e32:((c:Int) == 32)=true:=by simp;omega
   | have e32:((c:Int) == 32)=false:=by simp;omega
  go_enter func121,ntmps121
  go_wp2_with fail
  go_ret2
  refine ⟨?_,rfl⟩;first | rfl | (simp <;> omega)
theorem in_print_all (c:Nat) (hc:c < 256) (w:World):Calls prog 121 #[.string ⟨#[112,114,105,110,116]⟩,.int .i64 (c:Int)] w fun e w'=>e = .returned (.tuple #[.bool (S4.mem (S4.range 32 126) c),.bool true])/\w=w':=by
 rw [mem_tab (S4.range 32 126) (fun c=>decide (32 <= c/\c < 48) || decide (48 <= c/\c < 58) || decide (58 <= c/\c < 65) || decide (65 <= c/\c < 91) || decide (91 <= c/\c < 97) || decide (97 <= c/\c < 123) || decide (123 <= c/\c < 127)) (by kernel_rfl) c hc];rcases (show (0 <= c/\c < 32) ∨ (32 <= c/\c < 48) ∨ (48 <= c/\c < 58) ∨ (58 <= c/\c < 65) ∨ (65 <= c/\c < 91) ∨ (91 <= c/\c < 97) ∨ (97 <= c/\c < 123) ∨ (123 <= c/\c < 127) ∨ (127 <= c/\c < 256) by omega) with ⟨h1,h2⟩ | ⟨h1,h2⟩ | ⟨h1,h2⟩ | ⟨h1,h2⟩ | ⟨h1,h2⟩ | ⟨h1,h2⟩ | ⟨h1,h2⟩ | ⟨h1,h2⟩ | ⟨h1,h2⟩
 all_goals
  first
   | rw [show (decide (32 <= c/\c < 48) || decide (48 <= c/\c < 58) || decide (58 <= c/\c < 65) || decide (65 <= c/\c < 91) || decide (91 <= c/\c < 97) || decide (97 <= c/\c < 123) || decide (123 <= c/\c < 127))=true by simp;omega]
   | rw [show (decide (32 <= c/\c < 48) || decide (48 <= c/\c < 58) || decide (58 <= c/\c < 65) || decide (65 <= c/\c < 91) || decide (91 <= c/\c < 97) || decide (97 <= c/\c < 123) || decide (123 <= c/\c < 127))=false by simp;omega]
  go_enter func121,ntmps121
  go_wp2_with fail
  go_ret2
  refine ⟨?_,rfl⟩;first | rfl | (simp <;> omega)
theorem in_graph_all (c:Nat) (hc:c < 256) (w:World):Calls prog 121 #[.string ⟨#[103,114,97,112,104]⟩,.int .i64 (c:Int)] w fun e w'=>e = .returned (.tuple #[.bool (S4.mem (S4.range 33 126) c),.bool true])/\w=w':=by
 rw [mem_tab (S4.range 33 126) (fun c=>decide (33 <= c/\c < 48) || decide (48 <= c/\c < 58) || decide (58 <= c/\c < 65) || decide (65 <= c/\c < 91) || decide (91 <= c/\c < 97) || decide (97 <= c/\c < 123) || decide (123 <= c/\c < 127)) (by kernel_rfl) c hc];rcases (show (0 <= c/\c < 33) ∨ (33 <= c/\c < 48) ∨ (48 <= c/\c < 58) ∨ (58 <= c/\c < 65) ∨ (65 <= c/\c < 91) ∨ (91 <= c/\c < 97) ∨ (97 <= c/\c < 123) ∨ (123 <= c/\c < 127) ∨ (127 <= c/\c < 256) by omega) with ⟨h1,h2⟩ | ⟨h1,h2⟩ | ⟨h1,h2⟩ | ⟨h1,h2⟩ | ⟨h1,h2⟩ | ⟨h1,h2⟩ | ⟨h1,h2⟩ | ⟨h1,h2⟩ | ⟨h1,h2⟩
 all_goals
  first
   | rw [show (decide (33 <= c/\c < 48) || decide (48 <= c/\c < 58) || decide (58 <= c/\c < 65) || decide (65 <= c/\c < 91) || decide (91 <= c/\c < 97) || decide (97 <= c/\c < 123) || decide (123 <= c/\c < 127))=true by simp;omega]
   | rw [show (decide (33 <= c/\c < 48) || decide (48 <= c/\c < 58) || decide (58 <= c/\c < 65) || decide (65 <= c/\c < 91) || decide (91 <= c/\c < 97) || decide (97 <= c/\c < 123) || decide (123 <= c/\c < 127))=false by simp;omega]
  go_enter func121,ntmps121
  go_wp2_with fail
  go_ret2
  refine ⟨?_,rfl⟩;first | rfl | (simp <;> omega)
theorem in_cntrl_all (c:Nat) (hc:c < 256) (w:World):Calls prog 121 #[.string ⟨#[99,110,116,114,108]⟩,.int .i64 (c:Int)] w fun e w'=>e = .returned (.tuple #[.bool (S4.mem (S4.both 0 31 127 127) c),.bool true])/\w=w':=by
 rw [mem_tab (S4.both 0 31 127 127) (fun c=>decide (0 <= c/\c < 32) || decide (127 <= c/\c < 128)) (by kernel_rfl) c hc];rcases (show (0 <= c/\c < 32) ∨ (32 <= c/\c < 48) ∨ (48 <= c/\c < 58) ∨ (58 <= c/\c < 65) ∨ (65 <= c/\c < 91) ∨ (91 <= c/\c < 97) ∨ (97 <= c/\c < 123) ∨ (123 <= c/\c < 127) ∨ (127 <= c/\c < 128) ∨ (128 <= c/\c < 256) by omega) with ⟨h1,h2⟩ | ⟨h1,h2⟩ | ⟨h1,h2⟩ | ⟨h1,h2⟩ | ⟨h1,h2⟩ | ⟨h1,h2⟩ | ⟨h1,h2⟩ | ⟨h1,h2⟩ | ⟨h1,h2⟩ | ⟨h1,h2⟩
 all_goals
  first
   | rw [show (decide (0 <= c/\c < 32) || decide (127 <= c/\c < 128))=true by simp;omega]
   | rw [show (decide (0 <= c/\c < 32) || decide (127 <= c/\c < 128))=false by simp;omega]
  first
   | have e127:((c:Int) == 127)=true:=by simp;omega
   | have e127:((c:Int) == 127)=false:=by simp;omega
  go_enter func121,ntmps121
  go_wp2_with fail
  go_ret2
  refine ⟨?_,rfl⟩;first | rfl | (simp <;> omega)
def inV (r:Option S4) (c:Nat):Value:=match r with
 | some R => .tuple #[.bool (R.mem c),.bool true]
 | none => .tuple #[.bool false,.bool false]
theorem in_some (l:List UInt8) (R:S4) (h:classS l=some R) (c:Nat) (hc:c < 256) (w:World):Calls prog 121 #[.string ⟨l.toArray⟩,.int .i64 (c:Int)] w fun e w'=>e = .returned (.tuple #[.bool (R.mem c),.bool true])/\w=w':=by
 unfold classS at h;by_cases h_xdigit:l=[120,100,105,103,105,116]
 ·rw [if_pos h_xdigit] at h;injection h with h;subst h_xdigit h;exact in_xdigit_all c hc w
 rw [if_neg h_xdigit] at h;by_cases h_punct:l=[112,117,110,99,116]
 ·rw [if_pos h_punct] at h;injection h with h;subst h_punct h;exact in_punct_all c hc w
 rw [if_neg h_punct] at h;by_cases h_alnum:l=[97,108,110,117,109]
 ·rw [if_pos h_alnum] at h;injection h with h;subst h_alnum h;exact in_alnum_all c hc w
 rw [if_neg h_alnum] at h;by_cases h_alpha:l=[97,108,112,104,97]
 ·rw [if_pos h_alpha] at h;injection h with h;subst h_alpha h;exact in_alpha_all c hc w
 rw [if_neg h_alpha] at h;by_cases h_digit:l=[100,105,103,105,116]
 ·rw [if_pos h_digit] at h;injection h with h;subst h_digit h;exact in_digit_all c hc w
 rw [if_neg h_digit] at h;by_cases h_upper:l=[117,112,112,101,114]
 ·rw [if_pos h_upper] at h;injection h with h;subst h_upper h;exact in_upper_all c hc w
 rw [if_neg h_upper] at h;by_cases h_lower:l=[108,111,119,101,114]
 ·rw [if_pos h_lower] at h;injection h with h;subst h_lower h;exact in_lower_all c hc w
 rw [if_neg h_lower] at h;by_cases h_space:l=[115,112,97,99,101]
 ·rw [if_pos h_space] at h;injection h with h;subst h_space h;exact in_space_all c hc w
 rw [if_neg h_space] at h;by_cases h_blank:l=[98,108,97,110,107]
 ·rw [if_pos h_blank] at h;injection h with h;subst h_blank h;exact in_blank_all c hc w
 rw [if_neg h_blank] at h;by_cases h_print:l=[112,114,105,110,116]
 ·rw [if_pos h_print] at h;injection h with h;subst h_print h;exact in_print_all c hc w
 rw [if_neg h_print] at h;by_cases h_graph:l=[103,114,97,112,104]
 ·rw [if_pos h_graph] at h;injection h with h;subst h_graph h;exact in_graph_all c hc w
 rw [if_neg h_graph] at h;by_cases h_cntrl:l=[99,110,116,114,108]
 ·rw [if_pos h_cntrl] at h;injection h with h;subst h_cntrl h;exact in_cntrl_all c hc w
 rw [if_neg h_cntrl] at h
 cases h
theorem in_none (l:List UInt8) (h:classS l=none) (w:World):Calls prog 121 #[.string ⟨l.toArray⟩,.int .i64 0] w fun e w'=>e = .returned (.tuple #[.bool false,.bool false])/\w=w':=by
 unfold classS at h;by_cases h_xdigit:l=[120,100,105,103,105,116]
 ·rw [if_pos h_xdigit] at h;cases h
 rw [if_neg h_xdigit] at h;by_cases h_punct:l=[112,117,110,99,116]
 ·rw [if_pos h_punct] at h;cases h
 rw [if_neg h_punct] at h;by_cases h_alnum:l=[97,108,110,117,109]
 ·rw [if_pos h_alnum] at h;cases h
 rw [if_neg h_alnum] at h;by_cases h_alpha:l=[97,108,112,104,97]
 ·rw [if_pos h_alpha] at h;cases h
 rw [if_neg h_alpha] at h;by_cases h_digit:l=[100,105,103,105,116]
 ·rw [if_pos h_digit] at h;cases h
 rw [if_neg h_digit] at h;by_cases h_upper:l=[117,112,112,101,114]
 ·rw [if_pos h_upper] at h;cases h
 rw [if_neg h_upper] at h;by_cases h_lower:l=[108,111,119,101,114]
 ·rw [if_pos h_lower] at h;cases h
 rw [if_neg h_lower] at h;by_cases h_space:l=[115,112,97,99,101]
 ·rw [if_pos h_space] at h;cases h
 rw [if_neg h_space] at h;by_cases h_blank:l=[98,108,97,110,107]
 ·rw [if_pos h_blank] at h;cases h
 rw [if_neg h_blank] at h;by_cases h_print:l=[112,114,105,110,116]
 ·rw [if_pos h_print] at h;cases h
 rw [if_neg h_print] at h;by_cases h_graph:l=[103,114,97,112,104]
 ·rw [if_pos h_graph] at h;cases h
 rw [if_neg h_graph] at h;by_cases h_cntrl:l=[99,110,116,114,108]
 ·rw [if_pos h_cntrl] at h;cases h
 rw [if_neg h_cntrl] at h;have e_xdigit:(l == [120,100,105,103,105,116])=false:=by simpa using h_xdigit
 have e_punct:(l == [112,117,110,99,116])=false:=by simpa using h_punct
 have e_alnum:(l == [97,108,110,117,109])=false:=by simpa using h_alnum
 have e_alpha:(l == [97,108,112,104,97])=false:=by simpa using h_alpha
 have e_digit:(l == [100,105,103,105,116])=false:=by simpa using h_digit
 have e_upper:(l == [117,112,112,101,114])=false:=by simpa using h_upper
 have e_lower:(l == [108,111,119,101,114])=false:=by simpa using h_lower
 have e_space:(l == [115,112,97,99,101])=false:=by simpa using h_space
 have e_blank:(l == [98,108,97,110,107])=false:=by simpa using h_blank
 have e_print:(l == [112,114,105,110,116])=false:=by simpa using h_print
 have e_graph:(l == [103,114,97,112,104])=false:=by simpa using h_graph
 have e_cntrl:(l == [99,110,116,114,108])=false:=by simpa using h_cntrl
 clear h_xdigit h_punct h_alnum h_alpha h_digit h_upper h_lower h_space h_blank h_print h_graph h_cntrl h;go_enter func121,ntmps121
 go_wp2_with fail
 go_ret2
 exact ⟨rfl,rfl⟩
end Go.Proofs.YtfofechcccodeaaGreatDoor
