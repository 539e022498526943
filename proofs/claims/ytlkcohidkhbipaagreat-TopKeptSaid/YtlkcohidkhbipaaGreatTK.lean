/- Contracts of the functions that the statement reaches. No condition. -/
import Derived.Test.YtlkcohidkhbipaaGreatTKa
import Derived.Test.YtlkcohidkhbipaaGreatTKb
import Derived.Test.YtlkcohidkhbipaaGreatTKc
import Derived.Test.YtlkcohidkhbipaaGreatT1
set_option linter.all false
set_option maxRecDepth 100000
namespace Go.AM.FK
open Go.AM Go.AM.TOP Go.AM.PL
theorem kept_code : okC (rest2 af4.code) = true := by kernel_rfl
theorem topKept_ok (a : Int) (ha : -2 ^ 63 ≤ a ∧ a < 2 ^ 63) : WpCallG A 4 [.v (.int .i64 a)] [] (fun v H => v = .v (.bool true) ∧ H = []) := by
 refine WpCallG.intro g4 rfl rfl ?_
 change WpG _ (.seq (rg 0 [oo 2 (.mv (.c (.v (.bool false))))]) (.seq (rg 1 [mt 16 0, oo 17 (.call 15 [(.t 16), (kk 0), (kk 9)]), oo 18 (.bin .add (kk 1) (.t 17)), mt 3 18]) (rest2 af4.code))) _ _ _
 have hw := within_rng a 0 9 (by omega)
 refine WpG.seq ?_
 refine WpG.reg ?_
 refine G.mv rfl ?_
 refine WpOpsG.nil ?_
 change WpG _ _ _ _ _
 refine WpG.seq ?_
 refine WpG.reg ?_
 refine G.mv rfl ?_
 refine G.call0 rfl rfl (within_ok a 0 9 ha (by decide) (by decide) (by decide)) ?_
 rintro _ _ ⟨rfl, rfl⟩
 refine ⟨rfl, ?_⟩
 change WpOpsG _ _ ((17, _) :: _) _ _
 refine G.addI rfl rfl (by omega) ?_
 refine G.mv rfl ?_
 refine WpOpsG.nil ?_
 change WpG _ _ _ _ _
 have hc : within a 0 9 = 0 ∨ within a 0 9 = 1 ∨ within a 0 9 = 2 ∨ within a 0 9 = 3 ∨ within a 0 9 = 4 ∨ within a 0 9 = 5 ∨ within a 0 9 = 6 ∨ within a 0 9 = 7 ∨ within a 0 9 = 8 ∨ within a 0 9 = 9 := by omega
 rcases hc with hc | hc | hc | hc | hc | hc | hc | hc | hc | hc
 ·refine WpG.fk callT_ok [(3, .int .i64 1)] (fun p hp => by rw [List.mem_singleton.1 hp, hc]; rfl) rfl kept_code kept1 ?_
  exact ⟨_, [], rfl, (hasP_le (by repeat (first | exact trivial | refine ⟨rfl, ?_⟩))), rfl, rfl, rfl, rfl, rfl⟩
 ·refine WpG.fk callT_ok [(3, .int .i64 2)] (fun p hp => by rw [List.mem_singleton.1 hp, hc]; rfl) rfl kept_code kept2 ?_
  exact ⟨_, [], rfl, (hasP_le (by repeat (first | exact trivial | refine ⟨rfl, ?_⟩))), rfl, rfl, rfl, rfl, rfl⟩
 ·refine WpG.fk callT_ok [(3, .int .i64 3)] (fun p hp => by rw [List.mem_singleton.1 hp, hc]; rfl) rfl kept_code kept3 ?_
  exact ⟨_, [], rfl, (hasP_le (by repeat (first | exact trivial | refine ⟨rfl, ?_⟩))), rfl, rfl, rfl, rfl, rfl⟩
 ·refine WpG.fk callT_ok [(3, .int .i64 4)] (fun p hp => by rw [List.mem_singleton.1 hp, hc]; rfl) rfl kept_code kept4 ?_
  exact ⟨_, [], rfl, (hasP_le (by repeat (first | exact trivial | refine ⟨rfl, ?_⟩))), rfl, rfl, rfl, rfl, rfl⟩
 ·refine WpG.fk callT_ok [(3, .int .i64 5)] (fun p hp => by rw [List.mem_singleton.1 hp, hc]; rfl) rfl kept_code kept5 ?_
  exact ⟨_, [], rfl, (hasP_le (by repeat (first | exact trivial | refine ⟨rfl, ?_⟩))), rfl, rfl, rfl, rfl, rfl⟩
 ·refine WpG.fk callT_ok [(3, .int .i64 6)] (fun p hp => by rw [List.mem_singleton.1 hp, hc]; rfl) rfl kept_code kept6 ?_
  exact ⟨_, [], rfl, (hasP_le (by repeat (first | exact trivial | refine ⟨rfl, ?_⟩))), rfl, rfl, rfl, rfl, rfl⟩
 ·refine WpG.fk callT_ok [(3, .int .i64 7)] (fun p hp => by rw [List.mem_singleton.1 hp, hc]; rfl) rfl kept_code kept7 ?_
  exact ⟨_, [], rfl, (hasP_le (by repeat (first | exact trivial | refine ⟨rfl, ?_⟩))), rfl, rfl, rfl, rfl, rfl⟩
 ·refine WpG.fk callT_ok [(3, .int .i64 8)] (fun p hp => by rw [List.mem_singleton.1 hp, hc]; rfl) rfl kept_code kept8 ?_
  exact ⟨_, [], rfl, (hasP_le (by repeat (first | exact trivial | refine ⟨rfl, ?_⟩))), rfl, rfl, rfl, rfl, rfl⟩
 ·refine WpG.fk callT_ok [(3, .int .i64 9)] (fun p hp => by rw [List.mem_singleton.1 hp, hc]; rfl) rfl kept_code kept9 ?_
  exact ⟨_, [], rfl, (hasP_le (by repeat (first | exact trivial | refine ⟨rfl, ?_⟩))), rfl, rfl, rfl, rfl, rfl⟩
 ·refine WpG.fk callT_ok [(3, .int .i64 10)] (fun p hp => by rw [List.mem_singleton.1 hp, hc]; rfl) rfl kept_code kept10 ?_
  exact ⟨_, [], rfl, (hasP_le (by repeat (first | exact trivial | refine ⟨rfl, ?_⟩))), rfl, rfl, rfl, rfl, rfl⟩
end Go.AM.FK
