/- Facts on the types of the loaded program. -/
import Derived.Test.YtiikffiembcboaaProg
import Derived.Test.YtiikffiembcboaaSim14
import Derived.KernelRfl
namespace Go.Proofs.Ytiikffiembcboaa
open Go Sim
theorem sz2 : (Try.prog.info? 2).map (·.size) = some 1 := by kernel_rfl
theorem zr2 : (Try.prog.info? 2).map (·.zero) = some (some (.int .i64 0)) := by kernel_rfl
theorem by2 : (Try.prog.info? 2).map (·.bytes) = some 8 := by kernel_rfl
theorem ag2 : (Try.prog.underlying 2).isSome = true ∧ aggB Try.prog 2 = false := ⟨by rw [Try.underlying2]; rfl, by unfold aggB; rw [Try.underlying2]⟩
theorem sz3 : (Try.prog.info? 3).map (·.size) = some 1 := by kernel_rfl
theorem zr3 : (Try.prog.info? 3).map (·.zero) = some (some (.int .i64 0)) := by kernel_rfl
theorem by3 : (Try.prog.info? 3).map (·.bytes) = some 8 := by kernel_rfl
theorem ag3 : (Try.prog.underlying 3).isSome = true ∧ aggB Try.prog 3 = false := ⟨by rw [Try.underlying3]; rfl, by unfold aggB; rw [Try.underlying3]⟩
theorem sz5 : (Try.prog.info? 5).map (·.size) = some 1 := by kernel_rfl
theorem zr5 : (Try.prog.info? 5).map (·.zero) = some (some (.int .u8 0)) := by kernel_rfl
theorem by5 : (Try.prog.info? 5).map (·.bytes) = some 1 := by kernel_rfl
theorem ag5 : (Try.prog.underlying 5).isSome = true ∧ aggB Try.prog 5 = false := ⟨by rw [Try.underlying5]; rfl, by unfold aggB; rw [Try.underlying5]⟩
theorem sz6 : (Try.prog.info? 6).map (·.size) = some 1 := by kernel_rfl
theorem zr6 : (Try.prog.info? 6).map (·.zero) = some (some (.int .u8 0)) := by kernel_rfl
theorem by6 : (Try.prog.info? 6).map (·.bytes) = some 1 := by kernel_rfl
theorem ag6 : (Try.prog.underlying 6).isSome = true ∧ aggB Try.prog 6 = false := ⟨by rw [Try.underlying6]; rfl, by unfold aggB; rw [Try.underlying6]⟩
theorem sz12 : (Try.prog.info? 12).map (·.size) = some 1 := by kernel_rfl
theorem zr12 : (Try.prog.info? 12).map (·.zero) = some (some (.int .u64 0)) := by kernel_rfl
theorem by12 : (Try.prog.info? 12).map (·.bytes) = some 8 := by kernel_rfl
theorem ag12 : (Try.prog.underlying 12).isSome = true ∧ aggB Try.prog 12 = false := ⟨by rw [Try.underlying12]; rfl, by unfold aggB; rw [Try.underlying12]⟩
theorem sz21 : (Try.prog.info? 21).map (·.size) = some 1 := by kernel_rfl
theorem zr21 : (Try.prog.info? 21).map (·.zero) = some (some (.int .i32 0)) := by kernel_rfl
theorem by21 : (Try.prog.info? 21).map (·.bytes) = some 4 := by kernel_rfl
theorem ag21 : (Try.prog.underlying 21).isSome = true ∧ aggB Try.prog 21 = false := ⟨by rw [Try.underlying21]; rfl, by unfold aggB; rw [Try.underlying21]⟩
theorem sz26 : (Try.prog.info? 26).map (·.size) = some 1 := by kernel_rfl
theorem zr26 : (Try.prog.info? 26).map (·.zero) = some (some (.int .i64 0)) := by kernel_rfl
theorem by26 : (Try.prog.info? 26).map (·.bytes) = some 8 := by kernel_rfl
theorem ag26 : (Try.prog.underlying 26).isSome = true ∧ aggB Try.prog 26 = false := ⟨by rw [Try.underlying26]; rfl, by unfold aggB; rw [Try.underlying26]⟩
theorem sz33 : (Try.prog.info? 33).map (·.size) = some 1 := by kernel_rfl
theorem zr33 : (Try.prog.info? 33).map (·.zero) = some (some (.int .u64 0)) := by kernel_rfl
theorem by33 : (Try.prog.info? 33).map (·.bytes) = some 8 := by kernel_rfl
theorem ag33 : (Try.prog.underlying 33).isSome = true ∧ aggB Try.prog 33 = false := ⟨by rw [Try.underlying33]; rfl, by unfold aggB; rw [Try.underlying33]⟩
theorem sz38 : (Try.prog.info? 38).map (·.size) = some 1 := by kernel_rfl
theorem zr38 : (Try.prog.info? 38).map (·.zero) = some (some (.int .u64 0)) := by kernel_rfl
theorem by38 : (Try.prog.info? 38).map (·.bytes) = some 8 := by kernel_rfl
theorem ag38 : (Try.prog.underlying 38).isSome = true ∧ aggB Try.prog 38 = false := ⟨by rw [Try.underlying38]; rfl, by unfold aggB; rw [Try.underlying38]⟩
theorem sz73 : (Try.prog.info? 73).map (·.size) = some 1 := by kernel_rfl
theorem zr73 : (Try.prog.info? 73).map (·.zero) = some (some (.int .u16 0)) := by kernel_rfl
theorem by73 : (Try.prog.info? 73).map (·.bytes) = some 2 := by kernel_rfl
theorem ag73 : (Try.prog.underlying 73).isSome = true ∧ aggB Try.prog 73 = false := ⟨by rw [Try.underlying73]; rfl, by unfold aggB; rw [Try.underlying73]⟩
theorem sz181 : (Try.prog.info? 181).map (·.size) = some 1 := by kernel_rfl
theorem zr181 : (Try.prog.info? 181).map (·.zero) = some (some (.int .u32 0)) := by kernel_rfl
theorem by181 : (Try.prog.info? 181).map (·.bytes) = some 4 := by kernel_rfl
theorem ag181 : (Try.prog.underlying 181).isSome = true ∧ aggB Try.prog 181 = false := ⟨by rw [Try.underlying181]; rfl, by unfold aggB; rw [Try.underlying181]⟩
theorem sz182 : (Try.prog.info? 182).map (·.size) = some 1 := by kernel_rfl
theorem zr182 : (Try.prog.info? 182).map (·.zero) = some (some (.int .u8 0)) := by kernel_rfl
theorem by182 : (Try.prog.info? 182).map (·.bytes) = some 1 := by kernel_rfl
theorem ag182 : (Try.prog.underlying 182).isSome = true ∧ aggB Try.prog 182 = false := ⟨by rw [Try.underlying182]; rfl, by unfold aggB; rw [Try.underlying182]⟩
theorem sz183 : (Try.prog.info? 183).map (·.size) = some 1 := by kernel_rfl
theorem zr183 : (Try.prog.info? 183).map (·.zero) = some (some (.int .u8 0)) := by kernel_rfl
theorem by183 : (Try.prog.info? 183).map (·.bytes) = some 1 := by kernel_rfl
theorem ag183 : (Try.prog.underlying 183).isSome = true ∧ aggB Try.prog 183 = false := ⟨by rw [Try.underlying183]; rfl, by unfold aggB; rw [Try.underlying183]⟩
theorem sz186 : (Try.prog.info? 186).map (·.size) = some 1 := by kernel_rfl
theorem zr186 : (Try.prog.info? 186).map (·.zero) = some (some (.int .i32 0)) := by kernel_rfl
theorem by186 : (Try.prog.info? 186).map (·.bytes) = some 4 := by kernel_rfl
theorem ag186 : (Try.prog.underlying 186).isSome = true ∧ aggB Try.prog 186 = false := ⟨by rw [Try.underlying186]; rfl, by unfold aggB; rw [Try.underlying186]⟩
theorem sz187 : (Try.prog.info? 187).map (·.size) = some 1 := by kernel_rfl
theorem zr187 : (Try.prog.info? 187).map (·.zero) = some (some (.int .i32 0)) := by kernel_rfl
theorem by187 : (Try.prog.info? 187).map (·.bytes) = some 4 := by kernel_rfl
theorem ag187 : (Try.prog.underlying 187).isSome = true ∧ aggB Try.prog 187 = false := ⟨by rw [Try.underlying187]; rfl, by unfold aggB; rw [Try.underlying187]⟩
theorem sz4 : (Try.prog.info? 4).map (·.size) = some 1 := by kernel_rfl
theorem zr4 : (Try.prog.info? 4).map (·.zero) = some (some (.bool false)) := by kernel_rfl
theorem by4 : (Try.prog.info? 4).map (·.bytes) = some 1 := by kernel_rfl
theorem ag4 : (Try.prog.underlying 4).isSome = true ∧ aggB Try.prog 4 = false := ⟨by rw [Try.underlying4]; rfl, by unfold aggB; rw [Try.underlying4]⟩
theorem sz23 : (Try.prog.info? 23).map (·.size) = some 1 := by kernel_rfl
theorem zr23 : (Try.prog.info? 23).map (·.zero) = some (some (.slice none 0 0)) := by kernel_rfl
theorem by23 : (Try.prog.info? 23).map (·.bytes) = some 24 := by kernel_rfl
theorem ag23 : (Try.prog.underlying 23).isSome = true ∧ aggB Try.prog 23 = false := ⟨by rw [Try.underlying23]; rfl, by unfold aggB; rw [Try.underlying23]⟩
theorem sz43 : (Try.prog.info? 43).map (·.size) = some 1 := by kernel_rfl
theorem zr43 : (Try.prog.info? 43).map (·.zero) = some (some (.slice none 0 0)) := by kernel_rfl
theorem by43 : (Try.prog.info? 43).map (·.bytes) = some 24 := by kernel_rfl
theorem ag43 : (Try.prog.underlying 43).isSome = true ∧ aggB Try.prog 43 = false := ⟨by rw [Try.underlying43]; rfl, by unfold aggB; rw [Try.underlying43]⟩
theorem sz45 : (Try.prog.info? 45).map (·.size) = some 1 := by kernel_rfl
theorem zr45 : (Try.prog.info? 45).map (·.zero) = some (some (.slice none 0 0)) := by kernel_rfl
theorem by45 : (Try.prog.info? 45).map (·.bytes) = some 24 := by kernel_rfl
theorem ag45 : (Try.prog.underlying 45).isSome = true ∧ aggB Try.prog 45 = false := ⟨by rw [Try.underlying45]; rfl, by unfold aggB; rw [Try.underlying45]⟩
theorem sz47 : (Try.prog.info? 47).map (·.size) = some 1 := by kernel_rfl
theorem zr47 : (Try.prog.info? 47).map (·.zero) = some (some (.slice none 0 0)) := by kernel_rfl
theorem by47 : (Try.prog.info? 47).map (·.bytes) = some 24 := by kernel_rfl
theorem ag47 : (Try.prog.underlying 47).isSome = true ∧ aggB Try.prog 47 = false := ⟨by rw [Try.underlying47]; rfl, by unfold aggB; rw [Try.underlying47]⟩
theorem sz58 : (Try.prog.info? 58).map (·.size) = some 1 := by kernel_rfl
theorem zr58 : (Try.prog.info? 58).map (·.zero) = some (some (.slice none 0 0)) := by kernel_rfl
theorem by58 : (Try.prog.info? 58).map (·.bytes) = some 24 := by kernel_rfl
theorem ag58 : (Try.prog.underlying 58).isSome = true ∧ aggB Try.prog 58 = false := ⟨by rw [Try.underlying58]; rfl, by unfold aggB; rw [Try.underlying58]⟩
theorem sz66 : (Try.prog.info? 66).map (·.size) = some 1 := by kernel_rfl
theorem zr66 : (Try.prog.info? 66).map (·.zero) = some (some (.slice none 0 0)) := by kernel_rfl
theorem by66 : (Try.prog.info? 66).map (·.bytes) = some 24 := by kernel_rfl
theorem ag66 : (Try.prog.underlying 66).isSome = true ∧ aggB Try.prog 66 = false := ⟨by rw [Try.underlying66]; rfl, by unfold aggB; rw [Try.underlying66]⟩
theorem sz69 : (Try.prog.info? 69).map (·.size) = some 1 := by kernel_rfl
theorem zr69 : (Try.prog.info? 69).map (·.zero) = some (some (.slice none 0 0)) := by kernel_rfl
theorem by69 : (Try.prog.info? 69).map (·.bytes) = some 24 := by kernel_rfl
theorem ag69 : (Try.prog.underlying 69).isSome = true ∧ aggB Try.prog 69 = false := ⟨by rw [Try.underlying69]; rfl, by unfold aggB; rw [Try.underlying69]⟩
theorem sz96 : (Try.prog.info? 96).map (·.size) = some 1 := by kernel_rfl
theorem zr96 : (Try.prog.info? 96).map (·.zero) = some (some (.slice none 0 0)) := by kernel_rfl
theorem by96 : (Try.prog.info? 96).map (·.bytes) = some 24 := by kernel_rfl
theorem ag96 : (Try.prog.underlying 96).isSome = true ∧ aggB Try.prog 96 = false := ⟨by rw [Try.underlying96]; rfl, by unfold aggB; rw [Try.underlying96]⟩
theorem sz99 : (Try.prog.info? 99).map (·.size) = some 1 := by kernel_rfl
theorem zr99 : (Try.prog.info? 99).map (·.zero) = some (some (.slice none 0 0)) := by kernel_rfl
theorem by99 : (Try.prog.info? 99).map (·.bytes) = some 24 := by kernel_rfl
theorem ag99 : (Try.prog.underlying 99).isSome = true ∧ aggB Try.prog 99 = false := ⟨by rw [Try.underlying99]; rfl, by unfold aggB; rw [Try.underlying99]⟩
theorem sz106 : (Try.prog.info? 106).map (·.size) = some 1 := by kernel_rfl
theorem zr106 : (Try.prog.info? 106).map (·.zero) = some (some (.slice none 0 0)) := by kernel_rfl
theorem by106 : (Try.prog.info? 106).map (·.bytes) = some 24 := by kernel_rfl
theorem ag106 : (Try.prog.underlying 106).isSome = true ∧ aggB Try.prog 106 = false := ⟨by rw [Try.underlying106]; rfl, by unfold aggB; rw [Try.underlying106]⟩
theorem sz132 : (Try.prog.info? 132).map (·.size) = some 1 := by kernel_rfl
theorem zr132 : (Try.prog.info? 132).map (·.zero) = some (some (.slice none 0 0)) := by kernel_rfl
theorem by132 : (Try.prog.info? 132).map (·.bytes) = some 24 := by kernel_rfl
theorem ag132 : (Try.prog.underlying 132).isSome = true ∧ aggB Try.prog 132 = false := ⟨by rw [Try.underlying132]; rfl, by unfold aggB; rw [Try.underlying132]⟩
theorem sz147 : (Try.prog.info? 147).map (·.size) = some 1 := by kernel_rfl
theorem zr147 : (Try.prog.info? 147).map (·.zero) = some (some (.slice none 0 0)) := by kernel_rfl
theorem by147 : (Try.prog.info? 147).map (·.bytes) = some 24 := by kernel_rfl
theorem ag147 : (Try.prog.underlying 147).isSome = true ∧ aggB Try.prog 147 = false := ⟨by rw [Try.underlying147]; rfl, by unfold aggB; rw [Try.underlying147]⟩
theorem sz173 : (Try.prog.info? 173).map (·.size) = some 1 := by kernel_rfl
theorem zr173 : (Try.prog.info? 173).map (·.zero) = some (some (.slice none 0 0)) := by kernel_rfl
theorem by173 : (Try.prog.info? 173).map (·.bytes) = some 24 := by kernel_rfl
theorem ag173 : (Try.prog.underlying 173).isSome = true ∧ aggB Try.prog 173 = false := ⟨by rw [Try.underlying173]; rfl, by unfold aggB; rw [Try.underlying173]⟩
theorem sz22 : (Try.prog.info? 22).map (·.size) = some 4 := by kernel_rfl
theorem zr22 : (Try.prog.info? 22).map (·.zero) = some (some (.agg #[.int .i64 0, .int .i64 0, .int .i64 0, .int .i64 0])) := by kernel_rfl
theorem by22 : (Try.prog.info? 22).map (·.bytes) = some 32 := by kernel_rfl
theorem ag22 : (Try.prog.underlying 22).isSome = true ∧ aggB Try.prog 22 = true := ⟨by rw [Try.underlying22]; rfl, by unfold aggB; rw [Try.underlying22]⟩
theorem sz29 : (Try.prog.info? 29).map (·.size) = some 80 := by kernel_rfl
theorem zr29 : (Try.prog.info? 29).map (·.zero) = some (some (.agg (List.replicate 80 (.bool false)).toArray)) := by kernel_rfl
theorem by29 : (Try.prog.info? 29).map (·.bytes) = some 80 := by kernel_rfl
theorem ag29 : (Try.prog.underlying 29).isSome = true ∧ aggB Try.prog 29 = true := ⟨by rw [Try.underlying29]; rfl, by unfold aggB; rw [Try.underlying29]⟩
theorem sz30 : (Try.prog.info? 30).map (·.size) = some 80 := by kernel_rfl
theorem zr30 : (Try.prog.info? 30).map (·.zero) = some (some (.agg (List.replicate 80 (.bool false)).toArray)) := by kernel_rfl
theorem by30 : (Try.prog.info? 30).map (·.bytes) = some 80 := by kernel_rfl
theorem ag30 : (Try.prog.underlying 30).isSome = true ∧ aggB Try.prog 30 = true := ⟨by rw [Try.underlying30]; rfl, by unfold aggB; rw [Try.underlying30]⟩
theorem sz40 : (Try.prog.info? 40).map (·.size) = some 32 := by kernel_rfl
theorem zr40 : (Try.prog.info? 40).map (·.zero) = some (some (.agg (List.replicate 32 (.int .u8 0)).toArray)) := by kernel_rfl
theorem by40 : (Try.prog.info? 40).map (·.bytes) = some 32 := by kernel_rfl
theorem ag40 : (Try.prog.underlying 40).isSome = true ∧ aggB Try.prog 40 = true := ⟨by rw [Try.underlying40]; rfl, by unfold aggB; rw [Try.underlying40]⟩
theorem sz41 : (Try.prog.info? 41).map (·.size) = some 32 := by kernel_rfl
theorem zr41 : (Try.prog.info? 41).map (·.zero) = some (some (.agg (List.replicate 32 (.int .u8 0)).toArray)) := by kernel_rfl
theorem by41 : (Try.prog.info? 41).map (·.bytes) = some 32 := by kernel_rfl
theorem ag41 : (Try.prog.underlying 41).isSome = true ∧ aggB Try.prog 41 = true := ⟨by rw [Try.underlying41]; rfl, by unfold aggB; rw [Try.underlying41]⟩
theorem sz48 : (Try.prog.info? 48).map (·.size) = some 4 := by kernel_rfl
theorem zr48 : (Try.prog.info? 48).map (·.zero) = some (some (.agg #[.int .u64 0, .int .u64 0, .int .u64 0, .int .u64 0])) := by kernel_rfl
theorem by48 : (Try.prog.info? 48).map (·.bytes) = some 32 := by kernel_rfl
theorem ag48 : (Try.prog.underlying 48).isSome = true ∧ aggB Try.prog 48 = true := ⟨by rw [Try.underlying48]; rfl, by unfold aggB; rw [Try.underlying48]⟩
theorem sz145 : (Try.prog.info? 145).map (·.size) = some 9 := by kernel_rfl
theorem zr145 : (Try.prog.info? 145).map (·.zero) = some (some (.agg (List.replicate 9 (.slice none 0 0)).toArray)) := by kernel_rfl
theorem by145 : (Try.prog.info? 145).map (·.bytes) = some 216 := by kernel_rfl
theorem ag145 : (Try.prog.underlying 145).isSome = true ∧ aggB Try.prog 145 = true := ⟨by rw [Try.underlying145]; rfl, by unfold aggB; rw [Try.underlying145]⟩
theorem sz157 : (Try.prog.info? 157).map (·.size) = some 9 := by kernel_rfl
theorem zr157 : (Try.prog.info? 157).map (·.zero) = some (some (.agg (List.replicate 9 (.int .u64 0)).toArray)) := by kernel_rfl
theorem by157 : (Try.prog.info? 157).map (·.bytes) = some 72 := by kernel_rfl
theorem ag157 : (Try.prog.underlying 157).isSome = true ∧ aggB Try.prog 157 = true := ⟨by rw [Try.underlying157]; rfl, by unfold aggB; rw [Try.underlying157]⟩
theorem sz158 : (Try.prog.info? 158).map (·.size) = some 9 := by kernel_rfl
theorem zr158 : (Try.prog.info? 158).map (·.zero) = some (some (.agg (List.replicate 9 (.int .u64 0)).toArray)) := by kernel_rfl
theorem by158 : (Try.prog.info? 158).map (·.bytes) = some 72 := by kernel_rfl
theorem ag158 : (Try.prog.underlying 158).isSome = true ∧ aggB Try.prog 158 = true := ⟨by rw [Try.underlying158]; rfl, by unfold aggB; rw [Try.underlying158]⟩
theorem sz160 : (Try.prog.info? 160).map (·.size) = some 81 := by kernel_rfl
theorem zr160 : (Try.prog.info? 160).map (·.zero) = some (some (.agg (List.replicate 81 (.int .u64 0)).toArray)) := by kernel_rfl
theorem by160 : (Try.prog.info? 160).map (·.bytes) = some 648 := by kernel_rfl
theorem ag160 : (Try.prog.underlying 160).isSome = true ∧ aggB Try.prog 160 = true := ⟨by rw [Try.underlying160]; rfl, by unfold aggB; rw [Try.underlying160]⟩
theorem sz172 : (Try.prog.info? 172).map (·.size) = some 5 := by kernel_rfl
theorem zr172 : (Try.prog.info? 172).map (·.zero) = some (some (.agg (List.replicate 5 (.int .u64 0)).toArray)) := by kernel_rfl
theorem by172 : (Try.prog.info? 172).map (·.bytes) = some 40 := by kernel_rfl
theorem ag172 : (Try.prog.underlying 172).isSome = true ∧ aggB Try.prog 172 = true := ⟨by rw [Try.underlying172]; rfl, by unfold aggB; rw [Try.underlying172]⟩
theorem sz178 : (Try.prog.info? 178).map (·.size) = some 0 := by kernel_rfl
theorem zr178 : (Try.prog.info? 178).map (·.zero) = some (some (.agg #[])) := by kernel_rfl
theorem by178 : (Try.prog.info? 178).map (·.bytes) = some 0 := by kernel_rfl
theorem ag178 : (Try.prog.underlying 178).isSome = true ∧ aggB Try.prog 178 = true := ⟨by rw [Try.underlying178]; rfl, by unfold aggB; rw [Try.underlying178]⟩
theorem sz7 : (Try.prog.info? 7).map (·.size) = some 4 := by kernel_rfl
theorem zr7 : (Try.prog.info? 7).map (·.zero) = some (some (.agg #[.int .i64 0, .int .i64 0, .bool false, .int .u8 0])) := by kernel_rfl
theorem by7 : (Try.prog.info? 7).map (·.bytes) = some 24 := by kernel_rfl
theorem ag7 : (Try.prog.underlying 7).isSome = true ∧ aggB Try.prog 7 = true := ⟨by rw [Try.underlying7]; rfl, by unfold aggB; rw [Try.underlying7]⟩
theorem sz8 : (Try.prog.info? 8).map (·.size) = some 4 := by kernel_rfl
theorem zr8 : (Try.prog.info? 8).map (·.zero) = some (some (.agg #[.int .i64 0, .int .i64 0, .bool false, .int .u8 0])) := by kernel_rfl
theorem by8 : (Try.prog.info? 8).map (·.bytes) = some 24 := by kernel_rfl
theorem ag8 : (Try.prog.underlying 8).isSome = true ∧ aggB Try.prog 8 = true := ⟨by rw [Try.underlying8]; rfl, by unfold aggB; rw [Try.underlying8]⟩
theorem sz13 : (Try.prog.info? 13).map (·.size) = some 2 := by kernel_rfl
theorem zr13 : (Try.prog.info? 13).map (·.zero) = some (some (.agg #[.string .empty, .int .u64 0])) := by kernel_rfl
theorem by13 : (Try.prog.info? 13).map (·.bytes) = some 24 := by kernel_rfl
theorem ag13 : (Try.prog.underlying 13).isSome = true ∧ aggB Try.prog 13 = true := ⟨by rw [Try.underlying13]; rfl, by unfold aggB; rw [Try.underlying13]⟩
theorem sz14 : (Try.prog.info? 14).map (·.size) = some 2 := by kernel_rfl
theorem zr14 : (Try.prog.info? 14).map (·.zero) = some (some (.agg #[.string .empty, .int .u64 0])) := by kernel_rfl
theorem by14 : (Try.prog.info? 14).map (·.bytes) = some 24 := by kernel_rfl
theorem ag14 : (Try.prog.underlying 14).isSome = true ∧ aggB Try.prog 14 = true := ⟨by rw [Try.underlying14]; rfl, by unfold aggB; rw [Try.underlying14]⟩
theorem sz18 : (Try.prog.info? 18).map (·.size) = some 1 := by kernel_rfl
theorem zr18 : (Try.prog.info? 18).map (·.zero) = some (some (.agg #[.pointer none])) := by kernel_rfl
theorem by18 : (Try.prog.info? 18).map (·.bytes) = some 8 := by kernel_rfl
theorem ag18 : (Try.prog.underlying 18).isSome = true ∧ aggB Try.prog 18 = true := ⟨by rw [Try.underlying18]; rfl, by unfold aggB; rw [Try.underlying18]⟩
theorem sz19 : (Try.prog.info? 19).map (·.size) = some 1 := by kernel_rfl
theorem zr19 : (Try.prog.info? 19).map (·.zero) = some (some (.agg #[.pointer none])) := by kernel_rfl
theorem by19 : (Try.prog.info? 19).map (·.bytes) = some 8 := by kernel_rfl
theorem ag19 : (Try.prog.underlying 19).isSome = true ∧ aggB Try.prog 19 = true := ⟨by rw [Try.underlying19]; rfl, by unfold aggB; rw [Try.underlying19]⟩
theorem sz49 : (Try.prog.info? 49).map (·.size) = some 4 := by kernel_rfl
theorem zr49 : (Try.prog.info? 49).map (·.zero) = some (some (.agg #[.int .u64 0, .int .u64 0, .int .u64 0, .int .u64 0])) := by kernel_rfl
theorem by49 : (Try.prog.info? 49).map (·.bytes) = some 32 := by kernel_rfl
theorem ag49 : (Try.prog.underlying 49).isSome = true ∧ aggB Try.prog 49 = true := ⟨by rw [Try.underlying49]; rfl, by unfold aggB; rw [Try.underlying49]⟩
theorem sz50 : (Try.prog.info? 50).map (·.size) = some 4 := by kernel_rfl
theorem zr50 : (Try.prog.info? 50).map (·.zero) = some (some (.agg #[.int .u64 0, .int .u64 0, .int .u64 0, .int .u64 0])) := by kernel_rfl
theorem by50 : (Try.prog.info? 50).map (·.bytes) = some 32 := by kernel_rfl
theorem ag50 : (Try.prog.underlying 50).isSome = true ∧ aggB Try.prog 50 = true := ⟨by rw [Try.underlying50]; rfl, by unfold aggB; rw [Try.underlying50]⟩
theorem sz104 : (Try.prog.info? 104).map (·.size) = some 2 := by kernel_rfl
theorem zr104 : (Try.prog.info? 104).map (·.zero) = some (some (.agg #[.int .i64 0, .int .u64 0])) := by kernel_rfl
theorem by104 : (Try.prog.info? 104).map (·.bytes) = some 16 := by kernel_rfl
theorem ag104 : (Try.prog.underlying 104).isSome = true ∧ aggB Try.prog 104 = true := ⟨by rw [Try.underlying104]; rfl, by unfold aggB; rw [Try.underlying104]⟩
theorem sz105 : (Try.prog.info? 105).map (·.size) = some 2 := by kernel_rfl
theorem zr105 : (Try.prog.info? 105).map (·.zero) = some (some (.agg #[.int .i64 0, .int .u64 0])) := by kernel_rfl
theorem by105 : (Try.prog.info? 105).map (·.bytes) = some 16 := by kernel_rfl
theorem ag105 : (Try.prog.underlying 105).isSome = true ∧ aggB Try.prog 105 = true := ⟨by rw [Try.underlying105]; rfl, by unfold aggB; rw [Try.underlying105]⟩
theorem sz128 : (Try.prog.info? 128).map (·.size) = some 81 := by kernel_rfl
theorem zr128 : (Try.prog.info? 128).map (·.zero) = some (some (.agg #[.bool false, .bool false, .bool false, .bool false, .bool false, .bool false, .bool false, .bool false, .bool false, .bool false, .bool false, .bool false, .bool false, .bool false, .bool false, .bool false, .bool false, .bool false, .bool false, .bool false, .bool false, .bool false, .bool false, .bool false, .bool false, .bool false, .bool false, .bool false, .bool false, .bool false, .bool false, .bool false, .bool false, .bool false, .bool false, .bool false, .bool false, .bool false, .bool false, .bool false, .bool false, .bool false, .bool false, .bool false, .bool false, .bool false, .bool false, .bool false, .bool false, .bool false, .bool false, .bool false, .bool false, .bool false, .bool false, .bool false, .bool false, .bool false, .bool false, .bool false, .bool false, .bool false, .bool false, .bool false, .bool false, .bool false, .bool false, .bool false, .bool false, .bool false, .bool false, .bool false, .bool false, .bool false, .bool false, .bool false, .bool false, .bool false, .bool false, .bool false, .int .i64 0])) := by kernel_rfl
theorem by128 : (Try.prog.info? 128).map (·.bytes) = some 88 := by kernel_rfl
theorem ag128 : (Try.prog.underlying 128).isSome = true ∧ aggB Try.prog 128 = true := ⟨by rw [Try.underlying128]; rfl, by unfold aggB; rw [Try.underlying128]⟩
theorem sz129 : (Try.prog.info? 129).map (·.size) = some 81 := by kernel_rfl
theorem zr129 : (Try.prog.info? 129).map (·.zero) = some (some (.agg #[.bool false, .bool false, .bool false, .bool false, .bool false, .bool false, .bool false, .bool false, .bool false, .bool false, .bool false, .bool false, .bool false, .bool false, .bool false, .bool false, .bool false, .bool false, .bool false, .bool false, .bool false, .bool false, .bool false, .bool false, .bool false, .bool false, .bool false, .bool false, .bool false, .bool false, .bool false, .bool false, .bool false, .bool false, .bool false, .bool false, .bool false, .bool false, .bool false, .bool false, .bool false, .bool false, .bool false, .bool false, .bool false, .bool false, .bool false, .bool false, .bool false, .bool false, .bool false, .bool false, .bool false, .bool false, .bool false, .bool false, .bool false, .bool false, .bool false, .bool false, .bool false, .bool false, .bool false, .bool false, .bool false, .bool false, .bool false, .bool false, .bool false, .bool false, .bool false, .bool false, .bool false, .bool false, .bool false, .bool false, .bool false, .bool false, .bool false, .bool false, .int .i64 0])) := by kernel_rfl
theorem by129 : (Try.prog.info? 129).map (·.bytes) = some 88 := by kernel_rfl
theorem ag129 : (Try.prog.underlying 129).isSome = true ∧ aggB Try.prog 129 = true := ⟨by rw [Try.underlying129]; rfl, by unfold aggB; rw [Try.underlying129]⟩
theorem sz136 : (Try.prog.info? 136).map (·.size) = some 3 := by kernel_rfl
theorem zr136 : (Try.prog.info? 136).map (·.zero) = some (some (.agg #[.slice none 0 0, .int .u64 0, .slice none 0 0])) := by kernel_rfl
theorem by136 : (Try.prog.info? 136).map (·.bytes) = some 56 := by kernel_rfl
theorem ag136 : (Try.prog.underlying 136).isSome = true ∧ aggB Try.prog 136 = true := ⟨by rw [Try.underlying136]; rfl, by unfold aggB; rw [Try.underlying136]⟩
theorem sz137 : (Try.prog.info? 137).map (·.size) = some 3 := by kernel_rfl
theorem zr137 : (Try.prog.info? 137).map (·.zero) = some (some (.agg #[.slice none 0 0, .int .u64 0, .slice none 0 0])) := by kernel_rfl
theorem by137 : (Try.prog.info? 137).map (·.bytes) = some 56 := by kernel_rfl
theorem ag137 : (Try.prog.underlying 137).isSome = true ∧ aggB Try.prog 137 = true := ⟨by rw [Try.underlying137]; rfl, by unfold aggB; rw [Try.underlying137]⟩
theorem sz146 : (Try.prog.info? 146).map (·.size) = some 2 := by kernel_rfl
theorem zr146 : (Try.prog.info? 146).map (·.zero) = some (some (.agg #[.int .i64 0, .int .u64 0])) := by kernel_rfl
theorem by146 : (Try.prog.info? 146).map (·.bytes) = some 16 := by kernel_rfl
theorem ag146 : (Try.prog.underlying 146).isSome = true ∧ aggB Try.prog 146 = true := ⟨by rw [Try.underlying146]; rfl, by unfold aggB; rw [Try.underlying146]⟩
theorem sz176 : (Try.prog.info? 176).map (·.size) = some 4 := by kernel_rfl
theorem zr176 : (Try.prog.info? 176).map (·.zero) = some (some (.agg #[.pointer none, .pointer none, .pointer none, .string .empty])) := by kernel_rfl
theorem by176 : (Try.prog.info? 176).map (·.bytes) = some 40 := by kernel_rfl
theorem ag176 : (Try.prog.underlying 176).isSome = true ∧ aggB Try.prog 176 = true := ⟨by rw [Try.underlying176]; rfl, by unfold aggB; rw [Try.underlying176]⟩
theorem sz177 : (Try.prog.info? 177).map (·.size) = some 4 := by kernel_rfl
theorem zr177 : (Try.prog.info? 177).map (·.zero) = some (some (.agg #[.pointer none, .pointer none, .pointer none, .string .empty])) := by kernel_rfl
theorem by177 : (Try.prog.info? 177).map (·.bytes) = some 40 := by kernel_rfl
theorem ag177 : (Try.prog.underlying 177).isSome = true ∧ aggB Try.prog 177 = true := ⟨by rw [Try.underlying177]; rfl, by unfold aggB; rw [Try.underlying177]⟩
theorem sz179 : (Try.prog.info? 179).map (·.size) = some 0 := by kernel_rfl
theorem zr179 : (Try.prog.info? 179).map (·.zero) = some (some (.agg #[])) := by kernel_rfl
theorem by179 : (Try.prog.info? 179).map (·.bytes) = some 0 := by kernel_rfl
theorem ag179 : (Try.prog.underlying 179).isSome = true ∧ aggB Try.prog 179 = true := ⟨by rw [Try.underlying179]; rfl, by unfold aggB; rw [Try.underlying179]⟩
theorem sz180 : (Try.prog.info? 180).map (·.size) = some 0 := by kernel_rfl
theorem zr180 : (Try.prog.info? 180).map (·.zero) = some (some (.agg #[])) := by kernel_rfl
theorem by180 : (Try.prog.info? 180).map (·.bytes) = some 0 := by kernel_rfl
theorem ag180 : (Try.prog.underlying 180).isSome = true ∧ aggB Try.prog 180 = true := ⟨by rw [Try.underlying180]; rfl, by unfold aggB; rw [Try.underlying180]⟩
theorem sz188 : (Try.prog.info? 188).map (·.size) = some 11 := by kernel_rfl
theorem zr188 : (Try.prog.info? 188).map (·.zero) = some (some (.agg #[.int .u64 0, .int .u64 0, .int .u32 0, .int .u8 0, .int .u8 0, .int .u8 0, .int .u8 0, .nilFunc, .pointer none, .int .i32 0, .int .i32 0])) := by kernel_rfl
theorem by188 : (Try.prog.info? 188).map (·.bytes) = some 48 := by kernel_rfl
theorem ag188 : (Try.prog.underlying 188).isSome = true ∧ aggB Try.prog 188 = true := ⟨by rw [Try.underlying188]; rfl, by unfold aggB; rw [Try.underlying188]⟩
theorem sz189 : (Try.prog.info? 189).map (·.size) = some 11 := by kernel_rfl
theorem zr189 : (Try.prog.info? 189).map (·.zero) = some (some (.agg #[.int .u64 0, .int .u64 0, .int .u32 0, .int .u8 0, .int .u8 0, .int .u8 0, .int .u8 0, .nilFunc, .pointer none, .int .i32 0, .int .i32 0])) := by kernel_rfl
theorem by189 : (Try.prog.info? 189).map (·.bytes) = some 48 := by kernel_rfl
theorem ag189 : (Try.prog.underlying 189).isSome = true ∧ aggB Try.prog 189 = true := ⟨by rw [Try.underlying189]; rfl, by unfold aggB; rw [Try.underlying189]⟩
theorem sz1 : (Try.prog.info? 1).map (·.size) = some 1 := by kernel_rfl
theorem zr1 : (Try.prog.info? 1).map (·.zero) = some (some (.nilFunc)) := by kernel_rfl
theorem by1 : (Try.prog.info? 1).map (·.bytes) = some 8 := by kernel_rfl
theorem ag1 : (Try.prog.underlying 1).isSome = true ∧ aggB Try.prog 1 = false := ⟨by rw [Try.underlying1]; rfl, by unfold aggB; rw [Try.underlying1]⟩
theorem sz9 : (Try.prog.info? 9).map (·.size) = some 1 := by kernel_rfl
theorem zr9 : (Try.prog.info? 9).map (·.zero) = some (some (.string .empty)) := by kernel_rfl
theorem by9 : (Try.prog.info? 9).map (·.bytes) = some 16 := by kernel_rfl
theorem ag9 : (Try.prog.underlying 9).isSome = true ∧ aggB Try.prog 9 = false := ⟨by rw [Try.underlying9]; rfl, by unfold aggB; rw [Try.underlying9]⟩
theorem sz10 : (Try.prog.info? 10).map (·.size) = some 1 := by kernel_rfl
theorem zr10 : (Try.prog.info? 10).map (·.zero) = some (some (.string .empty)) := by kernel_rfl
theorem by10 : (Try.prog.info? 10).map (·.bytes) = some 16 := by kernel_rfl
theorem ag10 : (Try.prog.underlying 10).isSome = true ∧ aggB Try.prog 10 = false := ⟨by rw [Try.underlying10]; rfl, by unfold aggB; rw [Try.underlying10]⟩
theorem sz11 : (Try.prog.info? 11).map (·.size) = some 1 := by kernel_rfl
theorem zr11 : (Try.prog.info? 11).map (·.zero) = some (some (.string .empty)) := by kernel_rfl
theorem by11 : (Try.prog.info? 11).map (·.bytes) = some 16 := by kernel_rfl
theorem ag11 : (Try.prog.underlying 11).isSome = true ∧ aggB Try.prog 11 = false := ⟨by rw [Try.underlying11]; rfl, by unfold aggB; rw [Try.underlying11]⟩
theorem sz15 : (Try.prog.info? 15).map (·.size) = some 1 := by kernel_rfl
theorem zr15 : (Try.prog.info? 15).map (·.zero) = some (some (.pointer none)) := by kernel_rfl
theorem by15 : (Try.prog.info? 15).map (·.bytes) = some 8 := by kernel_rfl
theorem ag15 : (Try.prog.underlying 15).isSome = true ∧ aggB Try.prog 15 = false := ⟨by rw [Try.underlying15]; rfl, by unfold aggB; rw [Try.underlying15]⟩
theorem sz16 : (Try.prog.info? 16).map (·.size) = some 1 := by kernel_rfl
theorem zr16 : (Try.prog.info? 16).map (·.zero) = some (some (.pointer none)) := by kernel_rfl
theorem by16 : (Try.prog.info? 16).map (·.bytes) = some 8 := by kernel_rfl
theorem ag16 : (Try.prog.underlying 16).isSome = true ∧ aggB Try.prog 16 = false := ⟨by rw [Try.underlying16]; rfl, by unfold aggB; rw [Try.underlying16]⟩
theorem sz17 : (Try.prog.info? 17).map (·.size) = some 1 := by kernel_rfl
theorem zr17 : (Try.prog.info? 17).map (·.zero) = some (some (.pointer none)) := by kernel_rfl
theorem by17 : (Try.prog.info? 17).map (·.bytes) = some 8 := by kernel_rfl
theorem ag17 : (Try.prog.underlying 17).isSome = true ∧ aggB Try.prog 17 = false := ⟨by rw [Try.underlying17]; rfl, by unfold aggB; rw [Try.underlying17]⟩
theorem sz20 : (Try.prog.info? 20).map (·.size) = some 1 := by kernel_rfl
theorem zr20 : (Try.prog.info? 20).map (·.zero) = some (some (.nilIface)) := by kernel_rfl
theorem by20 : (Try.prog.info? 20).map (·.bytes) = some 16 := by kernel_rfl
theorem ag20 : (Try.prog.underlying 20).isSome = true ∧ aggB Try.prog 20 = false := ⟨by rw [Try.underlying20]; rfl, by unfold aggB; rw [Try.underlying20]⟩
theorem sz24 : (Try.prog.info? 24).map (·.size) = some 1 := by kernel_rfl
theorem zr24 : (Try.prog.info? 24).map (·.zero) = some (some (.nilFunc)) := by kernel_rfl
theorem by24 : (Try.prog.info? 24).map (·.bytes) = some 8 := by kernel_rfl
theorem ag24 : (Try.prog.underlying 24).isSome = true ∧ aggB Try.prog 24 = false := ⟨by rw [Try.underlying24]; rfl, by unfold aggB; rw [Try.underlying24]⟩
theorem sz25 : (Try.prog.info? 25).map (·.size) = some 1 := by kernel_rfl
theorem zr25 : (Try.prog.info? 25).map (·.zero) = some (some (.pointer none)) := by kernel_rfl
theorem by25 : (Try.prog.info? 25).map (·.bytes) = some 8 := by kernel_rfl
theorem ag25 : (Try.prog.underlying 25).isSome = true ∧ aggB Try.prog 25 = false := ⟨by rw [Try.underlying25]; rfl, by unfold aggB; rw [Try.underlying25]⟩
theorem sz28 : (Try.prog.info? 28).map (·.size) = some 1 := by kernel_rfl
theorem zr28 : (Try.prog.info? 28).map (·.zero) = some (some (.nilFunc)) := by kernel_rfl
theorem by28 : (Try.prog.info? 28).map (·.bytes) = some 8 := by kernel_rfl
theorem ag28 : (Try.prog.underlying 28).isSome = true ∧ aggB Try.prog 28 = false := ⟨by rw [Try.underlying28]; rfl, by unfold aggB; rw [Try.underlying28]⟩
theorem sz32 : (Try.prog.info? 32).map (·.size) = some 1 := by kernel_rfl
theorem zr32 : (Try.prog.info? 32).map (·.zero) = some (some (.nilFunc)) := by kernel_rfl
theorem by32 : (Try.prog.info? 32).map (·.bytes) = some 8 := by kernel_rfl
theorem ag32 : (Try.prog.underlying 32).isSome = true ∧ aggB Try.prog 32 = false := ⟨by rw [Try.underlying32]; rfl, by unfold aggB; rw [Try.underlying32]⟩
theorem sz35 : (Try.prog.info? 35).map (·.size) = some 1 := by kernel_rfl
theorem zr35 : (Try.prog.info? 35).map (·.zero) = some (some (.nilFunc)) := by kernel_rfl
theorem by35 : (Try.prog.info? 35).map (·.bytes) = some 8 := by kernel_rfl
theorem ag35 : (Try.prog.underlying 35).isSome = true ∧ aggB Try.prog 35 = false := ⟨by rw [Try.underlying35]; rfl, by unfold aggB; rw [Try.underlying35]⟩
theorem sz36 : (Try.prog.info? 36).map (·.size) = some 1 := by kernel_rfl
theorem zr36 : (Try.prog.info? 36).map (·.zero) = some (some (.nilFunc)) := by kernel_rfl
theorem by36 : (Try.prog.info? 36).map (·.bytes) = some 8 := by kernel_rfl
theorem ag36 : (Try.prog.underlying 36).isSome = true ∧ aggB Try.prog 36 = false := ⟨by rw [Try.underlying36]; rfl, by unfold aggB; rw [Try.underlying36]⟩
theorem sz37 : (Try.prog.info? 37).map (·.size) = some 1 := by kernel_rfl
theorem zr37 : (Try.prog.info? 37).map (·.zero) = some (some (.nilFunc)) := by kernel_rfl
theorem by37 : (Try.prog.info? 37).map (·.bytes) = some 8 := by kernel_rfl
theorem ag37 : (Try.prog.underlying 37).isSome = true ∧ aggB Try.prog 37 = false := ⟨by rw [Try.underlying37]; rfl, by unfold aggB; rw [Try.underlying37]⟩
theorem sz39 : (Try.prog.info? 39).map (·.size) = some 1 := by kernel_rfl
theorem zr39 : (Try.prog.info? 39).map (·.zero) = some (some (.nilFunc)) := by kernel_rfl
theorem by39 : (Try.prog.info? 39).map (·.bytes) = some 8 := by kernel_rfl
theorem ag39 : (Try.prog.underlying 39).isSome = true ∧ aggB Try.prog 39 = false := ⟨by rw [Try.underlying39]; rfl, by unfold aggB; rw [Try.underlying39]⟩
theorem sz42 : (Try.prog.info? 42).map (·.size) = some 1 := by kernel_rfl
theorem zr42 : (Try.prog.info? 42).map (·.zero) = some (some (.nilFunc)) := by kernel_rfl
theorem by42 : (Try.prog.info? 42).map (·.bytes) = some 8 := by kernel_rfl
theorem ag42 : (Try.prog.underlying 42).isSome = true ∧ aggB Try.prog 42 = false := ⟨by rw [Try.underlying42]; rfl, by unfold aggB; rw [Try.underlying42]⟩
theorem sz44 : (Try.prog.info? 44).map (·.size) = some 1 := by kernel_rfl
theorem zr44 : (Try.prog.info? 44).map (·.zero) = some (some (.nilFunc)) := by kernel_rfl
theorem by44 : (Try.prog.info? 44).map (·.bytes) = some 8 := by kernel_rfl
theorem ag44 : (Try.prog.underlying 44).isSome = true ∧ aggB Try.prog 44 = false := ⟨by rw [Try.underlying44]; rfl, by unfold aggB; rw [Try.underlying44]⟩
theorem sz46 : (Try.prog.info? 46).map (·.size) = some 1 := by kernel_rfl
theorem zr46 : (Try.prog.info? 46).map (·.zero) = some (some (.nilFunc)) := by kernel_rfl
theorem by46 : (Try.prog.info? 46).map (·.bytes) = some 8 := by kernel_rfl
theorem ag46 : (Try.prog.underlying 46).isSome = true ∧ aggB Try.prog 46 = false := ⟨by rw [Try.underlying46]; rfl, by unfold aggB; rw [Try.underlying46]⟩
theorem sz52 : (Try.prog.info? 52).map (·.size) = some 1 := by kernel_rfl
theorem zr52 : (Try.prog.info? 52).map (·.zero) = some (some (.nilFunc)) := by kernel_rfl
theorem by52 : (Try.prog.info? 52).map (·.bytes) = some 8 := by kernel_rfl
theorem ag52 : (Try.prog.underlying 52).isSome = true ∧ aggB Try.prog 52 = false := ⟨by rw [Try.underlying52]; rfl, by unfold aggB; rw [Try.underlying52]⟩
theorem sz53 : (Try.prog.info? 53).map (·.size) = some 1 := by kernel_rfl
theorem zr53 : (Try.prog.info? 53).map (·.zero) = some (some (.nilFunc)) := by kernel_rfl
theorem by53 : (Try.prog.info? 53).map (·.bytes) = some 8 := by kernel_rfl
theorem ag53 : (Try.prog.underlying 53).isSome = true ∧ aggB Try.prog 53 = false := ⟨by rw [Try.underlying53]; rfl, by unfold aggB; rw [Try.underlying53]⟩
theorem sz54 : (Try.prog.info? 54).map (·.size) = some 1 := by kernel_rfl
theorem zr54 : (Try.prog.info? 54).map (·.zero) = some (some (.nilFunc)) := by kernel_rfl
theorem by54 : (Try.prog.info? 54).map (·.bytes) = some 8 := by kernel_rfl
theorem ag54 : (Try.prog.underlying 54).isSome = true ∧ aggB Try.prog 54 = false := ⟨by rw [Try.underlying54]; rfl, by unfold aggB; rw [Try.underlying54]⟩
theorem sz55 : (Try.prog.info? 55).map (·.size) = some 1 := by kernel_rfl
theorem zr55 : (Try.prog.info? 55).map (·.zero) = some (some (.pointer none)) := by kernel_rfl
theorem by55 : (Try.prog.info? 55).map (·.bytes) = some 8 := by kernel_rfl
theorem ag55 : (Try.prog.underlying 55).isSome = true ∧ aggB Try.prog 55 = false := ⟨by rw [Try.underlying55]; rfl, by unfold aggB; rw [Try.underlying55]⟩
theorem sz56 : (Try.prog.info? 56).map (·.size) = some 1 := by kernel_rfl
theorem zr56 : (Try.prog.info? 56).map (·.zero) = some (some (.nilFunc)) := by kernel_rfl
theorem by56 : (Try.prog.info? 56).map (·.bytes) = some 8 := by kernel_rfl
theorem ag56 : (Try.prog.underlying 56).isSome = true ∧ aggB Try.prog 56 = false := ⟨by rw [Try.underlying56]; rfl, by unfold aggB; rw [Try.underlying56]⟩
theorem sz57 : (Try.prog.info? 57).map (·.size) = some 1 := by kernel_rfl
theorem zr57 : (Try.prog.info? 57).map (·.zero) = some (some (.nilFunc)) := by kernel_rfl
theorem by57 : (Try.prog.info? 57).map (·.bytes) = some 8 := by kernel_rfl
theorem ag57 : (Try.prog.underlying 57).isSome = true ∧ aggB Try.prog 57 = false := ⟨by rw [Try.underlying57]; rfl, by unfold aggB; rw [Try.underlying57]⟩
theorem sz60 : (Try.prog.info? 60).map (·.size) = some 1 := by kernel_rfl
theorem zr60 : (Try.prog.info? 60).map (·.zero) = some (some (.nilFunc)) := by kernel_rfl
theorem by60 : (Try.prog.info? 60).map (·.bytes) = some 8 := by kernel_rfl
theorem ag60 : (Try.prog.underlying 60).isSome = true ∧ aggB Try.prog 60 = false := ⟨by rw [Try.underlying60]; rfl, by unfold aggB; rw [Try.underlying60]⟩
theorem sz61 : (Try.prog.info? 61).map (·.size) = some 1 := by kernel_rfl
theorem zr61 : (Try.prog.info? 61).map (·.zero) = some (some (.nilFunc)) := by kernel_rfl
theorem by61 : (Try.prog.info? 61).map (·.bytes) = some 8 := by kernel_rfl
theorem ag61 : (Try.prog.underlying 61).isSome = true ∧ aggB Try.prog 61 = false := ⟨by rw [Try.underlying61]; rfl, by unfold aggB; rw [Try.underlying61]⟩
theorem sz62 : (Try.prog.info? 62).map (·.size) = some 1 := by kernel_rfl
theorem zr62 : (Try.prog.info? 62).map (·.zero) = some (some (.nilFunc)) := by kernel_rfl
theorem by62 : (Try.prog.info? 62).map (·.bytes) = some 8 := by kernel_rfl
theorem ag62 : (Try.prog.underlying 62).isSome = true ∧ aggB Try.prog 62 = false := ⟨by rw [Try.underlying62]; rfl, by unfold aggB; rw [Try.underlying62]⟩
theorem sz63 : (Try.prog.info? 63).map (·.size) = some 1 := by kernel_rfl
theorem zr63 : (Try.prog.info? 63).map (·.zero) = some (some (.nilFunc)) := by kernel_rfl
theorem by63 : (Try.prog.info? 63).map (·.bytes) = some 8 := by kernel_rfl
theorem ag63 : (Try.prog.underlying 63).isSome = true ∧ aggB Try.prog 63 = false := ⟨by rw [Try.underlying63]; rfl, by unfold aggB; rw [Try.underlying63]⟩
theorem sz65 : (Try.prog.info? 65).map (·.size) = some 1 := by kernel_rfl
theorem zr65 : (Try.prog.info? 65).map (·.zero) = some (some (.nilFunc)) := by kernel_rfl
theorem by65 : (Try.prog.info? 65).map (·.bytes) = some 8 := by kernel_rfl
theorem ag65 : (Try.prog.underlying 65).isSome = true ∧ aggB Try.prog 65 = false := ⟨by rw [Try.underlying65]; rfl, by unfold aggB; rw [Try.underlying65]⟩
theorem sz67 : (Try.prog.info? 67).map (·.size) = some 1 := by kernel_rfl
theorem zr67 : (Try.prog.info? 67).map (·.zero) = some (some (.nilFunc)) := by kernel_rfl
theorem by67 : (Try.prog.info? 67).map (·.bytes) = some 8 := by kernel_rfl
theorem ag67 : (Try.prog.underlying 67).isSome = true ∧ aggB Try.prog 67 = false := ⟨by rw [Try.underlying67]; rfl, by unfold aggB; rw [Try.underlying67]⟩
theorem sz68 : (Try.prog.info? 68).map (·.size) = some 1 := by kernel_rfl
theorem zr68 : (Try.prog.info? 68).map (·.zero) = some (some (.nilFunc)) := by kernel_rfl
theorem by68 : (Try.prog.info? 68).map (·.bytes) = some 8 := by kernel_rfl
theorem ag68 : (Try.prog.underlying 68).isSome = true ∧ aggB Try.prog 68 = false := ⟨by rw [Try.underlying68]; rfl, by unfold aggB; rw [Try.underlying68]⟩
theorem sz71 : (Try.prog.info? 71).map (·.size) = some 1 := by kernel_rfl
theorem zr71 : (Try.prog.info? 71).map (·.zero) = some (some (.nilFunc)) := by kernel_rfl
theorem by71 : (Try.prog.info? 71).map (·.bytes) = some 8 := by kernel_rfl
theorem ag71 : (Try.prog.underlying 71).isSome = true ∧ aggB Try.prog 71 = false := ⟨by rw [Try.underlying71]; rfl, by unfold aggB; rw [Try.underlying71]⟩
theorem sz72 : (Try.prog.info? 72).map (·.size) = some 1 := by kernel_rfl
theorem zr72 : (Try.prog.info? 72).map (·.zero) = some (some (.nilFunc)) := by kernel_rfl
theorem by72 : (Try.prog.info? 72).map (·.bytes) = some 8 := by kernel_rfl
theorem ag72 : (Try.prog.underlying 72).isSome = true ∧ aggB Try.prog 72 = false := ⟨by rw [Try.underlying72]; rfl, by unfold aggB; rw [Try.underlying72]⟩
theorem sz74 : (Try.prog.info? 74).map (·.size) = some 1 := by kernel_rfl
theorem zr74 : (Try.prog.info? 74).map (·.zero) = some (some (.nilFunc)) := by kernel_rfl
theorem by74 : (Try.prog.info? 74).map (·.bytes) = some 8 := by kernel_rfl
theorem ag74 : (Try.prog.underlying 74).isSome = true ∧ aggB Try.prog 74 = false := ⟨by rw [Try.underlying74]; rfl, by unfold aggB; rw [Try.underlying74]⟩
theorem sz75 : (Try.prog.info? 75).map (·.size) = some 1 := by kernel_rfl
theorem zr75 : (Try.prog.info? 75).map (·.zero) = some (some (.nilFunc)) := by kernel_rfl
theorem by75 : (Try.prog.info? 75).map (·.bytes) = some 8 := by kernel_rfl
theorem ag75 : (Try.prog.underlying 75).isSome = true ∧ aggB Try.prog 75 = false := ⟨by rw [Try.underlying75]; rfl, by unfold aggB; rw [Try.underlying75]⟩
theorem sz77 : (Try.prog.info? 77).map (·.size) = some 1 := by kernel_rfl
theorem zr77 : (Try.prog.info? 77).map (·.zero) = some (some (.nilFunc)) := by kernel_rfl
theorem by77 : (Try.prog.info? 77).map (·.bytes) = some 8 := by kernel_rfl
theorem ag77 : (Try.prog.underlying 77).isSome = true ∧ aggB Try.prog 77 = false := ⟨by rw [Try.underlying77]; rfl, by unfold aggB; rw [Try.underlying77]⟩
theorem sz78 : (Try.prog.info? 78).map (·.size) = some 1 := by kernel_rfl
theorem zr78 : (Try.prog.info? 78).map (·.zero) = some (some (.nilFunc)) := by kernel_rfl
theorem by78 : (Try.prog.info? 78).map (·.bytes) = some 8 := by kernel_rfl
theorem ag78 : (Try.prog.underlying 78).isSome = true ∧ aggB Try.prog 78 = false := ⟨by rw [Try.underlying78]; rfl, by unfold aggB; rw [Try.underlying78]⟩
theorem sz79 : (Try.prog.info? 79).map (·.size) = some 1 := by kernel_rfl
theorem zr79 : (Try.prog.info? 79).map (·.zero) = some (some (.nilFunc)) := by kernel_rfl
theorem by79 : (Try.prog.info? 79).map (·.bytes) = some 8 := by kernel_rfl
theorem ag79 : (Try.prog.underlying 79).isSome = true ∧ aggB Try.prog 79 = false := ⟨by rw [Try.underlying79]; rfl, by unfold aggB; rw [Try.underlying79]⟩
theorem sz80 : (Try.prog.info? 80).map (·.size) = some 1 := by kernel_rfl
theorem zr80 : (Try.prog.info? 80).map (·.zero) = some (some (.pointer none)) := by kernel_rfl
theorem by80 : (Try.prog.info? 80).map (·.bytes) = some 8 := by kernel_rfl
theorem ag80 : (Try.prog.underlying 80).isSome = true ∧ aggB Try.prog 80 = false := ⟨by rw [Try.underlying80]; rfl, by unfold aggB; rw [Try.underlying80]⟩
theorem sz82 : (Try.prog.info? 82).map (·.size) = some 1 := by kernel_rfl
theorem zr82 : (Try.prog.info? 82).map (·.zero) = some (some (.nilFunc)) := by kernel_rfl
theorem by82 : (Try.prog.info? 82).map (·.bytes) = some 8 := by kernel_rfl
theorem ag82 : (Try.prog.underlying 82).isSome = true ∧ aggB Try.prog 82 = false := ⟨by rw [Try.underlying82]; rfl, by unfold aggB; rw [Try.underlying82]⟩
theorem sz83 : (Try.prog.info? 83).map (·.size) = some 1 := by kernel_rfl
theorem zr83 : (Try.prog.info? 83).map (·.zero) = some (some (.nilFunc)) := by kernel_rfl
theorem by83 : (Try.prog.info? 83).map (·.bytes) = some 8 := by kernel_rfl
theorem ag83 : (Try.prog.underlying 83).isSome = true ∧ aggB Try.prog 83 = false := ⟨by rw [Try.underlying83]; rfl, by unfold aggB; rw [Try.underlying83]⟩
theorem sz84 : (Try.prog.info? 84).map (·.size) = some 1 := by kernel_rfl
theorem zr84 : (Try.prog.info? 84).map (·.zero) = some (some (.nilFunc)) := by kernel_rfl
theorem by84 : (Try.prog.info? 84).map (·.bytes) = some 8 := by kernel_rfl
theorem ag84 : (Try.prog.underlying 84).isSome = true ∧ aggB Try.prog 84 = false := ⟨by rw [Try.underlying84]; rfl, by unfold aggB; rw [Try.underlying84]⟩
theorem sz85 : (Try.prog.info? 85).map (·.size) = some 1 := by kernel_rfl
theorem zr85 : (Try.prog.info? 85).map (·.zero) = some (some (.nilFunc)) := by kernel_rfl
theorem by85 : (Try.prog.info? 85).map (·.bytes) = some 8 := by kernel_rfl
theorem ag85 : (Try.prog.underlying 85).isSome = true ∧ aggB Try.prog 85 = false := ⟨by rw [Try.underlying85]; rfl, by unfold aggB; rw [Try.underlying85]⟩
theorem sz86 : (Try.prog.info? 86).map (·.size) = some 1 := by kernel_rfl
theorem zr86 : (Try.prog.info? 86).map (·.zero) = some (some (.nilFunc)) := by kernel_rfl
theorem by86 : (Try.prog.info? 86).map (·.bytes) = some 8 := by kernel_rfl
theorem ag86 : (Try.prog.underlying 86).isSome = true ∧ aggB Try.prog 86 = false := ⟨by rw [Try.underlying86]; rfl, by unfold aggB; rw [Try.underlying86]⟩
theorem sz87 : (Try.prog.info? 87).map (·.size) = some 1 := by kernel_rfl
theorem zr87 : (Try.prog.info? 87).map (·.zero) = some (some (.nilFunc)) := by kernel_rfl
theorem by87 : (Try.prog.info? 87).map (·.bytes) = some 8 := by kernel_rfl
theorem ag87 : (Try.prog.underlying 87).isSome = true ∧ aggB Try.prog 87 = false := ⟨by rw [Try.underlying87]; rfl, by unfold aggB; rw [Try.underlying87]⟩
theorem sz88 : (Try.prog.info? 88).map (·.size) = some 1 := by kernel_rfl
theorem zr88 : (Try.prog.info? 88).map (·.zero) = some (some (.nilFunc)) := by kernel_rfl
theorem by88 : (Try.prog.info? 88).map (·.bytes) = some 8 := by kernel_rfl
theorem ag88 : (Try.prog.underlying 88).isSome = true ∧ aggB Try.prog 88 = false := ⟨by rw [Try.underlying88]; rfl, by unfold aggB; rw [Try.underlying88]⟩
theorem sz89 : (Try.prog.info? 89).map (·.size) = some 1 := by kernel_rfl
theorem zr89 : (Try.prog.info? 89).map (·.zero) = some (some (.nilFunc)) := by kernel_rfl
theorem by89 : (Try.prog.info? 89).map (·.bytes) = some 8 := by kernel_rfl
theorem ag89 : (Try.prog.underlying 89).isSome = true ∧ aggB Try.prog 89 = false := ⟨by rw [Try.underlying89]; rfl, by unfold aggB; rw [Try.underlying89]⟩
theorem sz91 : (Try.prog.info? 91).map (·.size) = some 1 := by kernel_rfl
theorem zr91 : (Try.prog.info? 91).map (·.zero) = some (some (.nilFunc)) := by kernel_rfl
theorem by91 : (Try.prog.info? 91).map (·.bytes) = some 8 := by kernel_rfl
theorem ag91 : (Try.prog.underlying 91).isSome = true ∧ aggB Try.prog 91 = false := ⟨by rw [Try.underlying91]; rfl, by unfold aggB; rw [Try.underlying91]⟩
theorem sz92 : (Try.prog.info? 92).map (·.size) = some 1 := by kernel_rfl
theorem zr92 : (Try.prog.info? 92).map (·.zero) = some (some (.nilFunc)) := by kernel_rfl
theorem by92 : (Try.prog.info? 92).map (·.bytes) = some 8 := by kernel_rfl
theorem ag92 : (Try.prog.underlying 92).isSome = true ∧ aggB Try.prog 92 = false := ⟨by rw [Try.underlying92]; rfl, by unfold aggB; rw [Try.underlying92]⟩
theorem sz93 : (Try.prog.info? 93).map (·.size) = some 1 := by kernel_rfl
theorem zr93 : (Try.prog.info? 93).map (·.zero) = some (some (.nilFunc)) := by kernel_rfl
theorem by93 : (Try.prog.info? 93).map (·.bytes) = some 8 := by kernel_rfl
theorem ag93 : (Try.prog.underlying 93).isSome = true ∧ aggB Try.prog 93 = false := ⟨by rw [Try.underlying93]; rfl, by unfold aggB; rw [Try.underlying93]⟩
theorem sz94 : (Try.prog.info? 94).map (·.size) = some 1 := by kernel_rfl
theorem zr94 : (Try.prog.info? 94).map (·.zero) = some (some (.nilFunc)) := by kernel_rfl
theorem by94 : (Try.prog.info? 94).map (·.bytes) = some 8 := by kernel_rfl
theorem ag94 : (Try.prog.underlying 94).isSome = true ∧ aggB Try.prog 94 = false := ⟨by rw [Try.underlying94]; rfl, by unfold aggB; rw [Try.underlying94]⟩
theorem sz95 : (Try.prog.info? 95).map (·.size) = some 1 := by kernel_rfl
theorem zr95 : (Try.prog.info? 95).map (·.zero) = some (some (.nilFunc)) := by kernel_rfl
theorem by95 : (Try.prog.info? 95).map (·.bytes) = some 8 := by kernel_rfl
theorem ag95 : (Try.prog.underlying 95).isSome = true ∧ aggB Try.prog 95 = false := ⟨by rw [Try.underlying95]; rfl, by unfold aggB; rw [Try.underlying95]⟩
theorem sz98 : (Try.prog.info? 98).map (·.size) = some 1 := by kernel_rfl
theorem zr98 : (Try.prog.info? 98).map (·.zero) = some (some (.nilFunc)) := by kernel_rfl
theorem by98 : (Try.prog.info? 98).map (·.bytes) = some 8 := by kernel_rfl
theorem ag98 : (Try.prog.underlying 98).isSome = true ∧ aggB Try.prog 98 = false := ⟨by rw [Try.underlying98]; rfl, by unfold aggB; rw [Try.underlying98]⟩
theorem sz100 : (Try.prog.info? 100).map (·.size) = some 1 := by kernel_rfl
theorem zr100 : (Try.prog.info? 100).map (·.zero) = some (some (.nilFunc)) := by kernel_rfl
theorem by100 : (Try.prog.info? 100).map (·.bytes) = some 8 := by kernel_rfl
theorem ag100 : (Try.prog.underlying 100).isSome = true ∧ aggB Try.prog 100 = false := ⟨by rw [Try.underlying100]; rfl, by unfold aggB; rw [Try.underlying100]⟩
theorem sz101 : (Try.prog.info? 101).map (·.size) = some 1 := by kernel_rfl
theorem zr101 : (Try.prog.info? 101).map (·.zero) = some (some (.nilFunc)) := by kernel_rfl
theorem by101 : (Try.prog.info? 101).map (·.bytes) = some 8 := by kernel_rfl
theorem ag101 : (Try.prog.underlying 101).isSome = true ∧ aggB Try.prog 101 = false := ⟨by rw [Try.underlying101]; rfl, by unfold aggB; rw [Try.underlying101]⟩
theorem sz102 : (Try.prog.info? 102).map (·.size) = some 1 := by kernel_rfl
theorem zr102 : (Try.prog.info? 102).map (·.zero) = some (some (.nilFunc)) := by kernel_rfl
theorem by102 : (Try.prog.info? 102).map (·.bytes) = some 8 := by kernel_rfl
theorem ag102 : (Try.prog.underlying 102).isSome = true ∧ aggB Try.prog 102 = false := ⟨by rw [Try.underlying102]; rfl, by unfold aggB; rw [Try.underlying102]⟩
theorem sz103 : (Try.prog.info? 103).map (·.size) = some 1 := by kernel_rfl
theorem zr103 : (Try.prog.info? 103).map (·.zero) = some (some (.nilFunc)) := by kernel_rfl
theorem by103 : (Try.prog.info? 103).map (·.bytes) = some 8 := by kernel_rfl
theorem ag103 : (Try.prog.underlying 103).isSome = true ∧ aggB Try.prog 103 = false := ⟨by rw [Try.underlying103]; rfl, by unfold aggB; rw [Try.underlying103]⟩
theorem sz107 : (Try.prog.info? 107).map (·.size) = some 1 := by kernel_rfl
theorem zr107 : (Try.prog.info? 107).map (·.zero) = some (some (.nilFunc)) := by kernel_rfl
theorem by107 : (Try.prog.info? 107).map (·.bytes) = some 8 := by kernel_rfl
theorem ag107 : (Try.prog.underlying 107).isSome = true ∧ aggB Try.prog 107 = false := ⟨by rw [Try.underlying107]; rfl, by unfold aggB; rw [Try.underlying107]⟩
theorem sz108 : (Try.prog.info? 108).map (·.size) = some 1 := by kernel_rfl
theorem zr108 : (Try.prog.info? 108).map (·.zero) = some (some (.nilFunc)) := by kernel_rfl
theorem by108 : (Try.prog.info? 108).map (·.bytes) = some 8 := by kernel_rfl
theorem ag108 : (Try.prog.underlying 108).isSome = true ∧ aggB Try.prog 108 = false := ⟨by rw [Try.underlying108]; rfl, by unfold aggB; rw [Try.underlying108]⟩
theorem sz109 : (Try.prog.info? 109).map (·.size) = some 1 := by kernel_rfl
theorem zr109 : (Try.prog.info? 109).map (·.zero) = some (some (.nilFunc)) := by kernel_rfl
theorem by109 : (Try.prog.info? 109).map (·.bytes) = some 8 := by kernel_rfl
theorem ag109 : (Try.prog.underlying 109).isSome = true ∧ aggB Try.prog 109 = false := ⟨by rw [Try.underlying109]; rfl, by unfold aggB; rw [Try.underlying109]⟩
theorem sz110 : (Try.prog.info? 110).map (·.size) = some 1 := by kernel_rfl
theorem zr110 : (Try.prog.info? 110).map (·.zero) = some (some (.nilFunc)) := by kernel_rfl
theorem by110 : (Try.prog.info? 110).map (·.bytes) = some 8 := by kernel_rfl
theorem ag110 : (Try.prog.underlying 110).isSome = true ∧ aggB Try.prog 110 = false := ⟨by rw [Try.underlying110]; rfl, by unfold aggB; rw [Try.underlying110]⟩
theorem sz111 : (Try.prog.info? 111).map (·.size) = some 1 := by kernel_rfl
theorem zr111 : (Try.prog.info? 111).map (·.zero) = some (some (.nilFunc)) := by kernel_rfl
theorem by111 : (Try.prog.info? 111).map (·.bytes) = some 8 := by kernel_rfl
theorem ag111 : (Try.prog.underlying 111).isSome = true ∧ aggB Try.prog 111 = false := ⟨by rw [Try.underlying111]; rfl, by unfold aggB; rw [Try.underlying111]⟩
theorem sz112 : (Try.prog.info? 112).map (·.size) = some 1 := by kernel_rfl
theorem zr112 : (Try.prog.info? 112).map (·.zero) = some (some (.nilFunc)) := by kernel_rfl
theorem by112 : (Try.prog.info? 112).map (·.bytes) = some 8 := by kernel_rfl
theorem ag112 : (Try.prog.underlying 112).isSome = true ∧ aggB Try.prog 112 = false := ⟨by rw [Try.underlying112]; rfl, by unfold aggB; rw [Try.underlying112]⟩
theorem sz113 : (Try.prog.info? 113).map (·.size) = some 1 := by kernel_rfl
theorem zr113 : (Try.prog.info? 113).map (·.zero) = some (some (.nilFunc)) := by kernel_rfl
theorem by113 : (Try.prog.info? 113).map (·.bytes) = some 8 := by kernel_rfl
theorem ag113 : (Try.prog.underlying 113).isSome = true ∧ aggB Try.prog 113 = false := ⟨by rw [Try.underlying113]; rfl, by unfold aggB; rw [Try.underlying113]⟩
theorem sz114 : (Try.prog.info? 114).map (·.size) = some 1 := by kernel_rfl
theorem zr114 : (Try.prog.info? 114).map (·.zero) = some (some (.nilFunc)) := by kernel_rfl
theorem by114 : (Try.prog.info? 114).map (·.bytes) = some 8 := by kernel_rfl
theorem ag114 : (Try.prog.underlying 114).isSome = true ∧ aggB Try.prog 114 = false := ⟨by rw [Try.underlying114]; rfl, by unfold aggB; rw [Try.underlying114]⟩
theorem sz115 : (Try.prog.info? 115).map (·.size) = some 1 := by kernel_rfl
theorem zr115 : (Try.prog.info? 115).map (·.zero) = some (some (.nilFunc)) := by kernel_rfl
theorem by115 : (Try.prog.info? 115).map (·.bytes) = some 8 := by kernel_rfl
theorem ag115 : (Try.prog.underlying 115).isSome = true ∧ aggB Try.prog 115 = false := ⟨by rw [Try.underlying115]; rfl, by unfold aggB; rw [Try.underlying115]⟩
theorem sz116 : (Try.prog.info? 116).map (·.size) = some 1 := by kernel_rfl
theorem zr116 : (Try.prog.info? 116).map (·.zero) = some (some (.nilFunc)) := by kernel_rfl
theorem by116 : (Try.prog.info? 116).map (·.bytes) = some 8 := by kernel_rfl
theorem ag116 : (Try.prog.underlying 116).isSome = true ∧ aggB Try.prog 116 = false := ⟨by rw [Try.underlying116]; rfl, by unfold aggB; rw [Try.underlying116]⟩
theorem sz117 : (Try.prog.info? 117).map (·.size) = some 1 := by kernel_rfl
theorem zr117 : (Try.prog.info? 117).map (·.zero) = some (some (.nilFunc)) := by kernel_rfl
theorem by117 : (Try.prog.info? 117).map (·.bytes) = some 8 := by kernel_rfl
theorem ag117 : (Try.prog.underlying 117).isSome = true ∧ aggB Try.prog 117 = false := ⟨by rw [Try.underlying117]; rfl, by unfold aggB; rw [Try.underlying117]⟩
theorem sz119 : (Try.prog.info? 119).map (·.size) = some 1 := by kernel_rfl
theorem zr119 : (Try.prog.info? 119).map (·.zero) = some (some (.nilFunc)) := by kernel_rfl
theorem by119 : (Try.prog.info? 119).map (·.bytes) = some 8 := by kernel_rfl
theorem ag119 : (Try.prog.underlying 119).isSome = true ∧ aggB Try.prog 119 = false := ⟨by rw [Try.underlying119]; rfl, by unfold aggB; rw [Try.underlying119]⟩
theorem sz121 : (Try.prog.info? 121).map (·.size) = some 1 := by kernel_rfl
theorem zr121 : (Try.prog.info? 121).map (·.zero) = some (some (.nilFunc)) := by kernel_rfl
theorem by121 : (Try.prog.info? 121).map (·.bytes) = some 8 := by kernel_rfl
theorem ag121 : (Try.prog.underlying 121).isSome = true ∧ aggB Try.prog 121 = false := ⟨by rw [Try.underlying121]; rfl, by unfold aggB; rw [Try.underlying121]⟩
theorem sz122 : (Try.prog.info? 122).map (·.size) = some 1 := by kernel_rfl
theorem zr122 : (Try.prog.info? 122).map (·.zero) = some (some (.nilFunc)) := by kernel_rfl
theorem by122 : (Try.prog.info? 122).map (·.bytes) = some 8 := by kernel_rfl
theorem ag122 : (Try.prog.underlying 122).isSome = true ∧ aggB Try.prog 122 = false := ⟨by rw [Try.underlying122]; rfl, by unfold aggB; rw [Try.underlying122]⟩
theorem sz123 : (Try.prog.info? 123).map (·.size) = some 1 := by kernel_rfl
theorem zr123 : (Try.prog.info? 123).map (·.zero) = some (some (.nilFunc)) := by kernel_rfl
theorem by123 : (Try.prog.info? 123).map (·.bytes) = some 8 := by kernel_rfl
theorem ag123 : (Try.prog.underlying 123).isSome = true ∧ aggB Try.prog 123 = false := ⟨by rw [Try.underlying123]; rfl, by unfold aggB; rw [Try.underlying123]⟩
theorem sz124 : (Try.prog.info? 124).map (·.size) = some 1 := by kernel_rfl
theorem zr124 : (Try.prog.info? 124).map (·.zero) = some (some (.nilFunc)) := by kernel_rfl
theorem by124 : (Try.prog.info? 124).map (·.bytes) = some 8 := by kernel_rfl
theorem ag124 : (Try.prog.underlying 124).isSome = true ∧ aggB Try.prog 124 = false := ⟨by rw [Try.underlying124]; rfl, by unfold aggB; rw [Try.underlying124]⟩
theorem sz126 : (Try.prog.info? 126).map (·.size) = some 1 := by kernel_rfl
theorem zr126 : (Try.prog.info? 126).map (·.zero) = some (some (.nilFunc)) := by kernel_rfl
theorem by126 : (Try.prog.info? 126).map (·.bytes) = some 8 := by kernel_rfl
theorem ag126 : (Try.prog.underlying 126).isSome = true ∧ aggB Try.prog 126 = false := ⟨by rw [Try.underlying126]; rfl, by unfold aggB; rw [Try.underlying126]⟩
theorem sz127 : (Try.prog.info? 127).map (·.size) = some 1 := by kernel_rfl
theorem zr127 : (Try.prog.info? 127).map (·.zero) = some (some (.nilFunc)) := by kernel_rfl
theorem by127 : (Try.prog.info? 127).map (·.bytes) = some 8 := by kernel_rfl
theorem ag127 : (Try.prog.underlying 127).isSome = true ∧ aggB Try.prog 127 = false := ⟨by rw [Try.underlying127]; rfl, by unfold aggB; rw [Try.underlying127]⟩
theorem sz130 : (Try.prog.info? 130).map (·.size) = some 1 := by kernel_rfl
theorem zr130 : (Try.prog.info? 130).map (·.zero) = some (some (.nilFunc)) := by kernel_rfl
theorem by130 : (Try.prog.info? 130).map (·.bytes) = some 8 := by kernel_rfl
theorem ag130 : (Try.prog.underlying 130).isSome = true ∧ aggB Try.prog 130 = false := ⟨by rw [Try.underlying130]; rfl, by unfold aggB; rw [Try.underlying130]⟩
theorem sz131 : (Try.prog.info? 131).map (·.size) = some 1 := by kernel_rfl
theorem zr131 : (Try.prog.info? 131).map (·.zero) = some (some (.nilFunc)) := by kernel_rfl
theorem by131 : (Try.prog.info? 131).map (·.bytes) = some 8 := by kernel_rfl
theorem ag131 : (Try.prog.underlying 131).isSome = true ∧ aggB Try.prog 131 = false := ⟨by rw [Try.underlying131]; rfl, by unfold aggB; rw [Try.underlying131]⟩
theorem sz133 : (Try.prog.info? 133).map (·.size) = some 1 := by kernel_rfl
theorem zr133 : (Try.prog.info? 133).map (·.zero) = some (some (.nilFunc)) := by kernel_rfl
theorem by133 : (Try.prog.info? 133).map (·.bytes) = some 8 := by kernel_rfl
theorem ag133 : (Try.prog.underlying 133).isSome = true ∧ aggB Try.prog 133 = false := ⟨by rw [Try.underlying133]; rfl, by unfold aggB; rw [Try.underlying133]⟩
theorem sz134 : (Try.prog.info? 134).map (·.size) = some 1 := by kernel_rfl
theorem zr134 : (Try.prog.info? 134).map (·.zero) = some (some (.nilFunc)) := by kernel_rfl
theorem by134 : (Try.prog.info? 134).map (·.bytes) = some 8 := by kernel_rfl
theorem ag134 : (Try.prog.underlying 134).isSome = true ∧ aggB Try.prog 134 = false := ⟨by rw [Try.underlying134]; rfl, by unfold aggB; rw [Try.underlying134]⟩
theorem sz135 : (Try.prog.info? 135).map (·.size) = some 1 := by kernel_rfl
theorem zr135 : (Try.prog.info? 135).map (·.zero) = some (some (.nilFunc)) := by kernel_rfl
theorem by135 : (Try.prog.info? 135).map (·.bytes) = some 8 := by kernel_rfl
theorem ag135 : (Try.prog.underlying 135).isSome = true ∧ aggB Try.prog 135 = false := ⟨by rw [Try.underlying135]; rfl, by unfold aggB; rw [Try.underlying135]⟩
theorem sz138 : (Try.prog.info? 138).map (·.size) = some 1 := by kernel_rfl
theorem zr138 : (Try.prog.info? 138).map (·.zero) = some (some (.nilFunc)) := by kernel_rfl
theorem by138 : (Try.prog.info? 138).map (·.bytes) = some 8 := by kernel_rfl
theorem ag138 : (Try.prog.underlying 138).isSome = true ∧ aggB Try.prog 138 = false := ⟨by rw [Try.underlying138]; rfl, by unfold aggB; rw [Try.underlying138]⟩
theorem sz139 : (Try.prog.info? 139).map (·.size) = some 1 := by kernel_rfl
theorem zr139 : (Try.prog.info? 139).map (·.zero) = some (some (.nilFunc)) := by kernel_rfl
theorem by139 : (Try.prog.info? 139).map (·.bytes) = some 8 := by kernel_rfl
theorem ag139 : (Try.prog.underlying 139).isSome = true ∧ aggB Try.prog 139 = false := ⟨by rw [Try.underlying139]; rfl, by unfold aggB; rw [Try.underlying139]⟩
theorem sz140 : (Try.prog.info? 140).map (·.size) = some 1 := by kernel_rfl
theorem zr140 : (Try.prog.info? 140).map (·.zero) = some (some (.nilFunc)) := by kernel_rfl
theorem by140 : (Try.prog.info? 140).map (·.bytes) = some 8 := by kernel_rfl
theorem ag140 : (Try.prog.underlying 140).isSome = true ∧ aggB Try.prog 140 = false := ⟨by rw [Try.underlying140]; rfl, by unfold aggB; rw [Try.underlying140]⟩
theorem sz141 : (Try.prog.info? 141).map (·.size) = some 1 := by kernel_rfl
theorem zr141 : (Try.prog.info? 141).map (·.zero) = some (some (.nilFunc)) := by kernel_rfl
theorem by141 : (Try.prog.info? 141).map (·.bytes) = some 8 := by kernel_rfl
theorem ag141 : (Try.prog.underlying 141).isSome = true ∧ aggB Try.prog 141 = false := ⟨by rw [Try.underlying141]; rfl, by unfold aggB; rw [Try.underlying141]⟩
theorem sz143 : (Try.prog.info? 143).map (·.size) = some 1 := by kernel_rfl
theorem zr143 : (Try.prog.info? 143).map (·.zero) = some (some (.nilFunc)) := by kernel_rfl
theorem by143 : (Try.prog.info? 143).map (·.bytes) = some 8 := by kernel_rfl
theorem ag143 : (Try.prog.underlying 143).isSome = true ∧ aggB Try.prog 143 = false := ⟨by rw [Try.underlying143]; rfl, by unfold aggB; rw [Try.underlying143]⟩
theorem sz144 : (Try.prog.info? 144).map (·.size) = some 1 := by kernel_rfl
theorem zr144 : (Try.prog.info? 144).map (·.zero) = some (some (.nilFunc)) := by kernel_rfl
theorem by144 : (Try.prog.info? 144).map (·.bytes) = some 8 := by kernel_rfl
theorem ag144 : (Try.prog.underlying 144).isSome = true ∧ aggB Try.prog 144 = false := ⟨by rw [Try.underlying144]; rfl, by unfold aggB; rw [Try.underlying144]⟩
theorem sz148 : (Try.prog.info? 148).map (·.size) = some 1 := by kernel_rfl
theorem zr148 : (Try.prog.info? 148).map (·.zero) = some (some (.nilFunc)) := by kernel_rfl
theorem by148 : (Try.prog.info? 148).map (·.bytes) = some 8 := by kernel_rfl
theorem ag148 : (Try.prog.underlying 148).isSome = true ∧ aggB Try.prog 148 = false := ⟨by rw [Try.underlying148]; rfl, by unfold aggB; rw [Try.underlying148]⟩
theorem sz149 : (Try.prog.info? 149).map (·.size) = some 1 := by kernel_rfl
theorem zr149 : (Try.prog.info? 149).map (·.zero) = some (some (.nilFunc)) := by kernel_rfl
theorem by149 : (Try.prog.info? 149).map (·.bytes) = some 8 := by kernel_rfl
theorem ag149 : (Try.prog.underlying 149).isSome = true ∧ aggB Try.prog 149 = false := ⟨by rw [Try.underlying149]; rfl, by unfold aggB; rw [Try.underlying149]⟩
theorem sz150 : (Try.prog.info? 150).map (·.size) = some 1 := by kernel_rfl
theorem zr150 : (Try.prog.info? 150).map (·.zero) = some (some (.nilFunc)) := by kernel_rfl
theorem by150 : (Try.prog.info? 150).map (·.bytes) = some 8 := by kernel_rfl
theorem ag150 : (Try.prog.underlying 150).isSome = true ∧ aggB Try.prog 150 = false := ⟨by rw [Try.underlying150]; rfl, by unfold aggB; rw [Try.underlying150]⟩
theorem sz152 : (Try.prog.info? 152).map (·.size) = some 1 := by kernel_rfl
theorem zr152 : (Try.prog.info? 152).map (·.zero) = some (some (.nilFunc)) := by kernel_rfl
theorem by152 : (Try.prog.info? 152).map (·.bytes) = some 8 := by kernel_rfl
theorem ag152 : (Try.prog.underlying 152).isSome = true ∧ aggB Try.prog 152 = false := ⟨by rw [Try.underlying152]; rfl, by unfold aggB; rw [Try.underlying152]⟩
theorem sz153 : (Try.prog.info? 153).map (·.size) = some 1 := by kernel_rfl
theorem zr153 : (Try.prog.info? 153).map (·.zero) = some (some (.nilFunc)) := by kernel_rfl
theorem by153 : (Try.prog.info? 153).map (·.bytes) = some 8 := by kernel_rfl
theorem ag153 : (Try.prog.underlying 153).isSome = true ∧ aggB Try.prog 153 = false := ⟨by rw [Try.underlying153]; rfl, by unfold aggB; rw [Try.underlying153]⟩
theorem sz154 : (Try.prog.info? 154).map (·.size) = some 1 := by kernel_rfl
theorem zr154 : (Try.prog.info? 154).map (·.zero) = some (some (.nilFunc)) := by kernel_rfl
theorem by154 : (Try.prog.info? 154).map (·.bytes) = some 8 := by kernel_rfl
theorem ag154 : (Try.prog.underlying 154).isSome = true ∧ aggB Try.prog 154 = false := ⟨by rw [Try.underlying154]; rfl, by unfold aggB; rw [Try.underlying154]⟩
theorem sz156 : (Try.prog.info? 156).map (·.size) = some 1 := by kernel_rfl
theorem zr156 : (Try.prog.info? 156).map (·.zero) = some (some (.nilFunc)) := by kernel_rfl
theorem by156 : (Try.prog.info? 156).map (·.bytes) = some 8 := by kernel_rfl
theorem ag156 : (Try.prog.underlying 156).isSome = true ∧ aggB Try.prog 156 = false := ⟨by rw [Try.underlying156]; rfl, by unfold aggB; rw [Try.underlying156]⟩
theorem sz159 : (Try.prog.info? 159).map (·.size) = some 1 := by kernel_rfl
theorem zr159 : (Try.prog.info? 159).map (·.zero) = some (some (.nilFunc)) := by kernel_rfl
theorem by159 : (Try.prog.info? 159).map (·.bytes) = some 8 := by kernel_rfl
theorem ag159 : (Try.prog.underlying 159).isSome = true ∧ aggB Try.prog 159 = false := ⟨by rw [Try.underlying159]; rfl, by unfold aggB; rw [Try.underlying159]⟩
theorem sz161 : (Try.prog.info? 161).map (·.size) = some 1 := by kernel_rfl
theorem zr161 : (Try.prog.info? 161).map (·.zero) = some (some (.nilFunc)) := by kernel_rfl
theorem by161 : (Try.prog.info? 161).map (·.bytes) = some 8 := by kernel_rfl
theorem ag161 : (Try.prog.underlying 161).isSome = true ∧ aggB Try.prog 161 = false := ⟨by rw [Try.underlying161]; rfl, by unfold aggB; rw [Try.underlying161]⟩
theorem sz162 : (Try.prog.info? 162).map (·.size) = some 1 := by kernel_rfl
theorem zr162 : (Try.prog.info? 162).map (·.zero) = some (some (.nilFunc)) := by kernel_rfl
theorem by162 : (Try.prog.info? 162).map (·.bytes) = some 8 := by kernel_rfl
theorem ag162 : (Try.prog.underlying 162).isSome = true ∧ aggB Try.prog 162 = false := ⟨by rw [Try.underlying162]; rfl, by unfold aggB; rw [Try.underlying162]⟩
theorem sz163 : (Try.prog.info? 163).map (·.size) = some 1 := by kernel_rfl
theorem zr163 : (Try.prog.info? 163).map (·.zero) = some (some (.nilFunc)) := by kernel_rfl
theorem by163 : (Try.prog.info? 163).map (·.bytes) = some 8 := by kernel_rfl
theorem ag163 : (Try.prog.underlying 163).isSome = true ∧ aggB Try.prog 163 = false := ⟨by rw [Try.underlying163]; rfl, by unfold aggB; rw [Try.underlying163]⟩
theorem sz164 : (Try.prog.info? 164).map (·.size) = some 1 := by kernel_rfl
theorem zr164 : (Try.prog.info? 164).map (·.zero) = some (some (.nilFunc)) := by kernel_rfl
theorem by164 : (Try.prog.info? 164).map (·.bytes) = some 8 := by kernel_rfl
theorem ag164 : (Try.prog.underlying 164).isSome = true ∧ aggB Try.prog 164 = false := ⟨by rw [Try.underlying164]; rfl, by unfold aggB; rw [Try.underlying164]⟩
theorem sz165 : (Try.prog.info? 165).map (·.size) = some 1 := by kernel_rfl
theorem zr165 : (Try.prog.info? 165).map (·.zero) = some (some (.nilFunc)) := by kernel_rfl
theorem by165 : (Try.prog.info? 165).map (·.bytes) = some 8 := by kernel_rfl
theorem ag165 : (Try.prog.underlying 165).isSome = true ∧ aggB Try.prog 165 = false := ⟨by rw [Try.underlying165]; rfl, by unfold aggB; rw [Try.underlying165]⟩
theorem sz166 : (Try.prog.info? 166).map (·.size) = some 1 := by kernel_rfl
theorem zr166 : (Try.prog.info? 166).map (·.zero) = some (some (.pointer none)) := by kernel_rfl
theorem by166 : (Try.prog.info? 166).map (·.bytes) = some 8 := by kernel_rfl
theorem ag166 : (Try.prog.underlying 166).isSome = true ∧ aggB Try.prog 166 = false := ⟨by rw [Try.underlying166]; rfl, by unfold aggB; rw [Try.underlying166]⟩
theorem sz167 : (Try.prog.info? 167).map (·.size) = some 1 := by kernel_rfl
theorem zr167 : (Try.prog.info? 167).map (·.zero) = some (some (.nilFunc)) := by kernel_rfl
theorem by167 : (Try.prog.info? 167).map (·.bytes) = some 8 := by kernel_rfl
theorem ag167 : (Try.prog.underlying 167).isSome = true ∧ aggB Try.prog 167 = false := ⟨by rw [Try.underlying167]; rfl, by unfold aggB; rw [Try.underlying167]⟩
theorem sz168 : (Try.prog.info? 168).map (·.size) = some 1 := by kernel_rfl
theorem zr168 : (Try.prog.info? 168).map (·.zero) = some (some (.nilFunc)) := by kernel_rfl
theorem by168 : (Try.prog.info? 168).map (·.bytes) = some 8 := by kernel_rfl
theorem ag168 : (Try.prog.underlying 168).isSome = true ∧ aggB Try.prog 168 = false := ⟨by rw [Try.underlying168]; rfl, by unfold aggB; rw [Try.underlying168]⟩
theorem sz169 : (Try.prog.info? 169).map (·.size) = some 1 := by kernel_rfl
theorem zr169 : (Try.prog.info? 169).map (·.zero) = some (some (.nilFunc)) := by kernel_rfl
theorem by169 : (Try.prog.info? 169).map (·.bytes) = some 8 := by kernel_rfl
theorem ag169 : (Try.prog.underlying 169).isSome = true ∧ aggB Try.prog 169 = false := ⟨by rw [Try.underlying169]; rfl, by unfold aggB; rw [Try.underlying169]⟩
theorem sz170 : (Try.prog.info? 170).map (·.size) = some 1 := by kernel_rfl
theorem zr170 : (Try.prog.info? 170).map (·.zero) = some (some (.nilFunc)) := by kernel_rfl
theorem by170 : (Try.prog.info? 170).map (·.bytes) = some 8 := by kernel_rfl
theorem ag170 : (Try.prog.underlying 170).isSome = true ∧ aggB Try.prog 170 = false := ⟨by rw [Try.underlying170]; rfl, by unfold aggB; rw [Try.underlying170]⟩
theorem sz171 : (Try.prog.info? 171).map (·.size) = some 1 := by kernel_rfl
theorem zr171 : (Try.prog.info? 171).map (·.zero) = some (some (.nilFunc)) := by kernel_rfl
theorem by171 : (Try.prog.info? 171).map (·.bytes) = some 8 := by kernel_rfl
theorem ag171 : (Try.prog.underlying 171).isSome = true ∧ aggB Try.prog 171 = false := ⟨by rw [Try.underlying171]; rfl, by unfold aggB; rw [Try.underlying171]⟩
theorem sz174 : (Try.prog.info? 174).map (·.size) = some 1 := by kernel_rfl
theorem zr174 : (Try.prog.info? 174).map (·.zero) = some (some (.map none)) := by kernel_rfl
theorem by174 : (Try.prog.info? 174).map (·.bytes) = some 8 := by kernel_rfl
theorem ag174 : (Try.prog.underlying 174).isSome = true ∧ aggB Try.prog 174 = false := ⟨by rw [Try.underlying174]; rfl, by unfold aggB; rw [Try.underlying174]⟩
theorem sz175 : (Try.prog.info? 175).map (·.size) = some 1 := by kernel_rfl
theorem zr175 : (Try.prog.info? 175).map (·.zero) = some (some (.nilFunc)) := by kernel_rfl
theorem by175 : (Try.prog.info? 175).map (·.bytes) = some 8 := by kernel_rfl
theorem ag175 : (Try.prog.underlying 175).isSome = true ∧ aggB Try.prog 175 = false := ⟨by rw [Try.underlying175]; rfl, by unfold aggB; rw [Try.underlying175]⟩
theorem sz184 : (Try.prog.info? 184).map (·.size) = some 1 := by kernel_rfl
theorem zr184 : (Try.prog.info? 184).map (·.zero) = some (some (.nilFunc)) := by kernel_rfl
theorem by184 : (Try.prog.info? 184).map (·.bytes) = some 8 := by kernel_rfl
theorem ag184 : (Try.prog.underlying 184).isSome = true ∧ aggB Try.prog 184 = false := ⟨by rw [Try.underlying184]; rfl, by unfold aggB; rw [Try.underlying184]⟩
theorem sz185 : (Try.prog.info? 185).map (·.size) = some 1 := by kernel_rfl
theorem zr185 : (Try.prog.info? 185).map (·.zero) = some (some (.pointer none)) := by kernel_rfl
theorem by185 : (Try.prog.info? 185).map (·.bytes) = some 8 := by kernel_rfl
theorem ag185 : (Try.prog.underlying 185).isSome = true ∧ aggB Try.prog 185 = false := ⟨by rw [Try.underlying185]; rfl, by unfold aggB; rw [Try.underlying185]⟩
def Tb : Tab where
  sl := [(23, 3), (43, 33), (45, 5), (47, 41), (58, 50), (66, 45), (69, 43), (96, 146), (99, 105), (106, 99), (132, 4), (147, 50), (173, 114)]
  arr := [(22, 4, 3), (29, 80, 4), (30, 80, 4), (40, 32, 5), (41, 32, 5), (48, 4, 33), (145, 9, 43), (157, 9, 33), (158, 9, 33), (160, 9, 158), (172, 5, 33), (178, 0, 16)]
  int := [(2, .i64), (3, .i64), (5, .u8), (6, .u8), (12, .u64), (21, .i32), (26, .i64), (33, .u64), (38, .u64), (73, .u16), (181, .u32), (182, .u8), (183, .u8), (186, .i32), (187, .i32)]
  sz := [(2, 1), (3, 1), (5, 1), (6, 1), (12, 1), (21, 1), (26, 1), (33, 1), (38, 1), (73, 1), (181, 1), (182, 1), (183, 1), (186, 1), (187, 1), (4, 1), (23, 1), (43, 1), (45, 1), (47, 1), (58, 1), (66, 1), (69, 1), (96, 1), (99, 1), (106, 1), (132, 1), (147, 1), (173, 1), (22, 4), (29, 80), (30, 80), (40, 32), (41, 32), (48, 4), (145, 9), (157, 9), (158, 9), (160, 81), (172, 5), (178, 0), (7, 4), (8, 4), (13, 2), (14, 2), (18, 1), (19, 1), (49, 4), (50, 4), (104, 2), (105, 2), (128, 81), (129, 81), (136, 3), (137, 3), (146, 2), (176, 4), (177, 4), (179, 0), (180, 0), (188, 11), (189, 11), (1, 1), (9, 1), (10, 1), (11, 1), (15, 1), (16, 1), (17, 1), (20, 1), (24, 1), (25, 1), (28, 1), (32, 1), (35, 1), (36, 1), (37, 1), (39, 1), (42, 1), (44, 1), (46, 1), (52, 1), (53, 1), (54, 1), (55, 1), (56, 1), (57, 1), (60, 1), (61, 1), (62, 1), (63, 1), (65, 1), (67, 1), (68, 1), (71, 1), (72, 1), (74, 1), (75, 1), (77, 1), (78, 1), (79, 1), (80, 1), (82, 1), (83, 1), (84, 1), (85, 1), (86, 1), (87, 1), (88, 1), (89, 1), (91, 1), (92, 1), (93, 1), (94, 1), (95, 1), (98, 1), (100, 1), (101, 1), (102, 1), (103, 1), (107, 1), (108, 1), (109, 1), (110, 1), (111, 1), (112, 1), (113, 1), (114, 1), (115, 1), (116, 1), (117, 1), (119, 1), (121, 1), (122, 1), (123, 1), (124, 1), (126, 1), (127, 1), (130, 1), (131, 1), (133, 1), (134, 1), (135, 1), (138, 1), (139, 1), (140, 1), (141, 1), (143, 1), (144, 1), (148, 1), (149, 1), (150, 1), (152, 1), (153, 1), (154, 1), (156, 1), (159, 1), (161, 1), (162, 1), (163, 1), (164, 1), (165, 1), (166, 1), (167, 1), (168, 1), (169, 1), (170, 1), (171, 1), (174, 1), (175, 1), (184, 1), (185, 1)]
  agg := [(2, false), (3, false), (5, false), (6, false), (12, false), (21, false), (26, false), (33, false), (38, false), (73, false), (181, false), (182, false), (183, false), (186, false), (187, false), (4, false), (23, false), (43, false), (45, false), (47, false), (58, false), (66, false), (69, false), (96, false), (99, false), (106, false), (132, false), (147, false), (173, false), (22, true), (29, true), (30, true), (40, true), (41, true), (48, true), (145, true), (157, true), (158, true), (160, true), (172, true), (178, true), (7, true), (8, true), (13, true), (14, true), (18, true), (19, true), (49, true), (50, true), (104, true), (105, true), (128, true), (129, true), (136, true), (137, true), (146, true), (176, true), (177, true), (179, true), (180, true), (188, true), (189, true), (1, false), (9, false), (10, false), (11, false), (15, false), (16, false), (17, false), (20, false), (24, false), (25, false), (28, false), (32, false), (35, false), (36, false), (37, false), (39, false), (42, false), (44, false), (46, false), (52, false), (53, false), (54, false), (55, false), (56, false), (57, false), (60, false), (61, false), (62, false), (63, false), (65, false), (67, false), (68, false), (71, false), (72, false), (74, false), (75, false), (77, false), (78, false), (79, false), (80, false), (82, false), (83, false), (84, false), (85, false), (86, false), (87, false), (88, false), (89, false), (91, false), (92, false), (93, false), (94, false), (95, false), (98, false), (100, false), (101, false), (102, false), (103, false), (107, false), (108, false), (109, false), (110, false), (111, false), (112, false), (113, false), (114, false), (115, false), (116, false), (117, false), (119, false), (121, false), (122, false), (123, false), (124, false), (126, false), (127, false), (130, false), (131, false), (133, false), (134, false), (135, false), (138, false), (139, false), (140, false), (141, false), (143, false), (144, false), (148, false), (149, false), (150, false), (152, false), (153, false), (154, false), (156, false), (159, false), (161, false), (162, false), (163, false), (164, false), (165, false), (166, false), (167, false), (168, false), (169, false), (170, false), (171, false), (174, false), (175, false), (184, false), (185, false)]
  zero := [(2, .int .i64 0), (3, .int .i64 0), (5, .int .u8 0), (6, .int .u8 0), (12, .int .u64 0), (21, .int .i32 0), (26, .int .i64 0), (33, .int .u64 0), (38, .int .u64 0), (73, .int .u16 0), (181, .int .u32 0), (182, .int .u8 0), (183, .int .u8 0), (186, .int .i32 0), (187, .int .i32 0), (4, .bool false), (23, .slice none 0 0), (43, .slice none 0 0), (45, .slice none 0 0), (47, .slice none 0 0), (58, .slice none 0 0), (66, .slice none 0 0), (69, .slice none 0 0), (96, .slice none 0 0), (99, .slice none 0 0), (106, .slice none 0 0), (132, .slice none 0 0), (147, .slice none 0 0), (173, .slice none 0 0), (22, .agg #[.int .i64 0, .int .i64 0, .int .i64 0, .int .i64 0]), (29, .agg (List.replicate 80 (.bool false)).toArray), (30, .agg (List.replicate 80 (.bool false)).toArray), (40, .agg (List.replicate 32 (.int .u8 0)).toArray), (41, .agg (List.replicate 32 (.int .u8 0)).toArray), (48, .agg #[.int .u64 0, .int .u64 0, .int .u64 0, .int .u64 0]), (145, .agg (List.replicate 9 (.slice none 0 0)).toArray), (157, .agg (List.replicate 9 (.int .u64 0)).toArray), (158, .agg (List.replicate 9 (.int .u64 0)).toArray), (160, .agg (List.replicate 81 (.int .u64 0)).toArray), (172, .agg (List.replicate 5 (.int .u64 0)).toArray), (178, .agg #[]), (7, .agg #[.int .i64 0, .int .i64 0, .bool false, .int .u8 0]), (8, .agg #[.int .i64 0, .int .i64 0, .bool false, .int .u8 0]), (13, .agg #[.string .empty, .int .u64 0]), (14, .agg #[.string .empty, .int .u64 0]), (18, .agg #[.pointer none]), (19, .agg #[.pointer none]), (49, .agg #[.int .u64 0, .int .u64 0, .int .u64 0, .int .u64 0]), (50, .agg #[.int .u64 0, .int .u64 0, .int .u64 0, .int .u64 0]), (104, .agg #[.int .i64 0, .int .u64 0]), (105, .agg #[.int .i64 0, .int .u64 0]), (128, .agg #[.bool false, .bool false, .bool false, .bool false, .bool false, .bool false, .bool false, .bool false, .bool false, .bool false, .bool false, .bool false, .bool false, .bool false, .bool false, .bool false, .bool false, .bool false, .bool false, .bool false, .bool false, .bool false, .bool false, .bool false, .bool false, .bool false, .bool false, .bool false, .bool false, .bool false, .bool false, .bool false, .bool false, .bool false, .bool false, .bool false, .bool false, .bool false, .bool false, .bool false, .bool false, .bool false, .bool false, .bool false, .bool false, .bool false, .bool false, .bool false, .bool false, .bool false, .bool false, .bool false, .bool false, .bool false, .bool false, .bool false, .bool false, .bool false, .bool false, .bool false, .bool false, .bool false, .bool false, .bool false, .bool false, .bool false, .bool false, .bool false, .bool false, .bool false, .bool false, .bool false, .bool false, .bool false, .bool false, .bool false, .bool false, .bool false, .bool false, .bool false, .int .i64 0]), (129, .agg #[.bool false, .bool false, .bool false, .bool false, .bool false, .bool false, .bool false, .bool false, .bool false, .bool false, .bool false, .bool false, .bool false, .bool false, .bool false, .bool false, .bool false, .bool false, .bool false, .bool false, .bool false, .bool false, .bool false, .bool false, .bool false, .bool false, .bool false, .bool false, .bool false, .bool false, .bool false, .bool false, .bool false, .bool false, .bool false, .bool false, .bool false, .bool false, .bool false, .bool false, .bool false, .bool false, .bool false, .bool false, .bool false, .bool false, .bool false, .bool false, .bool false, .bool false, .bool false, .bool false, .bool false, .bool false, .bool false, .bool false, .bool false, .bool false, .bool false, .bool false, .bool false, .bool false, .bool false, .bool false, .bool false, .bool false, .bool false, .bool false, .bool false, .bool false, .bool false, .bool false, .bool false, .bool false, .bool false, .bool false, .bool false, .bool false, .bool false, .bool false, .int .i64 0]), (136, .agg #[.slice none 0 0, .int .u64 0, .slice none 0 0]), (137, .agg #[.slice none 0 0, .int .u64 0, .slice none 0 0]), (146, .agg #[.int .i64 0, .int .u64 0]), (176, .agg #[.pointer none, .pointer none, .pointer none, .string .empty]), (177, .agg #[.pointer none, .pointer none, .pointer none, .string .empty]), (179, .agg #[]), (180, .agg #[]), (188, .agg #[.int .u64 0, .int .u64 0, .int .u32 0, .int .u8 0, .int .u8 0, .int .u8 0, .int .u8 0, .nilFunc, .pointer none, .int .i32 0, .int .i32 0]), (189, .agg #[.int .u64 0, .int .u64 0, .int .u32 0, .int .u8 0, .int .u8 0, .int .u8 0, .int .u8 0, .nilFunc, .pointer none, .int .i32 0, .int .i32 0]), (1, .nilFunc), (9, .string .empty), (10, .string .empty), (11, .string .empty), (15, .pointer none), (16, .pointer none), (17, .pointer none), (20, .nilIface), (24, .nilFunc), (25, .pointer none), (28, .nilFunc), (32, .nilFunc), (35, .nilFunc), (36, .nilFunc), (37, .nilFunc), (39, .nilFunc), (42, .nilFunc), (44, .nilFunc), (46, .nilFunc), (52, .nilFunc), (53, .nilFunc), (54, .nilFunc), (55, .pointer none), (56, .nilFunc), (57, .nilFunc), (60, .nilFunc), (61, .nilFunc), (62, .nilFunc), (63, .nilFunc), (65, .nilFunc), (67, .nilFunc), (68, .nilFunc), (71, .nilFunc), (72, .nilFunc), (74, .nilFunc), (75, .nilFunc), (77, .nilFunc), (78, .nilFunc), (79, .nilFunc), (80, .pointer none), (82, .nilFunc), (83, .nilFunc), (84, .nilFunc), (85, .nilFunc), (86, .nilFunc), (87, .nilFunc), (88, .nilFunc), (89, .nilFunc), (91, .nilFunc), (92, .nilFunc), (93, .nilFunc), (94, .nilFunc), (95, .nilFunc), (98, .nilFunc), (100, .nilFunc), (101, .nilFunc), (102, .nilFunc), (103, .nilFunc), (107, .nilFunc), (108, .nilFunc), (109, .nilFunc), (110, .nilFunc), (111, .nilFunc), (112, .nilFunc), (113, .nilFunc), (114, .nilFunc), (115, .nilFunc), (116, .nilFunc), (117, .nilFunc), (119, .nilFunc), (121, .nilFunc), (122, .nilFunc), (123, .nilFunc), (124, .nilFunc), (126, .nilFunc), (127, .nilFunc), (130, .nilFunc), (131, .nilFunc), (133, .nilFunc), (134, .nilFunc), (135, .nilFunc), (138, .nilFunc), (139, .nilFunc), (140, .nilFunc), (141, .nilFunc), (143, .nilFunc), (144, .nilFunc), (148, .nilFunc), (149, .nilFunc), (150, .nilFunc), (152, .nilFunc), (153, .nilFunc), (154, .nilFunc), (156, .nilFunc), (159, .nilFunc), (161, .nilFunc), (162, .nilFunc), (163, .nilFunc), (164, .nilFunc), (165, .nilFunc), (166, .pointer none), (167, .nilFunc), (168, .nilFunc), (169, .nilFunc), (170, .nilFunc), (171, .nilFunc), (174, .map none), (175, .nilFunc), (184, .nilFunc), (185, .pointer none)]
  by' := [(2, 8), (3, 8), (5, 1), (6, 1), (12, 8), (21, 4), (26, 8), (33, 8), (38, 8), (73, 2), (181, 4), (182, 1), (183, 1), (186, 4), (187, 4), (4, 1), (23, 24), (43, 24), (45, 24), (47, 24), (58, 24), (66, 24), (69, 24), (96, 24), (99, 24), (106, 24), (132, 24), (147, 24), (173, 24), (22, 32), (29, 80), (30, 80), (40, 32), (41, 32), (48, 32), (145, 216), (157, 72), (158, 72), (160, 648), (172, 40), (178, 0), (7, 24), (8, 24), (13, 24), (14, 24), (18, 8), (19, 8), (49, 32), (50, 32), (104, 16), (105, 16), (128, 88), (129, 88), (136, 56), (137, 56), (146, 16), (176, 40), (177, 40), (179, 0), (180, 0), (188, 48), (189, 48), (1, 8), (9, 16), (10, 16), (11, 16), (15, 8), (16, 8), (17, 8), (20, 16), (24, 8), (25, 8), (28, 8), (32, 8), (35, 8), (36, 8), (37, 8), (39, 8), (42, 8), (44, 8), (46, 8), (52, 8), (53, 8), (54, 8), (55, 8), (56, 8), (57, 8), (60, 8), (61, 8), (62, 8), (63, 8), (65, 8), (67, 8), (68, 8), (71, 8), (72, 8), (74, 8), (75, 8), (77, 8), (78, 8), (79, 8), (80, 8), (82, 8), (83, 8), (84, 8), (85, 8), (86, 8), (87, 8), (88, 8), (89, 8), (91, 8), (92, 8), (93, 8), (94, 8), (95, 8), (98, 8), (100, 8), (101, 8), (102, 8), (103, 8), (107, 8), (108, 8), (109, 8), (110, 8), (111, 8), (112, 8), (113, 8), (114, 8), (115, 8), (116, 8), (117, 8), (119, 8), (121, 8), (122, 8), (123, 8), (124, 8), (126, 8), (127, 8), (130, 8), (131, 8), (133, 8), (134, 8), (135, 8), (138, 8), (139, 8), (140, 8), (141, 8), (143, 8), (144, 8), (148, 8), (149, 8), (150, 8), (152, 8), (153, 8), (154, 8), (156, 8), (159, 8), (161, 8), (162, 8), (163, 8), (164, 8), (165, 8), (166, 8), (167, 8), (168, 8), (169, 8), (170, 8), (171, 8), (174, 8), (175, 8), (184, 8), (185, 8)]
  fld := [((7, 0), 0, 2), ((7, 1), 1, 3), ((7, 2), 2, 4), ((7, 3), 3, 6), ((8, 0), 0, 2), ((8, 1), 1, 3), ((8, 2), 2, 4), ((8, 3), 3, 6), ((13, 0), 0, 9), ((13, 1), 1, 12), ((14, 0), 0, 9), ((14, 1), 1, 12), ((18, 0), 0, 17), ((19, 0), 0, 17), ((49, 0), 0, 48), ((50, 0), 0, 48), ((104, 0), 0, 3), ((104, 1), 1, 33), ((105, 0), 0, 3), ((105, 1), 1, 33), ((128, 0), 0, 29), ((128, 1), 80, 3), ((129, 0), 0, 29), ((129, 1), 80, 3), ((136, 0), 0, 43), ((136, 1), 1, 33), ((136, 2), 2, 43), ((137, 0), 0, 43), ((137, 1), 1, 33), ((137, 2), 2, 43), ((146, 0), 0, 3), ((146, 1), 1, 33), ((176, 0), 0, 17), ((176, 1), 1, 17), ((176, 2), 2, 17), ((176, 3), 3, 9), ((177, 0), 0, 17), ((177, 1), 1, 17), ((177, 2), 2, 17), ((177, 3), 3, 9), ((179, 0), 0, 178), ((180, 0), 0, 178), ((188, 0), 0, 12), ((188, 1), 1, 12), ((188, 2), 2, 181), ((188, 3), 3, 182), ((188, 4), 4, 5), ((188, 5), 5, 5), ((188, 6), 6, 183), ((188, 7), 7, 184), ((188, 8), 8, 185), ((188, 9), 9, 186), ((188, 10), 10, 187), ((189, 0), 0, 12), ((189, 1), 1, 12), ((189, 2), 2, 181), ((189, 3), 3, 182), ((189, 4), 4, 5), ((189, 5), 5, 5), ((189, 6), 6, 183), ((189, 7), 7, 184), ((189, 8), 8, 185), ((189, 9), 9, 186), ((189, 10), 10, 187)]
set_option maxRecDepth 10000 in
theorem tbok : TabOk Try.prog Tb where
  sl := fun t e h => lookup_all (p := fun t e => Try.prog.underlying t = some (.slice e)) (List.forall_mem_cons.2 ⟨Try.underlying23, List.forall_mem_cons.2 ⟨Try.underlying43, List.forall_mem_cons.2 ⟨Try.underlying45, List.forall_mem_cons.2 ⟨Try.underlying47, List.forall_mem_cons.2 ⟨Try.underlying58, List.forall_mem_cons.2 ⟨Try.underlying66, List.forall_mem_cons.2 ⟨Try.underlying69, List.forall_mem_cons.2 ⟨Try.underlying96, List.forall_mem_cons.2 ⟨Try.underlying99, List.forall_mem_cons.2 ⟨Try.underlying106, List.forall_mem_cons.2 ⟨Try.underlying132, List.forall_mem_cons.2 ⟨Try.underlying147, List.forall_mem_cons.2 ⟨Try.underlying173, fun _ h => absurd h List.not_mem_nil⟩⟩⟩⟩⟩⟩⟩⟩⟩⟩⟩⟩⟩) t e h
  arr := fun t n e h => lookup_all (p := fun t x => Try.prog.underlying t = some (.array x.1 x.2)) (List.forall_mem_cons.2 ⟨Try.underlying22, List.forall_mem_cons.2 ⟨Try.underlying29, List.forall_mem_cons.2 ⟨Try.underlying30, List.forall_mem_cons.2 ⟨Try.underlying40, List.forall_mem_cons.2 ⟨Try.underlying41, List.forall_mem_cons.2 ⟨Try.underlying48, List.forall_mem_cons.2 ⟨Try.underlying145, List.forall_mem_cons.2 ⟨Try.underlying157, List.forall_mem_cons.2 ⟨Try.underlying158, List.forall_mem_cons.2 ⟨Try.underlying160, List.forall_mem_cons.2 ⟨Try.underlying172, List.forall_mem_cons.2 ⟨Try.underlying178, fun _ h => absurd h List.not_mem_nil⟩⟩⟩⟩⟩⟩⟩⟩⟩⟩⟩⟩) t (n, e) h
  int := fun t e h => lookup_all (p := fun t e => Try.prog.underlying t = some (.int e)) (List.forall_mem_cons.2 ⟨Try.underlying2, List.forall_mem_cons.2 ⟨Try.underlying3, List.forall_mem_cons.2 ⟨Try.underlying5, List.forall_mem_cons.2 ⟨Try.underlying6, List.forall_mem_cons.2 ⟨Try.underlying12, List.forall_mem_cons.2 ⟨Try.underlying21, List.forall_mem_cons.2 ⟨Try.underlying26, List.forall_mem_cons.2 ⟨Try.underlying33, List.forall_mem_cons.2 ⟨Try.underlying38, List.forall_mem_cons.2 ⟨Try.underlying73, List.forall_mem_cons.2 ⟨Try.underlying181, List.forall_mem_cons.2 ⟨Try.underlying182, List.forall_mem_cons.2 ⟨Try.underlying183, List.forall_mem_cons.2 ⟨Try.underlying186, List.forall_mem_cons.2 ⟨Try.underlying187, fun _ h => absurd h List.not_mem_nil⟩⟩⟩⟩⟩⟩⟩⟩⟩⟩⟩⟩⟩⟩⟩) t e h
  sz := fun t e h => lookup_all (p := fun t e => (Try.prog.info? t).map (·.size) = some e) (List.forall_mem_cons.2 ⟨sz2, List.forall_mem_cons.2 ⟨sz3, List.forall_mem_cons.2 ⟨sz5, List.forall_mem_cons.2 ⟨sz6, List.forall_mem_cons.2 ⟨sz12, List.forall_mem_cons.2 ⟨sz21, List.forall_mem_cons.2 ⟨sz26, List.forall_mem_cons.2 ⟨sz33, List.forall_mem_cons.2 ⟨sz38, List.forall_mem_cons.2 ⟨sz73, List.forall_mem_cons.2 ⟨sz181, List.forall_mem_cons.2 ⟨sz182, List.forall_mem_cons.2 ⟨sz183, List.forall_mem_cons.2 ⟨sz186, List.forall_mem_cons.2 ⟨sz187, List.forall_mem_cons.2 ⟨sz4, List.forall_mem_cons.2 ⟨sz23, List.forall_mem_cons.2 ⟨sz43, List.forall_mem_cons.2 ⟨sz45, List.forall_mem_cons.2 ⟨sz47, List.forall_mem_cons.2 ⟨sz58, List.forall_mem_cons.2 ⟨sz66, List.forall_mem_cons.2 ⟨sz69, List.forall_mem_cons.2 ⟨sz96, List.forall_mem_cons.2 ⟨sz99, List.forall_mem_cons.2 ⟨sz106, List.forall_mem_cons.2 ⟨sz132, List.forall_mem_cons.2 ⟨sz147, List.forall_mem_cons.2 ⟨sz173, List.forall_mem_cons.2 ⟨sz22, List.forall_mem_cons.2 ⟨sz29, List.forall_mem_cons.2 ⟨sz30, List.forall_mem_cons.2 ⟨sz40, List.forall_mem_cons.2 ⟨sz41, List.forall_mem_cons.2 ⟨sz48, List.forall_mem_cons.2 ⟨sz145, List.forall_mem_cons.2 ⟨sz157, List.forall_mem_cons.2 ⟨sz158, List.forall_mem_cons.2 ⟨sz160, List.forall_mem_cons.2 ⟨sz172, List.forall_mem_cons.2 ⟨sz178, List.forall_mem_cons.2 ⟨sz7, List.forall_mem_cons.2 ⟨sz8, List.forall_mem_cons.2 ⟨sz13, List.forall_mem_cons.2 ⟨sz14, List.forall_mem_cons.2 ⟨sz18, List.forall_mem_cons.2 ⟨sz19, List.forall_mem_cons.2 ⟨sz49, List.forall_mem_cons.2 ⟨sz50, List.forall_mem_cons.2 ⟨sz104, List.forall_mem_cons.2 ⟨sz105, List.forall_mem_cons.2 ⟨sz128, List.forall_mem_cons.2 ⟨sz129, List.forall_mem_cons.2 ⟨sz136, List.forall_mem_cons.2 ⟨sz137, List.forall_mem_cons.2 ⟨sz146, List.forall_mem_cons.2 ⟨sz176, List.forall_mem_cons.2 ⟨sz177, List.forall_mem_cons.2 ⟨sz179, List.forall_mem_cons.2 ⟨sz180, List.forall_mem_cons.2 ⟨sz188, List.forall_mem_cons.2 ⟨sz189, List.forall_mem_cons.2 ⟨sz1, List.forall_mem_cons.2 ⟨sz9, List.forall_mem_cons.2 ⟨sz10, List.forall_mem_cons.2 ⟨sz11, List.forall_mem_cons.2 ⟨sz15, List.forall_mem_cons.2 ⟨sz16, List.forall_mem_cons.2 ⟨sz17, List.forall_mem_cons.2 ⟨sz20, List.forall_mem_cons.2 ⟨sz24, List.forall_mem_cons.2 ⟨sz25, List.forall_mem_cons.2 ⟨sz28, List.forall_mem_cons.2 ⟨sz32, List.forall_mem_cons.2 ⟨sz35, List.forall_mem_cons.2 ⟨sz36, List.forall_mem_cons.2 ⟨sz37, List.forall_mem_cons.2 ⟨sz39, List.forall_mem_cons.2 ⟨sz42, List.forall_mem_cons.2 ⟨sz44, List.forall_mem_cons.2 ⟨sz46, List.forall_mem_cons.2 ⟨sz52, List.forall_mem_cons.2 ⟨sz53, List.forall_mem_cons.2 ⟨sz54, List.forall_mem_cons.2 ⟨sz55, List.forall_mem_cons.2 ⟨sz56, List.forall_mem_cons.2 ⟨sz57, List.forall_mem_cons.2 ⟨sz60, List.forall_mem_cons.2 ⟨sz61, List.forall_mem_cons.2 ⟨sz62, List.forall_mem_cons.2 ⟨sz63, List.forall_mem_cons.2 ⟨sz65, List.forall_mem_cons.2 ⟨sz67, List.forall_mem_cons.2 ⟨sz68, List.forall_mem_cons.2 ⟨sz71, List.forall_mem_cons.2 ⟨sz72, List.forall_mem_cons.2 ⟨sz74, List.forall_mem_cons.2 ⟨sz75, List.forall_mem_cons.2 ⟨sz77, List.forall_mem_cons.2 ⟨sz78, List.forall_mem_cons.2 ⟨sz79, List.forall_mem_cons.2 ⟨sz80, List.forall_mem_cons.2 ⟨sz82, List.forall_mem_cons.2 ⟨sz83, List.forall_mem_cons.2 ⟨sz84, List.forall_mem_cons.2 ⟨sz85, List.forall_mem_cons.2 ⟨sz86, List.forall_mem_cons.2 ⟨sz87, List.forall_mem_cons.2 ⟨sz88, List.forall_mem_cons.2 ⟨sz89, List.forall_mem_cons.2 ⟨sz91, List.forall_mem_cons.2 ⟨sz92, List.forall_mem_cons.2 ⟨sz93, List.forall_mem_cons.2 ⟨sz94, List.forall_mem_cons.2 ⟨sz95, List.forall_mem_cons.2 ⟨sz98, List.forall_mem_cons.2 ⟨sz100, List.forall_mem_cons.2 ⟨sz101, List.forall_mem_cons.2 ⟨sz102, List.forall_mem_cons.2 ⟨sz103, List.forall_mem_cons.2 ⟨sz107, List.forall_mem_cons.2 ⟨sz108, List.forall_mem_cons.2 ⟨sz109, List.forall_mem_cons.2 ⟨sz110, List.forall_mem_cons.2 ⟨sz111, List.forall_mem_cons.2 ⟨sz112, List.forall_mem_cons.2 ⟨sz113, List.forall_mem_cons.2 ⟨sz114, List.forall_mem_cons.2 ⟨sz115, List.forall_mem_cons.2 ⟨sz116, List.forall_mem_cons.2 ⟨sz117, List.forall_mem_cons.2 ⟨sz119, List.forall_mem_cons.2 ⟨sz121, List.forall_mem_cons.2 ⟨sz122, List.forall_mem_cons.2 ⟨sz123, List.forall_mem_cons.2 ⟨sz124, List.forall_mem_cons.2 ⟨sz126, List.forall_mem_cons.2 ⟨sz127, List.forall_mem_cons.2 ⟨sz130, List.forall_mem_cons.2 ⟨sz131, List.forall_mem_cons.2 ⟨sz133, List.forall_mem_cons.2 ⟨sz134, List.forall_mem_cons.2 ⟨sz135, List.forall_mem_cons.2 ⟨sz138, List.forall_mem_cons.2 ⟨sz139, List.forall_mem_cons.2 ⟨sz140, List.forall_mem_cons.2 ⟨sz141, List.forall_mem_cons.2 ⟨sz143, List.forall_mem_cons.2 ⟨sz144, List.forall_mem_cons.2 ⟨sz148, List.forall_mem_cons.2 ⟨sz149, List.forall_mem_cons.2 ⟨sz150, List.forall_mem_cons.2 ⟨sz152, List.forall_mem_cons.2 ⟨sz153, List.forall_mem_cons.2 ⟨sz154, List.forall_mem_cons.2 ⟨sz156, List.forall_mem_cons.2 ⟨sz159, List.forall_mem_cons.2 ⟨sz161, List.forall_mem_cons.2 ⟨sz162, List.forall_mem_cons.2 ⟨sz163, List.forall_mem_cons.2 ⟨sz164, List.forall_mem_cons.2 ⟨sz165, List.forall_mem_cons.2 ⟨sz166, List.forall_mem_cons.2 ⟨sz167, List.forall_mem_cons.2 ⟨sz168, List.forall_mem_cons.2 ⟨sz169, List.forall_mem_cons.2 ⟨sz170, List.forall_mem_cons.2 ⟨sz171, List.forall_mem_cons.2 ⟨sz174, List.forall_mem_cons.2 ⟨sz175, List.forall_mem_cons.2 ⟨sz184, List.forall_mem_cons.2 ⟨sz185, fun _ h => absurd h List.not_mem_nil⟩⟩⟩⟩⟩⟩⟩⟩⟩⟩⟩⟩⟩⟩⟩⟩⟩⟩⟩⟩⟩⟩⟩⟩⟩⟩⟩⟩⟩⟩⟩⟩⟩⟩⟩⟩⟩⟩⟩⟩⟩⟩⟩⟩⟩⟩⟩⟩⟩⟩⟩⟩⟩⟩⟩⟩⟩⟩⟩⟩⟩⟩⟩⟩⟩⟩⟩⟩⟩⟩⟩⟩⟩⟩⟩⟩⟩⟩⟩⟩⟩⟩⟩⟩⟩⟩⟩⟩⟩⟩⟩⟩⟩⟩⟩⟩⟩⟩⟩⟩⟩⟩⟩⟩⟩⟩⟩⟩⟩⟩⟩⟩⟩⟩⟩⟩⟩⟩⟩⟩⟩⟩⟩⟩⟩⟩⟩⟩⟩⟩⟩⟩⟩⟩⟩⟩⟩⟩⟩⟩⟩⟩⟩⟩⟩⟩⟩⟩⟩⟩⟩⟩⟩⟩⟩⟩⟩⟩⟩⟩⟩⟩⟩⟩⟩⟩⟩⟩⟩⟩⟩⟩) t e h
  agg := fun t e h => lookup_all (p := fun t e => (Try.prog.underlying t).isSome = true ∧ aggB Try.prog t = e) (List.forall_mem_cons.2 ⟨ag2, List.forall_mem_cons.2 ⟨ag3, List.forall_mem_cons.2 ⟨ag5, List.forall_mem_cons.2 ⟨ag6, List.forall_mem_cons.2 ⟨ag12, List.forall_mem_cons.2 ⟨ag21, List.forall_mem_cons.2 ⟨ag26, List.forall_mem_cons.2 ⟨ag33, List.forall_mem_cons.2 ⟨ag38, List.forall_mem_cons.2 ⟨ag73, List.forall_mem_cons.2 ⟨ag181, List.forall_mem_cons.2 ⟨ag182, List.forall_mem_cons.2 ⟨ag183, List.forall_mem_cons.2 ⟨ag186, List.forall_mem_cons.2 ⟨ag187, List.forall_mem_cons.2 ⟨ag4, List.forall_mem_cons.2 ⟨ag23, List.forall_mem_cons.2 ⟨ag43, List.forall_mem_cons.2 ⟨ag45, List.forall_mem_cons.2 ⟨ag47, List.forall_mem_cons.2 ⟨ag58, List.forall_mem_cons.2 ⟨ag66, List.forall_mem_cons.2 ⟨ag69, List.forall_mem_cons.2 ⟨ag96, List.forall_mem_cons.2 ⟨ag99, List.forall_mem_cons.2 ⟨ag106, List.forall_mem_cons.2 ⟨ag132, List.forall_mem_cons.2 ⟨ag147, List.forall_mem_cons.2 ⟨ag173, List.forall_mem_cons.2 ⟨ag22, List.forall_mem_cons.2 ⟨ag29, List.forall_mem_cons.2 ⟨ag30, List.forall_mem_cons.2 ⟨ag40, List.forall_mem_cons.2 ⟨ag41, List.forall_mem_cons.2 ⟨ag48, List.forall_mem_cons.2 ⟨ag145, List.forall_mem_cons.2 ⟨ag157, List.forall_mem_cons.2 ⟨ag158, List.forall_mem_cons.2 ⟨ag160, List.forall_mem_cons.2 ⟨ag172, List.forall_mem_cons.2 ⟨ag178, List.forall_mem_cons.2 ⟨ag7, List.forall_mem_cons.2 ⟨ag8, List.forall_mem_cons.2 ⟨ag13, List.forall_mem_cons.2 ⟨ag14, List.forall_mem_cons.2 ⟨ag18, List.forall_mem_cons.2 ⟨ag19, List.forall_mem_cons.2 ⟨ag49, List.forall_mem_cons.2 ⟨ag50, List.forall_mem_cons.2 ⟨ag104, List.forall_mem_cons.2 ⟨ag105, List.forall_mem_cons.2 ⟨ag128, List.forall_mem_cons.2 ⟨ag129, List.forall_mem_cons.2 ⟨ag136, List.forall_mem_cons.2 ⟨ag137, List.forall_mem_cons.2 ⟨ag146, List.forall_mem_cons.2 ⟨ag176, List.forall_mem_cons.2 ⟨ag177, List.forall_mem_cons.2 ⟨ag179, List.forall_mem_cons.2 ⟨ag180, List.forall_mem_cons.2 ⟨ag188, List.forall_mem_cons.2 ⟨ag189, List.forall_mem_cons.2 ⟨ag1, List.forall_mem_cons.2 ⟨ag9, List.forall_mem_cons.2 ⟨ag10, List.forall_mem_cons.2 ⟨ag11, List.forall_mem_cons.2 ⟨ag15, List.forall_mem_cons.2 ⟨ag16, List.forall_mem_cons.2 ⟨ag17, List.forall_mem_cons.2 ⟨ag20, List.forall_mem_cons.2 ⟨ag24, List.forall_mem_cons.2 ⟨ag25, List.forall_mem_cons.2 ⟨ag28, List.forall_mem_cons.2 ⟨ag32, List.forall_mem_cons.2 ⟨ag35, List.forall_mem_cons.2 ⟨ag36, List.forall_mem_cons.2 ⟨ag37, List.forall_mem_cons.2 ⟨ag39, List.forall_mem_cons.2 ⟨ag42, List.forall_mem_cons.2 ⟨ag44, List.forall_mem_cons.2 ⟨ag46, List.forall_mem_cons.2 ⟨ag52, List.forall_mem_cons.2 ⟨ag53, List.forall_mem_cons.2 ⟨ag54, List.forall_mem_cons.2 ⟨ag55, List.forall_mem_cons.2 ⟨ag56, List.forall_mem_cons.2 ⟨ag57, List.forall_mem_cons.2 ⟨ag60, List.forall_mem_cons.2 ⟨ag61, List.forall_mem_cons.2 ⟨ag62, List.forall_mem_cons.2 ⟨ag63, List.forall_mem_cons.2 ⟨ag65, List.forall_mem_cons.2 ⟨ag67, List.forall_mem_cons.2 ⟨ag68, List.forall_mem_cons.2 ⟨ag71, List.forall_mem_cons.2 ⟨ag72, List.forall_mem_cons.2 ⟨ag74, List.forall_mem_cons.2 ⟨ag75, List.forall_mem_cons.2 ⟨ag77, List.forall_mem_cons.2 ⟨ag78, List.forall_mem_cons.2 ⟨ag79, List.forall_mem_cons.2 ⟨ag80, List.forall_mem_cons.2 ⟨ag82, List.forall_mem_cons.2 ⟨ag83, List.forall_mem_cons.2 ⟨ag84, List.forall_mem_cons.2 ⟨ag85, List.forall_mem_cons.2 ⟨ag86, List.forall_mem_cons.2 ⟨ag87, List.forall_mem_cons.2 ⟨ag88, List.forall_mem_cons.2 ⟨ag89, List.forall_mem_cons.2 ⟨ag91, List.forall_mem_cons.2 ⟨ag92, List.forall_mem_cons.2 ⟨ag93, List.forall_mem_cons.2 ⟨ag94, List.forall_mem_cons.2 ⟨ag95, List.forall_mem_cons.2 ⟨ag98, List.forall_mem_cons.2 ⟨ag100, List.forall_mem_cons.2 ⟨ag101, List.forall_mem_cons.2 ⟨ag102, List.forall_mem_cons.2 ⟨ag103, List.forall_mem_cons.2 ⟨ag107, List.forall_mem_cons.2 ⟨ag108, List.forall_mem_cons.2 ⟨ag109, List.forall_mem_cons.2 ⟨ag110, List.forall_mem_cons.2 ⟨ag111, List.forall_mem_cons.2 ⟨ag112, List.forall_mem_cons.2 ⟨ag113, List.forall_mem_cons.2 ⟨ag114, List.forall_mem_cons.2 ⟨ag115, List.forall_mem_cons.2 ⟨ag116, List.forall_mem_cons.2 ⟨ag117, List.forall_mem_cons.2 ⟨ag119, List.forall_mem_cons.2 ⟨ag121, List.forall_mem_cons.2 ⟨ag122, List.forall_mem_cons.2 ⟨ag123, List.forall_mem_cons.2 ⟨ag124, List.forall_mem_cons.2 ⟨ag126, List.forall_mem_cons.2 ⟨ag127, List.forall_mem_cons.2 ⟨ag130, List.forall_mem_cons.2 ⟨ag131, List.forall_mem_cons.2 ⟨ag133, List.forall_mem_cons.2 ⟨ag134, List.forall_mem_cons.2 ⟨ag135, List.forall_mem_cons.2 ⟨ag138, List.forall_mem_cons.2 ⟨ag139, List.forall_mem_cons.2 ⟨ag140, List.forall_mem_cons.2 ⟨ag141, List.forall_mem_cons.2 ⟨ag143, List.forall_mem_cons.2 ⟨ag144, List.forall_mem_cons.2 ⟨ag148, List.forall_mem_cons.2 ⟨ag149, List.forall_mem_cons.2 ⟨ag150, List.forall_mem_cons.2 ⟨ag152, List.forall_mem_cons.2 ⟨ag153, List.forall_mem_cons.2 ⟨ag154, List.forall_mem_cons.2 ⟨ag156, List.forall_mem_cons.2 ⟨ag159, List.forall_mem_cons.2 ⟨ag161, List.forall_mem_cons.2 ⟨ag162, List.forall_mem_cons.2 ⟨ag163, List.forall_mem_cons.2 ⟨ag164, List.forall_mem_cons.2 ⟨ag165, List.forall_mem_cons.2 ⟨ag166, List.forall_mem_cons.2 ⟨ag167, List.forall_mem_cons.2 ⟨ag168, List.forall_mem_cons.2 ⟨ag169, List.forall_mem_cons.2 ⟨ag170, List.forall_mem_cons.2 ⟨ag171, List.forall_mem_cons.2 ⟨ag174, List.forall_mem_cons.2 ⟨ag175, List.forall_mem_cons.2 ⟨ag184, List.forall_mem_cons.2 ⟨ag185, fun _ h => absurd h List.not_mem_nil⟩⟩⟩⟩⟩⟩⟩⟩⟩⟩⟩⟩⟩⟩⟩⟩⟩⟩⟩⟩⟩⟩⟩⟩⟩⟩⟩⟩⟩⟩⟩⟩⟩⟩⟩⟩⟩⟩⟩⟩⟩⟩⟩⟩⟩⟩⟩⟩⟩⟩⟩⟩⟩⟩⟩⟩⟩⟩⟩⟩⟩⟩⟩⟩⟩⟩⟩⟩⟩⟩⟩⟩⟩⟩⟩⟩⟩⟩⟩⟩⟩⟩⟩⟩⟩⟩⟩⟩⟩⟩⟩⟩⟩⟩⟩⟩⟩⟩⟩⟩⟩⟩⟩⟩⟩⟩⟩⟩⟩⟩⟩⟩⟩⟩⟩⟩⟩⟩⟩⟩⟩⟩⟩⟩⟩⟩⟩⟩⟩⟩⟩⟩⟩⟩⟩⟩⟩⟩⟩⟩⟩⟩⟩⟩⟩⟩⟩⟩⟩⟩⟩⟩⟩⟩⟩⟩⟩⟩⟩⟩⟩⟩⟩⟩⟩⟩⟩⟩⟩⟩⟩⟩) t e h
  zero := fun t e h => lookup_all (p := fun t e => (Try.prog.info? t).map (·.zero) = some (some e)) (List.forall_mem_cons.2 ⟨zr2, List.forall_mem_cons.2 ⟨zr3, List.forall_mem_cons.2 ⟨zr5, List.forall_mem_cons.2 ⟨zr6, List.forall_mem_cons.2 ⟨zr12, List.forall_mem_cons.2 ⟨zr21, List.forall_mem_cons.2 ⟨zr26, List.forall_mem_cons.2 ⟨zr33, List.forall_mem_cons.2 ⟨zr38, List.forall_mem_cons.2 ⟨zr73, List.forall_mem_cons.2 ⟨zr181, List.forall_mem_cons.2 ⟨zr182, List.forall_mem_cons.2 ⟨zr183, List.forall_mem_cons.2 ⟨zr186, List.forall_mem_cons.2 ⟨zr187, List.forall_mem_cons.2 ⟨zr4, List.forall_mem_cons.2 ⟨zr23, List.forall_mem_cons.2 ⟨zr43, List.forall_mem_cons.2 ⟨zr45, List.forall_mem_cons.2 ⟨zr47, List.forall_mem_cons.2 ⟨zr58, List.forall_mem_cons.2 ⟨zr66, List.forall_mem_cons.2 ⟨zr69, List.forall_mem_cons.2 ⟨zr96, List.forall_mem_cons.2 ⟨zr99, List.forall_mem_cons.2 ⟨zr106, List.forall_mem_cons.2 ⟨zr132, List.forall_mem_cons.2 ⟨zr147, List.forall_mem_cons.2 ⟨zr173, List.forall_mem_cons.2 ⟨zr22, List.forall_mem_cons.2 ⟨zr29, List.forall_mem_cons.2 ⟨zr30, List.forall_mem_cons.2 ⟨zr40, List.forall_mem_cons.2 ⟨zr41, List.forall_mem_cons.2 ⟨zr48, List.forall_mem_cons.2 ⟨zr145, List.forall_mem_cons.2 ⟨zr157, List.forall_mem_cons.2 ⟨zr158, List.forall_mem_cons.2 ⟨zr160, List.forall_mem_cons.2 ⟨zr172, List.forall_mem_cons.2 ⟨zr178, List.forall_mem_cons.2 ⟨zr7, List.forall_mem_cons.2 ⟨zr8, List.forall_mem_cons.2 ⟨zr13, List.forall_mem_cons.2 ⟨zr14, List.forall_mem_cons.2 ⟨zr18, List.forall_mem_cons.2 ⟨zr19, List.forall_mem_cons.2 ⟨zr49, List.forall_mem_cons.2 ⟨zr50, List.forall_mem_cons.2 ⟨zr104, List.forall_mem_cons.2 ⟨zr105, List.forall_mem_cons.2 ⟨zr128, List.forall_mem_cons.2 ⟨zr129, List.forall_mem_cons.2 ⟨zr136, List.forall_mem_cons.2 ⟨zr137, List.forall_mem_cons.2 ⟨zr146, List.forall_mem_cons.2 ⟨zr176, List.forall_mem_cons.2 ⟨zr177, List.forall_mem_cons.2 ⟨zr179, List.forall_mem_cons.2 ⟨zr180, List.forall_mem_cons.2 ⟨zr188, List.forall_mem_cons.2 ⟨zr189, List.forall_mem_cons.2 ⟨zr1, List.forall_mem_cons.2 ⟨zr9, List.forall_mem_cons.2 ⟨zr10, List.forall_mem_cons.2 ⟨zr11, List.forall_mem_cons.2 ⟨zr15, List.forall_mem_cons.2 ⟨zr16, List.forall_mem_cons.2 ⟨zr17, List.forall_mem_cons.2 ⟨zr20, List.forall_mem_cons.2 ⟨zr24, List.forall_mem_cons.2 ⟨zr25, List.forall_mem_cons.2 ⟨zr28, List.forall_mem_cons.2 ⟨zr32, List.forall_mem_cons.2 ⟨zr35, List.forall_mem_cons.2 ⟨zr36, List.forall_mem_cons.2 ⟨zr37, List.forall_mem_cons.2 ⟨zr39, List.forall_mem_cons.2 ⟨zr42, List.forall_mem_cons.2 ⟨zr44, List.forall_mem_cons.2 ⟨zr46, List.forall_mem_cons.2 ⟨zr52, List.forall_mem_cons.2 ⟨zr53, List.forall_mem_cons.2 ⟨zr54, List.forall_mem_cons.2 ⟨zr55, List.forall_mem_cons.2 ⟨zr56, List.forall_mem_cons.2 ⟨zr57, List.forall_mem_cons.2 ⟨zr60, List.forall_mem_cons.2 ⟨zr61, List.forall_mem_cons.2 ⟨zr62, List.forall_mem_cons.2 ⟨zr63, List.forall_mem_cons.2 ⟨zr65, List.forall_mem_cons.2 ⟨zr67, List.forall_mem_cons.2 ⟨zr68, List.forall_mem_cons.2 ⟨zr71, List.forall_mem_cons.2 ⟨zr72, List.forall_mem_cons.2 ⟨zr74, List.forall_mem_cons.2 ⟨zr75, List.forall_mem_cons.2 ⟨zr77, List.forall_mem_cons.2 ⟨zr78, List.forall_mem_cons.2 ⟨zr79, List.forall_mem_cons.2 ⟨zr80, List.forall_mem_cons.2 ⟨zr82, List.forall_mem_cons.2 ⟨zr83, List.forall_mem_cons.2 ⟨zr84, List.forall_mem_cons.2 ⟨zr85, List.forall_mem_cons.2 ⟨zr86, List.forall_mem_cons.2 ⟨zr87, List.forall_mem_cons.2 ⟨zr88, List.forall_mem_cons.2 ⟨zr89, List.forall_mem_cons.2 ⟨zr91, List.forall_mem_cons.2 ⟨zr92, List.forall_mem_cons.2 ⟨zr93, List.forall_mem_cons.2 ⟨zr94, List.forall_mem_cons.2 ⟨zr95, List.forall_mem_cons.2 ⟨zr98, List.forall_mem_cons.2 ⟨zr100, List.forall_mem_cons.2 ⟨zr101, List.forall_mem_cons.2 ⟨zr102, List.forall_mem_cons.2 ⟨zr103, List.forall_mem_cons.2 ⟨zr107, List.forall_mem_cons.2 ⟨zr108, List.forall_mem_cons.2 ⟨zr109, List.forall_mem_cons.2 ⟨zr110, List.forall_mem_cons.2 ⟨zr111, List.forall_mem_cons.2 ⟨zr112, List.forall_mem_cons.2 ⟨zr113, List.forall_mem_cons.2 ⟨zr114, List.forall_mem_cons.2 ⟨zr115, List.forall_mem_cons.2 ⟨zr116, List.forall_mem_cons.2 ⟨zr117, List.forall_mem_cons.2 ⟨zr119, List.forall_mem_cons.2 ⟨zr121, List.forall_mem_cons.2 ⟨zr122, List.forall_mem_cons.2 ⟨zr123, List.forall_mem_cons.2 ⟨zr124, List.forall_mem_cons.2 ⟨zr126, List.forall_mem_cons.2 ⟨zr127, List.forall_mem_cons.2 ⟨zr130, List.forall_mem_cons.2 ⟨zr131, List.forall_mem_cons.2 ⟨zr133, List.forall_mem_cons.2 ⟨zr134, List.forall_mem_cons.2 ⟨zr135, List.forall_mem_cons.2 ⟨zr138, List.forall_mem_cons.2 ⟨zr139, List.forall_mem_cons.2 ⟨zr140, List.forall_mem_cons.2 ⟨zr141, List.forall_mem_cons.2 ⟨zr143, List.forall_mem_cons.2 ⟨zr144, List.forall_mem_cons.2 ⟨zr148, List.forall_mem_cons.2 ⟨zr149, List.forall_mem_cons.2 ⟨zr150, List.forall_mem_cons.2 ⟨zr152, List.forall_mem_cons.2 ⟨zr153, List.forall_mem_cons.2 ⟨zr154, List.forall_mem_cons.2 ⟨zr156, List.forall_mem_cons.2 ⟨zr159, List.forall_mem_cons.2 ⟨zr161, List.forall_mem_cons.2 ⟨zr162, List.forall_mem_cons.2 ⟨zr163, List.forall_mem_cons.2 ⟨zr164, List.forall_mem_cons.2 ⟨zr165, List.forall_mem_cons.2 ⟨zr166, List.forall_mem_cons.2 ⟨zr167, List.forall_mem_cons.2 ⟨zr168, List.forall_mem_cons.2 ⟨zr169, List.forall_mem_cons.2 ⟨zr170, List.forall_mem_cons.2 ⟨zr171, List.forall_mem_cons.2 ⟨zr174, List.forall_mem_cons.2 ⟨zr175, List.forall_mem_cons.2 ⟨zr184, List.forall_mem_cons.2 ⟨zr185, fun _ h => absurd h List.not_mem_nil⟩⟩⟩⟩⟩⟩⟩⟩⟩⟩⟩⟩⟩⟩⟩⟩⟩⟩⟩⟩⟩⟩⟩⟩⟩⟩⟩⟩⟩⟩⟩⟩⟩⟩⟩⟩⟩⟩⟩⟩⟩⟩⟩⟩⟩⟩⟩⟩⟩⟩⟩⟩⟩⟩⟩⟩⟩⟩⟩⟩⟩⟩⟩⟩⟩⟩⟩⟩⟩⟩⟩⟩⟩⟩⟩⟩⟩⟩⟩⟩⟩⟩⟩⟩⟩⟩⟩⟩⟩⟩⟩⟩⟩⟩⟩⟩⟩⟩⟩⟩⟩⟩⟩⟩⟩⟩⟩⟩⟩⟩⟩⟩⟩⟩⟩⟩⟩⟩⟩⟩⟩⟩⟩⟩⟩⟩⟩⟩⟩⟩⟩⟩⟩⟩⟩⟩⟩⟩⟩⟩⟩⟩⟩⟩⟩⟩⟩⟩⟩⟩⟩⟩⟩⟩⟩⟩⟩⟩⟩⟩⟩⟩⟩⟩⟩⟩⟩⟩⟩⟩⟩⟩) t e h
  by' := fun t e h => lookup_all (p := fun t e => (Try.prog.info? t).map (·.bytes) = some e) (List.forall_mem_cons.2 ⟨by2, List.forall_mem_cons.2 ⟨by3, List.forall_mem_cons.2 ⟨by5, List.forall_mem_cons.2 ⟨by6, List.forall_mem_cons.2 ⟨by12, List.forall_mem_cons.2 ⟨by21, List.forall_mem_cons.2 ⟨by26, List.forall_mem_cons.2 ⟨by33, List.forall_mem_cons.2 ⟨by38, List.forall_mem_cons.2 ⟨by73, List.forall_mem_cons.2 ⟨by181, List.forall_mem_cons.2 ⟨by182, List.forall_mem_cons.2 ⟨by183, List.forall_mem_cons.2 ⟨by186, List.forall_mem_cons.2 ⟨by187, List.forall_mem_cons.2 ⟨by4, List.forall_mem_cons.2 ⟨by23, List.forall_mem_cons.2 ⟨by43, List.forall_mem_cons.2 ⟨by45, List.forall_mem_cons.2 ⟨by47, List.forall_mem_cons.2 ⟨by58, List.forall_mem_cons.2 ⟨by66, List.forall_mem_cons.2 ⟨by69, List.forall_mem_cons.2 ⟨by96, List.forall_mem_cons.2 ⟨by99, List.forall_mem_cons.2 ⟨by106, List.forall_mem_cons.2 ⟨by132, List.forall_mem_cons.2 ⟨by147, List.forall_mem_cons.2 ⟨by173, List.forall_mem_cons.2 ⟨by22, List.forall_mem_cons.2 ⟨by29, List.forall_mem_cons.2 ⟨by30, List.forall_mem_cons.2 ⟨by40, List.forall_mem_cons.2 ⟨by41, List.forall_mem_cons.2 ⟨by48, List.forall_mem_cons.2 ⟨by145, List.forall_mem_cons.2 ⟨by157, List.forall_mem_cons.2 ⟨by158, List.forall_mem_cons.2 ⟨by160, List.forall_mem_cons.2 ⟨by172, List.forall_mem_cons.2 ⟨by178, List.forall_mem_cons.2 ⟨by7, List.forall_mem_cons.2 ⟨by8, List.forall_mem_cons.2 ⟨by13, List.forall_mem_cons.2 ⟨by14, List.forall_mem_cons.2 ⟨by18, List.forall_mem_cons.2 ⟨by19, List.forall_mem_cons.2 ⟨by49, List.forall_mem_cons.2 ⟨by50, List.forall_mem_cons.2 ⟨by104, List.forall_mem_cons.2 ⟨by105, List.forall_mem_cons.2 ⟨by128, List.forall_mem_cons.2 ⟨by129, List.forall_mem_cons.2 ⟨by136, List.forall_mem_cons.2 ⟨by137, List.forall_mem_cons.2 ⟨by146, List.forall_mem_cons.2 ⟨by176, List.forall_mem_cons.2 ⟨by177, List.forall_mem_cons.2 ⟨by179, List.forall_mem_cons.2 ⟨by180, List.forall_mem_cons.2 ⟨by188, List.forall_mem_cons.2 ⟨by189, List.forall_mem_cons.2 ⟨by1, List.forall_mem_cons.2 ⟨by9, List.forall_mem_cons.2 ⟨by10, List.forall_mem_cons.2 ⟨by11, List.forall_mem_cons.2 ⟨by15, List.forall_mem_cons.2 ⟨by16, List.forall_mem_cons.2 ⟨by17, List.forall_mem_cons.2 ⟨by20, List.forall_mem_cons.2 ⟨by24, List.forall_mem_cons.2 ⟨by25, List.forall_mem_cons.2 ⟨by28, List.forall_mem_cons.2 ⟨by32, List.forall_mem_cons.2 ⟨by35, List.forall_mem_cons.2 ⟨by36, List.forall_mem_cons.2 ⟨by37, List.forall_mem_cons.2 ⟨by39, List.forall_mem_cons.2 ⟨by42, List.forall_mem_cons.2 ⟨by44, List.forall_mem_cons.2 ⟨by46, List.forall_mem_cons.2 ⟨by52, List.forall_mem_cons.2 ⟨by53, List.forall_mem_cons.2 ⟨by54, List.forall_mem_cons.2 ⟨by55, List.forall_mem_cons.2 ⟨by56, List.forall_mem_cons.2 ⟨by57, List.forall_mem_cons.2 ⟨by60, List.forall_mem_cons.2 ⟨by61, List.forall_mem_cons.2 ⟨by62, List.forall_mem_cons.2 ⟨by63, List.forall_mem_cons.2 ⟨by65, List.forall_mem_cons.2 ⟨by67, List.forall_mem_cons.2 ⟨by68, List.forall_mem_cons.2 ⟨by71, List.forall_mem_cons.2 ⟨by72, List.forall_mem_cons.2 ⟨by74, List.forall_mem_cons.2 ⟨by75, List.forall_mem_cons.2 ⟨by77, List.forall_mem_cons.2 ⟨by78, List.forall_mem_cons.2 ⟨by79, List.forall_mem_cons.2 ⟨by80, List.forall_mem_cons.2 ⟨by82, List.forall_mem_cons.2 ⟨by83, List.forall_mem_cons.2 ⟨by84, List.forall_mem_cons.2 ⟨by85, List.forall_mem_cons.2 ⟨by86, List.forall_mem_cons.2 ⟨by87, List.forall_mem_cons.2 ⟨by88, List.forall_mem_cons.2 ⟨by89, List.forall_mem_cons.2 ⟨by91, List.forall_mem_cons.2 ⟨by92, List.forall_mem_cons.2 ⟨by93, List.forall_mem_cons.2 ⟨by94, List.forall_mem_cons.2 ⟨by95, List.forall_mem_cons.2 ⟨by98, List.forall_mem_cons.2 ⟨by100, List.forall_mem_cons.2 ⟨by101, List.forall_mem_cons.2 ⟨by102, List.forall_mem_cons.2 ⟨by103, List.forall_mem_cons.2 ⟨by107, List.forall_mem_cons.2 ⟨by108, List.forall_mem_cons.2 ⟨by109, List.forall_mem_cons.2 ⟨by110, List.forall_mem_cons.2 ⟨by111, List.forall_mem_cons.2 ⟨by112, List.forall_mem_cons.2 ⟨by113, List.forall_mem_cons.2 ⟨by114, List.forall_mem_cons.2 ⟨by115, List.forall_mem_cons.2 ⟨by116, List.forall_mem_cons.2 ⟨by117, List.forall_mem_cons.2 ⟨by119, List.forall_mem_cons.2 ⟨by121, List.forall_mem_cons.2 ⟨by122, List.forall_mem_cons.2 ⟨by123, List.forall_mem_cons.2 ⟨by124, List.forall_mem_cons.2 ⟨by126, List.forall_mem_cons.2 ⟨by127, List.forall_mem_cons.2 ⟨by130, List.forall_mem_cons.2 ⟨by131, List.forall_mem_cons.2 ⟨by133, List.forall_mem_cons.2 ⟨by134, List.forall_mem_cons.2 ⟨by135, List.forall_mem_cons.2 ⟨by138, List.forall_mem_cons.2 ⟨by139, List.forall_mem_cons.2 ⟨by140, List.forall_mem_cons.2 ⟨by141, List.forall_mem_cons.2 ⟨by143, List.forall_mem_cons.2 ⟨by144, List.forall_mem_cons.2 ⟨by148, List.forall_mem_cons.2 ⟨by149, List.forall_mem_cons.2 ⟨by150, List.forall_mem_cons.2 ⟨by152, List.forall_mem_cons.2 ⟨by153, List.forall_mem_cons.2 ⟨by154, List.forall_mem_cons.2 ⟨by156, List.forall_mem_cons.2 ⟨by159, List.forall_mem_cons.2 ⟨by161, List.forall_mem_cons.2 ⟨by162, List.forall_mem_cons.2 ⟨by163, List.forall_mem_cons.2 ⟨by164, List.forall_mem_cons.2 ⟨by165, List.forall_mem_cons.2 ⟨by166, List.forall_mem_cons.2 ⟨by167, List.forall_mem_cons.2 ⟨by168, List.forall_mem_cons.2 ⟨by169, List.forall_mem_cons.2 ⟨by170, List.forall_mem_cons.2 ⟨by171, List.forall_mem_cons.2 ⟨by174, List.forall_mem_cons.2 ⟨by175, List.forall_mem_cons.2 ⟨by184, List.forall_mem_cons.2 ⟨by185, fun _ h => absurd h List.not_mem_nil⟩⟩⟩⟩⟩⟩⟩⟩⟩⟩⟩⟩⟩⟩⟩⟩⟩⟩⟩⟩⟩⟩⟩⟩⟩⟩⟩⟩⟩⟩⟩⟩⟩⟩⟩⟩⟩⟩⟩⟩⟩⟩⟩⟩⟩⟩⟩⟩⟩⟩⟩⟩⟩⟩⟩⟩⟩⟩⟩⟩⟩⟩⟩⟩⟩⟩⟩⟩⟩⟩⟩⟩⟩⟩⟩⟩⟩⟩⟩⟩⟩⟩⟩⟩⟩⟩⟩⟩⟩⟩⟩⟩⟩⟩⟩⟩⟩⟩⟩⟩⟩⟩⟩⟩⟩⟩⟩⟩⟩⟩⟩⟩⟩⟩⟩⟩⟩⟩⟩⟩⟩⟩⟩⟩⟩⟩⟩⟩⟩⟩⟩⟩⟩⟩⟩⟩⟩⟩⟩⟩⟩⟩⟩⟩⟩⟩⟩⟩⟩⟩⟩⟩⟩⟩⟩⟩⟩⟩⟩⟩⟩⟩⟩⟩⟩⟩⟩⟩⟩⟩⟩⟩) t e h
  fld := fun t f o t' h => lookup_all (p := fun x y => ∃ fs fd, Try.prog.underlying x.1 = some (.struct fs) ∧ fs[x.2]? = some fd ∧ fd.offset = y.1 ∧ fd.type = y.2) (List.forall_mem_cons.2 ⟨⟨_, _, Try.underlying7, rfl, rfl, rfl⟩, List.forall_mem_cons.2 ⟨⟨_, _, Try.underlying7, rfl, rfl, rfl⟩, List.forall_mem_cons.2 ⟨⟨_, _, Try.underlying7, rfl, rfl, rfl⟩, List.forall_mem_cons.2 ⟨⟨_, _, Try.underlying7, rfl, rfl, rfl⟩, List.forall_mem_cons.2 ⟨⟨_, _, Try.underlying8, rfl, rfl, rfl⟩, List.forall_mem_cons.2 ⟨⟨_, _, Try.underlying8, rfl, rfl, rfl⟩, List.forall_mem_cons.2 ⟨⟨_, _, Try.underlying8, rfl, rfl, rfl⟩, List.forall_mem_cons.2 ⟨⟨_, _, Try.underlying8, rfl, rfl, rfl⟩, List.forall_mem_cons.2 ⟨⟨_, _, Try.underlying13, rfl, rfl, rfl⟩, List.forall_mem_cons.2 ⟨⟨_, _, Try.underlying13, rfl, rfl, rfl⟩, List.forall_mem_cons.2 ⟨⟨_, _, Try.underlying14, rfl, rfl, rfl⟩, List.forall_mem_cons.2 ⟨⟨_, _, Try.underlying14, rfl, rfl, rfl⟩, List.forall_mem_cons.2 ⟨⟨_, _, Try.underlying18, rfl, rfl, rfl⟩, List.forall_mem_cons.2 ⟨⟨_, _, Try.underlying19, rfl, rfl, rfl⟩, List.forall_mem_cons.2 ⟨⟨_, _, Try.underlying49, rfl, rfl, rfl⟩, List.forall_mem_cons.2 ⟨⟨_, _, Try.underlying50, rfl, rfl, rfl⟩, List.forall_mem_cons.2 ⟨⟨_, _, Try.underlying104, rfl, rfl, rfl⟩, List.forall_mem_cons.2 ⟨⟨_, _, Try.underlying104, rfl, rfl, rfl⟩, List.forall_mem_cons.2 ⟨⟨_, _, Try.underlying105, rfl, rfl, rfl⟩, List.forall_mem_cons.2 ⟨⟨_, _, Try.underlying105, rfl, rfl, rfl⟩, List.forall_mem_cons.2 ⟨⟨_, _, Try.underlying128, rfl, rfl, rfl⟩, List.forall_mem_cons.2 ⟨⟨_, _, Try.underlying128, rfl, rfl, rfl⟩, List.forall_mem_cons.2 ⟨⟨_, _, Try.underlying129, rfl, rfl, rfl⟩, List.forall_mem_cons.2 ⟨⟨_, _, Try.underlying129, rfl, rfl, rfl⟩, List.forall_mem_cons.2 ⟨⟨_, _, Try.underlying136, rfl, rfl, rfl⟩, List.forall_mem_cons.2 ⟨⟨_, _, Try.underlying136, rfl, rfl, rfl⟩, List.forall_mem_cons.2 ⟨⟨_, _, Try.underlying136, rfl, rfl, rfl⟩, List.forall_mem_cons.2 ⟨⟨_, _, Try.underlying137, rfl, rfl, rfl⟩, List.forall_mem_cons.2 ⟨⟨_, _, Try.underlying137, rfl, rfl, rfl⟩, List.forall_mem_cons.2 ⟨⟨_, _, Try.underlying137, rfl, rfl, rfl⟩, List.forall_mem_cons.2 ⟨⟨_, _, Try.underlying146, rfl, rfl, rfl⟩, List.forall_mem_cons.2 ⟨⟨_, _, Try.underlying146, rfl, rfl, rfl⟩, List.forall_mem_cons.2 ⟨⟨_, _, Try.underlying176, rfl, rfl, rfl⟩, List.forall_mem_cons.2 ⟨⟨_, _, Try.underlying176, rfl, rfl, rfl⟩, List.forall_mem_cons.2 ⟨⟨_, _, Try.underlying176, rfl, rfl, rfl⟩, List.forall_mem_cons.2 ⟨⟨_, _, Try.underlying176, rfl, rfl, rfl⟩, List.forall_mem_cons.2 ⟨⟨_, _, Try.underlying177, rfl, rfl, rfl⟩, List.forall_mem_cons.2 ⟨⟨_, _, Try.underlying177, rfl, rfl, rfl⟩, List.forall_mem_cons.2 ⟨⟨_, _, Try.underlying177, rfl, rfl, rfl⟩, List.forall_mem_cons.2 ⟨⟨_, _, Try.underlying177, rfl, rfl, rfl⟩, List.forall_mem_cons.2 ⟨⟨_, _, Try.underlying179, rfl, rfl, rfl⟩, List.forall_mem_cons.2 ⟨⟨_, _, Try.underlying180, rfl, rfl, rfl⟩, List.forall_mem_cons.2 ⟨⟨_, _, Try.underlying188, rfl, rfl, rfl⟩, List.forall_mem_cons.2 ⟨⟨_, _, Try.underlying188, rfl, rfl, rfl⟩, List.forall_mem_cons.2 ⟨⟨_, _, Try.underlying188, rfl, rfl, rfl⟩, List.forall_mem_cons.2 ⟨⟨_, _, Try.underlying188, rfl, rfl, rfl⟩, List.forall_mem_cons.2 ⟨⟨_, _, Try.underlying188, rfl, rfl, rfl⟩, List.forall_mem_cons.2 ⟨⟨_, _, Try.underlying188, rfl, rfl, rfl⟩, List.forall_mem_cons.2 ⟨⟨_, _, Try.underlying188, rfl, rfl, rfl⟩, List.forall_mem_cons.2 ⟨⟨_, _, Try.underlying188, rfl, rfl, rfl⟩, List.forall_mem_cons.2 ⟨⟨_, _, Try.underlying188, rfl, rfl, rfl⟩, List.forall_mem_cons.2 ⟨⟨_, _, Try.underlying188, rfl, rfl, rfl⟩, List.forall_mem_cons.2 ⟨⟨_, _, Try.underlying188, rfl, rfl, rfl⟩, List.forall_mem_cons.2 ⟨⟨_, _, Try.underlying189, rfl, rfl, rfl⟩, List.forall_mem_cons.2 ⟨⟨_, _, Try.underlying189, rfl, rfl, rfl⟩, List.forall_mem_cons.2 ⟨⟨_, _, Try.underlying189, rfl, rfl, rfl⟩, List.forall_mem_cons.2 ⟨⟨_, _, Try.underlying189, rfl, rfl, rfl⟩, List.forall_mem_cons.2 ⟨⟨_, _, Try.underlying189, rfl, rfl, rfl⟩, List.forall_mem_cons.2 ⟨⟨_, _, Try.underlying189, rfl, rfl, rfl⟩, List.forall_mem_cons.2 ⟨⟨_, _, Try.underlying189, rfl, rfl, rfl⟩, List.forall_mem_cons.2 ⟨⟨_, _, Try.underlying189, rfl, rfl, rfl⟩, List.forall_mem_cons.2 ⟨⟨_, _, Try.underlying189, rfl, rfl, rfl⟩, List.forall_mem_cons.2 ⟨⟨_, _, Try.underlying189, rfl, rfl, rfl⟩, List.forall_mem_cons.2 ⟨⟨_, _, Try.underlying189, rfl, rfl, rfl⟩, fun _ h => absurd h List.not_mem_nil⟩⟩⟩⟩⟩⟩⟩⟩⟩⟩⟩⟩⟩⟩⟩⟩⟩⟩⟩⟩⟩⟩⟩⟩⟩⟩⟩⟩⟩⟩⟩⟩⟩⟩⟩⟩⟩⟩⟩⟩⟩⟩⟩⟩⟩⟩⟩⟩⟩⟩⟩⟩⟩⟩⟩⟩⟩⟩⟩⟩⟩⟩⟩⟩) (t, f) (o, t') h
theorem pl7 : ∃ fs, Try.prog.underlying 7 = some (.struct fs) ∧ placesOf Try.prog fs [(0, 1), (1, 1), (2, 1), (3, 1)] :=
  ⟨_, Try.underlying7, rfl, fun k f q h1 h2 => by
    rcases k with _ | k
    · cases h1; cases h2; exact ⟨rfl, sz2⟩
    rcases k with _ | k
    · cases h1; cases h2; exact ⟨rfl, sz3⟩
    rcases k with _ | k
    · cases h1; cases h2; exact ⟨rfl, sz4⟩
    rcases k with _ | k
    · cases h1; cases h2; exact ⟨rfl, sz6⟩
    cases h2⟩
theorem pl8 : ∃ fs, Try.prog.underlying 8 = some (.struct fs) ∧ placesOf Try.prog fs [(0, 1), (1, 1), (2, 1), (3, 1)] :=
  ⟨_, Try.underlying8, rfl, fun k f q h1 h2 => by
    rcases k with _ | k
    · cases h1; cases h2; exact ⟨rfl, sz2⟩
    rcases k with _ | k
    · cases h1; cases h2; exact ⟨rfl, sz3⟩
    rcases k with _ | k
    · cases h1; cases h2; exact ⟨rfl, sz4⟩
    rcases k with _ | k
    · cases h1; cases h2; exact ⟨rfl, sz6⟩
    cases h2⟩
theorem pl13 : ∃ fs, Try.prog.underlying 13 = some (.struct fs) ∧ placesOf Try.prog fs [(0, 1), (1, 1)] :=
  ⟨_, Try.underlying13, rfl, fun k f q h1 h2 => by
    rcases k with _ | k
    · cases h1; cases h2; exact ⟨rfl, sz9⟩
    rcases k with _ | k
    · cases h1; cases h2; exact ⟨rfl, sz12⟩
    cases h2⟩
theorem pl14 : ∃ fs, Try.prog.underlying 14 = some (.struct fs) ∧ placesOf Try.prog fs [(0, 1), (1, 1)] :=
  ⟨_, Try.underlying14, rfl, fun k f q h1 h2 => by
    rcases k with _ | k
    · cases h1; cases h2; exact ⟨rfl, sz9⟩
    rcases k with _ | k
    · cases h1; cases h2; exact ⟨rfl, sz12⟩
    cases h2⟩
theorem pl18 : ∃ fs, Try.prog.underlying 18 = some (.struct fs) ∧ placesOf Try.prog fs [(0, 1)] :=
  ⟨_, Try.underlying18, rfl, fun k f q h1 h2 => by
    rcases k with _ | k
    · cases h1; cases h2; exact ⟨rfl, sz17⟩
    cases h2⟩
theorem pl19 : ∃ fs, Try.prog.underlying 19 = some (.struct fs) ∧ placesOf Try.prog fs [(0, 1)] :=
  ⟨_, Try.underlying19, rfl, fun k f q h1 h2 => by
    rcases k with _ | k
    · cases h1; cases h2; exact ⟨rfl, sz17⟩
    cases h2⟩
theorem pl49 : ∃ fs, Try.prog.underlying 49 = some (.struct fs) ∧ placesOf Try.prog fs [(0, 4)] :=
  ⟨_, Try.underlying49, rfl, fun k f q h1 h2 => by
    rcases k with _ | k
    · cases h1; cases h2; exact ⟨rfl, sz48⟩
    cases h2⟩
theorem pl50 : ∃ fs, Try.prog.underlying 50 = some (.struct fs) ∧ placesOf Try.prog fs [(0, 4)] :=
  ⟨_, Try.underlying50, rfl, fun k f q h1 h2 => by
    rcases k with _ | k
    · cases h1; cases h2; exact ⟨rfl, sz48⟩
    cases h2⟩
theorem pl104 : ∃ fs, Try.prog.underlying 104 = some (.struct fs) ∧ placesOf Try.prog fs [(0, 1), (1, 1)] :=
  ⟨_, Try.underlying104, rfl, fun k f q h1 h2 => by
    rcases k with _ | k
    · cases h1; cases h2; exact ⟨rfl, sz3⟩
    rcases k with _ | k
    · cases h1; cases h2; exact ⟨rfl, sz33⟩
    cases h2⟩
theorem pl105 : ∃ fs, Try.prog.underlying 105 = some (.struct fs) ∧ placesOf Try.prog fs [(0, 1), (1, 1)] :=
  ⟨_, Try.underlying105, rfl, fun k f q h1 h2 => by
    rcases k with _ | k
    · cases h1; cases h2; exact ⟨rfl, sz3⟩
    rcases k with _ | k
    · cases h1; cases h2; exact ⟨rfl, sz33⟩
    cases h2⟩
theorem pl128 : ∃ fs, Try.prog.underlying 128 = some (.struct fs) ∧ placesOf Try.prog fs [(0, 80), (80, 1)] :=
  ⟨_, Try.underlying128, rfl, fun k f q h1 h2 => by
    rcases k with _ | k
    · cases h1; cases h2; exact ⟨rfl, sz29⟩
    rcases k with _ | k
    · cases h1; cases h2; exact ⟨rfl, sz3⟩
    cases h2⟩
theorem pl129 : ∃ fs, Try.prog.underlying 129 = some (.struct fs) ∧ placesOf Try.prog fs [(0, 80), (80, 1)] :=
  ⟨_, Try.underlying129, rfl, fun k f q h1 h2 => by
    rcases k with _ | k
    · cases h1; cases h2; exact ⟨rfl, sz29⟩
    rcases k with _ | k
    · cases h1; cases h2; exact ⟨rfl, sz3⟩
    cases h2⟩
theorem pl136 : ∃ fs, Try.prog.underlying 136 = some (.struct fs) ∧ placesOf Try.prog fs [(0, 1), (1, 1), (2, 1)] :=
  ⟨_, Try.underlying136, rfl, fun k f q h1 h2 => by
    rcases k with _ | k
    · cases h1; cases h2; exact ⟨rfl, sz43⟩
    rcases k with _ | k
    · cases h1; cases h2; exact ⟨rfl, sz33⟩
    rcases k with _ | k
    · cases h1; cases h2; exact ⟨rfl, sz43⟩
    cases h2⟩
theorem pl137 : ∃ fs, Try.prog.underlying 137 = some (.struct fs) ∧ placesOf Try.prog fs [(0, 1), (1, 1), (2, 1)] :=
  ⟨_, Try.underlying137, rfl, fun k f q h1 h2 => by
    rcases k with _ | k
    · cases h1; cases h2; exact ⟨rfl, sz43⟩
    rcases k with _ | k
    · cases h1; cases h2; exact ⟨rfl, sz33⟩
    rcases k with _ | k
    · cases h1; cases h2; exact ⟨rfl, sz43⟩
    cases h2⟩
theorem pl146 : ∃ fs, Try.prog.underlying 146 = some (.struct fs) ∧ placesOf Try.prog fs [(0, 1), (1, 1)] :=
  ⟨_, Try.underlying146, rfl, fun k f q h1 h2 => by
    rcases k with _ | k
    · cases h1; cases h2; exact ⟨rfl, sz3⟩
    rcases k with _ | k
    · cases h1; cases h2; exact ⟨rfl, sz33⟩
    cases h2⟩
theorem pl176 : ∃ fs, Try.prog.underlying 176 = some (.struct fs) ∧ placesOf Try.prog fs [(0, 1), (1, 1), (2, 1), (3, 1)] :=
  ⟨_, Try.underlying176, rfl, fun k f q h1 h2 => by
    rcases k with _ | k
    · cases h1; cases h2; exact ⟨rfl, sz17⟩
    rcases k with _ | k
    · cases h1; cases h2; exact ⟨rfl, sz17⟩
    rcases k with _ | k
    · cases h1; cases h2; exact ⟨rfl, sz17⟩
    rcases k with _ | k
    · cases h1; cases h2; exact ⟨rfl, sz9⟩
    cases h2⟩
theorem pl177 : ∃ fs, Try.prog.underlying 177 = some (.struct fs) ∧ placesOf Try.prog fs [(0, 1), (1, 1), (2, 1), (3, 1)] :=
  ⟨_, Try.underlying177, rfl, fun k f q h1 h2 => by
    rcases k with _ | k
    · cases h1; cases h2; exact ⟨rfl, sz17⟩
    rcases k with _ | k
    · cases h1; cases h2; exact ⟨rfl, sz17⟩
    rcases k with _ | k
    · cases h1; cases h2; exact ⟨rfl, sz17⟩
    rcases k with _ | k
    · cases h1; cases h2; exact ⟨rfl, sz9⟩
    cases h2⟩
theorem pl179 : ∃ fs, Try.prog.underlying 179 = some (.struct fs) ∧ placesOf Try.prog fs [(0, 0)] :=
  ⟨_, Try.underlying179, rfl, fun k f q h1 h2 => by
    rcases k with _ | k
    · cases h1; cases h2; exact ⟨rfl, sz178⟩
    cases h2⟩
theorem pl180 : ∃ fs, Try.prog.underlying 180 = some (.struct fs) ∧ placesOf Try.prog fs [(0, 0)] :=
  ⟨_, Try.underlying180, rfl, fun k f q h1 h2 => by
    rcases k with _ | k
    · cases h1; cases h2; exact ⟨rfl, sz178⟩
    cases h2⟩
theorem pl188 : ∃ fs, Try.prog.underlying 188 = some (.struct fs) ∧ placesOf Try.prog fs [(0, 1), (1, 1), (2, 1), (3, 1), (4, 1), (5, 1), (6, 1), (7, 1), (8, 1), (9, 1), (10, 1)] :=
  ⟨_, Try.underlying188, rfl, fun k f q h1 h2 => by
    rcases k with _ | k
    · cases h1; cases h2; exact ⟨rfl, sz12⟩
    rcases k with _ | k
    · cases h1; cases h2; exact ⟨rfl, sz12⟩
    rcases k with _ | k
    · cases h1; cases h2; exact ⟨rfl, sz181⟩
    rcases k with _ | k
    · cases h1; cases h2; exact ⟨rfl, sz182⟩
    rcases k with _ | k
    · cases h1; cases h2; exact ⟨rfl, sz5⟩
    rcases k with _ | k
    · cases h1; cases h2; exact ⟨rfl, sz5⟩
    rcases k with _ | k
    · cases h1; cases h2; exact ⟨rfl, sz183⟩
    rcases k with _ | k
    · cases h1; cases h2; exact ⟨rfl, sz184⟩
    rcases k with _ | k
    · cases h1; cases h2; exact ⟨rfl, sz185⟩
    rcases k with _ | k
    · cases h1; cases h2; exact ⟨rfl, sz186⟩
    rcases k with _ | k
    · cases h1; cases h2; exact ⟨rfl, sz187⟩
    cases h2⟩
theorem pl189 : ∃ fs, Try.prog.underlying 189 = some (.struct fs) ∧ placesOf Try.prog fs [(0, 1), (1, 1), (2, 1), (3, 1), (4, 1), (5, 1), (6, 1), (7, 1), (8, 1), (9, 1), (10, 1)] :=
  ⟨_, Try.underlying189, rfl, fun k f q h1 h2 => by
    rcases k with _ | k
    · cases h1; cases h2; exact ⟨rfl, sz12⟩
    rcases k with _ | k
    · cases h1; cases h2; exact ⟨rfl, sz12⟩
    rcases k with _ | k
    · cases h1; cases h2; exact ⟨rfl, sz181⟩
    rcases k with _ | k
    · cases h1; cases h2; exact ⟨rfl, sz182⟩
    rcases k with _ | k
    · cases h1; cases h2; exact ⟨rfl, sz5⟩
    rcases k with _ | k
    · cases h1; cases h2; exact ⟨rfl, sz5⟩
    rcases k with _ | k
    · cases h1; cases h2; exact ⟨rfl, sz183⟩
    rcases k with _ | k
    · cases h1; cases h2; exact ⟨rfl, sz184⟩
    rcases k with _ | k
    · cases h1; cases h2; exact ⟨rfl, sz185⟩
    rcases k with _ | k
    · cases h1; cases h2; exact ⟨rfl, sz186⟩
    rcases k with _ | k
    · cases h1; cases h2; exact ⟨rfl, sz187⟩
    cases h2⟩
theorem mixed : Try.prog.follows .mixedOrders = true := by kernel_rfl
theorem bd3 : Bodied Try.prog 3 := ⟨_, Try.func3, by kernel_rfl, by kernel_rfl⟩
theorem bd4 : Bodied Try.prog 4 := ⟨_, Try.func4, by kernel_rfl, by kernel_rfl⟩
theorem bd5 : Bodied Try.prog 5 := ⟨_, Try.func5, by kernel_rfl, by kernel_rfl⟩
theorem bd6 : Bodied Try.prog 6 := ⟨_, Try.func6, by kernel_rfl, by kernel_rfl⟩
theorem bd7 : Bodied Try.prog 7 := ⟨_, Try.func7, by kernel_rfl, by kernel_rfl⟩
theorem bd8 : Bodied Try.prog 8 := ⟨_, Try.func8, by kernel_rfl, by kernel_rfl⟩
theorem bd9 : Bodied Try.prog 9 := ⟨_, Try.func9, by kernel_rfl, by kernel_rfl⟩
theorem bd10 : Bodied Try.prog 10 := ⟨_, Try.func10, by kernel_rfl, by kernel_rfl⟩
theorem bd11 : Bodied Try.prog 11 := ⟨_, Try.func11, by kernel_rfl, by kernel_rfl⟩
theorem bd12 : Bodied Try.prog 12 := ⟨_, Try.func12, by kernel_rfl, by kernel_rfl⟩
theorem bd13 : Bodied Try.prog 13 := ⟨_, Try.func13, by kernel_rfl, by kernel_rfl⟩
theorem bd14 : Bodied Try.prog 14 := ⟨_, Try.func14, by kernel_rfl, by kernel_rfl⟩
theorem bd15 : Bodied Try.prog 15 := ⟨_, Try.func15, by kernel_rfl, by kernel_rfl⟩
theorem bd16 : Bodied Try.prog 16 := ⟨_, Try.func16, by kernel_rfl, by kernel_rfl⟩
theorem bd17 : Bodied Try.prog 17 := ⟨_, Try.func17, by kernel_rfl, by kernel_rfl⟩
theorem bd18 : Bodied Try.prog 18 := ⟨_, Try.func18, by kernel_rfl, by kernel_rfl⟩
theorem bd19 : Bodied Try.prog 19 := ⟨_, Try.func19, by kernel_rfl, by kernel_rfl⟩
theorem bd20 : Bodied Try.prog 20 := ⟨_, Try.func20, by kernel_rfl, by kernel_rfl⟩
theorem bd21 : Bodied Try.prog 21 := ⟨_, Try.func21, by kernel_rfl, by kernel_rfl⟩
theorem bd22 : Bodied Try.prog 22 := ⟨_, Try.func22, by kernel_rfl, by kernel_rfl⟩
theorem bd23 : Bodied Try.prog 23 := ⟨_, Try.func23, by kernel_rfl, by kernel_rfl⟩
theorem bd24 : Bodied Try.prog 24 := ⟨_, Try.func24, by kernel_rfl, by kernel_rfl⟩
theorem bd25 : Bodied Try.prog 25 := ⟨_, Try.func25, by kernel_rfl, by kernel_rfl⟩
theorem bd26 : Bodied Try.prog 26 := ⟨_, Try.func26, by kernel_rfl, by kernel_rfl⟩
theorem bd27 : Bodied Try.prog 27 := ⟨_, Try.func27, by kernel_rfl, by kernel_rfl⟩
theorem bd28 : Bodied Try.prog 28 := ⟨_, Try.func28, by kernel_rfl, by kernel_rfl⟩
theorem bd29 : Bodied Try.prog 29 := ⟨_, Try.func29, by kernel_rfl, by kernel_rfl⟩
theorem bd30 : Bodied Try.prog 30 := ⟨_, Try.func30, by kernel_rfl, by kernel_rfl⟩
theorem bd31 : Bodied Try.prog 31 := ⟨_, Try.func31, by kernel_rfl, by kernel_rfl⟩
theorem bd32 : Bodied Try.prog 32 := ⟨_, Try.func32, by kernel_rfl, by kernel_rfl⟩
theorem bd33 : Bodied Try.prog 33 := ⟨_, Try.func33, by kernel_rfl, by kernel_rfl⟩
theorem bd34 : Bodied Try.prog 34 := ⟨_, Try.func34, by kernel_rfl, by kernel_rfl⟩
theorem bd35 : Bodied Try.prog 35 := ⟨_, Try.func35, by kernel_rfl, by kernel_rfl⟩
theorem bd36 : Bodied Try.prog 36 := ⟨_, Try.func36, by kernel_rfl, by kernel_rfl⟩
theorem bd37 : Bodied Try.prog 37 := ⟨_, Try.func37, by kernel_rfl, by kernel_rfl⟩
theorem bd38 : Bodied Try.prog 38 := ⟨_, Try.func38, by kernel_rfl, by kernel_rfl⟩
theorem bd39 : Bodied Try.prog 39 := ⟨_, Try.func39, by kernel_rfl, by kernel_rfl⟩
theorem bd40 : Bodied Try.prog 40 := ⟨_, Try.func40, by kernel_rfl, by kernel_rfl⟩
theorem bd41 : Bodied Try.prog 41 := ⟨_, Try.func41, by kernel_rfl, by kernel_rfl⟩
theorem bd42 : Bodied Try.prog 42 := ⟨_, Try.func42, by kernel_rfl, by kernel_rfl⟩
theorem bd43 : Bodied Try.prog 43 := ⟨_, Try.func43, by kernel_rfl, by kernel_rfl⟩
theorem bd44 : Bodied Try.prog 44 := ⟨_, Try.func44, by kernel_rfl, by kernel_rfl⟩
theorem bd45 : Bodied Try.prog 45 := ⟨_, Try.func45, by kernel_rfl, by kernel_rfl⟩
theorem bd46 : Bodied Try.prog 46 := ⟨_, Try.func46, by kernel_rfl, by kernel_rfl⟩
theorem bd47 : Bodied Try.prog 47 := ⟨_, Try.func47, by kernel_rfl, by kernel_rfl⟩
theorem bd48 : Bodied Try.prog 48 := ⟨_, Try.func48, by kernel_rfl, by kernel_rfl⟩
theorem bd49 : Bodied Try.prog 49 := ⟨_, Try.func49, by kernel_rfl, by kernel_rfl⟩
theorem bd50 : Bodied Try.prog 50 := ⟨_, Try.func50, by kernel_rfl, by kernel_rfl⟩
theorem bd51 : Bodied Try.prog 51 := ⟨_, Try.func51, by kernel_rfl, by kernel_rfl⟩
theorem bd52 : Bodied Try.prog 52 := ⟨_, Try.func52, by kernel_rfl, by kernel_rfl⟩
theorem bd53 : Bodied Try.prog 53 := ⟨_, Try.func53, by kernel_rfl, by kernel_rfl⟩
theorem bd54 : Bodied Try.prog 54 := ⟨_, Try.func54, by kernel_rfl, by kernel_rfl⟩
theorem bd55 : Bodied Try.prog 55 := ⟨_, Try.func55, by kernel_rfl, by kernel_rfl⟩
theorem bd56 : Bodied Try.prog 56 := ⟨_, Try.func56, by kernel_rfl, by kernel_rfl⟩
theorem bd57 : Bodied Try.prog 57 := ⟨_, Try.func57, by kernel_rfl, by kernel_rfl⟩
theorem bd58 : Bodied Try.prog 58 := ⟨_, Try.func58, by kernel_rfl, by kernel_rfl⟩
theorem bd59 : Bodied Try.prog 59 := ⟨_, Try.func59, by kernel_rfl, by kernel_rfl⟩
theorem bd60 : Bodied Try.prog 60 := ⟨_, Try.func60, by kernel_rfl, by kernel_rfl⟩
theorem bd61 : Bodied Try.prog 61 := ⟨_, Try.func61, by kernel_rfl, by kernel_rfl⟩
theorem bd62 : Bodied Try.prog 62 := ⟨_, Try.func62, by kernel_rfl, by kernel_rfl⟩
theorem bd63 : Bodied Try.prog 63 := ⟨_, Try.func63, by kernel_rfl, by kernel_rfl⟩
theorem bd64 : Bodied Try.prog 64 := ⟨_, Try.func64, by kernel_rfl, by kernel_rfl⟩
theorem bd65 : Bodied Try.prog 65 := ⟨_, Try.func65, by kernel_rfl, by kernel_rfl⟩
theorem bd66 : Bodied Try.prog 66 := ⟨_, Try.func66, by kernel_rfl, by kernel_rfl⟩
theorem bd67 : Bodied Try.prog 67 := ⟨_, Try.func67, by kernel_rfl, by kernel_rfl⟩
theorem bd68 : Bodied Try.prog 68 := ⟨_, Try.func68, by kernel_rfl, by kernel_rfl⟩
theorem bd69 : Bodied Try.prog 69 := ⟨_, Try.func69, by kernel_rfl, by kernel_rfl⟩
theorem bd70 : Bodied Try.prog 70 := ⟨_, Try.func70, by kernel_rfl, by kernel_rfl⟩
theorem bd71 : Bodied Try.prog 71 := ⟨_, Try.func71, by kernel_rfl, by kernel_rfl⟩
theorem bd72 : Bodied Try.prog 72 := ⟨_, Try.func72, by kernel_rfl, by kernel_rfl⟩
theorem bd73 : Bodied Try.prog 73 := ⟨_, Try.func73, by kernel_rfl, by kernel_rfl⟩
theorem bd74 : Bodied Try.prog 74 := ⟨_, Try.func74, by kernel_rfl, by kernel_rfl⟩
theorem bd75 : Bodied Try.prog 75 := ⟨_, Try.func75, by kernel_rfl, by kernel_rfl⟩
theorem bd76 : Bodied Try.prog 76 := ⟨_, Try.func76, by kernel_rfl, by kernel_rfl⟩
theorem bd77 : Bodied Try.prog 77 := ⟨_, Try.func77, by kernel_rfl, by kernel_rfl⟩
theorem bd78 : Bodied Try.prog 78 := ⟨_, Try.func78, by kernel_rfl, by kernel_rfl⟩
theorem bd79 : Bodied Try.prog 79 := ⟨_, Try.func79, by kernel_rfl, by kernel_rfl⟩
theorem bd80 : Bodied Try.prog 80 := ⟨_, Try.func80, by kernel_rfl, by kernel_rfl⟩
theorem bd81 : Bodied Try.prog 81 := ⟨_, Try.func81, by kernel_rfl, by kernel_rfl⟩
theorem bd82 : Bodied Try.prog 82 := ⟨_, Try.func82, by kernel_rfl, by kernel_rfl⟩
theorem bd83 : Bodied Try.prog 83 := ⟨_, Try.func83, by kernel_rfl, by kernel_rfl⟩
theorem bd84 : Bodied Try.prog 84 := ⟨_, Try.func84, by kernel_rfl, by kernel_rfl⟩
theorem bd85 : Bodied Try.prog 85 := ⟨_, Try.func85, by kernel_rfl, by kernel_rfl⟩
theorem bd86 : Bodied Try.prog 86 := ⟨_, Try.func86, by kernel_rfl, by kernel_rfl⟩
theorem bd87 : Bodied Try.prog 87 := ⟨_, Try.func87, by kernel_rfl, by kernel_rfl⟩
theorem bd88 : Bodied Try.prog 88 := ⟨_, Try.func88, by kernel_rfl, by kernel_rfl⟩
theorem bd89 : Bodied Try.prog 89 := ⟨_, Try.func89, by kernel_rfl, by kernel_rfl⟩
theorem bd90 : Bodied Try.prog 90 := ⟨_, Try.func90, by kernel_rfl, by kernel_rfl⟩
theorem bd91 : Bodied Try.prog 91 := ⟨_, Try.func91, by kernel_rfl, by kernel_rfl⟩
theorem bd92 : Bodied Try.prog 92 := ⟨_, Try.func92, by kernel_rfl, by kernel_rfl⟩
theorem bd93 : Bodied Try.prog 93 := ⟨_, Try.func93, by kernel_rfl, by kernel_rfl⟩
theorem bd94 : Bodied Try.prog 94 := ⟨_, Try.func94, by kernel_rfl, by kernel_rfl⟩
theorem bd95 : Bodied Try.prog 95 := ⟨_, Try.func95, by kernel_rfl, by kernel_rfl⟩
theorem bd96 : Bodied Try.prog 96 := ⟨_, Try.func96, by kernel_rfl, by kernel_rfl⟩
theorem bd97 : Bodied Try.prog 97 := ⟨_, Try.func97, by kernel_rfl, by kernel_rfl⟩
theorem bd98 : Bodied Try.prog 98 := ⟨_, Try.func98, by kernel_rfl, by kernel_rfl⟩
theorem bd99 : Bodied Try.prog 99 := ⟨_, Try.func99, by kernel_rfl, by kernel_rfl⟩
theorem bd100 : Bodied Try.prog 100 := ⟨_, Try.func100, by kernel_rfl, by kernel_rfl⟩
theorem bd101 : Bodied Try.prog 101 := ⟨_, Try.func101, by kernel_rfl, by kernel_rfl⟩
theorem bd102 : Bodied Try.prog 102 := ⟨_, Try.func102, by kernel_rfl, by kernel_rfl⟩
theorem bd103 : Bodied Try.prog 103 := ⟨_, Try.func103, by kernel_rfl, by kernel_rfl⟩
theorem bd104 : Bodied Try.prog 104 := ⟨_, Try.func104, by kernel_rfl, by kernel_rfl⟩
theorem bd105 : Bodied Try.prog 105 := ⟨_, Try.func105, by kernel_rfl, by kernel_rfl⟩
theorem bd106 : Bodied Try.prog 106 := ⟨_, Try.func106, by kernel_rfl, by kernel_rfl⟩
theorem bd107 : Bodied Try.prog 107 := ⟨_, Try.func107, by kernel_rfl, by kernel_rfl⟩
theorem bd108 : Bodied Try.prog 108 := ⟨_, Try.func108, by kernel_rfl, by kernel_rfl⟩
theorem bd109 : Bodied Try.prog 109 := ⟨_, Try.func109, by kernel_rfl, by kernel_rfl⟩
theorem bd110 : Bodied Try.prog 110 := ⟨_, Try.func110, by kernel_rfl, by kernel_rfl⟩
theorem bd111 : Bodied Try.prog 111 := ⟨_, Try.func111, by kernel_rfl, by kernel_rfl⟩
theorem bd112 : Bodied Try.prog 112 := ⟨_, Try.func112, by kernel_rfl, by kernel_rfl⟩
theorem bd113 : Bodied Try.prog 113 := ⟨_, Try.func113, by kernel_rfl, by kernel_rfl⟩
theorem bd114 : Bodied Try.prog 114 := ⟨_, Try.func114, by kernel_rfl, by kernel_rfl⟩
theorem bd115 : Bodied Try.prog 115 := ⟨_, Try.func115, by kernel_rfl, by kernel_rfl⟩
theorem bd116 : Bodied Try.prog 116 := ⟨_, Try.func116, by kernel_rfl, by kernel_rfl⟩
theorem bd117 : Bodied Try.prog 117 := ⟨_, Try.func117, by kernel_rfl, by kernel_rfl⟩
theorem bd118 : Bodied Try.prog 118 := ⟨_, Try.func118, by kernel_rfl, by kernel_rfl⟩
theorem bd119 : Bodied Try.prog 119 := ⟨_, Try.func119, by kernel_rfl, by kernel_rfl⟩
theorem bd120 : Bodied Try.prog 120 := ⟨_, Try.func120, by kernel_rfl, by kernel_rfl⟩
theorem bd121 : Bodied Try.prog 121 := ⟨_, Try.func121, by kernel_rfl, by kernel_rfl⟩
theorem bd122 : Bodied Try.prog 122 := ⟨_, Try.func122, by kernel_rfl, by kernel_rfl⟩
theorem bd123 : Bodied Try.prog 123 := ⟨_, Try.func123, by kernel_rfl, by kernel_rfl⟩
theorem bd124 : Bodied Try.prog 124 := ⟨_, Try.func124, by kernel_rfl, by kernel_rfl⟩
theorem bd125 : Bodied Try.prog 125 := ⟨_, Try.func125, by kernel_rfl, by kernel_rfl⟩
theorem bd126 : Bodied Try.prog 126 := ⟨_, Try.func126, by kernel_rfl, by kernel_rfl⟩
theorem bd128 : Bodied Try.prog 128 := ⟨_, Try.func128, by kernel_rfl, by kernel_rfl⟩
theorem bd130 : Bodied Try.prog 130 := ⟨_, Try.func130, by kernel_rfl, by kernel_rfl⟩
theorem bd131 : Bodied Try.prog 131 := ⟨_, Try.func131, by kernel_rfl, by kernel_rfl⟩
theorem bd132 : Bodied Try.prog 132 := ⟨_, Try.func132, by kernel_rfl, by kernel_rfl⟩
theorem bd133 : Bodied Try.prog 133 := ⟨_, Try.func133, by kernel_rfl, by kernel_rfl⟩
theorem bd134 : Bodied Try.prog 134 := ⟨_, Try.func134, by kernel_rfl, by kernel_rfl⟩
theorem bd135 : Bodied Try.prog 135 := ⟨_, Try.func135, by kernel_rfl, by kernel_rfl⟩
theorem bd136 : Bodied Try.prog 136 := ⟨_, Try.func136, by kernel_rfl, by kernel_rfl⟩
theorem bd137 : Bodied Try.prog 137 := ⟨_, Try.func137, by kernel_rfl, by kernel_rfl⟩
theorem bd138 : Bodied Try.prog 138 := ⟨_, Try.func138, by kernel_rfl, by kernel_rfl⟩
theorem bd139 : Bodied Try.prog 139 := ⟨_, Try.func139, by kernel_rfl, by kernel_rfl⟩
theorem bd140 : Bodied Try.prog 140 := ⟨_, Try.func140, by kernel_rfl, by kernel_rfl⟩
theorem bd141 : Bodied Try.prog 141 := ⟨_, Try.func141, by kernel_rfl, by kernel_rfl⟩
theorem bd142 : Bodied Try.prog 142 := ⟨_, Try.func142, by kernel_rfl, by kernel_rfl⟩
theorem bd143 : Bodied Try.prog 143 := ⟨_, Try.func143, by kernel_rfl, by kernel_rfl⟩
theorem bd144 : Bodied Try.prog 144 := ⟨_, Try.func144, by kernel_rfl, by kernel_rfl⟩
theorem bd145 : Bodied Try.prog 145 := ⟨_, Try.func145, by kernel_rfl, by kernel_rfl⟩
theorem bd146 : Bodied Try.prog 146 := ⟨_, Try.func146, by kernel_rfl, by kernel_rfl⟩
theorem bd147 : Bodied Try.prog 147 := ⟨_, Try.func147, by kernel_rfl, by kernel_rfl⟩
theorem bd148 : Bodied Try.prog 148 := ⟨_, Try.func148, by kernel_rfl, by kernel_rfl⟩
theorem bd149 : Bodied Try.prog 149 := ⟨_, Try.func149, by kernel_rfl, by kernel_rfl⟩
theorem bd150 : Bodied Try.prog 150 := ⟨_, Try.func150, by kernel_rfl, by kernel_rfl⟩
theorem bd151 : Bodied Try.prog 151 := ⟨_, Try.func151, by kernel_rfl, by kernel_rfl⟩
theorem bd152 : Bodied Try.prog 152 := ⟨_, Try.func152, by kernel_rfl, by kernel_rfl⟩
end Go.Proofs.Ytiikffiembcboaa
