/- Contracts of the functions that the statement reaches. No condition. -/
import Derived.Test.YtffhonjjccndpaaB6
import Derived.Test.YtffhonjjccndpaaPL6c
set_option linter.all false
set_option maxRecDepth 10000
namespace Go.AM.L6
open Go.AM.PL
theorem growD_ok (n : Nat) (hn : n * 24 ≤ 2 ^ 47) : WpCallG A 37 [.v (.slice none 0 0), .v (.int .i64 n)] [] (fun v H => v = .osl 0 ∧ H = [(0, .arr (.rm n) 3 [])]) := by
 refine WpCallG.intro g37 rfl rfl ?_
 unfold af37
 change WpG _ _ _ _ _
 refine WpG.seq ?_
 refine WpG.reg ?_
 refine G.mv rfl ?_
 refine WpOpsG.nil ?_
 change WpG _ _ _ _ _
 refine WpG.seq ?_
 refine WpG.seq ?_
 refine WpG.reg ?_
 refine G.mv rfl ?_
 refine G.bin rfl rfl rfl ?_
 refine WpOpsG.nil ?_
 change WpG _ _ _ _ _
 refine WpG.cond rfl (fun hq1 => ?_) (fun hq1 => ?_)
 ·(try simp only [zN] at hq1)
  exfalso; omega
 ·(try simp only [zN] at hq1)
  refine WpG.skip ?_
  change WpG _ _ _ _ _
  refine WpG.seq ?_
  refine WpG.seq ?_
  refine WpG.reg ?_
  refine G.mv rfl ?_
  refine G.mv rfl ?_
  refine G.capNil rfl ?_
  refine G.mv rfl ?_
  refine G.lenNil rfl ?_
  refine G.subI rfl rfl (by omega) ?_
  refine G.subI rfl rfl (by omega) ?_
  refine G.mv rfl ?_
  refine WpOpsG.nil ?_
  change WpG _ _ _ _ _
  refine WpG.seq ?_
  refine WpG.reg ?_
  refine G.mv rfl ?_
  refine G.bin rfl rfl rfl ?_
  refine WpOpsG.nil ?_
  change WpG _ _ _ _ _
  refine WpG.cond rfl (fun hq2 => ?_) (fun hq2 => ?_)
  ·(try simp only [zN] at hq2)
   refine WpG.reg ?_
   refine G.mv rfl ?_
   refine G.mv rfl ?_
   refine G.capNil rfl ?_
   refine G.slNil rfl rfl rfl ?_
   refine G.mv rfl ?_
   refine G.appz (g := 0) rfl rfl (by omega) (by show ((n : Int) - (0 - 0)) * _ ≤ 2 ^ 47; omega) rfl rfl rfl rfl ?_
   refine G.mv rfl ?_
   refine G.lenNil rfl ?_
   refine G.slO (full' := .rm n) (hi := 0) rfl rfl rfl rfl ⟨0, rfl, by rw [List.length_replicate]; omega⟩ ?_
   change WpOpsG _ _ ((25, .osl 0) :: _) ((0, .arr (.rm n) 3 []) :: _) _
   refine G.mv rfl ?_
   refine WpOpsG.nil ?_
   change WpG _ _ _ _ _
   refine WpG.seq ?_
   refine WpG.reg ?_
   refine G.mv rfl ?_
   refine G.mv rfl ?_
   refine WpOpsG.nil ?_
   change WpG _ _ _ _ _
   refine WpG.ret ?_
   refine ⟨_, [(0, .arr (.rm n) 3 [])], rfl, (hasP_le (by repeat (first | exact trivial | refine ⟨rfl, ?_⟩))), rfl, rfl, rfl, ?_⟩
   exact ⟨rfl, rfl⟩
  ·(try simp only [zN] at hq2)
   refine WpG.skip ?_
   change WpG _ _ _ _ _
   refine WpG.seq ?_
   refine WpG.reg ?_
   refine G.mv rfl ?_
   refine G.mv rfl ?_
   refine WpOpsG.nil ?_
   change WpG _ _ _ _ _
   obtain rfl : n = 0 := by omega
   refine WpG.ownNilR (.rm 0) (show 0 = 0 + 0 from rfl) (g := 0) (k := 4) (w := 3) rfl rfl ?_
   refine WpG.ret ?_
   refine ⟨_, [(0, .arr (.rm 0) 3 [])], rfl, (hasP_le (by repeat (first | exact trivial | refine ⟨rfl, ?_⟩))), rfl, rfl, rfl, ?_⟩
   exact ⟨rfl, rfl⟩
theorem catD_ok (rows : List (List Nd)) (hr : rows.length ≤ 2 ^ 40) (hl : lens rows * 24 ≤ 2 ^ 47) : WpCallG A 24 [.fsl 1 (rows.map (fun r => [GV.fsl 3 (r.map encD)]))] [] (fun v H => v = .osl 0 ∧ H = [(0, .arr .yes 3 (rows.flatten.map encD))]) := by
 refine WpCallG.intro g24 rfl rfl ?_
 unfold af24
 change WpG _ _ _ _ _
 refine WpG.seq ?_
 refine WpG.reg ?_
 refine G.mv rfl ?_
 refine WpOpsG.nil ?_
 change WpG _ _ _ _ _
 refine WpG.seq ?_
 refine WpG.reg ?_
 refine G.mv rfl ?_
 refine WpOpsG.nil ?_
 change WpG _ _ _ _ _
 refine WpG.seq ?_
 refine WpG.seq ?_
 refine WpG.reg ?_
 refine G.mv rfl ?_
 refine G.lenM rfl ?_
 refine G.mv rfl ?_
 refine WpOpsG.nil ?_
 change WpG _ _ _ _ _
 refine WpG.block ?_
 refine WpG.loop (S := Nat) (fun i => [(0, .fsl 1 (rows.map (fun r => [GV.fsl 3 (r.map encD)]))), (3, .v (.int .i64 (lens (rows.take i)))), (9, .fsl 1 (rows.map (fun r => [GV.fsl 3 (r.map encD)]))), (10, .v (.int .i64 (rows.length))), (11, .v (.int .i64 i))]) (fun _ => []) (fun i => i ≤ rows.length) (fun i => rows.length - i) (fun s => ⟨rfl, rfl⟩) ?_ 0 ?_ (by repeat (first | exact trivial | refine ⟨rfl, ?_⟩)) (by repeat (first | exact trivial | refine ⟨rfl, ?_⟩)) rfl
 ·rintro i hI
  have ht := lens_take rows i
  refine WpG.seq ?_
  refine WpG.reg ?_
  refine G.bin rfl rfl rfl ?_
  refine WpOpsG.nil ?_
  change WpG _ _ _ _ _
  refine WpG.seq ?_
  refine WpG.cond rfl (fun hq1 => ?_) (fun hq1 => ?_)
  ·(try simp only [zN] at hq1)
   refine WpG.skip ?_
   change WpG _ _ _ _ _
   refine WpG.seq ?_
   refine WpG.block ?_
   refine WpG.seq ?_
   refine WpG.reg ?_
   refine G.iaddrN rfl rfl (List.getElem?_eq_getElem (by omega)) ?_
   refine G.load1F rfl rfl ?_
   refine G.mv rfl ?_
   refine WpOpsG.nil ?_
   change WpG _ _ _ _ _
   refine WpG.seq ?_
   have ht2 := lens_take rows (i + 1)
   have ht3 := lens_step rows i (by omega)
   refine WpG.reg ?_
   refine G.mv rfl ?_
   refine G.mv rfl ?_
   refine G.lenM rfl ?_
   refine G.addI rfl rfl (by omega) ?_
   refine G.mv rfl ?_
   refine WpOpsG.nil ?_
   change WpG _ _ _ _ _
   refine WpG.seq ?_
   refine WpG.reg ?_
   refine G.mv rfl ?_
   refine G.bin rfl rfl rfl ?_
   refine WpOpsG.nil ?_
   change WpG _ _ _ _ _
   refine WpG.cond rfl (fun hq2 => ?_) (fun hq2 => ?_)
   ·(try simp only [zN] at hq2)
    exfalso; omega
   ·(try simp only [zN] at hq2)
    refine WpG.skip ?_
    change WpG _ _ _ _ _
    refine WpG.reg ?_
    refine G.addI rfl rfl (by omega) ?_
    refine G.mv rfl ?_
    refine WpOpsG.nil ?_
    refine ⟨i + 1, by omega, by omega, ⟨rfl, ?_, rfl, rfl, rfl, trivial⟩, (by repeat (first | exact trivial | refine ⟨rfl, ?_⟩)), rfl⟩
    ·show some (GV.v (.int .i64 ((lens (rows.take i) : Int) + rows[i].length))) = _
     rw [lens_step _ _ (by omega)]; rfl
  ·(try simp only [zN] at hq1)
   refine WpG.exit ?_
   change WpG _ _ _ _ _
   refine WpG.seq ?_
   have e : rows.take i = rows := take_allG (by omega)
   rw [e]
   refine WpG.reg ?_
   refine G.mv rfl ?_
   refine G.call0 rfl rfl (growD_ok (lens rows) (by omega)) ?_
   rintro _ _ ⟨rfl, rfl⟩
   refine ⟨rfl, ?_⟩
   change WpOpsG _ _ ((24, .osl 0) :: _) ((0, .arr (.rm (lens rows)) 3 []) :: _) _
   refine G.mv rfl ?_
   refine WpOpsG.nil ?_
   change WpG _ _ _ _ _
   refine WpG.seq ?_
   refine WpG.seq ?_
   refine WpG.reg ?_
   refine G.mv rfl ?_
   refine G.lenM rfl ?_
   refine G.mv rfl ?_
   refine WpOpsG.nil ?_
   change WpG _ _ _ _ _
   refine WpG.block ?_
   refine WpG.loop (S := Nat) (fun i => [(6, .osl 0), (25, .fsl 1 (rows.map (fun r => [GV.fsl 3 (r.map encD)]))), (26, .v (.int .i64 rows.length)), (27, .v (.int .i64 i))]) (fun i => [(0, .arr (.rm (lens rows - lens (rows.take i))) 3 ((rows.take i).flatten.map encD))]) (fun i => i ≤ rows.length) (fun i => rows.length - i) (fun s => ⟨rfl, rfl⟩) ?_ 0 ?_ (by repeat (first | exact trivial | refine ⟨rfl, ?_⟩)) (by repeat (first | exact trivial | refine ⟨rfl, ?_⟩)) rfl
   ·intro i hI
    have ht := lens_take rows i
    have ht2 := lens_take rows (i + 1)
    refine WpG.seq ?_
    refine WpG.reg ?_
    refine G.bin rfl rfl rfl ?_
    refine WpOpsG.nil ?_
    change WpG _ _ _ _ _
    refine WpG.seq ?_
    refine WpG.cond rfl (fun hq3 => ?_) (fun hq3 => ?_)
    ·(try simp only [zN] at hq3)
     refine WpG.skip ?_
     change WpG _ _ _ _ _
     refine WpG.seq ?_
     refine WpG.block ?_
     refine WpG.seq ?_
     refine WpG.reg ?_
     refine G.iaddrN rfl rfl (List.getElem?_eq_getElem (by omega)) ?_
     refine G.load1F rfl rfl ?_
     refine G.mv rfl ?_
     refine WpOpsG.nil ?_
     change WpG _ _ _ _ _
     have ht3 := lens_step rows i (by omega)
     refine WpG.reg ?_
     refine G.mv rfl ?_
     refine G.mv rfl ?_
     refine G.app rfl rfl rfl rfl (show (rows[i].map encD).length ≤ lens rows - lens (rows.take i) by rw [List.length_map]; omega) (by rw [List.length_map, List.length_map]; show (lens (rows.take i) + rows[i].length) * _ ≤ 2 ^ 47; omega) ?_
     refine G.mv rfl ?_
     refine WpOpsG.nil ?_
     change WpG _ _ _ _ _
     refine WpG.reg ?_
     refine G.addI rfl rfl (by omega) ?_
     refine G.mv rfl ?_
     refine WpOpsG.nil ?_
     refine ⟨i + 1, by omega, by omega, ⟨rfl, rfl, rfl, rfl, trivial⟩, ⟨?_, trivial⟩, rfl⟩
     rw [flat_snoc _ _ (by omega), lens_step _ _ (by omega), List.map_append]
     show some (GBlk.arr (.rm (lens rows - lens (rows.take i) - (rows[i].map encD).length)) _ _) = _
     rw [List.length_map, Nat.sub_sub]
    ·(try simp only [zN] at hq3)
     refine WpG.exit ?_
     change WpG _ _ _ _ _
     refine WpG.seq ?_
     refine WpG.reg ?_
     refine G.mv rfl ?_
     refine G.mv rfl ?_
     refine WpOpsG.nil ?_
     change WpG _ _ _ _ _
     have e : rows.take i = rows := take_allG (by omega)
     rw [e, Nat.sub_self]
     refine WpG.rm0 0 rfl ?_
     refine WpG.ret ?_
     refine ⟨_, [(0, .arr .yes 3 (rows.flatten.map encD))], rfl, (hasP_le (by repeat (first | exact trivial | refine ⟨rfl, ?_⟩))), rfl, rfl, rfl, ?_⟩
     exact ⟨rfl, rfl⟩
   ·exact Nat.zero_le _
 ·exact Nat.zero_le _
theorem growI_ok (n : Nat) (hn : n * 24 ≤ 2 ^ 47) : WpCallG A 38 [.v (.slice none 0 0), .v (.int .i64 n)] [] (fun v H => v = .osl 0 ∧ H = [(0, .arr (.rm n) 1 [])]) := by
 refine WpCallG.intro g38 rfl rfl ?_
 unfold af38
 change WpG _ _ _ _ _
 refine WpG.seq ?_
 refine WpG.reg ?_
 refine G.mv rfl ?_
 refine WpOpsG.nil ?_
 change WpG _ _ _ _ _
 refine WpG.seq ?_
 refine WpG.seq ?_
 refine WpG.reg ?_
 refine G.mv rfl ?_
 refine G.bin rfl rfl rfl ?_
 refine WpOpsG.nil ?_
 change WpG _ _ _ _ _
 refine WpG.cond rfl (fun hq1 => ?_) (fun hq1 => ?_)
 ·(try simp only [zN] at hq1)
  exfalso; omega
 ·(try simp only [zN] at hq1)
  refine WpG.skip ?_
  change WpG _ _ _ _ _
  refine WpG.seq ?_
  refine WpG.seq ?_
  refine WpG.reg ?_
  refine G.mv rfl ?_
  refine G.mv rfl ?_
  refine G.capNil rfl ?_
  refine G.mv rfl ?_
  refine G.lenNil rfl ?_
  refine G.subI rfl rfl (by omega) ?_
  refine G.subI rfl rfl (by omega) ?_
  refine G.mv rfl ?_
  refine WpOpsG.nil ?_
  change WpG _ _ _ _ _
  refine WpG.seq ?_
  refine WpG.reg ?_
  refine G.mv rfl ?_
  refine G.bin rfl rfl rfl ?_
  refine WpOpsG.nil ?_
  change WpG _ _ _ _ _
  refine WpG.cond rfl (fun hq2 => ?_) (fun hq2 => ?_)
  ·(try simp only [zN] at hq2)
   refine WpG.reg ?_
   refine G.mv rfl ?_
   refine G.mv rfl ?_
   refine G.capNil rfl ?_
   refine G.slNil rfl rfl rfl ?_
   refine G.mv rfl ?_
   refine G.appz (g := 0) rfl rfl (by omega) (by show ((n : Int) - (0 - 0)) * _ ≤ 2 ^ 47; omega) rfl rfl rfl rfl ?_
   refine G.mv rfl ?_
   refine G.lenNil rfl ?_
   refine G.slO (full' := .rm n) (hi := 0) rfl rfl rfl rfl ⟨0, rfl, by rw [List.length_replicate]; omega⟩ ?_
   change WpOpsG _ _ ((25, .osl 0) :: _) ((0, .arr (.rm n) 1 []) :: _) _
   refine G.mv rfl ?_
   refine WpOpsG.nil ?_
   change WpG _ _ _ _ _
   refine WpG.seq ?_
   refine WpG.reg ?_
   refine G.mv rfl ?_
   refine G.mv rfl ?_
   refine WpOpsG.nil ?_
   change WpG _ _ _ _ _
   refine WpG.ret ?_
   refine ⟨_, [(0, .arr (.rm n) 1 [])], rfl, (hasP_le (by repeat (first | exact trivial | refine ⟨rfl, ?_⟩))), rfl, rfl, rfl, ?_⟩
   exact ⟨rfl, rfl⟩
  ·(try simp only [zN] at hq2)
   refine WpG.skip ?_
   change WpG _ _ _ _ _
   refine WpG.seq ?_
   refine WpG.reg ?_
   refine G.mv rfl ?_
   refine G.mv rfl ?_
   refine WpOpsG.nil ?_
   change WpG _ _ _ _ _
   obtain rfl : n = 0 := by omega
   refine WpG.ownNilR (.rm 0) (show 0 = 0 + 0 from rfl) (g := 0) (k := 4) (w := 1) rfl rfl ?_
   refine WpG.ret ?_
   refine ⟨_, [(0, .arr (.rm 0) 1 [])], rfl, (hasP_le (by repeat (first | exact trivial | refine ⟨rfl, ?_⟩))), rfl, rfl, rfl, ?_⟩
   exact ⟨rfl, rfl⟩
theorem catI_ok (rows : List (List (List Nd))) (hr : rows.length ≤ 2 ^ 40) (hl : lens rows * 24 ≤ 2 ^ 47) : WpCallG A 25 [.fsl 1 (rows.map (fun r => [GV.fsl 1 (r.map encTb)]))] [] (fun v H => v = .osl 0 ∧ H = [(0, .arr .yes 1 (rows.flatten.map encTb))]) := by
 refine WpCallG.intro g25 rfl rfl ?_
 unfold af25
 change WpG _ _ _ _ _
 refine WpG.seq ?_
 refine WpG.reg ?_
 refine G.mv rfl ?_
 refine WpOpsG.nil ?_
 change WpG _ _ _ _ _
 refine WpG.seq ?_
 refine WpG.reg ?_
 refine G.mv rfl ?_
 refine WpOpsG.nil ?_
 change WpG _ _ _ _ _
 refine WpG.seq ?_
 refine WpG.seq ?_
 refine WpG.reg ?_
 refine G.mv rfl ?_
 refine G.lenM rfl ?_
 refine G.mv rfl ?_
 refine WpOpsG.nil ?_
 change WpG _ _ _ _ _
 refine WpG.block ?_
 refine WpG.loop (S := Nat) (fun i => [(0, .fsl 1 (rows.map (fun r => [GV.fsl 1 (r.map encTb)]))), (3, .v (.int .i64 (lens (rows.take i)))), (9, .fsl 1 (rows.map (fun r => [GV.fsl 1 (r.map encTb)]))), (10, .v (.int .i64 (rows.length))), (11, .v (.int .i64 i))]) (fun _ => []) (fun i => i ≤ rows.length) (fun i => rows.length - i) (fun s => ⟨rfl, rfl⟩) ?_ 0 ?_ (by repeat (first | exact trivial | refine ⟨rfl, ?_⟩)) (by repeat (first | exact trivial | refine ⟨rfl, ?_⟩)) rfl
 ·rintro i hI
  have ht := lens_take rows i
  refine WpG.seq ?_
  refine WpG.reg ?_
  refine G.bin rfl rfl rfl ?_
  refine WpOpsG.nil ?_
  change WpG _ _ _ _ _
  refine WpG.seq ?_
  refine WpG.cond rfl (fun hq1 => ?_) (fun hq1 => ?_)
  ·(try simp only [zN] at hq1)
   refine WpG.skip ?_
   change WpG _ _ _ _ _
   refine WpG.seq ?_
   refine WpG.block ?_
   refine WpG.seq ?_
   refine WpG.reg ?_
   refine G.iaddrN rfl rfl (List.getElem?_eq_getElem (by omega)) ?_
   refine G.load1F rfl rfl ?_
   refine G.mv rfl ?_
   refine WpOpsG.nil ?_
   change WpG _ _ _ _ _
   refine WpG.seq ?_
   have ht2 := lens_take rows (i + 1)
   have ht3 := lens_step rows i (by omega)
   refine WpG.reg ?_
   refine G.mv rfl ?_
   refine G.mv rfl ?_
   refine G.lenM rfl ?_
   refine G.addI rfl rfl (by omega) ?_
   refine G.mv rfl ?_
   refine WpOpsG.nil ?_
   change WpG _ _ _ _ _
   refine WpG.seq ?_
   refine WpG.reg ?_
   refine G.mv rfl ?_
   refine G.bin rfl rfl rfl ?_
   refine WpOpsG.nil ?_
   change WpG _ _ _ _ _
   refine WpG.cond rfl (fun hq2 => ?_) (fun hq2 => ?_)
   ·(try simp only [zN] at hq2)
    exfalso; omega
   ·(try simp only [zN] at hq2)
    refine WpG.skip ?_
    change WpG _ _ _ _ _
    refine WpG.reg ?_
    refine G.addI rfl rfl (by omega) ?_
    refine G.mv rfl ?_
    refine WpOpsG.nil ?_
    refine ⟨i + 1, by omega, by omega, ⟨rfl, ?_, rfl, rfl, rfl, trivial⟩, (by repeat (first | exact trivial | refine ⟨rfl, ?_⟩)), rfl⟩
    ·show some (GV.v (.int .i64 ((lens (rows.take i) : Int) + rows[i].length))) = _
     rw [lens_step _ _ (by omega)]; rfl
  ·(try simp only [zN] at hq1)
   refine WpG.exit ?_
   change WpG _ _ _ _ _
   refine WpG.seq ?_
   have e : rows.take i = rows := take_allG (by omega)
   rw [e]
   refine WpG.reg ?_
   refine G.mv rfl ?_
   refine G.call0 rfl rfl (growI_ok (lens rows) (by omega)) ?_
   rintro _ _ ⟨rfl, rfl⟩
   refine ⟨rfl, ?_⟩
   change WpOpsG _ _ ((24, .osl 0) :: _) ((0, .arr (.rm (lens rows)) 1 []) :: _) _
   refine G.mv rfl ?_
   refine WpOpsG.nil ?_
   change WpG _ _ _ _ _
   refine WpG.seq ?_
   refine WpG.seq ?_
   refine WpG.reg ?_
   refine G.mv rfl ?_
   refine G.lenM rfl ?_
   refine G.mv rfl ?_
   refine WpOpsG.nil ?_
   change WpG _ _ _ _ _
   refine WpG.block ?_
   refine WpG.loop (S := Nat) (fun i => [(6, .osl 0), (25, .fsl 1 (rows.map (fun r => [GV.fsl 1 (r.map encTb)]))), (26, .v (.int .i64 rows.length)), (27, .v (.int .i64 i))]) (fun i => [(0, .arr (.rm (lens rows - lens (rows.take i))) 1 ((rows.take i).flatten.map encTb))]) (fun i => i ≤ rows.length) (fun i => rows.length - i) (fun s => ⟨rfl, rfl⟩) ?_ 0 ?_ (by repeat (first | exact trivial | refine ⟨rfl, ?_⟩)) (by repeat (first | exact trivial | refine ⟨rfl, ?_⟩)) rfl
   ·intro i hI
    have ht := lens_take rows i
    have ht2 := lens_take rows (i + 1)
    refine WpG.seq ?_
    refine WpG.reg ?_
    refine G.bin rfl rfl rfl ?_
    refine WpOpsG.nil ?_
    change WpG _ _ _ _ _
    refine WpG.seq ?_
    refine WpG.cond rfl (fun hq3 => ?_) (fun hq3 => ?_)
    ·(try simp only [zN] at hq3)
     refine WpG.skip ?_
     change WpG _ _ _ _ _
     refine WpG.seq ?_
     refine WpG.block ?_
     refine WpG.seq ?_
     refine WpG.reg ?_
     refine G.iaddrN rfl rfl (List.getElem?_eq_getElem (by omega)) ?_
     refine G.load1F rfl rfl ?_
     refine G.mv rfl ?_
     refine WpOpsG.nil ?_
     change WpG _ _ _ _ _
     have ht3 := lens_step rows i (by omega)
     refine WpG.reg ?_
     refine G.mv rfl ?_
     refine G.mv rfl ?_
     refine G.app rfl rfl rfl rfl (show (rows[i].map encTb).length ≤ lens rows - lens (rows.take i) by rw [List.length_map]; omega) (by rw [List.length_map, List.length_map]; show (lens (rows.take i) + rows[i].length) * _ ≤ 2 ^ 47; omega) ?_
     refine G.mv rfl ?_
     refine WpOpsG.nil ?_
     change WpG _ _ _ _ _
     refine WpG.reg ?_
     refine G.addI rfl rfl (by omega) ?_
     refine G.mv rfl ?_
     refine WpOpsG.nil ?_
     refine ⟨i + 1, by omega, by omega, ⟨rfl, rfl, rfl, rfl, trivial⟩, ⟨?_, trivial⟩, rfl⟩
     rw [flat_snoc _ _ (by omega), lens_step _ _ (by omega), List.map_append]
     show some (GBlk.arr (.rm (lens rows - lens (rows.take i) - (rows[i].map encTb).length)) _ _) = _
     rw [List.length_map, Nat.sub_sub]
    ·(try simp only [zN] at hq3)
     refine WpG.exit ?_
     change WpG _ _ _ _ _
     refine WpG.seq ?_
     refine WpG.reg ?_
     refine G.mv rfl ?_
     refine G.mv rfl ?_
     refine WpOpsG.nil ?_
     change WpG _ _ _ _ _
     have e : rows.take i = rows := take_allG (by omega)
     rw [e, Nat.sub_self]
     refine WpG.rm0 0 rfl ?_
     refine WpG.ret ?_
     refine ⟨_, [(0, .arr .yes 1 (rows.flatten.map encTb))], rfl, (hasP_le (by repeat (first | exact trivial | refine ⟨rfl, ?_⟩))), rfl, rfl, rfl, ?_⟩
     exact ⟨rfl, rfl⟩
   ·exact Nat.zero_le _
 ·exact Nat.zero_le _
theorem equalI_ok (xs ys : List Int) (hx : xs.length ≤ 2 ^ 50) (hy : ys.length ≤ 2 ^ 50) : WpCallG A 42 [.fsl 1 (xs.map encK), .fsl 1 (ys.map encK)] [] (fun v H => v = .v (.bool (decide (xs = ys))) ∧ H = []) := by
 refine WpCallG.intro g42 rfl rfl ?_
 unfold af42
 change WpG _ _ _ _ _
 refine WpG.seq ?_
 refine WpG.reg ?_
 refine G.mv rfl ?_
 refine WpOpsG.nil ?_
 change WpG _ _ _ _ _
 refine WpG.seq ?_
 refine WpG.seq ?_
 refine WpG.reg ?_
 refine G.mv rfl ?_
 refine G.lenM rfl ?_
 refine G.mv rfl ?_
 refine G.lenM rfl ?_
 refine G.bin rfl rfl rfl ?_
 refine WpOpsG.nil ?_
 change WpG _ _ _ _ _
 refine WpG.cond rfl (fun hq1 => ?_) (fun hq1 => ?_)
 ·(try simp only [zN] at hq1)
  refine WpG.seq ?_
  refine WpG.reg ?_
  refine G.mv rfl ?_
  refine WpOpsG.nil ?_
  change WpG _ _ _ _ _
  refine WpG.ret ?_
  refine ⟨_, [], rfl, (hasP_le (by repeat (first | exact trivial | refine ⟨rfl, ?_⟩))), rfl, rfl, rfl, ?_⟩
  rw [decide_eq_false (fun h => by subst h; omega)]
  exact ⟨rfl, rfl⟩
 ·(try simp only [zN] at hq1)
  refine WpG.skip ?_
  change WpG _ _ _ _ _
  refine WpG.seq ?_
  refine WpG.seq ?_
  refine WpG.reg ?_
  refine G.mv rfl ?_
  refine G.lenM rfl ?_
  refine G.mv rfl ?_
  refine WpOpsG.nil ?_
  change WpG _ _ _ _ _
  refine WpG.block ?_
  refine WpG.loop (S := Nat) (fun i => [(0, .fsl 1 (xs.map encK)), (1, .fsl 1 (ys.map encK)), (4, .v (.bool false)), (12, .v (.int .i64 xs.length)), (13, .v (.int .i64 i))]) (fun _ => []) (fun i => i ≤ xs.length ∧ xs.take i = ys.take i) (fun i => xs.length - i) (fun s => ⟨rfl, rfl⟩) ?_ 0 ?_ (by repeat (first | exact trivial | refine ⟨rfl, ?_⟩)) (by repeat (first | exact trivial | refine ⟨rfl, ?_⟩)) rfl
  ·rintro i ⟨hI, hT⟩
   refine WpG.seq ?_
   refine WpG.reg ?_
   refine G.bin rfl rfl rfl ?_
   refine WpOpsG.nil ?_
   change WpG _ _ _ _ _
   refine WpG.seq ?_
   refine WpG.cond rfl (fun hq2 => ?_) (fun hq2 => ?_)
   ·(try simp only [zN] at hq2)
    refine WpG.skip ?_
    change WpG _ _ _ _ _
    refine WpG.seq ?_
    refine WpG.block ?_
    refine WpG.seq ?_
    refine WpG.reg ?_
    refine G.mv rfl ?_
    refine G.mv rfl ?_
    refine WpOpsG.nil ?_
    change WpG _ _ _ _ _
    refine WpG.seq ?_
    refine WpG.reg ?_
    refine G.mv rfl ?_
    refine G.mv rfl ?_
    refine G.iaddrN rfl rfl (List.getElem?_eq_getElem (by omega)) ?_
    refine G.load1F rfl rfl ?_
    refine G.mv rfl ?_
    refine G.mv rfl ?_
    refine G.iaddrN rfl rfl (List.getElem?_eq_getElem (by omega)) ?_
    refine G.load1F rfl rfl ?_
    refine G.bin rfl rfl rfl ?_
    refine WpOpsG.nil ?_
    change WpG _ _ _ _ _
    refine WpG.cond rfl (fun hq3 => ?_) (fun hq3 => ?_)
    ·(try simp only [zN] at hq3)
     refine WpG.seq ?_
     refine WpG.reg ?_
     refine G.mv rfl ?_
     refine WpOpsG.nil ?_
     change WpG _ _ _ _ _
     refine WpG.ret ?_
     refine ⟨_, [], rfl, (hasP_le (by repeat (first | exact trivial | refine ⟨rfl, ?_⟩))), rfl, rfl, rfl, ?_⟩
     rw [decide_eq_false (fun h => by subst h; exact hq3 rfl)]
     exact ⟨rfl, rfl⟩
    ·(try simp only [zN] at hq3)
     refine WpG.skip ?_
     change WpG _ _ _ _ _
     refine WpG.reg ?_
     refine G.addI rfl rfl (by omega) ?_
     refine G.mv rfl ?_
     refine WpOpsG.nil ?_
     have he : xs[i] = ys[i] := hq3
     exact ⟨i + 1, by omega, ⟨by omega, (take_stepG (by omega) (by omega) hT).2 he⟩, ⟨rfl, rfl, rfl, rfl, rfl, trivial⟩, trivial, rfl⟩
   ·(try simp only [zN] at hq2)
    refine WpG.exit ?_
    change WpG _ _ _ _ _
    refine WpG.seq ?_
    refine WpG.reg ?_
    refine G.mv rfl ?_
    refine WpOpsG.nil ?_
    change WpG _ _ _ _ _
    refine WpG.ret ?_
    refine ⟨_, [], rfl, (hasP_le (by repeat (first | exact trivial | refine ⟨rfl, ?_⟩))), rfl, rfl, rfl, ?_⟩
    have he : xs = ys := by
     have e1 : xs.take i = xs := take_allG (by omega)
     have e2 : ys.take i = ys := take_allG (by omega)
     rw [← e1, ← e2]; exact hT
    rw [decide_eq_true he]
    exact ⟨rfl, rfl⟩
  ·exact ⟨Nat.zero_le _, rfl⟩
theorem equalN_ok (xs ys : List Rn) (hx : xs.length ≤ 2 ^ 50) (hy : ys.length ≤ 2 ^ 50) : WpCallG A 28 [.fsl 2 (xs.map encN), .fsl 2 (ys.map encN)] [] (fun v H => v = .v (.bool (decide (xs = ys))) ∧ H = []) := by
 refine WpCallG.intro g28 rfl rfl ?_
 unfold af28
 change WpG _ _ _ _ _
 refine WpG.seq ?_
 refine WpG.reg ?_
 refine G.mv rfl ?_
 refine WpOpsG.nil ?_
 change WpG _ _ _ _ _
 refine WpG.seq ?_
 refine WpG.seq ?_
 refine WpG.reg ?_
 refine G.mv rfl ?_
 refine G.lenM rfl ?_
 refine G.mv rfl ?_
 refine G.lenM rfl ?_
 refine G.bin rfl rfl rfl ?_
 refine WpOpsG.nil ?_
 change WpG _ _ _ _ _
 refine WpG.cond rfl (fun hq1 => ?_) (fun hq1 => ?_)
 ·(try simp only [zN] at hq1)
  refine WpG.seq ?_
  refine WpG.reg ?_
  refine G.mv rfl ?_
  refine WpOpsG.nil ?_
  change WpG _ _ _ _ _
  refine WpG.ret ?_
  refine ⟨_, [], rfl, (hasP_le (by repeat (first | exact trivial | refine ⟨rfl, ?_⟩))), rfl, rfl, rfl, ?_⟩
  rw [decide_eq_false (fun h => by subst h; omega)]
  exact ⟨rfl, rfl⟩
 ·(try simp only [zN] at hq1)
  refine WpG.skip ?_
  change WpG _ _ _ _ _
  refine WpG.seq ?_
  refine WpG.seq ?_
  refine WpG.reg ?_
  refine G.mv rfl ?_
  refine G.lenM rfl ?_
  refine G.mv rfl ?_
  refine WpOpsG.nil ?_
  change WpG _ _ _ _ _
  refine WpG.block ?_
  refine WpG.loop (S := Nat) (fun i => [(0, .fsl 2 (xs.map encN)), (1, .fsl 2 (ys.map encN)), (4, .v (.bool false)), (12, .v (.int .i64 xs.length)), (13, .v (.int .i64 i))]) (fun _ => []) (fun i => i ≤ xs.length ∧ xs.take i = ys.take i) (fun i => xs.length - i) (fun s => ⟨rfl, rfl⟩) ?_ 0 ?_ (by repeat (first | exact trivial | refine ⟨rfl, ?_⟩)) (by repeat (first | exact trivial | refine ⟨rfl, ?_⟩)) rfl
  ·rintro i ⟨hI, hT⟩
   refine WpG.seq ?_
   refine WpG.reg ?_
   refine G.bin rfl rfl rfl ?_
   refine WpOpsG.nil ?_
   change WpG _ _ _ _ _
   refine WpG.seq ?_
   refine WpG.cond rfl (fun hq2 => ?_) (fun hq2 => ?_)
   ·(try simp only [zN] at hq2)
    refine WpG.skip ?_
    change WpG _ _ _ _ _
    refine WpG.seq ?_
    refine WpG.block ?_
    refine WpG.seq ?_
    refine WpG.reg ?_
    refine G.mv rfl ?_
    refine G.mv rfl ?_
    refine WpOpsG.nil ?_
    change WpG _ _ _ _ _
    refine WpG.seq ?_
    refine WpG.reg ?_
    refine G.mv rfl ?_
    refine G.mv rfl ?_
    refine G.iaddrN rfl rfl (List.getElem?_eq_getElem (by omega)) ?_
    refine G.loadNF rfl rfl ?_
    refine G.mv rfl ?_
    refine G.mv rfl ?_
    refine G.iaddrN rfl rfl (List.getElem?_eq_getElem (by omega)) ?_
    refine G.loadNF rfl rfl ?_
    refine G.beq rfl rfl rfl ?_
    refine WpOpsG.nil ?_
    change WpG _ _ _ _ _
    refine WpG.cond rfl (fun hq3 => ?_) (fun hq3 => ?_)
    ·(try simp only [zN] at hq3)
     refine WpG.seq ?_
     refine WpG.reg ?_
     refine G.mv rfl ?_
     refine WpOpsG.nil ?_
     change WpG _ _ _ _ _
     refine WpG.ret ?_
     refine ⟨_, [], rfl, (hasP_le (by repeat (first | exact trivial | refine ⟨rfl, ?_⟩))), rfl, rfl, rfl, ?_⟩
     rw [decide_eq_false (fun h => by subst h; exact rn_f hq3 rfl)]
     exact ⟨rfl, rfl⟩
    ·(try simp only [zN] at hq3)
     refine WpG.skip ?_
     change WpG _ _ _ _ _
     refine WpG.reg ?_
     refine G.addI rfl rfl (by omega) ?_
     refine G.mv rfl ?_
     refine WpOpsG.nil ?_
     have he : xs[i] = ys[i] := rn_t hq3
     exact ⟨i + 1, by omega, ⟨by omega, (take_stepG (by omega) (by omega) hT).2 he⟩, ⟨rfl, rfl, rfl, rfl, rfl, trivial⟩, trivial, rfl⟩
   ·(try simp only [zN] at hq2)
    refine WpG.exit ?_
    change WpG _ _ _ _ _
    refine WpG.seq ?_
    refine WpG.reg ?_
    refine G.mv rfl ?_
    refine WpOpsG.nil ?_
    change WpG _ _ _ _ _
    refine WpG.ret ?_
    refine ⟨_, [], rfl, (hasP_le (by repeat (first | exact trivial | refine ⟨rfl, ?_⟩))), rfl, rfl, rfl, ?_⟩
    have he : xs = ys := by
     have e1 : xs.take i = xs := take_allG (by omega)
     have e2 : ys.take i = ys := take_allG (by omega)
     rw [← e1, ← e2]; exact hT
    rw [decide_eq_true he]
    exact ⟨rfl, rfl⟩
  ·exact ⟨Nat.zero_le _, rfl⟩
theorem equalD_ok (xs ys : List Nd) (hx : xs.length ≤ 2 ^ 50) (hy : ys.length ≤ 2 ^ 50) : WpCallG A 36 [.fsl 3 (xs.map encD), .fsl 3 (ys.map encD)] [] (fun v H => v = .v (.bool (decide (xs = ys))) ∧ H = []) := by
 refine WpCallG.intro g36 rfl rfl ?_
 unfold af36
 change WpG _ _ _ _ _
 refine WpG.seq ?_
 refine WpG.reg ?_
 refine G.mv rfl ?_
 refine WpOpsG.nil ?_
 change WpG _ _ _ _ _
 refine WpG.seq ?_
 refine WpG.seq ?_
 refine WpG.reg ?_
 refine G.mv rfl ?_
 refine G.lenM rfl ?_
 refine G.mv rfl ?_
 refine G.lenM rfl ?_
 refine G.bin rfl rfl rfl ?_
 refine WpOpsG.nil ?_
 change WpG _ _ _ _ _
 refine WpG.cond rfl (fun hq1 => ?_) (fun hq1 => ?_)
 ·(try simp only [zN] at hq1)
  refine WpG.seq ?_
  refine WpG.reg ?_
  refine G.mv rfl ?_
  refine WpOpsG.nil ?_
  change WpG _ _ _ _ _
  refine WpG.ret ?_
  refine ⟨_, [], rfl, (hasP_le (by repeat (first | exact trivial | refine ⟨rfl, ?_⟩))), rfl, rfl, rfl, ?_⟩
  rw [decide_eq_false (fun h => by subst h; omega)]
  exact ⟨rfl, rfl⟩
 ·(try simp only [zN] at hq1)
  refine WpG.skip ?_
  change WpG _ _ _ _ _
  refine WpG.seq ?_
  refine WpG.seq ?_
  refine WpG.reg ?_
  refine G.mv rfl ?_
  refine G.lenM rfl ?_
  refine G.mv rfl ?_
  refine WpOpsG.nil ?_
  change WpG _ _ _ _ _
  refine WpG.block ?_
  refine WpG.loop (S := Nat) (fun i => [(0, .fsl 3 (xs.map encD)), (1, .fsl 3 (ys.map encD)), (4, .v (.bool false)), (12, .v (.int .i64 xs.length)), (13, .v (.int .i64 i))]) (fun _ => []) (fun i => i ≤ xs.length ∧ xs.take i = ys.take i) (fun i => xs.length - i) (fun s => ⟨rfl, rfl⟩) ?_ 0 ?_ (by repeat (first | exact trivial | refine ⟨rfl, ?_⟩)) (by repeat (first | exact trivial | refine ⟨rfl, ?_⟩)) rfl
  ·rintro i ⟨hI, hT⟩
   refine WpG.seq ?_
   refine WpG.reg ?_
   refine G.bin rfl rfl rfl ?_
   refine WpOpsG.nil ?_
   change WpG _ _ _ _ _
   refine WpG.seq ?_
   refine WpG.cond rfl (fun hq2 => ?_) (fun hq2 => ?_)
   ·(try simp only [zN] at hq2)
    refine WpG.skip ?_
    change WpG _ _ _ _ _
    refine WpG.seq ?_
    refine WpG.block ?_
    refine WpG.seq ?_
    refine WpG.reg ?_
    refine G.mv rfl ?_
    refine G.mv rfl ?_
    refine WpOpsG.nil ?_
    change WpG _ _ _ _ _
    refine WpG.seq ?_
    refine WpG.reg ?_
    refine G.mv rfl ?_
    refine G.mv rfl ?_
    refine G.iaddrN rfl rfl (List.getElem?_eq_getElem (by omega)) ?_
    refine G.loadNF rfl rfl ?_
    refine G.mv rfl ?_
    refine G.mv rfl ?_
    refine G.iaddrN rfl rfl (List.getElem?_eq_getElem (by omega)) ?_
    refine G.loadNF rfl rfl ?_
    refine G.beq rfl rfl rfl ?_
    refine WpOpsG.nil ?_
    change WpG _ _ _ _ _
    refine WpG.cond rfl (fun hq3 => ?_) (fun hq3 => ?_)
    ·(try simp only [zN] at hq3)
     refine WpG.seq ?_
     refine WpG.reg ?_
     refine G.mv rfl ?_
     refine WpOpsG.nil ?_
     change WpG _ _ _ _ _
     refine WpG.ret ?_
     refine ⟨_, [], rfl, (hasP_le (by repeat (first | exact trivial | refine ⟨rfl, ?_⟩))), rfl, rfl, rfl, ?_⟩
     rw [decide_eq_false (fun h => by subst h; exact deq_f hq3 rfl)]
     exact ⟨rfl, rfl⟩
    ·(try simp only [zN] at hq3)
     refine WpG.skip ?_
     change WpG _ _ _ _ _
     refine WpG.reg ?_
     refine G.addI rfl rfl (by omega) ?_
     refine G.mv rfl ?_
     refine WpOpsG.nil ?_
     have he : xs[i] = ys[i] := deq_t hq3
     exact ⟨i + 1, by omega, ⟨by omega, (take_stepG (by omega) (by omega) hT).2 he⟩, ⟨rfl, rfl, rfl, rfl, rfl, trivial⟩, trivial, rfl⟩
   ·(try simp only [zN] at hq2)
    refine WpG.exit ?_
    change WpG _ _ _ _ _
    refine WpG.seq ?_
    refine WpG.reg ?_
    refine G.mv rfl ?_
    refine WpOpsG.nil ?_
    change WpG _ _ _ _ _
    refine WpG.ret ?_
    refine ⟨_, [], rfl, (hasP_le (by repeat (first | exact trivial | refine ⟨rfl, ?_⟩))), rfl, rfl, rfl, ?_⟩
    have he : xs = ys := by
     have e1 : xs.take i = xs := take_allG (by omega)
     have e2 : ys.take i = ys := take_allG (by omega)
     rw [← e1, ← e2]; exact hT
    rw [decide_eq_true he]
    exact ⟨rfl, rfl⟩
  ·exact ⟨Nat.zero_le _, rfl⟩
end Go.AM.L6
