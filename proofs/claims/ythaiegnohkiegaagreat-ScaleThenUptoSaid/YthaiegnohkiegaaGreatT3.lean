/-
  Part 3 of the walks of the program and of the laws of its arithmetic: what each function of the program tells at every input that its premise takes.
-/
import Derived.Test.YthaiegnohkiegaaGreatT2
import Derived.Test.YthaiegnohkiegaaGreatLibX
import Derived.Test.YthaiegnohkiegaaGreatProg
import Derived.KernelRfl
import Derived.Shelf.Sort.Plain
import Derived.Ground.Names2Prog
import Derived.Shelf.Slices.CompactI
import Derived.Shelf.Slices.In.SortNone
import Derived.Test.YthaiegnohkiegaaGreatChecked
import Derived.Lib.BitFns
import Derived.Lib.ItoaNum
import Derived.Laws.BitsAllLaws
/-
  Tables of the types of the program, each held against the loaded program by the kernel.
-/
namespace Go.Proofs.YthaiegnohkiegaaGreat.Ab
set_option maxRecDepth 100000
def descBeq : Option TypeDesc → TypeDesc → Bool
  | some .bool, .bool => true
  | some .string, .string => true
  | some (.int a), .int b => decide (a = b)
  | some (.slice a), .slice b => Nat.beq a b
  | _, _ => false
theorem descBeq_ok {a : Option TypeDesc} {b : TypeDesc} (h : descBeq a b = true) : a = some b := by
  unfold descBeq at h
  split at h
  · rfl
  · rfl
  · rw [of_decide_eq_true h]
  · rw [Nat.eq_of_beq_eq_true h]
  · cases h
def tabU : List (Nat × TypeDesc) := [(2, .int .i64), (3, .int .i64), (4, .bool), (5, .int .u8), (6, .int .u8), (9, .string), (10, .string), (11, .string), (12, .int .u64), (21, .int .i32), (22, .slice 32), (24, .slice 27), (25, .slice 66), (30, .slice 40), (35, .slice 58), (36, .slice 58), (41, .int .i64), (58, .int .u64), (59, .slice 61), (65, .slice 84), (66, .slice 84), (110, .slice 36), (133, .slice 3), (143, .slice 145), (145, .int .u32), (146, .int .u64), (199, .slice 198), (207, .int .i64), (219, .slice 9), (222, .int .u64), (244, .int .u8), (245, .int .u8), (248, .int .i32), (249, .int .i32)]
def tabZ : List (Nat × Nat) := [(0, 1), (1, 1), (2, 1), (3, 1), (4, 1), (5, 1), (6, 1), (7, 4), (8, 4), (9, 1), (10, 1), (11, 1), (12, 1), (13, 2), (14, 2), (15, 1), (16, 1), (17, 1), (18, 1), (19, 1), (20, 1), (21, 1), (22, 1), (23, 1), (24, 1), (25, 1), (26, 5), (27, 5), (28, 7), (29, 7), (30, 1), (31, 10), (32, 10), (33, 1), (34, 1), (35, 1), (36, 1), (37, 2), (38, 2), (39, 3), (40, 3), (41, 1), (42, 1), (43, 1), (44, 1), (45, 1), (46, 1), (47, 1), (48, 1), (49, 1), (50, 1), (51, 1), (52, 1), (53, 1), (54, 1), (55, 1), (56, 1), (57, 1), (58, 1), (59, 1), (60, 7), (61, 7), (62, 1), (63, 1), (64, 1), (65, 1), (66, 1), (67, 1), (68, 3), (69, 3), (70, 1), (71, 1), (72, 1), (73, 1), (74, 1), (75, 1), (76, 1), (77, 1), (78, 1), (79, 1), (80, 1), (81, 1), (82, 1), (83, 5), (84, 5), (85, 1), (86, 1), (87, 1), (88, 4), (89, 4), (90, 1), (91, 1), (92, 1), (93, 1), (94, 1), (95, 1), (96, 1), (97, 1), (98, 1), (99, 1), (100, 1), (101, 1), (102, 1), (103, 1), (104, 1), (105, 1), (106, 1), (107, 1), (108, 1), (109, 1), (110, 1), (111, 1), (112, 1), (113, 1), (114, 1), (115, 1), (116, 1), (117, 1), (118, 1), (119, 1), (120, 1), (121, 1), (122, 1), (123, 1), (124, 1), (125, 1), (126, 1), (127, 1), (128, 1), (129, 1), (130, 1), (131, 1), (132, 1), (133, 1), (134, 1), (135, 1), (136, 1), (137, 1), (138, 1), (139, 1), (140, 1), (141, 1), (142, 1), (143, 1), (144, 1), (145, 1), (146, 1), (147, 1), (148, 1), (149, 1), (150, 1), (151, 1), (152, 1), (153, 1), (154, 1), (155, 1), (156, 1), (157, 1), (158, 1), (159, 1), (160, 1), (161, 1), (162, 1), (163, 1), (164, 1), (165, 1), (166, 1), (167, 1), (168, 1), (169, 1), (170, 1), (171, 1), (172, 1), (173, 1), (174, 1), (175, 2), (176, 2), (177, 1), (178, 1), (179, 1), (180, 1), (181, 1), (182, 1), (183, 1), (184, 1), (185, 1), (186, 1), (187, 2), (188, 2), (189, 1), (190, 1), (191, 1), (192, 1), (193, 1), (194, 1), (195, 1), (196, 2), (197, 1), (198, 1), (199, 1), (200, 1), (201, 1), (202, 1), (203, 1), (204, 1), (205, 1), (206, 1), (207, 1), (208, 1), (209, 1), (210, 1), (211, 1), (212, 1), (213, 1), (214, 1), (215, 1), (216, 1), (217, 1), (218, 1), (219, 1), (220, 1), (221, 1), (222, 1), (223, 1), (224, 1), (225, 1), (226, 1), (227, 1), (228, 1), (229, 1), (230, 1), (231, 1), (232, 1), (233, 1), (234, 1), (235, 1), (236, 1), (237, 1), (238, 4), (239, 4), (240, 0), (241, 0), (242, 0), (243, 1), (244, 1), (245, 1), (246, 1), (247, 1), (248, 1), (249, 1), (250, 11), (251, 11), (252, 1), (253, 1), (254, 1)]
def tabG : List (Nat × Bool) := [(0, false), (1, false), (2, false), (3, false), (4, false), (5, false), (6, false), (7, true), (8, true), (9, false), (10, false), (11, false), (12, false), (13, true), (14, true), (15, false), (16, false), (17, false), (18, true), (19, true), (20, false), (21, false), (22, false), (23, false), (24, false), (25, false), (26, true), (27, true), (28, true), (29, true), (30, false), (31, true), (32, true), (33, false), (34, false), (35, false), (36, false), (37, true), (38, true), (39, true), (40, true), (41, false), (42, false), (43, false), (44, false), (45, false), (46, false), (47, false), (48, false), (49, false), (50, false), (51, false), (52, false), (53, false), (54, false), (55, false), (56, false), (57, false), (58, false), (59, false), (60, true), (61, true), (62, false), (63, false), (64, false), (65, false), (66, false), (67, false), (68, true), (69, true), (70, false), (71, false), (72, false), (73, false), (74, false), (75, false), (76, false), (77, false), (78, false), (79, false), (80, false), (81, false), (82, false), (83, true), (84, true), (85, false), (86, false), (87, false), (88, true), (89, true), (90, false), (91, false), (92, false), (93, false), (94, false), (95, false), (96, false), (97, false), (98, false), (99, false), (100, false), (101, false), (102, false), (103, false), (104, false), (105, false), (106, false), (107, false), (108, false), (109, false), (110, false), (111, false), (112, false), (113, false), (114, false), (115, false), (116, false), (117, false), (118, false), (119, false), (120, false), (121, false), (122, false), (123, false), (124, false), (125, false), (126, false), (127, false), (128, false), (129, false), (130, false), (131, false), (132, false), (133, false), (134, false), (135, false), (136, false), (137, false), (138, false), (139, false), (140, false), (141, false), (142, false), (143, false), (144, false), (145, false), (146, false), (147, false), (148, false), (149, false), (150, false), (151, false), (152, false), (153, false), (154, false), (155, false), (156, false), (157, false), (158, false), (159, false), (160, false), (161, false), (162, false), (163, false), (164, false), (165, false), (166, false), (167, false), (168, false), (169, false), (170, false), (171, false), (172, false), (173, false), (174, false), (175, true), (176, true), (177, false), (178, false), (179, false), (180, false), (181, false), (182, false), (183, false), (184, false), (185, false), (186, false), (187, true), (188, true), (189, false), (190, false), (191, false), (192, false), (193, false), (194, false), (195, false), (196, true), (197, false), (198, false), (199, false), (200, false), (201, false), (202, false), (203, false), (204, false), (205, false), (206, false), (207, false), (208, false), (209, false), (210, false), (211, false), (212, false), (213, false), (214, false), (215, false), (216, false), (217, false), (218, false), (219, false), (220, false), (221, false), (222, false), (223, false), (224, false), (225, false), (226, false), (227, false), (228, false), (229, false), (230, false), (231, false), (232, false), (233, false), (234, false), (235, false), (236, false), (237, false), (238, true), (239, true), (240, true), (241, true), (242, true), (243, false), (244, false), (245, false), (246, false), (247, false), (248, false), (249, false), (250, true), (251, true), (252, true), (253, true), (254, false)]
def tabF : List (Nat × (Nat × Nat)) := [(700, (0, 2)), (701, (1, 3)), (702, (2, 4)), (703, (3, 6)), (800, (0, 2)), (801, (1, 3)), (802, (2, 4)), (803, (3, 6)), (1300, (0, 9)), (1301, (1, 12)), (1400, (0, 9)), (1401, (1, 12)), (1800, (0, 17)), (1900, (0, 17)), (2600, (0, 3)), (2601, (1, 3)), (2602, (2, 9)), (2603, (3, 24)), (2604, (4, 25)), (2700, (0, 3)), (2701, (1, 3)), (2702, (2, 9)), (2703, (3, 24)), (2704, (4, 25)), (2800, (0, 3)), (2801, (1, 3)), (2802, (2, 27)), (2900, (0, 3)), (2901, (1, 3)), (2902, (2, 27)), (3100, (0, 29)), (3101, (7, 30)), (3102, (8, 30)), (3103, (9, 30)), (3200, (0, 29)), (3201, (7, 30)), (3202, (8, 30)), (3203, (9, 30)), (3700, (0, 4)), (3701, (1, 36)), (3800, (0, 4)), (3801, (1, 36)), (3900, (0, 38)), (3901, (2, 36)), (4000, (0, 38)), (4001, (2, 36)), (6000, (0, 3)), (6001, (1, 40)), (6002, (4, 40)), (6100, (0, 3)), (6101, (1, 40)), (6102, (4, 40)), (6800, (0, 3)), (6801, (1, 3)), (6802, (2, 9)), (6900, (0, 3)), (6901, (1, 3)), (6902, (2, 9)), (8300, (0, 69)), (8301, (3, 38)), (8400, (0, 69)), (8401, (3, 38)), (8800, (0, 40)), (8801, (3, 2)), (8900, (0, 40)), (8901, (3, 2)), (17500, (0, 133)), (17501, (1, 133)), (17600, (0, 133)), (17601, (1, 133)), (18700, (0, 3)), (18701, (1, 3)), (18800, (0, 3)), (18801, (1, 3)), (19600, (0, 4)), (19601, (1, 36)), (23800, (0, 17)), (23801, (1, 17)), (23802, (2, 17)), (23803, (3, 9)), (23900, (0, 17)), (23901, (1, 17)), (23902, (2, 17)), (23903, (3, 9)), (24100, (0, 240)), (24200, (0, 240)), (25000, (0, 12)), (25001, (1, 12)), (25002, (2, 145)), (25003, (3, 244)), (25004, (4, 5)), (25005, (5, 5)), (25006, (6, 245)), (25007, (7, 246)), (25008, (8, 247)), (25009, (9, 248)), (25010, (10, 249)), (25100, (0, 12)), (25101, (1, 12)), (25102, (2, 145)), (25103, (3, 244)), (25104, (4, 5)), (25105, (5, 5)), (25106, (6, 245)), (25107, (7, 246)), (25108, (8, 247)), (25109, (9, 248)), (25110, (10, 249)), (25200, (0, 9)), (25300, (0, 9))]
theorem tabU_ok : tabU.all (fun x => descBeq (Tryz.prog.underlying x.1) x.2) = true := by kernel_rfl
theorem tabZ_ok : tabZ.all (fun x => match Tryz.prog.info? x.1 with | some i => Nat.beq i.size x.2 | none => false) = true := by kernel_rfl
theorem tabG_ok : tabG.all (fun x => match Tryz.prog.underlying x.1 with | some d => descAgg d == x.2 | none => false) = true := by kernel_rfl
theorem tabF_ok : tabF.all (fun x => match fldOf Tryz.prog (x.1 / 100) (x.1 % 100) with | some (o, t) => Nat.beq o x.2.1 && Nat.beq t x.2.2 | none => false) = true := by kernel_rfl
theorem uOk {t : Nat} {d : TypeDesc} (h : tab tabU t = some d) : Tryz.prog.underlying t = some d := tab_ok (p := fun t d => Tryz.prog.underlying t = some d) (fun x hx => descBeq_ok (List.all_eq_true.1 tabU_ok x hx)) h
theorem zOk {t n : Nat} (h : tab tabZ t = some n) : (Tryz.prog.info? t).map (·.size) = some n :=
  tab_ok (p := fun t n => (Tryz.prog.info? t).map (·.size) = some n) (fun x hx => by
    have := List.all_eq_true.1 tabZ_ok x hx
    split at this
    · rename_i i e; rw [e]; simp [Nat.eq_of_beq_eq_true this]
    · cases this) h
theorem gOk {t : Nat} {b : Bool} (h : tab tabG t = some b) : (Tryz.prog.underlying t).map descAgg = some b :=
  tab_ok (p := fun t b => (Tryz.prog.underlying t).map descAgg = some b) (fun x hx => by
    have := List.all_eq_true.1 tabG_ok x hx
    split at this
    · rename_i i e; rw [e]; simpa using this
    · cases this) h
theorem fOk {s f o t : Nat} (h : tab tabF (s * 100 + f) = some (o, t)) (hf : Nat.blt f 100 = true := by rfl) : fldOf Tryz.prog s f = some (o, t) := by
  have h0 := tab_ok (p := fun k x => fldOf Tryz.prog (k / 100) (k % 100) = some x) (fun x hx => by
    have := List.all_eq_true.1 tabF_ok x hx
    split at this
    · rename_i o t e
      rw [e]
      simp only [Bool.and_eq_true] at this
      rw [Nat.eq_of_beq_eq_true this.1, Nat.eq_of_beq_eq_true this.2]
    · cases this) h
  have hlt : f < 100 := by simpa [Nat.blt_eq] using hf
  rw [show (s * 100 + f) / 100 = s by omega, show (s * 100 + f) % 100 = f by omega] at h0
  exact h0
theorem Tryz.mixed : Tryz.prog.follows .mixedOrders = true := by kernel_rfl
theorem ap3 : (Tryz.prog.info? 3).map (fun i => (i.size, i.bytes, i.zero)) = some (1, 8, some (.int .i64 0)) := by kernel_rfl
theorem ap27 : (Tryz.prog.info? 27).map (fun i => (i.size, i.bytes, i.zero)) = some (5, 80, some (.agg #[(.int .i64 0), (.int .i64 0), (.string ⟨#[]⟩), (.slice none 0 0), (.slice none 0 0)])) := by kernel_rfl
theorem ap40 : (Tryz.prog.info? 40).map (fun i => (i.size, i.bytes, i.zero)) = some (3, 56, some (.agg #[(.bool false), (.slice none 0 0), (.slice none 0 0)])) := by kernel_rfl
theorem ap58 : (Tryz.prog.info? 58).map (fun i => (i.size, i.bytes, i.zero)) = some (1, 8, some (.int .u64 0)) := by kernel_rfl
theorem ap66 : (Tryz.prog.info? 66).map (fun i => (i.size, i.bytes, i.zero)) = some (1, 24, some (.slice none 0 0)) := by kernel_rfl
theorem ap84 : (Tryz.prog.info? 84).map (fun i => (i.size, i.bytes, i.zero)) = some (5, 64, some (.agg #[(.int .i64 0), (.int .i64 0), (.string ⟨#[]⟩), (.bool false), (.slice none 0 0)])) := by kernel_rfl
theorem ap145 : (Tryz.prog.info? 145).map (fun i => (i.size, i.bytes, i.zero)) = some (1, 4, some (.int .u32 0)) := by kernel_rfl
theorem bz3 : (Tryz.prog.info? 3).map (fun i => (i.size, i.zero)) = some (1, some (.int .i64 0)) := by kernel_rfl
theorem bz9 : (Tryz.prog.info? 9).map (fun i => (i.size, i.zero)) = some (1, some (.string ⟨#[]⟩)) := by kernel_rfl
theorem bz27 : (Tryz.prog.info? 27).map (fun i => (i.size, i.zero)) = some (5, some (.agg #[(.int .i64 0), (.int .i64 0), (.string ⟨#[]⟩), (.slice none 0 0), (.slice none 0 0)])) := by kernel_rfl
theorem bz36 : (Tryz.prog.info? 36).map (fun i => (i.size, i.zero)) = some (1, some (.slice none 0 0)) := by kernel_rfl
theorem bz40 : (Tryz.prog.info? 40).map (fun i => (i.size, i.zero)) = some (3, some (.agg #[(.bool false), (.slice none 0 0), (.slice none 0 0)])) := by kernel_rfl
theorem bz58 : (Tryz.prog.info? 58).map (fun i => (i.size, i.zero)) = some (1, some (.int .u64 0)) := by kernel_rfl
theorem bz66 : (Tryz.prog.info? 66).map (fun i => (i.size, i.zero)) = some (1, some (.slice none 0 0)) := by kernel_rfl
theorem bz84 : (Tryz.prog.info? 84).map (fun i => (i.size, i.zero)) = some (5, some (.agg #[(.int .i64 0), (.int .i64 0), (.string ⟨#[]⟩), (.bool false), (.slice none 0 0)])) := by kernel_rfl
theorem bz145 : (Tryz.prog.info? 145).map (fun i => (i.size, i.zero)) = some (1, some (.int .u32 0)) := by kernel_rfl
theorem bz198 : (Tryz.prog.info? 198).map (fun i => (i.size, i.zero)) = some (1, some .nilFunc) := by kernel_rfl
theorem zr4 : (Tryz.prog.info? 4).bind (·.zero) = some (.bool false) := by kernel_rfl
theorem zr27 : (Tryz.prog.info? 27).bind (·.zero) = some (.agg #[(.int .i64 0), (.int .i64 0), (.string ⟨#[]⟩), (.slice none 0 0), (.slice none 0 0)]) := by kernel_rfl
theorem zr29 : (Tryz.prog.info? 29).bind (·.zero) = some (.agg #[(.int .i64 0), (.int .i64 0), (.int .i64 0), (.int .i64 0), (.string ⟨#[]⟩), (.slice none 0 0), (.slice none 0 0)]) := by kernel_rfl
theorem zr32 : (Tryz.prog.info? 32).bind (·.zero) = some (.agg #[(.int .i64 0), (.int .i64 0), (.int .i64 0), (.int .i64 0), (.string ⟨#[]⟩), (.slice none 0 0), (.slice none 0 0), (.slice none 0 0), (.slice none 0 0), (.slice none 0 0)]) := by kernel_rfl
theorem zr38 : (Tryz.prog.info? 38).bind (·.zero) = some (.agg #[(.bool false), (.slice none 0 0)]) := by kernel_rfl
theorem zr40 : (Tryz.prog.info? 40).bind (·.zero) = some (.agg #[(.bool false), (.slice none 0 0), (.slice none 0 0)]) := by kernel_rfl
theorem zr69 : (Tryz.prog.info? 69).bind (·.zero) = some (.agg #[(.int .i64 0), (.int .i64 0), (.string ⟨#[]⟩)]) := by kernel_rfl
theorem zr84 : (Tryz.prog.info? 84).bind (·.zero) = some (.agg #[(.int .i64 0), (.int .i64 0), (.string ⟨#[]⟩), (.bool false), (.slice none 0 0)]) := by kernel_rfl
theorem zr119 : (Tryz.prog.info? 119).bind (·.zero) = some .nilFunc := by kernel_rfl
theorem zr172 : (Tryz.prog.info? 172).bind (·.zero) = some .nilFunc := by kernel_rfl
theorem zr196 : (Tryz.prog.info? 196).bind (·.zero) = some (.agg #[(.bool false), (.slice none 0 0)]) := by kernel_rfl
theorem ly27 : laid Tryz.prog 27 = some ([(0, 1), (1, 1), (2, 1), (3, 1), (4, 1)], (.agg #[(.int .i64 0), (.int .i64 0), (.string ⟨#[]⟩), (.slice none 0 0), (.slice none 0 0)])) := by kernel_rfl
theorem ly29 : laid Tryz.prog 29 = some ([(0, 1), (1, 1), (2, 5)], (.agg #[(.int .i64 0), (.int .i64 0), (.int .i64 0), (.int .i64 0), (.string ⟨#[]⟩), (.slice none 0 0), (.slice none 0 0)])) := by kernel_rfl
theorem ly38 : laid Tryz.prog 38 = some ([(0, 1), (1, 1)], (.agg #[(.bool false), (.slice none 0 0)])) := by kernel_rfl
theorem ly40 : laid Tryz.prog 40 = some ([(0, 2), (2, 1)], (.agg #[(.bool false), (.slice none 0 0), (.slice none 0 0)])) := by kernel_rfl
theorem ly69 : laid Tryz.prog 69 = some ([(0, 1), (1, 1), (2, 1)], (.agg #[(.int .i64 0), (.int .i64 0), (.string ⟨#[]⟩)])) := by kernel_rfl
theorem ly84 : laid Tryz.prog 84 = some ([(0, 3), (3, 2)], (.agg #[(.int .i64 0), (.int .i64 0), (.string ⟨#[]⟩), (.bool false), (.slice none 0 0)])) := by kernel_rfl
theorem ly89 : laid Tryz.prog 89 = some ([(0, 3), (3, 1)], (.agg #[(.bool false), (.slice none 0 0), (.slice none 0 0), (.int .i64 0)])) := by kernel_rfl
theorem ly176 : laid Tryz.prog 176 = some ([(0, 1), (1, 1)], (.agg #[(.slice none 0 0), (.slice none 0 0)])) := by kernel_rfl
theorem ly188 : laid Tryz.prog 188 = some ([(0, 1), (1, 1)], (.agg #[(.int .i64 0), (.int .i64 0)])) := by kernel_rfl
theorem ly196 : laid Tryz.prog 196 = some ([(0, 1), (1, 1)], (.agg #[(.bool false), (.slice none 0 0)])) := by kernel_rfl
end Go.Proofs.YthaiegnohkiegaaGreat.Ab
/-
  DERIVED: THE SHELF's CONTRACTS AT THIS DUMP, IN PLAIN WORDS (tools/lay-plain.mjs out of 'YthaiegnohkiegaaGreatShelfS.lean', which tools/lay-shelf.mjs wrote): THE SAME DECLARATIONS UNDER THE SAME NAMES: 'import', 'namespace', 'open', 'def', 'theorem' AND NOTHING ELSE: no command of the shelf's: FOR A HAND-IN. Each laying: the table of numbers ('.._ren') and one theorem, a field a fact of the dump's own or the kernel's comparison; each contract: ONE APPLICATION.
-/
namespace Go.Proofs
open Go.Shelf
def Tryz.lays189_ren : Go.Shelf.Ren := ⟨fun | 189 => 159 | 125 => 182 | 257 => 181 | 128 => 214 | 129 => 131 | 294 => 205 | 295 => 206 | 296 => 207 | 297 => 208 | 298 => 209 | 299 => 210 | 216 => 211 | 300 => 212 | 301 => 213 | 328 => 228 | 329 => 229 | 330 => 230 | 331 => 231 | 332 => 232 | 215 => 233 | 343 => 245 | n => n, fun | 28 => 133 | 3 => 3 | 46 => 146 | 0 => 0 | 51 => 145 | 53 => 58 | 4 => 4 | 183 => 208 | 182 => 207 | 131 => 213 | 5 => 5 | 9 => 9 | 218 => 222 | 222 => 226 | 228 => 233 | 229 => 234 | n => n, fun | n => n⟩
theorem Tryz.lays189 : Go.Proofs.Lays.n189 Tryz.prog Tryz.lays189_ren := {
  mixed := by kernel_rfl
  f125 := Tryz.func182.trans (congrArg some (by kernel_rfl))
  f128 := Tryz.func214.trans (congrArg some (by kernel_rfl))
  f129 := Tryz.func131.trans (congrArg some (by kernel_rfl))
  f189 := Tryz.func159.trans (congrArg some (by kernel_rfl))
  f215 := Tryz.func233.trans (congrArg some (by kernel_rfl))
  f216 := Tryz.func211.trans (congrArg some (by kernel_rfl))
  f257 := Tryz.func181.trans (congrArg some (by kernel_rfl))
  f294 := Tryz.func205.trans (congrArg some (by kernel_rfl))
  f295 := Tryz.func206.trans (congrArg some (by kernel_rfl))
  f296 := Tryz.func207.trans (congrArg some (by kernel_rfl))
  f297 := Tryz.func208.trans (congrArg some (by kernel_rfl))
  f298 := Tryz.func209.trans (congrArg some (by kernel_rfl))
  f299 := Tryz.func210.trans (congrArg some (by kernel_rfl))
  f300 := Tryz.func212.trans (congrArg some (by kernel_rfl))
  f301 := Tryz.func213.trans (congrArg some (by kernel_rfl))
  f328 := Tryz.func228.trans (congrArg some (by kernel_rfl))
  f329 := Tryz.func229.trans (congrArg some (by kernel_rfl))
  f330 := Tryz.func230.trans (congrArg some (by kernel_rfl))
  f331 := Tryz.func231.trans (congrArg some (by kernel_rfl))
  f332 := Tryz.func232.trans (congrArg some (by kernel_rfl))
  f343 := Tryz.func245.trans (congrArg some (by kernel_rfl))
  t0 := Tryz.underlying0
  a0 := Tryz.isAgg0
  z0 := Tryz.sizeOf0
  v0 := Tryz.zeroValue0
  t3 := Tryz.underlying3
  a3 := Tryz.isAgg3
  z3 := Tryz.sizeOf3
  v3 := Tryz.zeroValue3
  t4 := Tryz.underlying4
  a4 := Tryz.isAgg4
  z4 := Tryz.sizeOf4
  v4 := Tryz.zeroValue4
  t5 := Tryz.underlying5
  a5 := Tryz.isAgg5
  z5 := Tryz.sizeOf5
  v5 := Tryz.zeroValue5
  t9 := Tryz.underlying9
  a9 := Tryz.isAgg9
  z9 := Tryz.sizeOf9
  v9 := Tryz.zeroValue9
  t28 := Tryz.underlying133
  a28 := Tryz.isAgg133
  z28 := Tryz.sizeOf133
  v28 := Tryz.zeroValue133
  t46 := Tryz.underlying146
  a46 := Tryz.isAgg146
  z46 := Tryz.sizeOf146
  v46 := Tryz.zeroValue146
  t51 := Tryz.underlying145
  a51 := Tryz.isAgg145
  z51 := Tryz.sizeOf145
  v51 := Tryz.zeroValue145
  t53 := Tryz.underlying58
  a53 := Tryz.isAgg58
  z53 := Tryz.sizeOf58
  v53 := Tryz.zeroValue58
  t131 := Tryz.underlying213
  a131 := Tryz.isAgg213
  z131 := Tryz.sizeOf213
  v131 := Tryz.zeroValue213
  t182 := Tryz.underlying207
  a182 := Tryz.isAgg207
  z182 := Tryz.sizeOf207
  v182 := Tryz.zeroValue207
  t183 := Tryz.underlying208
  a183 := Tryz.isAgg208
  z183 := Tryz.sizeOf208
  v183 := Tryz.zeroValue208
  t218 := Tryz.underlying222
  a218 := Tryz.isAgg222
  z218 := Tryz.sizeOf222
  v218 := Tryz.zeroValue222
  t222 := Tryz.underlying226
  a222 := Tryz.isAgg226
  z222 := Tryz.sizeOf226
  v222 := Tryz.zeroValue226
  t228 := Tryz.underlying233
  a228 := Tryz.isAgg233
  z228 := Tryz.sizeOf233
  v228 := Tryz.zeroValue233
  t229 := Tryz.underlying234
  a229 := Tryz.isAgg234
  z229 := Tryz.sizeOf234
  v229 := Tryz.zeroValue234 }
open Go.Sort Go.RowKit in
theorem Tryz.slices_Sort_int (blk off cap : Nat) (zs : List Int) (w : World) (hH : Holds (Value.int .i64) w blk off zs.toArray) (hblk : blk < w.heap.size) (hsz : zs.length < 4611686018427387904) :
    Calls Tryz.prog 159 #[.slice (some ⟨blk, off, none⟩) zs.length cap] w fun e w' =>
      e = .returned (.tuple #[]) ∧ ∃ n os, w' = grow (putRow (Value.int .i64) (Sort.ahead w n) blk off (zs.mergeSort fun x y => decide (x ≤ y)).toArray) os := Any.slices_Sort_int Tryz.lays189 blk off cap zs w hH hblk hsz
def Tryz.laysNm220_ren : Go.Shelf.Ren := ⟨fun | 20 => 160 | n => n, fun | 22 => 133 | 3 => 3 | 4 => 4 | 0 => 0 | n => n, fun | n => n⟩
theorem Tryz.laysNm220 : Go.Proofs.Lays2.n20 Tryz.prog Tryz.laysNm220_ren := {
  mixed := by kernel_rfl
  f20 := Tryz.func160.trans (congrArg some (by kernel_rfl))
  t0 := Tryz.underlying0
  a0 := Tryz.isAgg0
  z0 := Tryz.sizeOf0
  v0 := Tryz.zeroValue0
  t3 := Tryz.underlying3
  a3 := Tryz.isAgg3
  z3 := Tryz.sizeOf3
  v3 := Tryz.zeroValue3
  t4 := Tryz.underlying4
  a4 := Tryz.isAgg4
  z4 := Tryz.sizeOf4
  v4 := Tryz.zeroValue4
  t22 := Tryz.underlying133
  a22 := Tryz.isAgg133
  z22 := Tryz.sizeOf133
  v22 := Tryz.zeroValue133
  i3 := by kernel_rfl }
open Go.RowKit Go.Lib Go.Sort in
/-- slices.Compact at []int: "Compact replaces consecutive runs of equal elements with a single copy. This is like the uniq command found on Unix. Compact modifies the contents of the slice s and returns the modified slice, which may have a smaller length. Compact zeroes the elements between the new length and the original length. The result preserves the nilness of s.": IT RETURNS THE SLICE CUT TO 'Lib.compact zs'; ITS CELLS HOLD 'Lib.compact zs', THEN ZERO VALUES up to the old length; all else is as it was, but for the count of draws. IN THE WORDS OF slices.Sort's CONTRACT ('Holds', 'putRow'): so the everyday 'slices.Sort(xs); xs = slices.Compact(xs)' goes from the one contract to the other. It asks 'zs.length ≤ cap' (every slice's: the reslicing 's[:k]' looks at it). Length 0, nil: '.._empty'. (LAID: no walk: one application.) -/
theorem Tryz.slices_Compact_int (blk off cap : Nat) (zs : List Int) (w : World) (hH : Holds (Value.int .i64) w blk off zs.toArray) (hsz : zs.length ≤ 9223372036854775807) (hcap : zs.length ≤ cap) :
    Calls Tryz.prog 160 #[.slice (some ⟨blk, off, none⟩) zs.length cap] w fun e w' => e = .returned (.slice (some ⟨blk, off, none⟩) (Lib.compact zs).length cap) ∧ ∃ q, w' = putRow (Value.int .i64) (Sort.ahead w q) blk off (Lib.compact zs ++ List.replicate (zs.length - (Lib.compact zs).length) 0).toArray := Any.slices_Compact_int Tryz.laysNm220 blk off cap zs w hH hsz hcap
open Go.RowKit Go.Lib Go.Sort in
/-- The same at a slice of length 0, a nil one too: it comes back as it is. (LAID: no walk: one application.) -/
theorem Tryz.slices_Compact_int_empty (a : Option Addr) (cap : Nat) (w : World) :
    Calls Tryz.prog 160 #[.slice a 0 cap] w fun e w' => e = .returned (.slice a 0 cap) ∧ w' = w := Any.slices_Compact_int_empty Tryz.laysNm220 a cap w
open Go.RowKit Go.Sort in
/-- .. and plain. (LAID: no walk: one application.) -/
theorem Tryz.slices_Sort_int_none (p : Option Addr) (cap : Nat) (w : World) :
    Calls Tryz.prog 159 #[.slice p 0 cap] w fun e w' => e = .returned (.tuple #[]) ∧ w' = w := Any.slices_Sort_int_none Tryz.lays189 p cap w
end Go.Proofs
/-
  The calculus, continued: growing rows begin out of nil cells; rows of numbers are sorted and cut in place.
-/
namespace Go.Proofs.YthaiegnohkiegaaGreat.Ab
open Go.RowKit (Below)
set_option linter.unusedVariables false
set_option linter.unusedSimpArgs false
section
variable {X : Nat → Bool} {P : Program} {E : Ent} {S : St} {Q : Exit → St → Prop} {ops : Array Oper} {rest : List Oper}
  {d : Option Tmp} {ty : TypeId} {ps : String} {af : Array Edge} {gd : Option (Nat × Bool)}

/-- A box of no cells may be begun at any time. -/
theorem W_emptyBox (k : Nat) (hE : E.σ k = none) : W E S ((S.kill k).box k (some (.box []))) := by
  intro a w G r
  let G' : Env := { own := G.own, ι := fun i => bif Nat.beq i k then none else G.ι i }
  have hιk : ∀ i, i ≠ k → G'.ι i = G.ι i := fun i hi => by simp only [G']; rw [beq_ne hi]; rfl
  have hιkk : G'.ι k = none := by simp [G']
  have hlv : ∀ id, id ≠ k → lvOf ((S.kill k).box k (some (.box []))).σ id = lvOf S.σ id := fun id hid => by
    have := congrFun (lv_kill S k) id
    simp only [lvOf, St.box] at this ⊢
    rw [beq_ne hid]
    exact this
  have hst : StayK k w G (lvOf S.σ) w G' (lvOf ((S.kill k).box k (some (.box []))).σ) :=
    ⟨Step.refl _ _, fun i g hi hg => (hιk i hi).trans hg, fun i hi hl => ⟨(hlv i hi) ▸ hl, fun g hg => ⟨rfl, rfl⟩⟩, fun i hi hl => hιk i hi⟩
  have hbox : ∀ id, id ≠ k → ∀ o, ((S.kill k).box k (some (.box []))).σ id = some o → ∃ o', S.σ id = some o' ∧ o = o'.kill k := fun id hid o h => by
    simp only [St.box, St.kill] at h
    rw [beq_ne hid] at h
    simp only [cond_false, Option.map_eq_some_iff] at h
    obtain ⟨o', h1, h2⟩ := h
    exact ⟨o', h1, h2.symm⟩
  have hsome : ∀ id, id ≠ k → (((S.kill k).box k (some (.box []))).σ id).isSome = true → (S.σ id).isSome = true := fun id hid h => by
    obtain ⟨o, ho⟩ := Option.isSome_iff_exists.1 h
    obtain ⟨o', h1, _⟩ := hbox id hid o ho
    simp [h1]
  have hnk : ∀ i g, G'.ι i = some g → i ≠ k := fun i g h e => by rw [e, hιkk] at h; cases h
  refine ⟨G', r.defers, r.size, fun u v hu => ?_, ⟨fun i g q1 q2 => ?_, fun i i' g q1 q2 q3 q4 => ?_, fun i g q1 q2 => ?_, fun i cs q1 hne' => ?_⟩, ⟨r.hist.step, r.hist.old, fun i hi hg => (hιk i fun e => by rw [e, hE] at hi; cases hi).trans (r.hist.ι i hi hg)⟩⟩
  · exact (r.slots u v hu).stayK hst
  · exact r.good.wh i g (hsome i (hnk i g q2) q1) ((hιk i (hnk i g q2)).symm.trans q2)
  · exact r.good.inj i i' g (hsome i (hnk i g q3) q1) (hsome i' (hnk i' g q4) q2) ((hιk i (hnk i g q3)).symm.trans q3) ((hιk i' (hnk i' g q4)).symm.trans q4)
  · exact r.good.lt i g (hsome i (hnk i g q2) q1) ((hιk i (hnk i g q2)).symm.trans q2)
  · have hi : i ≠ k := fun e => by
      subst e
      simp only [St.box, Nat.beq_refl, cond_true, Option.some.injEq, O.box.injEq] at q1
      exact hne' q1.symm
    obtain ⟨o', b1, b2⟩ := hbox i hi _ q1
    cases o' with
    | row => cases b2
    | box cs0 =>
      simp only [O.kill, O.box.injEq] at b2
      subst b2
      obtain ⟨g, cells, e', c1, c2, c3, c4, c5⟩ := r.good.box i cs0 b1 (fun e => hne' (by rw [e]; rfl))
      refine ⟨g, cells, e', (hιk i hi).trans c1, c2, by rw [killL_length]; exact c3, c4, fun j c hj => ?_⟩
      rw [killL_get] at hj
      obtain ⟨y, hy, rfl⟩ := Option.map_eq_some_iff.1 hj
      exact (c5 j y hy).stayK hst

/-- A box's content may be told otherwise. -/
theorem W_box (b : Nat) {cs cs' : List C} (hb : S.σ b = some (.box cs)) (hl : cs'.length = cs.length)
    (h : ∀ (w : World) (G : Env) (lv : Nat → Bool) (v : Value) (j : Nat) (c : C) (c' : C), cs[j]? = some c → cs'[j]? = some c' → RelC w G E.B lv v c → RelC w G E.B lv v c') : W E S (S.box b (some (.box cs'))) := by
  intro a w G r
  have hlv : lvOf (S.box b (some (.box cs'))).σ = lvOf S.σ := by
    funext i
    by_cases hi : i = b
    · subst hi; simp [lvOf, St.box, hb]
    · simp only [lvOf, St.box]; rw [beq_ne hi]; rfl
  have hso : ∀ i, ((S.box b (some (.box cs'))).σ i).isSome = true → (S.σ i).isSome = true := fun i hi => by
    by_cases e : i = b
    · subst e; simp [hb]
    · simp only [St.box] at hi; rw [beq_ne e] at hi; exact hi
  refine ⟨G, r.defers, r.size, fun u v hu => by rw [hlv]; exact r.slots u v hu, ⟨fun i g q1 q2 => r.good.wh i g (hso i q1) q2, fun i i' g q1 q2 => r.good.inj i i' g (hso i q1) (hso i' q2), fun i g q1 q2 => r.good.lt i g (hso i q1) q2, fun i cs0 q1 hne => ?_⟩, r.hist⟩
  rw [hlv]
  by_cases e : i = b
  · subst e
    simp only [St.box, Nat.beq_refl, cond_true, Option.some.injEq, O.box.injEq] at q1
    subst q1
    have hne' : cs ≠ [] := fun e0 => hne (List.eq_nil_of_length_eq_zero (by rw [hl, e0]; rfl))
    obtain ⟨g, cells, e', c1, c2, c3, c4, c5⟩ := r.good.box i cs hb hne'
    refine ⟨g, cells, e', c1, c2, by omega, c4, fun j c hj => ?_⟩
    have hjl := (List.getElem?_eq_some_iff.1 hj).1
    have hj' : cs[j]? = some cs[j] := List.getElem?_eq_getElem (by omega)
    exact h w G _ _ j _ c hj' hj (c5 j _ hj')
  · simp only [St.box] at q1
    rw [beq_ne e] at q1
    exact r.good.box i cs0 q1 hne

def isNil : C → Bool
  | .d _ (.val (.slice none 0 0)) => true
  | _ => false
theorem isNil_rel {w : World} {G : Env} {B : Base} {lv : Nat → Bool} {v : Value} {c : C} (h : isNil c = true) (hr : RelC w G B lv v c) {k e sz : Nat} : RelC w G B lv v (.gro k e 0 sz) := by
  unfold isNil at h
  split at h
  · have hv := (valOf_rel (.c hr) rfl).1
    subst hv
    exact .groE
  · cases h
/-- Two nil cells begin two growing rows. -/
theorem W_groBox2 (b k1 k2 e sz : Nat) {c1 c2 : C} (hE1 : E.σ k1 = none) (hE2 : E.σ k2 = none) (h12 : Nat.beq k1 k2 = false) (hb1 : Nat.beq b k1 = false) (hb2 : Nat.beq b k2 = false) (hb : S.σ b = some (.box [c1, c2])) (hc1 : isNil c1 = true) (hc2 : isNil c2 = true) :
    W E S ((((((S.kill k1).box k1 (some (.box []))).kill k2).box k2 (some (.box [])))).box b (some (.box [.gro k1 e 0 sz, .gro k2 e 0 sz]))) := by
  refine W.trans (W_emptyBox k1 hE1) (W.trans (W_emptyBox k2 hE2) ?_)
  have k1n : ∀ k, (c1.kill k) = c1 := fun k => by
    unfold isNil at hc1; split at hc1
    · rfl
    · cases hc1
  have k2n : ∀ k, (c2.kill k) = c2 := fun k => by
    unfold isNil at hc2; split at hc2
    · rfl
    · cases hc2
  refine W_box b (cs := [c1, c2]) ?_ rfl ?_
  · simp only [St.box, St.kill, hb1, hb2, hb, cond_false, Option.map_some, O.kill, C.killL, k1n, k2n]
  · intro w G lv v j c c' h1 h2 hr
    match j, h1, h2 with
    | 0, h1, h2 => cases h1; cases h2; exact isNil_rel hc1 hr
    | 1, h1, h2 => cases h1; cases h2; exact isNil_rel hc2 hr
    | j + 2, h1, h2 => simp at h1

/-- A growing row, told as a slice of its box. -/
theorem W_groMsl (t : Nat) {id e len sz : Nat} (hs : S.sl t = .c (.gro id e len sz)) : W E S (S.set t (.c (.msl id 0 len len))) := by
  intro a w G r
  refine ⟨G, r.defers, r.size, fun u v hu => ?_, r.good, r.hist⟩
  show RelV w G E.B _ v (bif Nat.beq u t then _ else S.sl u)
  by_cases e' : u = t
  · subst e'
    have h := r.slots u v hu
    rw [hs] at h
    simp only [Nat.beq_refl, cond_true]
    cases h with
    | c h => cases h with
      | gro h1 h2 h3 h4 h5 => exact .c (.msl h1 h3)
      | groE => exact .c .mslE
  · rw [beq_ne e']
    exact r.slots u v hu

/-- A box's content turns where it lies; new blocks may come. -/
theorem RS.inplace {a : Act} {w w' : World} {G : Env} (r : RS E S a w G) {id g : Nat} {cs cs' : List C} (hX : Free X S id) (hb : S.σ id = some (.box cs)) (hne : cs ≠ []) (hg : G.ι id = some g)
    {arr arr' : Array Value} {e : TypeId} (h1 : w.heap[g]? = some (.cells arr e (0, 0))) (h2 : w'.heap[g]? = some (.cells arr' e (0, 0))) (h3 : arr'.size = arr.size)
    (hoth : ∀ q, q < w.heap.size → q ≠ g → w'.heap[q]? = w.heap[q]?) (hsz : w.heap.size ≤ w'.heap.size) (hos : w'.os = w.os) (htape : w'.tape = w.tape) (hout : w'.output = w.output)
    (hl : cs'.length ≤ arr'.size) (hc : ∀ (j : Nat) (c : C), cs'[j]? = some c → RelC w G E.B (lvOf S.σ) (arr'.getD j undef) c) :
    Keep X w G w' G ∧ Stay w G (lvOf S.σ) w' G (lvOf S.σ) ∧ RS E (S.box id (some (.box cs'))) a w' G := by
  have hso : (S.σ id).isSome = true := by simp [hb]
  have hown : G.own g = some 0 := by
    obtain ⟨g0, cells, e0, b1, b2, b3, b4, b5⟩ := r.good.box id cs hb hne
    rw [hg] at b1; cases b1; exact b4
  have hglt := lt_of_heap h1
  have hstep : Step w G.own w' G.own := by
    refine ⟨hsz, hos, htape, hout, fun q hq hn => ?_, fun q n c e f ho hb' => ?_, fun q c e f hb' => ?_⟩
    · have hne : q ≠ g := fun e => by rw [e, hown] at hn; cases hn
      exact ⟨hoth q hq hne, hn⟩
    · by_cases hq : q = g
      · subst hq
        rw [h1] at hb'; cases hb'
        rw [hown] at ho; cases ho
        exact ⟨arr', _, h2, fun i hi => absurd hi (Nat.not_lt_zero i), fun _ _ => Nat.zero_le _⟩
      · exact ⟨c, f, (hoth q (lt_of_heap hb') hq).trans hb', fun _ _ => rfl, fun n' hn' => by rw [ho] at hn'; cases hn'; exact Nat.le_refl _⟩
    · by_cases hq : q = g
      · subst hq
        rw [h1] at hb'; cases hb'
        exact ⟨arr', _, h2, Nat.le_of_eq h3.symm⟩
      · exact ⟨c, f, (hoth q (lt_of_heap hb') hq).trans hb', Nat.le_refl _⟩
  have hfar : ∀ i q, i ≠ id → (S.σ i).isSome = true → G.ι i = some q → w'.heap[q]? = w.heap[q]? := fun i q hi hs hq =>
    hoth q (r.good.lt i q hs hq).1 (fun e => hi (r.good.inj i id q hs hso hq (by rw [e]; exact hg)))
  have hst : Stay w G (lvOf S.σ) w' G (lvOf S.σ) := ⟨hstep, fun _ _ h => h, fun i hl => ⟨hl, fun q hq => by
    have hi : i ≠ id := fun e => by subst e; simp [lvOf, hb] at hl
    exact ⟨hfar i q hi (lv_some hl) hq, rfl⟩⟩, fun _ _ => rfl⟩
  have hlv : lvOf (S.box id (some (.box cs'))).σ = lvOf S.σ := by
    funext i
    by_cases hi : i = id
    · subst hi; simp [lvOf, St.box, hb]
    · simp only [lvOf, St.box]; rw [beq_ne hi]; rfl
  have hsome : ∀ i, ((S.box id (some (.box cs'))).σ i).isSome = true → (S.σ i).isSome = true := fun i hi => by
    by_cases e : i = id
    · subst e; exact hso
    · simp only [St.box] at hi; rw [beq_ne e] at hi; exact hi
  refine ⟨⟨hstep, fun i q hXi hi hq ho => ⟨hi, hfar i q (hX i hXi).1 (hX i hXi).2 hi, ho⟩⟩, hst, r.defers, r.size, fun u v hu => by rw [hlv]; exact (r.slots u v hu).stay hst,
    ⟨fun i q q1 q2 => r.good.wh i q (hsome i q1) q2, fun i i' q q1 q2 => r.good.inj i i' q (hsome i q1) (hsome i' q2), fun i q q1 q2 => ?_, fun i cs0 q1 hne0 => ?_⟩, ⟨r.hist.step.trans hstep, fun q hq hn => ?_, r.hist.ι⟩⟩
  · obtain ⟨a1, a2⟩ := r.good.lt i q (hsome i q1) q2
    exact ⟨Nat.lt_of_lt_of_le a1 hsz, a2⟩
  · rw [hlv]
    by_cases hi : i = id
    · subst hi
      simp only [St.box, Nat.beq_refl, cond_true, Option.some.injEq, O.box.injEq] at q1
      subst q1
      exact ⟨g, arr', e, hg, h2, hl, hown, fun j c hj => (hc j c hj).stay hst⟩
    · have q1' : S.σ i = some (.box cs0) := by simp only [St.box] at q1; rw [beq_ne hi] at q1; exact q1
      obtain ⟨g1, cells, e1, c1, c2, c3, c4, c5⟩ := r.good.box i cs0 q1' hne0
      exact ⟨g1, cells, e1, c1, (hfar i g1 hi (by simp [q1']) c1).trans c2, c3, c4, fun j c hj => (c5 j c hj).stay hst⟩
  · obtain ⟨o1, o2⟩ := r.hist.old q hq hn
    refine ⟨(hoth q (Nat.lt_of_lt_of_le hq r.hist.step.size) fun e => ?_).trans o1, o2⟩
    subst e
    rcases r.good.wh id q hso hg with k | ⟨k, k'⟩
    · exact Nat.lt_irrefl _ (Nat.lt_of_lt_of_le hq k)
    · exact hn id k k'

theorem box_same {id : Nat} {o : Option O} (h : S.σ id = o) : S.box id o = S := by
  cases S with
  | mk sl σ n =>
    simp only [St.box]
    congr 1
    funext i
    by_cases e : i = id
    · subst e; simp only [Nat.beq_refl, cond_true]; exact h.symm
    · rw [beq_ne e]; rfl

/-- What a world is when a row was written in place. -/
theorem row_world (w : World) (n g : Nat) (d : List Int) (os : Array Obj) {arr : Array Value} {e : TypeId} {fr : Nat × Nat} (h : w.heap[g]? = some (.cells arr e fr)) :
    (Sort.grow (Sort.putRow (Value.int .i64) (Sort.ahead w n) g 0 d.toArray) os).heap[g]? = some (.cells (Sort.putCells (Value.int .i64) 0 d.toArray arr) e fr) ∧
    (∀ q, q < w.heap.size → q ≠ g → (Sort.grow (Sort.putRow (Value.int .i64) (Sort.ahead w n) g 0 d.toArray) os).heap[q]? = w.heap[q]?) ∧
    w.heap.size ≤ (Sort.grow (Sort.putRow (Value.int .i64) (Sort.ahead w n) g 0 d.toArray) os).heap.size ∧
    (Sort.putCells (Value.int .i64) 0 d.toArray arr).size = arr.size ∧
    ∀ j, j < d.length → j < arr.size → (Sort.putCells (Value.int .i64) 0 d.toArray arr)[j]? = some (.int .i64 (d.getD j 0)) := by
  have hlt := lt_of_heap h
  refine ⟨?_, fun q hq hne => ?_, by simp [Sort.grow], by simp [Sort.putCells], fun j hj hja => ?_⟩
  · simp only [Sort.grow, Sort.putRow, Sort.mapBlock, Sort.ahead]
    rw [Array.getElem?_append_left (by simpa using hlt), Array.getElem?_modify, if_pos rfl, h]
    rfl
  · simp only [Sort.grow, Sort.putRow, Sort.mapBlock, Sort.ahead]
    rw [Array.getElem?_append_left (by simpa using hq), Array.getElem?_modify, if_neg (fun e => hne e.symm)]
  · simp only [Sort.putCells, Array.getElem?_mapIdx, Array.getElem?_eq_getElem hja, Option.map_some]
    rw [if_pos ⟨Nat.zero_le _, by simpa using hj⟩]
    simp [hj]

theorem row_holds {w : World} {g : Nat} {zs : List Int} {arr : Array Value} {e : TypeId} {G : Env} {B : Base} {lv : Nat → Bool} (h : w.heap[g]? = some (.cells arr e (0, 0))) (hl : zs.length ≤ arr.size)
    (hc : ∀ (j : Nat) (c : C), (zs.map (ci .i64))[j]? = some c → RelC w G B lv (arr.getD j undef) c) : Sort.Holds (Value.int .i64) w g 0 zs.toArray := fun j hj => by
  have hj' : j < zs.length := by simpa using hj
  have hr := hc j (ci .i64 zs[j]) (by rw [List.getElem?_map, List.getElem?_eq_getElem hj']; rfl)
  have hv := (valOf_rel (.c hr) rfl).1
  have hja : j < arr.size := by omega
  refine ⟨?_, ?_⟩
  · rw [Nat.zero_add, cell_at h]
    have : arr.getD j undef = arr[j] := by simp [hja]
    rw [this] at hv
    rw [Array.getElem?_eq_getElem hja, hv]
    simp [hj']
  · simp [World.frozen?, h]

theorem ints_rel {w : World} {G : Env} {B : Base} {lv : Nat → Bool} {arr : Array Value} {d cs : List Int} (hd : ∀ j, j < d.length → arr[j]? = some (.int .i64 (d.getD j 0))) (hcs : ∀ (j : Nat) (x : Int), cs[j]? = some x → j < d.length ∧ d.getD j 0 = x) :
    ∀ (j : Nat) (c : C), (cs.map (ci .i64))[j]? = some c → RelC w G B lv (arr.getD j undef) c := fun j c hj => by
  rw [List.getElem?_map] at hj
  obtain ⟨x, hx, rfl⟩ := Option.map_eq_some_iff.1 hj
  obtain ⟨h1, h2⟩ := hcs j x hx
  have : arr.getD j undef = .int .i64 x := by
    rw [Array.getD_eq_getD_getElem?, hd j h1, h2]
    rfl
  rw [this]
  exact .d (.val _ rfl)

theorem D_sortG {f : FuncId} {x y : Operand} {ats : Array TypeId} {id e : Nat} {zs : List Int} (hf : callable P f = true)
    (hS : ∀ (blk off cap : Nat) (zs : List Int) (w : World), Sort.Holds (Value.int .i64) w blk off zs.toArray → blk < w.heap.size → zs.length < 4611686018427387904 →
      Calls P f #[.slice (some ⟨blk, off, none⟩) zs.length cap] w fun e w' => e = .returned (.tuple #[]) ∧ ∃ n os, w' = Sort.grow (Sort.putRow (Value.int .i64) (Sort.ahead w n) blk off (zs.mergeSort fun x y => decide (x ≤ y)).toArray) os)
    (hN : ∀ (p : Option Addr) (cap : Nat) (w : World), Calls P f #[.slice p 0 cap] w fun e w' => e = .returned (.tuple #[]) ∧ w' = w)
    (hx : calleeOf (S.ev x) = some (f, [], [])) {n : Nat} (hy : S.ev y = .c (.gro id e n 1)) (hX : Free X S id) (hb : S.σ id = some (.box (zs.map (ci .i64)))) (hn : n = zs.length) (hl : n ≤ 1099511627776) :
    Does X P E S ⟨d, .call { callee := .value x, args := #[y], argTypes := ats }, ty, ps, af, gd⟩ ((S.box id (some (.box ((zs.mergeSort fun x y => decide (x ≤ y)).map (ci .i64))))).setO d (.tup [])) := fun a w G h K Qx hK => by
  subst hn
  obtain ⟨fv, cv, q1, q2, q3, q4, hrun⟩ := callee_run (d := d) (ty := ty) (ps := ps) (af := af) (gd := gd) (args := #[y]) (ats := ats) h hx hf
  have e1 : fv = #[] := Array.eq_empty_of_size_eq_zero q1
  have e2 : cv = #[] := Array.eq_empty_of_size_eq_zero q2
  subst e1; subst e2
  have hargs : (#[] ++ (#[y] : Array Operand).map a.eval ++ #[] : Array Value) = #[a.eval y] := by simp
  rw [hargs] at hrun
  have hvy := ev_rel h y
  rw [hy] at hvy
  unfold Oper.wp
  rw [hrun, Oper.upon_enter]
  generalize a.eval y = vy at hvy
  cases hvy with
  | c hvy =>
    generalize hm : zs.length = m at hvy
    cases hvy with
    | @groE _ _ _ a0 =>
      have hz : zs = [] := List.eq_nil_of_length_eq_zero hm
      subst hz
      refine (hN a0 0 w).mono ?_
      rintro e w' ⟨rfl, rfl⟩
      refine hK _ _ G (Keep.refl _ _ _) ?_
      have hs : S.box id (some (.box ((([] : List Int).mergeSort fun x y => decide (x ≤ y)).map (ci .i64)))) = S := box_same (by rw [hb]; simp)
      rw [hs]
      exact h.put (Stay.refl _ _ _) h.hist h.good (.tup #[] rfl fun j x hj => by simp at hj) rfl
    | @gro _ _ _ _ c g hιg hpos hlc hmc hblk =>
      subst hm
      obtain ⟨cells, fr, hb1, hb2⟩ := hblk
      have hne : zs.map (ci .i64) ≠ [] := fun e0 => by
        have : zs.length = 0 := by simpa using congrArg List.length e0
        omega
      obtain ⟨g0, cur, e0, b1, b2, b3, b4, b5⟩ := h.good.box id _ hb hne
      rw [hιg] at b1; cases b1
      rw [List.length_map] at b3
      refine (hS g 0 c zs w (row_holds b2 b3 b5) (lt_of_heap b2) (by omega)).mono ?_
      rintro e w' ⟨rfl, n, os, rfl⟩
      obtain ⟨r1, r2, r3, r4, r5⟩ := row_world w n g (zs.mergeSort fun x y => decide (x ≤ y)) os b2
      have hsl : (zs.mergeSort fun x y => decide (x ≤ y)).length = zs.length := List.length_mergeSort _
      obtain ⟨k1, k2, k3⟩ := h.inplace (X := X) (cs' := (zs.mergeSort fun x y => decide (x ≤ y)).map (ci .i64)) hX hb hne hιg b2 r1 r4 r2 r3 rfl rfl rfl (by rw [List.length_map, hsl, r4]; exact b3)
        (ints_rel (d := zs.mergeSort fun x y => decide (x ≤ y)) (fun j hj => r5 j hj (by omega)) fun j x hj => ⟨(List.getElem?_eq_some_iff.1 hj).1, by simp [hj]⟩)
      refine hK _ _ G k1 ?_
      exact k3.put (Stay.refl _ _ _) k3.hist k3.good (.tup #[] rfl fun j x hj => by simp at hj) rfl

theorem D_compactG {f : FuncId} {x y : Operand} {ats : Array TypeId} {id e : Nat} {zs : List Int} (hf : callable P f = true)
    (hS : ∀ (blk off cap : Nat) (zs : List Int) (w : World), Sort.Holds (Value.int .i64) w blk off zs.toArray → zs.length ≤ 9223372036854775807 → zs.length ≤ cap →
      Calls P f #[.slice (some ⟨blk, off, none⟩) zs.length cap] w fun e w' => e = .returned (.slice (some ⟨blk, off, none⟩) (Lib.compact zs).length cap) ∧ ∃ q, w' = Sort.putRow (Value.int .i64) (Sort.ahead w q) blk off (Lib.compact zs ++ List.replicate (zs.length - (Lib.compact zs).length) 0).toArray)
    (hN : ∀ (p : Option Addr) (cap : Nat) (w : World), Calls P f #[.slice p 0 cap] w fun e w' => e = .returned (.slice p 0 cap) ∧ w' = w)
    (hx : calleeOf (S.ev x) = some (f, [], [])) {n : Nat} (hy : S.ev y = .c (.gro id e n 1)) (hX : Free X S id) (hb : S.σ id = some (.box (zs.map (ci .i64)))) (hn : n = zs.length) (hl : n ≤ 1099511627776) :
    Does X P E S ⟨d, .call { callee := .value x, args := #[y], argTypes := ats }, ty, ps, af, gd⟩ ((S.box id (some (.box ((Lib.compact zs).map (ci .i64))))).setO d (.c (.gro id e (Lib.compact zs).length 1))) := fun a w G h K Qx hK => by
  subst hn
  have hcl : (Lib.compact zs).length ≤ zs.length := by
    simp only [Lib.compact, Lib.compactUpTo, List.length_map]
    exact Nat.le_trans (List.length_filter_le _ _) (by simp)
  obtain ⟨fv, cv, q1, q2, q3, q4, hrun⟩ := callee_run (d := d) (ty := ty) (ps := ps) (af := af) (gd := gd) (args := #[y]) (ats := ats) h hx hf
  have e1 : fv = #[] := Array.eq_empty_of_size_eq_zero q1
  have e2 : cv = #[] := Array.eq_empty_of_size_eq_zero q2
  subst e1; subst e2
  have hargs : (#[] ++ (#[y] : Array Operand).map a.eval ++ #[] : Array Value) = #[a.eval y] := by simp
  rw [hargs] at hrun
  have hvy := ev_rel h y
  rw [hy] at hvy
  unfold Oper.wp
  rw [hrun, Oper.upon_enter]
  generalize a.eval y = vy at hvy
  cases hvy with
  | c hvy =>
    generalize hm : zs.length = m at hvy
    cases hvy with
    | @groE _ _ _ a0 =>
      have hz : zs = [] := List.eq_nil_of_length_eq_zero hm
      subst hz
      refine (hN a0 0 w).mono ?_
      rintro e w' ⟨rfl, rfl⟩
      refine hK _ _ G (Keep.refl _ _ _) ?_
      have hs : S.box id (some (.box ((Lib.compact ([] : List Int)).map (ci .i64)))) = S := box_same (by rw [hb]; rfl)
      rw [hs]
      exact h.put (Stay.refl _ _ _) h.hist h.good (.c .groE) rfl
    | @gro _ _ _ _ c g hιg hpos hlc hmc hblk =>
      subst hm
      obtain ⟨cells, fr, hb1, hb2⟩ := hblk
      have hne : zs.map (ci .i64) ≠ [] := fun e0 => by
        have : zs.length = 0 := by simpa using congrArg List.length e0
        omega
      obtain ⟨g0, cur, e0, b1, b2, b3, b4, b5⟩ := h.good.box id _ hb hne
      rw [hιg] at b1; cases b1
      rw [hb1] at b2; cases b2
      rw [List.length_map] at b3
      have hcp : 0 < (Lib.compact zs).length := by
        cases zs with
        | nil => simp at hpos
        | cons z zs =>
          simp only [Lib.compact, Lib.compactUpTo, List.length_map]
          refine List.length_pos_of_mem (a := 0) (List.mem_filter.2 ⟨by simp, ?_⟩)
          simp [Lib.keeps]
      refine (hS g 0 c zs w (row_holds hb1 b3 b5) (by omega) hlc).mono ?_
      rintro e w' ⟨rfl, n, rfl⟩
      obtain ⟨r1, r2, r3, r4, r5⟩ := row_world w n g (Lib.compact zs ++ List.replicate (zs.length - (Lib.compact zs).length) 0) #[] hb1
      simp only [Sort.grow_empty] at r1 r2 r3
      have hsl : (Lib.compact zs ++ List.replicate (zs.length - (Lib.compact zs).length) (0 : Int)).length = zs.length := by simp; omega
      obtain ⟨k1, k2, k3⟩ := h.inplace (X := X) (cs' := (Lib.compact zs).map (ci .i64)) hX hb hne hιg hb1 r1 r4 r2 r3 rfl rfl rfl (by rw [List.length_map, r4]; omega)
        (ints_rel (d := Lib.compact zs ++ List.replicate (zs.length - (Lib.compact zs).length) 0) (fun j hj => r5 j hj (by omega)) fun j x hj => ⟨by
          have := (List.getElem?_eq_some_iff.1 hj).1
          omega, by
          have := (List.getElem?_eq_some_iff.1 hj).1
          rw [List.getD_eq_getElem?_getD, List.getElem?_append_left this, hj]; rfl⟩)
      refine hK _ _ G k1 ?_
      exact k3.put (Stay.refl _ _ _) k3.hist k3.good (.c (.gro hιg hcp (by omega) hmc ⟨_, _, r1, by rw [r4]; exact hb2⟩)) rfl
end
end Go.Proofs.YthaiegnohkiegaaGreat.Ab
/-
  The calculus, continued: regions that draw in which one of three operations may come.
-/
namespace Go.Proofs.YthaiegnohkiegaaGreat.Ab
set_option linter.unusedVariables false
set_option linter.unusedSimpArgs false
/-- What is left of a region, so many operations to come, these listed. -/
def EVr (X : Nat → Bool) (P : Program) (E : Ent) (l : List Oper) (f : Nat) (listed : Array Bool) (S : St) (Q : Exit → St → Prop) : Prop :=
  Region.noSelect l.toArray = true → ∀ a w G, RS E S a w G → ∃ G0, Keep X w G w G0 ∧ anyX X P l.toArray (liftX E Q) f listed a w G0
section
variable {X : Nat → Bool} {P : Program} {E : Ent} {S : St} {Q : Exit → St → Prop} {l : List Oper} {p q r : Plan} {f : Nat} {listed : Array Bool}
theorem EVr_of (p : Plan) (hB : planB l.toArray p f listed = true) (h : EVq X P E l p S Q) : EVr X P E l f listed S Q := fun hs a w G r => h hs f listed hB a w G r
theorem EV_drawR {id : Nat} (X : Nat → Bool) (n : Nat) (hn : l.length = n) (hm : P.follows .mixedOrders = true) (hs : Region.noSelect l.toArray = true)
    (h : EVr X P E l n (Array.replicate n false) S Q) : EV P E (.region id l.toArray true) S Q := fun a w G r => by
  subst hn
  have r' : RS E S a { w with drawn := w.drawn + 1 } G := r.same ⟨Nat.le_refl _, rfl, rfl, rfl, fun _ _ => rfl, fun _ _ => rfl⟩
  obtain ⟨G0, _, h1⟩ := h hs a _ G r'
  have h2 : (Code.region id l.toArray true).wp P (liftX E Q) a w := wp_region_any hm (by simpa using anyX_sound _ _ _ _ _ h1)
  exact wp_mono h2 fun e a' w' he => by cases e <;> first | exact he | exact he.elim
theorem EVr_t {i : Nat} {o : Oper} {x : V} (hB : ((Region.ready .any l.toArray listed).contains i && Region.free .any l.toArray listed i) = true) (ho : l[i]? = some o) (hw : S.wants l.toArray o = some true) (h : Tells X P E S o x)
    (k : EVr X P E l f (listed.setIfInBounds i true) (S.setO o.dst x) Q) : EVr X P E l (f + 1) listed S Q := fun hs a w G r => by
  obtain ⟨v, h1, h2⟩ := h a w G r
  have hy : YX X P l.toArray o v a w G := .inl ⟨wants_sound hw r, h1⟩
  have r' := r.put (Stay.refl _ _ _) r.hist r.good h2 (d := o.dst) (S' := S.setO o.dst x) rfl
  simp only [Bool.and_eq_true] at hB
  have hi : l.toArray[i]? = some o := by simpa using ho
  obtain ⟨G0, hk, h0⟩ := k hs _ w G r'
  exact ⟨G0, hk, anyX_first hi (Region.noSelect_spec hs) no_panic f listed a w G0 (Region.free_spec hi hB.2) (by simpa using hB.1) (hy.put hk rfl rfl) h0⟩
theorem EVr_step {i : Nat} {o : Oper} {S' : St} (ho : l[i]? = some o) (hw : S.wants l.toArray o = some true) (h : Does X P E S o S') (hs : Region.noSelect l.toArray = true)
    (k : EVr X P E l f listed S' Q) {a : Act} {w : World} {G : Env} (r : RS E S a w G) :
    wpOp P l.toArray (liftX E Q) i (fun a' w' => ∃ G', Keep X w G w' G' ∧ anyX X P l.toArray (liftX E Q) f listed a' w' G') a w := by
  have hi : l.toArray[i]? = some o := by simpa using ho
  unfold wpOp
  simp only [hi]
  rw [if_pos (wants_sound hw r)]
  refine .inl (h a w G r _ _ fun a' w' G' hk r' => ?_)
  obtain ⟨G0, hk0, h0⟩ := k hs a' w' G' r'
  exact ⟨G0, hk.trans hk0, h0⟩
theorem EVr_e {i : Nat} {o : Oper} {S' : St} (hB : decide (Region.ready .any l.toArray listed = [i]) = true) (ho : l[i]? = some o) (hw : S.wants l.toArray o = some true) (h : Does X P E S o S')
    (k : EVr X P E l f (listed.setIfInBounds i true) S' Q) : EVr X P E l (f + 1) listed S Q := fun hs a w G r => by
  have hB := of_decide_eq_true hB
  refine ⟨G, Keep.refl _ _ _, fun h0 => (by rw [hB] at h0; cases h0), fun j hj => ?_⟩
  rw [hB] at hj
  have : j = i := by simpa using hj
  subst this
  exact EVr_step ho hw h hs k r
theorem EVr_two {i1 i2 : Nat} {o1 o2 : Oper} {S1 S2 : St} (hB : decide (Region.ready .any l.toArray listed = [i1, i2]) = true)
    (ho1 : l[i1]? = some o1) (hw1 : S.wants l.toArray o1 = some true) (h1 : Does X P E S o1 S1) (ho2 : l[i2]? = some o2) (hw2 : S.wants l.toArray o2 = some true) (h2 : Does X P E S o2 S2)
    (k1 : EVr X P E l f (listed.setIfInBounds i1 true) S1 Q) (k2 : EVr X P E l f (listed.setIfInBounds i2 true) S2 Q) : EVr X P E l (f + 1) listed S Q := fun hs a w G r => by
  have hB := of_decide_eq_true hB
  refine ⟨G, Keep.refl _ _ _, fun h0 => (by rw [hB] at h0; cases h0), fun j hj => ?_⟩
  rw [hB] at hj
  have : j = i1 ∨ j = i2 := by simpa using hj
  rcases this with rfl | rfl
  · exact EVr_step ho1 hw1 h1 hs k1 r
  · exact EVr_step ho2 hw2 h2 hs k2 r
theorem EVr_three {i1 i2 i3 : Nat} {o1 o2 o3 : Oper} {S1 S2 S3 : St} (hB : decide (Region.ready .any l.toArray listed = [i1, i2, i3]) = true)
    (ho1 : l[i1]? = some o1) (hw1 : S.wants l.toArray o1 = some true) (h1 : Does X P E S o1 S1) (ho2 : l[i2]? = some o2) (hw2 : S.wants l.toArray o2 = some true) (h2 : Does X P E S o2 S2)
    (ho3 : l[i3]? = some o3) (hw3 : S.wants l.toArray o3 = some true) (h3 : Does X P E S o3 S3)
    (k1 : EVr X P E l f (listed.setIfInBounds i1 true) S1 Q) (k2 : EVr X P E l f (listed.setIfInBounds i2 true) S2 Q) (k3 : EVr X P E l f (listed.setIfInBounds i3 true) S3 Q) : EVr X P E l (f + 1) listed S Q := fun hs a w G r => by
  have hB := of_decide_eq_true hB
  refine ⟨G, Keep.refl _ _ _, fun h0 => (by rw [hB] at h0; cases h0), fun j hj => ?_⟩
  rw [hB] at hj
  have : j = i1 ∨ j = i2 ∨ j = i3 := by simpa using hj
  rcases this with rfl | rfl | rfl
  · exact EVr_step ho1 hw1 h1 hs k1 r
  · exact EVr_step ho2 hw2 h2 hs k2 r
  · exact EVr_step ho3 hw3 h3 hs k3 r
end
end Go.Proofs.YthaiegnohkiegaaGreat.Ab
/-
  One step of a walk, found by itself: rules whose premises are tried by their default texts.
-/
namespace Go.Proofs.YthaiegnohkiegaaGreat.Ab
set_option linter.unusedVariables false
section
variable {X : Nat → Bool} {P : Program} {E : Ent} {S : St} {Q : Exit → St → Prop}

theorem ω {E : Ent} {S : St} {I : St → Prop} (h : ∃ S'', I S'' ∧ W E S S'') : ∃ S'', W E S S'' ∧ I S'' := by
  obtain ⟨S'', h1, h2⟩ := h
  exact ⟨S'', h2, h1⟩
theorem EV_wl {P : Program} {E : Ent} {S : St} {Q : Exit → St → Prop} {c : Code} (I : Nat → St → Prop) (n0 : Nat) (h0 : ∃ S0, I n0 S0 ∧ W E S S0) (hr : ∀ n S, I n S → EV P E c S (thenQ (fun S' => ∃ n', n' < n ∧ ∃ S'', W E S' S'' ∧ I n' S'') Q)) : EV P E (.loop c) S Q := by
  obtain ⟨S0, h1, h2⟩ := h0
  exact EV_weak h2 (EV_loop I n0 h1 hr)
theorem φd {x : C} {f : Bool} {y : D} {vs : List V} {ps : List P1} (h : x.data = some (f, y)) (k : fitsL false vs ps) : fitsL false (.c x :: vs) (.d y :: ps) := fit_cons (fit_d h nofun) k
theorem φa {cs : List C} {f : Bool} {ys : List D} {vs : List V} {ps : List P1} (h : dataL cs = some (f, ys)) (k : fitsL false vs ps) : fitsL false (.agg cs :: vs) (.agg ys :: ps) := fit_cons (fit_ag h nofun) k
theorem φn : fitsL false [] [] := fit_nil
theorem τ {G G' : Prop} (k : G') (h : G' → G := by first
  | exact fun k => EVo_t rfl (by first
    | exact T_move rfl | exact T_assign rfl | exact T_pick rfl rfl
    | exact T_binI rfl rfl rfl (by omega) (by omega) | exact T_bin rfl rfl rfl | exact T_un rfl rfl | exact T_extract rfl rfl
    | exact T_loadR (gOk rfl) rfl rfl rfl rfl | exact T_loadRA (gOk rfl) (zOk rfl) rfl rfl (Nat.le_of_ble_eq_true rfl) rfl rfl
    | exact T_load (gOk rfl) rfl | exact T_loadA (gOk rfl) (zOk rfl) rfl (Nat.le_of_ble_eq_true rfl)
    | exact T_faR (fOk rfl) (zOk rfl) rfl | exact T_fa (fOk rfl) (zOk rfl) rfl (Nat.le_of_ble_eq_true rfl)
    | exact T_f (fOk rfl) (gOk rfl) rfl rfl | exact T_fA (fOk rfl) (gOk rfl) (zOk rfl) rfl (Nat.le_of_ble_eq_true rfl)
    | exact T_lenL (uOk rfl) rfl | exact T_lenM (uOk rfl) rfl | exact T_lenS (uOk rfl) rfl
    | exact T_ixL (uOk rfl) (zOk rfl) rfl rfl (by omega) (by omega) rfl | exact T_indexAddrM (uOk rfl) (zOk rfl) rfl rfl (by omega) (by omega)
    | exact T_eqb (uOk rfl) rfl rfl (.inl ⟨rfl, rfl⟩) | exact T_eqb (uOk rfl) rfl rfl (.inr ⟨rfl, rfl⟩)
    | exact T_conv (uOk rfl) (uOk rfl) rfl | exact T_nilCheck rfl | exact T_nilCheckFn rfl) k
  | exact fun k => EVo_nil k
  | exact fun k => EVo_off rfl rfl k
  | exact fun k => EVo_e rfl (D_store rfl Free_no rfl rfl (zOk rfl) rfl (Nat.le_of_ble_eq_true rfl) rfl) k
  | exact fun k => EV_seq k | exact fun k => EV_region k | exact fun k => EV_block k | exact fun k => EV_skip k | exact fun k => EV_exit k | exact fun k => EV_ret k) : G := h k
end
end Go.Proofs.YthaiegnohkiegaaGreat.Ab
/-
  Limbs and the numbers that they say: plain arithmetic.
-/
namespace Go.Proofs.YthaiegnohkiegaaGreat.Ab
set_option linter.unusedVariables false
set_option linter.unusedSimpArgs false

abbrev iu (x : Int) : D := .val (.int .u64 x)
abbrev ii (x : Int) : D := .val (.int .i64 x)
abbrev ib (b : Bool) : D := .val (.bool b)
abbrev encN (l : List Int) : D := .sl (l.map fun x => [iu x])

/-- Words. -/
def okL (l : List Int) : Prop := ∀ x ∈ l, 0 ≤ x ∧ x < 18446744073709551616
def val : List Int → Nat
  | [] => 0
  | x :: l => x.toNat + 18446744073709551616 * val l
def limbsF : Nat → Nat → List Int
  | 0, _ => []
  | f + 1, n => if n = 0 then [] else ((n % 18446744073709551616 : Nat) : Int) :: limbsF f (n / 18446744073709551616)
def limbs (n : Nat) : List Int := limbsF n n

theorem limbsF_fuel : ∀ (f g n : Nat), n ≤ f → n ≤ g → limbsF f n = limbsF g n
  | 0, g, n, hf, hg => by
    have : n = 0 := by omega
    subst this
    cases g <;> simp [limbsF]
  | f + 1, 0, n, hf, hg => by
    have : n = 0 := by omega
    subst this
    simp [limbsF]
  | f + 1, g + 1, n, hf, hg => by
    simp only [limbsF]
    split
    · rfl
    · rw [limbsF_fuel f g (n / 18446744073709551616) (by omega) (by omega)]
theorem limbs_zero : limbs 0 = [] := rfl
theorem limbs_pos {n : Nat} (h : n ≠ 0) : limbs n = ((n % 18446744073709551616 : Nat) : Int) :: limbs (n / 18446744073709551616) := by
  unfold limbs
  obtain ⟨m, rfl⟩ := Nat.exists_eq_succ_of_ne_zero h
  simp only [limbsF]
  rw [if_neg h, limbsF_fuel m ((m + 1) / 18446744073709551616) ((m + 1) / 18446744073709551616) (by omega) (by omega)]
theorem val_limbs (n : Nat) : val (limbs n) = n := by
  induction n using Nat.strongRecOn with
  | _ n ih =>
    by_cases h : n = 0
    · subst h; rfl
    · rw [limbs_pos h, val, ih (n / 18446744073709551616) (by omega)]
      simp only [Int.toNat_natCast]
      have := Nat.div_add_mod n 18446744073709551616
      omega
theorem okL_nil : okL [] := fun x h => by cases h
theorem okL_cons {x : Int} {l : List Int} : okL (x :: l) ↔ (0 ≤ x ∧ x < 18446744073709551616) ∧ okL l := by
  simp [okL]
theorem okL_append {l m : List Int} : okL (l ++ m) ↔ okL l ∧ okL m := by
  constructor
  · intro h
    exact ⟨fun x hx => h x (by simp [hx]), fun x hx => h x (by simp [hx])⟩
  · rintro ⟨h1, h2⟩ x hx
    rcases List.mem_append.1 hx with h | h
    · exact h1 x h
    · exact h2 x h
theorem okL_rd {l : List Int} (h : okL l) (i : Int) : 0 ≤ rd l i ∧ rd l i < 18446744073709551616 := by
  unfold rd
  by_cases hi : i.toNat < l.length
  · have e : l.getD i.toNat default = l[i.toNat] := by simp [hi]
    rw [e]
    exact h _ (List.getElem_mem hi)
  · have e : l.getD i.toNat default = (0 : Int) := by simp [Nat.le_of_not_lt hi]
    rw [e]
    decide
theorem okL_take {l : List Int} (h : okL l) (n : Nat) : okL (l.take n) := fun x hx => h x (List.mem_of_mem_take hx)
theorem okL_drop {l : List Int} (h : okL l) (n : Nat) : okL (l.drop n) := fun x hx => h x (List.mem_of_mem_drop hx)
theorem okL_set {l : List Int} (h : okL l) (n : Nat) {x : Int} (hx : 0 ≤ x ∧ x < 18446744073709551616) : okL (l.set n x) := fun y hy => by
  rcases List.mem_or_eq_of_mem_set hy with h1 | rfl
  · exact h y h1
  · exact hx
theorem okL_rep (n : Nat) : okL (List.replicate n (0 : Int)) := fun x hx => by
  have := (List.mem_replicate.1 hx).2
  subst this
  decide
theorem okL_limbs (n : Nat) : okL (limbs n) := by
  induction n using Nat.strongRecOn with
  | _ n ih =>
    by_cases h : n = 0
    · subst h; exact okL_nil
    · rw [limbs_pos h, okL_cons]
      have := Nat.mod_lt n (show 18446744073709551616 > 0 by decide)
      exact ⟨by omega, ih (n / 18446744073709551616) (by omega)⟩

/-- The highest limb is no nought. -/
def goodL (l : List Int) : Bool := decide (l = [] ∨ rd l (l.length - 1) ≠ 0)
theorem goodL_cons {x y : Int} {l : List Int} : goodL (x :: y :: l) = goodL (y :: l) := by
  unfold goodL rd
  have h1 : ((↑(x :: y :: l).length : Int) - 1).toNat = l.length + 1 := by simp only [List.length_cons]; omega
  have h2 : ((↑(y :: l).length : Int) - 1).toNat = l.length := by simp
  rw [h1, h2]
  simp
theorem goodL_one {x : Int} : goodL [x] = decide (x ≠ 0) := by simp [goodL, rd]
theorem goodL_nil : goodL [] = true := rfl
theorem good_limbs (n : Nat) : goodL (limbs n) = true := by
  induction n using Nat.strongRecOn with
  | _ n ih =>
    by_cases h : n = 0
    · subst h; rfl
    · rw [limbs_pos h]
      by_cases h2 : n / 18446744073709551616 = 0
      · rw [h2, limbs_zero, goodL_one]
        have := Nat.div_add_mod n 18446744073709551616
        simp
        omega
      · have := ih (n / 18446744073709551616) (by omega)
        rw [limbs_pos h2] at this ⊢
        rw [goodL_cons]; exact this
theorem good_pos : ∀ {l : List Int}, okL l → goodL l = true → l ≠ [] → val l ≠ 0
  | [], _, _, h => absurd rfl h
  | [x], hk, hg, _ => by
    rw [goodL_one] at hg
    have := (okL_cons.1 hk).1
    simp at hg
    simp [val]
    omega
  | x :: y :: l, hk, hg, _ => by
    rw [goodL_cons] at hg
    have := good_pos (okL_cons.1 hk).2 hg (by simp)
    rw [val]
    omega
theorem limbs_val : ∀ {l : List Int}, okL l → goodL l = true → limbs (val l) = l
  | [], _, _ => rfl
  | x :: l, hk, hg => by
    have hp := good_pos hk hg (by simp)
    obtain ⟨h1, h2⟩ := okL_cons.1 hk
    rw [limbs_pos hp]
    have hm : val (x :: l) % 18446744073709551616 = x.toNat := by
      rw [val, Nat.add_mul_mod_self_left]
      exact Nat.mod_eq_of_lt (by omega)
    have hd : val (x :: l) / 18446744073709551616 = val l := by
      rw [val, Nat.add_mul_div_left _ _ (by decide), Nat.div_eq_of_lt (by omega)]; omega
    rw [hm, hd]
    have hg' : goodL l = true := by
      cases l with
      | nil => rfl
      | cons y l => rwa [goodL_cons] at hg
    rw [limbs_val h2 hg']
    congr 1
    omega
theorem val_append : ∀ (l m : List Int), val (l ++ m) = val l + 18446744073709551616 ^ l.length * val m
  | [], m => by simp [val]
  | x :: l, m => by
    simp only [List.cons_append, val, List.length_cons, val_append l m]
    rw [Nat.mul_add, Nat.pow_succ, Nat.add_assoc, Nat.mul_assoc, Nat.mul_left_comm]
theorem val_rep : ∀ n : Nat, val (List.replicate n (0 : Int)) = 0
  | 0 => rfl
  | n + 1 => by simp [List.replicate_succ, val, val_rep n]
theorem val_lt : ∀ {l : List Int}, okL l → val l < 18446744073709551616 ^ l.length
  | [], _ => by simp [val]
  | x :: l, h => by
    obtain ⟨h1, h2⟩ := okL_cons.1 h
    have := val_lt h2
    rw [val, List.length_cons, Nat.pow_succ]
    have h3 : 18446744073709551616 * (val l + 1) ≤ 18446744073709551616 * 18446744073709551616 ^ l.length := Nat.mul_le_mul_left _ this
    rw [Nat.mul_comm (18446744073709551616 ^ l.length)]
    rw [Nat.mul_add] at h3
    omega
theorem val_zero {l : List Int} (h : ∀ x ∈ l, x = 0) : val l = 0 := by
  induction l with
  | nil => rfl
  | cons x l ih =>
    rw [val, ih (fun y hy => h y (by simp [hy])), h x (by simp)]
    rfl
theorem take_succ_rd {l : List Int} {n : Nat} (h : n < l.length) : l.take (n + 1) = l.take n ++ [rd l n] := by
  have : rd l (n : Int) = l[n] := by simp [rd, h]
  rw [this, List.take_append_getElem]
theorem val_take_succ {l : List Int} {n : Nat} (h : n < l.length) : val (l.take (n + 1)) = val (l.take n) + 18446744073709551616 ^ n * (rd l n).toNat := by
  rw [take_succ_rd h, val_append, List.length_take, Nat.min_eq_left (by omega)]
  simp [val]
theorem rd_set_self {l : List Int} {n : Nat} {x : Int} (h : n < l.length) : rd (l.set n x) n = x := by simp [rd, h]
theorem rd_set_ne {l : List Int} {n m : Nat} {x : Int} (h : n ≠ m) : rd (l.set n x) m = rd l m := by
  simp only [rd, Int.toNat_natCast, List.getD_eq_getElem?_getD]
  rw [List.getElem?_set_ne h]
theorem take_set_le {l : List Int} {n m : Nat} {x : Int} (h : m ≤ n) : (l.set n x).take m = l.take m := by
  rw [List.take_set_of_le h]

/-- What trim tells. -/
theorem trim_eq {l : List Int} (hk : okL l) {n : Nat} (hn : n ≤ l.length) (hz : ∀ i : Nat, n ≤ i → i < l.length → rd l i = 0) (ht : n = 0 ∨ rd l ((n : Int) - 1) ≠ 0) : l.take n = limbs (val l) := by
  have h1 : val l = val (l.take n) := by
    have : val l = val (l.take n) + 18446744073709551616 ^ (l.take n).length * val (l.drop n) := by rw [← val_append, List.take_append_drop]
    rw [this, val_zero (l := l.drop n)]
    · simp
    · intro x hx
      obtain ⟨i, hi, rfl⟩ := List.getElem_of_mem hx
      have hi' : n + i < l.length := by simp at hi; omega
      have := hz (n + i) (by omega) hi'
      rw [List.getElem_drop]
      have e : rd l (((n + i : Nat)) : Int) = l[n + i] := by unfold rd; rw [Int.toNat_natCast]; simp [hi']
      rw [← e]; exact this
  rw [h1, limbs_val (okL_take hk n)]
  unfold goodL
  rw [decide_eq_true_iff]
  rcases ht with rfl | ht
  · exact .inl (by simp)
  · by_cases h0 : n = 0
    · subst h0; exact .inl (by simp)
    · right
      have e : ((↑(l.take n).length : Int) - 1) = ((n - 1 : Nat) : Int) := by rw [List.length_take, Nat.min_eq_left hn]; omega
      have e2 : (n : Int) - 1 = ((n - 1 : Nat) : Int) := by omega
      rw [e]
      rw [e2] at ht
      unfold rd at ht ⊢
      simp only [Int.toNat_natCast, List.getD_eq_getElem?_getD] at ht ⊢
      rw [List.getElem?_take, if_pos (by omega)]
      exact ht

theorem limbs_one {n : Nat} (h0 : n ≠ 0) (h1 : n < 18446744073709551616) : limbs n = [(n : Int)] := by
  rw [limbs_pos h0, Nat.mod_eq_of_lt h1, Nat.div_eq_of_lt h1, limbs_zero]
def smallB (l : List Int) : Bool := goodL l && decide (l.length ≤ 1)
def smallV (l : List Int) : Int := if smallB l then val l else 0

/-- Comparison. -/
def cmpN (a b : Nat) : Int := if a < b then -1 else if b < a then 1 else 0
theorem good_ge {l : List Int} (hk : okL l) (hg : goodL l = true) (h0 : l ≠ []) : 18446744073709551616 ^ (l.length - 1) ≤ val l := by
  have h1 : l.length - 1 < l.length := by
    have := List.length_pos_iff.2 h0
    omega
  have h2 := val_take_succ h1
  have h3 : l.take (l.length - 1 + 1) = l := List.take_of_length_le (by omega)
  rw [h3] at h2
  have hr : rd l ((l.length : Int) - 1) ≠ 0 := by
    simp only [goodL, decide_eq_true_eq] at hg
    rcases hg with h | h
    · exact absurd h h0
    · exact h
  have e : ((l.length : Int) - 1) = ((l.length - 1 : Nat) : Int) := by omega
  rw [e] at hr
  have hp := (okL_rd hk ((l.length - 1 : Nat) : Int)).1
  have h4 : 18446744073709551616 ^ (l.length - 1) * 1 ≤ 18446744073709551616 ^ (l.length - 1) * (rd l ((l.length - 1 : Nat) : Int)).toNat := Nat.mul_le_mul_left _ (by omega)
  omega
theorem val_lt_of_len {l m : List Int} (hk : okL l) (hm : okL m) (hg : goodL m = true) (h : l.length < m.length) : val l < val m := by
  have h1 := val_lt hk
  have h2 := good_ge hm hg (by intro e; subst e; simp at h)
  have h3 : 18446744073709551616 ^ l.length ≤ 18446744073709551616 ^ (m.length - 1) := Nat.pow_le_pow_right (by decide) (by omega)
  omega
theorem val_split {l : List Int} {n : Nat} (h : n < l.length) : val l = val (l.take n) + 18446744073709551616 ^ n * ((rd l n).toNat + 18446744073709551616 * val (l.drop (n + 1))) := by
  have e : l = l.take n ++ (rd l n :: l.drop (n + 1)) := by
    have : rd l (n : Int) = l[n] := by simp [rd, h]
    rw [this]
    simp
  have := congrArg val e
  rw [val_append, List.length_take, Nat.min_eq_left (by omega), val] at this
  exact this
theorem val_lt_at {l m : List Int} (hk : okL l) (hm : okL m) {n : Nat} (h1 : n < l.length) (h2 : n < m.length) (hd : l.drop (n + 1) = m.drop (n + 1)) (hr : rd l n < rd m n) : val l < val m := by
  rw [val_split h1, val_split h2, hd]
  have a1 := val_lt (okL_take hk n)
  rw [List.length_take, Nat.min_eq_left (by omega)] at a1
  have a2 := okL_rd hk n
  have a3 := okL_rd hm n
  have a4 : 18446744073709551616 ^ n * (((rd l n).toNat + 18446744073709551616 * val (m.drop (n + 1))) + 1) ≤ 18446744073709551616 ^ n * ((rd m n).toNat + 18446744073709551616 * val (m.drop (n + 1))) := Nat.mul_le_mul_left _ (by omega)
  rw [Nat.mul_add, Nat.mul_one] at a4
  omega
theorem drop_rd {l : List Int} {n : Nat} (h : n < l.length) : l.drop n = rd l n :: l.drop (n + 1) := by
  have : rd l (n : Int) = l[n] := by simp [rd, h]
  rw [this, List.drop_eq_getElem_cons h]

theorem rd_ge {l : List Int} {n : Nat} (h : l.length ≤ n) : rd l n = 0 := by
  simp [rd, h]
theorem val_take_succ' (l : List Int) (n : Nat) : val (l.take (n + 1)) = val (l.take n) + 18446744073709551616 ^ n * (rd l n).toNat := by
  by_cases h : n < l.length
  · exact val_take_succ h
  · rw [rd_ge (by omega), List.take_of_length_le (by omega), List.take_of_length_le (by omega)]; simp
theorem val_set_take {c : List Int} {i : Nat} {s : Int} (h : i < c.length) : val ((c.set i s).take (i + 1)) = val (c.take i) + 18446744073709551616 ^ i * s.toNat := by
  rw [val_take_succ (by simpa using h), rd_set_self h, take_set_le (Nat.le_refl i)]

theorem add_step {p q c : List Int} {i : Nat} {cy s cy' : Int} (hc : i < c.length) (hp : okL p) (hq : okL q) (inv : val (c.take i) + 18446744073709551616 ^ i * cy.toNat = val (p.take i) + val (q.take i))
    (hF : rd p i + cy + rd q i = s + 18446744073709551616 * cy') (h1 : 0 ≤ s) (h2 : 0 ≤ cy) (h3 : 0 ≤ cy') :
    val ((c.set i s).take (i + 1)) + 18446744073709551616 ^ (i + 1) * cy'.toNat = val (p.take (i + 1)) + val (q.take (i + 1)) := by
  rw [val_set_take hc, val_take_succ', val_take_succ']
  have a1 := (okL_rd hp i).1
  have a2 := (okL_rd hq i).1
  have e : (rd p i).toNat + cy.toNat + (rd q i).toNat = s.toNat + 18446744073709551616 * cy'.toNat := by omega
  have e2 := congrArg (18446744073709551616 ^ i * ·) e
  simp only [Nat.mul_add] at e2
  rw [Nat.pow_succ, Nat.mul_assoc]
  omega

theorem getD_drop {c l : List Int} {i : Nat} (h : c.drop i = l.drop i) : c.getD i default = rd l i := by
  have := congrArg (·[0]?) h
  simp only [List.getElem?_drop, Nat.add_zero] at this
  simp [rd, List.getD_eq_getElem?_getD, this]
theorem set_drop {c l : List Int} {i : Nat} {s : Int} (h : c.drop i = l.drop i) : (c.set i s).drop (i + 1) = l.drop (i + 1) := by
  rw [List.drop_set_of_lt (by omega)]
  have := congrArg (List.drop 1) h
  rwa [List.drop_drop, List.drop_drop] at this
theorem sub_step {l m c : List Int} {i : Nat} {b s b' : Int} (hc : i < c.length) (hl : okL l) (hm : okL m) (inv : val (c.take i) + val (m.take i) = val (l.take i) + 18446744073709551616 ^ i * b.toNat)
    (hF : rd l i + 18446744073709551616 * b' = s + rd m i + b) (h1 : 0 ≤ s) (h2 : 0 ≤ b) (h3 : 0 ≤ b') :
    val ((c.set i s).take (i + 1)) + val (m.take (i + 1)) = val (l.take (i + 1)) + 18446744073709551616 ^ (i + 1) * b'.toNat := by
  rw [val_set_take hc, val_take_succ', val_take_succ']
  have a1 := (okL_rd hl i).1
  have a2 := (okL_rd hm i).1
  have e : (rd l i).toNat + 18446744073709551616 * b'.toNat = s.toNat + (rd m i).toNat + b.toNat := by omega
  have e2 := congrArg (18446744073709551616 ^ i * ·) e
  simp only [Nat.mul_add] at e2
  rw [Nat.pow_succ, Nat.mul_assoc]
  omega
theorem sub_end {l m c : List Int} {b : Int} (hc : okL c) (hlen : c.length = l.length) (hb : b = 0 ∨ b = 1) (hle : val m ≤ val l) (hml : m.length ≤ l.length)
    (inv : val (c.take l.length) + val (m.take l.length) = val (l.take l.length) + 18446744073709551616 ^ l.length * b.toNat) : val c = val l - val m := by
  rw [List.take_of_length_le (by omega), List.take_of_length_le hml, List.take_of_length_le (Nat.le_refl _)] at inv
  have := val_lt hc
  rw [hlen] at this
  rcases hb with rfl | rfl
  · simp at inv; omega
  · simp at inv; omega

theorem rd_rep (n j : Nat) : rd (List.replicate n (0 : Int)) j = 0 := by
  simp only [rd, Int.toNat_natCast, List.getD_eq_getElem?_getD, List.getElem?_replicate]
  split <;> rfl
theorem mul_bd {a b : Int} {n m : Nat} (ha : 0 ≤ a) (hb : 0 ≤ b) (h1 : a ≤ n) (h2 : b ≤ m) : 0 ≤ a * b ∧ a * b ≤ n * m :=
  ⟨Int.mul_nonneg ha hb, Int.mul_le_mul h1 h2 hb (by omega)⟩
abbrev w64 (a : Int) : Int := IntKind.u64.wrap a
theorem mul64_hi {x y : Int} (hx0 : 0 ≤ x) (hx1 : x < 18446744073709551616) (hy0 : 0 ≤ y) (hy1 : y < 18446744073709551616) :
    w64 (w64 (w64 (x / 4294967296 * (y / 4294967296)) + w64 (w64 (x / 4294967296 * (y % 4294967296)) + w64 (x % 4294967296 * (y % 4294967296)) / 4294967296) / 4294967296) +
      w64 (w64 (w64 (x / 4294967296 * (y % 4294967296)) + w64 (x % 4294967296 * (y % 4294967296)) / 4294967296) % 4294967296 + w64 (x % 4294967296 * (y / 4294967296))) / 4294967296) = x * y / 18446744073709551616 := by
  simp only [w64, u64_wrap]
  have ex : x = x / 4294967296 * 4294967296 + x % 4294967296 := by omega
  have ey : y = y / 4294967296 * 4294967296 + y % 4294967296 := by omega
  have a1 : 0 ≤ x / 4294967296 ∧ x / 4294967296 ≤ 4294967295 := by omega
  have a2 : 0 ≤ x % 4294967296 ∧ x % 4294967296 ≤ 4294967295 := by omega
  have b1 : 0 ≤ y / 4294967296 ∧ y / 4294967296 ≤ 4294967295 := by omega
  have b2 : 0 ≤ y % 4294967296 ∧ y % 4294967296 ≤ 4294967295 := by omega
  generalize x / 4294967296 = X1 at *
  generalize x % 4294967296 = X0 at *
  generalize y / 4294967296 = Y1 at *
  generalize y % 4294967296 = Y0 at *
  subst ex; subst ey
  have e : (X1 * 4294967296 + X0) * (Y1 * 4294967296 + Y0) = X1 * Y1 * 18446744073709551616 + (X1 * Y0) * 4294967296 + (X0 * Y1) * 4294967296 + X0 * Y0 := by
    simp only [Int.add_mul, Int.mul_add]
    have h1 : X1 * 4294967296 * (Y1 * 4294967296) = X1 * Y1 * 18446744073709551616 := by
      rw [Int.mul_assoc, ← Int.mul_assoc 4294967296 Y1, Int.mul_comm 4294967296 Y1, Int.mul_assoc Y1, ← Int.mul_assoc X1]; rfl
    have h2 : X1 * 4294967296 * Y0 = X1 * Y0 * 4294967296 := by rw [Int.mul_assoc, Int.mul_comm 4294967296, ← Int.mul_assoc]
    have h3 : X0 * (Y1 * 4294967296) = X0 * Y1 * 4294967296 := by rw [Int.mul_assoc]
    rw [h1, h2, h3]
    omega
  rw [e]
  have p11 := mul_bd (n := 4294967295) (m := 4294967295) a1.1 b1.1 (by omega) (by omega)
  have p10 := mul_bd (n := 4294967295) (m := 4294967295) a1.1 b2.1 (by omega) (by omega)
  have p01 := mul_bd (n := 4294967295) (m := 4294967295) a2.1 b1.1 (by omega) (by omega)
  have p00 := mul_bd (n := 4294967295) (m := 4294967295) a2.1 b2.1 (by omega) (by omega)
  generalize X1 * Y1 = A at *
  generalize X1 * Y0 = B at *
  generalize X0 * Y1 = C at *
  generalize X0 * Y0 = F at *
  omega

theorem val_take_zero {l : List Int} {n : Nat} (hz : ∀ i : Nat, n ≤ i → i < l.length → rd l i = 0) : val l = val (l.take n) := by
  have : val l = val (l.take n) + 18446744073709551616 ^ (l.take n).length * val (l.drop n) := by rw [← val_append, List.take_append_drop]
  rw [this, val_zero (l := l.drop n)]
  · simp
  · intro x hx
    obtain ⟨i, hi, rfl⟩ := List.getElem_of_mem hx
    have hi' : n + i < l.length := by simp at hi; omega
    have := hz (n + i) (by omega) hi'
    rw [List.getElem_drop]
    have e : rd l (((n + i : Nat)) : Int) = l[n + i] := by unfold rd; rw [Int.toNat_natCast]; simp [hi']
    rw [← e]; exact this
theorem rd_drop {c l : List Int} {i j : Nat} (h : c.drop i = l.drop i) (hj : i ≤ j) : rd c j = rd l j := by
  have := congrArg (·[j - i]?) h
  simp only [List.getElem?_drop, show i + (j - i) = j by omega] at this
  simp [rd, List.getD_eq_getElem?_getD, this]
theorem mul_step {m c c2 : List Int} {i k : Nat} {x cy s cy' : Int} (hc : i + k < c2.length) (hck : okL c) (hm : okL m) (hx : 0 ≤ x) (hcy : 0 ≤ cy) (hs : 0 ≤ s) (hcy' : 0 ≤ cy')
    (inv : val (c2.take (i + k)) + 18446744073709551616 ^ (i + k) * cy.toNat = val (c.take (i + k)) + 18446744073709551616 ^ i * (x.toNat * val (m.take k)))
    (hF : x * rd m k + cy + rd c ((i + k : Nat) : Int) = s + 18446744073709551616 * cy') :
    val ((c2.set (i + k) s).take (i + k + 1)) + 18446744073709551616 ^ (i + k + 1) * cy'.toNat = val (c.take (i + k + 1)) + 18446744073709551616 ^ i * (x.toNat * val (m.take (k + 1))) := by
  rw [val_set_take hc, val_take_succ', val_take_succ']
  have a1 := (okL_rd hm k).1
  have a2 := (okL_rd hck ((i + k : Nat) : Int)).1
  generalize rd m k = y at *
  generalize rd c ((i + k : Nat) : Int) = r at *
  obtain ⟨x, rfl⟩ := Int.eq_ofNat_of_zero_le hx
  obtain ⟨y, rfl⟩ := Int.eq_ofNat_of_zero_le a1
  obtain ⟨cy, rfl⟩ := Int.eq_ofNat_of_zero_le hcy
  obtain ⟨r, rfl⟩ := Int.eq_ofNat_of_zero_le a2
  obtain ⟨s, rfl⟩ := Int.eq_ofNat_of_zero_le hs
  obtain ⟨cy', rfl⟩ := Int.eq_ofNat_of_zero_le hcy'
  simp only [Int.toNat_natCast] at *
  have e : x * y + cy + r = s + 18446744073709551616 * cy' := by
    apply Int.ofNat_inj.1
    rw [Int.natCast_add, Int.natCast_add, Int.natCast_mul, Int.natCast_add, Int.natCast_mul]
    exact hF
  have e2 := congrArg (18446744073709551616 ^ (i + k) * ·) e
  simp only [Nat.mul_add] at e2
  have e3 : 18446744073709551616 ^ i * (x * (val (m.take k) + 18446744073709551616 ^ k * y)) = 18446744073709551616 ^ i * (x * val (m.take k)) + 18446744073709551616 ^ (i + k) * (x * y) := by
    rw [Nat.mul_add, Nat.mul_add, Nat.pow_add, Nat.mul_left_comm x, ← Nat.mul_assoc (18446744073709551616 ^ i) (18446744073709551616 ^ k)]
  rw [e3, Nat.pow_succ, Nat.mul_assoc]
  omega
theorem mul_end {l m c c2 : List Int} {i : Nat} {cy : Int} (hl : okL l) (hi : i < l.length) (hlen : c.length = l.length + m.length) (hz : ∀ j : Nat, i + m.length ≤ j → j < c.length → rd c j = 0)
    (hlen2 : c2.length = c.length) (hd : c2.drop (i + m.length) = c.drop (i + m.length)) (hcy : 0 ≤ cy)
    (g5 : val (c2.take (i + m.length)) + 18446744073709551616 ^ (i + m.length) * cy.toNat = val (c.take (i + m.length)) + 18446744073709551616 ^ i * ((rd l i).toNat * val m)) (h5 : val c = val (l.take i) * val m) :
    val (c2.set (i + m.length) cy) = val (l.take (i + 1)) * val m ∧ ∀ j : Nat, i + 1 + m.length ≤ j → j < c.length → rd (c2.set (i + m.length) cy) j = 0 := by
  have h2 : ∀ j : Nat, i + 1 + m.length ≤ j → j < c.length → rd (c2.set (i + m.length) cy) j = 0 := fun j h1 h2 => by
    rw [rd_set_ne (by omega), rd_drop hd (by omega)]
    exact hz j (by omega) h2
  refine ⟨?_, h2⟩
  rw [val_take_zero (n := i + m.length + 1) (l := c2.set _ _) (fun j h1 h3 => h2 j (by omega) (by simpa [hlen2] using h3)), val_set_take (by omega), g5, val_take_succ', Nat.add_mul, ← h5, val_take_zero (l := c) hz, Nat.mul_assoc]

theorem cmpN_neg (a b : Nat) : cmpN a b < 0 ↔ a < b := by
  unfold cmpN
  by_cases h : a < b
  · simp [h]
  · by_cases h2 : b < a <;> simp [h, h2]
theorem len_le_of_val {l m : List Int} (hk : okL l) (hm : okL m) (hg : goodL m = true) (h : val m ≤ val l) : m.length ≤ l.length := by
  rcases Nat.lt_or_ge l.length m.length with h1 | h1
  · have := val_lt_of_len hk hm hg h1; omega
  · exact h1
/-- The form of a whole number. -/
def goodZ (neg : Bool) (l : List Int) : Bool := goodL l && (!neg || decide (0 < l.length))
/-- How many bits. -/
def lenN (l : List Int) : Int := if goodL l = true ∧ l ≠ [] then 64 * ((l.length : Int) - 1) + Lib.bitLen (rd l ((l.length : Int) - 1)).toNat else 0
end Go.Proofs.YthaiegnohkiegaaGreat.Ab
/-
  Contracts of functions of the library, of scalars.
-/
namespace Go.Proofs.YthaiegnohkiegaaGreat.Ab
set_option linter.unusedVariables false
set_option linter.unusedSimpArgs false
set_option maxRecDepth 20000

theorem Tryz.add64 : isExt Tryz.prog 193 eAdd64 := ⟨_, Tryz.func193, by kernel_rfl, by kernel_rfl, by kernel_rfl, by kernel_rfl⟩
theorem Tryz.sub64 : isExt Tryz.prog 216 eSub64 := ⟨_, Tryz.func216, by kernel_rfl, by kernel_rfl, by kernel_rfl, by kernel_rfl⟩
theorem bits_Len64 (x : Int) (h0 : 0 ≤ x) (h1 : x < 18446744073709551616) : Fn Tryz.prog 131 [.d (iu x)] false (.one (.d (ii (Lib.bitLen x.toNat)))) :=
  Fn_of_calls (vs := [.int .u64 x]) (by kernel_rfl) (fun w own B => rel_int w own B .i64 _) (fun w => Tryz.bits_Len64 x w h0 (by omega))
theorem bits_Len (x : Int) (h0 : 0 ≤ x) (h1 : x < 18446744073709551616) : Fn Tryz.prog 182 [.d (iu x)] false (.one (.d (ii (Lib.bitLen x.toNat)))) :=
  Fn_of_calls (vs := [.int .u64 x]) (by kernel_rfl) (fun w own B => rel_int w own B .i64 _) (fun w => Tryz.bits_Len x w h0 (by omega))
theorem bits_LeadingZeros64 (x : Int) (h0 : 0 ≤ x) (h1 : x < 18446744073709551616) : Fn Tryz.prog 185 [.d (iu x)] false (.one (.d (ii (64 - (Lib.bitLen x.toNat : Int))))) :=
  Fn_of_calls (vs := [.int .u64 x]) (by kernel_rfl) (fun w own B => rel_int w own B .i64 _) (fun w => Tryz.bits_LeadingZeros64 x w h0 (by omega))
theorem cmp_Compare (x y : Int) : Fn Tryz.prog 243 [.d (ii x), .d (ii y)] false (.one (.d (ii (Lib.compareInt x y)))) :=
  Fn_of_calls (vs := [.int .i64 x, .int .i64 y]) (by kernel_rfl) (fun w own B => rel_int w own B .i64 _) (fun w => Tryz.cmp_Compare_int x y w)
theorem strings_Compare (a b : ByteArray) : Fn Tryz.prog 244 [.d (.val (.string a)), .d (.val (.string b))] false (.one (.d (ii (Lib.compareBytes a.data.toList b.data.toList)))) :=
  Fn_of_calls (vs := [.string a, .string b]) (by kernel_rfl) (fun w own B => rel_int w own B .i64 _) (fun w => Tryz.strings_Compare a b w)
end Go.Proofs.YthaiegnohkiegaaGreat.Ab
/-
  Division of two words by one: plain arithmetic.
-/
namespace Go.Proofs.YthaiegnohkiegaaGreat.Ab
set_option linter.unusedVariables false
set_option linter.unusedSimpArgs false

/-- The quotient is at least q, if q times is not too much; less, if it is. -/
theorem le_div {t y q : Int} (hy : 0 < y) (h : q * y ≤ t) : q ≤ t / y := Int.le_ediv_of_mul_le hy h
theorem div_lt {t y q : Int} (hy : 0 < y) (h : t < q * y) : t / y < q := Int.ediv_lt_of_lt_mul hy h
theorem div_mul_le' {t y : Int} (hy : 0 < y) : t / y * y ≤ t := Int.ediv_mul_le t (by omega)

/-- What a half of the division knows. -/
structure Half (u d yn1 yn0 : Int) : Prop where
  u0 : 0 ≤ u
  uy : u < yn1 * 4294967296 + yn0
  d0 : 0 ≤ d
  d1 : d < 4294967296
  a0 : 2147483648 ≤ yn1
  a1 : yn1 < 4294967296
  b0 : 0 ≤ yn0
  b1 : yn0 < 4294967296
abbrev qt (u d yn1 yn0 : Int) : Int := (u * 4294967296 + d) / (yn1 * 4294967296 + yn0)
theorem Half.lt {u d yn1 yn0 : Int} (h : Half u d yn1 yn0) : 0 ≤ qt u d yn1 yn0 ∧ qt u d yn1 yn0 < 4294967296 := by
  obtain ⟨u0, uy, d0, d1, a0, a1, b0, b1⟩ := h
  refine ⟨Int.ediv_nonneg (by omega) (by omega), div_lt (by omega) ?_⟩
  omega
theorem exp_y (q yn1 yn0 : Int) : q * (yn1 * 4294967296 + yn0) = q * yn1 * 4294967296 + q * yn0 := by
  rw [Int.mul_add, Int.mul_assoc]
theorem Half.first {u d yn1 yn0 : Int} (h : Half u d yn1 yn0) : qt u d yn1 yn0 ≤ u / yn1 ∧ 0 ≤ u / yn1 ∧ u / yn1 ≤ 4294967297 ∧ 0 ≤ u - u / yn1 * yn1 ∧ u - u / yn1 * yn1 < yn1 ∧ 0 ≤ u / yn1 * yn1 ∧ u / yn1 * yn1 ≤ u := by
  have hq := h.lt
  obtain ⟨u0, uy, d0, d1, a0, a1, b0, b1⟩ := h
  have e1 := div_mul_le' (t := u) (y := yn1) (by omega)
  have e2 : u < (u / yn1 + 1) * yn1 := Int.lt_ediv_add_one_mul_self u (by omega)
  rw [Int.add_mul, Int.one_mul] at e2
  have e3 : 0 ≤ u / yn1 := Int.ediv_nonneg u0 (by omega)
  refine ⟨?_, e3, ?_, by omega, by omega, Int.mul_nonneg e3 (by omega), e1⟩
  · refine le_div (by omega) ?_
    have h1 := div_mul_le' (t := u * 4294967296 + d) (y := yn1 * 4294967296 + yn0) (by omega)
    rw [exp_y] at h1
    have h2 : 0 ≤ qt u d yn1 yn0 * yn0 := Int.mul_nonneg hq.1 b0
    show qt u d yn1 yn0 * yn1 ≤ u
    have h1' : qt u d yn1 yn0 * yn1 * 4294967296 + qt u d yn1 yn0 * yn0 ≤ u * 4294967296 + d := h1
    omega
  · have : u / yn1 < 4294967298 := div_lt (by omega) (by omega)
    omega
/-- One round's state. -/
structure Round (u d yn1 yn0 q r : Int) : Prop where
  ge : qt u d yn1 yn0 ≤ q
  eq : q * yn1 + r = u
  r0 : 0 ≤ r
  q1 : q ≤ 4294967297
theorem Round.too {u d yn1 yn0 q r : Int} (h : Half u d yn1 yn0) (k : Round u d yn1 yn0 q r) (hc : 4294967296 ≤ q ∨ 4294967296 * r + d < q * yn0) : Round u d yn1 yn0 (q - 1) (r + yn1) := by
  have hq := h.lt
  obtain ⟨u0, uy, d0, d1, a0, a1, b0, b1⟩ := h
  obtain ⟨k1, k2, k3, k4⟩ := k
  refine ⟨?_, by rw [Int.sub_mul]; omega, by omega, by omega⟩
  rcases hc with hc | hc
  · omega
  · have : qt u d yn1 yn0 < q := div_lt (by omega) (by rw [exp_y]; omega)
    omega
theorem Round.fit {u d yn1 yn0 q r : Int} (h : Half u d yn1 yn0) (k : Round u d yn1 yn0 q r) (hc : q * yn0 ≤ 4294967296 * r + d) : q = qt u d yn1 yn0 := by
  obtain ⟨u0, uy, d0, d1, a0, a1, b0, b1⟩ := h
  obtain ⟨k1, k2, k3, k4⟩ := k
  have : q ≤ qt u d yn1 yn0 := le_div (by omega) (by rw [exp_y]; omega)
  omega
theorem Round.brk {u d yn1 yn0 q r : Int} (h : Half u d yn1 yn0) (k : Round u d yn1 yn0 q r) (hq : q ≤ 4294967296) (hr : 4294967296 ≤ r) : q = qt u d yn1 yn0 := by
  refine k.fit h ?_
  have hl := h.lt
  have := (mul_bd (n := 4294967296) (m := 4294967295) (show 0 ≤ q by have := k.ge; omega) h.b0 (by omega) (by have := h.b1; omega)).2
  have := h.d0
  omega
theorem Half.rest {u d yn1 yn0 : Int} (h : Half u d yn1 yn0) : qt u d yn1 yn0 * (yn1 * 4294967296 + yn0) + (u * 4294967296 + d) % (yn1 * 4294967296 + yn0) = u * 4294967296 + d ∧
    0 ≤ (u * 4294967296 + d) % (yn1 * 4294967296 + yn0) ∧ (u * 4294967296 + d) % (yn1 * 4294967296 + yn0) < yn1 * 4294967296 + yn0 := by
  have hp : 0 < yn1 * 4294967296 + yn0 := by have := h.a0; have := h.b0; omega
  refine ⟨?_, Int.emod_nonneg _ (by omega), Int.emod_lt_of_pos _ hp⟩
  have := Int.mul_ediv_add_emod (u * 4294967296 + d) (yn1 * 4294967296 + yn0)
  rw [Int.mul_comm]
  exact this

/-- The whole. -/
theorem div64_end {hi lo y p : Int} {q1 q0 u r1 r0 u1 u0 : Int} (hp : 0 < p) (hy : 0 < y) (hN : (hi * 18446744073709551616 + lo) * p = u * 18446744073709551616 + u1 * 4294967296 + u0)
    (h1 : q1 * (y * p) + r1 = u * 4294967296 + u1) (h0 : q0 * (y * p) + r0 = r1 * 4294967296 + u0) (hr : 0 ≤ r0) (hr' : r0 < y * p) :
    q1 * 4294967296 + q0 = (hi * 18446744073709551616 + lo) / y ∧ r0 / p = (hi * 18446744073709551616 + lo) % y := by
  generalize hi * 18446744073709551616 + lo = N at *
  have e : N * p = (q1 * 4294967296 + q0) * (y * p) + r0 := by
    rw [Int.add_mul, Int.mul_right_comm]
    omega
  have hyp : 0 < y * p := Int.mul_pos hy hp
  have d1 : N * p / (y * p) = q1 * 4294967296 + q0 := by
    rw [e, Int.add_comm, Int.add_mul_ediv_right _ _ (by omega), Int.ediv_eq_zero_of_lt hr hr']
    omega
  rw [Int.mul_ediv_mul_of_pos_left _ _ hp] at d1
  have e2 : r0 = N % y * p := by
    have h := Int.mul_ediv_add_emod N y
    have e3 : N * p = N / y * (y * p) + N % y * p := by
      rw [← Int.mul_assoc, ← Int.add_mul, Int.mul_comm (N / y) y, h]
    rw [← d1] at e
    omega
  exact ⟨d1.symm, by rw [e2, Int.mul_ediv_cancel _ (by omega)]⟩

theorem lz_bounds {y : Int} (h0 : 0 < y) (h1 : y < 18446744073709551616) : 0 ≤ 64 - (Lib.bitLen y.toNat : Int) ∧ 64 - (Lib.bitLen y.toNat : Int) ≤ 63 ∧
    9223372036854775808 ≤ y * 2 ^ (64 - (Lib.bitLen y.toNat : Int)).toNat ∧ y * 2 ^ (64 - (Lib.bitLen y.toNat : Int)).toNat < 18446744073709551616 := by
  obtain ⟨x, rfl⟩ := Int.eq_ofNat_of_zero_le (Int.le_of_lt h0)
  obtain ⟨a1, a2, a3⟩ := Lib.bitLenAux_bounds 64 x (by omega) (by omega)
  have a4 := Lib.bitLen_le x 64 (by omega) (by omega)
  have e : Lib.bitLenAux 64 x = Lib.bitLen x := rfl
  rw [e] at a1 a2 a3
  simp only [Int.toNat_natCast]
  generalize Lib.bitLen x = b at *
  have es : (64 - (b : Int)).toNat = 64 - b := by omega
  rw [es]
  have c1 : 2 ^ (b - 1) * 2 ^ (64 - b) ≤ x * 2 ^ (64 - b) := Nat.mul_le_mul_right _ a2
  have c2 : x * 2 ^ (64 - b) < 2 ^ b * 2 ^ (64 - b) := Nat.mul_lt_mul_of_pos_right a3 (Nat.pow_pos (by decide))
  rw [← Nat.pow_add, show b - 1 + (64 - b) = 63 by omega] at c1
  rw [← Nat.pow_add, show b + (64 - b) = 64 by omega] at c2
  have e2 : (x : Int) * 2 ^ (64 - b) = ((x * 2 ^ (64 - b) : Nat) : Int) := by simp
  rw [e2]
  omega
theorem d64_set {hi lo y s : Int} (hs0 : 0 ≤ s) (hs1 : s ≤ 63) (hh : 0 ≤ hi) (hy : hi < y) (hl0 : 0 ≤ lo) (hl1 : lo < 18446744073709551616) (hp : y * 2 ^ s.toNat < 18446744073709551616) :
    w64 (y * 2 ^ min s.toNat 64) = y * 2 ^ s.toNat ∧
    bits .or .u64 (w64 (hi * 2 ^ min s.toNat 64)) (lo / 2 ^ min (w64 (64 - s)).toNat 64) = hi * 2 ^ s.toNat + lo / 2 ^ (64 - s.toNat) ∧
    (hi * 18446744073709551616 + lo) * 2 ^ s.toNat = (hi * 2 ^ s.toNat + lo / 2 ^ (64 - s.toNat)) * 18446744073709551616 + w64 (lo * 2 ^ min s.toNat 64) ∧
    0 ≤ hi * 2 ^ s.toNat + lo / 2 ^ (64 - s.toNat) ∧ hi * 2 ^ s.toNat + lo / 2 ^ (64 - s.toNat) < y * 2 ^ s.toNat ∧ (0 : Int) < 2 ^ s.toNat := by
  obtain ⟨k, rfl⟩ := Int.eq_ofNat_of_zero_le hs0
  simp only [Int.toNat_natCast] at *
  have hk : k ≤ 63 := by omega
  have e64 : w64 (64 - (k : Int)) = ((64 - k : Nat) : Int) := by simp only [w64, u64_wrap]; omega
  rw [e64, Int.toNat_natCast, Nat.min_eq_left (show k ≤ 64 by omega), Nat.min_eq_left (show 64 - k ≤ 64 by omega)]
  obtain ⟨H, rfl⟩ := Int.eq_ofNat_of_zero_le hh
  obtain ⟨L, rfl⟩ := Int.eq_ofNat_of_zero_le hl0
  obtain ⟨Y, rfl⟩ := Int.eq_ofNat_of_zero_le (show 0 ≤ y by omega)
  have hpp : 0 < 2 ^ k := Nat.pow_pos (by decide)
  have hqq : 0 < 2 ^ (64 - k) := Nat.pow_pos (by decide)
  have hpq : 2 ^ (64 - k) * 2 ^ k = 18446744073709551616 := by rw [← Nat.pow_add, show 64 - k + k = 64 by omega]
  have cp : ((2 : Int) ^ k) = ((2 ^ k : Nat) : Int) := by simp
  have cq : ((2 : Int) ^ (64 - k)) = ((2 ^ (64 - k) : Nat) : Int) := by simp
  rw [cp] at hp ⊢
  rw [cq]
  generalize hP : 2 ^ k = P at *
  generalize hQ : 2 ^ (64 - k) = R at *
  have hYP : Y * P < 18446744073709551616 := by
    have : ((Y * P : Nat) : Int) < 18446744073709551616 := by rw [Int.natCast_mul]; exact hp
    omega
  have hHP : H * P + P ≤ Y * P := by
    have : (H + 1) * P ≤ Y * P := Nat.mul_le_mul_right _ (by omega)
    rwa [Nat.add_mul, Nat.one_mul] at this
  have hlow : L / R < P := Nat.div_lt_of_lt_mul (by rw [hpq]; omega)
  have hLP : L * P = L / R * 18446744073709551616 + L * P % 18446744073709551616 := by
    have h1 : L * P / 18446744073709551616 = L / R := by rw [← hpq]; exact Nat.mul_div_mul_right _ _ hpp
    have := Nat.div_add_mod (L * P) 18446744073709551616
    rw [h1] at this
    omega
  have c1 : ((L : Int) / (R : Int)) = ((L / R : Nat) : Int) := rfl
  have c2 : ∀ a : Nat, (a : Int) * (P : Int) = ((a * P : Nat) : Int) := fun a => (Int.natCast_mul a P).symm
  have hor : bits .or .u64 (((H * P : Nat)) : Int) ((L / R : Nat) : Int) = ((H * P + L / R : Nat) : Int) := by
    rw [u64_or _ _ (by omega) (by omega) (by omega) (by omega)]
    simp only [Int.toNat_natCast]
    have := Nat.two_pow_add_eq_or_of_lt (i := k) (b := L / R) (by rw [hP]; exact hlow) H
    rw [hP, Nat.mul_comm] at this
    rw [this]
  simp only [c1, c2, w64, u64_wrap]
  refine ⟨by omega, ?_, ?_, by omega, by omega, by omega⟩
  · rw [show ((H * P : Nat) : Int) % 18446744073709551616 = ((H * P : Nat) : Int) by omega, hor]
    simp
  · have c3 : ((H : Int) * 18446744073709551616 + (L : Int)) * (P : Int) = (((H * P) * 18446744073709551616 + L * P : Nat) : Int) := by
      rw [Int.add_mul, Int.mul_right_comm, Int.natCast_add, Int.natCast_mul, Int.natCast_mul, Int.natCast_mul]; rfl
    rw [c3]
    omega

theorem Half.start {u d yn1 yn0 : Int} (h : Half u d yn1 yn0) : Round u d yn1 yn0 (u / yn1) (w64 (u - w64 (u / yn1 * yn1))) ∧ w64 (u - w64 (u / yn1 * yn1)) < 4294967296 := by
  obtain ⟨a1, a2, a3, a4, a5, a6, a7⟩ := h.first
  have := h.u0; have := h.uy; have := h.a1; have := h.b1
  have e1 : w64 (u / yn1 * yn1) = u / yn1 * yn1 := u64_in a6 (by omega)
  have e2 : w64 (u - u / yn1 * yn1) = u - u / yn1 * yn1 := u64_in a4 (by omega)
  rw [e1, e2]
  exact ⟨⟨a1, by omega, a4, a3⟩, by omega⟩
theorem d64_cmp {q yn0 r d : Int} (h1 : 0 ≤ q) (h2 : q < 4294967296) (h3 : 0 ≤ yn0) (h4 : yn0 < 4294967296) (h5 : 0 ≤ r) (h6 : r < 4294967296) (h7 : 0 ≤ d) (h8 : d < 4294967296) :
    IntKind.u64.wrap (IntKind.u64.wrap (4294967296 * r) + d) = 4294967296 * r + d ∧ IntKind.u64.wrap (q * yn0) = q * yn0 := by
  have hm := mul_bd (n := 4294967295) (m := 4294967295) h1 h3 (by omega) (by omega)
  simp only [u64_wrap]
  generalize q * yn0 = A at *
  omega
theorem Half.un21 {u d yn1 yn0 q : Int} (h : Half u d yn1 yn0) (hq : q = qt u d yn1 yn0) :
    IntKind.u64.wrap (IntKind.u64.wrap (IntKind.u64.wrap (u * 4294967296) + d) - IntKind.u64.wrap (q * (yn1 * 4294967296 + yn0))) = (u * 4294967296 + d) % (yn1 * 4294967296 + yn0) := by
  obtain ⟨a1, a2, a3⟩ := h.rest
  have := h.a1; have := h.b1
  rw [← hq] at a1
  simp only [u64_wrap]
  generalize (u * 4294967296 + d) % (yn1 * 4294967296 + yn0) = R at *
  generalize q * (yn1 * 4294967296 + yn0) = A at *
  omega

theorem set_drop_self {c : List Int} {i : Nat} {s : Int} (h : i < c.length) : (c.set i s).drop i = s :: c.drop (i + 1) := by
  rw [drop_rd (by simpa using h), rd_set_self h, List.drop_set_of_lt (by omega)]
theorem dw_step {l c : List Int} {i : Nat} {b q rest rest' : Int} (hi : i < l.length) (hc : c.length = l.length) (hk : okL l) (hq : 0 ≤ q) (inv : (val (l.drop (i + 1)) : Int) = b * (val (c.drop (i + 1)) : Int) + rest)
    (hF : q * b + rest' = rest * 18446744073709551616 + rd l i) : (val (l.drop i) : Int) = b * (val ((c.set i q).drop i) : Int) + rest' := by
  rw [drop_rd hi, set_drop_self (by omega)]
  simp only [val]
  have h1 := (okL_rd hk i).1
  have e1 : (((rd l i).toNat + 18446744073709551616 * val (l.drop (i + 1)) : Nat) : Int) = rd l i + 18446744073709551616 * (val (l.drop (i + 1)) : Int) := by omega
  have e2 : ((q.toNat + 18446744073709551616 * val (c.drop (i + 1)) : Nat) : Int) = q + 18446744073709551616 * (val (c.drop (i + 1)) : Int) := by omega
  rw [e1, e2, inv, Int.mul_add b, Int.mul_left_comm b, Int.mul_comm b q]
  omega
theorem div_bd {hi lo b : Int} (h0 : 0 ≤ hi) (h1 : hi < b) (h2 : 0 ≤ lo) (h3 : lo < 18446744073709551616) : 0 ≤ (hi * 18446744073709551616 + lo) / b ∧ (hi * 18446744073709551616 + lo) / b < 18446744073709551616 ∧
    0 ≤ (hi * 18446744073709551616 + lo) % b ∧ (hi * 18446744073709551616 + lo) % b < b ∧ (hi * 18446744073709551616 + lo) / b * b + (hi * 18446744073709551616 + lo) % b = hi * 18446744073709551616 + lo := by
  refine ⟨Int.ediv_nonneg (by omega) (by omega), div_lt (by omega) (by omega), Int.emod_nonneg _ (by omega), Int.emod_lt_of_pos _ (by omega), ?_⟩
  have := Int.mul_ediv_add_emod (hi * 18446744073709551616 + lo) b
  rw [Int.mul_comm b] at this
  exact this
theorem dw_end {L C : Nat} {b rest : Int} (h : (L : Int) = b * (C : Int) + rest) (h0 : 0 ≤ rest) (h1 : rest < b) : C = L / b.toNat ∧ rest = ((L % b.toNat : Nat) : Int) := by
  obtain ⟨B, rfl⟩ := Int.eq_ofNat_of_zero_le (show 0 ≤ b by omega)
  obtain ⟨r, rfl⟩ := Int.eq_ofNat_of_zero_le h0
  simp only [Int.toNat_natCast]
  have h2 : L = B * C + r := by
    have : ((B * C + r : Nat) : Int) = (B : Int) * C + r := by rw [Int.natCast_add, Int.natCast_mul]
    omega
  subst h2
  have hr : r < B := by omega
  rw [Nat.mul_add_div (by omega), Nat.mul_add_mod, Nat.div_eq_of_lt hr, Nat.mod_eq_of_lt hr]
  exact ⟨by omega, rfl⟩

/-- Shifting up: a limb's high part goes into the next one. -/
theorem shl_parts {x : Int} {n : Int} (h0 : 0 ≤ x) (h1 : x < 18446744073709551616) (hn0 : 0 ≤ n) (hn1 : n ≤ 63) : ∃ lo hi : Nat, IntKind.u64.wrap (x * 2 ^ min n.toNat 64) = (lo : Int) ∧ x / 2 ^ min (64 - n).toNat 64 = (hi : Int) ∧
    hi < 2 ^ n.toNat ∧ lo < 18446744073709551616 ∧ x.toNat * 2 ^ n.toNat = lo + 18446744073709551616 * hi ∧ ∀ a : Nat, a < 2 ^ n.toNat → bits .or .u64 (a : Int) (lo : Int) = ((a + lo : Nat) : Int) ∧ a + lo < 18446744073709551616 := by
  obtain ⟨k, rfl⟩ := Int.eq_ofNat_of_zero_le hn0
  obtain ⟨X, rfl⟩ := Int.eq_ofNat_of_zero_le h0
  simp only [Int.toNat_natCast]
  have hk : k ≤ 63 := by omega
  have e1 : (64 - (k : Int)).toNat = 64 - k := by omega
  rw [e1, Nat.min_eq_left (show k ≤ 64 by omega), Nat.min_eq_left (show 64 - k ≤ 64 by omega)]
  have hpp : 0 < 2 ^ k := Nat.pow_pos (by decide)
  have hqq : 0 < 2 ^ (64 - k) := Nat.pow_pos (by decide)
  have hpq : 2 ^ (64 - k) * 2 ^ k = 18446744073709551616 := by rw [← Nat.pow_add, show 64 - k + k = 64 by omega]
  have cp : ((2 : Int) ^ k) = ((2 ^ k : Nat) : Int) := by simp
  have cq : ((2 : Int) ^ (64 - k)) = ((2 ^ (64 - k) : Nat) : Int) := by simp
  rw [cp, cq, ← Int.natCast_mul, u64_wrap]
  have hmod : X * 2 ^ k % 18446744073709551616 = 2 ^ k * (X % 2 ^ (64 - k)) := by
    rw [← hpq, Nat.mul_mod_mul_right, Nat.mul_comm]
  have hdiv : X * 2 ^ k / 18446744073709551616 = X / 2 ^ (64 - k) := by rw [← hpq]; exact Nat.mul_div_mul_right _ _ hpp
  have hlow : X / 2 ^ (64 - k) < 2 ^ k := Nat.div_lt_of_lt_mul (by rw [hpq]; omega)
  refine ⟨X * 2 ^ k % 18446744073709551616, X / 2 ^ (64 - k), rfl, rfl, hlow, Nat.mod_lt _ (by decide), ?_, fun a ha => ?_⟩
  · have := Nat.div_add_mod (X * 2 ^ k) 18446744073709551616
    rw [hdiv] at this
    omega
  · have hr : X % 2 ^ (64 - k) < 2 ^ (64 - k) := Nat.mod_lt _ hqq
    have hle : 2 ^ k * (X % 2 ^ (64 - k)) + 2 ^ k ≤ 18446744073709551616 := by
      have : 2 ^ k * (X % 2 ^ (64 - k) + 1) ≤ 2 ^ k * 2 ^ (64 - k) := Nat.mul_le_mul_left _ hr
      rw [Nat.mul_add, Nat.mul_one, Nat.mul_comm (2 ^ k) (2 ^ (64 - k)), hpq] at this
      exact this
    rw [hmod]
    have hor := Nat.two_pow_add_eq_or_of_lt (i := k) (b := a) ha (X % 2 ^ (64 - k))
    rw [u64_or _ _ (by omega) (by omega) (by omega) (by omega)]
    simp only [Int.toNat_natCast]
    rw [Nat.or_comm, ← hor]
    exact ⟨by rw [Nat.add_comm], by omega⟩
theorem left_step {l c : List Int} {i n lo hi a : Nat} (hi1 : i + 1 < c.length) (hk : okL l) (hc : okL c) (inv : val (c.take (i + 1)) = val (l.take i) * 2 ^ n) (ha : rd c i = (a : Int))
    (hF : (rd l i).toNat * 2 ^ n = lo + 18446744073709551616 * hi) :
    val (((c.set i ((a + lo : Nat) : Int)).set (i + 1) (hi : Int)).take (i + 1 + 1)) = val (l.take (i + 1)) * 2 ^ n := by
  rw [val_set_take (by simpa using hi1), val_set_take (by omega), val_take_succ' l, Nat.add_mul]
  rw [val_take_succ', ha] at inv
  simp only [Int.toNat_natCast] at *
  have e := congrArg (18446744073709551616 ^ i * ·) hF
  simp only [Nat.mul_add] at e
  rw [Nat.pow_succ, Nat.mul_add, Nat.mul_assoc, Nat.mul_assoc]
  omega

/-- Shifting down: a limb takes the low part of the next one. -/
theorem shr_parts {x y n : Int} (h0 : 0 ≤ x) (h1 : x < 18446744073709551616) (h2 : 0 ≤ y) (h3 : y < 18446744073709551616) (hn0 : 0 ≤ n) (hn1 : n ≤ 63) : ∃ lo hi : Nat, x / 2 ^ min n.toNat 64 = (lo : Int) ∧ IntKind.u64.wrap (y * 2 ^ min (64 - n).toNat 64) = (hi : Int) ∧
    lo < 18446744073709551616 ∧ bits .or .u64 (lo : Int) (hi : Int) = ((lo + hi : Nat) : Int) ∧ lo + hi < 18446744073709551616 ∧
    (∀ z : Nat, (x.toNat + 18446744073709551616 * (y.toNat + 18446744073709551616 * z)) / 2 ^ n.toNat % 18446744073709551616 = lo + hi) ∧ x.toNat / 2 ^ n.toNat % 18446744073709551616 = lo := by
  obtain ⟨k, rfl⟩ := Int.eq_ofNat_of_zero_le hn0
  obtain ⟨X, rfl⟩ := Int.eq_ofNat_of_zero_le h0
  obtain ⟨Y, rfl⟩ := Int.eq_ofNat_of_zero_le h2
  simp only [Int.toNat_natCast]
  have hk : k ≤ 63 := by omega
  have e1 : (64 - (k : Int)).toNat = 64 - k := by omega
  rw [e1, Nat.min_eq_left (show k ≤ 64 by omega), Nat.min_eq_left (show 64 - k ≤ 64 by omega)]
  have hpp : 0 < 2 ^ k := Nat.pow_pos (by decide)
  have hqq : 0 < 2 ^ (64 - k) := Nat.pow_pos (by decide)
  have hpq : 2 ^ k * 2 ^ (64 - k) = 18446744073709551616 := by rw [← Nat.pow_add, show k + (64 - k) = 64 by omega]
  have cp : ((2 : Int) ^ k) = ((2 ^ k : Nat) : Int) := by simp
  have cq : ((2 : Int) ^ (64 - k)) = ((2 ^ (64 - k) : Nat) : Int) := by simp
  rw [cp, cq, ← Int.natCast_mul, u64_wrap]
  have hmod : Y * 2 ^ (64 - k) % 18446744073709551616 = 2 ^ (64 - k) * (Y % 2 ^ k) := by
    rw [← hpq, Nat.mul_mod_mul_right, Nat.mul_comm]
  have hlow : X / 2 ^ k < 2 ^ (64 - k) := Nat.div_lt_of_lt_mul (by rw [hpq]; omega)
  have hR : 2 ^ (64 - k) ≤ 18446744073709551616 := by rw [← hpq]; exact Nat.le_mul_of_pos_left _ hpp
  have hm : Y % 2 ^ k < 2 ^ k := Nat.mod_lt _ hpp
  have hle : 2 ^ (64 - k) * (Y % 2 ^ k) + 2 ^ (64 - k) ≤ 18446744073709551616 := by
    have : 2 ^ (64 - k) * (Y % 2 ^ k + 1) ≤ 2 ^ (64 - k) * 2 ^ k := Nat.mul_le_mul_left _ hm
    rw [Nat.mul_add, Nat.mul_one, Nat.mul_comm (2 ^ (64 - k)) (2 ^ k), hpq] at this
    exact this
  have hA2 : X / 2 ^ k < 18446744073709551616 := Nat.lt_of_lt_of_le hlow hR
  have hsum : X / 2 ^ k + Y * 2 ^ (64 - k) % 18446744073709551616 < 18446744073709551616 := by
    rw [hmod]
    generalize X / 2 ^ k = A at *
    omega
  refine ⟨X / 2 ^ k, Y * 2 ^ (64 - k) % 18446744073709551616, rfl, rfl, hA2, ?_, hsum, fun z => ?_, Nat.mod_eq_of_lt hA2⟩
  · rw [u64_or _ _ (Int.natCast_nonneg _) (by exact Int.ofNat_lt.2 hA2) (Int.natCast_nonneg _) (by exact Int.ofNat_lt.2 (Nat.mod_lt _ (by decide)))]
    simp only [Int.toNat_natCast]
    have hor := Nat.two_pow_add_eq_or_of_lt (i := 64 - k) (b := X / 2 ^ k) hlow (Y % 2 ^ k)
    rw [hmod, Nat.or_comm, ← hor, Nat.add_comm]
  · have d1 : (X + 18446744073709551616 * (Y + 18446744073709551616 * z)) / 2 ^ k = X / 2 ^ k + 2 ^ (64 - k) * (Y + 18446744073709551616 * z) := by
      rw [show X + 18446744073709551616 * (Y + 18446744073709551616 * z) = X + 2 ^ k * (2 ^ (64 - k) * (Y + 18446744073709551616 * z)) by rw [← Nat.mul_assoc, hpq], Nat.add_mul_div_left _ _ hpp]
    rw [d1, Nat.mul_add, show X / 2 ^ k + (2 ^ (64 - k) * Y + 2 ^ (64 - k) * (18446744073709551616 * z)) = (X / 2 ^ k + Y * 2 ^ (64 - k)) + 18446744073709551616 * (2 ^ (64 - k) * z) by
      rw [Nat.mul_left_comm, Nat.mul_comm (2 ^ (64 - k)) Y]; omega, Nat.add_mul_mod_self_left]
    generalize X / 2 ^ k = A at *
    generalize Y * 2 ^ (64 - k) = C at *
    omega
theorem right_step {l c : List Int} {i n s : Nat} (hi : i < c.length) (hl : i ≤ l.length) (hk : okL l) (inv : val (c.take i) = val l / 2 ^ n % 18446744073709551616 ^ i)
    (hs : val (l.drop i) / 2 ^ n % 18446744073709551616 = s) : val ((c.set i (s : Int)).take (i + 1)) = val l / 2 ^ n % 18446744073709551616 ^ (i + 1) := by
  rw [val_set_take hi, inv, Nat.pow_succ, Nat.mod_mul, Int.toNat_natCast, ← hs, Nat.div_div_eq_div_mul, Nat.mul_comm (2 ^ n), ← Nat.div_div_eq_div_mul]
  have e : val l / 18446744073709551616 ^ i = val (l.drop i) := by
    have h1 : val l = val (l.take i) + 18446744073709551616 ^ i * val (l.drop i) := by
      have := val_append (l.take i) (l.drop i)
      rw [List.take_append_drop, List.length_take, Nat.min_eq_left hl] at this
      exact this
    have h2 := val_lt (okL_take hk i)
    rw [List.length_take, Nat.min_eq_left hl] at h2
    rw [h1, Nat.add_mul_div_left _ _ (Nat.pow_pos (by decide)), Nat.div_eq_of_lt h2]
    omega
  rw [e]
end Go.Proofs.YthaiegnohkiegaaGreat.Ab
/-
 Contracts of the functions of package nat: forms, comparison.
-/
namespace Go.Proofs.YthaiegnohkiegaaGreat.Ab
set_option linter.unusedVariables false
set_option linter.unusedSimpArgs false
set_option maxRecDepth 20000
set_option maxHeartbeats 4000000
attribute [local irreducible] Tells Does EVo EV EVq EVr TellsC


theorem nat_good (l : List Int) (hl : l.length ≤ 4611686018427387904) : Fn Tryz.prog 127 [.d (encN l)] false (.one (.d (ib (goodL l)))) := by
 refine Fn_of_EV Tryz.func127 rfl (by kernel_rfl) rfl rfl (fun E hE => ?_)
 iterate 10 refine τ ?_
 refine EVo_case 6 rfl (fun hb1 => ?_) (fun hb1 => ?_)
 ·try simp only [zz] at hb1
  iterate 11 refine τ ?_
  refine ⟨_, ⟨rfl, rfl⟩, fit_eq rfl nofun ?_⟩
  ·have e : l = [] := List.eq_nil_of_length_eq_zero (by omega)
   subst e; rfl
 ·try simp only [zz] at hb1
  iterate 11 refine τ ?_
  refine ⟨_, ⟨rfl, rfl⟩, fit_eq rfl nofun ?_⟩
  ·simp [goodL]; rcases l with _ | ⟨x, l⟩
   ·simp at hb1
   ·simp; rfl

theorem nat_check (l : List Int) (hl : l.length ≤ 4611686018427387904) : Fn Tryz.prog 129 [.d (encN l)] false (.one (.d (ii (if goodL l then 0 else 10)))) := by
 refine Fn_of_EV Tryz.func129 rfl (by kernel_rfl) rfl rfl (fun E hE => ?_)
 iterate 8 refine τ ?_
 refine EVo_e rfl (D_call false (nat_good _ (by omega)) rfl (φd rfl φn)) ?_
 refine τ ?_
 refine EV_cond rfl rfl rfl (fun hb1 => ?_) (fun hb1 => ?_)
 ·try simp only [zz] at hb1
  iterate 5 refine τ ?_
  refine ⟨_, ⟨rfl, rfl⟩, fit_eq rfl nofun ?_⟩
  ·simp [hb1]
 ·try simp only [zz] at hb1
  iterate 6 refine τ ?_
  refine ⟨_, ⟨rfl, rfl⟩, fit_eq rfl nofun ?_⟩
  ·simp [hb1]

theorem nat_trimX (l : List Int) (hl : l.length ≤ 4611686018427387904) (hk : okL l) : Fn Tryz.prog 188 [.d (encN l)] false (.one (.dx ((limbs (val l)).map fun x => [iu x]))) := by
 refine Fn_of_EV Tryz.func188 rfl (by kernel_rfl) rfl rfl (fun E hE => ?_)
 iterate 12 refine τ ?_
 refine EV_wl (fun mm S => ∃ n : Int, mm = n.toNat ∧ S = St.of [(0, V.c (.d false (encN l))), (3, vi .i64 n)] (tabO []) 22 ∧ 0 ≤ n ∧ n ≤ l.length ∧ ∀ i : Nat, n ≤ i → i < l.length → rd l i = 0) _ ⟨_, ⟨(l.length : Int), rfl, rfl, ⟨by omega, by omega, fun i h1 h2 => by omega⟩⟩, W_keep2 _ _ ⟨rfl, rfl, trivial⟩ trivial rfl⟩ ?_
 rintro mm S ⟨n, rfl, rfl, ⟨h0, h1, h2⟩⟩
 iterate 6 refine τ ?_
 refine EVo_case 8 rfl (fun hb1 => ?_) (fun hb1 => ?_)
 ·try simp only [zz] at hb1
  iterate 8 refine τ ?_
  refine EV_cond rfl rfl rfl (fun hb2 => ?_) (fun hb2 => ?_)
  ·try simp only [zz] at hb2
   have hz := hb2
   iterate 7 refine τ ?_
   refine ⟨_, ?_, ω ⟨_, ⟨n - 1, rfl, rfl, ?_⟩, W_keep2 _ _ ⟨rfl, rfl, trivial⟩ trivial rfl⟩⟩
   ·omega
   ·refine ⟨by omega, by omega, fun i q1 q2 => ?_⟩
    by_cases e : (i : Int) = n - 1
    ·rw [e]; exact hz
    ·exact h2 i (by omega) q2
  ·try simp only [zz] at hb2
   have hz := hb2
   iterate 6 refine τ ?_
   refine EVo_t rfl (T_slXL (uOk rfl) (zOk rfl) rfl (fun _ => rfl) rfl rfl ⟨rfl, rfl, rfl⟩ (by omega) (by omega) (by omega)) ?_
   iterate 3 refine τ ?_
   refine ⟨_, ⟨rfl, rfl⟩, fit_dx nofun ?_⟩
   ·have := trim_eq hk (n := n.toNat) (by omega) (fun i q1 q2 => h2 i (by omega) q2) (.inr (by rw [Int.toNat_of_nonneg h0]; exact hz)); simp [this]
 ·try simp only [zz] at hb1
  iterate 8 refine τ ?_
  refine EV_cond rfl rfl rfl (fun h => by cases h) (fun _ => ?_)
  iterate 6 refine τ ?_
  refine EVo_t rfl (T_slXL (uOk rfl) (zOk rfl) rfl (fun _ => rfl) rfl rfl ⟨rfl, rfl, rfl⟩ (by omega) (by omega) (by omega)) ?_
  iterate 3 refine τ ?_
  refine ⟨_, ⟨rfl, rfl⟩, fit_dx nofun ?_⟩
  ·have := trim_eq hk (n := n.toNat) (by omega) (fun i q1 q2 => h2 i (by omega) q2) (.inl (by omega)); simp [this]

theorem nat_trim (l : List Int) (hl : l.length ≤ 4611686018427387904) (hk : okL l) : Fn Tryz.prog 188 [.d (encN l)] false (.one (.d (encN (limbs (val l))))) := (nat_trimX l hl hk).loseX

theorem nat_from (x : Int) (h0 : 0 ≤ x) (h1 : x < 18446744073709551616) : Fn Tryz.prog 104 [.d (iu x)] false (.one (.d (encN (limbs x.toNat)))) := by
 refine Fn_of_EV Tryz.func104 rfl (by kernel_rfl) rfl rfl (fun E hE => ?_)
 iterate 10 refine τ ?_
 refine EV_cond rfl rfl rfl (fun hb1 => ?_) (fun hb1 => ?_)
 ·try simp only [zz] at hb1
  iterate 5 refine τ ?_
  refine ⟨_, ⟨rfl, rfl⟩, fit_eq rfl nofun ?_⟩
  ·subst hb1; rfl
 ·try simp only [zz] at hb1
  iterate 4 refine τ ?_
  refine EVo_e rfl (D_buildSlice (uOk rfl) bz58 rfl rfl rfl (by simp)) ?_
  iterate 3 refine τ ?_
  refine ⟨_, ⟨rfl, rfl⟩, fit_eq rfl nofun ?_⟩
  ·rw [limbs_one (by omega) (by omega)]; simp; omega

theorem nat_small (l : List Int) (hl : l.length ≤ 4611686018427387904) (hk : okL l) : Fn Tryz.prog 89 [.d (encN l)] false (.tup [.d (iu (smallV l)), .d (ib (smallB l))]) := by
 refine Fn_of_EV Tryz.func89 rfl (by kernel_rfl) rfl rfl (fun E hE => ?_)
 iterate 10 refine τ ?_
 refine EVo_e rfl (D_call false (nat_good _ (by omega)) rfl (φd rfl φn)) ?_
 iterate 2 refine τ ?_
 refine EVo_case 8 rfl (fun hb1 => ?_) (fun hb1 => ?_)
 ·try simp only [zz] at hb1
  iterate 6 refine τ ?_
  refine EV_cond rfl rfl rfl (fun _ => ?_) (fun h => by cases h)
  iterate 6 refine τ ?_
  refine ⟨_, _, ⟨rfl, rfl⟩, ⟨rfl, rfl⟩, fit_eq rfl nofun ?_, fit_eq rfl nofun ?_⟩
  ·simp [smallV, smallB, hb1]
  ·simp [smallB, hb1]
 ·try simp only [zz] at hb1
  iterate 6 refine τ ?_
  refine EV_cond rfl rfl rfl (fun hb2 => ?_) (fun hb2 => ?_)
  ·try simp only [zz] at hb2
   iterate 6 refine τ ?_
   refine ⟨_, _, ⟨rfl, rfl⟩, ⟨rfl, rfl⟩, fit_eq rfl nofun ?_, fit_eq rfl nofun ?_⟩
   ·have : ¬ l.length ≤ 1 := by omega
    simp [smallV, smallB, this]
   ·have : ¬ l.length ≤ 1 := by omega
    simp [smallB, this]
  ·try simp only [zz] at hb2
   iterate 7 refine τ ?_
   refine EV_cond rfl rfl rfl (fun hb3 => ?_) (fun hb3 => ?_)
   ·try simp only [zz] at hb3
    iterate 6 refine τ ?_
    refine ⟨_, _, ⟨rfl, rfl⟩, ⟨rfl, rfl⟩, fit_eq rfl nofun ?_, fit_eq rfl nofun ?_⟩
    ·have e : l = [] := List.eq_nil_of_length_eq_zero (by omega)
     subst e; rfl
    ·have e : l = [] := List.eq_nil_of_length_eq_zero (by omega)
     subst e; rfl
   ·try simp only [zz] at hb3
    iterate 10 refine τ ?_
    refine ⟨_, _, ⟨rfl, rfl⟩, ⟨rfl, rfl⟩, fit_eq rfl nofun ?_, fit_eq rfl nofun ?_⟩
    ·obtain ⟨x, e⟩ := List.length_eq_one_iff.1 (show l.length = 1 by omega)
     subst e
     have := hk x (by simp)
     simp [smallV, smallB, hb1, val, rd]; omega
    ·have : l.length ≤ 1 := by omega
     simp [smallB, this, hb1]

theorem nat_cmp (l m : List Int) (hl : l.length ≤ 4611686018427387904) (hm : m.length ≤ 4611686018427387904) (hk : okL l) (hkm : okL m) (hg : goodL l = true) (hgm : goodL m = true) : Fn Tryz.prog 183 [.d (encN l), .d (encN m)] false (.one (.d (ii (cmpN (val l) (val m))))) := by
 refine Fn_of_EV Tryz.func183 rfl (by kernel_rfl) rfl rfl (fun E hE => ?_)
 iterate 13 refine τ ?_
 refine EV_cond rfl rfl rfl (fun hb1 => ?_) (fun hb1 => ?_)
 ·try simp only [zz] at hb1
  iterate 9 refine τ ?_
  refine EV_cond rfl rfl rfl (fun hb2 => ?_) (fun hb2 => ?_)
  ·try simp only [zz] at hb2
   iterate 5 refine τ ?_
   refine ⟨_, ⟨rfl, rfl⟩, fit_eq rfl nofun ?_⟩
   ·have := val_lt_of_len hk hkm hgm (by omega); simp [cmpN, this]
  ·try simp only [zz] at hb2
   iterate 6 refine τ ?_
   refine ⟨_, ⟨rfl, rfl⟩, fit_eq rfl nofun ?_⟩
   ·have := val_lt_of_len hkm hk hg (by omega); simp [cmpN, this]; omega
 ·try simp only [zz] at hb1
  iterate 10 refine τ ?_
  refine EV_wl (fun mm S => ∃ i : Int, mm = (i + 1).toNat ∧ S = St.of [(0, V.c (.d false (encN l))), (1, V.c (.d false (encN m))), (5, vi .i64 i)] (tabO []) 43 ∧ -1 ≤ i ∧ i < l.length ∧ l.drop (i + 1).toNat = m.drop (i + 1).toNat) _ ⟨_, ⟨(l.length : Int) - 1, rfl, rfl, ⟨by omega, by omega, by simp [List.drop_of_length_le, hb1]; omega⟩⟩, W_keep2 _ _ ⟨rfl, rfl, rfl, trivial⟩ trivial rfl⟩ ?_
  rintro mm S ⟨i, rfl, rfl, ⟨h0, h1, h2⟩⟩
  iterate 6 refine τ ?_
  refine EV_cond rfl rfl rfl (fun hb3 => ?_) (fun hb3 => ?_)
  ·try simp only [zz] at hb3
   have hi := hb3
   iterate 5 refine τ ?_
   refine EV_draw (inX []) (.st 0 (.st 1 (.st 2 (.st 3 (.st 4 (.st 5 (.st 6 (.st 7 (.st 8 (.st 9 .done)))))))))) Tryz.mixed (by kernel_rfl) ?_
   refine EVq_t rfl rfl (T_move rfl) ?_
   refine EVq_t rfl rfl (T_move rfl) ?_
   refine EVq_t rfl rfl (T_ixL (uOk rfl) (zOk rfl) rfl rfl (by omega) (by omega) rfl) ?_
   refine EVq_t rfl rfl (T_load (gOk rfl) rfl) ?_
   refine EVq_t rfl rfl (T_move rfl) ?_
   refine EVq_t rfl rfl (T_move rfl) ?_
   refine EVq_t rfl rfl (T_ixL (uOk rfl) (zOk rfl) rfl rfl (by omega) (by omega) rfl) ?_
   refine EVq_t rfl rfl (T_load (gOk rfl) rfl) ?_
   refine EVq_t rfl rfl (T_bin rfl rfl rfl) ?_
   refine EVq_t rfl rfl (T_assign rfl) ?_
   refine EVq_done ?_
   refine EV_cond rfl rfl rfl (fun hb4 => ?_) (fun hb4 => ?_)
   ·try simp only [zz] at hb4
    iterate 5 refine τ ?_
    refine ⟨_, ⟨rfl, rfl⟩, fit_eq rfl nofun ?_⟩
    ·have := val_lt_at hk hkm (n := i.toNat) (by omega) (by omega) (by rw [show i.toNat + 1 = (i + 1).toNat by omega]; exact h2) (by rw [Int.toNat_of_nonneg hi]; omega); simp [cmpN, this]
   ·try simp only [zz] at hb4
    refine τ ?_
    refine EV_draw (inX []) (.st 0 (.st 1 (.st 2 (.st 3 (.st 4 (.st 5 (.st 6 (.st 7 (.st 8 (.st 9 .done)))))))))) Tryz.mixed (by kernel_rfl) ?_
    refine EVq_t rfl rfl (T_move rfl) ?_
    refine EVq_t rfl rfl (T_move rfl) ?_
    refine EVq_t rfl rfl (T_ixL (uOk rfl) (zOk rfl) rfl rfl (by omega) (by omega) rfl) ?_
    refine EVq_t rfl rfl (T_load (gOk rfl) rfl) ?_
    refine EVq_t rfl rfl (T_move rfl) ?_
    refine EVq_t rfl rfl (T_move rfl) ?_
    refine EVq_t rfl rfl (T_ixL (uOk rfl) (zOk rfl) rfl rfl (by omega) (by omega) rfl) ?_
    refine EVq_t rfl rfl (T_load (gOk rfl) rfl) ?_
    refine EVq_t rfl rfl (T_bin rfl rfl rfl) ?_
    refine EVq_t rfl rfl (T_assign rfl) ?_
    refine EVq_done ?_
    refine EV_cond rfl rfl rfl (fun hb5 => ?_) (fun hb5 => ?_)
    ·try simp only [zz] at hb5
     iterate 5 refine τ ?_
     refine ⟨_, ⟨rfl, rfl⟩, fit_eq rfl nofun ?_⟩
     ·have := val_lt_at hkm hk (n := i.toNat) (by omega) (by omega) (by rw [show i.toNat + 1 = (i + 1).toNat by omega]; exact h2.symm) (by rw [Int.toNat_of_nonneg hi]; omega); simp [cmpN, this]; omega
    ·try simp only [zz] at hb5
     iterate 6 refine τ ?_
     refine ⟨_, ?_, ω ⟨_, ⟨i - 1, rfl, rfl, ?_⟩, W_keep2 _ _ ⟨rfl, rfl, rfl, trivial⟩ trivial rfl⟩⟩
     ·omega
     ·refine ⟨by omega, by omega, ?_⟩
      have e1 : ((i - 1) + 1).toNat = i.toNat := by omega
      have e2 : (i + 1).toNat = i.toNat + 1 := by omega
      rw [e1, drop_rd (l := l) (by omega), drop_rd (l := m) (by omega), ← e2, h2]
      congr 1
      rw [Int.toNat_of_nonneg hi]; omega
  ·try simp only [zz] at hb3
   have hi := hb3
   iterate 6 refine τ ?_
   refine ⟨_, ⟨rfl, rfl⟩, fit_eq rfl nofun ?_⟩
   ·have e : l = m := by
     have e0 : (i + 1).toNat = 0 := by omega
     rw [e0] at h2; simpa using h2
    subst e; simp [cmpN]

theorem nat_Cmp (l m : List Int) (hl : l.length ≤ 4611686018427387904) (hm : m.length ≤ 4611686018427387904) (hk : okL l) (hkm : okL m) : Fn Tryz.prog 235 [.d (encN l), .d (encN m)] false (.one (.d (ii (if goodL l && goodL m then cmpN (val l) (val m) else 0)))) := by
 refine Fn_of_EV Tryz.func235 rfl (by kernel_rfl) rfl rfl (fun E hE => ?_)
 iterate 8 refine τ ?_
 refine EVo_e rfl (D_call false (nat_good _ (by omega)) rfl (φd rfl φn)) ?_
 iterate 2 refine τ ?_
 refine EVo_case 8 rfl (fun hb1 => ?_) (fun hb1 => ?_)
 ·try simp only [zz] at hb1
  iterate 5 refine τ ?_
  refine EV_cond rfl rfl rfl (fun _ => ?_) (fun h => by cases h)
  iterate 5 refine τ ?_
  refine ⟨_, ⟨rfl, rfl⟩, fit_eq rfl nofun ?_⟩
  ·simp [hb1]
 ·try simp only [zz] at hb1
  refine τ ?_
  refine EVo_e rfl (D_call false (nat_good _ (by omega)) rfl (φd rfl φn)) ?_
  iterate 3 refine τ ?_
  refine EV_cond rfl rfl rfl (fun hb2 => ?_) (fun hb2 => ?_)
  ·try simp only [zz] at hb2
   iterate 5 refine τ ?_
   refine ⟨_, ⟨rfl, rfl⟩, fit_eq rfl nofun ?_⟩
   ·simp [hb1, hb2]
  ·try simp only [zz] at hb2
   iterate 5 refine τ ?_
   refine EVo_e rfl (D_call false (nat_cmp _ _ (by omega) (by omega) (by assumption) (by assumption) (by assumption) (by assumption)) rfl (φd rfl (φd rfl φn))) ?_
   iterate 3 refine τ ?_
   refine ⟨_, ⟨rfl, rfl⟩, fit_eq rfl nofun ?_⟩
   ·simp [hb1, hb2]

end Go.Proofs.YthaiegnohkiegaaGreat.Ab
/-
 Contracts of the functions of package nat: sums, differences.
-/
namespace Go.Proofs.YthaiegnohkiegaaGreat.Ab
set_option linter.unusedVariables false
set_option linter.unusedSimpArgs false
set_option maxRecDepth 20000
set_option maxHeartbeats 4000000
attribute [local irreducible] Tells Does EVo EV EVq EVr TellsC


theorem bits_Mul64 (x y : Int) (hx0 : 0 ≤ x) (hx1 : x < 18446744073709551616) (hy0 : 0 ≤ y) (hy1 : y < 18446744073709551616) : Fn Tryz.prog 192 [.d (iu x), .d (iu y)] false (.tup [.d (iu (x * y / 18446744073709551616)), .d (iu (x * y % 18446744073709551616))]) := by
 refine Fn_of_EV Tryz.func192 rfl (by kernel_rfl) rfl rfl (fun E hE => ?_)
 iterate 8 refine τ ?_
 refine EVo_t rfl (T_maskK 32 rfl rfl rfl (by decide) (by omega) (by omega)) ?_
 iterate 5 refine τ ?_
 refine EVo_t rfl (T_shrK rfl rfl rfl rfl) ?_
 iterate 5 refine τ ?_
 refine EVo_t rfl (T_maskK 32 rfl rfl rfl (by decide) (by omega) (by omega)) ?_
 iterate 5 refine τ ?_
 refine EVo_t rfl (T_shrK rfl rfl rfl rfl) ?_
 iterate 15 refine τ ?_
 refine EVo_t rfl (T_shrK rfl rfl rfl rfl) ?_
 iterate 6 refine τ ?_
 refine EVo_t rfl (T_maskK 32 rfl rfl rfl (by decide) (by rw [u64_wrap]; omega) (by rw [u64_wrap]; omega)) ?_
 iterate 5 refine τ ?_
 refine EVo_t rfl (T_shrK rfl rfl rfl rfl) ?_
 iterate 19 refine τ ?_
 refine EVo_t rfl (T_shrK rfl rfl rfl rfl) ?_
 iterate 11 refine τ ?_
 refine ⟨_, _, ⟨rfl, rfl⟩, ⟨rfl, rfl⟩, fit_eq rfl nofun ?_, fit_eq rfl nofun ?_⟩
 ·exact congrArg iu (mul64_hi hx0 hx1 hy0 hy1)
 ·exact congrArg iu (u64_wrap _)

theorem nat_cloneM (l : List Int) (hl : l.length ≤ 17592186044416) : FnM Tryz.prog 132 [.d (encN l)] .u64 (l) := by
 refine FnM_of_EV Tryz.func132 rfl (by kernel_rfl) rfl rfl (fun E hE => ?_)
 iterate 8 refine τ ?_
 refine EVo_tc rfl (T_eqNil (uOk rfl) rfl) ?_
 rintro _ ⟨bn1, rfl, hn1⟩
 refine τ ?_
 refine EV_cond rfl rfl rfl (fun hb2 => ?_) (fun hb2 => ?_)
 ·try simp only [zz] at hb2
  have hnil := hn1 hb2
  iterate 5 refine τ ?_
  refine ⟨rfl, .inl ⟨?_, _, rfl⟩⟩
  simpa using hnil
 ·try simp only [zz] at hb2
  iterate 3 refine τ ?_
  refine EVo_e rfl (D_emptyRow 1 (hE 1 rfl) Free_no (uOk rfl) bz58) ?_
  refine τ ?_
  refine EVo_e rfl (D_append (uOk rfl) ap58 (by decide) rfl rfl (hE 1 rfl) Free_no rfl rfl (by intro ds hds; obtain ⟨x, _, rfl⟩ := List.mem_map.1 hds; rfl) (by simp; omega) (by simp; omega)) ?_
  iterate 3 refine τ ?_
  exact ⟨rfl, .inr ⟨_, _, _, rfl, rfl⟩⟩

theorem nat_add (l m : List Int) (hl : l.length ≤ 17592186044416) (hm : m.length ≤ 17592186044416) (hk : okL l) (hkm : okL m) : Fn Tryz.prog 246 [.d (encN l), .d (encN m)] false (.one (.d (encN (limbs (val l + val m))))) := by
 refine Fn_of_EV Tryz.func246 rfl (by kernel_rfl) rfl rfl (fun E hE => ?_)
 iterate 4 refine τ ?_
 refine EV_join (fun S => ∃ p : List Int, ∃ q : List Int, S = St.of [(0, V.c (.d false (encN p))), (1, V.c (.d false (encN q)))] (tabO []) 64 ∧ okL p ∧ okL q ∧ q.length ≤ p.length ∧ p.length ≤ 17592186044416 ∧ val p + val q = val l + val m) ?_ ?_
 ·
  iterate 8 refine τ ?_
  refine EV_cond rfl rfl rfl (fun hb1 => ?_) (fun hb1 => ?_)
  ·try simp only [zz] at hb1
   iterate 6 refine τ ?_
   refine ω ⟨_, ⟨m, l, rfl, ?_⟩, W_keep2 _ _ ⟨rfl, rfl, trivial⟩ trivial rfl⟩
   exact ⟨hkm, hk, by omega, by omega, by omega⟩
  ·try simp only [zz] at hb1
   refine τ ?_
   refine ω ⟨_, ⟨l, m, rfl, ?_⟩, W_keep2 _ _ ⟨rfl, rfl, trivial⟩ trivial rfl⟩
   exact ⟨hk, hkm, by omega, by omega, by omega⟩
 ·rintro S ⟨p, q, rfl, ⟨hp, hq, hlen, hpb, hval⟩⟩
  iterate 5 refine τ ?_
  refine EVo_e rfl (D_makeL 1 (hE 1 rfl) Free_no (uOk rfl) ap58 rfl (by omega) (by omega) (by omega)) ?_
  iterate 14 refine τ ?_
  refine EV_wl (fun mm S => ∃ i : Int, ∃ cy : Int, ∃ c : List Int, mm = ((p.length : Int) - i).toNat ∧ S = St.of [(0, V.c (.d false (encN p))), (1, V.c (.d false (encN q))), (5, V.c (.msl 1 0 ((p.length : Int) + 1).toNat ((p.length : Int) + 1).toNat)), (6, vi .u64 cy), (21, V.c (.d false (encN p))), (22, vi .i64 p.length), (23, vi .i64 i)] (tabO [(1, .box (List.map (ci .u64) c))]) 64 ∧ 0 ≤ i ∧ i ≤ p.length ∧ (cy = 0 ∨ cy = 1) ∧ c.length = p.length + 1 ∧ okL c ∧ val (c.take i.toNat) + 18446744073709551616 ^ i.toNat * cy.toNat = val (p.take i.toNat) + val (q.take i.toNat)) _ ⟨_, ⟨_, _, _, rfl, rfl, ⟨by omega, by omega, .inl rfl, by simp, okL_rep _, rfl⟩⟩, W_keep2 _ _ ⟨rfl, rfl, rfl, rfl, rfl, rfl, rfl, trivial⟩ ⟨rfl, trivial⟩ rfl⟩ ?_
  rintro mm S ⟨i, cy, c, rfl, rfl, ⟨h0, h1, h2, h3, h4, h5⟩⟩
  iterate 5 refine τ ?_
  refine EV_cond rfl rfl rfl (fun hb2 => ?_) (fun hb2 => ?_)
  ·try simp only [zz] at hb2
   iterate 29 refine τ ?_
   refine EV_cond rfl rfl rfl (fun hb3 => ?_) (fun hb3 => ?_)
   ·try simp only [zz] at hb3
    iterate 11 refine τ ?_
    refine EV_cond rfl rfl rfl (fun hb4 => ?_) (fun hb4 => ?_)
    ·try simp only [zz] at hb4
     iterate 19 refine τ ?_
     refine EV_cond rfl rfl rfl (fun hb5 => ?_) (fun hb5 => ?_)
     ·try simp only [zz] at hb5
      iterate 10 refine τ ?_
      refine EVo_e rfl (D_storeL rfl Free_no rfl rfl (zOk rfl) (by omega)) ?_
      iterate 5 refine τ ?_
      have hx := okL_rd hp i
      have hy := okL_rd hq i
      have ei : (i.toNat : Int) = i := by omega
      have e0 : 0 + i.toNat * 1 = i.toNat := by omega
      have e1 : (i + 1).toNat = i.toNat + 1 := by omega
      simp only [u64_wrap] at *
      refine ⟨_, ?_, ω ⟨_, ⟨_, _, _, rfl, rfl, ?_⟩, W_keep2 _ _ ⟨rfl, rfl, rfl, rfl, rfl, rfl, rfl, trivial⟩ ⟨rfl, trivial⟩ rfl⟩⟩
      ·omega
      ·refine ⟨by omega, by omega, by omega, by simpa using h3, okL_set h4 _ (by omega), ?_⟩
       simp only [e0, e1]
       refine add_step (by omega) hp hq h5 ?_ (by omega) (by omega) (by omega)
       rw [ei]
       omega
     ·try simp only [zz] at hb5
      iterate 6 refine τ ?_
      refine EVo_e rfl (D_storeL rfl Free_no rfl rfl (zOk rfl) (by omega)) ?_
      iterate 5 refine τ ?_
      have hx := okL_rd hp i
      have hy := okL_rd hq i
      have ei : (i.toNat : Int) = i := by omega
      have e0 : 0 + i.toNat * 1 = i.toNat := by omega
      have e1 : (i + 1).toNat = i.toNat + 1 := by omega
      simp only [u64_wrap] at *
      refine ⟨_, ?_, ω ⟨_, ⟨_, _, _, rfl, rfl, ?_⟩, W_keep2 _ _ ⟨rfl, rfl, rfl, rfl, rfl, rfl, rfl, trivial⟩ ⟨rfl, trivial⟩ rfl⟩⟩
      ·omega
      ·refine ⟨by omega, by omega, by omega, by simpa using h3, okL_set h4 _ (by omega), ?_⟩
       simp only [e0, e1]
       refine add_step (by omega) hp hq h5 ?_ (by omega) (by omega) (by omega)
       rw [ei]
       omega
    ·try simp only [zz] at hb4
     have hq0 : rd q i = 0 := by
      have := rd_ge (l := q) (n := i.toNat) (by omega)
      rwa [Int.toNat_of_nonneg h0] at this
     iterate 6 refine τ ?_
     refine EVo_e rfl (D_storeL rfl Free_no rfl rfl (zOk rfl) (by omega)) ?_
     iterate 5 refine τ ?_
     have hx := okL_rd hp i
     have hy := okL_rd hq i
     have ei : (i.toNat : Int) = i := by omega
     have e0 : 0 + i.toNat * 1 = i.toNat := by omega
     have e1 : (i + 1).toNat = i.toNat + 1 := by omega
     simp only [u64_wrap] at *
     refine ⟨_, ?_, ω ⟨_, ⟨_, _, _, rfl, rfl, ?_⟩, W_keep2 _ _ ⟨rfl, rfl, rfl, rfl, rfl, rfl, rfl, trivial⟩ ⟨rfl, trivial⟩ rfl⟩⟩
     ·omega
     ·refine ⟨by omega, by omega, by omega, by simpa using h3, okL_set h4 _ (by omega), ?_⟩
      simp only [e0, e1]
      refine add_step (by omega) hp hq h5 ?_ (by omega) (by omega) (by omega)
      rw [ei]
      omega
   ·try simp only [zz] at hb3
    iterate 9 refine τ ?_
    refine EV_cond rfl rfl rfl (fun hb6 => ?_) (fun hb6 => ?_)
    ·try simp only [zz] at hb6
     iterate 19 refine τ ?_
     refine EV_cond rfl rfl rfl (fun hb7 => ?_) (fun hb7 => ?_)
     ·try simp only [zz] at hb7
      iterate 10 refine τ ?_
      refine EVo_e rfl (D_storeL rfl Free_no rfl rfl (zOk rfl) (by omega)) ?_
      iterate 5 refine τ ?_
      have hx := okL_rd hp i
      have hy := okL_rd hq i
      have ei : (i.toNat : Int) = i := by omega
      have e0 : 0 + i.toNat * 1 = i.toNat := by omega
      have e1 : (i + 1).toNat = i.toNat + 1 := by omega
      simp only [u64_wrap] at *
      refine ⟨_, ?_, ω ⟨_, ⟨_, _, _, rfl, rfl, ?_⟩, W_keep2 _ _ ⟨rfl, rfl, rfl, rfl, rfl, rfl, rfl, trivial⟩ ⟨rfl, trivial⟩ rfl⟩⟩
      ·omega
      ·refine ⟨by omega, by omega, by omega, by simpa using h3, okL_set h4 _ (by omega), ?_⟩
       simp only [e0, e1]
       refine add_step (by omega) hp hq h5 ?_ (by omega) (by omega) (by omega)
       rw [ei]
       omega
     ·try simp only [zz] at hb7
      iterate 6 refine τ ?_
      refine EVo_e rfl (D_storeL rfl Free_no rfl rfl (zOk rfl) (by omega)) ?_
      iterate 5 refine τ ?_
      have hx := okL_rd hp i
      have hy := okL_rd hq i
      have ei : (i.toNat : Int) = i := by omega
      have e0 : 0 + i.toNat * 1 = i.toNat := by omega
      have e1 : (i + 1).toNat = i.toNat + 1 := by omega
      simp only [u64_wrap] at *
      refine ⟨_, ?_, ω ⟨_, ⟨_, _, _, rfl, rfl, ?_⟩, W_keep2 _ _ ⟨rfl, rfl, rfl, rfl, rfl, rfl, rfl, trivial⟩ ⟨rfl, trivial⟩ rfl⟩⟩
      ·omega
      ·refine ⟨by omega, by omega, by omega, by simpa using h3, okL_set h4 _ (by omega), ?_⟩
       simp only [e0, e1]
       refine add_step (by omega) hp hq h5 ?_ (by omega) (by omega) (by omega)
       rw [ei]
       omega
    ·try simp only [zz] at hb6
     have hq0 : rd q i = 0 := by
      have := rd_ge (l := q) (n := i.toNat) (by omega)
      rwa [Int.toNat_of_nonneg h0] at this
     iterate 6 refine τ ?_
     refine EVo_e rfl (D_storeL rfl Free_no rfl rfl (zOk rfl) (by omega)) ?_
     iterate 5 refine τ ?_
     have hx := okL_rd hp i
     have hy := okL_rd hq i
     have ei : (i.toNat : Int) = i := by omega
     have e0 : 0 + i.toNat * 1 = i.toNat := by omega
     have e1 : (i + 1).toNat = i.toNat + 1 := by omega
     simp only [u64_wrap] at *
     refine ⟨_, ?_, ω ⟨_, ⟨_, _, _, rfl, rfl, ?_⟩, W_keep2 _ _ ⟨rfl, rfl, rfl, rfl, rfl, rfl, rfl, trivial⟩ ⟨rfl, trivial⟩ rfl⟩⟩
     ·omega
     ·refine ⟨by omega, by omega, by omega, by simpa using h3, okL_set h4 _ (by omega), ?_⟩
      simp only [e0, e1]
      refine add_step (by omega) hp hq h5 ?_ (by omega) (by omega) (by omega)
      rw [ei]
      omega
  ·try simp only [zz] at hb2
   iterate 8 refine τ ?_
   refine EVo_e rfl (D_storeL rfl Free_no rfl rfl (zOk rfl) (by omega)) ?_
   iterate 4 refine τ ?_
   refine EVo_weak (W_freezeL 62 1 _ _ _ (hE 1 rfl) rfl rfl rfl (by simp; omega) (by omega)) ?_
   refine EVo_e rfl (D_call false (nat_trim _ (by simp; omega) (okL_take (okL_drop (okL_set h4 _ (by omega)) _) _)) rfl (φd rfl φn)) ?_
   iterate 3 refine τ ?_
   refine ⟨_, ⟨rfl, rfl⟩, fit_eq rfl nofun ?_⟩
   ·have e0 : (0 + ((p.length : Int)).toNat * 1) = p.length := by omega
    have e1 : ((p.length : Int) + 1).toNat = p.length + 1 := by omega
    have e2 : i.toNat = p.length := by omega
    simp only [e0, e1, List.drop_zero]
    rw [val_set_take (by omega)]
    rw [e2, List.take_of_length_le (Nat.le_refl p.length), List.take_of_length_le hlen] at h5
    rw [h5, hval]

theorem nat_sub (l m : List Int) (hl : l.length ≤ 17592186044416) (hm : m.length ≤ 17592186044416) (hk : okL l) (hkm : okL m) (hle : val m ≤ val l) (hml : m.length ≤ l.length) : Fn Tryz.prog 247 [.d (encN l), .d (encN m)] false (.one (.d (encN (limbs (val l - val m))))) := by
 refine Fn_of_EV Tryz.func247 rfl (by kernel_rfl) rfl rfl (fun E hE => ?_)
 iterate 7 refine τ ?_
 refine EVo_e rfl (D_callM 1 (hE 1 rfl) Free_no (nat_cloneM _ (by omega)) rfl (φd rfl φn)) ?_
 iterate 14 refine τ ?_
 refine EV_wl (fun mm S => ∃ i : Int, ∃ b : Int, ∃ c : List Int, mm = ((l.length : Int) - i).toNat ∧ S = St.of [(1, V.c (.d false (encN m))), (5, V.c (.msl 1 0 l.length l.length)), (6, vi .u64 b), (12, vi .i64 l.length), (13, vi .i64 i)] (tabO [(1, .box (List.map (ci .u64) c))]) 51 ∧ 0 ≤ i ∧ i ≤ l.length ∧ (b = 0 ∨ b = 1) ∧ c.length = l.length ∧ okL c ∧ c.drop i.toNat = l.drop i.toNat ∧ val (c.take i.toNat) + val (m.take i.toNat) = val (l.take i.toNat) + 18446744073709551616 ^ i.toNat * b.toNat) _ ⟨_, ⟨_, _, _, rfl, rfl, ⟨by omega, by omega, .inl rfl, rfl, hk, rfl, rfl⟩⟩, W_keep2 _ _ ⟨rfl, rfl, rfl, rfl, rfl, trivial⟩ ⟨rfl, trivial⟩ rfl⟩ ?_
 rintro mm S ⟨i, b, c, rfl, rfl, ⟨h0, h1, h2, h3, h4, h6, h5⟩⟩
 have e0 : 0 + i.toNat * 1 = i.toNat := by omega
 have hci := getD_drop h6
 have hx := okL_rd hk i
 have hy := okL_rd hkm i
 have ei : (i.toNat : Int) = i := by omega
 rw [ei] at hci
 iterate 5 refine τ ?_
 refine EV_cond rfl rfl rfl (fun hb1 => ?_) (fun hb1 => ?_)
 ·try simp only [zz] at hb1
  iterate 21 refine τ ?_
  refine EV_cond rfl rfl rfl (fun hb2 => ?_) (fun hb2 => ?_)
  ·try simp only [zz] at hb2
   iterate 23 refine τ ?_
   refine EV_cond rfl rfl rfl (fun hb3 => ?_) (fun hb3 => ?_)
   ·try simp only [zz] at hb3
    iterate 9 refine τ ?_
    refine EVo_t rfl (T_loadL (gOk rfl) rfl rfl (by omega) rfl rfl) ?_
    iterate 3 refine τ ?_
    refine EV_cond rfl rfl rfl (fun hb4 => ?_) (fun hb4 => ?_)
    ·try simp only [zz] at hb4
     iterate 9 refine τ ?_
     refine EVo_t rfl (T_loadL (gOk rfl) rfl rfl (by omega) rfl rfl) ?_
     iterate 3 refine τ ?_
     refine EVo_e rfl (D_storeL rfl Free_no rfl rfl (zOk rfl) (by omega)) ?_
     iterate 5 refine τ ?_
     have e1 : (i + 1).toNat = i.toNat + 1 := by omega
     simp only [e0, hci, u64_wrap] at *
     refine ⟨_, ?_, ω ⟨_, ⟨_, _, _, rfl, rfl, ?_⟩, W_keep2 _ _ ⟨rfl, rfl, rfl, rfl, rfl, trivial⟩ ⟨rfl, trivial⟩ rfl⟩⟩
     ·omega
     ·refine ⟨by omega, by omega, by omega, by simpa using h3, okL_set h4 _ (by omega), ?_, ?_⟩
      ·rw [e1]; exact set_drop h6
      rw [e1]
      refine sub_step (by omega) hk hkm h5 ?_ (by omega) (by omega) (by omega)
      rw [ei]
      omega
    ·try simp only [zz] at hb4
     iterate 5 refine τ ?_
     refine EVo_t rfl (T_loadL (gOk rfl) rfl rfl (by omega) rfl rfl) ?_
     iterate 3 refine τ ?_
     refine EVo_e rfl (D_storeL rfl Free_no rfl rfl (zOk rfl) (by omega)) ?_
     iterate 5 refine τ ?_
     have e1 : (i + 1).toNat = i.toNat + 1 := by omega
     simp only [e0, hci, u64_wrap] at *
     refine ⟨_, ?_, ω ⟨_, ⟨_, _, _, rfl, rfl, ?_⟩, W_keep2 _ _ ⟨rfl, rfl, rfl, rfl, rfl, trivial⟩ ⟨rfl, trivial⟩ rfl⟩⟩
     ·omega
     ·refine ⟨by omega, by omega, by omega, by simpa using h3, okL_set h4 _ (by omega), ?_, ?_⟩
      ·rw [e1]; exact set_drop h6
      rw [e1]
      refine sub_step (by omega) hk hkm h5 ?_ (by omega) (by omega) (by omega)
      rw [ei]
      omega
   ·try simp only [zz] at hb3
    iterate 7 refine τ ?_
    refine EVo_t rfl (T_loadL (gOk rfl) rfl rfl (by omega) rfl rfl) ?_
    iterate 3 refine τ ?_
    refine EV_cond rfl rfl rfl (fun hb5 => ?_) (fun hb5 => ?_)
    ·try simp only [zz] at hb5
     iterate 9 refine τ ?_
     refine EVo_t rfl (T_loadL (gOk rfl) rfl rfl (by omega) rfl rfl) ?_
     iterate 3 refine τ ?_
     refine EVo_e rfl (D_storeL rfl Free_no rfl rfl (zOk rfl) (by omega)) ?_
     iterate 5 refine τ ?_
     have e1 : (i + 1).toNat = i.toNat + 1 := by omega
     simp only [e0, hci, u64_wrap] at *
     refine ⟨_, ?_, ω ⟨_, ⟨_, _, _, rfl, rfl, ?_⟩, W_keep2 _ _ ⟨rfl, rfl, rfl, rfl, rfl, trivial⟩ ⟨rfl, trivial⟩ rfl⟩⟩
     ·omega
     ·refine ⟨by omega, by omega, by omega, by simpa using h3, okL_set h4 _ (by omega), ?_, ?_⟩
      ·rw [e1]; exact set_drop h6
      rw [e1]
      refine sub_step (by omega) hk hkm h5 ?_ (by omega) (by omega) (by omega)
      rw [ei]
      omega
    ·try simp only [zz] at hb5
     iterate 5 refine τ ?_
     refine EVo_t rfl (T_loadL (gOk rfl) rfl rfl (by omega) rfl rfl) ?_
     iterate 3 refine τ ?_
     refine EVo_e rfl (D_storeL rfl Free_no rfl rfl (zOk rfl) (by omega)) ?_
     iterate 5 refine τ ?_
     have e1 : (i + 1).toNat = i.toNat + 1 := by omega
     simp only [e0, hci, u64_wrap] at *
     refine ⟨_, ?_, ω ⟨_, ⟨_, _, _, rfl, rfl, ?_⟩, W_keep2 _ _ ⟨rfl, rfl, rfl, rfl, rfl, trivial⟩ ⟨rfl, trivial⟩ rfl⟩⟩
     ·omega
     ·refine ⟨by omega, by omega, by omega, by simpa using h3, okL_set h4 _ (by omega), ?_, ?_⟩
      ·rw [e1]; exact set_drop h6
      rw [e1]
      refine sub_step (by omega) hk hkm h5 ?_ (by omega) (by omega) (by omega)
      rw [ei]
      omega
  ·try simp only [zz] at hb2
   have hq0 : rd m i = 0 := by
    have := rd_ge (l := m) (n := i.toNat) (by omega)
    rwa [ei] at this
   iterate 9 refine τ ?_
   refine EVo_t rfl (T_loadL (gOk rfl) rfl rfl (by omega) rfl rfl) ?_
   iterate 3 refine τ ?_
   refine EV_cond rfl rfl rfl (fun hb6 => ?_) (fun hb6 => ?_)
   ·try simp only [zz] at hb6
    iterate 9 refine τ ?_
    refine EVo_t rfl (T_loadL (gOk rfl) rfl rfl (by omega) rfl rfl) ?_
    iterate 3 refine τ ?_
    refine EVo_e rfl (D_storeL rfl Free_no rfl rfl (zOk rfl) (by omega)) ?_
    iterate 5 refine τ ?_
    have e1 : (i + 1).toNat = i.toNat + 1 := by omega
    simp only [e0, hci, u64_wrap] at *
    refine ⟨_, ?_, ω ⟨_, ⟨_, _, _, rfl, rfl, ?_⟩, W_keep2 _ _ ⟨rfl, rfl, rfl, rfl, rfl, trivial⟩ ⟨rfl, trivial⟩ rfl⟩⟩
    ·omega
    ·refine ⟨by omega, by omega, by omega, by simpa using h3, okL_set h4 _ (by omega), ?_, ?_⟩
     ·rw [e1]; exact set_drop h6
     rw [e1]
     refine sub_step (by omega) hk hkm h5 ?_ (by omega) (by omega) (by omega)
     rw [ei]
     omega
   ·try simp only [zz] at hb6
    iterate 5 refine τ ?_
    refine EVo_t rfl (T_loadL (gOk rfl) rfl rfl (by omega) rfl rfl) ?_
    iterate 3 refine τ ?_
    refine EVo_e rfl (D_storeL rfl Free_no rfl rfl (zOk rfl) (by omega)) ?_
    iterate 5 refine τ ?_
    have e1 : (i + 1).toNat = i.toNat + 1 := by omega
    simp only [e0, hci, u64_wrap] at *
    refine ⟨_, ?_, ω ⟨_, ⟨_, _, _, rfl, rfl, ?_⟩, W_keep2 _ _ ⟨rfl, rfl, rfl, rfl, rfl, trivial⟩ ⟨rfl, trivial⟩ rfl⟩⟩
    ·omega
    ·refine ⟨by omega, by omega, by omega, by simpa using h3, okL_set h4 _ (by omega), ?_, ?_⟩
     ·rw [e1]; exact set_drop h6
     rw [e1]
     refine sub_step (by omega) hk hkm h5 ?_ (by omega) (by omega) (by omega)
     rw [ei]
     omega
 ·try simp only [zz] at hb1
  iterate 4 refine τ ?_
  refine EVo_weak (W_freezeL 49 1 _ _ _ (hE 1 rfl) rfl rfl rfl (by omega) (by omega)) ?_
  refine EVo_e rfl (D_call false (nat_trim _ (by simp; omega) (okL_take (okL_drop h4 _) _)) rfl (φd rfl φn)) ?_
  iterate 3 refine τ ?_
  refine ⟨_, ⟨rfl, rfl⟩, fit_eq rfl nofun ?_⟩
  ·have e2 : i.toNat = l.length := by omega
   rw [e2] at h5
   have := sub_end h4 h3 h2 hle hml h5
   rw [List.drop_zero, List.take_of_length_le (by omega), this]

theorem nat_mul (l m : List Int) (hl : l.length ≤ 17592186044416) (hm : m.length ≤ 17592186044416) (hk : okL l) (hkm : okL m) : Fn Tryz.prog 164 [.d (encN l), .d (encN m)] false (.one (.d (encN (limbs (val l * val m))))) := by
 refine Fn_of_EV Tryz.func164 rfl (by kernel_rfl) rfl rfl (fun E hE => ?_)
 iterate 11 refine τ ?_
 refine EVo_e rfl (D_makeL 1 (hE 1 rfl) Free_no (uOk rfl) ap58 rfl (by omega) (by omega) (by omega)) ?_
 iterate 10 refine τ ?_
 refine EV_wl (fun mm S => ∃ i : Int, ∃ c : List Int, mm = ((l.length : Int) - i).toNat ∧ S = St.of [(0, V.c (.d false (encN l))), (1, V.c (.d false (encN m))), (5, V.c (.msl 1 0 ((l.length : Int) + m.length).toNat ((l.length : Int) + m.length).toNat)), (21, V.c (.d false (encN l))), (22, vi .i64 l.length), (23, vi .i64 i)] (tabO [(1, .box (List.map (ci .u64) c))]) 87 ∧ 0 ≤ i ∧ i ≤ l.length ∧ c.length = l.length + m.length ∧ okL c ∧ (∀ j : Nat, i + m.length ≤ j → j < c.length → rd c j = 0) ∧ val c = val (l.take i.toNat) * val m) _ ⟨_, ⟨_, _, rfl, rfl, ⟨by omega, by omega, by simp; omega, okL_rep _, fun j _ _ => rd_rep _ _, by rw [val_rep]; simp [val]⟩⟩, W_keep2 _ _ ⟨rfl, rfl, rfl, rfl, rfl, rfl, trivial⟩ ⟨rfl, trivial⟩ rfl⟩ ?_
 rintro mm S ⟨i, c, rfl, rfl, ⟨h0, h1, h2, h3, h4, h5⟩⟩
 iterate 5 refine τ ?_
 refine EV_cond rfl rfl rfl (fun hb1 => ?_) (fun hb1 => ?_)
 ·try simp only [zz] at hb1
  iterate 25 refine τ ?_
  refine EVo_t rfl (T_sliceM (uOk rfl) (zOk rfl) rfl rfl rfl (.inr ⟨rfl, rfl, rfl⟩) (by omega) (by omega) (by omega) (by omega) (by omega) (by omega)) ?_
  iterate 14 refine τ ?_
  refine EV_wl (fun mm S => ∃ k : Int, ∃ cy : Int, ∃ c2 : List Int, mm = ((m.length : Int) - k).toNat ∧ S = St.of [(0, V.c (.d false (encN l))), (1, V.c (.d false (encN m))), (5, V.c (.msl 1 0 ((l.length : Int) + m.length).toNat ((l.length : Int) + m.length).toNat)), (6, vi .i64 i), (7, vi .u64 (rd l i)), (8, V.c (.msl 1 (0 + i.toNat * 1) ((i + m.length + 1).toNat - i.toNat) ((i + m.length + 1).toNat - i.toNat))), (9, vi .u64 cy), (21, V.c (.d false (encN l))), (22, vi .i64 l.length), (23, vi .i64 i), (41, V.c (.d false (encN m))), (42, vi .i64 m.length), (43, vi .i64 k)] (tabO [(1, .box (List.map (ci .u64) c2))]) 87 ∧ 0 ≤ k ∧ k ≤ m.length ∧ (0 ≤ cy ∧ cy < 18446744073709551616) ∧ c2.length = c.length ∧ okL c2 ∧ c2.drop (i.toNat + k.toNat) = c.drop (i.toNat + k.toNat) ∧ val (c2.take (i.toNat + k.toNat)) + 18446744073709551616 ^ (i.toNat + k.toNat) * cy.toNat = val (c.take (i.toNat + k.toNat)) + 18446744073709551616 ^ i.toNat * ((rd l i).toNat * val (m.take k.toNat))) _ ⟨_, ⟨_, _, _, rfl, rfl, ⟨by omega, by omega, by omega, rfl, h3, rfl, by simp [val]⟩⟩, W_keep2 _ _ ⟨rfl, rfl, rfl, rfl, rfl, rfl, rfl, rfl, rfl, rfl, rfl, rfl, rfl, trivial⟩ ⟨rfl, trivial⟩ rfl⟩ ?_
  rintro mm S ⟨k, cy, c2, rfl, rfl, ⟨g0, g1, g2, g3, g4, g6, g5⟩⟩
  have e0 : 0 + i.toNat * 1 + k.toNat * 1 = i.toNat + k.toNat := by omega
  have hci := getD_drop g6
  have hx := okL_rd hk i
  have hy := okL_rd hkm k
  have hr := okL_rd h3 ((i.toNat + k.toNat : Nat) : Int)
  have hp := mul_bd (n := 18446744073709551615) (m := 18446744073709551615) hx.1 hy.1 (by omega) (by omega)
  iterate 5 refine τ ?_
  refine EV_cond rfl rfl rfl (fun hb2 => ?_) (fun hb2 => ?_)
  ·try simp only [zz] at hb2
   iterate 15 refine τ ?_
   refine EVo_e rfl (D_call false (bits_Mul64 _ _ (by omega) (by omega) (by omega) (by omega)) rfl (φd rfl (φd rfl φn))) ?_
   iterate 10 refine τ ?_
   refine EVo_e rfl ((T_add64 Tryz.add64 rfl rfl rfl rfl (by omega) (by omega) (by omega)).does) ?_
   iterate 20 refine τ ?_
   refine EVo_t rfl (T_loadL (gOk rfl) rfl rfl (by omega) rfl rfl) ?_
   refine τ ?_
   refine EVo_e rfl ((T_add64 Tryz.add64 rfl rfl rfl rfl (by rw [e0, hci]; omega) (by omega) (by omega)).does) ?_
   iterate 4 refine τ ?_
   refine EVo_e rfl (D_storeL rfl Free_no rfl rfl (zOk rfl) (by omega)) ?_
   iterate 12 refine τ ?_
   have e1 : (k + 1).toNat = k.toNat + 1 := by omega
   have ek : ((k.toNat : Nat) : Int) = k := by omega
   simp only [e0, hci, u64_wrap] at *
   refine ⟨_, ?_, ω ⟨_, ⟨_, _, _, rfl, rfl, ?_⟩, W_keep2 _ _ ⟨rfl, rfl, rfl, rfl, rfl, rfl, rfl, rfl, rfl, rfl, rfl, rfl, rfl, trivial⟩ ⟨rfl, trivial⟩ rfl⟩⟩
   ·omega
   ·refine ⟨by omega, by omega, by omega, by simpa using g3, okL_set g4 _ (by omega), ?_, ?_⟩
    ·rw [e1, ← Nat.add_assoc]; exact set_drop g6
    rw [e1, ← Nat.add_assoc]
    refine mul_step (by omega) h3 hkm hx.1 g2.1 (by omega) (by omega) g5 ?_
    rw [ek]
    omega
  ·try simp only [zz] at hb2
   iterate 7 refine τ ?_
   refine EVo_e rfl (D_storeL rfl Free_no rfl rfl (zOk rfl) (by omega)) ?_
   iterate 5 refine τ ?_
   have e1 : (i + 1).toNat = i.toNat + 1 := by omega
   have ek : k.toNat = m.length := by omega
   have e0 : 0 + i.toNat * 1 + (m.length : Int).toNat * 1 = i.toNat + m.length := by omega
   simp only [e0]
   rw [ek] at g5 g6
   rw [List.take_of_length_le (Nat.le_refl m.length)] at g5
   have hend := mul_end (i := i.toNat) hk (by omega) h2 (fun j q1 q2 => h4 j (by omega) q2) g3 g6 g2.1 (by rw [Int.toNat_of_nonneg h0]; exact g5) h5
   refine ⟨_, ?_, ω ⟨_, ⟨_, _, rfl, rfl, ?_⟩, W_keep2 _ _ ⟨rfl, rfl, rfl, rfl, rfl, rfl, trivial⟩ ⟨rfl, trivial⟩ rfl⟩⟩
   ·omega
   ·refine ⟨by omega, by omega, by simp; omega, okL_set g4 _ g2, fun j q1 q2 => hend.2 j (by omega) (by simpa [g3] using q2), ?_⟩
    rw [e1]; exact hend.1
 ·try simp only [zz] at hb1
  iterate 4 refine τ ?_
  refine EVo_weak (W_freezeL 85 1 _ _ _ (hE 1 rfl) rfl rfl rfl (by omega) (by omega)) ?_
  refine EVo_e rfl (D_call false (nat_trim _ (by simp; omega) (okL_take (okL_drop h3 _) _)) rfl (φd rfl φn)) ?_
  iterate 3 refine τ ?_
  refine ⟨_, ⟨rfl, rfl⟩, fit_eq rfl nofun ?_⟩
  ·have e2 : i.toNat = l.length := by omega
   rw [e2, List.take_of_length_le (Nat.le_refl _)] at h5
   rw [List.drop_zero, List.take_of_length_le (by omega), h5]

end Go.Proofs.YthaiegnohkiegaaGreat.Ab
/-
 Contracts of the functions of package nat: the exported ones.
-/
namespace Go.Proofs.YthaiegnohkiegaaGreat.Ab
set_option linter.unusedVariables false
set_option linter.unusedSimpArgs false
set_option maxRecDepth 20000
set_option maxHeartbeats 4000000
attribute [local irreducible] Tells Does EVo EV EVq EVr TellsC


theorem nat_len (l : List Int) (hl : l.length ≤ 17592186044416) (hk : okL l) : Fn Tryz.prog 94 [.d (encN l)] false (.one (.d (ii (lenN l)))) := by
 refine Fn_of_EV Tryz.func94 rfl (by kernel_rfl) rfl rfl (fun E hE => ?_)
 iterate 11 refine τ ?_
 refine EVo_case 6 rfl (fun hb1 => ?_) (fun hb1 => ?_)
 ·try simp only [zz] at hb1
  iterate 5 refine τ ?_
  refine EV_cond rfl rfl rfl (fun _ => ?_) (fun h => by cases h)
  iterate 5 refine τ ?_
  refine ⟨_, ⟨rfl, rfl⟩, fit_eq rfl nofun ?_⟩
  ·have e : l = [] := List.eq_nil_of_length_eq_zero (by omega)
   subst e; rfl
 ·try simp only [zz] at hb1
  refine τ ?_
  refine EVo_e rfl (D_call false (nat_good _ (by omega)) rfl (φd rfl φn)) ?_
  iterate 3 refine τ ?_
  refine EV_cond rfl rfl rfl (fun hb2 => ?_) (fun hb2 => ?_)
  ·try simp only [zz] at hb2
   iterate 5 refine τ ?_
   refine ⟨_, ⟨rfl, rfl⟩, fit_eq rfl nofun ?_⟩
   ·simp [lenN, hb2]
  ·try simp only [zz] at hb2
   iterate 13 refine τ ?_
   have hr := okL_rd hk ((l.length : Int) - 1)
   have hbl := Lib.bitLen_le (rd l ((l.length : Int) - 1)).toNat 64 (by omega) (by omega)
   refine EVo_e rfl (D_call false (bits_Len64 _ (by omega) (by omega)) rfl (φd rfl φn)) ?_
   iterate 4 refine τ ?_
   refine ⟨_, ⟨rfl, rfl⟩, fit_eq rfl nofun ?_⟩
   ·have e : l ≠ [] := by intro e; subst e; simp at hb1
    simp [lenN, hb2, e]

theorem nat_Add (l m : List Int) (hl : l.length ≤ 17592186044416) (hm : m.length ≤ 17592186044416) (hk : okL l) (hkm : okL m) : Fn Tryz.prog 234 [.d (encN l), .d (encN m)] false (.tup [.d (encN (if goodL l && goodL m then limbs (val l + val m) else [])), .d (ii (if goodL l && goodL m then 0 else 10))]) := by
 refine Fn_of_EV Tryz.func234 rfl (by kernel_rfl) rfl rfl (fun E hE => ?_)
 iterate 9 refine τ ?_
 refine EVo_e rfl (D_call false (nat_good _ (by omega)) rfl (φd rfl φn)) ?_
 iterate 2 refine τ ?_
 refine EVo_case 9 rfl (fun hb1 => ?_) (fun hb1 => ?_)
 ·try simp only [zz] at hb1
  iterate 5 refine τ ?_
  refine EV_cond rfl rfl rfl (fun _ => ?_) (fun h => by cases h)
  iterate 6 refine τ ?_
  refine ⟨_, _, ⟨rfl, rfl⟩, ⟨rfl, rfl⟩, fit_eq rfl nofun ?_, fit_eq rfl nofun ?_⟩
  ·simp [hb1]
  ·simp [hb1]
 ·try simp only [zz] at hb1
  refine τ ?_
  refine EVo_e rfl (D_call false (nat_good _ (by omega)) rfl (φd rfl φn)) ?_
  iterate 3 refine τ ?_
  refine EV_cond rfl rfl rfl (fun hb2 => ?_) (fun hb2 => ?_)
  ·try simp only [zz] at hb2
   iterate 6 refine τ ?_
   refine ⟨_, _, ⟨rfl, rfl⟩, ⟨rfl, rfl⟩, fit_eq rfl nofun ?_, fit_eq rfl nofun ?_⟩
   ·simp [hb1, hb2]
   ·simp [hb1, hb2]
  ·try simp only [zz] at hb2
   iterate 5 refine τ ?_
   refine EVo_e rfl (D_call false (nat_add _ _ (by omega) (by omega) (by assumption) (by assumption)) rfl (φd rfl (φd rfl φn))) ?_
   iterate 4 refine τ ?_
   refine ⟨_, _, ⟨rfl, rfl⟩, ⟨rfl, rfl⟩, fit_eq rfl nofun ?_, fit_eq rfl nofun ?_⟩
   ·simp [hb1, hb2]
   ·simp [hb1, hb2]

theorem nat_Mul (l m : List Int) (hl : l.length ≤ 17592186044416) (hm : m.length ≤ 17592186044416) (hk : okL l) (hkm : okL m) : Fn Tryz.prog 137 [.d (encN l), .d (encN m)] false (.tup [.d (encN (if goodL l && goodL m then limbs (val l * val m) else [])), .d (ii (if goodL l && goodL m then 0 else 10))]) := by
 refine Fn_of_EV Tryz.func137 rfl (by kernel_rfl) rfl rfl (fun E hE => ?_)
 iterate 9 refine τ ?_
 refine EVo_e rfl (D_call false (nat_good _ (by omega)) rfl (φd rfl φn)) ?_
 iterate 2 refine τ ?_
 refine EVo_case 9 rfl (fun hb1 => ?_) (fun hb1 => ?_)
 ·try simp only [zz] at hb1
  iterate 5 refine τ ?_
  refine EV_cond rfl rfl rfl (fun _ => ?_) (fun h => by cases h)
  iterate 6 refine τ ?_
  refine ⟨_, _, ⟨rfl, rfl⟩, ⟨rfl, rfl⟩, fit_eq rfl nofun ?_, fit_eq rfl nofun ?_⟩
  ·simp [hb1]
  ·simp [hb1]
 ·try simp only [zz] at hb1
  refine τ ?_
  refine EVo_e rfl (D_call false (nat_good _ (by omega)) rfl (φd rfl φn)) ?_
  iterate 3 refine τ ?_
  refine EV_cond rfl rfl rfl (fun hb2 => ?_) (fun hb2 => ?_)
  ·try simp only [zz] at hb2
   iterate 6 refine τ ?_
   refine ⟨_, _, ⟨rfl, rfl⟩, ⟨rfl, rfl⟩, fit_eq rfl nofun ?_, fit_eq rfl nofun ?_⟩
   ·simp [hb1, hb2]
   ·simp [hb1, hb2]
  ·try simp only [zz] at hb2
   iterate 5 refine τ ?_
   refine EVo_e rfl (D_call false (nat_mul _ _ (by omega) (by omega) (by assumption) (by assumption)) rfl (φd rfl (φd rfl φn))) ?_
   iterate 4 refine τ ?_
   refine ⟨_, _, ⟨rfl, rfl⟩, ⟨rfl, rfl⟩, fit_eq rfl nofun ?_, fit_eq rfl nofun ?_⟩
   ·simp [hb1, hb2]
   ·simp [hb1, hb2]

theorem nat_Sub (l m : List Int) (hl : l.length ≤ 17592186044416) (hm : m.length ≤ 17592186044416) (hk : okL l) (hkm : okL m) : Fn Tryz.prog 236 [.d (encN l), .d (encN m)] false (.tup [.d (encN (if goodL l && goodL m && decide (val m ≤ val l) then limbs (val l - val m) else [])), .d (ii (if goodL l && goodL m then (if val m ≤ val l then 0 else 11) else 10))]) := by
 refine Fn_of_EV Tryz.func236 rfl (by kernel_rfl) rfl rfl (fun E hE => ?_)
 iterate 10 refine τ ?_
 refine EVo_e rfl (D_call false (nat_good _ (by omega)) rfl (φd rfl φn)) ?_
 iterate 2 refine τ ?_
 refine EVo_case 10 rfl (fun hb1 => ?_) (fun hb1 => ?_)
 ·try simp only [zz] at hb1
  iterate 6 refine τ ?_
  refine EV_cond rfl rfl rfl (fun _ => ?_) (fun h => by cases h)
  iterate 6 refine τ ?_
  refine ⟨_, _, ⟨rfl, rfl⟩, ⟨rfl, rfl⟩, fit_eq rfl nofun ?_, fit_eq rfl nofun ?_⟩
  ·simp [hb1]
  ·simp [hb1]
 ·try simp only [zz] at hb1
  refine τ ?_
  refine EVo_e rfl (D_call false (nat_good _ (by omega)) rfl (φd rfl φn)) ?_
  iterate 4 refine τ ?_
  refine EV_cond rfl rfl rfl (fun hb2 => ?_) (fun hb2 => ?_)
  ·try simp only [zz] at hb2
   iterate 6 refine τ ?_
   refine ⟨_, _, ⟨rfl, rfl⟩, ⟨rfl, rfl⟩, fit_eq rfl nofun ?_, fit_eq rfl nofun ?_⟩
   ·simp [hb1, hb2]
   ·simp [hb1, hb2]
  ·try simp only [zz] at hb2
   iterate 4 refine τ ?_
   refine EVo_e rfl (D_call false (nat_cmp _ _ (by omega) (by omega) (by assumption) (by assumption) (by assumption) (by assumption)) rfl (φd rfl (φd rfl φn))) ?_
   iterate 3 refine τ ?_
   refine EV_cond rfl rfl rfl (fun hb3 => ?_) (fun hb3 => ?_)
   ·try simp only [zz] at hb3
    have hlt : ¬ val m ≤ val l := by have := (cmpN_neg _ _).1 hb3; omega
    iterate 6 refine τ ?_
    refine ⟨_, _, ⟨rfl, rfl⟩, ⟨rfl, rfl⟩, fit_eq rfl nofun ?_, fit_eq rfl nofun ?_⟩
    ·simp [hb1, hb2, hlt]
    ·simp [hb1, hb2]; omega
   ·try simp only [zz] at hb3
    have hge : val m ≤ val l := by have := mt (cmpN_neg (val l) (val m)).2 (by omega); omega
    have hml := len_le_of_val hk hkm hb2 hge
    iterate 5 refine τ ?_
    refine EVo_e rfl (D_call false (nat_sub _ _ (by omega) (by omega) (by assumption) (by assumption) (by omega) (by omega)) rfl (φd rfl (φd rfl φn))) ?_
    iterate 4 refine τ ?_
    refine ⟨_, _, ⟨rfl, rfl⟩, ⟨rfl, rfl⟩, fit_eq rfl nofun ?_, fit_eq rfl nofun ?_⟩
    ·simp [hb1, hb2, hge]
    ·simp [hb1, hb2, hge]

end Go.Proofs.YthaiegnohkiegaaGreat.Ab
/-
 Contracts: division of two words by one.
-/
namespace Go.Proofs.YthaiegnohkiegaaGreat.Ab
set_option linter.unusedVariables false
set_option linter.unusedSimpArgs false
set_option maxRecDepth 20000
set_option maxHeartbeats 4000000
attribute [local irreducible] Tells Does EVo EV EVq EVr TellsC


theorem bits_Div64 (hi lo y : Int) (hh0 : 0 ≤ hi) (hhy : hi < y) (hl0 : 0 ≤ lo) (hl1 : lo < 18446744073709551616) (hy1 : y < 18446744073709551616) : Fn Tryz.prog 215 [.d (iu hi), .d (iu lo), .d (iu y)] false (.tup [.d (iu ((hi * 18446744073709551616 + lo) / y)), .d (iu ((hi * 18446744073709551616 + lo) % y))]) := by
 refine Fn_of_EV Tryz.func215 rfl (by kernel_rfl) rfl rfl (fun E hE => ?_)
 iterate 11 refine τ ?_
 refine EV_cond rfl rfl rfl (fun hb1 => ?_) (fun hb1 => ?_)
 ·try simp only [zz] at hb1
  exfalso; omega
 ·try simp only [zz] at hb1
  iterate 8 refine τ ?_
  refine EV_cond rfl rfl rfl (fun hb2 => ?_) (fun hb2 => ?_)
  ·try simp only [zz] at hb2
   exfalso; omega
  ·try simp only [zz] at hb2
   iterate 7 refine τ ?_
   refine EV_cond rfl rfl rfl (fun hb3 => ?_) (fun hb3 => ?_)
   ·try simp only [zz] at hb3
    refine τ ?_
    refine EV_draw (inX []) (.st 0 (.st 1 (.st 2 (.st 3 (.st 4 (.st 5 (.st 6 (.st 7 .done)))))))) Tryz.mixed (by kernel_rfl) ?_
    refine EVq_t rfl rfl (T_move rfl) ?_
    refine EVq_t rfl rfl (T_move rfl) ?_
    refine EVq_t rfl rfl (T_quoU rfl rfl (by omega) (by omega) (by omega)) ?_
    refine EVq_t rfl rfl (T_move rfl) ?_
    refine EVq_t rfl rfl (T_move rfl) ?_
    refine EVq_t rfl rfl (T_remN rfl rfl (by omega) (by omega) (by omega)) ?_
    refine EVq_t rfl rfl (T_assign rfl) ?_
    refine EVq_t rfl rfl (T_assign rfl) ?_
    refine EVq_done ?_
    refine τ ?_
    refine ⟨_, _, ⟨rfl, rfl⟩, ⟨rfl, rfl⟩, fit_eq rfl nofun ?_, fit_eq rfl nofun ?_⟩
    ·rw [hb3]; simp
    ·rw [hb3]; simp
   ·try simp only [zz] at hb3
    iterate 4 refine τ ?_
    refine EVo_e rfl (D_call false (bits_LeadingZeros64 _ (by omega) (by omega)) rfl (φd rfl φn)) ?_
    iterate 4 refine τ ?_
    refine EV_cut (fun S => ∃ s : Int, S = St.of [(0, vi .u64 hi), (1, vi .u64 lo), (2, vi .u64 y), (8, vi .u64 s)] (tabO []) 135 ∧ 0 ≤ s ∧ s ≤ 63 ∧ 9223372036854775808 ≤ y * 2 ^ s.toNat ∧ y * 2 ^ s.toNat < 18446744073709551616) (ω ⟨_, ⟨_, rfl, ?_⟩, W_keep2 _ _ ⟨rfl, rfl, rfl, rfl, trivial⟩ trivial rfl⟩) ?_
    ·have hlz := lz_bounds (y := y) (by omega) (by omega)
     rw [u64_in hlz.1 (by omega)]
     exact hlz
    rintro S ⟨s, rfl, ⟨hs0, hs1, hs2, hs3⟩⟩
    iterate 3 refine τ ?_
    refine EVo_t rfl (T_shl rfl rfl (by omega)) ?_
    iterate 5 refine τ ?_
    refine EVo_t rfl (T_shrK rfl rfl rfl rfl) ?_
    iterate 5 refine τ ?_
    refine EVo_t rfl (T_maskK 32 rfl rfl rfl (by decide) (by rw [u64_wrap]; omega) (by rw [u64_wrap]; omega)) ?_
    iterate 6 refine τ ?_
    refine EVo_t rfl (T_shl rfl rfl (by omega)) ?_
    iterate 3 refine τ ?_
    refine EVo_t rfl (T_shr rfl rfl (by rw [u64_wrap]; omega)) ?_
    iterate 7 refine τ ?_
    refine EVo_t rfl (T_shl rfl rfl (by omega)) ?_
    iterate 5 refine τ ?_
    refine EVo_t rfl (T_shrK rfl rfl rfl rfl) ?_
    iterate 5 refine τ ?_
    refine EVo_t rfl (T_maskK 32 rfl rfl rfl (by decide) (by rw [u64_wrap]; omega) (by rw [u64_wrap]; omega)) ?_
    iterate 3 refine τ ?_
    refine EV_cut (fun S => ∃ yy : Int, ∃ yn1 : Int, ∃ yn0 : Int, ∃ u : Int, ∃ u1 : Int, ∃ u0 : Int, S = St.of [(2, vi .u64 yy), (8, vi .u64 s), (9, vi .u64 yn1), (10, vi .u64 yn0), (11, vi .u64 u), (13, vi .u64 u1), (14, vi .u64 u0)] (tabO []) 135 ∧ Half u u1 yn1 yn0 ∧ yy = yn1 * 4294967296 + yn0 ∧ yy = y * 2 ^ s.toNat ∧ (0 ≤ u0 ∧ u0 < 4294967296) ∧ (hi * 18446744073709551616 + lo) * 2 ^ s.toNat = u * 18446744073709551616 + u1 * 4294967296 + u0 ∧ (0 : Int) < 2 ^ s.toNat) (ω ⟨_, ⟨_, _, _, _, _, _, rfl, ?_⟩, W_keep2 _ _ ⟨rfl, rfl, rfl, rfl, rfl, rfl, rfl, trivial⟩ trivial rfl⟩) ?_
    ·simp only [show IntKind.u64.bits = 64 from rfl]
     obtain ⟨f1, f2, f3, f4, f5, f6⟩ := d64_set hs0 hs1 hh0 hhy hl0 hl1 hs3
     simp only [w64] at f1 f2 f3
     rw [f1, f2]
     have f7 := u64_wrap (lo * 2 ^ min s.toNat 64)
     generalize IntKind.u64.wrap (lo * 2 ^ min s.toNat 64) = L10 at *
     generalize hi * 2 ^ s.toNat + lo / 2 ^ (64 - s.toNat) = U at *
     generalize hY : y * 2 ^ s.toNat = Y at *
     refine ⟨⟨by omega, by omega, by omega, by omega, by omega, by omega, by omega, by omega⟩, by omega, rfl, by omega, by omega, f6⟩
    rintro S ⟨yy, yn1, yn0, u, u1, u0, rfl, ⟨hH, hyy, hyp, hu0, hN, hpp⟩⟩
    have g0 := hH.u0
    have g1 := hH.uy
    have g2 := hH.d0
    have g3 := hH.d1
    have g4 := hH.a0
    have g5 := hH.a1
    have g6 := hH.b0
    have g7 := hH.b1
    iterate 3 refine τ ?_
    refine EVo_t rfl (T_quoU rfl rfl (by omega) (by omega) (by omega)) ?_
    iterate 11 refine τ ?_
    refine EV_join (fun S => ∃ q : Int, S = St.of [(2, vi .u64 yy), (8, vi .u64 s), (9, vi .u64 yn1), (10, vi .u64 yn0), (11, vi .u64 u), (13, vi .u64 u1), (14, vi .u64 u0), (15, vi .u64 q)] (tabO []) 135 ∧ q = qt u u1 yn1 yn0) ?_ ?_
    ·
     refine τ ?_
     refine EV_wl (fun mm S => ∃ q : Int, ∃ r : Int, mm = q.toNat ∧ S = St.of [(2, vi .u64 yy), (8, vi .u64 s), (9, vi .u64 yn1), (10, vi .u64 yn0), (11, vi .u64 u), (13, vi .u64 u1), (14, vi .u64 u0), (15, vi .u64 q), (16, vi .u64 r)] (tabO []) 135 ∧ Round u u1 yn1 yn0 q r ∧ r < 4294967296) _ ⟨_, ⟨_, _, rfl, rfl, hH.start⟩, W_keep2 _ _ ⟨rfl, rfl, rfl, rfl, rfl, rfl, rfl, rfl, rfl, trivial⟩ trivial rfl⟩ ?_
     rintro mm S ⟨q, r, rfl, rfl, ⟨hR, hr⟩⟩
     have hq0 : 0 ≤ q := by have := hR.ge; have := hH.lt; omega
     have hr0 := hR.r0
     have hq1 := hR.q1
     iterate 6 refine τ ?_
     refine EVo_case 69 rfl (fun hb4 => ?_) (fun hb4 => ?_)
     ·try simp only [zz] at hb4
      have hc : 4294967296 ≤ q ∨ 4294967296 * r + u1 < q * yn0 := .inl hb4
      have hT := hR.too hH hc
      have hTg := hT.ge
      have hTl := hH.lt
      have e3 : IntKind.u64.wrap (q - 1) = q - 1 := u64_in (by omega) (by omega)
      have e4 : IntKind.u64.wrap (r + yn1) = r + yn1 := u64_in (by omega) (by omega)
      iterate 10 refine τ ?_
      refine EV_cond rfl rfl rfl (fun _ => ?_) (fun h => by cases h)
      iterate 20 refine τ ?_
      refine EV_cond rfl rfl rfl (fun hb5 => ?_) (fun hb5 => ?_)
      ·try simp only [zz] at hb5
       have hx := hb5
       refine τ ?_
       refine ω ⟨_, ⟨_, rfl, ?_⟩, W_keep2 _ _ ⟨rfl, rfl, rfl, rfl, rfl, rfl, rfl, rfl, trivial⟩ trivial rfl⟩
       rw [e3]
       exact (hR.too hH hc).brk hH (by omega) (by rw [e4] at hx; omega)
      ·try simp only [zz] at hb5
       have hx := hb5
       refine τ ?_
       refine ⟨_, ?_, ω ⟨_, ⟨_, _, rfl, rfl, ?_⟩, W_keep2 _ _ ⟨rfl, rfl, rfl, rfl, rfl, rfl, rfl, rfl, rfl, trivial⟩ trivial rfl⟩⟩
       ·rw [e3]; omega
       ·rw [e3, e4]
        exact ⟨hR.too hH hc, by rw [e4] at hx; omega⟩
     ·try simp only [zz] at hb4
      iterate 10 refine τ ?_
      refine EV_cond rfl rfl rfl (fun hb6 => ?_) (fun hb6 => ?_)
      ·try simp only [zz] at hb6
       obtain ⟨e1, e2⟩ := d64_cmp (q := q) (yn0 := yn0) (r := r) (d := u1) hq0 (by omega) (by omega) (by omega) (by omega) (by omega) (by omega) (by omega)
       rw [e1, e2] at hb6
       have hc : 4294967296 ≤ q ∨ 4294967296 * r + u1 < q * yn0 := .inr hb6
       have hT := hR.too hH hc
       have hTg := hT.ge
       have hTl := hH.lt
       have e3 : IntKind.u64.wrap (q - 1) = q - 1 := u64_in (by omega) (by omega)
       have e4 : IntKind.u64.wrap (r + yn1) = r + yn1 := u64_in (by omega) (by omega)
       iterate 20 refine τ ?_
       refine EV_cond rfl rfl rfl (fun hb7 => ?_) (fun hb7 => ?_)
       ·try simp only [zz] at hb7
        have hx := hb7
        refine τ ?_
        refine ω ⟨_, ⟨_, rfl, ?_⟩, W_keep2 _ _ ⟨rfl, rfl, rfl, rfl, rfl, rfl, rfl, rfl, trivial⟩ trivial rfl⟩
        rw [e3]
        exact (hR.too hH hc).brk hH (by omega) (by rw [e4] at hx; omega)
       ·try simp only [zz] at hb7
        have hx := hb7
        refine τ ?_
        refine ⟨_, ?_, ω ⟨_, ⟨_, _, rfl, rfl, ?_⟩, W_keep2 _ _ ⟨rfl, rfl, rfl, rfl, rfl, rfl, rfl, rfl, rfl, trivial⟩ trivial rfl⟩⟩
        ·rw [e3]; omega
        ·rw [e3, e4]
         exact ⟨hR.too hH hc, by rw [e4] at hx; omega⟩
      ·try simp only [zz] at hb6
       obtain ⟨e1, e2⟩ := d64_cmp (q := q) (yn0 := yn0) (r := r) (d := u1) hq0 (by omega) (by omega) (by omega) (by omega) (by omega) (by omega) (by omega)
       rw [e1, e2] at hb6
       refine τ ?_
       refine ω ⟨_, ⟨_, rfl, ?_⟩, W_keep2 _ _ ⟨rfl, rfl, rfl, rfl, rfl, rfl, rfl, rfl, trivial⟩ trivial rfl⟩
       exact hR.fit hH (by omega)
    ·rintro S ⟨q, rfl, hq_q⟩
     iterate 13 refine τ ?_
     refine EV_cut (fun S => ∃ v : Int, S = St.of [(2, vi .u64 yy), (8, vi .u64 s), (9, vi .u64 yn1), (10, vi .u64 yn0), (14, vi .u64 u0), (15, vi .u64 q), (17, vi .u64 v)] (tabO []) 135 ∧ v = (u * 4294967296 + u1) % (yn1 * 4294967296 + yn0)) (ω ⟨_, ⟨_, rfl, ?_⟩, W_keep2 _ _ ⟨rfl, rfl, rfl, rfl, rfl, rfl, rfl, trivial⟩ trivial rfl⟩) ?_
     ·rw [hyy]; exact hH.un21 hq_q
     rintro S ⟨v, rfl, hv⟩
     have hrest := hH.rest
     have hH2 : Half v u0 yn1 yn0 := ⟨by omega, by omega, by omega, by omega, by omega, by omega, by omega, by omega⟩
     have k0 := hH2.u0
     have k1 := hH2.uy
     have k2 := hH2.d0
     have k3 := hH2.d1
     have k4 := hH2.a0
     have k5 := hH2.a1
     have k6 := hH2.b0
     have k7 := hH2.b1
     iterate 3 refine τ ?_
     refine EVo_t rfl (T_quoU rfl rfl (by omega) (by omega) (by omega)) ?_
     iterate 11 refine τ ?_
     refine EV_join (fun S => ∃ q2 : Int, S = St.of [(2, vi .u64 yy), (8, vi .u64 s), (14, vi .u64 u0), (15, vi .u64 q), (17, vi .u64 v), (18, vi .u64 q2)] (tabO []) 135 ∧ q2 = qt v u0 yn1 yn0) ?_ ?_
     ·
      refine τ ?_
      refine EV_wl (fun mm S => ∃ q2 : Int, ∃ r2 : Int, mm = q2.toNat ∧ S = St.of [(2, vi .u64 yy), (8, vi .u64 s), (9, vi .u64 yn1), (10, vi .u64 yn0), (14, vi .u64 u0), (15, vi .u64 q), (16, vi .u64 r2), (17, vi .u64 v), (18, vi .u64 q2)] (tabO []) 135 ∧ Round v u0 yn1 yn0 q2 r2 ∧ r2 < 4294967296) _ ⟨_, ⟨_, _, rfl, rfl, hH2.start⟩, W_keep2 _ _ ⟨rfl, rfl, rfl, rfl, rfl, rfl, rfl, rfl, rfl, trivial⟩ trivial rfl⟩ ?_
      rintro mm S ⟨q2, r2, rfl, rfl, ⟨hR, hr⟩⟩
      have hq0 : 0 ≤ q2 := by have := hR.ge; have := hH2.lt; omega
      have hr0 := hR.r0
      have hq1 := hR.q1
      iterate 6 refine τ ?_
      refine EVo_case 104 rfl (fun hb8 => ?_) (fun hb8 => ?_)
      ·try simp only [zz] at hb8
       have hc : 4294967296 ≤ q2 ∨ 4294967296 * r2 + u0 < q2 * yn0 := .inl hb8
       have hT := hR.too hH2 hc
       have hTg := hT.ge
       have hTl := hH2.lt
       have e3 : IntKind.u64.wrap (q2 - 1) = q2 - 1 := u64_in (by omega) (by omega)
       have e4 : IntKind.u64.wrap (r2 + yn1) = r2 + yn1 := u64_in (by omega) (by omega)
       iterate 10 refine τ ?_
       refine EV_cond rfl rfl rfl (fun _ => ?_) (fun h => by cases h)
       iterate 20 refine τ ?_
       refine EV_cond rfl rfl rfl (fun hb9 => ?_) (fun hb9 => ?_)
       ·try simp only [zz] at hb9
        have hx := hb9
        refine τ ?_
        refine ω ⟨_, ⟨_, rfl, ?_⟩, W_keep2 _ _ ⟨rfl, rfl, rfl, rfl, rfl, rfl, trivial⟩ trivial rfl⟩
        rw [e3]
        exact (hR.too hH2 hc).brk hH2 (by omega) (by rw [e4] at hx; omega)
       ·try simp only [zz] at hb9
        have hx := hb9
        refine τ ?_
        refine ⟨_, ?_, ω ⟨_, ⟨_, _, rfl, rfl, ?_⟩, W_keep2 _ _ ⟨rfl, rfl, rfl, rfl, rfl, rfl, rfl, rfl, rfl, trivial⟩ trivial rfl⟩⟩
        ·rw [e3]; omega
        ·rw [e3, e4]
         exact ⟨hR.too hH2 hc, by rw [e4] at hx; omega⟩
      ·try simp only [zz] at hb8
       iterate 10 refine τ ?_
       refine EV_cond rfl rfl rfl (fun hb10 => ?_) (fun hb10 => ?_)
       ·try simp only [zz] at hb10
        obtain ⟨e1, e2⟩ := d64_cmp (q := q2) (yn0 := yn0) (r := r2) (d := u0) hq0 (by omega) (by omega) (by omega) (by omega) (by omega) (by omega) (by omega)
        rw [e1, e2] at hb10
        have hc : 4294967296 ≤ q2 ∨ 4294967296 * r2 + u0 < q2 * yn0 := .inr hb10
        have hT := hR.too hH2 hc
        have hTg := hT.ge
        have hTl := hH2.lt
        have e3 : IntKind.u64.wrap (q2 - 1) = q2 - 1 := u64_in (by omega) (by omega)
        have e4 : IntKind.u64.wrap (r2 + yn1) = r2 + yn1 := u64_in (by omega) (by omega)
        iterate 20 refine τ ?_
        refine EV_cond rfl rfl rfl (fun hb11 => ?_) (fun hb11 => ?_)
        ·try simp only [zz] at hb11
         have hx := hb11
         refine τ ?_
         refine ω ⟨_, ⟨_, rfl, ?_⟩, W_keep2 _ _ ⟨rfl, rfl, rfl, rfl, rfl, rfl, trivial⟩ trivial rfl⟩
         rw [e3]
         exact (hR.too hH2 hc).brk hH2 (by omega) (by rw [e4] at hx; omega)
        ·try simp only [zz] at hb11
         have hx := hb11
         refine τ ?_
         refine ⟨_, ?_, ω ⟨_, ⟨_, _, rfl, rfl, ?_⟩, W_keep2 _ _ ⟨rfl, rfl, rfl, rfl, rfl, rfl, rfl, rfl, rfl, trivial⟩ trivial rfl⟩⟩
         ·rw [e3]; omega
         ·rw [e3, e4]
          exact ⟨hR.too hH2 hc, by rw [e4] at hx; omega⟩
       ·try simp only [zz] at hb10
        obtain ⟨e1, e2⟩ := d64_cmp (q := q2) (yn0 := yn0) (r := r2) (d := u0) hq0 (by omega) (by omega) (by omega) (by omega) (by omega) (by omega) (by omega)
        rw [e1, e2] at hb10
        refine τ ?_
        refine ω ⟨_, ⟨_, rfl, ?_⟩, W_keep2 _ _ ⟨rfl, rfl, rfl, rfl, rfl, rfl, trivial⟩ trivial rfl⟩
        exact hR.fit hH2 (by omega)
     ·rintro S ⟨q2, rfl, hq_q2⟩
      iterate 15 refine τ ?_
      refine EVo_t rfl (T_shr rfl rfl (by omega)) ?_
      iterate 4 refine τ ?_
      have hl1 := hH.lt
      have hl2 := hH2.lt
      have hrest2 := hH2.rest
      have hy1 : yn1 * 4294967296 + yn0 = y * 2 ^ s.toNat := by omega
      have hend := div64_end (hi := hi) (lo := lo) (y := y) (p := 2 ^ s.toNat) (q1 := q) (q0 := q2) (u := u) (r1 := v) (r0 := (v * 4294967296 + u0) % (yn1 * 4294967296 + yn0)) (u1 := u1) (u0 := u0) hpp (by omega) hN (by rw [← hy1, hq_q, hv]; exact hrest.1) (by rw [← hy1, hq_q2]; exact hrest2.1) hrest2.2.1 (by rw [← hy1]; exact hrest2.2.2)
      refine ⟨_, _, ⟨rfl, rfl⟩, ⟨rfl, rfl⟩, fit_eq rfl nofun ?_, fit_eq rfl nofun ?_⟩
      ·rw [← hend.1]; refine congrArg iu ?_; simp only [u64_wrap]; omega
      ·rw [hyy, hH2.un21 hq_q2, ← hend.2]; simp only [show IntKind.u64.bits = 64 from rfl]; rw [Nat.min_eq_left (by omega)]

theorem nat_divWord (l : List Int) (b : Int) (hl : l.length ≤ 17592186044416) (hk : okL l) (hb0 : 0 < b) (hb1 : b < 18446744073709551616) : Fn Tryz.prog 184 [.d (encN l), .d (iu b)] false (.tup [.d (encN (limbs (val l / b.toNat))), .d (iu ((val l % b.toNat : Nat) : Int))]) := by
 refine Fn_of_EV Tryz.func184 rfl (by kernel_rfl) rfl rfl (fun E hE => ?_)
 iterate 9 refine τ ?_
 refine EVo_e rfl (D_makeL 1 (hE 1 rfl) Free_no (uOk rfl) ap58 rfl (by omega) (by omega) (by omega)) ?_
 iterate 15 refine τ ?_
 refine EV_wl (fun mm S => ∃ i : Int, ∃ rest : Int, ∃ c : List Int, mm = (i + 1).toNat ∧ S = St.of [(0, V.c (.d false (encN l))), (1, vi .u64 b), (6, V.c (.msl 1 0 ((l.length : Int)).toNat ((l.length : Int)).toNat)), (7, vi .u64 rest), (8, vi .i64 i)] (tabO [(1, .box (List.map (ci .u64) c))]) 35 ∧ -1 ≤ i ∧ i < l.length ∧ (0 ≤ rest ∧ rest < b) ∧ c.length = l.length ∧ okL c ∧ (val (l.drop (i + 1).toNat) : Int) = b * (val (c.drop (i + 1).toNat) : Int) + rest) _ ⟨_, ⟨_, _, _, rfl, rfl, ⟨by omega, by omega, by omega, by simp, okL_rep _, by rw [List.drop_of_length_le (by omega), List.drop_of_length_le (by simp)]; simp [val]⟩⟩, W_keep2 _ _ ⟨rfl, rfl, rfl, rfl, rfl, trivial⟩ ⟨rfl, trivial⟩ rfl⟩ ?_
 rintro mm S ⟨i, rest, c, rfl, rfl, ⟨h0, h1, h2, h3, h4, h5⟩⟩
 iterate 6 refine τ ?_
 refine EV_cond rfl rfl rfl (fun hb1 => ?_) (fun hb1 => ?_)
 ·try simp only [zz] at hb1
  have hx := okL_rd hk i
  have ei : (i.toNat : Int) = i := by omega
  have hd := div_bd h2.1 h2.2 hx.1 hx.2
  iterate 12 refine τ ?_
  refine EVo_e rfl (D_call false (bits_Div64 _ _ _ (by omega) (by omega) (by omega) (by omega) (by omega)) rfl (φd rfl (φd rfl (φd rfl φn)))) ?_
  iterate 4 refine τ ?_
  refine EVo_e rfl (D_storeL rfl Free_no rfl rfl (zOk rfl) (by omega)) ?_
  iterate 7 refine τ ?_
  refine ⟨_, ?_, ω ⟨_, ⟨_, _, _, rfl, rfl, ?_⟩, W_keep2 _ _ ⟨rfl, rfl, rfl, rfl, rfl, trivial⟩ ⟨rfl, trivial⟩ rfl⟩⟩
  ·omega
  ·have e1 : (i - 1 + 1).toNat = i.toNat := by omega
   have e2 : (i + 1).toNat = i.toNat + 1 := by omega
   have e0 : 0 + i.toNat * 1 = i.toNat := by omega
   refine ⟨by omega, by omega, ⟨hd.2.2.1, hd.2.2.2.1⟩, by simpa using h3, okL_set h4 _ ⟨hd.1, hd.2.1⟩, ?_⟩
   rw [e1, e0]
   refine dw_step (by omega) h3 hk hd.1 (by rw [← e2]; exact h5) ?_
   rw [ei]; exact hd.2.2.2.2
 ·try simp only [zz] at hb1
  iterate 4 refine τ ?_
  refine EVo_weak (W_freezeL 32 1 _ _ _ (hE 1 rfl) rfl rfl rfl (by omega) (by omega)) ?_
  refine EVo_e rfl (D_call false (nat_trim _ (by simp; omega) (okL_take (okL_drop h4 _) _)) rfl (φd rfl φn)) ?_
  iterate 5 refine τ ?_
  have e2 : (i + 1).toNat = 0 := by omega
  rw [e2, List.drop_zero, List.drop_zero] at h5
  have hend := dw_end h5 h2.1 h2.2
  refine ⟨_, _, ⟨rfl, rfl⟩, ⟨rfl, rfl⟩, fit_eq rfl nofun ?_, fit_eq rfl nofun ?_⟩
  ·rw [List.drop_zero, List.take_of_length_le (by omega), hend.1]
  ·rw [← hend.2]

theorem nat_left63X (l : List Int) (n : Int) (hl : l.length ≤ 17592186044416) (hk : okL l) (hn0 : 0 ≤ n) (hn1 : n ≤ 63) : Fn Tryz.prog 186 [.d (encN l), .d (ii n)] false (.one (.dx ((limbs (val l * 2 ^ n.toNat)).map fun x => [iu x]))) := by
 refine Fn_of_EV Tryz.func186 rfl (by kernel_rfl) rfl rfl (fun E hE => ?_)
 iterate 11 refine τ ?_
 refine EV_cond rfl rfl rfl (fun hb1 => ?_) (fun hb1 => ?_)
 ·try simp only [zz] at hb1
  iterate 5 refine τ ?_
  refine ⟨_, ⟨rfl, rfl⟩, fit_dx0 ?_⟩
  ·have e : l = [] := List.eq_nil_of_length_eq_zero (by omega)
   subst e; simp [val, limbs_zero]
 ·try simp only [zz] at hb1
  iterate 6 refine τ ?_
  refine EVo_t rfl (T_quoN rfl rfl (by omega) (by decide) (by omega)) ?_
  iterate 2 refine τ ?_
  refine EVo_e rfl (D_makeL 1 (hE 1 rfl) Free_no (uOk rfl) ap58 rfl (by omega) (by omega) (by omega)) ?_
  iterate 10 refine τ ?_
  have hL : ((l.length : Int) + n / 64 + 1).toNat = l.length + 1 := by omega
  refine EV_wl (fun mm S => ∃ i : Int, ∃ c : List Int, mm = ((l.length : Int) - i).toNat ∧ S = St.of [(0, V.c (.d false (encN l))), (1, vi .i64 n), (5, V.c (.msl 1 0 (l.length + 1) (l.length + 1))), (18, V.c (.d false (encN l))), (19, vi .i64 l.length), (20, vi .i64 i)] (tabO [(1, .box (List.map (ci .u64) c))]) 53 ∧ 0 ≤ i ∧ i ≤ l.length ∧ c.length = l.length + 1 ∧ okL c ∧ (∀ j : Nat, i + 1 ≤ j → j < c.length → rd c j = 0) ∧ (rd c i).toNat < 2 ^ n.toNat ∧ val (c.take (i.toNat + 1)) = val (l.take i.toNat) * 2 ^ n.toNat) _ ⟨_, ⟨_, _, rfl, rfl, ⟨by omega, by omega, by simp; omega, okL_rep _, fun j _ _ => rd_rep _ _, (show (rd (List.replicate _ (0 : Int)) ((0 : Nat) : Int)).toNat < _ from by rw [rd_rep]; exact Nat.pow_pos (by decide)), by simp [List.take_replicate, val_rep, val]⟩⟩, W_keep2 _ _ ⟨rfl, rfl, (by show V.c (.msl 1 0 ((l.length : Int) + n / 64 + 1).toNat ((l.length : Int) + n / 64 + 1).toNat) = _; rw [hL]), rfl, rfl, rfl, trivial⟩ ⟨rfl, trivial⟩ rfl⟩ ?_
  rintro mm S ⟨i, c, rfl, rfl, ⟨h0, h1, h2, h3, h4, hcar, h5⟩⟩
  iterate 5 refine τ ?_
  refine EV_cond rfl rfl rfl (fun hb2 => ?_) (fun hb2 => ?_)
  ·try simp only [zz] at hb2
   iterate 12 refine τ ?_
   refine EV_draw (inX []) (.st 0 (.st 1 (.st 2 (.st 3 (.st 4 (.st 5 (.st 7 (.st 8 (.st 9 (.st 10 (.one 6 (.st 11 (.st 12 (.one 13 .done)))))))))))))) Tryz.mixed (by kernel_rfl) ?_
   refine EVq_t rfl rfl (T_move rfl) ?_
   refine EVq_t rfl rfl (T_move rfl) ?_
   refine EVq_t rfl rfl (T_move rfl) ?_
   refine EVq_t rfl rfl (T_quoN rfl rfl (by omega) (by decide) (by omega)) ?_
   refine EVq_t rfl rfl (T_binI rfl rfl rfl (by omega) (by omega)) ?_
   refine EVq_t rfl rfl (T_indexAddrM (uOk rfl) (zOk rfl) rfl rfl (by omega) (by omega)) ?_
   refine EVq_t rfl rfl (T_move rfl) ?_
   refine EVq_t rfl rfl (T_move rfl) ?_
   refine EVq_t rfl rfl (T_remN rfl rfl (by omega) (by decide) (by omega)) ?_
   refine EVq_t rfl rfl (T_shl rfl rfl (by omega)) ?_
   refine EVq_e rfl rfl ((T_loadL (gOk rfl) rfl rfl (by omega) rfl rfl).now) ?_
   refine EVq_t rfl rfl (T_bin rfl rfl rfl) ?_
   refine EVq_t rfl rfl (T_indexAddrM (uOk rfl) (zOk rfl) rfl rfl (by omega) (by omega)) ?_
   refine EVq_e rfl rfl (D_storeL rfl (Free_in rfl) rfl rfl (zOk rfl) (by omega)) ?_
   refine EVq_done ?_
   iterate 4 refine τ ?_
   refine EVo_t rfl (T_quoN rfl rfl (by omega) (by decide) (by omega)) ?_
   iterate 4 refine τ ?_
   refine EVo_t rfl (T_remN rfl rfl (by omega) (by decide) (by omega)) ?_
   refine τ ?_
   refine EVo_t rfl (T_shr rfl rfl (by omega)) ?_
   refine τ ?_
   refine EVo_e rfl (D_storeL rfl Free_no rfl rfl (zOk rfl) (by simp; omega)) ?_
   iterate 5 refine τ ?_
   have en : n % 64 = n := by omega
   have ed : n / 64 = 0 := by omega
   have e0 : 0 + (i + 0).toNat * 1 = i.toNat := by omega
   have e1 : 0 + (i + 0 + 1).toNat * 1 = i.toNat + 1 := by omega
   have e2 : (i + 1).toNat = i.toNat + 1 := by omega
   have hx := okL_rd hk i
   have ei : (i.toNat : Int) = i := by omega
   obtain ⟨lo, hi, p1, p2, p3, p4, p5, p6⟩ := shl_parts hx.1 hx.2 hn0 hn1
   have hca := okL_rd h3 i
   obtain ⟨a, ha⟩ := Int.eq_ofNat_of_zero_le hca.1
   have hq := p6 a (by rw [ha] at hcar; simpa using hcar)
   have hci : c.getD i.toNat default = (a : Int) := ha
   have hpw : 2 ^ n.toNat ≤ 2 ^ 64 := Nat.pow_le_pow_right (by decide) (show n.toNat ≤ 64 by omega)
   simp only [en, ed, e0, e1, show IntKind.u64.bits = 64 from rfl, p1, p2, hci, hq.1]
   refine ⟨_, ?_, ω ⟨_, ⟨_, _, rfl, rfl, ?_⟩, W_keep2 _ _ ⟨rfl, rfl, rfl, rfl, rfl, rfl, trivial⟩ ⟨rfl, trivial⟩ rfl⟩⟩
   ·omega
   ·refine ⟨by omega, by omega, by simpa using h2, okL_set (okL_set h3 _ (by omega)) _ (by omega), fun j q1 q2 => ?_, ?_, ?_⟩
    ·rw [rd_set_ne (by omega), rd_set_ne (by omega)]; exact h4 j (by omega) (by simpa using q2)
    ·rw [show i + 1 = ((i.toNat + 1 : Nat) : Int) by omega, rd_set_self (by simp; omega)]; simpa using p3
    rw [e2]; exact left_step (by omega) hk h3 h5 (by rw [ei]; exact ha) (by rw [ei]; exact p5)
  ·try simp only [zz] at hb2
   iterate 4 refine τ ?_
   refine EVo_weak (W_freezeL 51 1 _ _ _ (hE 1 rfl) rfl rfl rfl (by omega) (by omega)) ?_
   refine EVo_e rfl (D_call false (nat_trimX _ (by simp; omega) (okL_take (okL_drop h3 _) _)) rfl (φd rfl φn)) ?_
   iterate 3 refine τ ?_
   refine ⟨_, ⟨rfl, rfl⟩, fit_dx nofun ?_⟩
   ·have e2 : i.toNat = l.length := by omega
    rw [e2, List.take_of_length_le (Nat.le_refl l.length), List.take_of_length_le (by omega)] at h5
    rw [List.drop_zero, List.take_of_length_le (by omega), h5]

theorem nat_left63 (l : List Int) (n : Int) (hl : l.length ≤ 17592186044416) (hk : okL l) (hn0 : 0 ≤ n) (hn1 : n ≤ 63) : Fn Tryz.prog 186 [.d (encN l), .d (ii n)] false (.one (.d (encN (limbs (val l * 2 ^ n.toNat))))) := (nat_left63X l n hl hk hn0 hn1).loseX

theorem nat_right63 (l : List Int) (n : Int) (hl : l.length ≤ 17592186044416) (hk : okL l) (hn0 : 0 ≤ n) (hn1 : n ≤ 63) : Fn Tryz.prog 189 [.d (encN l), .d (ii n)] false (.one (.d (encN (limbs (val l / 2 ^ n.toNat))))) := by
 refine Fn_of_EV Tryz.func189 rfl (by kernel_rfl) rfl rfl (fun E hE => ?_)
 iterate 8 refine τ ?_
 refine EVo_t rfl (T_quoN rfl rfl (by omega) (by decide) (by omega)) ?_
 iterate 4 refine τ ?_
 refine EV_cond rfl rfl rfl (fun hb1 => ?_) (fun hb1 => ?_)
 ·try simp only [zz] at hb1
  iterate 5 refine τ ?_
  refine ⟨_, ⟨rfl, rfl⟩, fit_eq rfl nofun ?_⟩
  ·have e : val l / 2 ^ n.toNat = 0 := by
    have e : l = [] := List.eq_nil_of_length_eq_zero (by omega)
    subst e; simp [val]
   rw [e]; rfl
 ·try simp only [zz] at hb1
  iterate 5 refine τ ?_
  refine EVo_t rfl (T_quoN rfl rfl (by omega) (by decide) (by omega)) ?_
  refine EVo_t rfl (T_slL (m := 0) (uOk rfl) (zOk rfl) rfl (fun _ => rfl) rfl rfl (.inl rfl) (by omega) (by omega) (by omega)) ?_
  refine EVo_e rfl (D_callM 1 (hE 1 rfl) Free_no (nat_cloneM _ (by simp; omega)) rfl (φd rfl φn)) ?_
  iterate 10 refine τ ?_
  have hLx : (List.take ((l.length : Int).toNat - (n / 64).toNat) (List.drop (n / 64).toNat l)) = l := by rw [show (n / 64).toNat = 0 by omega]; simp
  refine EV_wl (fun mm S => ∃ i : Int, ∃ c : List Int, mm = ((l.length : Int) - i).toNat ∧ S = St.of [(1, vi .i64 n), (5, V.c (.msl 1 0 l.length l.length)), (18, vi .i64 l.length), (19, vi .i64 i)] (tabO [(1, .box (List.map (ci .u64) c))]) 53 ∧ 0 ≤ i ∧ i ≤ l.length ∧ c.length = l.length ∧ okL c ∧ c.drop i.toNat = l.drop i.toNat ∧ val (c.take i.toNat) = val l / 2 ^ n.toNat % 18446744073709551616 ^ i.toNat) _ ⟨_, ⟨0, l, rfl, rfl, ⟨by omega, by omega, rfl, hk, rfl, by simp [val, Nat.mod_one]⟩⟩, W_keep2 _ _ ⟨rfl, (by show V.c (.msl 1 0 (List.take ((l.length : Int).toNat - (n / 64).toNat) (List.drop (n / 64).toNat l)).length (List.take ((l.length : Int).toNat - (n / 64).toNat) (List.drop (n / 64).toNat l)).length) = _; rw [hLx]), (by show vi .i64 ((List.take ((l.length : Int).toNat - (n / 64).toNat) (List.drop (n / 64).toNat l)).length : Int) = _; rw [hLx]), rfl, trivial⟩ ⟨(by show some (O.box (List.map (ci .u64) (List.take ((l.length : Int).toNat - (n / 64).toNat) (List.drop (n / 64).toNat l)))) = _; rw [hLx]), trivial⟩ rfl⟩ ?_
  rintro mm S ⟨i, c, rfl, rfl, ⟨h0, h1, h2, h3, h4, h5⟩⟩
  iterate 5 refine τ ?_
  refine EV_cond rfl rfl rfl (fun hb2 => ?_) (fun hb2 => ?_)
  ·try simp only [zz] at hb2
   iterate 13 refine τ ?_
   refine EVo_t rfl (T_loadL (gOk rfl) rfl rfl (by omega) rfl rfl) ?_
   refine τ ?_
   refine EVo_t rfl (T_remN rfl rfl (by omega) (by decide) (by omega)) ?_
   refine EVo_t rfl (T_shr rfl rfl (by omega)) ?_
   refine τ ?_
   refine EVo_e rfl (D_storeL rfl Free_no rfl rfl (zOk rfl) (by omega)) ?_
   iterate 9 refine τ ?_
   refine EV_cond rfl rfl rfl (fun hb3 => ?_) (fun hb3 => ?_)
   ·try simp only [zz] at hb3
    refine EV_draw (inX []) (.st 0 (.st 1 (.st 2 (.st 4 (.st 5 (.st 6 (.st 7 (.st 9 (.st 10 (.st 11 (.two 3 (.one 8 (.st 12 (.st 13 (.st 14 (.one 15 .done))))) 8 (.st 12 (.one 3 (.st 13 (.st 14 (.one 15 .done)))))))))))))))) Tryz.mixed (by kernel_rfl) ?_
    refine EVq_t rfl rfl (T_move rfl) ?_
    refine EVq_t rfl rfl (T_move rfl) ?_
    refine EVq_t rfl rfl (T_indexAddrM (uOk rfl) (zOk rfl) rfl rfl (by omega) (by omega)) ?_
    refine EVq_t rfl rfl (T_move rfl) ?_
    refine EVq_t rfl rfl (T_move rfl) ?_
    refine EVq_t rfl rfl (T_binI rfl rfl rfl (by omega) (by omega)) ?_
    refine EVq_t rfl rfl (T_indexAddrM (uOk rfl) (zOk rfl) rfl rfl (by omega) (by omega)) ?_
    refine EVq_t rfl rfl (T_move rfl) ?_
    refine EVq_t rfl rfl (T_remN rfl rfl (by omega) (by decide) (by omega)) ?_
    refine EVq_t rfl rfl (T_binI rfl rfl rfl (by omega) (by omega)) ?_
    refine EVq_two rfl rfl ((T_loadL (gOk rfl) rfl rfl (by simp; omega) rfl rfl).now) rfl rfl ((T_loadL (gOk rfl) rfl rfl (by simp; omega) rfl rfl).now) ?_ ?_
    ·
     refine EVq_e rfl rfl ((T_loadL (gOk rfl) rfl rfl (by simp; omega) rfl rfl).now) ?_
     refine EVq_t rfl rfl (T_shl rfl rfl (by omega)) ?_
     refine EVq_t rfl rfl (T_bin rfl rfl rfl) ?_
     refine EVq_t rfl rfl (T_indexAddrM (uOk rfl) (zOk rfl) rfl rfl (by omega) (by omega)) ?_
     refine EVq_e rfl rfl (D_storeL rfl (Free_in rfl) rfl rfl (zOk rfl) (by simp; omega)) ?_
     refine EVq_done ?_
     iterate 4 refine τ ?_
     have en : n % 64 = n := by omega
     have ed : n / 64 = 0 := by omega
     have e0 : 0 + i.toNat * 1 = i.toNat := by omega
     have e1 : 0 + (i + 1).toNat * 1 = i.toNat + 1 := by omega
     have e2 : (i + 1).toNat = i.toNat + 1 := by omega
     have e3 : (i.toNat + 1) = i.toNat + 1 := rfl
     have hx := okL_rd hk i
     have hy := okL_rd hk (i + 1)
     have ei : (i.toNat : Int) = i := by omega
     obtain ⟨lo, hi, p1, p2, p3, p4, p5, p6, p7⟩ := shr_parts hx.1 hx.2 hy.1 hy.2 hn0 hn1
     have hci : c.getD i.toNat default = rd l i := by have := getD_drop h4; rwa [ei] at this
     have hgd : (c.set i.toNat (lo : Int)).getD (i.toNat + 1) default = rd l (i + 1) := by
      rw [show i + 1 = ((i.toNat + 1 : Nat) : Int) by omega]
      exact getD_drop (set_drop h4)
     have hgs : (c.set i.toNat (lo : Int)).getD i.toNat default = (lo : Int) := rd_set_self (by omega)
     simp only [en, ed, e0, e1, e3, show IntKind.u64.bits = 64 from rfl, hci, p1]
     refine ⟨_, ?_, ω ⟨_, ⟨_, _, rfl, rfl, ?_⟩, W_keep2 _ _ ⟨rfl, rfl, rfl, rfl, trivial⟩ ⟨rfl, trivial⟩ rfl⟩⟩
     ·omega
     ·rw [hgs, hgd, p2, p4, List.set_set]
      refine ⟨by omega, by omega, by simpa using h2, okL_set h3 _ (by omega), ?_, ?_⟩
      ·rw [e2]; exact set_drop h4
      rw [e2]
      refine right_step (by omega) (by omega) hk h5 ?_
      rw [drop_rd (by omega), drop_rd (n := i.toNat + 1) (by omega)]
      simp only [val]
      rw [ei, show ((i.toNat + 1 : Nat) : Int) = i + 1 by omega]
      exact p6 _
    ·
     refine EVq_t rfl rfl (T_shl rfl rfl (by omega)) ?_
     refine EVq_e rfl rfl ((T_loadL (gOk rfl) rfl rfl (by simp; omega) rfl rfl).now) ?_
     refine EVq_t rfl rfl (T_bin rfl rfl rfl) ?_
     refine EVq_t rfl rfl (T_indexAddrM (uOk rfl) (zOk rfl) rfl rfl (by omega) (by omega)) ?_
     refine EVq_e rfl rfl (D_storeL rfl (Free_in rfl) rfl rfl (zOk rfl) (by simp; omega)) ?_
     refine EVq_done ?_
     iterate 4 refine τ ?_
     have en : n % 64 = n := by omega
     have ed : n / 64 = 0 := by omega
     have e0 : 0 + i.toNat * 1 = i.toNat := by omega
     have e1 : 0 + (i + 1).toNat * 1 = i.toNat + 1 := by omega
     have e2 : (i + 1).toNat = i.toNat + 1 := by omega
     have e3 : (i.toNat + 1) = i.toNat + 1 := rfl
     have hx := okL_rd hk i
     have hy := okL_rd hk (i + 1)
     have ei : (i.toNat : Int) = i := by omega
     obtain ⟨lo, hi, p1, p2, p3, p4, p5, p6, p7⟩ := shr_parts hx.1 hx.2 hy.1 hy.2 hn0 hn1
     have hci : c.getD i.toNat default = rd l i := by have := getD_drop h4; rwa [ei] at this
     have hgd : (c.set i.toNat (lo : Int)).getD (i.toNat + 1) default = rd l (i + 1) := by
      rw [show i + 1 = ((i.toNat + 1 : Nat) : Int) by omega]
      exact getD_drop (set_drop h4)
     have hgs : (c.set i.toNat (lo : Int)).getD i.toNat default = (lo : Int) := rd_set_self (by omega)
     simp only [en, ed, e0, e1, e3, show IntKind.u64.bits = 64 from rfl, hci, p1]
     refine ⟨_, ?_, ω ⟨_, ⟨_, _, rfl, rfl, ?_⟩, W_keep2 _ _ ⟨rfl, rfl, rfl, rfl, trivial⟩ ⟨rfl, trivial⟩ rfl⟩⟩
     ·omega
     ·rw [hgs, hgd, p2, p4, List.set_set]
      refine ⟨by omega, by omega, by simpa using h2, okL_set h3 _ (by omega), ?_, ?_⟩
      ·rw [e2]; exact set_drop h4
      rw [e2]
      refine right_step (by omega) (by omega) hk h5 ?_
      rw [drop_rd (by omega), drop_rd (n := i.toNat + 1) (by omega)]
      simp only [val]
      rw [ei, show ((i.toNat + 1 : Nat) : Int) = i + 1 by omega]
      exact p6 _
   ·try simp only [zz] at hb3
    iterate 5 refine τ ?_
    have en : n % 64 = n := by omega
    have ed : n / 64 = 0 := by omega
    have e0 : 0 + i.toNat * 1 = i.toNat := by omega
    have e1 : 0 + (i + 1).toNat * 1 = i.toNat + 1 := by omega
    have e2 : (i + 1).toNat = i.toNat + 1 := by omega
    have e3 : (i.toNat + 1) = i.toNat + 1 := rfl
    have hx := okL_rd hk i
    have hy := okL_rd hk (i + 1)
    have ei : (i.toNat : Int) = i := by omega
    obtain ⟨lo, hi, p1, p2, p3, p4, p5, p6, p7⟩ := shr_parts hx.1 hx.2 hy.1 hy.2 hn0 hn1
    have hci : c.getD i.toNat default = rd l i := by have := getD_drop h4; rwa [ei] at this
    simp only [en, ed, e0, e1, show IntKind.u64.bits = 64 from rfl, hci, p1]
    refine ⟨_, ?_, ω ⟨_, ⟨_, _, rfl, rfl, ?_⟩, W_keep2 _ _ ⟨rfl, rfl, rfl, rfl, trivial⟩ ⟨rfl, trivial⟩ rfl⟩⟩
    ·omega
    ·refine ⟨by omega, by omega, by simpa using h2, okL_set h3 _ (by omega), ?_, ?_⟩
     ·rw [e2]; exact set_drop h4
     rw [e2]
     refine right_step (by omega) (by omega) hk h5 ?_
     rw [drop_rd (by omega), List.drop_of_length_le (by omega)]
     simp only [val]
     rw [ei]
     simpa using p7
  ·try simp only [zz] at hb2
   iterate 4 refine τ ?_
   refine EVo_weak (W_freezeL 51 1 _ _ _ (hE 1 rfl) rfl rfl rfl (by omega) (by omega)) ?_
   refine EVo_e rfl (D_call false (nat_trim _ (by simp; omega) (okL_take (okL_drop h3 _) _)) rfl (φd rfl φn)) ?_
   iterate 3 refine τ ?_
   refine ⟨_, ⟨rfl, rfl⟩, fit_eq rfl nofun ?_⟩
   ·have e2 : i.toNat = l.length := by omega
    have hv := val_lt hk
    rw [e2, List.take_of_length_le (by omega), Nat.mod_eq_of_lt (Nat.lt_of_le_of_lt (Nat.div_le_self _ _) hv)] at h5
    rw [List.drop_zero, List.take_of_length_le (by omega), h5]

end Go.Proofs.YthaiegnohkiegaaGreat.Ab
/-
 Contracts of the functions of package whole.
-/
namespace Go.Proofs.YthaiegnohkiegaaGreat.Ab
set_option linter.unusedVariables false
set_option linter.unusedSimpArgs false
set_option maxRecDepth 20000
set_option maxHeartbeats 4000000
attribute [local irreducible] Tells Does EVo EV EVq EVr TellsC


theorem whole_good (neg : Bool) (l : List Int) (hl : l.length ≤ 17592186044416) : Fn Tryz.prog 96 [.agg [ib neg, encN l]] false (.one (.d (ib (goodZ neg l)))) := by
 refine Fn_of_EV Tryz.func96 rfl (by kernel_rfl) rfl rfl (fun E hE => ?_)
 iterate 2 refine τ ?_
 refine EVo_e rfl (D_box 1 (hE 1 rfl) Free_no rfl) ?_
 iterate 6 refine τ ?_
 refine EVo_e rfl (D_call false (nat_check _ (by omega)) rfl (φd rfl φn)) ?_
 iterate 2 refine τ ?_
 refine EVo_case 7 rfl (fun hb1 => ?_) (fun hb1 => ?_)
 ·try simp only [zz] at hb1
  iterate 4 refine τ ?_
  refine EVo_case 11 rfl (fun hb2 => ?_) (fun hb2 => ?_)
  ·try simp only [zz] at hb2
   iterate 9 refine τ ?_
   refine ⟨_, ⟨rfl, rfl⟩, fit_eq rfl nofun ?_⟩
   ·rcases hg : goodL l <;> cases neg <;> simp_all [goodZ]
  ·try simp only [zz] at hb2
   iterate 9 refine τ ?_
   refine ⟨_, ⟨rfl, rfl⟩, fit_eq rfl nofun ?_⟩
   ·rcases hg : goodL l <;> cases neg <;> simp_all [goodZ]
 ·try simp only [zz] at hb1
  iterate 13 refine τ ?_
  refine ⟨_, ⟨rfl, rfl⟩, fit_eq rfl nofun ?_⟩
  ·rcases hg : goodL l <;> cases neg <;> simp_all [goodZ]

theorem whole_of (neg : Bool) (l : List Int) (hl : l.length ≤ 17592186044416) : Fn Tryz.prog 217 [.d (ib neg), .d (encN l)] false (.one (.agg [ib (neg && decide (0 < l.length)), encN l])) := by
 refine Fn_of_EV Tryz.func217 rfl (by kernel_rfl) rfl rfl (fun E hE => ?_)
 iterate 2 refine τ ?_
 refine EVo_e rfl (D_alloc 1 (hE 1 rfl) Free_no zr196 rfl) ?_
 iterate 5 refine τ ?_
 refine EVo_case 6 rfl (fun hb1 => ?_) (fun hb1 => ?_)
 ·try simp only [zz] at hb1
  iterate 5 refine τ ?_
  refine EVo_t rfl (T_build ly196 rfl rfl) ?_
  iterate 3 refine τ ?_
  refine ⟨_, ⟨rfl, _, _, _, rfl, rfl, rfl, .inl ⟨_, gOk rfl, zOk rfl, Nat.le_of_ble_eq_true rfl, rfl⟩⟩, fit_agg rfl nofun ?_⟩
  ·simp_all
 ·try simp only [zz] at hb1
  iterate 5 refine τ ?_
  refine EVo_t rfl (T_build ly196 rfl rfl) ?_
  iterate 3 refine τ ?_
  refine ⟨_, ⟨rfl, _, _, _, rfl, rfl, rfl, .inl ⟨_, gOk rfl, zOk rfl, Nat.le_of_ble_eq_true rfl, rfl⟩⟩, fit_agg rfl nofun ?_⟩
  ·simp_all

theorem whole_Sign (neg : Bool) (l : List Int) (hl : l.length ≤ 17592186044416) : Fn Tryz.prog 95 [.agg [ib neg, encN l]] false (.one (.d (ii (if goodZ neg l && decide (0 < l.length) then (if neg then -1 else 1) else 0)))) := by
 refine Fn_of_EV Tryz.func95 rfl (by kernel_rfl) rfl rfl (fun E hE => ?_)
 iterate 2 refine τ ?_
 refine EVo_e rfl (D_box 1 (hE 1 rfl) Free_no rfl) ?_
 iterate 7 refine τ ?_
 refine EVo_e rfl (D_call false (whole_good _ _ (by omega)) rfl (φa rfl φn)) ?_
 iterate 2 refine τ ?_
 refine EVo_case 7 rfl (fun hb1 => ?_) (fun hb1 => ?_)
 ·try simp only [zz] at hb1
  iterate 7 refine τ ?_
  refine EV_cond rfl rfl rfl (fun _ => ?_) (fun h => by cases h)
  iterate 5 refine τ ?_
  refine ⟨_, ⟨rfl, rfl⟩, fit_eq rfl nofun ?_⟩
  ·simp_all
 ·try simp only [zz] at hb1
  iterate 7 refine τ ?_
  refine EV_cond rfl rfl rfl (fun hb2 => ?_) (fun hb2 => ?_)
  ·try simp only [zz] at hb2
   iterate 5 refine τ ?_
   refine ⟨_, ⟨rfl, rfl⟩, fit_eq rfl nofun ?_⟩
   ·simp_all
  ·try simp only [zz] at hb2
   iterate 6 refine τ ?_
   refine EV_cond rfl rfl rfl (fun hb3 => ?_) (fun hb3 => ?_)
   ·try simp only [zz] at hb3
    iterate 5 refine τ ?_
    refine ⟨_, ⟨rfl, rfl⟩, fit_eq rfl nofun ?_⟩
    ·simp_all
   ·try simp only [zz] at hb3
    iterate 6 refine τ ?_
    refine ⟨_, ⟨rfl, rfl⟩, fit_eq rfl nofun ?_⟩
    ·simp_all

end Go.Proofs.YthaiegnohkiegaaGreat.Ab
/-
  Whole numbers and their form; contracts of package nat at numbers.
-/
namespace Go.Proofs.YthaiegnohkiegaaGreat.Ab
set_option linter.unusedVariables false
set_option linter.unusedSimpArgs false

/-- A whole number's form. -/
def encZ (z : Int) : List D := [ib (decide (z < 0)), encN (limbs z.natAbs)]
def zval (neg : Bool) (l : List Int) : Int := if neg then -(val l : Int) else val l
theorem limbs_len_pos (n : Nat) : 0 < (limbs n).length ↔ n ≠ 0 := by
  constructor
  · intro h e; subst e; simp [limbs_zero] at h
  · intro h; rw [limbs_pos h]; simp
theorem enc_of (neg : Bool) (n : Nat) : [ib (neg && decide (0 < (limbs n).length)), encN (limbs n)] = encZ (if neg then -(n : Int) else n) := by
  unfold encZ
  have e1 : (if neg = true then -(n : Int) else (n : Int)).natAbs = n := by cases neg <;> simp
  rw [e1]
  congr 2
  have : decide (0 < (limbs n).length) = decide (n ≠ 0) := by rw [decide_eq_decide]; exact limbs_len_pos n
  rw [this]
  cases neg
  · simp
  · by_cases h : n = 0
    · subst h; simp
    · simp [h]; omega
theorem enc_good {neg : Bool} {l : List Int} (hk : okL l) (hg : goodZ neg l = true) : [ib neg, encN l] = encZ (zval neg l) := by
  simp only [goodZ, Bool.and_eq_true, Bool.or_eq_true, Bool.not_eq_true', decide_eq_true_eq] at hg
  have h := enc_of neg (val l)
  rw [limbs_val hk hg.1] at h
  rw [← show encZ (zval neg l) = encZ (if neg = true then -(val l : Int) else (val l : Int)) from rfl] at h
  rw [← h]
  rcases hg.2 with h1 | h1
  · subst h1; simp
  · simp [h1]
theorem whole_ofN (neg : Bool) (n : Nat) (hl : (limbs n).length ≤ 17592186044416) : Fn Tryz.prog 217 [.d (ib neg), .d (encN (limbs n))] false (.one (.agg (encZ (if neg then -(n : Int) else n)))) := by
  rw [← enc_of]; exact whole_of neg (limbs n) hl
theorem nat_AddN (a b : Nat) (ha : (limbs a).length ≤ 17592186044416) (hb : (limbs b).length ≤ 17592186044416) : Fn Tryz.prog 234 [.d (encN (limbs a)), .d (encN (limbs b))] false (.tup [.d (encN (limbs (a + b))), .d (ii 0)]) := by
  have := nat_Add (limbs a) (limbs b) ha hb (okL_limbs a) (okL_limbs b)
  simpa [good_limbs, val_limbs] using this
theorem nat_MulN (a b : Nat) (ha : (limbs a).length ≤ 17592186044416) (hb : (limbs b).length ≤ 17592186044416) : Fn Tryz.prog 137 [.d (encN (limbs a)), .d (encN (limbs b))] false (.tup [.d (encN (limbs (a * b))), .d (ii 0)]) := by
  have := nat_Mul (limbs a) (limbs b) ha hb (okL_limbs a) (okL_limbs b)
  simpa [good_limbs, val_limbs] using this
theorem nat_CmpN (a b : Nat) (ha : (limbs a).length ≤ 17592186044416) (hb : (limbs b).length ≤ 17592186044416) : Fn Tryz.prog 235 [.d (encN (limbs a)), .d (encN (limbs b))] false (.one (.d (ii (cmpN a b)))) := by
  have := nat_Cmp (limbs a) (limbs b) (by omega) (by omega) (okL_limbs a) (okL_limbs b)
  simpa [good_limbs, val_limbs] using this
theorem nat_SubN (a b : Nat) (ha : (limbs a).length ≤ 17592186044416) (hb : (limbs b).length ≤ 17592186044416) (hle : b ≤ a) : Fn Tryz.prog 236 [.d (encN (limbs a)), .d (encN (limbs b))] false (.tup [.d (encN (limbs (a - b))), .d (ii 0)]) := by
  have := nat_Sub (limbs a) (limbs b) ha hb (okL_limbs a) (okL_limbs b)
  simpa [good_limbs, val_limbs, hle] using this
theorem limbs_len_le {n k : Nat} (h : n < 18446744073709551616 ^ k) : (limbs n).length ≤ k := by
  rcases Nat.lt_or_ge k (limbs n).length with h1 | h1
  · have h2 := good_ge (okL_limbs n) (good_limbs n) (by intro e; rw [e] at h1; simp at h1)
    rw [val_limbs] at h2
    have h3 : 18446744073709551616 ^ k ≤ 18446744073709551616 ^ ((limbs n).length - 1) := Nat.pow_le_pow_right (by decide) (by omega)
    omega
  · exact h1
theorem limbs_lt (n : Nat) : n < 18446744073709551616 ^ (limbs n).length := by
  have := val_lt (okL_limbs n)
  rwa [val_limbs] at this
theorem limbs_add_len (a b : Nat) : (limbs (a + b)).length ≤ max (limbs a).length (limbs b).length + 1 := by
  apply limbs_len_le
  have h1 := limbs_lt a
  have h2 := limbs_lt b
  have h3 : 18446744073709551616 ^ (limbs a).length ≤ 18446744073709551616 ^ max (limbs a).length (limbs b).length := Nat.pow_le_pow_right (by decide) (Nat.le_max_left _ _)
  have h4 : 18446744073709551616 ^ (limbs b).length ≤ 18446744073709551616 ^ max (limbs a).length (limbs b).length := Nat.pow_le_pow_right (by decide) (Nat.le_max_right _ _)
  rw [Nat.pow_succ]
  omega
theorem limbs_mul_len (a b : Nat) : (limbs (a * b)).length ≤ (limbs a).length + (limbs b).length := by
  apply limbs_len_le
  rw [Nat.pow_add]
  exact Nat.mul_lt_mul'' (limbs_lt a) (limbs_lt b)
theorem limbs_sub_len (a b : Nat) : (limbs (a - b)).length ≤ (limbs a).length := limbs_len_le (Nat.lt_of_le_of_lt (Nat.sub_le _ _) (limbs_lt a))
theorem mul_sign (a b : Int) : (if (decide (a < 0) != decide (b < 0)) = true then -((a.natAbs * b.natAbs : Nat) : Int) else ((a.natAbs * b.natAbs : Nat) : Int)) = a * b := by
  rw [Int.natCast_mul]
  by_cases ha : a < 0 <;> by_cases hb : b < 0
  · rw [show (a.natAbs : Int) = -a by omega, show (b.natAbs : Int) = -b by omega]; simp [ha, hb, Int.neg_mul, Int.mul_neg]
  · rw [show (a.natAbs : Int) = -a by omega, show (b.natAbs : Int) = b by omega]; simp [ha, hb, Int.neg_mul, Int.mul_neg]
  · rw [show (a.natAbs : Int) = a by omega, show (b.natAbs : Int) = -b by omega]; simp [ha, hb, Int.neg_mul, Int.mul_neg]
  · rw [show (a.natAbs : Int) = a by omega, show (b.natAbs : Int) = b by omega]; simp [ha, hb]
theorem neg_sign (a : Int) : (if (!decide (a < 0)) = true then -((a.natAbs : Nat) : Int) else ((a.natAbs : Nat) : Int)) = -a := by
  by_cases ha : a < 0 <;> simp [ha] <;> omega
theorem add_sign1 {a b : Int} (h : decide (a < 0) = decide (b < 0)) : (if decide (a < 0) = true then -((a.natAbs + b.natAbs : Nat) : Int) else ((a.natAbs + b.natAbs : Nat) : Int)) = a + b := by
  rw [decide_eq_decide] at h
  by_cases ha : a < 0 <;> simp only [ha] <;> simp <;> omega
theorem add_sign2 {a b : Int} (h : ¬ decide (a < 0) = decide (b < 0)) (hc : a.natAbs < b.natAbs) : (if decide (b < 0) = true then -((b.natAbs - a.natAbs : Nat) : Int) else ((b.natAbs - a.natAbs : Nat) : Int)) = a + b := by
  rw [decide_eq_decide] at h
  by_cases hb : b < 0
  · rw [if_pos (by simpa using hb)]; omega
  · rw [if_neg (by simpa using hb)]; omega
theorem add_sign3 {a b : Int} (h : ¬ decide (a < 0) = decide (b < 0)) (hc : b.natAbs ≤ a.natAbs) : (if decide (a < 0) = true then -((a.natAbs - b.natAbs : Nat) : Int) else ((a.natAbs - b.natAbs : Nat) : Int)) = a + b := by
  rw [decide_eq_decide] at h
  by_cases ha : a < 0
  · rw [if_pos (by simpa using ha)]; omega
  · rw [if_neg (by simpa using ha)]; omega
theorem goodZ_enc (a : Int) : goodZ (decide (a < 0)) (limbs a.natAbs) = true := by
  simp only [goodZ, good_limbs, Bool.true_and, Bool.or_eq_true, Bool.not_eq_true', decide_eq_true_eq, decide_eq_false_iff_not]
  by_cases h : a < 0
  · right; rw [limbs_len_pos]; omega
  · left; exact h
theorem whole_goodZ (a : Int) (hl : (limbs a.natAbs).length ≤ 17592186044416) : Fn Tryz.prog 96 [.agg (encZ a)] false (.one (.d (ib true))) := by
  have := whole_good (decide (a < 0)) (limbs a.natAbs) hl
  rwa [goodZ_enc] at this
abbrev fnD (f : FuncId) : D := .fn (.func f) [] []
theorem enc_neg {n : Int} {x : Int} (h : n < 0) (hx : x.toNat = n.natAbs) : [ib true, encN (limbs x.toNat)] = encZ n := by
  unfold encZ; rw [hx]; simp [h]
theorem enc_pos {n : Int} {x : Int} (h : ¬ n < 0) (hx : x.toNat = n.natAbs) : [ib false, encN (limbs x.toNat)] = encZ n := by
  unfold encZ; rw [hx]; simp [h]
theorem i64_wrap (a : Int) : IntKind.i64.wrap a = (a + 9223372036854775808) % 18446744073709551616 - 9223372036854775808 := by
  simp only [IntKind.wrap, IntKind.signed, IntKind.bits]
  simp
  omega
def inI64 (z : Int) : Prop := -9223372036854775808 ≤ z ∧ z ≤ 9223372036854775807
instance (z : Int) : Decidable (inI64 z) := by unfold inI64; infer_instance
theorem smallB_limbs (n : Nat) : smallB (limbs n) = decide (n < 18446744073709551616) := by
  unfold smallB
  rw [good_limbs, Bool.true_and, decide_eq_decide]
  constructor
  · intro h
    have := limbs_lt n
    have h2 : 18446744073709551616 ^ (limbs n).length ≤ 18446744073709551616 ^ 1 := Nat.pow_le_pow_right (by decide) h
    omega
  · intro h; exact limbs_len_le (by omega)
theorem nat_smallN (n : Nat) (hl : (limbs n).length ≤ 17592186044416) : Fn Tryz.prog 89 [.d (encN (limbs n))] false (.tup [.d (iu (if n < 18446744073709551616 then (n : Int) else 0)), .d (ib (decide (n < 18446744073709551616)))]) := by
  have := nat_small (limbs n) (by omega) (okL_limbs n)
  simpa [smallV, smallB_limbs, val_limbs] using this
end Go.Proofs.YthaiegnohkiegaaGreat.Ab
/-
 Contracts of the functions of package whole: sums, products.
-/
namespace Go.Proofs.YthaiegnohkiegaaGreat.Ab
set_option linter.unusedVariables false
set_option linter.unusedSimpArgs false
set_option maxRecDepth 20000
set_option maxHeartbeats 4000000
attribute [local irreducible] Tells Does EVo EV EVq EVr TellsC


theorem whole_times (a b : Int) (hl : (limbs a.natAbs).length + (limbs b.natAbs).length ≤ 17592186044416) : Fn Tryz.prog 220 [.agg (encZ a), .agg (encZ b)] false (.one (.agg (encZ (a * b)))) := by
 refine Fn_of_EV Tryz.func220 rfl (by kernel_rfl) rfl rfl (fun E hE => ?_)
 iterate 2 refine τ ?_
 refine EVo_e rfl (D_box 1 (hE 1 rfl) Free_no rfl) ?_
 refine EVo_e rfl (D_box 2 (hE 2 rfl) Free_no rfl) ?_
 refine EVo_e rfl (D_alloc 3 (hE 3 rfl) Free_no zr196 rfl) ?_
 iterate 7 refine τ ?_
 refine EVo_e rfl (D_call false (nat_MulN _ _ (by omega) (by omega)) rfl (φd rfl (φd rfl φn))) ?_
 iterate 14 refine τ ?_
 have hml := limbs_mul_len a.natAbs b.natAbs
 refine EVo_e rfl (D_call false (whole_ofN _ _ (by omega)) rfl (φd rfl (φd rfl φn))) ?_
 iterate 3 refine τ ?_
 refine ⟨_, ⟨rfl, _, _, _, rfl, rfl, rfl, .inl ⟨_, gOk rfl, zOk rfl, Nat.le_of_ble_eq_true rfl, rfl⟩⟩, fit_agg rfl nofun ?_⟩
 ·exact congrArg encZ (mul_sign a b)

theorem whole_neg (a : Int) (hl : (limbs a.natAbs).length ≤ 17592186044416) : Fn Tryz.prog 190 [.agg (encZ a)] false (.one (.agg (encZ (-a)))) := by
 refine Fn_of_EV Tryz.func190 rfl (by kernel_rfl) rfl rfl (fun E hE => ?_)
 iterate 2 refine τ ?_
 refine EVo_e rfl (D_box 1 (hE 1 rfl) Free_no rfl) ?_
 refine EVo_e rfl (D_alloc 2 (hE 2 rfl) Free_no zr196 rfl) ?_
 iterate 2 refine τ ?_
 refine EV_draw (inX [1]) (.st 0 (.st 1 (.st 2 (.st 3 (.st 4 (.one 5 (.one 6 (.one 7 .done)))))))) Tryz.mixed (by kernel_rfl) ?_
 refine EVq_t rfl rfl (T_faR (fOk rfl) (zOk rfl) rfl) ?_
 refine EVq_t rfl rfl (T_loadR (gOk rfl) rfl rfl rfl rfl) ?_
 refine EVq_t rfl rfl (T_un rfl rfl) ?_
 refine EVq_t rfl rfl (T_faR (fOk rfl) (zOk rfl) rfl) ?_
 refine EVq_t rfl rfl (T_loadR (gOk rfl) rfl rfl rfl rfl) ?_
 refine EVq_e rfl rfl (D_call false ((nat_cloneM _ (by omega)).toFn.loose) rfl (φd rfl φn)) ?_
 refine EVq_e rfl rfl (D_call false (whole_ofN _ _ (by omega)) rfl (φd rfl (φd rfl φn))) ?_
 refine EVq_e rfl rfl (D_store rfl (Free_in rfl) rfl rfl (zOk rfl) rfl (Nat.le_of_ble_eq_true rfl) rfl) ?_
 refine EVq_done ?_
 refine τ ?_
 refine ⟨_, ⟨rfl, _, _, _, rfl, rfl, rfl, .inl ⟨_, gOk rfl, zOk rfl, Nat.le_of_ble_eq_true rfl, rfl⟩⟩, fit_agg rfl nofun ?_⟩
 ·exact congrArg encZ (neg_sign a)

theorem whole_plus (a b : Int) (ha : (limbs a.natAbs).length < 17592186044416) (hb : (limbs b.natAbs).length < 17592186044416) : Fn Tryz.prog 218 [.agg (encZ a), .agg (encZ b)] false (.one (.agg (encZ (a + b)))) := by
 refine Fn_of_EV Tryz.func218 rfl (by kernel_rfl) rfl rfl (fun E hE => ?_)
 iterate 2 refine τ ?_
 refine EVo_e rfl (D_box 1 (hE 1 rfl) Free_no rfl) ?_
 refine EVo_e rfl (D_box 2 (hE 2 rfl) Free_no rfl) ?_
 refine EVo_e rfl (D_alloc 3 (hE 3 rfl) Free_no zr196 rfl) ?_
 iterate 10 refine τ ?_
 refine EV_cond rfl rfl rfl (fun hb1 => ?_) (fun hb1 => ?_)
 ·try simp only [zz] at hb1
  iterate 6 refine τ ?_
  refine EVo_e rfl (D_call false (nat_AddN _ _ (by omega) (by omega)) rfl (φd rfl (φd rfl φn))) ?_
  iterate 11 refine τ ?_
  have hal := limbs_add_len a.natAbs b.natAbs
  refine EVo_e rfl (D_call false (whole_ofN _ _ (by omega)) rfl (φd rfl (φd rfl φn))) ?_
  iterate 3 refine τ ?_
  refine ⟨_, ⟨rfl, _, _, _, rfl, rfl, rfl, .inl ⟨_, gOk rfl, zOk rfl, Nat.le_of_ble_eq_true rfl, rfl⟩⟩, fit_agg rfl nofun ?_⟩
  ·exact congrArg encZ (add_sign1 hb1)
 ·try simp only [zz] at hb1
  iterate 8 refine τ ?_
  refine EVo_e rfl (D_call false (nat_CmpN _ _ (by omega) (by omega)) rfl (φd rfl (φd rfl φn))) ?_
  iterate 2 refine τ ?_
  refine EV_cond rfl rfl rfl (fun hb2 => ?_) (fun hb2 => ?_)
  ·try simp only [zz] at hb2
   have hc := (cmpN_neg _ _).1 hb2
   iterate 12 refine τ ?_
   refine EVo_e rfl (D_call false (nat_SubN _ _ (by omega) (by omega) (by omega)) rfl (φd rfl (φd rfl φn))) ?_
   iterate 11 refine τ ?_
   have hs1 := limbs_sub_len a.natAbs b.natAbs
   have hs2 := limbs_sub_len b.natAbs a.natAbs
   refine EVo_e rfl (D_call false (whole_ofN _ _ (by omega)) rfl (φd rfl (φd rfl φn))) ?_
   iterate 3 refine τ ?_
   refine ⟨_, ⟨rfl, _, _, _, rfl, rfl, rfl, .inl ⟨_, gOk rfl, zOk rfl, Nat.le_of_ble_eq_true rfl, rfl⟩⟩, fit_agg rfl nofun ?_⟩
   ·exact congrArg encZ (add_sign2 hb1 (by omega))
  ·try simp only [zz] at hb2
   have hc := mt (cmpN_neg a.natAbs b.natAbs).2 (by omega)
   iterate 7 refine τ ?_
   refine EVo_e rfl (D_call false (nat_SubN _ _ (by omega) (by omega) (by omega)) rfl (φd rfl (φd rfl φn))) ?_
   iterate 11 refine τ ?_
   have hs1 := limbs_sub_len a.natAbs b.natAbs
   have hs2 := limbs_sub_len b.natAbs a.natAbs
   refine EVo_e rfl (D_call false (whole_ofN _ _ (by omega)) rfl (φd rfl (φd rfl φn))) ?_
   iterate 3 refine τ ?_
   refine ⟨_, ⟨rfl, _, _, _, rfl, rfl, rfl, .inl ⟨_, gOk rfl, zOk rfl, Nat.le_of_ble_eq_true rfl, rfl⟩⟩, fit_agg rfl nofun ?_⟩
   ·exact congrArg encZ (add_sign3 hb1 (by omega))

theorem whole_less (a b : Int) (ha : (limbs a.natAbs).length < 17592186044416) (hb : (limbs b.natAbs).length < 17592186044416) : Fn Tryz.prog 219 [.agg (encZ a), .agg (encZ b)] false (.one (.agg (encZ (a - b)))) := by
 refine Fn_of_EV Tryz.func219 rfl (by kernel_rfl) rfl rfl (fun E hE => ?_)
 iterate 2 refine τ ?_
 refine EVo_e rfl (D_box 1 (hE 1 rfl) Free_no rfl) ?_
 refine EVo_e rfl (D_box 2 (hE 2 rfl) Free_no rfl) ?_
 refine EVo_e rfl (D_alloc 3 (hE 3 rfl) Free_no zr196 rfl) ?_
 iterate 2 refine τ ?_
 refine EV_draw (inX [1, 2]) (.st 0 (.st 1 (.one 2 (.one 3 (.one 4 .done))))) Tryz.mixed (by kernel_rfl) ?_
 refine EVq_t rfl rfl (T_loadRA (gOk rfl) (zOk rfl) rfl rfl (Nat.le_of_ble_eq_true rfl) rfl rfl) ?_
 refine EVq_t rfl rfl (T_loadRA (gOk rfl) (zOk rfl) rfl rfl (Nat.le_of_ble_eq_true rfl) rfl rfl) ?_
 refine EVq_e rfl rfl (D_call false (whole_neg _ (by omega)) rfl (φa rfl φn)) ?_
 refine EVq_e rfl rfl (D_call false (whole_plus _ _ (by omega) (by rw [Int.natAbs_neg]; omega)) rfl (φa rfl (φa rfl φn))) ?_
 refine EVq_e rfl rfl (D_store rfl (Free_in rfl) rfl rfl (zOk rfl) rfl (Nat.le_of_ble_eq_true rfl) rfl) ?_
 refine EVq_done ?_
 refine τ ?_
 refine ⟨_, ⟨rfl, _, _, _, rfl, rfl, rfl, .inl ⟨_, gOk rfl, zOk rfl, Nat.le_of_ble_eq_true rfl, rfl⟩⟩, fit_agg rfl nofun ?_⟩
 ·exact congrArg encZ (by omega)

end Go.Proofs.YthaiegnohkiegaaGreat.Ab
/-
 Contracts of the functions of package whole: the exported ones.
-/
namespace Go.Proofs.YthaiegnohkiegaaGreat.Ab
set_option linter.unusedVariables false
set_option linter.unusedSimpArgs false
set_option maxRecDepth 20000
set_option maxHeartbeats 4000000
attribute [local irreducible] Tells Does EVo EV EVq EVr TellsC


theorem whole_From (n : Int) (h0 : -9223372036854775808 ≤ n) (h1 : n ≤ 9223372036854775807) : Fn Tryz.prog 50 [.d (ii n)] false (.one (.agg (encZ n))) := by
 refine Fn_of_EV Tryz.func50 rfl (by kernel_rfl) rfl rfl (fun E hE => ?_)
 iterate 2 refine τ ?_
 refine EVo_e rfl (D_alloc 1 (hE 1 rfl) Free_no zr38 rfl) ?_
 iterate 7 refine τ ?_
 refine EV_cond rfl rfl rfl (fun hb1 => ?_) (fun hb1 => ?_)
 ·try simp only [zz] at hb1
  iterate 5 refine τ ?_
  refine EVo_e rfl (D_call false (nat_from _ (by rw [u64_wrap]; omega) (by rw [u64_wrap]; omega)) rfl (φd rfl φn)) ?_
  refine EVo_t rfl (T_build ly38 rfl rfl) ?_
  iterate 3 refine τ ?_
  refine ⟨_, ⟨rfl, _, _, _, rfl, rfl, rfl, .inl ⟨_, gOk rfl, zOk rfl, Nat.le_of_ble_eq_true rfl, rfl⟩⟩, fit_agg rfl nofun ?_⟩
  ·exact enc_neg hb1 (by simp only [u64_wrap]; omega)
 ·try simp only [zz] at hb1
  iterate 5 refine τ ?_
  refine EVo_e rfl (D_call false (nat_from _ (by rw [u64_wrap]; omega) (by rw [u64_wrap]; omega)) rfl (φd rfl φn)) ?_
  refine EVo_t rfl (T_build ly38 rfl rfl) ?_
  iterate 3 refine τ ?_
  refine ⟨_, ⟨rfl, _, _, _, rfl, rfl, rfl, .inl ⟨_, gOk rfl, zOk rfl, Nat.le_of_ble_eq_true rfl, rfl⟩⟩, fit_agg rfl nofun ?_⟩
  ·exact enc_pos (by omega) (by simp only [u64_wrap]; omega)

theorem whole_calls : Fn Tryz.prog 191 [] false (.one (.d (.sl [[fnD 218], [fnD 219], [fnD 220]]))) := by
 refine Fn_of_EV Tryz.func191 rfl (by kernel_rfl) rfl rfl (fun E hE => ?_)
 iterate 6 refine τ ?_
 refine EVo_e rfl (D_buildSlice (uOk rfl) bz198 rfl rfl rfl (by simp)) ?_
 iterate 3 refine τ ?_
 refine ⟨_, ⟨rfl, rfl⟩, fit_eq rfl nofun rfl⟩

theorem whole_Neg (a : Int) (hl : (limbs a.natAbs).length ≤ 17592186044416) : Fn Tryz.prog 162 [.agg (encZ a)] false (.one (.agg (encZ (-a)))) := by
 refine Fn_of_EV Tryz.func162 rfl (by kernel_rfl) rfl rfl (fun E hE => ?_)
 iterate 2 refine τ ?_
 refine EVo_e rfl (D_box 1 (hE 1 rfl) Free_no rfl) ?_
 refine EVo_e rfl (D_alloc 2 (hE 2 rfl) Free_no zr38 rfl) ?_
 iterate 5 refine τ ?_
 refine EVo_e rfl (D_call false (whole_goodZ _ (by omega)) rfl (φa rfl φn)) ?_
 iterate 2 refine τ ?_
 refine EV_cond rfl rfl rfl (fun h => by cases h) (fun _ => ?_)
 iterate 4 refine τ ?_
 refine EVo_e rfl (D_call false (whole_neg _ (by omega)) rfl (φa rfl φn)) ?_
 iterate 3 refine τ ?_
 refine ⟨_, ⟨rfl, _, _, _, rfl, rfl, rfl, .inl ⟨_, gOk rfl, zOk rfl, Nat.le_of_ble_eq_true rfl, rfl⟩⟩, fit_agg rfl nofun rfl⟩

theorem whole_reckon_plus (a b : Int) (ha : (limbs a.natAbs).length < 17592186044416) (hb : (limbs b.natAbs).length < 17592186044416) : Fn Tryz.prog 163 [.d (ii 0), .agg (encZ a), .agg (encZ b)] false (.tup [.agg (encZ (a + b)), .d (ii 0)]) := by
 refine Fn_of_EV Tryz.func163 rfl (by kernel_rfl) rfl rfl (fun E hE => ?_)
 iterate 2 refine τ ?_
 refine EVo_e rfl (D_box 1 (hE 1 rfl) Free_no rfl) ?_
 refine EVo_e rfl (D_box 2 (hE 2 rfl) Free_no rfl) ?_
 refine EVo_e rfl (D_alloc 3 (hE 3 rfl) Free_no zr38 rfl) ?_
 iterate 6 refine τ ?_
 refine EVo_e rfl (D_call false (whole_goodZ _ (by omega)) rfl (φa rfl φn)) ?_
 iterate 3 refine τ ?_
 refine EVo_e rfl (D_call false (whole_goodZ _ (by omega)) rfl (φa rfl φn)) ?_
 iterate 3 refine τ ?_
 refine EV_cond rfl rfl rfl (fun h => by cases h) (fun _ => ?_)
 iterate 2 refine τ ?_
 refine EV_draw (inX [1, 2]) (.st 1 (.st 4 (.st 5 (.one 0 (.st 2 (.st 3 (.one 6 (.one 7 (.st 8 .done))))))))) Tryz.mixed (by kernel_rfl) ?_
 refine EVq_t rfl rfl (T_move rfl) ?_
 refine EVq_t rfl rfl (T_loadRA (gOk rfl) (zOk rfl) rfl rfl (Nat.le_of_ble_eq_true rfl) rfl rfl) ?_
 refine EVq_t rfl rfl (T_loadRA (gOk rfl) (zOk rfl) rfl rfl (Nat.le_of_ble_eq_true rfl) rfl rfl) ?_
 refine EVq_e rfl rfl (D_call false (whole_calls) rfl φn) ?_
 refine EVq_t rfl rfl (T_indexAddr (uOk rfl) (zOk rfl) rfl rfl (by decide) rfl rfl) ?_
 refine EVq_t rfl rfl (T_load (gOk rfl) rfl) ?_
 refine EVq_e rfl rfl (D_call false (whole_plus _ _ (by omega) (by omega)) rfl (φa rfl (φa rfl φn))) ?_
 refine EVq_e rfl rfl (D_store rfl (Free_in rfl) rfl rfl (zOk rfl) rfl (Nat.le_of_ble_eq_true rfl) rfl) ?_
 refine EVq_t rfl rfl (T_assign rfl) ?_
 refine EVq_done ?_
 refine τ ?_
 refine ⟨_, _, ⟨rfl, _, _, _, rfl, rfl, rfl, .inl ⟨_, gOk rfl, zOk rfl, Nat.le_of_ble_eq_true rfl, rfl⟩⟩, ⟨rfl, rfl⟩, fit_agg rfl nofun rfl, fit_eq rfl nofun rfl⟩

theorem whole_reckon_times (a b : Int) (hl : (limbs a.natAbs).length + (limbs b.natAbs).length ≤ 17592186044416) : Fn Tryz.prog 163 [.d (ii 2), .agg (encZ a), .agg (encZ b)] false (.tup [.agg (encZ (a * b)), .d (ii 0)]) := by
 refine Fn_of_EV Tryz.func163 rfl (by kernel_rfl) rfl rfl (fun E hE => ?_)
 iterate 2 refine τ ?_
 refine EVo_e rfl (D_box 1 (hE 1 rfl) Free_no rfl) ?_
 refine EVo_e rfl (D_box 2 (hE 2 rfl) Free_no rfl) ?_
 refine EVo_e rfl (D_alloc 3 (hE 3 rfl) Free_no zr38 rfl) ?_
 iterate 6 refine τ ?_
 refine EVo_e rfl (D_call false (whole_goodZ _ (by omega)) rfl (φa rfl φn)) ?_
 iterate 3 refine τ ?_
 refine EVo_e rfl (D_call false (whole_goodZ _ (by omega)) rfl (φa rfl φn)) ?_
 iterate 3 refine τ ?_
 refine EV_cond rfl rfl rfl (fun h => by cases h) (fun _ => ?_)
 iterate 2 refine τ ?_
 refine EV_draw (inX [1, 2]) (.st 1 (.st 4 (.st 5 (.one 0 (.st 2 (.st 3 (.one 6 (.one 7 (.st 8 .done))))))))) Tryz.mixed (by kernel_rfl) ?_
 refine EVq_t rfl rfl (T_move rfl) ?_
 refine EVq_t rfl rfl (T_loadRA (gOk rfl) (zOk rfl) rfl rfl (Nat.le_of_ble_eq_true rfl) rfl rfl) ?_
 refine EVq_t rfl rfl (T_loadRA (gOk rfl) (zOk rfl) rfl rfl (Nat.le_of_ble_eq_true rfl) rfl rfl) ?_
 refine EVq_e rfl rfl (D_call false (whole_calls) rfl φn) ?_
 refine EVq_t rfl rfl (T_indexAddr (uOk rfl) (zOk rfl) rfl rfl (by decide) rfl rfl) ?_
 refine EVq_t rfl rfl (T_load (gOk rfl) rfl) ?_
 refine EVq_e rfl rfl (D_call false (whole_times _ _ (by omega)) rfl (φa rfl (φa rfl φn))) ?_
 refine EVq_e rfl rfl (D_store rfl (Free_in rfl) rfl rfl (zOk rfl) rfl (Nat.le_of_ble_eq_true rfl) rfl) ?_
 refine EVq_t rfl rfl (T_assign rfl) ?_
 refine EVq_done ?_
 refine τ ?_
 refine ⟨_, _, ⟨rfl, _, _, _, rfl, rfl, rfl, .inl ⟨_, gOk rfl, zOk rfl, Nat.le_of_ble_eq_true rfl, rfl⟩⟩, ⟨rfl, rfl⟩, fit_agg rfl nofun rfl, fit_eq rfl nofun rfl⟩

theorem whole_Check (a : Int) (hl : (limbs a.natAbs).length ≤ 17592186044416) : Fn Tryz.prog 102 [.agg (encZ a)] false (.one (.d (ii 0))) := by
 refine Fn_of_EV Tryz.func102 rfl (by kernel_rfl) rfl rfl (fun E hE => ?_)
 iterate 2 refine τ ?_
 refine EVo_e rfl (D_box 1 (hE 1 rfl) Free_no rfl) ?_
 iterate 6 refine τ ?_
 refine EVo_e rfl (D_call false (whole_goodZ _ (by omega)) rfl (φa rfl φn)) ?_
 refine τ ?_
 refine EV_cond rfl rfl rfl (fun _ => ?_) (fun h => by cases h)
 iterate 5 refine τ ?_
 refine ⟨_, ⟨rfl, rfl⟩, fit_eq rfl nofun rfl⟩

theorem whole_Small (a : Int) (hl : (limbs a.natAbs).length ≤ 17592186044416) : Fn Tryz.prog 44 [.agg (encZ a)] false (.tup [.d (ii (if inI64 a then a else 0)), .d (ib (decide (inI64 a)))]) := by
 refine Fn_of_EV Tryz.func44 rfl (by kernel_rfl) rfl rfl (fun E hE => ?_)
 iterate 2 refine τ ?_
 refine EVo_e rfl (D_box 1 (hE 1 rfl) Free_no rfl) ?_
 iterate 7 refine τ ?_
 refine EVo_e rfl (D_call false (nat_smallN _ (by omega)) rfl (φd rfl φn)) ?_
 iterate 11 refine τ ?_
 refine EVo_e rfl (D_call false (whole_goodZ _ (by omega)) rfl (φa rfl φn)) ?_
 iterate 7 refine τ ?_
 refine EV_cond rfl rfl rfl (fun hb1 => ?_) (fun hb1 => ?_)
 ·try simp only [zz] at hb1
  iterate 6 refine τ ?_
  refine ⟨_, _, ⟨rfl, rfl⟩, ⟨rfl, rfl⟩, fit_eq rfl nofun ?_, fit_eq rfl nofun ?_⟩
  ·refine congrArg ii ?_
   rcases Decidable.em (inI64 a) with h | h
   all_goals simp only [h, if_true, if_false]
   all_goals (unfold inI64 at h; (try simp only [u64_wrap, i64_wrap, decide_eq_true_eq, Bool.not_eq_true', decide_eq_false_iff_not, Bool.not_eq_false', decide_true, decide_false, if_true, if_false] at *); (repeat' split at *) <;> omega)
  ·refine congrArg ib ?_
   rcases Decidable.em (inI64 a) with h | h
   all_goals simp only [h, decide_true, decide_false]
   all_goals (first | done | (exfalso; unfold inI64 at h; (try simp only [u64_wrap, i64_wrap, decide_eq_true_eq, Bool.not_eq_true', decide_eq_false_iff_not, Bool.not_eq_false', decide_true, decide_false, if_true, if_false] at *); (repeat' split at *) <;> omega))
 ·try simp only [zz] at hb1
  iterate 5 refine τ ?_
  refine EVo_case 23 rfl (fun hb2 => ?_) (fun hb2 => ?_)
  ·try simp only [zz] at hb2
   iterate 5 refine τ ?_
   refine EV_cond rfl rfl rfl (fun hb3 => ?_) (fun hb3 => ?_)
   ·try simp only [zz] at hb3
    iterate 9 refine τ ?_
    refine ⟨_, _, ⟨rfl, rfl⟩, ⟨rfl, rfl⟩, fit_eq rfl nofun ?_, fit_eq rfl nofun ?_⟩
    ·refine congrArg ii ?_
     rcases Decidable.em (inI64 a) with h | h
     all_goals simp only [h, if_true, if_false]
     all_goals (unfold inI64 at h; (try simp only [u64_wrap, i64_wrap, decide_eq_true_eq, Bool.not_eq_true', decide_eq_false_iff_not, Bool.not_eq_false', decide_true, decide_false, if_true, if_false] at *); (repeat' split at *) <;> omega)
    ·refine congrArg ib ?_
     rcases Decidable.em (inI64 a) with h | h
     all_goals simp only [h, decide_true, decide_false]
     all_goals (first | done | (exfalso; unfold inI64 at h; (try simp only [u64_wrap, i64_wrap, decide_eq_true_eq, Bool.not_eq_true', decide_eq_false_iff_not, Bool.not_eq_false', decide_true, decide_false, if_true, if_false] at *); (repeat' split at *) <;> omega))
   ·try simp only [zz] at hb3
    iterate 6 refine τ ?_
    refine EVo_case 34 rfl (fun hb4 => ?_) (fun hb4 => ?_)
    ·try simp only [zz] at hb4
     iterate 5 refine τ ?_
     refine EV_cond rfl rfl rfl (fun hb5 => ?_) (fun hb5 => ?_)
     ·try simp only [zz] at hb5
      iterate 8 refine τ ?_
      refine ⟨_, _, ⟨rfl, rfl⟩, ⟨rfl, rfl⟩, fit_eq rfl nofun ?_, fit_eq rfl nofun ?_⟩
      ·refine congrArg ii ?_
       rcases Decidable.em (inI64 a) with h | h
       all_goals simp only [h, if_true, if_false]
       all_goals (unfold inI64 at h; (try simp only [u64_wrap, i64_wrap, decide_eq_true_eq, Bool.not_eq_true', decide_eq_false_iff_not, Bool.not_eq_false', decide_true, decide_false, if_true, if_false] at *); (repeat' split at *) <;> omega)
      ·refine congrArg ib ?_
       rcases Decidable.em (inI64 a) with h | h
       all_goals simp only [h, decide_true, decide_false]
       all_goals (first | done | (exfalso; unfold inI64 at h; (try simp only [u64_wrap, i64_wrap, decide_eq_true_eq, Bool.not_eq_true', decide_eq_false_iff_not, Bool.not_eq_false', decide_true, decide_false, if_true, if_false] at *); (repeat' split at *) <;> omega))
     ·try simp only [zz] at hb5
      iterate 7 refine τ ?_
      refine ⟨_, _, ⟨rfl, rfl⟩, ⟨rfl, rfl⟩, fit_eq rfl nofun ?_, fit_eq rfl nofun ?_⟩
      ·refine congrArg ii ?_
       rcases Decidable.em (inI64 a) with h | h
       all_goals simp only [h, if_true, if_false]
       all_goals (unfold inI64 at h; (try simp only [u64_wrap, i64_wrap, decide_eq_true_eq, Bool.not_eq_true', decide_eq_false_iff_not, Bool.not_eq_false', decide_true, decide_false, if_true, if_false] at *); (repeat' split at *) <;> omega)
      ·refine congrArg ib ?_
       rcases Decidable.em (inI64 a) with h | h
       all_goals simp only [h, decide_true, decide_false]
       all_goals (first | done | (exfalso; unfold inI64 at h; (try simp only [u64_wrap, i64_wrap, decide_eq_true_eq, Bool.not_eq_true', decide_eq_false_iff_not, Bool.not_eq_false', decide_true, decide_false, if_true, if_false] at *); (repeat' split at *) <;> omega))
    ·try simp only [zz] at hb4
     iterate 5 refine τ ?_
     refine EV_cond rfl rfl rfl (fun h => by cases h) (fun _ => ?_)
     iterate 7 refine τ ?_
     refine ⟨_, _, ⟨rfl, rfl⟩, ⟨rfl, rfl⟩, fit_eq rfl nofun ?_, fit_eq rfl nofun ?_⟩
     ·refine congrArg ii ?_
      rcases Decidable.em (inI64 a) with h | h
      all_goals simp only [h, if_true, if_false]
      all_goals (unfold inI64 at h; (try simp only [u64_wrap, i64_wrap, decide_eq_true_eq, Bool.not_eq_true', decide_eq_false_iff_not, Bool.not_eq_false', decide_true, decide_false, if_true, if_false] at *); (repeat' split at *) <;> omega)
     ·refine congrArg ib ?_
      rcases Decidable.em (inI64 a) with h | h
      all_goals simp only [h, decide_true, decide_false]
      all_goals (first | done | (exfalso; unfold inI64 at h; (try simp only [u64_wrap, i64_wrap, decide_eq_true_eq, Bool.not_eq_true', decide_eq_false_iff_not, Bool.not_eq_false', decide_true, decide_false, if_true, if_false] at *); (repeat' split at *) <;> omega))
  ·try simp only [zz] at hb2
   iterate 5 refine τ ?_
   refine EV_cond rfl rfl rfl (fun h => by cases h) (fun _ => ?_)
   iterate 6 refine τ ?_
   refine EVo_case 34 rfl (fun hb6 => ?_) (fun hb6 => ?_)
   ·try simp only [zz] at hb6
    iterate 5 refine τ ?_
    refine EV_cond rfl rfl rfl (fun hb7 => ?_) (fun hb7 => ?_)
    ·try simp only [zz] at hb7
     iterate 8 refine τ ?_
     refine ⟨_, _, ⟨rfl, rfl⟩, ⟨rfl, rfl⟩, fit_eq rfl nofun ?_, fit_eq rfl nofun ?_⟩
     ·refine congrArg ii ?_
      rcases Decidable.em (inI64 a) with h | h
      all_goals simp only [h, if_true, if_false]
      all_goals (unfold inI64 at h; (try simp only [u64_wrap, i64_wrap, decide_eq_true_eq, Bool.not_eq_true', decide_eq_false_iff_not, Bool.not_eq_false', decide_true, decide_false, if_true, if_false] at *); (repeat' split at *) <;> omega)
     ·refine congrArg ib ?_
      rcases Decidable.em (inI64 a) with h | h
      all_goals simp only [h, decide_true, decide_false]
      all_goals (first | done | (exfalso; unfold inI64 at h; (try simp only [u64_wrap, i64_wrap, decide_eq_true_eq, Bool.not_eq_true', decide_eq_false_iff_not, Bool.not_eq_false', decide_true, decide_false, if_true, if_false] at *); (repeat' split at *) <;> omega))
    ·try simp only [zz] at hb7
     iterate 7 refine τ ?_
     refine ⟨_, _, ⟨rfl, rfl⟩, ⟨rfl, rfl⟩, fit_eq rfl nofun ?_, fit_eq rfl nofun ?_⟩
     ·refine congrArg ii ?_
      rcases Decidable.em (inI64 a) with h | h
      all_goals simp only [h, if_true, if_false]
      all_goals (unfold inI64 at h; (try simp only [u64_wrap, i64_wrap, decide_eq_true_eq, Bool.not_eq_true', decide_eq_false_iff_not, Bool.not_eq_false', decide_true, decide_false, if_true, if_false] at *); (repeat' split at *) <;> omega)
     ·refine congrArg ib ?_
      rcases Decidable.em (inI64 a) with h | h
      all_goals simp only [h, decide_true, decide_false]
      all_goals (first | done | (exfalso; unfold inI64 at h; (try simp only [u64_wrap, i64_wrap, decide_eq_true_eq, Bool.not_eq_true', decide_eq_false_iff_not, Bool.not_eq_false', decide_true, decide_false, if_true, if_false] at *); (repeat' split at *) <;> omega))
   ·try simp only [zz] at hb6
    iterate 5 refine τ ?_
    refine EV_cond rfl rfl rfl (fun h => by cases h) (fun _ => ?_)
    iterate 7 refine τ ?_
    refine ⟨_, _, ⟨rfl, rfl⟩, ⟨rfl, rfl⟩, fit_eq rfl nofun ?_, fit_eq rfl nofun ?_⟩
    ·refine congrArg ii ?_
     rcases Decidable.em (inI64 a) with h | h
     all_goals simp only [h, if_true, if_false]
     all_goals (unfold inI64 at h; (try simp only [u64_wrap, i64_wrap, decide_eq_true_eq, Bool.not_eq_true', decide_eq_false_iff_not, Bool.not_eq_false', decide_true, decide_false, if_true, if_false] at *); (repeat' split at *) <;> omega)
    ·refine congrArg ib ?_
     rcases Decidable.em (inI64 a) with h | h
     all_goals simp only [h, decide_true, decide_false]
     all_goals (first | done | (exfalso; unfold inI64 at h; (try simp only [u64_wrap, i64_wrap, decide_eq_true_eq, Bool.not_eq_true', decide_eq_false_iff_not, Bool.not_eq_false', decide_true, decide_false, if_true, if_false] at *); (repeat' split at *) <;> omega))

theorem whole_Add (a b : Int) (ha : (limbs a.natAbs).length < 17592186044416) (hb : (limbs b.natAbs).length < 17592186044416) : Fn Tryz.prog 134 [.agg (encZ a), .agg (encZ b)] false (.tup [.agg (encZ (a + b)), .d (ii 0)]) := by
 refine Fn_of_EV Tryz.func134 rfl (by kernel_rfl) rfl rfl (fun E hE => ?_)
 iterate 2 refine τ ?_
 refine EVo_e rfl (D_box 1 (hE 1 rfl) Free_no rfl) ?_
 refine EVo_e rfl (D_box 2 (hE 2 rfl) Free_no rfl) ?_
 refine EVo_e rfl (D_alloc 3 (hE 3 rfl) Free_no zr38 rfl) ?_
 iterate 6 refine τ ?_
 refine EVo_e rfl (D_call false (whole_reckon_plus _ _ (by omega) (by omega)) rfl (φd rfl (φa rfl (φa rfl φn)))) ?_
 iterate 6 refine τ ?_
 refine ⟨_, _, ⟨rfl, _, _, _, rfl, rfl, rfl, .inl ⟨_, gOk rfl, zOk rfl, Nat.le_of_ble_eq_true rfl, rfl⟩⟩, ⟨rfl, rfl⟩, fit_agg rfl nofun rfl, fit_eq rfl nofun rfl⟩

theorem whole_Mul (a b : Int) (hl : (limbs a.natAbs).length + (limbs b.natAbs).length ≤ 17592186044416) : Fn Tryz.prog 136 [.agg (encZ a), .agg (encZ b)] false (.tup [.agg (encZ (a * b)), .d (ii 0)]) := by
 refine Fn_of_EV Tryz.func136 rfl (by kernel_rfl) rfl rfl (fun E hE => ?_)
 iterate 2 refine τ ?_
 refine EVo_e rfl (D_box 1 (hE 1 rfl) Free_no rfl) ?_
 refine EVo_e rfl (D_box 2 (hE 2 rfl) Free_no rfl) ?_
 refine EVo_e rfl (D_alloc 3 (hE 3 rfl) Free_no zr38 rfl) ?_
 iterate 6 refine τ ?_
 refine EVo_e rfl (D_call false (whole_reckon_times _ _ (by omega)) rfl (φd rfl (φa rfl (φa rfl φn)))) ?_
 iterate 6 refine τ ?_
 refine ⟨_, _, ⟨rfl, _, _, _, rfl, rfl, rfl, .inl ⟨_, gOk rfl, zOk rfl, Nat.le_of_ble_eq_true rfl, rfl⟩⟩, ⟨rfl, rfl⟩, fit_agg rfl nofun rfl, fit_eq rfl nofun rfl⟩

end Go.Proofs.YthaiegnohkiegaaGreat.Ab
/-
  Rationals and their form: plain arithmetic.
-/
namespace Go.Proofs.YthaiegnohkiegaaGreat.Ab
set_option linter.unusedVariables false
set_option linter.unusedSimpArgs false

/-- A rational's form. -/
def encQ (q : Rat) : List D := [ib (decide (q.num < 0)), encN (limbs q.num.natAbs), encN (limbs q.den)]
/-- How long it is. -/
def szQ (q : Rat) : Nat := (limbs q.num.natAbs).length + (limbs q.den).length
theorem limbs_mono {n m : Nat} (h : n ≤ m) : (limbs n).length ≤ (limbs m).length := limbs_len_le (Nat.lt_of_le_of_lt h (limbs_lt m))
theorem sgn_ediv {n : Int} {g : Nat} (hg : 0 < g) (hd : (g : Int) ∣ n) : decide (n / (g : Int) < 0) = decide (n < 0) := by
  obtain ⟨k, rfl⟩ := hd
  have hg' : (0 : Int) < g := by omega
  rw [Int.mul_ediv_cancel_left _ (by omega)]
  congr 1
  apply propext
  constructor
  · intro h; exact Int.mul_neg_of_pos_of_neg hg' h
  · intro h
    rcases (show k < 0 ∨ 0 ≤ k by omega) with q | q
    · exact q
    · have := Int.mul_nonneg (Int.le_of_lt hg') q; omega
theorem encQ_mk (n : Int) {d : Nat} (hd : d ≠ 0) : encQ (mkRat n d) = [ib (decide (n < 0)), encN (limbs (n.natAbs / Nat.gcd n.natAbs d)), encN (limbs (d / Nat.gcd n.natAbs d))] := by
  unfold encQ
  rw [Rat.num_mkRat, Rat.den_mkRat, if_neg hd, if_neg hd, Nat.gcd_comm d]
  have hg : 0 < Nat.gcd n.natAbs d := Nat.gcd_pos_of_pos_right _ (by omega)
  have hdv : ((Nat.gcd n.natAbs d : Nat) : Int) ∣ n := Int.ofNat_dvd_left.2 (Nat.gcd_dvd_left _ _)
  rw [sgn_ediv hg hdv, Int.natAbs_ediv_of_dvd hdv, Int.natAbs_natCast]
theorem szQ_mk (n : Int) {d : Nat} (hd : d ≠ 0) : szQ (mkRat n d) ≤ (limbs n.natAbs).length + (limbs d).length := by
  unfold szQ
  rw [Rat.num_mkRat, Rat.den_mkRat, if_neg hd, if_neg hd, Nat.gcd_comm d]
  have hdv : ((Nat.gcd n.natAbs d : Nat) : Int) ∣ n := Int.ofNat_dvd_left.2 (Nat.gcd_dvd_left _ _)
  rw [Int.natAbs_ediv_of_dvd hdv, Int.natAbs_natCast]
  have h1 := limbs_mono (Nat.div_le_self n.natAbs (Nat.gcd n.natAbs d))
  have h2 := limbs_mono (Nat.div_le_self d (Nat.gcd n.natAbs d))
  omega
theorem szQ_mul (p q : Rat) : szQ (p * q) ≤ szQ p + szQ q := by
  rw [Rat.mul_def']
  refine Nat.le_trans (szQ_mk _ (Nat.mul_ne_zero p.den_nz q.den_nz)) ?_
  have h1 := limbs_mul_len p.num.natAbs q.num.natAbs
  have h2 := limbs_mul_len p.den q.den
  rw [Int.natAbs_mul]
  unfold szQ
  omega
theorem inv_parts {q : Rat} (h : q ≠ 0) : (q⁻¹).num = (if q.num < 0 then -(q.den : Int) else (q.den : Int)) ∧ (q⁻¹).den = q.num.natAbs ∧ q.num.natAbs ≠ 0 := by
  have hn : q.num ≠ 0 := fun e => h (Rat.num_eq_zero.1 e)
  rw [Rat.num_inv, Rat.den_inv, if_neg hn]
  refine ⟨?_, rfl, by omega⟩
  split
  · rw [Int.sign_eq_neg_one_of_neg (by assumption)]; omega
  · rw [Int.sign_eq_one_of_pos (by omega)]; omega
theorem szQ_inv {q : Rat} (h : q ≠ 0) : szQ q⁻¹ = szQ q := by
  obtain ⟨h1, h2, _⟩ := inv_parts h
  unfold szQ
  rw [h2, h1]
  split <;> simp <;> omega
theorem szQ_div {p q : Rat} (h : q ≠ 0) : szQ (p / q) ≤ szQ p + szQ q := by
  rw [Rat.div_def]; exact Nat.le_trans (szQ_mul _ _) (by rw [szQ_inv h]; exact Nat.le_refl _)
theorem div_mk {p q : Rat} (h : q ≠ 0) : p / q = mkRat (p.num * (if q.num < 0 then -(q.den : Int) else (q.den : Int))) (p.den * q.num.natAbs) := by
  obtain ⟨h1, h2, _⟩ := inv_parts h
  rw [Rat.div_def, Rat.mul_def', h1, h2]
theorem szQ_one : szQ 1 = 2 := by decide
/-- What may be a rational's form. -/
def ratB (neg : Bool) (l m : List Int) : Bool := goodZ neg l && goodL m && decide (0 < m.length) && decide (Nat.gcd (val l) (val m) = 1)
def ratV (neg : Bool) (l m : List Int) : Rat := mkRat (zval neg l) (val m)
theorem zval_natAbs (neg : Bool) (l : List Int) : (zval neg l).natAbs = val l := by unfold zval; split <;> simp
theorem ratV_parts {neg : Bool} {l m : List Int} (hm : okL m) (h : ratB neg l m = true) : (ratV neg l m).num = zval neg l ∧ (ratV neg l m).den = val m := by
  simp only [ratB, Bool.and_eq_true, decide_eq_true_eq] at h
  obtain ⟨⟨⟨h1, h2⟩, h3⟩, h4⟩ := h
  have hp : val m ≠ 0 := good_pos hm h2 (by intro e; subst e; simp at h3)
  have e := Rat.mk_eq_mkRat (zval neg l) (val m) hp (by unfold Nat.Coprime; rw [zval_natAbs]; exact h4)
  unfold ratV
  rw [← e]
  exact ⟨rfl, rfl⟩
theorem ratV_enc {neg : Bool} {l m : List Int} (hl : okL l) (hm : okL m) (h : ratB neg l m = true) : [ib neg, encN l, encN m] = encQ (ratV neg l m) := by
  obtain ⟨e1, e2⟩ := ratV_parts hm h
  simp only [ratB, Bool.and_eq_true, decide_eq_true_eq] at h
  obtain ⟨⟨⟨h1, h2⟩, h3⟩, h4⟩ := h
  have hz := enc_good hl h1
  unfold encZ at hz
  unfold encQ
  rw [e1, e2, limbs_val hm h2]
  simp only [List.cons.injEq, and_true] at hz
  rw [hz.1, hz.2]
theorem ratB_enc (q : Rat) : ratB (decide (q.num < 0)) (limbs q.num.natAbs) (limbs q.den) = true := by
  simp only [ratB, Bool.and_eq_true, decide_eq_true_eq, goodZ_enc, good_limbs, val_limbs, limbs_len_pos]
  exact ⟨⟨⟨trivial, trivial⟩, q.den_nz⟩, q.reduced⟩
theorem encQ_inj {p q : Rat} (h : encQ p = encQ q) : p = q := by
  unfold encQ at h
  simp only [List.cons.injEq, D.val.injEq, Value.bool.injEq, D.sl.injEq, and_true] at h
  obtain ⟨h1, h2, h3⟩ := h
  have inj : ∀ {a b : List Int}, (a.map fun x => [iu x]) = (b.map fun x => [iu x]) → a = b := by
    intro a b h
    exact (List.map_inj_right (fun x y e => by simp at e; exact e)).1 h
  have e2 := congrArg val (inj h2)
  have e3 := congrArg val (inj h3)
  rw [val_limbs, val_limbs] at e2 e3
  apply Rat.ext
  · have := decide_eq_decide.1 h1; omega
  · exact e3
end Go.Proofs.YthaiegnohkiegaaGreat.Ab
