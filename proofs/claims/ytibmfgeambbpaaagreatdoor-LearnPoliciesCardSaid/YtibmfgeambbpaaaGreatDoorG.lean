import Derived.Test.YtibmfgeambbpaaaGreatDoorF
import Derived.Test.YtibmfgeambbpaaaGreatDoorC
import Derived.Test.YtibmfgeambbpaaaGreatDoorE
set_option linter.unusedVariables false
set_option linter.unusedSimpArgs false
namespace Go.Proofs.W
open Go.Vl
set_option maxRecDepth 100000
def earlyL : List TRow := [
  ⟨⟨#[97, 99, 99, 101, 112, 116]⟩, 43, 43, -1, 202, 202, 1, 5⟩,
  ⟨⟨#[97, 99, 99, 101, 112, 116, 52]⟩, 288, 288, 364, 242, 242, 1, 18⟩,
  ⟨⟨#[98, 105, 110, 100]⟩, 49, 49, 361, 200, 200, 1, 2⟩,
  ⟨⟨#[98, 114, 107]⟩, 12, 12, 45, 214, 214, 0, 0⟩,
  ⟨⟨#[99, 108, 111, 110, 101]⟩, 56, 56, 120, 220, 220, 0, 0⟩,
  ⟨⟨#[99, 108, 111, 115, 101]⟩, 3, 3, 6, 57, 57, 0, 0⟩,
  ⟨⟨#[99, 111, 110, 110, 101, 99, 116]⟩, 42, 42, 362, 203, 203, 1, 3⟩,
  ⟨⟨#[100, 117, 112]⟩, 32, 32, 41, 23, 23, 0, 0⟩,
  ⟨⟨#[100, 117, 112, 50]⟩, 33, 33, 63, -1, -1, 0, 0⟩,
  ⟨⟨#[101, 112, 111, 108, 108, 95, 99, 114, 101, 97, 116, 101, 49]⟩, 291, 291, 329, 20, 20, 0, 0⟩,
  ⟨⟨#[101, 112, 111, 108, 108, 95, 99, 116, 108]⟩, 233, 233, 255, 21, 21, 0, 0⟩,
  ⟨⟨#[101, 112, 111, 108, 108, 95, 119, 97, 105, 116]⟩, 232, 232, 256, -1, -1, 0, 0⟩,
  ⟨⟨#[101, 120, 101, 99, 118, 101]⟩, 59, 520, 11, 221, 221, 0, 0⟩,
  ⟨⟨#[101, 120, 105, 116]⟩, 60, 60, 1, 93, 93, 0, 0⟩,
  ⟨⟨#[101, 120, 105, 116, 95, 103, 114, 111, 117, 112]⟩, 231, 231, 252, 94, 94, 0, 0⟩,
  ⟨⟨#[102, 99, 104, 100, 105, 114]⟩, 81, 81, 133, 50, 50, 0, 0⟩,
  ⟨⟨#[102, 99, 110, 116, 108]⟩, 72, 72, 55, 25, 25, 0, 0⟩,
  ⟨⟨#[102, 111, 114, 107]⟩, 57, 57, 2, -1, -1, 0, 0⟩,
  ⟨⟨#[102, 115, 116, 97, 116]⟩, 5, 5, 108, 80, 80, 0, 0⟩,
  ⟨⟨#[102, 117, 116, 101, 120]⟩, 202, 202, 240, 98, 98, 0, 0⟩,
  ⟨⟨#[103, 101, 116, 99, 119, 100]⟩, 79, 79, 183, 17, 17, 0, 0⟩,
  ⟨⟨#[103, 101, 116, 112, 101, 101, 114, 110, 97, 109, 101]⟩, 52, 52, 368, 205, 205, 1, 7⟩,
  ⟨⟨#[103, 101, 116, 112, 105, 100]⟩, 39, 39, 20, 172, 172, 0, 0⟩,
  ⟨⟨#[103, 101, 116, 114, 97, 110, 100, 111, 109]⟩, 318, 318, 355, 278, 278, 0, 0⟩,
  ⟨⟨#[103, 101, 116, 115, 111, 99, 107, 110, 97, 109, 101]⟩, 51, 51, 367, 204, 204, 1, 6⟩,
  ⟨⟨#[103, 101, 116, 115, 111, 99, 107, 111, 112, 116]⟩, 55, 542, 365, 209, 209, 1, 15⟩,
  ⟨⟨#[103, 101, 116, 117, 105, 100]⟩, 102, 102, 24, 174, 174, 0, 0⟩,
  ⟨⟨#[105, 111, 99, 116, 108]⟩, 16, 514, 54, 29, 29, 0, 0⟩,
  ⟨⟨#[107, 105, 108, 108]⟩, 62, 62, 37, 129, 129, 0, 0⟩,
  ⟨⟨#[108, 105, 115, 116, 101, 110]⟩, 50, 50, 363, 201, 201, 1, 4⟩]
theorem build_early : abuildCells Tryz.prog 29 30 [(0, trowA ⟨⟨#[97, 99, 99, 101, 112, 116]⟩, 43, 43, -1, 202, 202, 1, 5⟩), (1, trowA ⟨⟨#[97, 99, 99, 101, 112, 116, 52]⟩, 288, 288, 364, 242, 242, 1, 18⟩), (2, trowA ⟨⟨#[98, 105, 110, 100]⟩, 49, 49, 361, 200, 200, 1, 2⟩), (3, trowA ⟨⟨#[98, 114, 107]⟩, 12, 12, 45, 214, 214, 0, 0⟩), (4, trowA ⟨⟨#[99, 108, 111, 110, 101]⟩, 56, 56, 120, 220, 220, 0, 0⟩), (5, trowA ⟨⟨#[99, 108, 111, 115, 101]⟩, 3, 3, 6, 57, 57, 0, 0⟩), (6, trowA ⟨⟨#[99, 111, 110, 110, 101, 99, 116]⟩, 42, 42, 362, 203, 203, 1, 3⟩), (7, trowA ⟨⟨#[100, 117, 112]⟩, 32, 32, 41, 23, 23, 0, 0⟩), (8, trowA ⟨⟨#[100, 117, 112, 50]⟩, 33, 33, 63, -1, -1, 0, 0⟩), (9, trowA ⟨⟨#[101, 112, 111, 108, 108, 95, 99, 114, 101, 97, 116, 101, 49]⟩, 291, 291, 329, 20, 20, 0, 0⟩), (10, trowA ⟨⟨#[101, 112, 111, 108, 108, 95, 99, 116, 108]⟩, 233, 233, 255, 21, 21, 0, 0⟩), (11, trowA ⟨⟨#[101, 112, 111, 108, 108, 95, 119, 97, 105, 116]⟩, 232, 232, 256, -1, -1, 0, 0⟩), (12, trowA ⟨⟨#[101, 120, 101, 99, 118, 101]⟩, 59, 520, 11, 221, 221, 0, 0⟩), (13, trowA ⟨⟨#[101, 120, 105, 116]⟩, 60, 60, 1, 93, 93, 0, 0⟩), (14, trowA ⟨⟨#[101, 120, 105, 116, 95, 103, 114, 111, 117, 112]⟩, 231, 231, 252, 94, 94, 0, 0⟩), (15, trowA ⟨⟨#[102, 99, 104, 100, 105, 114]⟩, 81, 81, 133, 50, 50, 0, 0⟩), (16, trowA ⟨⟨#[102, 99, 110, 116, 108]⟩, 72, 72, 55, 25, 25, 0, 0⟩), (17, trowA ⟨⟨#[102, 111, 114, 107]⟩, 57, 57, 2, -1, -1, 0, 0⟩), (18, trowA ⟨⟨#[102, 115, 116, 97, 116]⟩, 5, 5, 108, 80, 80, 0, 0⟩), (19, trowA ⟨⟨#[102, 117, 116, 101, 120]⟩, 202, 202, 240, 98, 98, 0, 0⟩), (20, trowA ⟨⟨#[103, 101, 116, 99, 119, 100]⟩, 79, 79, 183, 17, 17, 0, 0⟩), (21, trowA ⟨⟨#[103, 101, 116, 112, 101, 101, 114, 110, 97, 109, 101]⟩, 52, 52, 368, 205, 205, 1, 7⟩), (22, trowA ⟨⟨#[103, 101, 116, 112, 105, 100]⟩, 39, 39, 20, 172, 172, 0, 0⟩), (23, trowA ⟨⟨#[103, 101, 116, 114, 97, 110, 100, 111, 109]⟩, 318, 318, 355, 278, 278, 0, 0⟩), (24, trowA ⟨⟨#[103, 101, 116, 115, 111, 99, 107, 110, 97, 109, 101]⟩, 51, 51, 367, 204, 204, 1, 6⟩), (25, trowA ⟨⟨#[103, 101, 116, 115, 111, 99, 107, 111, 112, 116]⟩, 55, 542, 365, 209, 209, 1, 15⟩), (26, trowA ⟨⟨#[103, 101, 116, 117, 105, 100]⟩, 102, 102, 24, 174, 174, 0, 0⟩), (27, trowA ⟨⟨#[105, 111, 99, 116, 108]⟩, 16, 514, 54, 29, 29, 0, 0⟩), (28, trowA ⟨⟨#[107, 105, 108, 108]⟩, 62, 62, 37, 129, 129, 0, 0⟩), (29, trowA ⟨⟨#[108, 105, 115, 116, 101, 110]⟩, 50, 50, 363, 201, 201, 1, 4⟩)] = some (78, [strA ⟨#[97, 99, 99, 101, 112, 116]⟩, int (43), int (43), int (-1), int (202), int (202), int 1, int 5, strA ⟨#[97, 99, 99, 101, 112, 116, 52]⟩, int (288), int (288), int (364), int (242), int (242), int 1, int 18, strA ⟨#[98, 105, 110, 100]⟩, int (49), int (49), int (361), int (200), int (200), int 1, int 2, strA ⟨#[98, 114, 107]⟩, int (12), int (12), int (45), int (214), int (214), int 0, int 0, strA ⟨#[99, 108, 111, 110, 101]⟩, int (56), int (56), int (120), int (220), int (220), int 0, int 0, strA ⟨#[99, 108, 111, 115, 101]⟩, int (3), int (3), int (6), int (57), int (57), int 0, int 0, strA ⟨#[99, 111, 110, 110, 101, 99, 116]⟩, int (42), int (42), int (362), int (203), int (203), int 1, int 3, strA ⟨#[100, 117, 112]⟩, int (32), int (32), int (41), int (23), int (23), int 0, int 0, strA ⟨#[100, 117, 112, 50]⟩, int (33), int (33), int (63), int (-1), int (-1), int 0, int 0, strA ⟨#[101, 112, 111, 108, 108, 95, 99, 114, 101, 97, 116, 101, 49]⟩, int (291), int (291), int (329), int (20), int (20), int 0, int 0, strA ⟨#[101, 112, 111, 108, 108, 95, 99, 116, 108]⟩, int (233), int (233), int (255), int (21), int (21), int 0, int 0, strA ⟨#[101, 112, 111, 108, 108, 95, 119, 97, 105, 116]⟩, int (232), int (232), int (256), int (-1), int (-1), int 0, int 0, strA ⟨#[101, 120, 101, 99, 118, 101]⟩, int (59), int (520), int (11), int (221), int (221), int 0, int 0, strA ⟨#[101, 120, 105, 116]⟩, int (60), int (60), int (1), int (93), int (93), int 0, int 0, strA ⟨#[101, 120, 105, 116, 95, 103, 114, 111, 117, 112]⟩, int (231), int (231), int (252), int (94), int (94), int 0, int 0, strA ⟨#[102, 99, 104, 100, 105, 114]⟩, int (81), int (81), int (133), int (50), int (50), int 0, int 0, strA ⟨#[102, 99, 110, 116, 108]⟩, int (72), int (72), int (55), int (25), int (25), int 0, int 0, strA ⟨#[102, 111, 114, 107]⟩, int (57), int (57), int (2), int (-1), int (-1), int 0, int 0, strA ⟨#[102, 115, 116, 97, 116]⟩, int (5), int (5), int (108), int (80), int (80), int 0, int 0, strA ⟨#[102, 117, 116, 101, 120]⟩, int (202), int (202), int (240), int (98), int (98), int 0, int 0, strA ⟨#[103, 101, 116, 99, 119, 100]⟩, int (79), int (79), int (183), int (17), int (17), int 0, int 0, strA ⟨#[103, 101, 116, 112, 101, 101, 114, 110, 97, 109, 101]⟩, int (52), int (52), int (368), int (205), int (205), int 1, int 7, strA ⟨#[103, 101, 116, 112, 105, 100]⟩, int (39), int (39), int (20), int (172), int (172), int 0, int 0, strA ⟨#[103, 101, 116, 114, 97, 110, 100, 111, 109]⟩, int (318), int (318), int (355), int (278), int (278), int 0, int 0, strA ⟨#[103, 101, 116, 115, 111, 99, 107, 110, 97, 109, 101]⟩, int (51), int (51), int (367), int (204), int (204), int 1, int 6, strA ⟨#[103, 101, 116, 115, 111, 99, 107, 111, 112, 116]⟩, int (55), int (542), int (365), int (209), int (209), int 1, int 15, strA ⟨#[103, 101, 116, 117, 105, 100]⟩, int (102), int (102), int (24), int (174), int (174), int 0, int 0, strA ⟨#[105, 111, 99, 116, 108]⟩, int (16), int (514), int (54), int (29), int (29), int 0, int 0, strA ⟨#[107, 105, 108, 108]⟩, int (62), int (62), int (37), int (129), int (129), int 0, int 0, strA ⟨#[108, 105, 115, 116, 101, 110]⟩, int (50), int (50), int (363), int (201), int (201), int 1, int 4]) := by kernel_rfl
set_option maxHeartbeats 4000000 in
theorem early_spec : Tells Tryz.prog 46 [] (trows earlyL) := by
  refine tells_of_aw Tryz.func46 rfl rfl fun nx => ?_
  ((repeat((conv=>whnf);first|apply ω0|apply ω2|refine τ3 rfl ?_|refine τ4 rfl ?_|refine ⟨rfl,?_⟩|apply τa|refine τb rfl ?_|refine ⟨⟨by kernel_rfl,by kernel_rfl⟩,?_⟩|refine ⟨by decide,?_⟩|apply τt|apply τf)); refine aw_region ?_; (repeat((conv=>whnf);first|apply ω0|apply ω2|refine τ3 rfl ?_|refine τ4 rfl ?_|refine ⟨rfl,?_⟩|apply τa|refine τb rfl ?_|refine ⟨⟨by kernel_rfl,by kernel_rfl⟩,?_⟩|refine ⟨by decide,?_⟩|apply τt|apply τf)))
  refine aw_regionY (fun n => match n with | 0 => true | _ => false) 61 ?_
  (repeat((conv=>whnf);first|apply ω0|apply ω1|apply ω2|refine τ3 rfl ?_|refine τ4 rfl ?_|refine ⟨rfl,?_⟩|apply τa|refine τb rfl ?_|refine ⟨⟨by kernel_rfl,by kernel_rfl⟩,?_⟩|refine ⟨by decide,?_⟩|apply τt|apply τf))
  refine aop_build rfl build_early ?_
  (repeat((conv=>whnf);first|apply ω0|apply ω1|apply ω2|refine τ3 rfl ?_|refine τ4 rfl ?_|refine ⟨rfl,?_⟩|apply τa|refine τb rfl ?_|refine ⟨⟨by kernel_rfl,by kernel_rfl⟩,?_⟩|refine ⟨by decide,?_⟩|apply τt|apply τf))
  refine ret_tells rfl (AVle.os_sl.trans (AVle.sl_fun fun k hk => ?_))
  match k, hk with
  | 0, _ => rfl
  | 1, _ => rfl
  | 2, _ => rfl
  | 3, _ => rfl
  | 4, _ => rfl
  | 5, _ => rfl
  | 6, _ => rfl
  | 7, _ => rfl
  | 8, _ => rfl
  | 9, _ => rfl
  | 10, _ => rfl
  | 11, _ => rfl
  | 12, _ => rfl
  | 13, _ => rfl
  | 14, _ => rfl
  | 15, _ => rfl
  | 16, _ => rfl
  | 17, _ => rfl
  | 18, _ => rfl
  | 19, _ => rfl
  | 20, _ => rfl
  | 21, _ => rfl
  | 22, _ => rfl
  | 23, _ => rfl
  | 24, _ => rfl
  | 25, _ => rfl
  | 26, _ => rfl
  | 27, _ => rfl
  | 28, _ => rfl
  | 29, _ => rfl
  | k + 30, hk => exact absurd hk (by omega)
def lateL : List TRow := [
  ⟨⟨#[108, 115, 101, 101, 107]⟩, 8, 8, 19, 62, 62, 0, 0⟩,
  ⟨⟨#[109, 107, 100, 105, 114]⟩, 83, 83, 39, -1, -1, 0, 0⟩,
  ⟨⟨#[109, 109, 97, 112]⟩, 9, 9, -1, 222, 222, 0, 0⟩,
  ⟨⟨#[109, 109, 97, 112, 50]⟩, -1, -1, 192, -1, -1, 0, 0⟩,
  ⟨⟨#[109, 112, 114, 111, 116, 101, 99, 116]⟩, 10, 10, 125, 226, 226, 0, 0⟩,
  ⟨⟨#[109, 115, 103, 99, 116, 108]⟩, 71, 71, 402, 187, 187, 2, 14⟩,
  ⟨⟨#[109, 115, 103, 103, 101, 116]⟩, 68, 68, 399, 186, 186, 2, 13⟩,
  ⟨⟨#[109, 115, 103, 114, 99, 118]⟩, 70, 70, 401, 188, 188, 2, 12⟩,
  ⟨⟨#[109, 115, 103, 115, 110, 100]⟩, 69, 69, 400, 189, 189, 2, 11⟩,
  ⟨⟨#[109, 117, 110, 109, 97, 112]⟩, 11, 11, 91, 215, 215, 0, 0⟩,
  ⟨⟨#[110, 97, 110, 111, 115, 108, 101, 101, 112]⟩, 35, 35, 162, 101, 101, 0, 0⟩,
  ⟨⟨#[111, 112, 101, 110]⟩, 2, 2, 5, -1, -1, 0, 0⟩,
  ⟨⟨#[111, 112, 101, 110, 97, 116]⟩, 257, 257, 295, 56, 56, 0, 0⟩,
  ⟨⟨#[112, 105, 112, 101]⟩, 22, 22, 42, -1, -1, 0, 0⟩,
  ⟨⟨#[112, 105, 112, 101, 50]⟩, 293, 293, 331, 59, 59, 0, 0⟩,
  ⟨⟨#[112, 111, 108, 108]⟩, 7, 7, 168, -1, -1, 0, 0⟩,
  ⟨⟨#[112, 114, 101, 97, 100, 54, 52]⟩, 17, 17, 180, 67, 67, 0, 0⟩,
  ⟨⟨#[112, 114, 108, 105, 109, 105, 116, 54, 52]⟩, 302, 302, 340, 261, 261, 0, 0⟩,
  ⟨⟨#[112, 116, 114, 97, 99, 101]⟩, 101, 521, 26, 117, 117, 0, 0⟩,
  ⟨⟨#[112, 119, 114, 105, 116, 101, 54, 52]⟩, 18, 18, 181, 68, 68, 0, 0⟩,
  ⟨⟨#[114, 101, 97, 100]⟩, 0, 0, 3, 63, 63, 0, 0⟩,
  ⟨⟨#[114, 101, 97, 100, 118]⟩, 19, 515, 145, 65, 65, 0, 0⟩,
  ⟨⟨#[114, 101, 99, 118]⟩, -1, -1, -1, -1, -1, 1, 10⟩,
  ⟨⟨#[114, 101, 99, 118, 102, 114, 111, 109]⟩, 45, 517, 371, 207, 207, 1, 12⟩,
  ⟨⟨#[114, 101, 99, 118, 109, 115, 103]⟩, 47, 519, 372, 212, 212, 1, 17⟩,
  ⟨⟨#[114, 101, 110, 97, 109, 101]⟩, 82, 82, 38, -1, -1, 0, 0⟩,
  ⟨⟨#[114, 105, 115, 99, 118, 95, 102, 108, 117, 115, 104, 95, 105, 99, 97, 99, 104, 101]⟩, -1, -1, -1, -1, 259, 0, 0⟩,
  ⟨⟨#[114, 116, 95, 115, 105, 103, 97, 99, 116, 105, 111, 110]⟩, 13, 512, 174, 134, 134, 0, 0⟩,
  ⟨⟨#[114, 116, 95, 115, 105, 103, 114, 101, 116, 117, 114, 110]⟩, 15, 513, 173, 139, 139, 0, 0⟩,
  ⟨⟨#[115, 101, 99, 99, 111, 109, 112]⟩, 317, 317, 354, 277, 277, 0, 0⟩,
  ⟨⟨#[115, 101, 108, 101, 99, 116]⟩, 23, 23, 82, -1, -1, 0, 0⟩,
  ⟨⟨#[115, 101, 109, 99, 116, 108]⟩, 66, 66, 394, 191, 191, 2, 3⟩,
  ⟨⟨#[115, 101, 109, 103, 101, 116]⟩, 64, 64, 393, 190, 190, 2, 2⟩,
  ⟨⟨#[115, 101, 109, 111, 112]⟩, 65, 65, -1, 193, 193, 2, 1⟩,
  ⟨⟨#[115, 101, 110, 100]⟩, -1, -1, -1, -1, -1, 1, 9⟩,
  ⟨⟨#[115, 101, 110, 100, 109, 115, 103]⟩, 46, 518, 370, 211, 211, 1, 16⟩,
  ⟨⟨#[115, 101, 110, 100, 116, 111]⟩, 44, 44, 369, 206, 206, 1, 11⟩,
  ⟨⟨#[115, 101, 116, 115, 111, 99, 107, 111, 112, 116]⟩, 54, 541, 366, 208, 208, 1, 14⟩,
  ⟨⟨#[115, 104, 109, 97, 116]⟩, 30, 30, 397, 196, 196, 2, 21⟩,
  ⟨⟨#[115, 104, 109, 99, 116, 108]⟩, 31, 31, 396, 195, 195, 2, 24⟩,
  ⟨⟨#[115, 104, 109, 100, 116]⟩, 67, 67, 398, 197, 197, 2, 22⟩,
  ⟨⟨#[115, 104, 109, 103, 101, 116]⟩, 29, 29, 395, 194, 194, 2, 23⟩,
  ⟨⟨#[115, 104, 117, 116, 100, 111, 119, 110]⟩, 48, 48, 373, 210, 210, 1, 13⟩,
  ⟨⟨#[115, 111, 99, 107, 101, 116]⟩, 41, 41, 359, 198, 198, 1, 1⟩,
  ⟨⟨#[115, 111, 99, 107, 101, 116, 112, 97, 105, 114]⟩, 53, 53, 360, 199, 199, 1, 8⟩,
  ⟨⟨#[115, 116, 97, 116]⟩, 4, 4, 106, -1, -1, 0, 0⟩,
  ⟨⟨#[116, 105, 109, 101]⟩, 201, 201, 13, -1, -1, 0, 0⟩,
  ⟨⟨#[117, 110, 97, 109, 101]⟩, 63, 63, 122, 160, 160, 0, 0⟩,
  ⟨⟨#[117, 110, 108, 105, 110, 107]⟩, 87, 87, 10, -1, -1, 0, 0⟩,
  ⟨⟨#[118, 102, 111, 114, 107]⟩, 58, 58, 190, -1, -1, 0, 0⟩,
  ⟨⟨#[119, 97, 105, 116, 112, 105, 100]⟩, -1, -1, 7, -1, -1, 0, 0⟩,
  ⟨⟨#[119, 114, 105, 116, 101]⟩, 1, 1, 4, 64, 64, 0, 0⟩,
  ⟨⟨#[119, 114, 105, 116, 101, 118]⟩, 20, 516, 146, 66, 66, 0, 0⟩]
theorem build_late : abuildCells Tryz.prog 29 53 [(0, trowA ⟨⟨#[108, 115, 101, 101, 107]⟩, 8, 8, 19, 62, 62, 0, 0⟩), (1, trowA ⟨⟨#[109, 107, 100, 105, 114]⟩, 83, 83, 39, -1, -1, 0, 0⟩), (2, trowA ⟨⟨#[109, 109, 97, 112]⟩, 9, 9, -1, 222, 222, 0, 0⟩), (3, trowA ⟨⟨#[109, 109, 97, 112, 50]⟩, -1, -1, 192, -1, -1, 0, 0⟩), (4, trowA ⟨⟨#[109, 112, 114, 111, 116, 101, 99, 116]⟩, 10, 10, 125, 226, 226, 0, 0⟩), (5, trowA ⟨⟨#[109, 115, 103, 99, 116, 108]⟩, 71, 71, 402, 187, 187, 2, 14⟩), (6, trowA ⟨⟨#[109, 115, 103, 103, 101, 116]⟩, 68, 68, 399, 186, 186, 2, 13⟩), (7, trowA ⟨⟨#[109, 115, 103, 114, 99, 118]⟩, 70, 70, 401, 188, 188, 2, 12⟩), (8, trowA ⟨⟨#[109, 115, 103, 115, 110, 100]⟩, 69, 69, 400, 189, 189, 2, 11⟩), (9, trowA ⟨⟨#[109, 117, 110, 109, 97, 112]⟩, 11, 11, 91, 215, 215, 0, 0⟩), (10, trowA ⟨⟨#[110, 97, 110, 111, 115, 108, 101, 101, 112]⟩, 35, 35, 162, 101, 101, 0, 0⟩), (11, trowA ⟨⟨#[111, 112, 101, 110]⟩, 2, 2, 5, -1, -1, 0, 0⟩), (12, trowA ⟨⟨#[111, 112, 101, 110, 97, 116]⟩, 257, 257, 295, 56, 56, 0, 0⟩), (13, trowA ⟨⟨#[112, 105, 112, 101]⟩, 22, 22, 42, -1, -1, 0, 0⟩), (14, trowA ⟨⟨#[112, 105, 112, 101, 50]⟩, 293, 293, 331, 59, 59, 0, 0⟩), (15, trowA ⟨⟨#[112, 111, 108, 108]⟩, 7, 7, 168, -1, -1, 0, 0⟩), (16, trowA ⟨⟨#[112, 114, 101, 97, 100, 54, 52]⟩, 17, 17, 180, 67, 67, 0, 0⟩), (17, trowA ⟨⟨#[112, 114, 108, 105, 109, 105, 116, 54, 52]⟩, 302, 302, 340, 261, 261, 0, 0⟩), (18, trowA ⟨⟨#[112, 116, 114, 97, 99, 101]⟩, 101, 521, 26, 117, 117, 0, 0⟩), (19, trowA ⟨⟨#[112, 119, 114, 105, 116, 101, 54, 52]⟩, 18, 18, 181, 68, 68, 0, 0⟩), (20, trowA ⟨⟨#[114, 101, 97, 100]⟩, 0, 0, 3, 63, 63, 0, 0⟩), (21, trowA ⟨⟨#[114, 101, 97, 100, 118]⟩, 19, 515, 145, 65, 65, 0, 0⟩), (22, trowA ⟨⟨#[114, 101, 99, 118]⟩, -1, -1, -1, -1, -1, 1, 10⟩), (23, trowA ⟨⟨#[114, 101, 99, 118, 102, 114, 111, 109]⟩, 45, 517, 371, 207, 207, 1, 12⟩), (24, trowA ⟨⟨#[114, 101, 99, 118, 109, 115, 103]⟩, 47, 519, 372, 212, 212, 1, 17⟩), (25, trowA ⟨⟨#[114, 101, 110, 97, 109, 101]⟩, 82, 82, 38, -1, -1, 0, 0⟩), (26, trowA ⟨⟨#[114, 105, 115, 99, 118, 95, 102, 108, 117, 115, 104, 95, 105, 99, 97, 99, 104, 101]⟩, -1, -1, -1, -1, 259, 0, 0⟩), (27, trowA ⟨⟨#[114, 116, 95, 115, 105, 103, 97, 99, 116, 105, 111, 110]⟩, 13, 512, 174, 134, 134, 0, 0⟩), (28, trowA ⟨⟨#[114, 116, 95, 115, 105, 103, 114, 101, 116, 117, 114, 110]⟩, 15, 513, 173, 139, 139, 0, 0⟩), (29, trowA ⟨⟨#[115, 101, 99, 99, 111, 109, 112]⟩, 317, 317, 354, 277, 277, 0, 0⟩), (30, trowA ⟨⟨#[115, 101, 108, 101, 99, 116]⟩, 23, 23, 82, -1, -1, 0, 0⟩), (31, trowA ⟨⟨#[115, 101, 109, 99, 116, 108]⟩, 66, 66, 394, 191, 191, 2, 3⟩), (32, trowA ⟨⟨#[115, 101, 109, 103, 101, 116]⟩, 64, 64, 393, 190, 190, 2, 2⟩), (33, trowA ⟨⟨#[115, 101, 109, 111, 112]⟩, 65, 65, -1, 193, 193, 2, 1⟩), (34, trowA ⟨⟨#[115, 101, 110, 100]⟩, -1, -1, -1, -1, -1, 1, 9⟩), (35, trowA ⟨⟨#[115, 101, 110, 100, 109, 115, 103]⟩, 46, 518, 370, 211, 211, 1, 16⟩), (36, trowA ⟨⟨#[115, 101, 110, 100, 116, 111]⟩, 44, 44, 369, 206, 206, 1, 11⟩), (37, trowA ⟨⟨#[115, 101, 116, 115, 111, 99, 107, 111, 112, 116]⟩, 54, 541, 366, 208, 208, 1, 14⟩), (38, trowA ⟨⟨#[115, 104, 109, 97, 116]⟩, 30, 30, 397, 196, 196, 2, 21⟩), (39, trowA ⟨⟨#[115, 104, 109, 99, 116, 108]⟩, 31, 31, 396, 195, 195, 2, 24⟩), (40, trowA ⟨⟨#[115, 104, 109, 100, 116]⟩, 67, 67, 398, 197, 197, 2, 22⟩), (41, trowA ⟨⟨#[115, 104, 109, 103, 101, 116]⟩, 29, 29, 395, 194, 194, 2, 23⟩), (42, trowA ⟨⟨#[115, 104, 117, 116, 100, 111, 119, 110]⟩, 48, 48, 373, 210, 210, 1, 13⟩), (43, trowA ⟨⟨#[115, 111, 99, 107, 101, 116]⟩, 41, 41, 359, 198, 198, 1, 1⟩), (44, trowA ⟨⟨#[115, 111, 99, 107, 101, 116, 112, 97, 105, 114]⟩, 53, 53, 360, 199, 199, 1, 8⟩), (45, trowA ⟨⟨#[115, 116, 97, 116]⟩, 4, 4, 106, -1, -1, 0, 0⟩), (46, trowA ⟨⟨#[116, 105, 109, 101]⟩, 201, 201, 13, -1, -1, 0, 0⟩), (47, trowA ⟨⟨#[117, 110, 97, 109, 101]⟩, 63, 63, 122, 160, 160, 0, 0⟩), (48, trowA ⟨⟨#[117, 110, 108, 105, 110, 107]⟩, 87, 87, 10, -1, -1, 0, 0⟩), (49, trowA ⟨⟨#[118, 102, 111, 114, 107]⟩, 58, 58, 190, -1, -1, 0, 0⟩), (50, trowA ⟨⟨#[119, 97, 105, 116, 112, 105, 100]⟩, -1, -1, 7, -1, -1, 0, 0⟩), (51, trowA ⟨⟨#[119, 114, 105, 116, 101]⟩, 1, 1, 4, 64, 64, 0, 0⟩), (52, trowA ⟨⟨#[119, 114, 105, 116, 101, 118]⟩, 20, 516, 146, 66, 66, 0, 0⟩)] = some (78, [strA ⟨#[108, 115, 101, 101, 107]⟩, int (8), int (8), int (19), int (62), int (62), int 0, int 0, strA ⟨#[109, 107, 100, 105, 114]⟩, int (83), int (83), int (39), int (-1), int (-1), int 0, int 0, strA ⟨#[109, 109, 97, 112]⟩, int (9), int (9), int (-1), int (222), int (222), int 0, int 0, strA ⟨#[109, 109, 97, 112, 50]⟩, int (-1), int (-1), int (192), int (-1), int (-1), int 0, int 0, strA ⟨#[109, 112, 114, 111, 116, 101, 99, 116]⟩, int (10), int (10), int (125), int (226), int (226), int 0, int 0, strA ⟨#[109, 115, 103, 99, 116, 108]⟩, int (71), int (71), int (402), int (187), int (187), int 2, int 14, strA ⟨#[109, 115, 103, 103, 101, 116]⟩, int (68), int (68), int (399), int (186), int (186), int 2, int 13, strA ⟨#[109, 115, 103, 114, 99, 118]⟩, int (70), int (70), int (401), int (188), int (188), int 2, int 12, strA ⟨#[109, 115, 103, 115, 110, 100]⟩, int (69), int (69), int (400), int (189), int (189), int 2, int 11, strA ⟨#[109, 117, 110, 109, 97, 112]⟩, int (11), int (11), int (91), int (215), int (215), int 0, int 0, strA ⟨#[110, 97, 110, 111, 115, 108, 101, 101, 112]⟩, int (35), int (35), int (162), int (101), int (101), int 0, int 0, strA ⟨#[111, 112, 101, 110]⟩, int (2), int (2), int (5), int (-1), int (-1), int 0, int 0, strA ⟨#[111, 112, 101, 110, 97, 116]⟩, int (257), int (257), int (295), int (56), int (56), int 0, int 0, strA ⟨#[112, 105, 112, 101]⟩, int (22), int (22), int (42), int (-1), int (-1), int 0, int 0, strA ⟨#[112, 105, 112, 101, 50]⟩, int (293), int (293), int (331), int (59), int (59), int 0, int 0, strA ⟨#[112, 111, 108, 108]⟩, int (7), int (7), int (168), int (-1), int (-1), int 0, int 0, strA ⟨#[112, 114, 101, 97, 100, 54, 52]⟩, int (17), int (17), int (180), int (67), int (67), int 0, int 0, strA ⟨#[112, 114, 108, 105, 109, 105, 116, 54, 52]⟩, int (302), int (302), int (340), int (261), int (261), int 0, int 0, strA ⟨#[112, 116, 114, 97, 99, 101]⟩, int (101), int (521), int (26), int (117), int (117), int 0, int 0, strA ⟨#[112, 119, 114, 105, 116, 101, 54, 52]⟩, int (18), int (18), int (181), int (68), int (68), int 0, int 0, strA ⟨#[114, 101, 97, 100]⟩, int (0), int (0), int (3), int (63), int (63), int 0, int 0, strA ⟨#[114, 101, 97, 100, 118]⟩, int (19), int (515), int (145), int (65), int (65), int 0, int 0, strA ⟨#[114, 101, 99, 118]⟩, int (-1), int (-1), int (-1), int (-1), int (-1), int 1, int 10, strA ⟨#[114, 101, 99, 118, 102, 114, 111, 109]⟩, int (45), int (517), int (371), int (207), int (207), int 1, int 12, strA ⟨#[114, 101, 99, 118, 109, 115, 103]⟩, int (47), int (519), int (372), int (212), int (212), int 1, int 17, strA ⟨#[114, 101, 110, 97, 109, 101]⟩, int (82), int (82), int (38), int (-1), int (-1), int 0, int 0, strA ⟨#[114, 105, 115, 99, 118, 95, 102, 108, 117, 115, 104, 95, 105, 99, 97, 99, 104, 101]⟩, int (-1), int (-1), int (-1), int (-1), int (259), int 0, int 0, strA ⟨#[114, 116, 95, 115, 105, 103, 97, 99, 116, 105, 111, 110]⟩, int (13), int (512), int (174), int (134), int (134), int 0, int 0, strA ⟨#[114, 116, 95, 115, 105, 103, 114, 101, 116, 117, 114, 110]⟩, int (15), int (513), int (173), int (139), int (139), int 0, int 0, strA ⟨#[115, 101, 99, 99, 111, 109, 112]⟩, int (317), int (317), int (354), int (277), int (277), int 0, int 0, strA ⟨#[115, 101, 108, 101, 99, 116]⟩, int (23), int (23), int (82), int (-1), int (-1), int 0, int 0, strA ⟨#[115, 101, 109, 99, 116, 108]⟩, int (66), int (66), int (394), int (191), int (191), int 2, int 3, strA ⟨#[115, 101, 109, 103, 101, 116]⟩, int (64), int (64), int (393), int (190), int (190), int 2, int 2, strA ⟨#[115, 101, 109, 111, 112]⟩, int (65), int (65), int (-1), int (193), int (193), int 2, int 1, strA ⟨#[115, 101, 110, 100]⟩, int (-1), int (-1), int (-1), int (-1), int (-1), int 1, int 9, strA ⟨#[115, 101, 110, 100, 109, 115, 103]⟩, int (46), int (518), int (370), int (211), int (211), int 1, int 16, strA ⟨#[115, 101, 110, 100, 116, 111]⟩, int (44), int (44), int (369), int (206), int (206), int 1, int 11, strA ⟨#[115, 101, 116, 115, 111, 99, 107, 111, 112, 116]⟩, int (54), int (541), int (366), int (208), int (208), int 1, int 14, strA ⟨#[115, 104, 109, 97, 116]⟩, int (30), int (30), int (397), int (196), int (196), int 2, int 21, strA ⟨#[115, 104, 109, 99, 116, 108]⟩, int (31), int (31), int (396), int (195), int (195), int 2, int 24, strA ⟨#[115, 104, 109, 100, 116]⟩, int (67), int (67), int (398), int (197), int (197), int 2, int 22, strA ⟨#[115, 104, 109, 103, 101, 116]⟩, int (29), int (29), int (395), int (194), int (194), int 2, int 23, strA ⟨#[115, 104, 117, 116, 100, 111, 119, 110]⟩, int (48), int (48), int (373), int (210), int (210), int 1, int 13, strA ⟨#[115, 111, 99, 107, 101, 116]⟩, int (41), int (41), int (359), int (198), int (198), int 1, int 1, strA ⟨#[115, 111, 99, 107, 101, 116, 112, 97, 105, 114]⟩, int (53), int (53), int (360), int (199), int (199), int 1, int 8, strA ⟨#[115, 116, 97, 116]⟩, int (4), int (4), int (106), int (-1), int (-1), int 0, int 0, strA ⟨#[116, 105, 109, 101]⟩, int (201), int (201), int (13), int (-1), int (-1), int 0, int 0, strA ⟨#[117, 110, 97, 109, 101]⟩, int (63), int (63), int (122), int (160), int (160), int 0, int 0, strA ⟨#[117, 110, 108, 105, 110, 107]⟩, int (87), int (87), int (10), int (-1), int (-1), int 0, int 0, strA ⟨#[118, 102, 111, 114, 107]⟩, int (58), int (58), int (190), int (-1), int (-1), int 0, int 0, strA ⟨#[119, 97, 105, 116, 112, 105, 100]⟩, int (-1), int (-1), int (7), int (-1), int (-1), int 0, int 0, strA ⟨#[119, 114, 105, 116, 101]⟩, int (1), int (1), int (4), int (64), int (64), int 0, int 0, strA ⟨#[119, 114, 105, 116, 101, 118]⟩, int (20), int (516), int (146), int (66), int (66), int 0, int 0]) := by kernel_rfl
set_option maxHeartbeats 4000000 in
theorem late_spec : Tells Tryz.prog 47 [] (trows lateL) := by
  refine tells_of_aw Tryz.func47 rfl rfl fun nx => ?_
  ((repeat((conv=>whnf);first|apply ω0|apply ω2|refine τ3 rfl ?_|refine τ4 rfl ?_|refine ⟨rfl,?_⟩|apply τa|refine τb rfl ?_|refine ⟨⟨by kernel_rfl,by kernel_rfl⟩,?_⟩|refine ⟨by decide,?_⟩|apply τt|apply τf)); refine aw_region ?_; (repeat((conv=>whnf);first|apply ω0|apply ω2|refine τ3 rfl ?_|refine τ4 rfl ?_|refine ⟨rfl,?_⟩|apply τa|refine τb rfl ?_|refine ⟨⟨by kernel_rfl,by kernel_rfl⟩,?_⟩|refine ⟨by decide,?_⟩|apply τt|apply τf)))
  refine aw_regionY (fun n => match n with | 0 => true | _ => false) 107 ?_
  (repeat((conv=>whnf);first|apply ω0|apply ω1|apply ω2|refine τ3 rfl ?_|refine τ4 rfl ?_|refine ⟨rfl,?_⟩|apply τa|refine τb rfl ?_|refine ⟨⟨by kernel_rfl,by kernel_rfl⟩,?_⟩|refine ⟨by decide,?_⟩|apply τt|apply τf))
  refine aop_build rfl build_late ?_
  (repeat((conv=>whnf);first|apply ω0|apply ω1|apply ω2|refine τ3 rfl ?_|refine τ4 rfl ?_|refine ⟨rfl,?_⟩|apply τa|refine τb rfl ?_|refine ⟨⟨by kernel_rfl,by kernel_rfl⟩,?_⟩|refine ⟨by decide,?_⟩|apply τt|apply τf))
  refine ret_tells rfl (AVle.os_sl.trans (AVle.sl_fun fun k hk => ?_))
  match k, hk with
  | 0, _ => rfl
  | 1, _ => rfl
  | 2, _ => rfl
  | 3, _ => rfl
  | 4, _ => rfl
  | 5, _ => rfl
  | 6, _ => rfl
  | 7, _ => rfl
  | 8, _ => rfl
  | 9, _ => rfl
  | 10, _ => rfl
  | 11, _ => rfl
  | 12, _ => rfl
  | 13, _ => rfl
  | 14, _ => rfl
  | 15, _ => rfl
  | 16, _ => rfl
  | 17, _ => rfl
  | 18, _ => rfl
  | 19, _ => rfl
  | 20, _ => rfl
  | 21, _ => rfl
  | 22, _ => rfl
  | 23, _ => rfl
  | 24, _ => rfl
  | 25, _ => rfl
  | 26, _ => rfl
  | 27, _ => rfl
  | 28, _ => rfl
  | 29, _ => rfl
  | 30, _ => rfl
  | 31, _ => rfl
  | 32, _ => rfl
  | 33, _ => rfl
  | 34, _ => rfl
  | 35, _ => rfl
  | 36, _ => rfl
  | 37, _ => rfl
  | 38, _ => rfl
  | 39, _ => rfl
  | 40, _ => rfl
  | 41, _ => rfl
  | 42, _ => rfl
  | 43, _ => rfl
  | 44, _ => rfl
  | 45, _ => rfl
  | 46, _ => rfl
  | 47, _ => rfl
  | 48, _ => rfl
  | 49, _ => rfl
  | 50, _ => rfl
  | 51, _ => rfl
  | 52, _ => rfl
  | k + 53, hk => exact absurd hk (by omega)
end Go.Proofs.W

namespace Go.Proofs.W
open Go.Vl
set_option maxRecDepth 100000

def builtL : List TRow := earlyL ++ lateL
theorem noid_trows (l : List TRow) : NoId (trows l) := NoId.sl fun i _ c hc => by
  have hc : c ∈ trowC (l.getD i trow0) := hc
  unfold trowC at hc
  simp only [List.mem_cons, List.not_mem_nil, or_false] at hc
  rcases hc with rfl | rfl | rfl | rfl | rfl | rfl | rfl | rfl <;> exact NoId.v _
theorem builtin_spec : Tells Tryz.prog 23 [] (trows builtL) := by
  have hc := concat_trow [earlyL, lateL] (by decide) (by decide) none
  have e : [earlyL, lateL].flatten = builtL := by unfold builtL; simp
  rw [e] at hc
  have he := early_spec
  have hl := late_spec
  generalize earlyL = A at he hc
  generalize lateL = B at hl hc
  generalize builtL = C at hc
  refine tells_of_aw Tryz.func23 rfl rfl fun nx => ?_
  (repeat((conv=>whnf);first|apply ω0|apply ω1|apply ω2|refine τ3 rfl ?_|refine τ4 rfl ?_|refine ⟨rfl,?_⟩|apply τa|refine τb rfl ?_|refine ⟨⟨by kernel_rfl,by kernel_rfl⟩,?_⟩|refine ⟨by decide,?_⟩|apply τt|apply τf))
  refine aop_tells rfl rfl he trivial fun nx2 => ?_
  (repeat((conv=>whnf);first|apply ω0|apply ω1|apply ω2|refine τ3 rfl ?_|refine τ4 rfl ?_|refine ⟨rfl,?_⟩|apply τa|refine τb rfl ?_|refine ⟨⟨by kernel_rfl,by kernel_rfl⟩,?_⟩|refine ⟨by decide,?_⟩|apply τt|apply τf))
  refine aop_tells rfl rfl hl trivial fun nx3 => ?_
  (repeat((conv=>whnf);first|apply ω0|apply ω1|apply ω2|refine τ3 rfl ?_|refine τ4 rfl ?_|refine ⟨rfl,?_⟩|apply τa|refine τb rfl ?_|refine ⟨⟨by kernel_rfl,by kernel_rfl⟩,?_⟩|refine ⟨by decide,?_⟩|apply τt|apply τf))
  refine aop_tells rfl rfl hc ⟨AVle.os_fun fun k hk => ?_, trivial⟩ fun nx4 => ?_
  · match k, hk with
    | 0, _ => rfl
    | 1, _ => rfl
  (repeat((conv=>whnf);first|apply ω0|apply ω1|apply ω2|refine τ3 rfl ?_|refine τ4 rfl ?_|refine ⟨rfl,?_⟩|apply τa|refine τb rfl ?_|refine ⟨⟨by kernel_rfl,by kernel_rfl⟩,?_⟩|refine ⟨by decide,?_⟩|apply τt|apply τf))
  exact ret_tells rfl (AVle.refl _)
end Go.Proofs.W

namespace Go.Proofs.W
open Go.Vl
set_option maxRecDepth 100000

def rAwk : Rec := ⟨0, 3221225534, 0, 0, 0, 0, 0, 0, 0⟩
def readS : ByteArray := ⟨#[114, 101, 97, 100]⟩
set_option maxHeartbeats 4000000 in
theorem built_ok : (tabR builtL).2 = 0 := by kernel_rfl
theorem awkP0 : learnP builtL (1, 0) false (gather builtL [rAwk]) = ⟨(1, 0), false, [⟨readS, (8, 0), []⟩]⟩ := by kernel_rfl
theorem awkP1 : learnP builtL (1, 0) true (gather builtL [rAwk]) = ⟨(1, 0), false, [⟨readS, (8, 0), [⟨0, 1, 0, 0⟩, ⟨1, 1, 0, 0⟩, ⟨2, 1, 0, 0⟩, ⟨3, 1, 0, 0⟩, ⟨4, 1, 0, 0⟩, ⟨5, 1, 0, 0⟩]⟩]⟩ := by kernel_rfl
theorem built_len : builtL.length ≤ 1000000 := Nat.le_of_ble_eq_true (by kernel_rfl)
theorem built_names : ∀ r ∈ builtL, r.name.size ≤ maxLen := fun r hr => by
  have : (builtL.all fun r => decide (r.name.size ≤ maxLen)) = true := by kernel_rfl
  exact of_decide_eq_true (List.all_eq_true.1 this r hr)
theorem awk_call (near : Bool) : Tells Tryz.prog 12 [trows builtL, recs [rAwk], act 1 0, boolA near] (.tup [polA (learnP builtL (1, 0) near (gather builtL [rAwk])), int 0]) :=
  policy_ok builtL [rAwk] 1 0 near built_len built_names (fun r hr => by rw [List.mem_singleton.1 hr]; unfold rAwk Rec.ok; decide) (by decide) built_ok (tab_sorted built_ok) (by decide)
set_option maxHeartbeats 4000000 in
theorem awake26_spec : Tells Tryz.prog 10 [] (boolA true) := by
  have hb := builtin_spec
  have h0 := awk_call false
  have h1 := awk_call true
  rw [awkP0] at h0
  rw [awkP1] at h1
  generalize builtL = B at hb h0 h1
  refine tells_of_aw Tryz.func10 rfl rfl fun nx => ?_
  (repeat((conv=>whnf);first|apply ω0|apply ω1|apply ω2|refine τ3 rfl ?_|refine τ4 rfl ?_|refine ⟨rfl,?_⟩|apply τa|refine τb rfl ?_|refine ⟨⟨by kernel_rfl,by kernel_rfl⟩,?_⟩|refine ⟨by decide,?_⟩|apply τt|apply τf))
  refine aop_tells rfl rfl hb trivial fun nx2 => ?_
  (repeat((conv=>whnf);first|apply ω0|apply ω1|apply ω2|refine τ3 rfl ?_|refine τ4 rfl ?_|refine ⟨rfl,?_⟩|apply τa|refine τb rfl ?_|refine ⟨⟨by kernel_rfl,by kernel_rfl⟩,?_⟩|refine ⟨by decide,?_⟩|apply τt|apply τf))
  refine aop_tells rfl rfl h0 ⟨AVle.refl _, AVle.os_sl.trans (AVle.sl_fun fun k hk => ?_), AVle.refl _, AVle.refl _, trivial⟩ fun nx3 => ?_
  · match k, hk with
    | 0, _ => rfl
  (repeat((conv=>whnf);first|apply ω0|apply ω1|apply ω2|refine τ3 rfl ?_|refine τ4 rfl ?_|refine ⟨rfl,?_⟩|apply τa|refine τb rfl ?_|refine ⟨⟨by kernel_rfl,by kernel_rfl⟩,?_⟩|refine ⟨by decide,?_⟩|apply τt|apply τf))
  refine aop_tells rfl rfl hb trivial fun nx4 => ?_
  (repeat((conv=>whnf);first|apply ω0|apply ω1|apply ω2|refine τ3 rfl ?_|refine τ4 rfl ?_|refine ⟨rfl,?_⟩|apply τa|refine τb rfl ?_|refine ⟨⟨by kernel_rfl,by kernel_rfl⟩,?_⟩|refine ⟨by decide,?_⟩|apply τt|apply τf))
  refine aop_tells rfl rfl h1 ⟨AVle.refl _, AVle.os_sl.trans (AVle.sl_fun fun k hk => ?_), AVle.refl _, AVle.refl _, trivial⟩ fun nx5 => ?_
  · match k, hk with
    | 0, _ => rfl
  (repeat((conv=>whnf);first|apply ω0|apply ω1|apply ω2|refine τ3 rfl ?_|refine τ4 rfl ?_|refine ⟨rfl,?_⟩|apply τa|refine τb rfl ?_|refine ⟨⟨by kernel_rfl,by kernel_rfl⟩,?_⟩|refine ⟨by decide,?_⟩|apply τt|apply τf))
  refine splitO_eq (b := .rp [strA readS, int 8, int 0, cnds []]) rfl ?_
  (repeat((conv=>whnf);first|apply ω0|apply ω1|apply ω2|refine τ3 rfl ?_|refine τ4 rfl ?_|refine ⟨rfl,?_⟩|apply τa|refine τb rfl ?_|refine ⟨⟨by kernel_rfl,by kernel_rfl⟩,?_⟩|refine ⟨by decide,?_⟩|apply τt|apply τf))
  intro c hc
  obtain rfl : c = true := hc.trans (beq_self_eq_true readS.toList)
  (repeat((conv=>whnf);first|apply ω0|apply ω1|apply ω2|refine τ3 rfl ?_|refine τ4 rfl ?_|refine ⟨rfl,?_⟩|apply τa|refine τb rfl ?_|refine ⟨⟨by kernel_rfl,by kernel_rfl⟩,?_⟩|refine ⟨by decide,?_⟩|apply τt|apply τf))
  exact ret_tells rfl (AVle.refl _)
end Go.Proofs.W

namespace Go.Proofs.W
open Go.Vl
set_option maxRecDepth 100000

/-- What is learnt, by definition. -/
def sel1 (r : Rec) : Bool := decide (selI r.arch r.num = 1)
def refB (near : Bool) (row : TRow) (own : List Rec) (k : Nat) : Bool := (near && decide (row.mux = 0)) && own.all fun r => decide (argR r k = argR (own.getD 0 rec0) k)
def refRule (l : List TRow) (rs : List Rec) (near : Bool) (a : Nat) : Rul := ⟨(l.getD a trow0).name, (8, 0), condsL (argR ((ofR l a rs).getD 0 rec0)) (refB near (l.getD a trow0) (ofR l a rs)) 6⟩
def refRules (l : List TRow) (rs : List Rec) (near : Bool) (n : Nat) : List Rul := (idxs l rs n).map (refRule l rs near)
def refX (l : List TRow) (rs : List Rec) (n : Nat) : Bool := (List.range n).any fun a => (ofR l a rs).any sel1
def refPol (l : List TRow) (rs : List Rec) (a : A2) (near : Bool) : Pol := ⟨a, refX l rs l.length, refRules l rs near l.length⟩
theorem refRules_next {l : List TRow} {rs : List Rec} {near : Bool} {n : Nat} : refRules l rs near (n + 1) = if (ofR l n rs).length = 0 then refRules l rs near n else refRules l rs near n ++ [refRule l rs near n] := by
  unfold refRules
  rw [idxs_next]
  split
  · rfl
  · rw [List.map_append]; rfl
theorem refRules_le {l : List TRow} {rs : List Rec} {near : Bool} {n : Nat} : (refRules l rs near n).length ≤ n := by
  unfold refRules idxs
  rw [List.length_map]
  exact Nat.le_trans (List.length_filter_le _ _) (by simp)
theorem refX_next {l : List TRow} {rs : List Rec} {n : Nat} : refX l rs (n + 1) = (refX l rs n || (ofR l n rs).any sel1) := by
  unfold refX
  rw [List.range_succ, List.any_append]; simp
theorem any_take {p : Rec → Bool} {L : List Rec} {i : Nat} (h : i < L.length) : (L.take (i + 1)).any p = ((L.take i).any p || p (L.getD i rec0)) := by
  rw [take_getD rec0 h, List.any_append]; simp
theorem all_take {p : Rec → Bool} {L : List Rec} {i : Nat} (h : i < L.length) : (L.take (i + 1)).all p = ((L.take i).all p && p (L.getD i rec0)) := by
  rw [take_getD rec0 h, List.all_append]; simp
theorem row_self {l : List TRow} (hok : (tabR l).2 = 0) {a : Nat} (ha : a < l.length) : rowOf l (l.getD a trow0).name = l.getD a trow0 := by
  have hs := tab_sorted hok
  have hm := sorted_mono hs (l.getD a trow0).name
  have h1 : ¬ lowB l (l.getD a trow0).name < a := fun q => by
    have := lowB_at (l := l) (s := (l.getD a trow0).name) (by omega)
    exact this (cmpS_lt.2 (hs _ _ q ha))
  have h2 : ¬ a < lowB l (l.getD a trow0).name := fun q => by
    have := lowB_lt q
    rw [cmpS_lt] at this
    exact RSb_irr _ this
  have e : lowB l (l.getD a trow0).name = a := by omega
  unfold rowOf foundB
  rw [e, decide_eq_true ha, decide_eq_true (cmpS_eq.2 rfl)]
  rfl
theorem row_mux {l : List TRow} (hok : (tabR l).2 = 0) {a : Nat} (ha : a < l.length) : (!decide ((l.getD a trow0).mux > 0)) = decide ((l.getD a trow0).mux = 0) := by
  have hm := (row_good ((right_rows hok).2 a ha)).2.2.2.1
  unfold muxBad at hm
  simp only [Bool.or_eq_false_iff, decide_eq_false_iff_not] at hm
  have := hm.1
  rw [Bool.eq_iff_iff, Bool.not_eq_true', decide_eq_false_iff_not, decide_eq_true_iff]
  omega
theorem of_abi {l : List TRow} {r : Rec} {a : Nat} (h : atO l r = some a) : (ofI l r).abi = selI r.arch r.num ∧ 0 ≤ selI r.arch r.num := by
  unfold atO at h
  unfold ofI selI
  cases hs : selO r.arch r.num with
  | none => rw [hs] at h; cases h
  | some b => dsimp only; split <;> exact ⟨rfl, Int.natCast_nonneg _⟩
theorem xarg_eq {l : List TRow} {r : Rec} {a : Nat} (h : atO l r = some a) (k : Nat) : xarg l r k = argR r k := by
  obtain ⟨h1, h2⟩ := of_abi h
  unfold xarg argI argR
  rw [h1]
  by_cases q : selI r.arch r.num = 2
  · rw [if_pos q, if_pos (by rw [q]; rfl)]
  · rw [if_neg q, if_neg (by omega)]
theorem of_at {l : List TRow} {rs : List Rec} {a : Nat} {r : Rec} (h : r ∈ ofR l a rs) : atO l r = some a := by
  unfold ofR at h
  rw [List.mem_filter, decide_eq_true_iff] at h
  exact h.2
theorem x_eq {l : List TRow} (hok : (tabR l).2 = 0) (rs : List Rec) : (gather l rs).2 = refX l rs l.length := by
  rw [(gather_inv l rs).x, Bool.eq_iff_iff]
  unfold refX sel1
  simp only [List.any_eq_true, Bool.and_eq_true, decide_eq_true_eq, List.mem_range]
  constructor
  · rintro ⟨r, hr, h1, h2⟩
    rw [nameR_eq] at h1
    cases hat : atO l r with
    | none => rw [hat] at h1; exact absurd rfl h1
    | some a =>
      refine ⟨a, atO_lt hat, r, ?_, by rw [← (of_abi hat).1]; exact h2⟩
      unfold ofR
      rw [List.mem_filter]
      exact ⟨hr, decide_eq_true hat⟩
  · rintro ⟨a, ha, r, hr, h⟩
    have hat := of_at hr
    unfold ofR at hr
    rw [List.mem_filter] at hr
    refine ⟨r, hr.1, ?_, by rw [(of_abi hat).1]; exact h⟩
    rw [nameR_eq, hat]
    exact tab_name hok ha
theorem conds_cong {a a' : Nat → Nat} {b b' : Nat → Bool} {n : Nat} (ha : ∀ k, a k = a' k) (hb : ∀ k, b k = b' k) : condsL a b n = condsL a' b' n := by
  have e1 : a = a' := funext ha
  have e2 : b = b' := funext hb
  rw [e1, e2]
theorem conds_no {a : Nat → Nat} {b : Nat → Bool} {n : Nat} (hb : ∀ k, b k = false) : condsL a b n = [] := by
  unfold condsL
  rw [List.filter_eq_nil_iff.2 (fun k _ => by rw [hb k]; decide)]; rfl
theorem learn_rule {l : List TRow} (hok : (tabR l).2 = 0) (rs : List Rec) (near : Bool) {a : Nat} (ha : a ∈ idxs l rs l.length) : ruleL l near (gather l rs).1 (l.getD a trow0).name = refRule l rs near a := by
  have hlt : a < l.length := by unfold idxs at ha; rw [List.mem_filter, List.mem_range] at ha; exact ha.1
  have hk := keys_idx hok rs
  have hg := gat_own (l := l) (rs := rs) (z := (l.getD a trow0).name.data.toList) (by rw [hk]; exact List.mem_map_of_mem ha)
  rw [toA] at hg
  obtain ⟨h1, r0, rest, h2, h3, h4, h5⟩ := hg
  rw [h1, own_of hok rs hlt] at h2
  unfold ruleL refRule
  rw [row_self hok hlt, row_mux hok hlt]
  congr 1
  have hr0 : atO l r0 = some a := of_at (rs := rs) (by rw [h2]; exact .head _)
  have hrest : ∀ r ∈ rest, atO l r = some a := fun r hr => of_at (rs := rs) (by rw [h2]; exact .tail _ hr)
  cases hc : (near && decide ((l.getD a trow0).mux = 0)) with
  | false =>
    rw [if_neg (by decide)]
    refine (conds_no fun k => ?_).symm
    unfold refB
    rw [hc]; rfl
  | true =>
    rw [if_pos rfl]
    rw [h2]
    refine conds_cong (fun k => by rw [h4, xarg_eq hr0]; rfl) fun k => ?_
    unfold refB
    rw [hc, h5, Bool.true_and]
    show _ = (decide (argR r0 k = argR r0 k) && rest.all fun r => decide (argR r k = argR r0 k))
    rw [decide_eq_true rfl, Bool.true_and, Bool.eq_iff_iff, List.all_eq_true, List.all_eq_true]
    constructor
    · intro h r hr
      have := h r hr
      rw [xarg_eq hr0, xarg_eq (hrest r hr)] at this
      exact decide_eq_true (of_decide_eq_true this).symm
    · intro h r hr
      have := h r hr
      rw [xarg_eq hr0, xarg_eq (hrest r hr)]
      exact decide_eq_true (of_decide_eq_true this).symm
/-- What is learnt is what is defined. -/
theorem learn_ref {l : List TRow} (hok : (tabR l).2 = 0) (rs : List Rec) (near : Bool) (a : A2) : learnP l a near (gather l rs) = refPol l rs a near := by
  unfold learnP refPol rulesK refRules
  rw [x_eq hok, keys_idx hok rs, List.map_map]
  congr 1
  refine List.map_congr_left fun i hi => ?_
  show ruleL l near (gather l rs).1 ⟨(l.getD i trow0).name.data.toList.toArray⟩ = _
  rw [toA, learn_rule hok rs near hi]
theorem ref_light {l : List TRow} {rs : List Rec} {a : A2} {near : Bool} (hl : l.length ≤ 40) (hn : ∀ r ∈ l, r.name.size ≤ 60) : lightP (refPol l rs a near) = true := by
  unfold lightP refPol
  dsimp only
  have h1 := refRules_le (l := l) (rs := rs) (near := near) (n := l.length)
  rw [decide_eq_true (by omega), Bool.true_and, List.all_eq_true]
  intro r hr
  unfold refRules at hr
  obtain ⟨i, hi, rfl⟩ := List.mem_map.1 hr
  have hlt : i < l.length := by unfold idxs at hi; rw [List.mem_filter, List.mem_range] at hi; exact hi.1
  have hm : l.getD i trow0 ∈ l := by simp [List.getD, hlt]
  have hle := condsL_le (a := argR ((ofR l i rs).getD 0 rec0)) (b := refB near (l.getD i trow0) (ofR l i rs)) (n := 6)
  unfold lightR refRule
  dsimp only
  rw [decide_eq_true (hn _ hm), decide_eq_true (by omega)]; rfl
end Go.Proofs.W

namespace Go.Proofs.W
open Go.Vl
set_option maxRecDepth 100000

def nmr : Option Nat → Option Vl.Id
  | none => none
  | some k => some (1, k)
def polB (nx : Nat) (k n : Int) (x : Bool) (R : List Rul) (oi : Option Nat) : List (Vl.Id × Own) := [((2, nx + 2), .c [int k, int n, boolA x, .os 4 R.length (rulF2 R) (nmd oi)]), ((1, nx + 1), .c (polC2 lpol0)), ((0, nx), .c [int k, int n])]
def cndF2 (l : List Cnd) (k : Nat) : AV := cndA (l.getD k cnd0)
theorem bytes_cnd26 : Tryz.prog.bytesOf 105 = 32 := by kernel_rfl
theorem getD_recs {rs : List Rec} {i : Nat} (h : i < rs.length) : rs.getD i rec0 ∈ rs := by simp [List.getD, h]
theorem box_le {i j : Vl.Id} {a b c d : AV} {a' b' c' d' : AV} {L : List (Vl.Id × Own)} (h : i.2 = j.2) (h1 : AVle a a') (h2 : AVle b b') (h3 : AVle c c') (h4 : AVle d d') : BxLe ((i, .c [a, b, c, d]) :: L) ((j, .c [a', b', c', d']) :: L) := ⟨h, ⟨h1, h2, h3, h4, trivial⟩, BxLe.refl _⟩
set_option maxHeartbeats 16000000 in
theorem ref26pol_spec (l : List TRow) (rs : List Rec) (k n : Int) (near : Bool) (hl : l.length ≤ 1000000) (hr : ∀ r ∈ rs, r.ok) (hrn : rs.length ≤ 100000) : Tells Tryz.prog 15 [trows l, recs rs, act k n, boolA near] (polA (refPol l rs (k, n) near)) := by
  refine tells_of_aw Tryz.func15 rfl rfl fun nx => ?_
  (repeat((conv=>whnf);first|apply ω0|apply ω1|apply ω2|refine τ3 rfl ?_|refine τ4 rfl ?_|refine ⟨rfl,?_⟩|apply τa|refine τb rfl ?_|refine ⟨⟨by kernel_rfl,by kernel_rfl⟩,?_⟩|refine ⟨by decide,?_⟩|apply τt|apply τf))
  refine aw_loop (fun y : Nat × Option Nat × Nat => mk 116 [(0, trows l), (1, recs rs), (3, boolA near), (6, .bp (0, nx) 0), (8, .bp (1, nx + 1) 0), (9, .bp (2, nx + 2) 0), (10, int y.1)] ⟨polB nx k n (refX l rs y.1) (refRules l rs near y.1) y.2.1, pmOf (nmd y.2.1) ((refRules l rs near y.1).length * 4), y.2.2, 3⟩)
    (fun y => y.1 ≤ l.length ∧ (y.2.1 = none → (refRules l rs near y.1).length = 0)) (fun y => l.length - y.1) ?_ ?_
  · exact ⟨(0, none, nx + 3), ⟨Nat.zero_le _, fun _ => rfl⟩, ele_tell (pm := []) (bx := polB nx k n false [] none) _ _ rfl rfl (List.Sublist.refl _) (List.Sublist.refl _) ⟨rfl, ⟨AVle.refl _, AVle.refl _, AVle.refl _, AVle.os_nil, trivial⟩, rfl, ⟨AVle.refl _, AVle.refl _, AVle.refl _, AVle.os_sl0, trivial⟩, BxLe.refl _⟩ trivial ⟨AVle.refl _, AVle.refl _, AVle.refl _, AVle.refl _, AVle.refl _, AVle.refl _, AVle.refl _, trivial⟩⟩
  · rintro ⟨a, oi, nx1⟩ ⟨h3, h4⟩
    dsimp only at h3 h4
    (repeat((conv=>whnf);first|apply ω0|apply ω1|apply ω2|refine τ3 rfl ?_|refine τ4 rfl ?_|refine ⟨rfl,?_⟩|apply τa|refine τb rfl ?_|refine ⟨⟨by kernel_rfl,by kernel_rfl⟩,?_⟩|refine ⟨by decide,?_⟩|apply τt|apply τf))
    intro c gg; cases c
    · have gg := not_of gg
      try dsimp only at gg
      have hi : a = l.length := by omega
      subst hi
      cases oi with
      | none =>
        (repeat((conv=>whnf);first|apply ω0|apply ω1|apply ω2|refine τ3 rfl ?_|refine τ4 rfl ?_|refine ⟨rfl,?_⟩|apply τa|refine τb rfl ?_|refine ⟨⟨by kernel_rfl,by kernel_rfl⟩,?_⟩|refine ⟨by decide,?_⟩|apply τt|apply τf))
        exact ret_tells_all rfl ⟨rfl, trivial⟩ (AVle.ags (cs := [_, _, _, _]) ⟨AVle.refl _, AVle.refl _, AVle.refl _, AVle.os_sl, trivial⟩)
      | some o1 =>
        (repeat((conv=>whnf);first|apply ω0|apply ω1|apply ω2|refine τ3 rfl ?_|refine τ4 rfl ?_|refine ⟨rfl,?_⟩|apply τa|refine τb rfl ?_|refine ⟨⟨by kernel_rfl,by kernel_rfl⟩,?_⟩|refine ⟨by decide,?_⟩|apply τt|apply τf))
        exact ret_tells_all rfl ⟨rfl, trivial⟩ (AVle.ags (cs := [_, _, _, _]) ⟨AVle.refl _, AVle.refl _, AVle.refl _, AVle.os_sl, trivial⟩)
    · have gg := yes_of gg
      try dsimp only at gg
      have hi : a < l.length := by omega
      have hof := ofR_spec l a rs (by omega) hr (by omega)
      have hle := ofR_le (l := l) (a := a) (rs := rs)
      have hok : ∀ r ∈ ofR l a rs, r.ok := fun r h => hr r (by unfold ofR at h; exact (List.mem_filter.1 h).1)
      have hRn := refRules_next (l := l) (rs := rs) (near := near) (n := a)
      have hXn := refX_next (l := l) (rs := rs) (n := a)
      have hRl := refRules_le (l := l) (rs := rs) (near := near) (n := a)
      generalize hR : refRules l rs near a = R at h4 hRn hRl ⊢
      generalize hX : refX l rs a = x at hXn ⊢
      unfold refRule at hRn
      generalize hO : ofR l a rs = own at hof hle hok hRn hXn
      (repeat((conv=>whnf);first|apply ω0|apply ω1|apply ω2|refine τ3 rfl ?_|refine τ4 rfl ?_|refine ⟨rfl,?_⟩|apply τa|refine τb rfl ?_|refine ⟨⟨by kernel_rfl,by kernel_rfl⟩,?_⟩|refine ⟨by decide,?_⟩|apply τt|apply τf))
      refine aop_tells rfl rfl hof ⟨AVle.refl _, AVle.refl _, AVle.refl _, trivial⟩ fun nx2 => ?_
      (repeat((conv=>whnf);first|apply ω0|apply ω1|apply ω2|refine τ3 rfl ?_|refine τ4 rfl ?_|refine ⟨rfl,?_⟩|apply τa|refine τb rfl ?_|refine ⟨⟨by kernel_rfl,by kernel_rfl⟩,?_⟩|refine ⟨by decide,?_⟩|apply τt|apply τf))
      by_cases h0 : own.length = 0
      · rw [if_pos h0] at hRn
        have hown : own = [] := List.length_eq_zero_iff.1 h0
        rw [hown, List.any_nil, Bool.or_false] at hXn
        intro c hc
        obtain rfl : c = true := hc.trans (by simp [h0])
        (repeat((conv=>whnf);first|apply ω0|apply ω1|apply ω2|refine τ3 rfl ?_|refine τ4 rfl ?_|refine ⟨rfl,?_⟩|apply τa|refine τb rfl ?_|refine ⟨⟨by kernel_rfl,by kernel_rfl⟩,?_⟩|refine ⟨by decide,?_⟩|apply τt|apply τf))
        exact back (a + 1, oi, nx2) ⟨hi, fun h => by dsimp only; rw [hRn]; exact h4 h⟩ (by dsimp only; omega) (ele_tell (pm := pmOf (nmd oi) ((refRules l rs near (a + 1)).length * 4)) (bx := polB nx k n (refX l rs (a + 1)) (refRules l rs near (a + 1)) oi) _ _ rfl rfl (List.Sublist.refl _) (List.Sublist.refl _) (by rw [hRn, hXn]; exact BxLe.refl _) (by rw [hRn]; exact PmEq_refl3 _) ⟨AVle.refl _, AVle.refl _, AVle.refl _, AVle.refl _, AVle.refl _, AVle.refl _, le_int (wrap_succ (by first | omega | (dsimp only; omega))), trivial⟩)
      · rw [if_neg h0] at hRn
        intro c hc
        obtain rfl : c = false := hc.trans (beq_eq_false_iff_ne.2 (by omega))
        (repeat((conv=>whnf);first|apply ω0|apply ω1|apply ω2|refine τ3 rfl ?_|refine τ4 rfl ?_|refine ⟨rfl,?_⟩|apply τa|refine τb rfl ?_|refine ⟨⟨by kernel_rfl,by kernel_rfl⟩,?_⟩|refine ⟨by decide,?_⟩|apply τt|apply τf))
        refine ⟨⟨by first | omega | (dsimp only; omega), by first | omega | (dsimp only; omega)⟩, ?_⟩
        (repeat((conv=>whnf);first|apply ω0|apply ω1|apply ω2|refine τ3 rfl ?_|refine τ4 rfl ?_|refine ⟨rfl,?_⟩|apply τa|refine τb rfl ?_|refine ⟨⟨by kernel_rfl,by kernel_rfl⟩,?_⟩|refine ⟨by decide,?_⟩|apply τt|apply τf))
        generalize hrow : l.getD a trow0 = row at hRn ⊢
        have hown0 : own.getD 0 rec0 ∈ own := getD_recs (by omega)
        generalize hA : argR (own.getD 0 rec0) = A at hRn
        generalize hB : refB near row own = B at hRn
        refine aw_loop (fun y : Nat × Option Nat × Nat => mk 116 [(0, trows l), (1, recs rs), (3, boolA near), (6, .bp (0, nx) 0), (8, .bp (1, nx + 1) 0), (9, .bp (2, nx + 2) 0), (10, int a), (11, recs own), (12, .bp (3, nx2) 0), (13, int y.1)] ⟨((3, nx2), .c [strA row.name, int 8, int 0, .os 4 (condsL A B y.1).length (cndF2 (condsL A B y.1)) (nmr y.2.1)]) :: polB nx k n x R oi, pmOf (nmr y.2.1) ((condsL A B y.1).length * 4) ++ pmOf (nmd oi) (R.length * 4), y.2.2, 4⟩)
          (fun y => y.1 ≤ 6 ∧ (y.2.1 = none → (condsL A B y.1).length = 0)) (fun y => 6 - y.1) ?_ ?_
        · exact ⟨(0, none, nx2 + 1), ⟨Nat.zero_le _, fun _ => rfl⟩, ele_tell (pm := pmOf (nmd oi) (R.length * 4)) (bx := ((3, nx2), .c [strA row.name, int 8, int 0, .os 4 0 (cndF2 []) none]) :: polB nx k n x R oi) _ _ rfl rfl (List.Sublist.refl _) (List.Sublist.refl _) (box_le rfl (AVle.of_eq (by rw [← hrow]; rfl)) (AVle.refl _) (AVle.refl _) AVle.os_nil) (PmEq_refl3 _) ⟨AVle.refl _, AVle.refl _, AVle.refl _, AVle.refl _, AVle.refl _, AVle.refl _, AVle.refl _, AVle.refl _, AVle.refl _, AVle.refl _, trivial⟩⟩
        · rintro ⟨kk, oc, nx3⟩ ⟨k3, k4⟩
          dsimp only at k3 k4
          (repeat((conv=>whnf);first|apply ω0|apply ω1|apply ω2|refine τ3 rfl ?_|refine τ4 rfl ?_|refine ⟨rfl,?_⟩|apply τa|refine τb rfl ?_|refine ⟨⟨by kernel_rfl,by kernel_rfl⟩,?_⟩|refine ⟨by decide,?_⟩|apply τt|apply τf))
          intro c g2; cases c
          · have g2 := not_of g2
            try dsimp only at g2
            obtain rfl : kk = 6 := by omega
            (repeat((conv=>whnf);first|apply ω0|apply ω1|apply ω2|refine τ3 rfl ?_|refine τ4 rfl ?_|refine ⟨rfl,?_⟩|apply τa|refine τb rfl ?_|refine ⟨⟨by kernel_rfl,by kernel_rfl⟩,?_⟩|refine ⟨by decide,?_⟩|apply τt|apply τf))
            have hRl2 : R.length ≤ 1000000 := by omega
            generalize hC6 : condsL A B 6 = C6 at k4 hRn ⊢
            refine aw_loop (fun y : Nat × Bool × Nat => mk 116 [(0, trows l), (1, recs rs), (3, boolA near), (6, .bp (0, nx) 0), (8, .bp (1, nx + 1) 0), (9, .bp (2, nx + 2) 0), (10, int a), (11, recs own), (12, .bp (3, nx2) 0), (16, int y.1)] ⟨((3, nx2), .c [strA row.name, int 8, int 0, cnds C6]) :: polB nx k n y.2.1 R oi, pmOf (nmd oi) (R.length * 4), y.2.2, 4⟩)
              (fun y => y.1 ≤ own.length ∧ y.2.1 = (x || (own.take y.1).any sel1)) (fun y => own.length - y.1) ?_ ?_
            · cases oc with
              | none => exact ⟨(0, x, nx3), ⟨Nat.zero_le _, by simp⟩, ele_tell (pm := pmOf (nmd oi) (R.length * 4)) (bx := ((3, nx2), .c [strA row.name, int 8, int 0, cnds C6]) :: polB nx k n x R oi) _ _ rfl rfl (List.Sublist.refl _) (List.Sublist.refl _) (box_le rfl (AVle.refl _) (AVle.refl _) (AVle.refl _) AVle.os_sl) (PmEq_refl3 _) ⟨AVle.refl _, AVle.refl _, AVle.refl _, AVle.refl _, AVle.refl _, AVle.refl _, AVle.refl _, AVle.refl _, AVle.refl _, AVle.refl _, trivial⟩⟩
              | some o1 => exact ⟨(0, x, nx3), ⟨Nat.zero_le _, by simp⟩, ele_tell (pm := pmOf (nmd oi) (R.length * 4)) (bx := ((3, nx2), .c [strA row.name, int 8, int 0, cnds C6]) :: polB nx k n x R oi) _ _ rfl rfl (List.Sublist.refl _) (.cons _ (List.Sublist.refl _)) (box_le rfl (AVle.refl _) (AVle.refl _) (AVle.refl _) AVle.os_sl) (PmEq_refl3 _) ⟨AVle.refl _, AVle.refl _, AVle.refl _, AVle.refl _, AVle.refl _, AVle.refl _, AVle.refl _, AVle.refl _, AVle.refl _, AVle.refl _, trivial⟩⟩
            · rintro ⟨i, v, nx4⟩ ⟨m3, m4⟩
              dsimp only at m3 m4
              (repeat((conv=>whnf);first|apply ω0|apply ω1|apply ω2|refine τ3 rfl ?_|refine τ4 rfl ?_|refine ⟨rfl,?_⟩|apply τa|refine τb rfl ?_|refine ⟨⟨by kernel_rfl,by kernel_rfl⟩,?_⟩|refine ⟨by decide,?_⟩|apply τt|apply τf))
              intro c g3; cases c
              · have g3 := not_of g3
                try dsimp only at g3
                have hio : i = own.length := by omega
                rw [hio, List.take_length, ← hXn] at m4
                have hlen : (refRules l rs near (a + 1)).length = R.length + 1 := by rw [hRn]; simp
                have hget : ∀ j, j < R.length → rulF2 R j = rulF2 (refRules l rs near (a + 1)) j := fun j hj => by unfold rulF2; rw [hRn, sn_get hj]
                have hlast : rulA ⟨row.name, (8, 0), C6⟩ = rulF2 (refRules l rs near (a + 1)) R.length := by unfold rulF2; rw [hRn, sn_last]
                (repeat((conv=>whnf);first|apply ω0|apply ω1|apply ω2|refine τ3 rfl ?_|refine τ4 rfl ?_|refine ⟨rfl,?_⟩|apply τa|refine τb rfl ?_|refine ⟨⟨by kernel_rfl,by kernel_rfl⟩,?_⟩|refine ⟨by decide,?_⟩|apply τt|apply τf))
                refine splitO_eq (b := rulA ⟨row.name, (8, 0), C6⟩) rfl ?_
                cases oi with
                | none =>
                  have hR0 := h4 rfl
                  (repeat((conv=>whnf);first|apply ω0|apply ω1|apply ω2|refine τ3 rfl ?_|refine τ4 rfl ?_|refine ⟨rfl,?_⟩|apply τa|refine τb rfl ?_|refine ⟨⟨by kernel_rfl,by kernel_rfl⟩,?_⟩|refine ⟨by decide,?_⟩|apply τt|apply τf))
                  refine ⟨oneRow_one rfl, by show (R.length + 1) * 56 ≤ _; omega, by omega, ?_⟩
                  (repeat((conv=>whnf);first|apply ω0|apply ω1|apply ω2|refine τ3 rfl ?_|refine τ4 rfl ?_|refine ⟨rfl,?_⟩|apply τa|refine τb rfl ?_|refine ⟨⟨by kernel_rfl,by kernel_rfl⟩,?_⟩|refine ⟨by decide,?_⟩|apply τt|apply τf))
                  exact back (a + 1, some nx4, nx4 + 1) ⟨hi, fun h => by cases h⟩ (by dsimp only; omega) (ele_tell (pm := [((0, nx4), (refRules l rs near (a + 1)).length * 4)]) (bx := polB nx k n (refX l rs (a + 1)) (refRules l rs near (a + 1)) (some nx4)) _ _ rfl rfl (.cons _ (List.Sublist.refl _)) (List.Sublist.refl _) (box_le rfl (AVle.refl _) (AVle.refl _) (AVle.of_eq (by rw [m4])) (by rw [hlen]; exact (AVle.os_fun (appF_one hget hlast)).trans (AVle.os_nm rfl))) (by rw [hlen]; exact ⟨rfl, rfl, trivial⟩) ⟨AVle.refl _, AVle.refl _, AVle.refl _, AVle.refl _, AVle.refl _, AVle.refl _, le_int (wrap_succ (by first | omega | (dsimp only; omega))), trivial⟩)
                | some o1 =>
                  (repeat((conv=>whnf);first|apply ω0|apply ω1|apply ω2|refine τ3 rfl ?_|refine τ4 rfl ?_|refine ⟨rfl,?_⟩|apply τa|refine τb rfl ?_|refine ⟨⟨by kernel_rfl,by kernel_rfl⟩,?_⟩|refine ⟨by decide,?_⟩|apply τt|apply τf))
                  refine ⟨oneRow_one rfl, by show (R.length + 1) * 56 ≤ _; omega, by omega, ?_⟩
                  (repeat((conv=>whnf);first|apply ω0|apply ω1|apply ω2|refine τ3 rfl ?_|refine τ4 rfl ?_|refine ⟨rfl,?_⟩|apply τa|refine τb rfl ?_|refine ⟨⟨by kernel_rfl,by kernel_rfl⟩,?_⟩|refine ⟨by decide,?_⟩|apply τt|apply τf))
                  exact back (a + 1, some nx4, nx4 + 1) ⟨hi, fun h => by cases h⟩ (by dsimp only; omega) (ele_tell (pm := [((0, nx4), (refRules l rs near (a + 1)).length * 4)]) (bx := polB nx k n (refX l rs (a + 1)) (refRules l rs near (a + 1)) (some nx4)) _ _ rfl rfl (.cons _ (List.Sublist.refl _)) (List.Sublist.refl _) (box_le rfl (AVle.refl _) (AVle.refl _) (AVle.of_eq (by rw [m4])) (by rw [hlen]; exact (AVle.os_fun (appF_one hget hlast)).trans (AVle.os_nm rfl))) (by rw [hlen]; exact ⟨rfl, rfl, trivial⟩) ⟨AVle.refl _, AVle.refl _, AVle.refl _, AVle.refl _, AVle.refl _, AVle.refl _, le_int (wrap_succ (by first | omega | (dsimp only; omega))), trivial⟩)
              · have g3 := yes_of g3
                try dsimp only at g3
                have hio : i < own.length := by omega
                have hany := any_take (p := sel1) hio
                have hokr := hok _ (getD_recs hio)
                have hsel := ref08sel_spec (own.getD i rec0).arch (own.getD i rec0).num hokr.2.1 hokr.1
                (repeat((conv=>whnf);first|apply ω0|apply ω1|apply ω2|refine τ3 rfl ?_|refine τ4 rfl ?_|refine ⟨rfl,?_⟩|apply τa|refine τb rfl ?_|refine ⟨⟨by kernel_rfl,by kernel_rfl⟩,?_⟩|refine ⟨by decide,?_⟩|apply τt|apply τf))
                cases v with
                | true =>
                  refine aw_mixN 16 _ (fun _ => false) (fun i => match i with | 13 => true | _ => false) [0, 1, 2, 3, 4, 5, 6, 7, 8, 9, 10, 11, 12, 13, 14, 15] (by kernel_rfl) (by kernel_rfl) (HB.refl _) ?_
                  (repeat((conv=>whnf);first|apply ω0|apply ω1|apply ω2|refine τ3 rfl ?_|refine τ4 rfl ?_|refine ⟨rfl,?_⟩|apply τa|refine τb rfl ?_|refine ⟨⟨by kernel_rfl,by kernel_rfl⟩,?_⟩|refine ⟨by decide,?_⟩|apply τt|apply τf))
                  refine ⟨_, pure_no rfl rfl rfl, ?_⟩
                  (repeat((conv=>whnf);first|apply ω0|apply ω1|apply ω2|refine τ3 rfl ?_|refine τ4 rfl ?_|refine ⟨rfl,?_⟩|apply τa|refine τb rfl ?_|refine ⟨⟨by kernel_rfl,by kernel_rfl⟩,?_⟩|refine ⟨by decide,?_⟩|apply τt|apply τf))
                  refine ⟨_, pure_no rfl rfl rfl, ?_⟩
                  (repeat((conv=>whnf);first|apply ω0|apply ω1|apply ω2|refine τ3 rfl ?_|refine τ4 rfl ?_|refine ⟨rfl,?_⟩|apply τa|refine τb rfl ?_|refine ⟨⟨by kernel_rfl,by kernel_rfl⟩,?_⟩|refine ⟨by decide,?_⟩|apply τt|apply τf))
                  refine ⟨_, pure_no rfl rfl rfl, ?_⟩
                  (repeat((conv=>whnf);first|apply ω0|apply ω1|apply ω2|refine τ3 rfl ?_|refine τ4 rfl ?_|refine ⟨rfl,?_⟩|apply τa|refine τb rfl ?_|refine ⟨⟨by kernel_rfl,by kernel_rfl⟩,?_⟩|refine ⟨by decide,?_⟩|apply τt|apply τf))
                  refine ⟨_, pure_no rfl rfl rfl, ?_⟩
                  (repeat((conv=>whnf);first|apply ω0|apply ω1|apply ω2|refine τ3 rfl ?_|refine τ4 rfl ?_|refine ⟨rfl,?_⟩|apply τa|refine τb rfl ?_|refine ⟨⟨by kernel_rfl,by kernel_rfl⟩,?_⟩|refine ⟨by decide,?_⟩|apply τt|apply τf))
                  refine ⟨_, pure_no rfl rfl rfl, ?_⟩
                  (repeat((conv=>whnf);first|apply ω0|apply ω1|apply ω2|refine τ3 rfl ?_|refine τ4 rfl ?_|refine ⟨rfl,?_⟩|apply τa|refine τb rfl ?_|refine ⟨⟨by kernel_rfl,by kernel_rfl⟩,?_⟩|refine ⟨by decide,?_⟩|apply τt|apply τf))
                  refine ⟨_, pure_no rfl rfl rfl, ?_⟩
                  (repeat((conv=>whnf);first|apply ω0|apply ω1|apply ω2|refine τ3 rfl ?_|refine τ4 rfl ?_|refine ⟨rfl,?_⟩|apply τa|refine τb rfl ?_|refine ⟨⟨by kernel_rfl,by kernel_rfl⟩,?_⟩|refine ⟨by decide,?_⟩|apply τt|apply τf))
                  refine ⟨_, pure_no rfl rfl rfl, ?_⟩
                  (repeat((conv=>whnf);first|apply ω0|apply ω1|apply ω2|refine τ3 rfl ?_|refine τ4 rfl ?_|refine ⟨rfl,?_⟩|apply τa|refine τb rfl ?_|refine ⟨⟨by kernel_rfl,by kernel_rfl⟩,?_⟩|refine ⟨by decide,?_⟩|apply τt|apply τf))
                  refine ⟨_, pure_no rfl rfl rfl, ?_⟩
                  (repeat((conv=>whnf);first|apply ω0|apply ω1|apply ω2|refine τ3 rfl ?_|refine τ4 rfl ?_|refine ⟨rfl,?_⟩|apply τa|refine τb rfl ?_|refine ⟨⟨by kernel_rfl,by kernel_rfl⟩,?_⟩|refine ⟨by decide,?_⟩|apply τt|apply τf))
                  refine ⟨_, pure_no rfl rfl rfl, ?_⟩
                  (repeat((conv=>whnf);first|apply ω0|apply ω1|apply ω2|refine τ3 rfl ?_|refine τ4 rfl ?_|refine ⟨rfl,?_⟩|apply τa|refine τb rfl ?_|refine ⟨⟨by kernel_rfl,by kernel_rfl⟩,?_⟩|refine ⟨by decide,?_⟩|apply τt|apply τf))
                  refine ⟨_, pure_no rfl rfl rfl, ?_⟩
                  (repeat((conv=>whnf);first|apply ω0|apply ω1|apply ω2|refine τ3 rfl ?_|refine τ4 rfl ?_|refine ⟨rfl,?_⟩|apply τa|refine τb rfl ?_|refine ⟨⟨by kernel_rfl,by kernel_rfl⟩,?_⟩|refine ⟨by decide,?_⟩|apply τt|apply τf))
                  refine ⟨_, pure_no rfl rfl rfl, ?_⟩
                  (repeat((conv=>whnf);first|apply ω0|apply ω1|apply ω2|refine τ3 rfl ?_|refine τ4 rfl ?_|refine ⟨rfl,?_⟩|apply τa|refine τb rfl ?_|refine ⟨⟨by kernel_rfl,by kernel_rfl⟩,?_⟩|refine ⟨by decide,?_⟩|apply τt|apply τf))
                  refine ⟨_, pure_no rfl rfl rfl, ?_⟩
                  (repeat((conv=>whnf);first|apply ω0|apply ω1|apply ω2|refine τ3 rfl ?_|refine τ4 rfl ?_|refine ⟨rfl,?_⟩|apply τa|refine τb rfl ?_|refine ⟨⟨by kernel_rfl,by kernel_rfl⟩,?_⟩|refine ⟨by decide,?_⟩|apply τt|apply τf))
                  exact back (i + 1, true, nx4) ⟨hio, by dsimp only; rw [hany, ← Bool.or_assoc, ← m4]; rfl⟩ (by dsimp only; omega) (ele_tell (pm := pmOf (nmd oi) (R.length * 4)) (bx := ((3, nx2), .c [strA row.name, int 8, int 0, cnds C6]) :: polB nx k n true R oi) _ _ rfl rfl (List.Sublist.refl _) (List.Sublist.refl _) (BxLe.refl _) (PmEq_refl3 _) ⟨AVle.refl _, AVle.refl _, AVle.refl _, AVle.refl _, AVle.refl _, AVle.refl _, AVle.refl _, AVle.refl _, AVle.refl _, le_int (wrap_succ (by first | omega | (dsimp only; omega))), trivial⟩)
                | false =>
                  have hs1 : (selI (own.getD i rec0).arch (own.getD i rec0).num == 1) = sel1 (own.getD i rec0) := by unfold sel1; rw [Bool.eq_iff_iff]; simp
                  refine aw_mixN 16 _ (fun _ => false) (fun i => match i with | 13 => true | _ => false) [0, 1, 2, 3, 4, 5, 6, 7, 8, 9, 10, 11, 12, 13, 14, 15] (by kernel_rfl) (by kernel_rfl) (HB.refl _) ?_
                  (repeat((conv=>whnf);first|apply ω0|apply ω1|apply ω2|refine τ3 rfl ?_|refine τ4 rfl ?_|refine ⟨rfl,?_⟩|apply τa|refine τb rfl ?_|refine ⟨⟨by kernel_rfl,by kernel_rfl⟩,?_⟩|refine ⟨by decide,?_⟩|apply τt|apply τf))
                  refine ⟨_, pure_yes rfl rfl rfl rfl trivial, ?_⟩
                  (repeat((conv=>whnf);first|apply ω0|apply ω1|apply ω2|refine τ3 rfl ?_|refine τ4 rfl ?_|refine ⟨rfl,?_⟩|apply τa|refine τb rfl ?_|refine ⟨⟨by kernel_rfl,by kernel_rfl⟩,?_⟩|refine ⟨by decide,?_⟩|apply τt|apply τf))
                  refine ⟨_, pure_yes rfl rfl rfl rfl trivial, ?_⟩
                  (repeat((conv=>whnf);first|apply ω0|apply ω1|apply ω2|refine τ3 rfl ?_|refine τ4 rfl ?_|refine ⟨rfl,?_⟩|apply τa|refine τb rfl ?_|refine ⟨⟨by kernel_rfl,by kernel_rfl⟩,?_⟩|refine ⟨by decide,?_⟩|apply τt|apply τf))
                  refine ⟨_, pure_yes rfl rfl rfl rfl ⟨by first | omega | (dsimp only; omega), by first | omega | (dsimp only; omega)⟩, ?_⟩
                  (repeat((conv=>whnf);first|apply ω0|apply ω1|apply ω2|refine τ3 rfl ?_|refine τ4 rfl ?_|refine ⟨rfl,?_⟩|apply τa|refine τb rfl ?_|refine ⟨⟨by kernel_rfl,by kernel_rfl⟩,?_⟩|refine ⟨by decide,?_⟩|apply τt|apply τf))
                  refine splitV_to (b := .rp (recC (own.getD i rec0))) rfl ?_
                  (repeat((conv=>whnf);first|apply ω0|apply ω1|apply ω2|refine τ3 rfl ?_|refine τ4 rfl ?_|refine ⟨rfl,?_⟩|apply τa|refine τb rfl ?_|refine ⟨⟨by kernel_rfl,by kernel_rfl⟩,?_⟩|refine ⟨by decide,?_⟩|apply τt|apply τf))
                  refine ⟨_, pure_yes rfl rfl rfl rfl trivial, ?_⟩
                  (repeat((conv=>whnf);first|apply ω0|apply ω1|apply ω2|refine τ3 rfl ?_|refine τ4 rfl ?_|refine ⟨rfl,?_⟩|apply τa|refine τb rfl ?_|refine ⟨⟨by kernel_rfl,by kernel_rfl⟩,?_⟩|refine ⟨by decide,?_⟩|apply τt|apply τf))
                  refine ⟨_, pure_yes rfl rfl rfl rfl trivial, ?_⟩
                  (repeat((conv=>whnf);first|apply ω0|apply ω1|apply ω2|refine τ3 rfl ?_|refine τ4 rfl ?_|refine ⟨rfl,?_⟩|apply τa|refine τb rfl ?_|refine ⟨⟨by kernel_rfl,by kernel_rfl⟩,?_⟩|refine ⟨by decide,?_⟩|apply τt|apply τf))
                  refine ⟨_, pure_yes rfl rfl rfl rfl trivial, ?_⟩
                  (repeat((conv=>whnf);first|apply ω0|apply ω1|apply ω2|refine τ3 rfl ?_|refine τ4 rfl ?_|refine ⟨rfl,?_⟩|apply τa|refine τb rfl ?_|refine ⟨⟨by kernel_rfl,by kernel_rfl⟩,?_⟩|refine ⟨by decide,?_⟩|apply τt|apply τf))
                  refine ⟨_, pure_yes rfl rfl rfl rfl trivial, ?_⟩
                  (repeat((conv=>whnf);first|apply ω0|apply ω1|apply ω2|refine τ3 rfl ?_|refine τ4 rfl ?_|refine ⟨rfl,?_⟩|apply τa|refine τb rfl ?_|refine ⟨⟨by kernel_rfl,by kernel_rfl⟩,?_⟩|refine ⟨by decide,?_⟩|apply τt|apply τf))
                  refine ⟨_, pure_yes rfl rfl rfl rfl ⟨by first | omega | (dsimp only; omega), by first | omega | (dsimp only; omega)⟩, ?_⟩
                  (repeat((conv=>whnf);first|apply ω0|apply ω1|apply ω2|refine τ3 rfl ?_|refine τ4 rfl ?_|refine ⟨rfl,?_⟩|apply τa|refine τb rfl ?_|refine ⟨⟨by kernel_rfl,by kernel_rfl⟩,?_⟩|refine ⟨by decide,?_⟩|apply τt|apply τf))
                  refine splitV_to (b := .rp (recC (own.getD i rec0))) rfl ?_
                  (repeat((conv=>whnf);first|apply ω0|apply ω1|apply ω2|refine τ3 rfl ?_|refine τ4 rfl ?_|refine ⟨rfl,?_⟩|apply τa|refine τb rfl ?_|refine ⟨⟨by kernel_rfl,by kernel_rfl⟩,?_⟩|refine ⟨by decide,?_⟩|apply τt|apply τf))
                  refine ⟨_, pure_yes rfl rfl rfl rfl trivial, ?_⟩
                  (repeat((conv=>whnf);first|apply ω0|apply ω1|apply ω2|refine τ3 rfl ?_|refine τ4 rfl ?_|refine ⟨rfl,?_⟩|apply τa|refine τb rfl ?_|refine ⟨⟨by kernel_rfl,by kernel_rfl⟩,?_⟩|refine ⟨by decide,?_⟩|apply τt|apply τf))
                  refine ⟨_, pure_yes rfl rfl rfl rfl trivial, ?_⟩
                  (repeat((conv=>whnf);first|apply ω0|apply ω1|apply ω2|refine τ3 rfl ?_|refine τ4 rfl ?_|refine ⟨rfl,?_⟩|apply τa|refine τb rfl ?_|refine ⟨⟨by kernel_rfl,by kernel_rfl⟩,?_⟩|refine ⟨by decide,?_⟩|apply τt|apply τf))
                  refine ⟨_, pure_yesT rfl rfl rfl rfl rfl hsel ⟨AVle.refl _, AVle.refl _, trivial⟩ (NoId.v _), ?_⟩
                  (repeat((conv=>whnf);first|apply ω0|apply ω1|apply ω2|refine τ3 rfl ?_|refine τ4 rfl ?_|refine ⟨rfl,?_⟩|apply τa|refine τb rfl ?_|refine ⟨⟨by kernel_rfl,by kernel_rfl⟩,?_⟩|refine ⟨by decide,?_⟩|apply τt|apply τf))
                  cases hs : sel1 (own.getD i rec0) with
                  | true =>
                    refine ⟨.v (.bool true), pure_yesB rfl rfl rfl rfl trivial (hs1.trans hs), ?_⟩
                    (repeat((conv=>whnf);first|apply ω0|apply ω1|apply ω2|refine τ3 rfl ?_|refine τ4 rfl ?_|refine ⟨rfl,?_⟩|apply τa|refine τb rfl ?_|refine ⟨⟨by kernel_rfl,by kernel_rfl⟩,?_⟩|refine ⟨by decide,?_⟩|apply τt|apply τf))
                    exact back (i + 1, true, nx4) ⟨hio, by dsimp only; rw [hany, hs, Bool.or_true, Bool.or_true]⟩ (by dsimp only; omega) (ele_tell (pm := pmOf (nmd oi) (R.length * 4)) (bx := ((3, nx2), .c [strA row.name, int 8, int 0, cnds C6]) :: polB nx k n true R oi) _ _ rfl rfl (List.Sublist.refl _) (List.Sublist.refl _) (BxLe.refl _) (PmEq_refl3 _) ⟨AVle.refl _, AVle.refl _, AVle.refl _, AVle.refl _, AVle.refl _, AVle.refl _, AVle.refl _, AVle.refl _, AVle.refl _, le_int (wrap_succ (by first | omega | (dsimp only; omega))), trivial⟩)
                  | false =>
                    refine ⟨.v (.bool false), pure_yesB rfl rfl rfl rfl trivial (hs1.trans hs), ?_⟩
                    (repeat((conv=>whnf);first|apply ω0|apply ω1|apply ω2|refine τ3 rfl ?_|refine τ4 rfl ?_|refine ⟨rfl,?_⟩|apply τa|refine τb rfl ?_|refine ⟨⟨by kernel_rfl,by kernel_rfl⟩,?_⟩|refine ⟨by decide,?_⟩|apply τt|apply τf))
                    exact back (i + 1, false, nx4) ⟨hio, by dsimp only; rw [hany, hs, Bool.or_false, ← m4]⟩ (by dsimp only; omega) (ele_tell (pm := pmOf (nmd oi) (R.length * 4)) (bx := ((3, nx2), .c [strA row.name, int 8, int 0, cnds C6]) :: polB nx k n false R oi) _ _ rfl rfl (List.Sublist.refl _) (List.Sublist.refl _) (BxLe.refl _) (PmEq_refl3 _) ⟨AVle.refl _, AVle.refl _, AVle.refl _, AVle.refl _, AVle.refl _, AVle.refl _, AVle.refl _, AVle.refl _, AVle.refl _, le_int (wrap_succ (by first | omega | (dsimp only; omega))), trivial⟩)
          · have g2 := yes_of g2
            try dsimp only at g2
            have hk6 : kk < 6 := by omega
            have hCn := condsL_succ (a := A) (b := B) (n := kk)
            have hCl := condsL_le (a := A) (b := B) (n := kk)
            generalize hC : condsL A B kk = C at k4 hCn hCl ⊢
            generalize hs0 : (near && decide (row.mux = 0)) = s0
            have hBk : B kk = (s0 && own.all fun r => decide (argR r kk = A kk)) := by rw [← hB, ← hs0, ← hA]; rfl
            have harg0 := arg26_spec (own.getD 0 rec0) kk hk6 (hok _ hown0)
            rw [hA] at harg0
            (repeat((conv=>whnf);first|apply ω0|apply ω2|refine τ3 rfl ?_|refine τ4 rfl ?_|refine ⟨rfl,?_⟩|apply τa|refine τb rfl ?_|refine ⟨⟨by kernel_rfl,by kernel_rfl⟩,?_⟩|refine ⟨by decide,?_⟩|apply τt|apply τf))
            refine aw_mid (fun y : Nat => mk 116 [(0, trows l), (1, recs rs), (3, boolA near), (6, .bp (0, nx) 0), (8, .bp (1, nx + 1) 0), (9, .bp (2, nx + 2) 0), (10, int a), (11, recs own), (12, .bp (3, nx2) 0), (13, int kk), (14, boolA s0)] ⟨((3, nx2), .c [strA row.name, int 8, int 0, .os 4 C.length (cndF2 C) (nmr oc)]) :: polB nx k n x R oi, pmOf (nmr oc) (C.length * 4) ++ pmOf (nmd oi) (R.length * 4), y, 4⟩)
              (fun _ => True) ?_ ?_
            · refine aw_region ?_
              cases near
              · (repeat((conv=>whnf);first|apply ω0|apply ω1|apply ω2|refine τ3 rfl ?_|refine τ4 rfl ?_|refine ⟨rfl,?_⟩|apply τa|refine τb rfl ?_|refine ⟨⟨by kernel_rfl,by kernel_rfl⟩,?_⟩|refine ⟨by decide,?_⟩|apply τt|apply τf))
                exact ⟨nx3, trivial, ele_tell (pm := pmOf (nmr oc) (C.length * 4) ++ pmOf (nmd oi) (R.length * 4)) (bx := ((3, nx2), .c [strA row.name, int 8, int 0, .os 4 C.length (cndF2 C) (nmr oc)]) :: polB nx k n x R oi) _ _ rfl rfl (List.Sublist.refl _) (List.Sublist.refl _) (BxLe.refl _) (PmEq_refl3 _) ⟨AVle.refl _, AVle.refl _, AVle.refl _, AVle.refl _, AVle.refl _, AVle.refl _, AVle.refl _, AVle.refl _, AVle.refl _, AVle.refl _, AVle.of_eq (by rw [← hs0]; rfl), trivial⟩⟩
              · (repeat((conv=>whnf);first|apply ω0|apply ω1|apply ω2|refine τ3 rfl ?_|refine τ4 rfl ?_|refine ⟨rfl,?_⟩|apply τa|refine τb rfl ?_|refine ⟨⟨by kernel_rfl,by kernel_rfl⟩,?_⟩|refine ⟨by decide,?_⟩|apply τt|apply τf))
                refine ⟨⟨by first | omega | (dsimp only; omega), by first | omega | (dsimp only; omega)⟩, ?_⟩
                (repeat((conv=>whnf);first|apply ω0|apply ω1|apply ω2|refine τ3 rfl ?_|refine τ4 rfl ?_|refine ⟨rfl,?_⟩|apply τa|refine τb rfl ?_|refine ⟨⟨by kernel_rfl,by kernel_rfl⟩,?_⟩|refine ⟨by decide,?_⟩|apply τt|apply τf))
                intro c hc
                have hc2 : c = s0 := hc.trans (by rw [← hs0, Bool.true_and, ← hrow, Int.toNat_natCast, Bool.eq_iff_iff, beq_iff_eq, decide_eq_true_iff])
                clear hc
                subst hc2
                (repeat((conv=>whnf);first|apply ω0|apply ω1|apply ω2|refine τ3 rfl ?_|refine τ4 rfl ?_|refine ⟨rfl,?_⟩|apply τa|refine τb rfl ?_|refine ⟨⟨by kernel_rfl,by kernel_rfl⟩,?_⟩|refine ⟨by decide,?_⟩|apply τt|apply τf))
                exact ⟨nx3, trivial, ele_tell (pm := pmOf (nmr oc) (C.length * 4) ++ pmOf (nmd oi) (R.length * 4)) (bx := ((3, nx2), .c [strA row.name, int 8, int 0, .os 4 C.length (cndF2 C) (nmr oc)]) :: polB nx k n x R oi) _ _ rfl rfl (List.Sublist.refl _) (List.Sublist.refl _) (BxLe.refl _) (PmEq_refl3 _) ⟨AVle.refl _, AVle.refl _, AVle.refl _, AVle.refl _, AVle.refl _, AVle.refl _, AVle.refl _, AVle.refl _, AVle.refl _, AVle.refl _, AVle.refl _, trivial⟩⟩
            · rintro nx4 -
              (repeat((conv=>whnf);first|apply ω0|apply ω1|apply ω2|refine τ3 rfl ?_|refine τ4 rfl ?_|refine ⟨rfl,?_⟩|apply τa|refine τb rfl ?_|refine ⟨⟨by kernel_rfl,by kernel_rfl⟩,?_⟩|refine ⟨by decide,?_⟩|apply τt|apply τf))
              refine aw_loop (fun y : Nat × Bool × Nat => mk 116 [(0, trows l), (1, recs rs), (3, boolA near), (6, .bp (0, nx) 0), (8, .bp (1, nx + 1) 0), (9, .bp (2, nx + 2) 0), (10, int a), (11, recs own), (12, .bp (3, nx2) 0), (13, int kk), (14, boolA y.2.1), (15, int y.1)] ⟨((3, nx2), .c [strA row.name, int 8, int 0, .os 4 C.length (cndF2 C) (nmr oc)]) :: polB nx k n x R oi, pmOf (nmr oc) (C.length * 4) ++ pmOf (nmd oi) (R.length * 4), y.2.2, 4⟩)
                (fun y => y.1 ≤ own.length ∧ y.2.1 = (s0 && (own.take y.1).all fun r => decide (argR r kk = A kk))) (fun y => own.length - y.1) ?_ ?_
              · exact ⟨(0, s0, nx4), ⟨Nat.zero_le _, by simp⟩, ele_tell (pm := pmOf (nmr oc) (C.length * 4) ++ pmOf (nmd oi) (R.length * 4)) (bx := ((3, nx2), .c [strA row.name, int 8, int 0, .os 4 C.length (cndF2 C) (nmr oc)]) :: polB nx k n x R oi) _ _ rfl rfl (List.Sublist.refl _) (List.Sublist.refl _) (BxLe.refl _) (PmEq_refl3 _) ⟨AVle.refl _, AVle.refl _, AVle.refl _, AVle.refl _, AVle.refl _, AVle.refl _, AVle.refl _, AVle.refl _, AVle.refl _, AVle.refl _, AVle.refl _, AVle.refl _, trivial⟩⟩
              · rintro ⟨i, v, nx5⟩ ⟨m3, m4⟩
                dsimp only at m3 m4
                (repeat((conv=>whnf);first|apply ω0|apply ω1|apply ω2|refine τ3 rfl ?_|refine τ4 rfl ?_|refine ⟨rfl,?_⟩|apply τa|refine τb rfl ?_|refine ⟨⟨by kernel_rfl,by kernel_rfl⟩,?_⟩|refine ⟨by decide,?_⟩|apply τt|apply τf))
                intro c g3; cases c
                · have g3 := not_of g3
                  try dsimp only at g3
                  have hio : i = own.length := by omega
                  rw [hio, List.take_length, ← hBk] at m4
                  cases v with
                  | false =>
                    rw [if_neg (by rw [← m4]; decide)] at hCn
                    (repeat((conv=>whnf);first|apply ω0|apply ω1|apply ω2|refine τ3 rfl ?_|refine τ4 rfl ?_|refine ⟨rfl,?_⟩|apply τa|refine τb rfl ?_|refine ⟨⟨by kernel_rfl,by kernel_rfl⟩,?_⟩|refine ⟨by decide,?_⟩|apply τt|apply τf))
                    exact back (kk + 1, oc, nx5) ⟨hk6, fun h => by dsimp only; rw [hCn]; exact k4 h⟩ (by dsimp only; omega) (ele_tell (pm := pmOf (nmr oc) ((condsL A B (kk + 1)).length * 4) ++ pmOf (nmd oi) (R.length * 4)) (bx := ((3, nx2), .c [strA row.name, int 8, int 0, .os 4 (condsL A B (kk + 1)).length (cndF2 (condsL A B (kk + 1))) (nmr oc)]) :: polB nx k n x R oi) _ _ rfl rfl (List.Sublist.refl _) (List.Sublist.refl _) (by rw [hCn]; exact BxLe.refl _) (by rw [hCn]; exact PmEq_refl3 _) ⟨AVle.refl _, AVle.refl _, AVle.refl _, AVle.refl _, AVle.refl _, AVle.refl _, AVle.refl _, AVle.refl _, AVle.refl _, le_int (wrap_succ (by first | omega | (dsimp only; omega))), trivial⟩)
                  | true =>
                    rw [if_pos m4.symm] at hCn
                    have hlen : (condsL A B (kk + 1)).length = C.length + 1 := by rw [hCn]; simp
                    have hget : ∀ j, j < C.length → cndF2 C j = cndF2 (condsL A B (kk + 1)) j := fun j hj => by unfold cndF2; rw [hCn, csnoc_get hj]
                    have hlast : cndA (condK A kk) = cndF2 (condsL A B (kk + 1)) C.length := by unfold cndF2; rw [hCn, csnoc_last]
                    (repeat((conv=>whnf);first|apply ω0|apply ω1|apply ω2|refine τ3 rfl ?_|refine τ4 rfl ?_|refine ⟨rfl,?_⟩|apply τa|refine τb rfl ?_|refine ⟨⟨by kernel_rfl,by kernel_rfl⟩,?_⟩|refine ⟨by decide,?_⟩|apply τt|apply τf))
                    refine aw_mixN 11 (((3, nx2), .c [strA row.name, int 8, int 0, .os 4 C.length (cndF2 C) (nmr oc)]) :: polB nx k n x R oi) (fun i => match i with | 10 => true | _ => false) (fun i => match i with | 7 => true | _ => false) [0, 1, 2, 3, 4, 5, 6, 7, 8, 9, 10] (by kernel_rfl) (by kernel_rfl) (HB.refl _) ?_
                    (repeat((conv=>whnf);first|apply ω0|apply ω1|apply ω2|refine τ3 rfl ?_|refine τ4 rfl ?_|refine ⟨rfl,?_⟩|apply τa|refine τb rfl ?_|refine ⟨⟨by kernel_rfl,by kernel_rfl⟩,?_⟩|refine ⟨by decide,?_⟩|apply τt|apply τf))
                    refine ⟨⟨by first | omega | (dsimp only; omega), by first | omega | (dsimp only; omega)⟩, ?_⟩
                    (repeat((conv=>whnf);first|apply ω0|apply ω1|apply ω2|refine τ3 rfl ?_|refine τ4 rfl ?_|refine ⟨rfl,?_⟩|apply τa|refine τb rfl ?_|refine ⟨⟨by kernel_rfl,by kernel_rfl⟩,?_⟩|refine ⟨by decide,?_⟩|apply τt|apply τf))
                    refine splitV_to (b := .rp (recC (own.getD 0 rec0))) rfl ?_
                    (repeat((conv=>whnf);first|apply ω0|apply ω1|apply ω2|refine τ3 rfl ?_|refine τ4 rfl ?_|refine ⟨rfl,?_⟩|apply τa|refine τb rfl ?_|refine ⟨⟨by kernel_rfl,by kernel_rfl⟩,?_⟩|refine ⟨by decide,?_⟩|apply τt|apply τf))
                    refine ⟨_, pure_tells rfl rfl rfl harg0 ⟨AVle.refl _, AVle.refl _, trivial⟩ (NoId.v _), ?_⟩
                    (repeat((conv=>whnf);first|apply ω0|apply ω1|apply ω2|refine τ3 rfl ?_|refine τ4 rfl ?_|refine ⟨rfl,?_⟩|apply τa|refine τb rfl ?_|refine ⟨⟨by kernel_rfl,by kernel_rfl⟩,?_⟩|refine ⟨by decide,?_⟩|apply τt|apply τf))
                    cases oc with
                    | none =>
                      have hC0 := k4 rfl
                      refine ⟨_, eff_append1 (e := 105) (c := 4) (pm := pmOf (nmd oi) (R.length * 4)) (n := C.length) (oi := none) (sz := 4) (f := cndF2 C) (HB.refl _) rfl rfl rfl (.inr ⟨_, rfl⟩) (by kernel_rfl) (by kernel_rfl) (by kernel_rfl) (.inr rfl) (by kernel_rfl) rfl (oneRow_one rfl) (by rw [bytes_cnd26]; omega) (by omega), fun r h' hr => ?_⟩
                      obtain ⟨rfl, rfl⟩ := hr
                      (repeat((conv=>whnf);first|apply ω0|apply ω1|apply ω2|refine τ3 rfl ?_|refine τ4 rfl ?_|refine ⟨rfl,?_⟩|apply τa|refine τb rfl ?_|refine ⟨⟨by kernel_rfl,by kernel_rfl⟩,?_⟩|refine ⟨by decide,?_⟩|apply τt|apply τf))
                      exact back (kk + 1, some nx5, nx5 + 1) ⟨hk6, fun h => by cases h⟩ (by dsimp only; omega) (ele_tell (pm := ((1, nx5), (condsL A B (kk + 1)).length * 4) :: pmOf (nmd oi) (R.length * 4)) (bx := ((3, nx2), .c [strA row.name, int 8, int 0, .os 4 (condsL A B (kk + 1)).length (cndF2 (condsL A B (kk + 1))) (nmr (some nx5))]) :: polB nx k n x R oi) _ _ rfl rfl (List.Sublist.refl _) (List.Sublist.refl _) (box_le rfl (AVle.refl _) (AVle.refl _) (AVle.refl _) (by rw [hlen]; exact (AVle.os_fun (appF_one hget hlast)).trans (AVle.os_nm rfl))) (by rw [hlen]; exact ⟨rfl, rfl, PmEq_refl3 _⟩) ⟨AVle.refl _, AVle.refl _, AVle.refl _, AVle.refl _, AVle.refl _, AVle.refl _, AVle.refl _, AVle.refl _, AVle.refl _, le_int (wrap_succ (by first | omega | (dsimp only; omega))), trivial⟩)
                    | some o1 =>
                      refine ⟨_, eff_append1 (e := 105) (c := 4) (pm := pmOf (nmd oi) (R.length * 4)) (n := C.length) (oi := some (1, o1)) (sz := 4) (f := cndF2 C) (HB.refl _) rfl rfl rfl (.inr ⟨_, rfl⟩) (by kernel_rfl) (by kernel_rfl) (by kernel_rfl) (.inr rfl) (by kernel_rfl) rfl (oneRow_one rfl) (by rw [bytes_cnd26]; omega) (by omega), fun r h' hr => ?_⟩
                      obtain ⟨rfl, rfl⟩ := hr
                      (repeat((conv=>whnf);first|apply ω0|apply ω1|apply ω2|refine τ3 rfl ?_|refine τ4 rfl ?_|refine ⟨rfl,?_⟩|apply τa|refine τb rfl ?_|refine ⟨⟨by kernel_rfl,by kernel_rfl⟩,?_⟩|refine ⟨by decide,?_⟩|apply τt|apply τf))
                      exact back (kk + 1, some nx5, nx5 + 1) ⟨hk6, fun h => by cases h⟩ (by dsimp only; omega) (ele_tell (pm := ((1, nx5), (condsL A B (kk + 1)).length * 4) :: pmOf (nmd oi) (R.length * 4)) (bx := ((3, nx2), .c [strA row.name, int 8, int 0, .os 4 (condsL A B (kk + 1)).length (cndF2 (condsL A B (kk + 1))) (nmr (some nx5))]) :: polB nx k n x R oi) _ _ rfl rfl (List.Sublist.refl _) (List.Sublist.refl _) (box_le rfl (AVle.refl _) (AVle.refl _) (AVle.refl _) (by rw [hlen]; exact (AVle.os_fun (appF_one hget hlast)).trans (AVle.os_nm rfl))) (by rw [hlen]; exact ⟨rfl, rfl, PmEq_refl3 _⟩) ⟨AVle.refl _, AVle.refl _, AVle.refl _, AVle.refl _, AVle.refl _, AVle.refl _, AVle.refl _, AVle.refl _, AVle.refl _, le_int (wrap_succ (by first | omega | (dsimp only; omega))), trivial⟩)
                · have g3 := yes_of g3
                  try dsimp only at g3
                  have hio : i < own.length := by omega
                  have hall := all_take (p := fun r => decide (argR r kk = A kk)) hio
                  have hargi := arg26_spec (own.getD i rec0) kk hk6 (hok _ (getD_recs hio))
                  (repeat((conv=>whnf);first|apply ω0|apply ω1|apply ω2|refine τ3 rfl ?_|refine τ4 rfl ?_|refine ⟨rfl,?_⟩|apply τa|refine τb rfl ?_|refine ⟨⟨by kernel_rfl,by kernel_rfl⟩,?_⟩|refine ⟨by decide,?_⟩|apply τt|apply τf))
                  cases v with
                  | false =>
                    refine aw_mixN 15 _ (fun _ => false) (fun i => match i with | 7 => true | 12 => true | _ => false) [0, 1, 2, 3, 4, 5, 6, 7, 8, 9, 10, 11, 12, 13, 14] (by kernel_rfl) (by kernel_rfl) (HB.refl _) ?_
                    (repeat((conv=>whnf);first|apply ω0|apply ω1|apply ω2|refine τ3 rfl ?_|refine τ4 rfl ?_|refine ⟨rfl,?_⟩|apply τa|refine τb rfl ?_|refine ⟨⟨by kernel_rfl,by kernel_rfl⟩,?_⟩|refine ⟨by decide,?_⟩|apply τt|apply τf))
                    refine ⟨_, pure_no rfl rfl rfl, ?_⟩
                    (repeat((conv=>whnf);first|apply ω0|apply ω1|apply ω2|refine τ3 rfl ?_|refine τ4 rfl ?_|refine ⟨rfl,?_⟩|apply τa|refine τb rfl ?_|refine ⟨⟨by kernel_rfl,by kernel_rfl⟩,?_⟩|refine ⟨by decide,?_⟩|apply τt|apply τf))
                    refine ⟨_, pure_no rfl rfl rfl, ?_⟩
                    (repeat((conv=>whnf);first|apply ω0|apply ω1|apply ω2|refine τ3 rfl ?_|refine τ4 rfl ?_|refine ⟨rfl,?_⟩|apply τa|refine τb rfl ?_|refine ⟨⟨by kernel_rfl,by kernel_rfl⟩,?_⟩|refine ⟨by decide,?_⟩|apply τt|apply τf))
                    refine ⟨_, pure_no rfl rfl rfl, ?_⟩
                    (repeat((conv=>whnf);first|apply ω0|apply ω1|apply ω2|refine τ3 rfl ?_|refine τ4 rfl ?_|refine ⟨rfl,?_⟩|apply τa|refine τb rfl ?_|refine ⟨⟨by kernel_rfl,by kernel_rfl⟩,?_⟩|refine ⟨by decide,?_⟩|apply τt|apply τf))
                    refine ⟨_, pure_no rfl rfl rfl, ?_⟩
                    (repeat((conv=>whnf);first|apply ω0|apply ω1|apply ω2|refine τ3 rfl ?_|refine τ4 rfl ?_|refine ⟨rfl,?_⟩|apply τa|refine τb rfl ?_|refine ⟨⟨by kernel_rfl,by kernel_rfl⟩,?_⟩|refine ⟨by decide,?_⟩|apply τt|apply τf))
                    refine ⟨_, pure_no rfl rfl rfl, ?_⟩
                    (repeat((conv=>whnf);first|apply ω0|apply ω1|apply ω2|refine τ3 rfl ?_|refine τ4 rfl ?_|refine ⟨rfl,?_⟩|apply τa|refine τb rfl ?_|refine ⟨⟨by kernel_rfl,by kernel_rfl⟩,?_⟩|refine ⟨by decide,?_⟩|apply τt|apply τf))
                    refine ⟨_, pure_no rfl rfl rfl, ?_⟩
                    (repeat((conv=>whnf);first|apply ω0|apply ω1|apply ω2|refine τ3 rfl ?_|refine τ4 rfl ?_|refine ⟨rfl,?_⟩|apply τa|refine τb rfl ?_|refine ⟨⟨by kernel_rfl,by kernel_rfl⟩,?_⟩|refine ⟨by decide,?_⟩|apply τt|apply τf))
                    refine ⟨_, pure_no rfl rfl rfl, ?_⟩
                    (repeat((conv=>whnf);first|apply ω0|apply ω1|apply ω2|refine τ3 rfl ?_|refine τ4 rfl ?_|refine ⟨rfl,?_⟩|apply τa|refine τb rfl ?_|refine ⟨⟨by kernel_rfl,by kernel_rfl⟩,?_⟩|refine ⟨by decide,?_⟩|apply τt|apply τf))
                    refine ⟨_, pure_no rfl rfl rfl, ?_⟩
                    (repeat((conv=>whnf);first|apply ω0|apply ω1|apply ω2|refine τ3 rfl ?_|refine τ4 rfl ?_|refine ⟨rfl,?_⟩|apply τa|refine τb rfl ?_|refine ⟨⟨by kernel_rfl,by kernel_rfl⟩,?_⟩|refine ⟨by decide,?_⟩|apply τt|apply τf))
                    refine ⟨_, pure_no rfl rfl rfl, ?_⟩
                    (repeat((conv=>whnf);first|apply ω0|apply ω1|apply ω2|refine τ3 rfl ?_|refine τ4 rfl ?_|refine ⟨rfl,?_⟩|apply τa|refine τb rfl ?_|refine ⟨⟨by kernel_rfl,by kernel_rfl⟩,?_⟩|refine ⟨by decide,?_⟩|apply τt|apply τf))
                    refine ⟨_, pure_no rfl rfl rfl, ?_⟩
                    (repeat((conv=>whnf);first|apply ω0|apply ω1|apply ω2|refine τ3 rfl ?_|refine τ4 rfl ?_|refine ⟨rfl,?_⟩|apply τa|refine τb rfl ?_|refine ⟨⟨by kernel_rfl,by kernel_rfl⟩,?_⟩|refine ⟨by decide,?_⟩|apply τt|apply τf))
                    refine ⟨_, pure_no rfl rfl rfl, ?_⟩
                    (repeat((conv=>whnf);first|apply ω0|apply ω1|apply ω2|refine τ3 rfl ?_|refine τ4 rfl ?_|refine ⟨rfl,?_⟩|apply τa|refine τb rfl ?_|refine ⟨⟨by kernel_rfl,by kernel_rfl⟩,?_⟩|refine ⟨by decide,?_⟩|apply τt|apply τf))
                    refine ⟨_, pure_no rfl rfl rfl, ?_⟩
                    (repeat((conv=>whnf);first|apply ω0|apply ω1|apply ω2|refine τ3 rfl ?_|refine τ4 rfl ?_|refine ⟨rfl,?_⟩|apply τa|refine τb rfl ?_|refine ⟨⟨by kernel_rfl,by kernel_rfl⟩,?_⟩|refine ⟨by decide,?_⟩|apply τt|apply τf))
                    exact back (i + 1, false, nx5) ⟨hio, by dsimp only; rw [hall, ← Bool.and_assoc, ← m4]; rfl⟩ (by dsimp only; omega) (ele_tell (pm := pmOf (nmr oc) (C.length * 4) ++ pmOf (nmd oi) (R.length * 4)) (bx := ((3, nx2), .c [strA row.name, int 8, int 0, .os 4 C.length (cndF2 C) (nmr oc)]) :: polB nx k n x R oi) _ _ rfl rfl (List.Sublist.refl _) (List.Sublist.refl _) (BxLe.refl _) (PmEq_refl3 _) ⟨AVle.refl _, AVle.refl _, AVle.refl _, AVle.refl _, AVle.refl _, AVle.refl _, AVle.refl _, AVle.refl _, AVle.refl _, AVle.refl _, AVle.refl _, le_int (wrap_succ (by first | omega | (dsimp only; omega))), trivial⟩)
                  | true =>
                    refine aw_mixN 15 _ (fun _ => false) (fun i => match i with | 7 => true | 12 => true | _ => false) [0, 1, 2, 3, 4, 5, 6, 7, 8, 9, 10, 11, 12, 13, 14] (by kernel_rfl) (by kernel_rfl) (HB.refl _) ?_
                    (repeat((conv=>whnf);first|apply ω0|apply ω1|apply ω2|refine τ3 rfl ?_|refine τ4 rfl ?_|refine ⟨rfl,?_⟩|apply τa|refine τb rfl ?_|refine ⟨⟨by kernel_rfl,by kernel_rfl⟩,?_⟩|refine ⟨by decide,?_⟩|apply τt|apply τf))
                    refine ⟨_, pure_yes rfl rfl rfl rfl trivial, ?_⟩
                    (repeat((conv=>whnf);first|apply ω0|apply ω1|apply ω2|refine τ3 rfl ?_|refine τ4 rfl ?_|refine ⟨rfl,?_⟩|apply τa|refine τb rfl ?_|refine ⟨⟨by kernel_rfl,by kernel_rfl⟩,?_⟩|refine ⟨by decide,?_⟩|apply τt|apply τf))
                    refine ⟨_, pure_yes rfl rfl rfl rfl trivial, ?_⟩
                    (repeat((conv=>whnf);first|apply ω0|apply ω1|apply ω2|refine τ3 rfl ?_|refine τ4 rfl ?_|refine ⟨rfl,?_⟩|apply τa|refine τb rfl ?_|refine ⟨⟨by kernel_rfl,by kernel_rfl⟩,?_⟩|refine ⟨by decide,?_⟩|apply τt|apply τf))
                    refine ⟨_, pure_yes rfl rfl rfl rfl ⟨by first | omega | (dsimp only; omega), by first | omega | (dsimp only; omega)⟩, ?_⟩
                    (repeat((conv=>whnf);first|apply ω0|apply ω1|apply ω2|refine τ3 rfl ?_|refine τ4 rfl ?_|refine ⟨rfl,?_⟩|apply τa|refine τb rfl ?_|refine ⟨⟨by kernel_rfl,by kernel_rfl⟩,?_⟩|refine ⟨by decide,?_⟩|apply τt|apply τf))
                    refine splitV_to (b := .rp (recC (own.getD i rec0))) rfl ?_
                    (repeat((conv=>whnf);first|apply ω0|apply ω1|apply ω2|refine τ3 rfl ?_|refine τ4 rfl ?_|refine ⟨rfl,?_⟩|apply τa|refine τb rfl ?_|refine ⟨⟨by kernel_rfl,by kernel_rfl⟩,?_⟩|refine ⟨by decide,?_⟩|apply τt|apply τf))
                    refine ⟨_, pure_yes rfl rfl rfl rfl trivial, ?_⟩
                    (repeat((conv=>whnf);first|apply ω0|apply ω1|apply ω2|refine τ3 rfl ?_|refine τ4 rfl ?_|refine ⟨rfl,?_⟩|apply τa|refine τb rfl ?_|refine ⟨⟨by kernel_rfl,by kernel_rfl⟩,?_⟩|refine ⟨by decide,?_⟩|apply τt|apply τf))
                    refine splitV_to (b := recA (own.getD i rec0)) rfl ?_
                    (repeat((conv=>whnf);first|apply ω0|apply ω1|apply ω2|refine τ3 rfl ?_|refine τ4 rfl ?_|refine ⟨rfl,?_⟩|apply τa|refine τb rfl ?_|refine ⟨⟨by kernel_rfl,by kernel_rfl⟩,?_⟩|refine ⟨by decide,?_⟩|apply τt|apply τf))
                    refine ⟨_, pure_yes rfl rfl rfl rfl trivial, ?_⟩
                    (repeat((conv=>whnf);first|apply ω0|apply ω1|apply ω2|refine τ3 rfl ?_|refine τ4 rfl ?_|refine ⟨rfl,?_⟩|apply τa|refine τb rfl ?_|refine ⟨⟨by kernel_rfl,by kernel_rfl⟩,?_⟩|refine ⟨by decide,?_⟩|apply τt|apply τf))
                    refine ⟨_, pure_yesT rfl rfl rfl rfl rfl hargi ⟨AVle.refl _, AVle.refl _, trivial⟩ (NoId.v _), ?_⟩
                    (repeat((conv=>whnf);first|apply ω0|apply ω1|apply ω2|refine τ3 rfl ?_|refine τ4 rfl ?_|refine ⟨rfl,?_⟩|apply τa|refine τb rfl ?_|refine ⟨⟨by kernel_rfl,by kernel_rfl⟩,?_⟩|refine ⟨by decide,?_⟩|apply τt|apply τf))
                    refine ⟨_, pure_yes rfl rfl rfl rfl trivial, ?_⟩
                    (repeat((conv=>whnf);first|apply ω0|apply ω1|apply ω2|refine τ3 rfl ?_|refine τ4 rfl ?_|refine ⟨rfl,?_⟩|apply τa|refine τb rfl ?_|refine ⟨⟨by kernel_rfl,by kernel_rfl⟩,?_⟩|refine ⟨by decide,?_⟩|apply τt|apply τf))
                    refine ⟨_, pure_yes rfl rfl rfl rfl ⟨by first | omega | (dsimp only; omega), by first | omega | (dsimp only; omega)⟩, ?_⟩
                    (repeat((conv=>whnf);first|apply ω0|apply ω1|apply ω2|refine τ3 rfl ?_|refine τ4 rfl ?_|refine ⟨rfl,?_⟩|apply τa|refine τb rfl ?_|refine ⟨⟨by kernel_rfl,by kernel_rfl⟩,?_⟩|refine ⟨by decide,?_⟩|apply τt|apply τf))
                    refine splitV_to (b := .rp (recC (own.getD 0 rec0))) rfl ?_
                    (repeat((conv=>whnf);first|apply ω0|apply ω1|apply ω2|refine τ3 rfl ?_|refine τ4 rfl ?_|refine ⟨rfl,?_⟩|apply τa|refine τb rfl ?_|refine ⟨⟨by kernel_rfl,by kernel_rfl⟩,?_⟩|refine ⟨by decide,?_⟩|apply τt|apply τf))
                    refine ⟨_, pure_yes rfl rfl rfl rfl trivial, ?_⟩
                    (repeat((conv=>whnf);first|apply ω0|apply ω1|apply ω2|refine τ3 rfl ?_|refine τ4 rfl ?_|refine ⟨rfl,?_⟩|apply τa|refine τb rfl ?_|refine ⟨⟨by kernel_rfl,by kernel_rfl⟩,?_⟩|refine ⟨by decide,?_⟩|apply τt|apply τf))
                    refine splitV_to (b := recA (own.getD 0 rec0)) rfl ?_
                    (repeat((conv=>whnf);first|apply ω0|apply ω1|apply ω2|refine τ3 rfl ?_|refine τ4 rfl ?_|refine ⟨rfl,?_⟩|apply τa|refine τb rfl ?_|refine ⟨⟨by kernel_rfl,by kernel_rfl⟩,?_⟩|refine ⟨by decide,?_⟩|apply τt|apply τf))
                    refine ⟨_, pure_yes rfl rfl rfl rfl trivial, ?_⟩
                    (repeat((conv=>whnf);first|apply ω0|apply ω1|apply ω2|refine τ3 rfl ?_|refine τ4 rfl ?_|refine ⟨rfl,?_⟩|apply τa|refine τb rfl ?_|refine ⟨⟨by kernel_rfl,by kernel_rfl⟩,?_⟩|refine ⟨by decide,?_⟩|apply τt|apply τf))
                    refine ⟨_, pure_yesT rfl rfl rfl rfl rfl harg0 ⟨AVle.refl _, AVle.refl _, trivial⟩ (NoId.v _), ?_⟩
                    (repeat((conv=>whnf);first|apply ω0|apply ω1|apply ω2|refine τ3 rfl ?_|refine τ4 rfl ?_|refine ⟨rfl,?_⟩|apply τa|refine τb rfl ?_|refine ⟨⟨by kernel_rfl,by kernel_rfl⟩,?_⟩|refine ⟨by decide,?_⟩|apply τt|apply τf))
                    by_cases he : argR (own.getD i rec0) kk = A kk
                    · refine ⟨.v (.bool true), pure_yesB rfl rfl rfl rfl trivial (by rw [he, beq_self_eq_true]), ?_⟩
                      (repeat((conv=>whnf);first|apply ω0|apply ω1|apply ω2|refine τ3 rfl ?_|refine τ4 rfl ?_|refine ⟨rfl,?_⟩|apply τa|refine τb rfl ?_|refine ⟨⟨by kernel_rfl,by kernel_rfl⟩,?_⟩|refine ⟨by decide,?_⟩|apply τt|apply τf))
                      exact back (i + 1, true, nx5) ⟨hio, by dsimp only; rw [hall, ← Bool.and_assoc, ← m4, decide_eq_true he]; rfl⟩ (by dsimp only; omega) (ele_tell (pm := pmOf (nmr oc) (C.length * 4) ++ pmOf (nmd oi) (R.length * 4)) (bx := ((3, nx2), .c [strA row.name, int 8, int 0, .os 4 C.length (cndF2 C) (nmr oc)]) :: polB nx k n x R oi) _ _ rfl rfl (List.Sublist.refl _) (List.Sublist.refl _) (BxLe.refl _) (PmEq_refl3 _) ⟨AVle.refl _, AVle.refl _, AVle.refl _, AVle.refl _, AVle.refl _, AVle.refl _, AVle.refl _, AVle.refl _, AVle.refl _, AVle.refl _, AVle.refl _, le_int (wrap_succ (by first | omega | (dsimp only; omega))), trivial⟩)
                    · refine ⟨.v (.bool false), pure_yesB rfl rfl rfl rfl trivial (beq_eq_false_iff_ne.2 (by omega)), ?_⟩
                      (repeat((conv=>whnf);first|apply ω0|apply ω1|apply ω2|refine τ3 rfl ?_|refine τ4 rfl ?_|refine ⟨rfl,?_⟩|apply τa|refine τb rfl ?_|refine ⟨⟨by kernel_rfl,by kernel_rfl⟩,?_⟩|refine ⟨by decide,?_⟩|apply τt|apply τf))
                      exact back (i + 1, false, nx5) ⟨hio, by dsimp only; rw [hall, ← Bool.and_assoc, ← m4, decide_eq_false he]; rfl⟩ (by dsimp only; omega) (ele_tell (pm := pmOf (nmr oc) (C.length * 4) ++ pmOf (nmd oi) (R.length * 4)) (bx := ((3, nx2), .c [strA row.name, int 8, int 0, .os 4 C.length (cndF2 C) (nmr oc)]) :: polB nx k n x R oi) _ _ rfl rfl (List.Sublist.refl _) (List.Sublist.refl _) (BxLe.refl _) (PmEq_refl3 _) ⟨AVle.refl _, AVle.refl _, AVle.refl _, AVle.refl _, AVle.refl _, AVle.refl _, AVle.refl _, AVle.refl _, AVle.refl _, AVle.refl _, AVle.refl _, le_int (wrap_succ (by first | omega | (dsimp only; omega))), trivial⟩)
end Go.Proofs.W

namespace Go.Proofs.W
open Go.Vl
set_option maxRecDepth 100000

theorem few_le {l : List TRow} (h : fewB l = true) : l.length ≤ 40 ∧ ∀ r ∈ l, r.name.size ≤ 60 := by
  unfold fewB at h
  simp only [Bool.and_eq_true, decide_eq_true_eq, Bool.not_eq_true', List.any_eq_false] at h
  exact ⟨h.1, fun r hr => by have := h.2 r hr; omega⟩
end Go.Proofs.W

namespace Go.Proofs.W
open Go.Vl
set_option maxRecDepth 100000

theorem z_act26 : zcells Tryz.prog 44 = some [int 0, int 0] := by kernel_rfl
theorem z_pol26 : zcells Tryz.prog 50 = some [int 0, int 0, boolA false, .os 0 0 (fun _ => .any) none] := by kernel_rfl
theorem noid_cnds26 (l : List Cnd) : NoId (cnds l) := NoId.sl fun i _ c hc => by
  have hc : c ∈ (cndA (l.getD i cnd0)).cells := hc
  unfold cndA AV.cells at hc
  simp only [List.mem_cons, List.not_mem_nil, or_false] at hc
  rcases hc with rfl | rfl | rfl | rfl <;> exact NoId.v _
theorem noid_ruls26 (L : List Rul) : NoId (ruls L) := NoId.sl fun i _ c hc => by
  have hc : c ∈ (rulA (L.getD i rul0)).cells := hc
  unfold rulA AV.cells at hc
  simp only [List.mem_cons, List.not_mem_nil, or_false] at hc
  rcases hc with rfl | rfl | rfl | rfl
  · exact NoId.v _
  · exact NoId.v _
  · exact NoId.v _
  · exact noid_cnds26 _
theorem noid_pol26 (p : Pol) : NoId (polA p) := NoId.ag (by
  intro y hy
  simp only [List.mem_cons, List.not_mem_nil, or_false] at hy
  rcases hy with rfl | rfl | rfl | rfl
  · exact NoId.v _
  · exact NoId.v _
  · exact NoId.v _
  · exact noid_ruls26 _)
theorem noid_tup26 (p : Pol) (e : Int) : NoId (.tup [polA p, int e]) := NoId.tup (by
  intro y hy
  simp only [List.mem_cons, List.not_mem_nil, or_false] at hy
  rcases hy with rfl | rfl
  · exact noid_pol26 _
  · exact NoId.v _)
theorem noid_recs26 (l : List Rec) : NoId (recs l) := NoId.sl fun i _ c hc => by
  have hc : c ∈ recC (l.getD i rec0) := hc
  unfold recC at hc
  simp only [List.mem_cons, List.not_mem_nil, or_false] at hc
  rcases hc with rfl | rfl | rfl | rfl | rfl | rfl | rfl | rfl | rfl <;> exact NoId.v _
def caseC (l : List TRow) (rs : List Rec) (k n : Int) (near : Bool) : List AV := [trows l, recs rs, int k, int n, boolA near]
def caseA (l : List TRow) (rs : List Rec) (k n : Int) (near : Bool) : AV := .ag [trows l, recs rs, int k, int n, boolA near]
theorem same_self26 (a : Pol) : sameP a a = true := by
  unfold sameP
  rw [decide_eq_true rfl, decide_eq_true rfl]
  have : ∀ l : List Rul, sameL l l = true := by
    intro l
    induction l with
    | nil => simp [sameL]
    | cons r l ih => simp_all [sameL, sameR]
  rw [this]; rfl
theorem learn_cases (l : List TRow) (rs : List Rec) (k n : Int) (near : Bool) (hl : l.length ≤ 1000000) (hn : ∀ r ∈ l, r.name.size ≤ maxLen) (hr : ∀ r ∈ rs, r.ok) (hrn : rs.length ≤ 100000) :
    ∃ (m : Pol) (e : Int), Tells Tryz.prog 12 [trows l, recs rs, act k n, boolA near] (.tup [polA m, int e]) ∧
      (((tabR l).2 ≠ 0 ∧ m = lpol0 ∧ e = 18) ∨ ((tabR l).2 = 0 ∧ right9 k n = false ∧ m = lpol0 ∧ e = 16) ∨ ((tabR l).2 = 0 ∧ right9 k n = true ∧ m = refPol l rs (k, n) near ∧ e = 0)) := by
  by_cases hb : (tabR l).2 = 0
  · cases ha : right9 k n with
    | false => exact ⟨_, _, policy_bad2 l rs k n near hl hn hb ha, .inr (.inl ⟨hb, rfl, rfl, rfl⟩)⟩
    | true =>
      have h := policy_ok l rs k n near hl hn hr hrn hb (tab_sorted hb) ha
      rw [learn_ref hb] at h
      exact ⟨_, _, h, .inr (.inr ⟨hb, rfl, rfl, rfl⟩)⟩
  · exact ⟨_, _, policy_bad1 l rs k n near hl hn hb, .inl ⟨hb, rfl, rfl⟩⟩
theorem le_pol0 : AVle (.ag [int 0, int 0, boolA false, .os 0 0 (fun _ => .any) none]) (polA lpol0) := AVle.ags (cs := [_, _, _, _]) ⟨AVle.refl _, AVle.refl _, AVle.refl _, AVle.os_sl0, trivial⟩
set_option maxHeartbeats 8000000 in
theorem learnpolicies_law (l : List TRow) (rs : List Rec) (k n : Int) (near : Bool) (hl : l.length ≤ maxLen) (hn : ∀ r ∈ l, r.name.size ≤ maxLen) (hr : ∀ r ∈ rs, r.ok) : Tells Tryz.prog 4 [caseA l rs k n near] (boolA true) := by
  have hfew := few_spec l hl hn
  refine tells_of_aw Tryz.func4 rfl rfl fun nx => ?_
  (repeat((conv=>whnf);first|apply ω0|apply ω2|refine τ3 rfl ?_|refine τ4 rfl ?_|refine ⟨rfl,?_⟩|apply τa|refine τb rfl ?_|refine ⟨⟨by kernel_rfl,by kernel_rfl⟩,?_⟩|refine ⟨by decide,?_⟩|apply τt|apply τf))
  refine aw_region ?_
  (repeat((conv=>whnf);first|apply ω0|apply ω2|refine τ3 rfl ?_|refine τ4 rfl ?_|refine ⟨rfl,?_⟩|apply τa|refine τb rfl ?_|refine ⟨⟨by kernel_rfl,by kernel_rfl⟩,?_⟩|refine ⟨by decide,?_⟩|apply τt|apply τf))
  refine aw_mid (fun y : Nat => mk 92 [(1, .bp (0, nx) 0), (2, boolA false), (3, trows l), (4, recs rs), (5, .bp (1, y) 0), (6, boolA near)] ⟨[((1, y), .c [int k, int n]), ((0, nx), .c (caseC l rs k n near))], [], y + 1, 2⟩) (fun y => True) ?_ ?_
  · refine aw_mixN 12 _ (fun i => match i with | 8 => true | 11 => true | _ => false) (fun _ => false) [0, 1, 2, 3, 4, 5, 6, 7, 8, 9, 10, 11] (by kernel_rfl) (by kernel_rfl) (HB.refl _) ?_
    (repeat((conv=>whnf);first|apply ω0|apply ω1|apply ω2|refine τ3 rfl ?_|refine τ4 rfl ?_|refine ⟨rfl,?_⟩|apply τa|refine τb rfl ?_|refine ⟨⟨by kernel_rfl,by kernel_rfl⟩,?_⟩|refine ⟨by decide,?_⟩|apply τt|apply τf))
    refine splitV_to (b := boolA near) rfl ?_
    (repeat((conv=>whnf);first|apply ω0|apply ω1|apply ω2|refine τ3 rfl ?_|refine τ4 rfl ?_|refine ⟨rfl,?_⟩|apply τa|refine τb rfl ?_|refine ⟨⟨by kernel_rfl,by kernel_rfl⟩,?_⟩|refine ⟨by decide,?_⟩|apply τt|apply τf))
    refine ⟨_, eff_alloc rfl rfl z_act26 (HB.one rfl), fun r h' hr => ?_⟩
    obtain ⟨rfl, rfl⟩ := hr
    (repeat((conv=>whnf);first|apply ω0|apply ω1|apply ω2|refine τ3 rfl ?_|refine τ4 rfl ?_|refine ⟨rfl,?_⟩|apply τa|refine τb rfl ?_|refine ⟨⟨by kernel_rfl,by kernel_rfl⟩,?_⟩|refine ⟨by decide,?_⟩|apply τt|apply τf))
    refine ⟨_, eff_store (i := (1, nx + 1)) (off := 0) (cs := [int 0, int 0]) rfl rfl rfl rfl rfl rfl rfl (by kernel_rfl) (by kernel_rfl) (by show 0 + 2 ≤ 2; omega) (HB.one rfl), fun r h' hr => ?_⟩
    obtain rfl := hr
    (repeat((conv=>whnf);first|apply ω0|apply ω1|apply ω2|refine τ3 rfl ?_|refine τ4 rfl ?_|refine ⟨rfl,?_⟩|apply τa|refine τb rfl ?_|refine ⟨⟨by kernel_rfl,by kernel_rfl⟩,?_⟩|refine ⟨by decide,?_⟩|apply τt|apply τf))
    exact ⟨nx + 1, trivial, ele_tell (pm := []) (bx := [((1, nx + 1), .c [int k, int n]), ((0, nx), .c (caseC l rs k n near))]) _ _ rfl rfl (List.Sublist.refl _) (List.Sublist.refl _) (BxLe.refl _) trivial ⟨AVle.refl _, AVle.refl _, AVle.refl _, AVle.refl _, AVle.refl _, AVle.refl _, trivial⟩⟩
  · rintro nx2 -
    cases hf : fewB l with
    | false =>
      rw [hf] at hfew
      (repeat((conv=>whnf);first|apply ω0|apply ω1|apply ω2|refine τ3 rfl ?_|refine τ4 rfl ?_|refine ⟨rfl,?_⟩|apply τa|refine τb rfl ?_|refine ⟨⟨by kernel_rfl,by kernel_rfl⟩,?_⟩|refine ⟨by decide,?_⟩|apply τt|apply τf))
      refine aop_tells rfl rfl hfew ⟨AVle.refl _, trivial⟩ fun nx3 => ?_
      (repeat((conv=>whnf);first|apply ω0|apply ω1|apply ω2|refine τ3 rfl ?_|refine τ4 rfl ?_|refine ⟨rfl,?_⟩|apply τa|refine τb rfl ?_|refine ⟨⟨by kernel_rfl,by kernel_rfl⟩,?_⟩|refine ⟨by decide,?_⟩|apply τt|apply τf))
      exact ret_tells rfl (AVle.refl _)
    | true =>
      rw [hf] at hfew
      obtain ⟨hl40, hn60⟩ := few_le hf
      by_cases h40 : 40 < rs.length
      · (repeat((conv=>whnf);first|apply ω0|apply ω1|apply ω2|refine τ3 rfl ?_|refine τ4 rfl ?_|refine ⟨rfl,?_⟩|apply τa|refine τb rfl ?_|refine ⟨⟨by kernel_rfl,by kernel_rfl⟩,?_⟩|refine ⟨by decide,?_⟩|apply τt|apply τf))
        refine aop_tells rfl rfl hfew ⟨AVle.refl _, trivial⟩ fun nx3 => ?_
        (repeat((conv=>whnf);first|apply ω0|apply ω1|apply ω2|refine τ3 rfl ?_|refine τ4 rfl ?_|refine ⟨rfl,?_⟩|apply τa|refine τb rfl ?_|refine ⟨⟨by kernel_rfl,by kernel_rfl⟩,?_⟩|refine ⟨by decide,?_⟩|apply τt|apply τf))
        intro c hc
        obtain rfl : c = true := hc.trans (decide_eq_true (by omega))
        (repeat((conv=>whnf);first|apply ω0|apply ω1|apply ω2|refine τ3 rfl ?_|refine τ4 rfl ?_|refine ⟨rfl,?_⟩|apply τa|refine τb rfl ?_|refine ⟨⟨by kernel_rfl,by kernel_rfl⟩,?_⟩|refine ⟨by decide,?_⟩|apply τt|apply τf))
        exact ret_tells rfl (AVle.refl _)
      have hrows := l26rows_spec l (by omega)
      have hrecs := l26records_spec rs (by omega)
      have hright := ref11right_spec l (by omega)
      have hawk := awake26_spec
      have htr := tab_right l
      have hr9 := right9_spec k n
      have hrp := ref26pol_spec l rs k n near (by omega) hr (by omega)
      have hli := ref_light (l := l) (rs := rs) (a := (k, n)) (near := near) hl40 hn60
      have hRl := refRules_le (l := l) (rs := rs) (near := near) (n := l.length)
      have hCl : ∀ r ∈ (refPol l rs (k, n) near).rules, r.conds.length ≤ 1000000 := fun r h => by
        unfold lightP at hli
        rw [Bool.and_eq_true, List.all_eq_true] at hli
        have := hli.2 r h
        unfold lightR at this
        rw [Bool.and_eq_true, decide_eq_true_iff, decide_eq_true_iff] at this
        omega
      have hLn : (refPol l rs (k, n) near).rules.length ≤ 1000000 := by show (refRules l rs near l.length).length ≤ _; omega
      obtain ⟨m, e, hlp, hcase⟩ := learn_cases l rs k n near (by omega) hn hr (by omega)
      generalize refPol l rs (k, n) near = w at hrp hli hCl hLn hcase
      have hlw := light_l26 w (Nat.le_trans hLn (by decide))
      rw [hli] at hlw
      have hof := pol_l26 w hLn hCl
      have hsm := same_spec14 m m
      (repeat((conv=>whnf);first|apply ω0|apply ω1|apply ω2|refine τ3 rfl ?_|refine τ4 rfl ?_|refine ⟨rfl,?_⟩|apply τa|refine τb rfl ?_|refine ⟨⟨by kernel_rfl,by kernel_rfl⟩,?_⟩|refine ⟨by decide,?_⟩|apply τt|apply τf))
      refine aop_tells rfl rfl hfew ⟨AVle.refl _, trivial⟩ fun nx3 => ?_
      (repeat((conv=>whnf);first|apply ω0|apply ω1|apply ω2|refine τ3 rfl ?_|refine τ4 rfl ?_|refine ⟨rfl,?_⟩|apply τa|refine τb rfl ?_|refine ⟨⟨by kernel_rfl,by kernel_rfl⟩,?_⟩|refine ⟨by decide,?_⟩|apply τt|apply τf))
      intro c hc
      obtain rfl : c = false := hc.trans (decide_eq_false (by omega))
      (repeat((conv=>whnf);first|apply ω0|apply ω2|refine τ3 rfl ?_|refine τ4 rfl ?_|refine ⟨rfl,?_⟩|apply τa|refine τb rfl ?_|refine ⟨⟨by kernel_rfl,by kernel_rfl⟩,?_⟩|refine ⟨by decide,?_⟩|apply τt|apply τf))
      refine aw_mid (fun y : Nat => mk 92 [(2, boolA false), (3, trows l), (4, recs rs), (5, .bp (1, nx2) 0), (6, boolA near), (7, .bp (2, y) 0), (8, int e)] ⟨[((2, y), .c (polC2 m)), ((1, nx2), .c [int k, int n])], [], y + 1, 3⟩) (fun y => True) ?_ ?_
      · refine aw_mixN 16 _ (fun i => match i with | 14 => true | 15 => true | _ => false) (fun i => match i with | 1 => true | 3 => true | 10 => true | _ => false) [0, 1, 2, 3, 4, 5, 6, 7, 8, 9, 10, 11, 12, 13, 14, 15] (by kernel_rfl) (by kernel_rfl) (HB.refl _) ?_
        (repeat((conv=>whnf);first|apply ω0|apply ω1|apply ω2|refine τ3 rfl ?_|refine τ4 rfl ?_|refine ⟨rfl,?_⟩|apply τa|refine τb rfl ?_|refine ⟨⟨by kernel_rfl,by kernel_rfl⟩,?_⟩|refine ⟨by decide,?_⟩|apply τt|apply τf))
        refine ⟨_, pure_tells rfl rfl rfl hrows ⟨AVle.refl _, trivial⟩ (noid_trows _), ?_⟩
        (repeat((conv=>whnf);first|apply ω0|apply ω1|apply ω2|refine τ3 rfl ?_|refine τ4 rfl ?_|refine ⟨rfl,?_⟩|apply τa|refine τb rfl ?_|refine ⟨⟨by kernel_rfl,by kernel_rfl⟩,?_⟩|refine ⟨by decide,?_⟩|apply τt|apply τf))
        refine ⟨_, pure_tells rfl rfl rfl hrecs ⟨AVle.refl _, trivial⟩ (noid_recs26 _), ?_⟩
        (repeat((conv=>whnf);first|apply ω0|apply ω1|apply ω2|refine τ3 rfl ?_|refine τ4 rfl ?_|refine ⟨rfl,?_⟩|apply τa|refine τb rfl ?_|refine ⟨⟨by kernel_rfl,by kernel_rfl⟩,?_⟩|refine ⟨by decide,?_⟩|apply τt|apply τf))
        refine ⟨_, pure_tells rfl rfl rfl hlp ⟨AVle.refl _, AVle.refl _, AVle.refl _, AVle.refl _, trivial⟩ (noid_tup26 _ _), ?_⟩
        (repeat((conv=>whnf);first|apply ω0|apply ω1|apply ω2|refine τ3 rfl ?_|refine τ4 rfl ?_|refine ⟨rfl,?_⟩|apply τa|refine τb rfl ?_|refine ⟨⟨by kernel_rfl,by kernel_rfl⟩,?_⟩|refine ⟨by decide,?_⟩|apply τt|apply τf))
        refine ⟨_, eff_alloc rfl rfl z_pol26 (HB.cons rfl (HB.one rfl)), fun r h' hr => ?_⟩
        obtain ⟨rfl, rfl⟩ := hr
        (repeat((conv=>whnf);first|apply ω0|apply ω1|apply ω2|refine τ3 rfl ?_|refine τ4 rfl ?_|refine ⟨rfl,?_⟩|apply τa|refine τb rfl ?_|refine ⟨⟨by kernel_rfl,by kernel_rfl⟩,?_⟩|refine ⟨by decide,?_⟩|apply τt|apply τf))
        refine ⟨_, eff_store (i := (2, nx3)) (off := 0) (cs := [int 0, int 0, boolA false, .os 0 0 (fun _ => .any) none]) rfl rfl rfl rfl rfl rfl rfl (by kernel_rfl) (by kernel_rfl) (by show 0 + 4 ≤ 4; omega) (HB.cons rfl (HB.one rfl)), fun r h' hr => ?_⟩
        obtain rfl := hr
        (repeat((conv=>whnf);first|apply ω0|apply ω1|apply ω2|refine τ3 rfl ?_|refine τ4 rfl ?_|refine ⟨rfl,?_⟩|apply τa|refine τb rfl ?_|refine ⟨⟨by kernel_rfl,by kernel_rfl⟩,?_⟩|refine ⟨by decide,?_⟩|apply τt|apply τf))
        exact ⟨nx3, trivial, ele_tell (pm := []) (bx := [((2, nx3), .c (polC2 m)), ((1, nx2), .c [int k, int n])]) _ _ rfl rfl (.cons_cons _ (.cons_cons _ (.cons _ .slnil))) (List.Sublist.refl _) (BxLe.refl _) trivial ⟨AVle.refl _, AVle.refl _, AVle.refl _, AVle.refl _, AVle.refl _, AVle.refl _, AVle.refl _, trivial⟩⟩
      · rintro nx4 -
        (repeat((conv=>whnf);first|apply ω0|apply ω1|apply ω2|refine τ3 rfl ?_|refine τ4 rfl ?_|refine ⟨rfl,?_⟩|apply τa|refine τb rfl ?_|refine ⟨⟨by kernel_rfl,by kernel_rfl⟩,?_⟩|refine ⟨by decide,?_⟩|apply τt|apply τf))
        refine aop_tells rfl rfl hright ⟨AVle.refl _, trivial⟩ fun nx5 => ?_
        (repeat((conv=>whnf);first|apply ω0|apply ω1|apply ω2|refine τ3 rfl ?_|refine τ4 rfl ?_|refine ⟨rfl,?_⟩|apply τa|refine τb rfl ?_|refine ⟨⟨by kernel_rfl,by kernel_rfl⟩,?_⟩|refine ⟨by decide,?_⟩|apply τt|apply τf))
        rcases hcase with ⟨hb, rfl, rfl⟩ | ⟨hb, ha, rfl, rfl⟩ | ⟨hb, ha, rfl, rfl⟩
        · have hrb : (right11 l).2 ≠ 0 := fun q => hb (htr.2 q)
          have hsm := hsm (by decide) (by simp [lpol0])
          rw [same_self26] at hsm
          intro c hc
          obtain rfl : c = true := hc.trans (bne_iff_ne.2 hrb)
          (repeat((conv=>whnf);first|apply ω0|apply ω1|apply ω2|refine τ3 rfl ?_|refine τ4 rfl ?_|refine ⟨rfl,?_⟩|apply τa|refine τb rfl ?_|refine ⟨⟨by kernel_rfl,by kernel_rfl⟩,?_⟩|refine ⟨by decide,?_⟩|apply τt|apply τf))
          refine splitO_eq (b := polA lpol0) rfl ?_
          (repeat((conv=>whnf);first|apply ω0|apply ω1|apply ω2|refine τ3 rfl ?_|refine τ4 rfl ?_|refine ⟨rfl,?_⟩|apply τa|refine τb rfl ?_|refine ⟨⟨by kernel_rfl,by kernel_rfl⟩,?_⟩|refine ⟨by decide,?_⟩|apply τt|apply τf))
          refine aop_tells rfl rfl hsm ⟨AVle.refl _, le_pol0, trivial⟩ fun nx6 => ?_
          (repeat((conv=>whnf);first|apply ω0|apply ω1|apply ω2|refine τ3 rfl ?_|refine τ4 rfl ?_|refine ⟨rfl,?_⟩|apply τa|refine τb rfl ?_|refine ⟨⟨by kernel_rfl,by kernel_rfl⟩,?_⟩|refine ⟨by decide,?_⟩|apply τt|apply τf))
          refine aop_tells rfl rfl hawk trivial fun nx7 => ?_
          (repeat((conv=>whnf);first|apply ω0|apply ω1|apply ω2|refine τ3 rfl ?_|refine τ4 rfl ?_|refine ⟨rfl,?_⟩|apply τa|refine τb rfl ?_|refine ⟨⟨by kernel_rfl,by kernel_rfl⟩,?_⟩|refine ⟨by decide,?_⟩|apply τt|apply τf))
          exact ret_tells rfl (AVle.refl _)
        · have hrb : (right11 l).2 = 0 := htr.1 hb
          rw [ha] at hr9
          have hsm := hsm (by decide) (by simp [lpol0])
          rw [same_self26] at hsm
          intro c hc
          obtain rfl : c = false := hc.trans (bne_eq_false_iff_eq.2 hrb)
          (repeat((conv=>whnf);first|apply ω0|apply ω1|apply ω2|refine τ3 rfl ?_|refine τ4 rfl ?_|refine ⟨rfl,?_⟩|apply τa|refine τb rfl ?_|refine ⟨⟨by kernel_rfl,by kernel_rfl⟩,?_⟩|refine ⟨by decide,?_⟩|apply τt|apply τf))
          refine splitO_eq (b := act k n) rfl ?_
          (repeat((conv=>whnf);first|apply ω0|apply ω1|apply ω2|refine τ3 rfl ?_|refine τ4 rfl ?_|refine ⟨rfl,?_⟩|apply τa|refine τb rfl ?_|refine ⟨⟨by kernel_rfl,by kernel_rfl⟩,?_⟩|refine ⟨by decide,?_⟩|apply τt|apply τf))
          refine aop_tells rfl rfl hr9 ⟨AVle.refl _, trivial⟩ fun nx6 => ?_
          (repeat((conv=>whnf);first|apply ω0|apply ω1|apply ω2|refine τ3 rfl ?_|refine τ4 rfl ?_|refine ⟨rfl,?_⟩|apply τa|refine τb rfl ?_|refine ⟨⟨by kernel_rfl,by kernel_rfl⟩,?_⟩|refine ⟨by decide,?_⟩|apply τt|apply τf))
          refine splitO_eq (b := polA lpol0) rfl ?_
          (repeat((conv=>whnf);first|apply ω0|apply ω1|apply ω2|refine τ3 rfl ?_|refine τ4 rfl ?_|refine ⟨rfl,?_⟩|apply τa|refine τb rfl ?_|refine ⟨⟨by kernel_rfl,by kernel_rfl⟩,?_⟩|refine ⟨by decide,?_⟩|apply τt|apply τf))
          refine aop_tells rfl rfl hsm ⟨AVle.refl _, le_pol0, trivial⟩ fun nx6 => ?_
          (repeat((conv=>whnf);first|apply ω0|apply ω1|apply ω2|refine τ3 rfl ?_|refine τ4 rfl ?_|refine ⟨rfl,?_⟩|apply τa|refine τb rfl ?_|refine ⟨⟨by kernel_rfl,by kernel_rfl⟩,?_⟩|refine ⟨by decide,?_⟩|apply τt|apply τf))
          refine aop_tells rfl rfl hawk trivial fun nx7 => ?_
          (repeat((conv=>whnf);first|apply ω0|apply ω1|apply ω2|refine τ3 rfl ?_|refine τ4 rfl ?_|refine ⟨rfl,?_⟩|apply τa|refine τb rfl ?_|refine ⟨⟨by kernel_rfl,by kernel_rfl⟩,?_⟩|refine ⟨by decide,?_⟩|apply τt|apply τf))
          exact ret_tells rfl (AVle.refl _)
        · have hrb : (right11 l).2 = 0 := htr.1 hb
          rw [ha] at hr9
          have hsm := hsm hLn hCl
          rw [same_self26] at hsm
          intro c hc
          obtain rfl : c = false := hc.trans (bne_eq_false_iff_eq.2 hrb)
          (repeat((conv=>whnf);first|apply ω0|apply ω1|apply ω2|refine τ3 rfl ?_|refine τ4 rfl ?_|refine ⟨rfl,?_⟩|apply τa|refine τb rfl ?_|refine ⟨⟨by kernel_rfl,by kernel_rfl⟩,?_⟩|refine ⟨by decide,?_⟩|apply τt|apply τf))
          refine splitO_eq (b := act k n) rfl ?_
          (repeat((conv=>whnf);first|apply ω0|apply ω1|apply ω2|refine τ3 rfl ?_|refine τ4 rfl ?_|refine ⟨rfl,?_⟩|apply τa|refine τb rfl ?_|refine ⟨⟨by kernel_rfl,by kernel_rfl⟩,?_⟩|refine ⟨by decide,?_⟩|apply τt|apply τf))
          refine aop_tells rfl rfl hr9 ⟨AVle.refl _, trivial⟩ fun nx6 => ?_
          (repeat((conv=>whnf);first|apply ω0|apply ω1|apply ω2|refine τ3 rfl ?_|refine τ4 rfl ?_|refine ⟨rfl,?_⟩|apply τa|refine τb rfl ?_|refine ⟨⟨by kernel_rfl,by kernel_rfl⟩,?_⟩|refine ⟨by decide,?_⟩|apply τt|apply τf))
          refine splitO_eq (b := act k n) rfl ?_
          (repeat((conv=>whnf);first|apply ω0|apply ω1|apply ω2|refine τ3 rfl ?_|refine τ4 rfl ?_|refine ⟨rfl,?_⟩|apply τa|refine τb rfl ?_|refine ⟨⟨by kernel_rfl,by kernel_rfl⟩,?_⟩|refine ⟨by decide,?_⟩|apply τt|apply τf))
          refine aop_tells rfl rfl hrp ⟨AVle.refl _, AVle.refl _, AVle.refl _, AVle.refl _, trivial⟩ fun nx7 => ?_
          (repeat((conv=>whnf);first|apply ω0|apply ω1|apply ω2|refine τ3 rfl ?_|refine τ4 rfl ?_|refine ⟨rfl,?_⟩|apply τa|refine τb rfl ?_|refine ⟨⟨by kernel_rfl,by kernel_rfl⟩,?_⟩|refine ⟨by decide,?_⟩|apply τt|apply τf))
          refine aw_mixN 15 _ (fun _ => false) (fun i => match i with | 1 => true | 5 => true | 6 => true | 13 => true | _ => false) [0, 1, 2, 3, 4, 5, 6, 7, 8, 9, 10, 11, 12, 13, 14] (by kernel_rfl) (by kernel_rfl) (HB.refl _) ?_
          (repeat((conv=>whnf);first|apply ω0|apply ω1|apply ω2|refine τ3 rfl ?_|refine τ4 rfl ?_|refine ⟨rfl,?_⟩|apply τa|refine τb rfl ?_|refine ⟨⟨by kernel_rfl,by kernel_rfl⟩,?_⟩|refine ⟨by decide,?_⟩|apply τt|apply τf))
          refine splitV_to (b := polA m) rfl ?_
          (repeat((conv=>whnf);first|apply ω0|apply ω1|apply ω2|refine τ3 rfl ?_|refine τ4 rfl ?_|refine ⟨rfl,?_⟩|apply τa|refine τb rfl ?_|refine ⟨⟨by kernel_rfl,by kernel_rfl⟩,?_⟩|refine ⟨by decide,?_⟩|apply τt|apply τf))
          refine ⟨_, pure_tells rfl rfl rfl hlw ⟨AVle.refl _, trivial⟩ (NoId.v _), ?_⟩
          (repeat((conv=>whnf);first|apply ω0|apply ω1|apply ω2|refine τ3 rfl ?_|refine τ4 rfl ?_|refine ⟨rfl,?_⟩|apply τa|refine τb rfl ?_|refine ⟨⟨by kernel_rfl,by kernel_rfl⟩,?_⟩|refine ⟨by decide,?_⟩|apply τt|apply τf))
          refine ⟨_, pure_yes rfl rfl rfl rfl (by first | trivial | exact ⟨rfl, Nat.le_of_ble_eq_true rfl⟩), ?_⟩
          (repeat((conv=>whnf);first|apply ω0|apply ω1|apply ω2|refine τ3 rfl ?_|refine τ4 rfl ?_|refine ⟨rfl,?_⟩|apply τa|refine τb rfl ?_|refine ⟨⟨by kernel_rfl,by kernel_rfl⟩,?_⟩|refine ⟨by decide,?_⟩|apply τt|apply τf))
          refine splitV_to (b := polA m) rfl ?_
          (repeat((conv=>whnf);first|apply ω0|apply ω1|apply ω2|refine τ3 rfl ?_|refine τ4 rfl ?_|refine ⟨rfl,?_⟩|apply τa|refine τb rfl ?_|refine ⟨⟨by kernel_rfl,by kernel_rfl⟩,?_⟩|refine ⟨by decide,?_⟩|apply τt|apply τf))
          refine ⟨_, pure_yes rfl rfl rfl rfl (by first | trivial | exact ⟨rfl, Nat.le_of_ble_eq_true rfl⟩), ?_⟩
          (repeat((conv=>whnf);first|apply ω0|apply ω1|apply ω2|refine τ3 rfl ?_|refine τ4 rfl ?_|refine ⟨rfl,?_⟩|apply τa|refine τb rfl ?_|refine ⟨⟨by kernel_rfl,by kernel_rfl⟩,?_⟩|refine ⟨by decide,?_⟩|apply τt|apply τf))
          refine splitV_to (b := polA m) rfl ?_
          (repeat((conv=>whnf);first|apply ω0|apply ω1|apply ω2|refine τ3 rfl ?_|refine τ4 rfl ?_|refine ⟨rfl,?_⟩|apply τa|refine τb rfl ?_|refine ⟨⟨by kernel_rfl,by kernel_rfl⟩,?_⟩|refine ⟨by decide,?_⟩|apply τt|apply τf))
          refine ⟨_, pure_yesT rfl rfl rfl rfl rfl hof ⟨AVle.refl _, trivial⟩ (noid_pol26 _), ?_⟩
          (repeat((conv=>whnf);first|apply ω0|apply ω1|apply ω2|refine τ3 rfl ?_|refine τ4 rfl ?_|refine ⟨rfl,?_⟩|apply τa|refine τb rfl ?_|refine ⟨⟨by kernel_rfl,by kernel_rfl⟩,?_⟩|refine ⟨by decide,?_⟩|apply τt|apply τf))
          refine ⟨_, pure_yesT rfl rfl rfl rfl rfl hsm ⟨AVle.refl _, AVle.refl _, trivial⟩ (NoId.v _), ?_⟩
          (repeat((conv=>whnf);first|apply ω0|apply ω1|apply ω2|refine τ3 rfl ?_|refine τ4 rfl ?_|refine ⟨rfl,?_⟩|apply τa|refine τb rfl ?_|refine ⟨⟨by kernel_rfl,by kernel_rfl⟩,?_⟩|refine ⟨by decide,?_⟩|apply τt|apply τf))
          refine ⟨_, pure_yes rfl rfl rfl rfl trivial, ?_⟩
          (repeat((conv=>whnf);first|apply ω0|apply ω1|apply ω2|refine τ3 rfl ?_|refine τ4 rfl ?_|refine ⟨rfl,?_⟩|apply τa|refine τb rfl ?_|refine ⟨⟨by kernel_rfl,by kernel_rfl⟩,?_⟩|refine ⟨by decide,?_⟩|apply τt|apply τf))
          refine ⟨.v (.bool true), pure_yesB rfl rfl rfl rfl trivial rfl, ?_⟩
          (repeat((conv=>whnf);first|apply ω0|apply ω1|apply ω2|refine τ3 rfl ?_|refine τ4 rfl ?_|refine ⟨rfl,?_⟩|apply τa|refine τb rfl ?_|refine ⟨⟨by kernel_rfl,by kernel_rfl⟩,?_⟩|refine ⟨by decide,?_⟩|apply τt|apply τf))
          refine ⟨_, pure_yesT rfl rfl rfl rfl rfl hawk trivial (NoId.v _), ?_⟩
          (repeat((conv=>whnf);first|apply ω0|apply ω1|apply ω2|refine τ3 rfl ?_|refine τ4 rfl ?_|refine ⟨rfl,?_⟩|apply τa|refine τb rfl ?_|refine ⟨⟨by kernel_rfl,by kernel_rfl⟩,?_⟩|refine ⟨by decide,?_⟩|apply τt|apply τf))
          exact ret_tells rfl (AVle.refl _)
end Go.Proofs.W
