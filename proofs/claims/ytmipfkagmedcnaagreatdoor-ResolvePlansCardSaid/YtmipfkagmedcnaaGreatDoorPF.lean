import Derived.Test.YtmipfkagmedcnaaGreatDoorPE
import Derived.Test.YtmipfkagmedcnaaGreatDoorPC
import Derived.Test.YtmipfkagmedcnaaGreatDoorPD
import Derived.Lib.ItoaMem
import Derived.Sort.WalkA
import Derived.Shelf.Strings.OnBuilder
import Derived.Shelf.SlicesG.CompactS
import Derived.Ground.SlgnProg
import Derived.Shelf.SlSortCmp.WholeK
import Derived.Shelf.Small.Bits
import Derived.Shelf.Lay
import Derived.Ground.SlsfProg
import Derived.Ground.SlgcProg
import Derived.Ground.NamesProg
import Derived.Lib.Walk
set_option linter.unusedVariables false
set_option linter.unusedSimpArgs false
namespace Go.Proofs.W
open Go.Vl
set_option maxRecDepth 100000
def Jil:List TRow:= [
 ⟨⟨#[97,99,99,101,112,116]⟩,43,43,-1,202,202,1,5⟩,
 ⟨⟨#[97,99,99,101,112,116,52]⟩,288,288,364,242,242,1,18⟩,
 ⟨⟨#[98,105,110,100]⟩,49,49,361,200,200,1,2⟩,
 ⟨⟨#[98,114,107]⟩,12,12,45,214,214,0,0⟩,
 ⟨⟨#[99,108,111,110,101]⟩,56,56,120,220,220,0,0⟩,
 ⟨⟨#[99,108,111,115,101]⟩,3,3,6,57,57,0,0⟩,
 ⟨⟨#[99,111,110,110,101,99,116]⟩,42,42,362,203,203,1,3⟩,
 ⟨⟨#[100,117,112]⟩,32,32,41,23,23,0,0⟩,
 ⟨⟨#[100,117,112,50]⟩,33,33,63,-1,-1,0,0⟩,
 ⟨⟨#[101,112,111,108,108,95,99,114,101,97,116,101,49]⟩,291,291,329,20,20,0,0⟩,
 ⟨⟨#[101,112,111,108,108,95,99,116,108]⟩,233,233,255,21,21,0,0⟩,
 ⟨⟨#[101,112,111,108,108,95,119,97,105,116]⟩,232,232,256,-1,-1,0,0⟩,
 ⟨⟨#[101,120,101,99,118,101]⟩,59,520,11,221,221,0,0⟩,
 ⟨⟨#[101,120,105,116]⟩,60,60,1,93,93,0,0⟩,
 ⟨⟨#[101,120,105,116,95,103,114,111,117,112]⟩,231,231,252,94,94,0,0⟩,
 ⟨⟨#[102,99,104,100,105,114]⟩,81,81,133,50,50,0,0⟩,
 ⟨⟨#[102,99,110,116,108]⟩,72,72,55,25,25,0,0⟩,
 ⟨⟨#[102,111,114,107]⟩,57,57,2,-1,-1,0,0⟩,
 ⟨⟨#[102,115,116,97,116]⟩,5,5,108,80,80,0,0⟩,
 ⟨⟨#[102,117,116,101,120]⟩,202,202,240,98,98,0,0⟩,
 ⟨⟨#[103,101,116,99,119,100]⟩,79,79,183,17,17,0,0⟩,
 ⟨⟨#[103,101,116,112,101,101,114,110,97,109,101]⟩,52,52,368,205,205,1,7⟩,
 ⟨⟨#[103,101,116,112,105,100]⟩,39,39,20,172,172,0,0⟩,
 ⟨⟨#[103,101,116,114,97,110,100,111,109]⟩,318,318,355,278,278,0,0⟩,
 ⟨⟨#[103,101,116,115,111,99,107,110,97,109,101]⟩,51,51,367,204,204,1,6⟩,
 ⟨⟨#[103,101,116,115,111,99,107,111,112,116]⟩,55,542,365,209,209,1,15⟩,
 ⟨⟨#[103,101,116,117,105,100]⟩,102,102,24,174,174,0,0⟩,
 ⟨⟨#[105,111,99,116,108]⟩,16,514,54,29,29,0,0⟩,
 ⟨⟨#[107,105,108,108]⟩,62,62,37,129,129,0,0⟩,
 ⟨⟨#[108,105,115,116,101,110]⟩,50,50,363,201,201,1,4⟩]
theorem JpV:Jcj Tryz.prog 49 30 [(0,Jq ⟨⟨#[97,99,99,101,112,116]⟩,43,43,-1,202,202,1,5⟩),(1,Jq ⟨⟨#[97,99,99,101,112,116,52]⟩,288,288,364,242,242,1,18⟩),(2,Jq ⟨⟨#[98,105,110,100]⟩,49,49,361,200,200,1,2⟩),(3,Jq ⟨⟨#[98,114,107]⟩,12,12,45,214,214,0,0⟩),(4,Jq ⟨⟨#[99,108,111,110,101]⟩,56,56,120,220,220,0,0⟩),(5,Jq ⟨⟨#[99,108,111,115,101]⟩,3,3,6,57,57,0,0⟩),(6,Jq ⟨⟨#[99,111,110,110,101,99,116]⟩,42,42,362,203,203,1,3⟩),(7,Jq ⟨⟨#[100,117,112]⟩,32,32,41,23,23,0,0⟩),(8,Jq ⟨⟨#[100,117,112,50]⟩,33,33,63,-1,-1,0,0⟩),(9,Jq ⟨⟨#[101,112,111,108,108,95,99,114,101,97,116,101,49]⟩,291,291,329,20,20,0,0⟩),(10,Jq ⟨⟨#[101,112,111,108,108,95,99,116,108]⟩,233,233,255,21,21,0,0⟩),(11,Jq ⟨⟨#[101,112,111,108,108,95,119,97,105,116]⟩,232,232,256,-1,-1,0,0⟩),(12,Jq ⟨⟨#[101,120,101,99,118,101]⟩,59,520,11,221,221,0,0⟩),(13,Jq ⟨⟨#[101,120,105,116]⟩,60,60,1,93,93,0,0⟩),(14,Jq ⟨⟨#[101,120,105,116,95,103,114,111,117,112]⟩,231,231,252,94,94,0,0⟩),(15,Jq ⟨⟨#[102,99,104,100,105,114]⟩,81,81,133,50,50,0,0⟩),(16,Jq ⟨⟨#[102,99,110,116,108]⟩,72,72,55,25,25,0,0⟩),(17,Jq ⟨⟨#[102,111,114,107]⟩,57,57,2,-1,-1,0,0⟩),(18,Jq ⟨⟨#[102,115,116,97,116]⟩,5,5,108,80,80,0,0⟩),(19,Jq ⟨⟨#[102,117,116,101,120]⟩,202,202,240,98,98,0,0⟩),(20,Jq ⟨⟨#[103,101,116,99,119,100]⟩,79,79,183,17,17,0,0⟩),(21,Jq ⟨⟨#[103,101,116,112,101,101,114,110,97,109,101]⟩,52,52,368,205,205,1,7⟩),(22,Jq ⟨⟨#[103,101,116,112,105,100]⟩,39,39,20,172,172,0,0⟩),(23,Jq ⟨⟨#[103,101,116,114,97,110,100,111,109]⟩,318,318,355,278,278,0,0⟩),(24,Jq ⟨⟨#[103,101,116,115,111,99,107,110,97,109,101]⟩,51,51,367,204,204,1,6⟩),(25,Jq ⟨⟨#[103,101,116,115,111,99,107,111,112,116]⟩,55,542,365,209,209,1,15⟩),(26,Jq ⟨⟨#[103,101,116,117,105,100]⟩,102,102,24,174,174,0,0⟩),(27,Jq ⟨⟨#[105,111,99,116,108]⟩,16,514,54,29,29,0,0⟩),(28,Jq ⟨⟨#[107,105,108,108]⟩,62,62,37,129,129,0,0⟩),(29,Jq ⟨⟨#[108,105,115,116,101,110]⟩,50,50,363,201,201,1,4⟩)]=some (113, [Jg ⟨#[97,99,99,101,112,116]⟩,int (43),int (43),int (-1),int (202),int (202),int 1,int 5,Jg ⟨#[97,99,99,101,112,116,52]⟩,int (288),int (288),int (364),int (242),int (242),int 1,int 18,Jg ⟨#[98,105,110,100]⟩,int (49),int (49),int (361),int (200),int (200),int 1,int 2,Jg ⟨#[98,114,107]⟩,int (12),int (12),int (45),int (214),int (214),int 0,int 0,Jg ⟨#[99,108,111,110,101]⟩,int (56),int (56),int (120),int (220),int (220),int 0,int 0,Jg ⟨#[99,108,111,115,101]⟩,int (3),int (3),int (6),int (57),int (57),int 0,int 0,Jg ⟨#[99,111,110,110,101,99,116]⟩,int (42),int (42),int (362),int (203),int (203),int 1,int 3,Jg ⟨#[100,117,112]⟩,int (32),int (32),int (41),int (23),int (23),int 0,int 0,Jg ⟨#[100,117,112,50]⟩,int (33),int (33),int (63),int (-1),int (-1),int 0,int 0,Jg ⟨#[101,112,111,108,108,95,99,114,101,97,116,101,49]⟩,int (291),int (291),int (329),int (20),int (20),int 0,int 0,Jg ⟨#[101,112,111,108,108,95,99,116,108]⟩,int (233),int (233),int (255),int (21),int (21),int 0,int 0,Jg ⟨#[101,112,111,108,108,95,119,97,105,116]⟩,int (232),int (232),int (256),int (-1),int (-1),int 0,int 0,Jg ⟨#[101,120,101,99,118,101]⟩,int (59),int (520),int (11),int (221),int (221),int 0,int 0,Jg ⟨#[101,120,105,116]⟩,int (60),int (60),int (1),int (93),int (93),int 0,int 0,Jg ⟨#[101,120,105,116,95,103,114,111,117,112]⟩,int (231),int (231),int (252),int (94),int (94),int 0,int 0,Jg ⟨#[102,99,104,100,105,114]⟩,int (81),int (81),int (133),int (50),int (50),int 0,int 0,Jg ⟨#[102,99,110,116,108]⟩,int (72),int (72),int (55),int (25),int (25),int 0,int 0,Jg ⟨#[102,111,114,107]⟩,int (57),int (57),int (2),int (-1),int (-1),int 0,int 0,Jg ⟨#[102,115,116,97,116]⟩,int (5),int (5),int (108),int (80),int (80),int 0,int 0,Jg ⟨#[102,117,116,101,120]⟩,int (202),int (202),int (240),int (98),int (98),int 0,int 0,Jg ⟨#[103,101,116,99,119,100]⟩,int (79),int (79),int (183),int (17),int (17),int 0,int 0,Jg ⟨#[103,101,116,112,101,101,114,110,97,109,101]⟩,int (52),int (52),int (368),int (205),int (205),int 1,int 7,Jg ⟨#[103,101,116,112,105,100]⟩,int (39),int (39),int (20),int (172),int (172),int 0,int 0,Jg ⟨#[103,101,116,114,97,110,100,111,109]⟩,int (318),int (318),int (355),int (278),int (278),int 0,int 0,Jg ⟨#[103,101,116,115,111,99,107,110,97,109,101]⟩,int (51),int (51),int (367),int (204),int (204),int 1,int 6,Jg ⟨#[103,101,116,115,111,99,107,111,112,116]⟩,int (55),int (542),int (365),int (209),int (209),int 1,int 15,Jg ⟨#[103,101,116,117,105,100]⟩,int (102),int (102),int (24),int (174),int (174),int 0,int 0,Jg ⟨#[105,111,99,116,108]⟩,int (16),int (514),int (54),int (29),int (29),int 0,int 0,Jg ⟨#[107,105,108,108]⟩,int (62),int (62),int (37),int (129),int (129),int 0,int 0,Jg ⟨#[108,105,115,116,101,110]⟩,int (50),int (50),int (363),int (201),int (201),int 1,int 4]):=by kernel_rfl
set_option maxHeartbeats 4000000 in
theorem Jr4:Tells Tryz.prog 147 [] (Jv Jil):=by
 refine Jf Tryz.func147 rfl rfl fun nx=> ?_
 (refine JB ?_;refine JE ?_;refine JB ?_)
 refine JO (fun n=> match n with | 0=> true | _=> false) 61 ?_
 refine stp ?_
 refine Jh3 rfl JpV ?_
 refine stp ?_
 refine Jd rfl (AVle.os_sl.trans (AVle.sl_fun fun k hk=> ?_))
 match k,hk with
 | 0,_=> rfl
 | 1,_=> rfl
 | 2,_=> rfl
 | 3,_=> rfl
 | 4,_=> rfl
 | 5,_=> rfl
 | 6,_=> rfl
 | 7,_=> rfl
 | 8,_=> rfl
 | 9,_=> rfl
 | 10,_=> rfl
 | 11,_=> rfl
 | 12,_=> rfl
 | 13,_=> rfl
 | 14,_=> rfl
 | 15,_=> rfl
 | 16,_=> rfl
 | 17,_=> rfl
 | 18,_=> rfl
 | 19,_=> rfl
 | 20,_=> rfl
 | 21,_=> rfl
 | 22,_=> rfl
 | 23,_=> rfl
 | 24,_=> rfl
 | 25,_=> rfl
 | 26,_=> rfl
 | 27,_=> rfl
 | 28,_=> rfl
 | 29,_=> rfl
 | k+30,hk=> exact absurd hk Om
def JkN:List TRow:= [
 ⟨⟨#[108,115,101,101,107]⟩,8,8,19,62,62,0,0⟩,
 ⟨⟨#[109,107,100,105,114]⟩,83,83,39,-1,-1,0,0⟩,
 ⟨⟨#[109,109,97,112]⟩,9,9,-1,222,222,0,0⟩,
 ⟨⟨#[109,109,97,112,50]⟩,-1,-1,192,-1,-1,0,0⟩,
 ⟨⟨#[109,112,114,111,116,101,99,116]⟩,10,10,125,226,226,0,0⟩,
 ⟨⟨#[109,115,103,99,116,108]⟩,71,71,402,187,187,2,14⟩,
 ⟨⟨#[109,115,103,103,101,116]⟩,68,68,399,186,186,2,13⟩,
 ⟨⟨#[109,115,103,114,99,118]⟩,70,70,401,188,188,2,12⟩,
 ⟨⟨#[109,115,103,115,110,100]⟩,69,69,400,189,189,2,11⟩,
 ⟨⟨#[109,117,110,109,97,112]⟩,11,11,91,215,215,0,0⟩,
 ⟨⟨#[110,97,110,111,115,108,101,101,112]⟩,35,35,162,101,101,0,0⟩,
 ⟨⟨#[111,112,101,110]⟩,2,2,5,-1,-1,0,0⟩,
 ⟨⟨#[111,112,101,110,97,116]⟩,257,257,295,56,56,0,0⟩,
 ⟨⟨#[112,105,112,101]⟩,22,22,42,-1,-1,0,0⟩,
 ⟨⟨#[112,105,112,101,50]⟩,293,293,331,59,59,0,0⟩,
 ⟨⟨#[112,111,108,108]⟩,7,7,168,-1,-1,0,0⟩,
 ⟨⟨#[112,114,101,97,100,54,52]⟩,17,17,180,67,67,0,0⟩,
 ⟨⟨#[112,114,108,105,109,105,116,54,52]⟩,302,302,340,261,261,0,0⟩,
 ⟨⟨#[112,116,114,97,99,101]⟩,101,521,26,117,117,0,0⟩,
 ⟨⟨#[112,119,114,105,116,101,54,52]⟩,18,18,181,68,68,0,0⟩,
 ⟨⟨#[114,101,97,100]⟩,0,0,3,63,63,0,0⟩,
 ⟨⟨#[114,101,97,100,118]⟩,19,515,145,65,65,0,0⟩,
 ⟨⟨#[114,101,99,118]⟩,-1,-1,-1,-1,-1,1,10⟩,
 ⟨⟨#[114,101,99,118,102,114,111,109]⟩,45,517,371,207,207,1,12⟩,
 ⟨⟨#[114,101,99,118,109,115,103]⟩,47,519,372,212,212,1,17⟩,
 ⟨⟨#[114,101,110,97,109,101]⟩,82,82,38,-1,-1,0,0⟩,
 ⟨⟨#[114,105,115,99,118,95,102,108,117,115,104,95,105,99,97,99,104,101]⟩,-1,-1,-1,-1,259,0,0⟩,
 ⟨⟨#[114,116,95,115,105,103,97,99,116,105,111,110]⟩,13,512,174,134,134,0,0⟩,
 ⟨⟨#[114,116,95,115,105,103,114,101,116,117,114,110]⟩,15,513,173,139,139,0,0⟩,
 ⟨⟨#[115,101,99,99,111,109,112]⟩,317,317,354,277,277,0,0⟩,
 ⟨⟨#[115,101,108,101,99,116]⟩,23,23,82,-1,-1,0,0⟩,
 ⟨⟨#[115,101,109,99,116,108]⟩,66,66,394,191,191,2,3⟩,
 ⟨⟨#[115,101,109,103,101,116]⟩,64,64,393,190,190,2,2⟩,
 ⟨⟨#[115,101,109,111,112]⟩,65,65,-1,193,193,2,1⟩,
 ⟨⟨#[115,101,110,100]⟩,-1,-1,-1,-1,-1,1,9⟩,
 ⟨⟨#[115,101,110,100,109,115,103]⟩,46,518,370,211,211,1,16⟩,
 ⟨⟨#[115,101,110,100,116,111]⟩,44,44,369,206,206,1,11⟩,
 ⟨⟨#[115,101,116,115,111,99,107,111,112,116]⟩,54,541,366,208,208,1,14⟩,
 ⟨⟨#[115,104,109,97,116]⟩,30,30,397,196,196,2,21⟩,
 ⟨⟨#[115,104,109,99,116,108]⟩,31,31,396,195,195,2,24⟩,
 ⟨⟨#[115,104,109,100,116]⟩,67,67,398,197,197,2,22⟩,
 ⟨⟨#[115,104,109,103,101,116]⟩,29,29,395,194,194,2,23⟩,
 ⟨⟨#[115,104,117,116,100,111,119,110]⟩,48,48,373,210,210,1,13⟩,
 ⟨⟨#[115,111,99,107,101,116]⟩,41,41,359,198,198,1,1⟩,
 ⟨⟨#[115,111,99,107,101,116,112,97,105,114]⟩,53,53,360,199,199,1,8⟩,
 ⟨⟨#[115,116,97,116]⟩,4,4,106,-1,-1,0,0⟩,
 ⟨⟨#[116,105,109,101]⟩,201,201,13,-1,-1,0,0⟩,
 ⟨⟨#[117,110,97,109,101]⟩,63,63,122,160,160,0,0⟩,
 ⟨⟨#[117,110,108,105,110,107]⟩,87,87,10,-1,-1,0,0⟩,
 ⟨⟨#[118,102,111,114,107]⟩,58,58,190,-1,-1,0,0⟩,
 ⟨⟨#[119,97,105,116,112,105,100]⟩,-1,-1,7,-1,-1,0,0⟩,
 ⟨⟨#[119,114,105,116,101]⟩,1,1,4,64,64,0,0⟩,
 ⟨⟨#[119,114,105,116,101,118]⟩,20,516,146,66,66,0,0⟩]
theorem Jr5:Jcj Tryz.prog 49 53 [(0,Jq ⟨⟨#[108,115,101,101,107]⟩,8,8,19,62,62,0,0⟩),(1,Jq ⟨⟨#[109,107,100,105,114]⟩,83,83,39,-1,-1,0,0⟩),(2,Jq ⟨⟨#[109,109,97,112]⟩,9,9,-1,222,222,0,0⟩),(3,Jq ⟨⟨#[109,109,97,112,50]⟩,-1,-1,192,-1,-1,0,0⟩),(4,Jq ⟨⟨#[109,112,114,111,116,101,99,116]⟩,10,10,125,226,226,0,0⟩),(5,Jq ⟨⟨#[109,115,103,99,116,108]⟩,71,71,402,187,187,2,14⟩),(6,Jq ⟨⟨#[109,115,103,103,101,116]⟩,68,68,399,186,186,2,13⟩),(7,Jq ⟨⟨#[109,115,103,114,99,118]⟩,70,70,401,188,188,2,12⟩),(8,Jq ⟨⟨#[109,115,103,115,110,100]⟩,69,69,400,189,189,2,11⟩),(9,Jq ⟨⟨#[109,117,110,109,97,112]⟩,11,11,91,215,215,0,0⟩),(10,Jq ⟨⟨#[110,97,110,111,115,108,101,101,112]⟩,35,35,162,101,101,0,0⟩),(11,Jq ⟨⟨#[111,112,101,110]⟩,2,2,5,-1,-1,0,0⟩),(12,Jq ⟨⟨#[111,112,101,110,97,116]⟩,257,257,295,56,56,0,0⟩),(13,Jq ⟨⟨#[112,105,112,101]⟩,22,22,42,-1,-1,0,0⟩),(14,Jq ⟨⟨#[112,105,112,101,50]⟩,293,293,331,59,59,0,0⟩),(15,Jq ⟨⟨#[112,111,108,108]⟩,7,7,168,-1,-1,0,0⟩),(16,Jq ⟨⟨#[112,114,101,97,100,54,52]⟩,17,17,180,67,67,0,0⟩),(17,Jq ⟨⟨#[112,114,108,105,109,105,116,54,52]⟩,302,302,340,261,261,0,0⟩),(18,Jq ⟨⟨#[112,116,114,97,99,101]⟩,101,521,26,117,117,0,0⟩),(19,Jq ⟨⟨#[112,119,114,105,116,101,54,52]⟩,18,18,181,68,68,0,0⟩),(20,Jq ⟨⟨#[114,101,97,100]⟩,0,0,3,63,63,0,0⟩),(21,Jq ⟨⟨#[114,101,97,100,118]⟩,19,515,145,65,65,0,0⟩),(22,Jq ⟨⟨#[114,101,99,118]⟩,-1,-1,-1,-1,-1,1,10⟩),(23,Jq ⟨⟨#[114,101,99,118,102,114,111,109]⟩,45,517,371,207,207,1,12⟩),(24,Jq ⟨⟨#[114,101,99,118,109,115,103]⟩,47,519,372,212,212,1,17⟩),(25,Jq ⟨⟨#[114,101,110,97,109,101]⟩,82,82,38,-1,-1,0,0⟩),(26,Jq ⟨⟨#[114,105,115,99,118,95,102,108,117,115,104,95,105,99,97,99,104,101]⟩,-1,-1,-1,-1,259,0,0⟩),(27,Jq ⟨⟨#[114,116,95,115,105,103,97,99,116,105,111,110]⟩,13,512,174,134,134,0,0⟩),(28,Jq ⟨⟨#[114,116,95,115,105,103,114,101,116,117,114,110]⟩,15,513,173,139,139,0,0⟩),(29,Jq ⟨⟨#[115,101,99,99,111,109,112]⟩,317,317,354,277,277,0,0⟩),(30,Jq ⟨⟨#[115,101,108,101,99,116]⟩,23,23,82,-1,-1,0,0⟩),(31,Jq ⟨⟨#[115,101,109,99,116,108]⟩,66,66,394,191,191,2,3⟩),(32,Jq ⟨⟨#[115,101,109,103,101,116]⟩,64,64,393,190,190,2,2⟩),(33,Jq ⟨⟨#[115,101,109,111,112]⟩,65,65,-1,193,193,2,1⟩),(34,Jq ⟨⟨#[115,101,110,100]⟩,-1,-1,-1,-1,-1,1,9⟩),(35,Jq ⟨⟨#[115,101,110,100,109,115,103]⟩,46,518,370,211,211,1,16⟩),(36,Jq ⟨⟨#[115,101,110,100,116,111]⟩,44,44,369,206,206,1,11⟩),(37,Jq ⟨⟨#[115,101,116,115,111,99,107,111,112,116]⟩,54,541,366,208,208,1,14⟩),(38,Jq ⟨⟨#[115,104,109,97,116]⟩,30,30,397,196,196,2,21⟩),(39,Jq ⟨⟨#[115,104,109,99,116,108]⟩,31,31,396,195,195,2,24⟩),(40,Jq ⟨⟨#[115,104,109,100,116]⟩,67,67,398,197,197,2,22⟩),(41,Jq ⟨⟨#[115,104,109,103,101,116]⟩,29,29,395,194,194,2,23⟩),(42,Jq ⟨⟨#[115,104,117,116,100,111,119,110]⟩,48,48,373,210,210,1,13⟩),(43,Jq ⟨⟨#[115,111,99,107,101,116]⟩,41,41,359,198,198,1,1⟩),(44,Jq ⟨⟨#[115,111,99,107,101,116,112,97,105,114]⟩,53,53,360,199,199,1,8⟩),(45,Jq ⟨⟨#[115,116,97,116]⟩,4,4,106,-1,-1,0,0⟩),(46,Jq ⟨⟨#[116,105,109,101]⟩,201,201,13,-1,-1,0,0⟩),(47,Jq ⟨⟨#[117,110,97,109,101]⟩,63,63,122,160,160,0,0⟩),(48,Jq ⟨⟨#[117,110,108,105,110,107]⟩,87,87,10,-1,-1,0,0⟩),(49,Jq ⟨⟨#[118,102,111,114,107]⟩,58,58,190,-1,-1,0,0⟩),(50,Jq ⟨⟨#[119,97,105,116,112,105,100]⟩,-1,-1,7,-1,-1,0,0⟩),(51,Jq ⟨⟨#[119,114,105,116,101]⟩,1,1,4,64,64,0,0⟩),(52,Jq ⟨⟨#[119,114,105,116,101,118]⟩,20,516,146,66,66,0,0⟩)]=some (113, [Jg ⟨#[108,115,101,101,107]⟩,int (8),int (8),int (19),int (62),int (62),int 0,int 0,Jg ⟨#[109,107,100,105,114]⟩,int (83),int (83),int (39),int (-1),int (-1),int 0,int 0,Jg ⟨#[109,109,97,112]⟩,int (9),int (9),int (-1),int (222),int (222),int 0,int 0,Jg ⟨#[109,109,97,112,50]⟩,int (-1),int (-1),int (192),int (-1),int (-1),int 0,int 0,Jg ⟨#[109,112,114,111,116,101,99,116]⟩,int (10),int (10),int (125),int (226),int (226),int 0,int 0,Jg ⟨#[109,115,103,99,116,108]⟩,int (71),int (71),int (402),int (187),int (187),int 2,int 14,Jg ⟨#[109,115,103,103,101,116]⟩,int (68),int (68),int (399),int (186),int (186),int 2,int 13,Jg ⟨#[109,115,103,114,99,118]⟩,int (70),int (70),int (401),int (188),int (188),int 2,int 12,Jg ⟨#[109,115,103,115,110,100]⟩,int (69),int (69),int (400),int (189),int (189),int 2,int 11,Jg ⟨#[109,117,110,109,97,112]⟩,int (11),int (11),int (91),int (215),int (215),int 0,int 0,Jg ⟨#[110,97,110,111,115,108,101,101,112]⟩,int (35),int (35),int (162),int (101),int (101),int 0,int 0,Jg ⟨#[111,112,101,110]⟩,int (2),int (2),int (5),int (-1),int (-1),int 0,int 0,Jg ⟨#[111,112,101,110,97,116]⟩,int (257),int (257),int (295),int (56),int (56),int 0,int 0,Jg ⟨#[112,105,112,101]⟩,int (22),int (22),int (42),int (-1),int (-1),int 0,int 0,Jg ⟨#[112,105,112,101,50]⟩,int (293),int (293),int (331),int (59),int (59),int 0,int 0,Jg ⟨#[112,111,108,108]⟩,int (7),int (7),int (168),int (-1),int (-1),int 0,int 0,Jg ⟨#[112,114,101,97,100,54,52]⟩,int (17),int (17),int (180),int (67),int (67),int 0,int 0,Jg ⟨#[112,114,108,105,109,105,116,54,52]⟩,int (302),int (302),int (340),int (261),int (261),int 0,int 0,Jg ⟨#[112,116,114,97,99,101]⟩,int (101),int (521),int (26),int (117),int (117),int 0,int 0,Jg ⟨#[112,119,114,105,116,101,54,52]⟩,int (18),int (18),int (181),int (68),int (68),int 0,int 0,Jg ⟨#[114,101,97,100]⟩,int (0),int (0),int (3),int (63),int (63),int 0,int 0,Jg ⟨#[114,101,97,100,118]⟩,int (19),int (515),int (145),int (65),int (65),int 0,int 0,Jg ⟨#[114,101,99,118]⟩,int (-1),int (-1),int (-1),int (-1),int (-1),int 1,int 10,Jg ⟨#[114,101,99,118,102,114,111,109]⟩,int (45),int (517),int (371),int (207),int (207),int 1,int 12,Jg ⟨#[114,101,99,118,109,115,103]⟩,int (47),int (519),int (372),int (212),int (212),int 1,int 17,Jg ⟨#[114,101,110,97,109,101]⟩,int (82),int (82),int (38),int (-1),int (-1),int 0,int 0,Jg ⟨#[114,105,115,99,118,95,102,108,117,115,104,95,105,99,97,99,104,101]⟩,int (-1),int (-1),int (-1),int (-1),int (259),int 0,int 0,Jg ⟨#[114,116,95,115,105,103,97,99,116,105,111,110]⟩,int (13),int (512),int (174),int (134),int (134),int 0,int 0,Jg ⟨#[114,116,95,115,105,103,114,101,116,117,114,110]⟩,int (15),int (513),int (173),int (139),int (139),int 0,int 0,Jg ⟨#[115,101,99,99,111,109,112]⟩,int (317),int (317),int (354),int (277),int (277),int 0,int 0,Jg ⟨#[115,101,108,101,99,116]⟩,int (23),int (23),int (82),int (-1),int (-1),int 0,int 0,Jg ⟨#[115,101,109,99,116,108]⟩,int (66),int (66),int (394),int (191),int (191),int 2,int 3,Jg ⟨#[115,101,109,103,101,116]⟩,int (64),int (64),int (393),int (190),int (190),int 2,int 2,Jg ⟨#[115,101,109,111,112]⟩,int (65),int (65),int (-1),int (193),int (193),int 2,int 1,Jg ⟨#[115,101,110,100]⟩,int (-1),int (-1),int (-1),int (-1),int (-1),int 1,int 9,Jg ⟨#[115,101,110,100,109,115,103]⟩,int (46),int (518),int (370),int (211),int (211),int 1,int 16,Jg ⟨#[115,101,110,100,116,111]⟩,int (44),int (44),int (369),int (206),int (206),int 1,int 11,Jg ⟨#[115,101,116,115,111,99,107,111,112,116]⟩,int (54),int (541),int (366),int (208),int (208),int 1,int 14,Jg ⟨#[115,104,109,97,116]⟩,int (30),int (30),int (397),int (196),int (196),int 2,int 21,Jg ⟨#[115,104,109,99,116,108]⟩,int (31),int (31),int (396),int (195),int (195),int 2,int 24,Jg ⟨#[115,104,109,100,116]⟩,int (67),int (67),int (398),int (197),int (197),int 2,int 22,Jg ⟨#[115,104,109,103,101,116]⟩,int (29),int (29),int (395),int (194),int (194),int 2,int 23,Jg ⟨#[115,104,117,116,100,111,119,110]⟩,int (48),int (48),int (373),int (210),int (210),int 1,int 13,Jg ⟨#[115,111,99,107,101,116]⟩,int (41),int (41),int (359),int (198),int (198),int 1,int 1,Jg ⟨#[115,111,99,107,101,116,112,97,105,114]⟩,int (53),int (53),int (360),int (199),int (199),int 1,int 8,Jg ⟨#[115,116,97,116]⟩,int (4),int (4),int (106),int (-1),int (-1),int 0,int 0,Jg ⟨#[116,105,109,101]⟩,int (201),int (201),int (13),int (-1),int (-1),int 0,int 0,Jg ⟨#[117,110,97,109,101]⟩,int (63),int (63),int (122),int (160),int (160),int 0,int 0,Jg ⟨#[117,110,108,105,110,107]⟩,int (87),int (87),int (10),int (-1),int (-1),int 0,int 0,Jg ⟨#[118,102,111,114,107]⟩,int (58),int (58),int (190),int (-1),int (-1),int 0,int 0,Jg ⟨#[119,97,105,116,112,105,100]⟩,int (-1),int (-1),int (7),int (-1),int (-1),int 0,int 0,Jg ⟨#[119,114,105,116,101]⟩,int (1),int (1),int (4),int (64),int (64),int 0,int 0,Jg ⟨#[119,114,105,116,101,118]⟩,int (20),int (516),int (146),int (66),int (66),int 0,int 0]):=by kernel_rfl
set_option maxHeartbeats 4000000 in
theorem JtZ:Tells Tryz.prog 148 [] (Jv JkN):=by
 refine Jf Tryz.func148 rfl rfl fun nx=> ?_
 (refine JB ?_;refine JE ?_;refine JB ?_)
 refine JO (fun n=> match n with | 0=> true | _=> false) 107 ?_
 refine stp ?_
 refine Jh3 rfl Jr5 ?_
 refine stp ?_
 refine Jd rfl (AVle.os_sl.trans (AVle.sl_fun fun k hk=> ?_))
 match k,hk with
 | 0,_=> rfl
 | 1,_=> rfl
 | 2,_=> rfl
 | 3,_=> rfl
 | 4,_=> rfl
 | 5,_=> rfl
 | 6,_=> rfl
 | 7,_=> rfl
 | 8,_=> rfl
 | 9,_=> rfl
 | 10,_=> rfl
 | 11,_=> rfl
 | 12,_=> rfl
 | 13,_=> rfl
 | 14,_=> rfl
 | 15,_=> rfl
 | 16,_=> rfl
 | 17,_=> rfl
 | 18,_=> rfl
 | 19,_=> rfl
 | 20,_=> rfl
 | 21,_=> rfl
 | 22,_=> rfl
 | 23,_=> rfl
 | 24,_=> rfl
 | 25,_=> rfl
 | 26,_=> rfl
 | 27,_=> rfl
 | 28,_=> rfl
 | 29,_=> rfl
 | 30,_=> rfl
 | 31,_=> rfl
 | 32,_=> rfl
 | 33,_=> rfl
 | 34,_=> rfl
 | 35,_=> rfl
 | 36,_=> rfl
 | 37,_=> rfl
 | 38,_=> rfl
 | 39,_=> rfl
 | 40,_=> rfl
 | 41,_=> rfl
 | 42,_=> rfl
 | 43,_=> rfl
 | 44,_=> rfl
 | 45,_=> rfl
 | 46,_=> rfl
 | 47,_=> rfl
 | 48,_=> rfl
 | 49,_=> rfl
 | 50,_=> rfl
 | 51,_=> rfl
 | 52,_=> rfl
 | k+53,hk=> exact absurd hk Om
end Go.Proofs.W

namespace Go.Proofs.W
open Go.Vl
set_option maxRecDepth 100000
def builtL:List TRow:=Jil++JkN
theorem Jr6 (l:List TRow):NoId (Jv l):=NoId.sl fun i _ c hc=> by
 have hc:c∈Ja3 (l.getD i trow0):=hc
 unfold Ja3 at hc
 simp only [List.mem_cons,List.not_mem_nil,or_false] at hc
 rcases hc with rfl | rfl | rfl | rfl | rfl | rfl | rfl | rfl <;> exact NoId.v _
theorem JoU:Tells Tryz.prog 79 [] (Jv builtL):=by
 have hc:=JpU [Jil,JkN] Dc Dc none
 have e: [Jil,JkN].flatten=builtL:=by unfold builtL;simp
 rw [e] at hc
 have he:=Jr4
 have hl:=JtZ
 generalize Jil=A at he hc
 generalize JkN=B at hl hc
 generalize builtL=C at hc
 refine Jf Tryz.func79 rfl rfl fun nx=> ?_
 refine stp ?_
 refine Je rfl rfl he trivial fun nx2=> ?_
 refine stp ?_
 refine Je rfl rfl hl trivial fun nx3=> ?_
 refine stp ?_
 refine Je rfl rfl hc ⟨AVle.os_fun fun k hk=> ?_,trivial⟩ fun nx4=> ?_
 ·match k,hk with
  | 0,_=> rfl
  | 1,_=> rfl
 refine stp ?_
 exact Jd rfl Rf
end Go.Proofs.W

namespace Go.Proofs.W
open Go.Vl
set_option maxRecDepth 100000
end Go.Proofs.W

namespace Go.Proofs.W
open Go.Vl
set_option maxRecDepth 100000
theorem JxR {l:List TRow} (h:JjC l=true):l.length≤40∧∀r∈l,r.name.size≤60:=by
 unfold JjC at h
 simp only [Bool.and_eq_true,decide_eq_true_eq,Bool.not_eq_true',List.any_eq_false] at h
 exact ⟨h.1,fun r hr=> by have:=h.2 r hr;omega⟩
end Go.Proofs.W

namespace Go.Proofs.W
open Go.Vl
set_option maxRecDepth 100000
end Go.Proofs.W

namespace Go.Proofs.W
open Go.Vl
set_option maxRecDepth 100000
def Jyo (a:Int) (x:Nat):Nat:=if a=2 then x % 4294967296 else x
def hR (a:Int) (x:Nat→Nat) (c:Cnd):Bool:=Js5 c (Jyo a (x c.arg.toNat))
end Go.Proofs.W

namespace Go.Proofs.W
open Go.Vl
set_option maxRecDepth 100000
def Jdy (k n:Int) (x32:Bool) (rs:List Rul):List AV:= [int k,int n,Jb x32,Ji rs]
end Go.Proofs.W

namespace Go.Proofs.W
open Go.Vl
set_option maxRecDepth 100000
end Go.Proofs.W

namespace Go.Proofs.W
open Go.Vl
set_option maxRecDepth 100000
theorem JhE (a:A2) (h:JaA a.1 a.2=true):Tells Tryz.prog 30 [Joh a] (int (codeA a:Nat)):=by
 obtain ⟨k,n⟩:=a
 obtain ⟨k',n',rfl,rfl,h1,h2⟩:=JgL h
 have:=JrI k' n' h1 h2
 unfold codeA
 dsimp only
 rw [show ((k'+1:Nat):Int).toNat - 1=k' by omega,show ((n':Nat):Int).toNat=n' by omega]
 exact this
end Go.Proofs.W

namespace Go.Proofs.W
open Go.Vl
set_option maxRecDepth 100000
end Go.Proofs.W

namespace Go.Proofs.W
open Go.Vl
set_option maxRecDepth 100000
theorem JwX:pAw.ok:=by
 refine ⟨by decide,fun r hr=> ?_⟩
 rw [List.mem_singleton.1 hr]
 exact ⟨by decide,by decide,fun c hc=> by cases hc⟩
end Go.Proofs.W

namespace Go.Proofs.W
open Go.Vl
set_option maxRecDepth 100000
end Go.Proofs.W

namespace Go.Proofs.W
open Go.Vl
set_option maxRecDepth 100000
theorem Jr7 {p:Pol} (h:Jfq p=true):p.rules.length≤40∧∀r∈p.rules,r.conds.length≤12:=by
 unfold Jfq at h
 simp only [Bool.and_eq_true,decide_eq_true_eq,List.all_eq_true] at h
 refine ⟨h.1,fun r hr=> ?_⟩
 have:=h.2 r hr
 unfold JdY at this
 simp only [Bool.and_eq_true,decide_eq_true_eq] at this
 exact this.2
theorem Jvw {p:Pol} (hp:p.ok) (h:Jfq p=true):JrM p:=by
 obtain ⟨h1,h2⟩:=Jr7 h
 exact ⟨by omega,fun r hr=> ⟨by have:=h2 r hr;omega,(hp.2 r hr).2.2⟩⟩
end Go.Proofs.W

namespace Go.Proofs.W
open Go.Vl
set_option maxRecDepth 100000
theorem JhF {l:List TRow} (hok:(JbR l).2=0) {a:Nat} (ha:a < l.length):JaK l (l.getD a trow0).name=l.getD a trow0:=by
 have hs:=JeD hok
 have hm:=Jfg hs (l.getD a trow0).name
 have h1:¬Ja5 l (l.getD a trow0).name < a:=fun q=> by
  have:=Jg0 (l:=l) (s:=(l.getD a trow0).name) Om
  exact this (JiD.2 (hs _ _ q ha))
 have h2:¬a < Ja5 l (l.getD a trow0).name:=fun q=> by
  have:=JiC q
  rw [JiD] at this
  exact JiI _ this
 have e:Ja5 l (l.getD a trow0).name=a:=by omega
 unfold JaK JaD
 rw [e,decide_eq_true ha,decide_eq_true (JiE.2 rfl)]
 rfl
end Go.Proofs.W

namespace Go.Proofs.W
open Go.Vl
set_option maxRecDepth 100000
theorem Jr8 {a d:Nat} {x:Bool} {row:TRow} {rs:List PRul} (h1:¬row.num a < 0) (h2:¬(a=1∧x=false)) (h3:Jau a rs d≠ []):JaI a d x row rs= [⟨wholeN a (row.num a),Jau a rs d⟩]:=if_neg fun h=> h.elim h1 fun h=> h.elim h2 h3
theorem JiQ {p:Pol} {g:ByteArray×List Rul} (hg:g∈JM (Jc p).rules):g.2=(Jc p).rules.filter fun r=> kS r.name g.1:=((Jdx (JdP p)).rows g hg).1
theorem Jt0 {p:Pol} {l:List TRow} {a:Nat} {e:PEnt} (h:e∈(Jal p l).ents a):∃g∈JM (Jc p).rules,e∈JaI a (codeA p.dflt) p.x32 (JaK l g.1) (g.2.map JL):=by
 have h1:=(JfL (Jbk (Jc p) l (JM (Jc p).rules) a)).mem_iff.1 h
 unfold Jbk at h1
 obtain ⟨g,hg,h2⟩:=List.mem_flatMap.1 h1
 exact ⟨g,hg,h2⟩
theorem Jt1 {p:Pol} {l:List TRow} {a:Nat} {e:PEnt} {g:ByteArray×List Rul} (hg:g∈JM (Jc p).rules) (h:e∈JaI a (codeA p.dflt) p.x32 (JaK l g.1) (g.2.map JL)):e∈(Jal p l).ents a:=
 (JfL (Jbk (Jc p) l (JM (Jc p).rules) a)).mem_iff.2 (by unfold Jbk;exact List.mem_flatMap.2 ⟨g,hg,h⟩)
theorem Jt2 {p:Pol} {l:List TRow} {m:Nat} {e:PSub} (h:e∈(Jal p l).subs m):∃g∈JM (Jc p).rules,e∈JbM m (JaK l g.1) (g.2.map JL):=by
 have h1:=(JfM (Jce l (JM (Jc p).rules) m)).mem_iff.1 h
 unfold Jce at h1
 obtain ⟨g,hg,h2⟩:=List.mem_flatMap.1 h1
 exact ⟨g,hg,h2⟩
theorem Jt3 {p:Pol} {l:List TRow} {m:Nat} {e:PSub} {g:ByteArray×List Rul} (hg:g∈JM (Jc p).rules) (h:e∈JbM m (JaK l g.1) (g.2.map JL)):e∈(Jal p l).subs m:=
 (JfM (Jce l (JM (Jc p).rules) m)).mem_iff.2 (by unfold Jce;exact List.mem_flatMap.2 ⟨g,hg,h⟩)
theorem Jvx {l:List TRow} {q:TRow→Bool} (h:l.findIdx? q=none) {j:Nat} (hj:j < l.length):q (l.getD j trow0)=false:=by
 have:=List.findIdx?_eq_none_iff.1 h (l.getD j trow0) (by simp [List.getD,hj])
 simpa using this
theorem JwY {l:List TRow} {q:TRow→Bool} {i:Nat} (h:l.findIdx? q=some i):i < l.length∧q (l.getD i trow0)=true:=by
 obtain ⟨hi,hb,_⟩:=List.findIdx?_eq_some_iff_getElem.1 h
 exact ⟨hi,by rw [show l.getD i trow0=l[i] by simp [List.getD,hi]];exact hb⟩
end Go.Proofs.W

namespace Go.Proofs.W
open Go.Vl
set_option maxRecDepth 100000
theorem JjL:∀ {l m:List Nat},l.Nodup→(∀x∈l,x∈m)→l.length≤m.length
 | [],m,_,_=> Nat.zero_le _
 | x::l,m,hn,h=> by
   obtain ⟨h1,h2⟩:=List.nodup_cons.1 hn
   have hx:=h x (.head _)
   have h3:=JjL (m:=m.erase x) h2 fun y hy=> (List.mem_erase_of_ne (fun e:y=x=> h1 (e ▸ hy))).2 (h y (.tail _ hy))
   rw [List.length_erase_of_mem hx] at h3
   have:=List.length_pos_of_mem hx
   rw [List.length_cons];omega
theorem JoV {A:List Nat} {n:Nat} {q:Nat→Bool} {f:Nat→Nat} (hA:A.Nodup) (hi:∀i j,i < n→j < n→q i=true→q j=true→f i=f j→i=j) (h:∀x,x∈A↔∃i,i < n∧q i=true∧x=f i):((List.range n).filter q).length=A.length:=by
 have hm:∀ {i},i∈(List.range n).filter q↔i < n∧q i=true:=fun {i}=> by rw [List.mem_filter,List.mem_range]
 have e1:(((List.range n).filter q).map f).length=((List.range n).filter q).length:=List.length_map ..
 rw [← e1]
 refine Nat.le_antisymm ?_ ?_
 ·skip
  refine JjL ?_ fun x hx=> ?_
  ·unfold List.Nodup
   rw [List.pairwise_map]
   exact (List.Pairwise.filter q List.nodup_range).imp_of_mem fun {i j} h1 h2 hne e=> hne (hi i j (hm.1 h1).1 (hm.1 h2).1 (hm.1 h1).2 (hm.1 h2).2 e)
  ·obtain ⟨i,h1,rfl⟩:=List.mem_map.1 hx
   exact (h _).2 ⟨i,(hm.1 h1).1,(hm.1 h1).2,rfl⟩
 ·refine JjL hA fun x hx=> ?_
  obtain ⟨i,h1,h2,rfl⟩:=(h x).1 hx
  exact List.mem_map_of_mem (hm.2 ⟨h1,h2⟩)
def rowR18 (p:Pol) (l:List TRow) (i:Nat):List Rul:=p.rules.filter fun r=> kS r.name (l.getD i trow0).name
def rowS18 (p:Pol) (l:List TRow) (a i:Nat):List PRul:=Jau a ((rowR18 p l i).map JL) (codeA p.dflt)
def entryB (p:Pol) (l:List TRow) (a i:Nat):Bool:=decide (0≤(l.getD i trow0).num a)&& ((decide (a≠1)|| p.x32)&& decide (0 < (rowS18 p l a i).length))
theorem JeK {p:Pol} {l:List TRow} {a i:Nat}:entryB p l a i=true↔0≤(l.getD i trow0).num a∧¬(a=1∧p.x32=false)∧rowS18 p l a i≠ []:=by
 unfold entryB
 simp only [Bool.and_eq_true,Bool.or_eq_true,decide_eq_true_eq]
 rw [List.length_pos_iff]
 refine and_congr_right fun _=> and_congr_left fun _=> ?_
 cases p.x32 <;> simp
theorem JiR {p:Pol} {l:List TRow} {a:Nat} {e:PEnt} (hv:(JR p l).2=0):e∈(Jal p l).ents a↔∃i,i < l.length∧entryB (Jc p) l a i=true∧e=⟨wholeN a ((l.getD i trow0).num a),rowS18 (Jc p) l a i⟩:=by
 have ht:=(Jak.1 hv).2.1
 have hG:=JdQ (p:=p) (Jck hv)
 constructor
 ·intro he
  obtain ⟨g,hg,h2⟩:=Jt0 he
  obtain ⟨j,hj,r1,n1⟩:=hG g hg
  have hr:rowR18 (Jc p) l j=g.2:=by unfold rowR18;rw [n1,← JiQ hg]
  refine ⟨j,hj, ?_⟩
  rw [r1] at h2
  unfold JaI at h2
  split at h2
  ·cases h2
  ·rename_i q
   have hS:rowS18 (Jc p) l a j=Jau a (g.2.map JL) (codeA p.dflt):=by unfold rowS18;rw [hr];rfl
   rw [List.mem_singleton.1 h2,hS]
   refine ⟨JeK.2 ⟨?_,fun k=> q (.inr (.inl k)),fun k=> q (.inr (.inr (by rw [← hS];exact k)))⟩,rfl⟩
   have:¬(l.getD j trow0).num a < 0:=fun k=> q (.inl k)
   omega
 ·rintro ⟨i,hi,hb,rfl⟩
  obtain ⟨b1,b2,b3⟩:=JeK.1 hb
  have hne:rowR18 (Jc p) l i≠ []:=fun k=> b3 (by unfold rowS18;rw [k];rfl)
  obtain ⟨n,hn⟩:=List.exists_mem_of_ne_nil _ hne
  obtain ⟨hn1,hn2⟩:=List.mem_filter.1 hn
  obtain ⟨g,hg,hgn⟩:=(Jdx (JdP p)).all n hn1
  have hg1:g.1=(l.getD i trow0).name:=hgn.trans (Ja4.1 hn2)
  have hg2:=JiQ hg
  rw [hg1] at hg2
  have hro:=JhF ht hi
  refine Jt1 hg ?_
  rw [hg1,hro,hg2]
  have:=Jr8 (a:=a) (d:=codeA p.dflt) (x:=p.x32) (row:=l.getD i trow0) (rs:=(rowR18 (Jc p) l i).map JL) Om b2 b3
  unfold rowR18 at this
  rw [this]
  exact .head _
theorem Jg5 {p:Pol} {l:List TRow} {m:Nat} {s:PSub} (hv:(JR p l).2=0):s∈(Jal p l).subs m↔∃i r,i < l.length∧(l.getD i trow0).mux=(m:Int)+1∧(rowR18 (Jc p) l i).head? =some r∧s=⟨(l.getD i trow0).sub.toNat,codeA r.act⟩:=by
 have ht:=(Jak.1 hv).2.1
 have hG:=JdQ (p:=p) (Jck hv)
 constructor
 ·intro he
  obtain ⟨g,hg,h2⟩:=Jt2 he
  obtain ⟨j,hj,r1,n1⟩:=hG g hg
  have hr:rowR18 (Jc p) l j=g.2:=by unfold rowR18;rw [n1,← JiQ hg]
  have hne:=((Jdx (JdP p)).rows g hg).2
  obtain ⟨n,L,hL⟩:=List.exists_cons_of_ne_nil hne
  rw [r1] at h2
  unfold JbM at h2
  split at h2
  ·rename_i q
   refine ⟨j,n,hj,q,by rw [hr,hL];rfl, ?_⟩
   rw [List.mem_singleton.1 h2,hL];rfl
  ·cases h2
 ·rintro ⟨i,r,hi,hm,hh,rfl⟩
  have hne:rowR18 (Jc p) l i≠ []:=fun k=> by rw [k] at hh;cases hh
  obtain ⟨n,hn⟩:=List.exists_mem_of_ne_nil _ hne
  obtain ⟨hn1,hn2⟩:=List.mem_filter.1 hn
  obtain ⟨g,hg,hgn⟩:=(Jdx (JdP p)).all n hn1
  have hg1:g.1=(l.getD i trow0).name:=hgn.trans (Ja4.1 hn2)
  have hg2:=JiQ hg
  rw [hg1] at hg2
  have hro:=JhF ht hi
  refine Jt3 hg ?_
  rw [hg1,hro,hg2]
  unfold JbM
  rw [if_pos hm]
  obtain ⟨n',L,hL⟩:=List.exists_cons_of_ne_nil hne
  unfold rowR18 at hL hh
  rw [hL] at hh⊢
  cases hh
  exact .head _
theorem Jqz {α:Type} {f:α→Nat} {l:List α} (h1:l.Pairwise fun a b=> f a≤f b) (h2:(l.map f).Nodup):l.Pairwise fun a b=> f a < f b:=by
 unfold List.Nodup at h2
 rw [List.pairwise_map] at h2
 exact (h1.and h2).imp fun {a b} h=> Nat.lt_of_le_of_ne h.1 h.2
theorem JmD {p:Pol} {l:List TRow} {a:Nat} (hv:(JR p l).2=0) (ha:a < 5):((Jal p l).ents a).Pairwise fun x y=> x.num < y.num:=
 Jqz (JoJ _) (((JfL _).map _).nodup_iff.2 (Jhz (p:=Jc p) (Jak.1 hv).2.1 ha JeJ (JdQ (p:=p) (Jck hv))))
theorem JmE {p:Pol} {l:List TRow} {m:Nat} (hv:(JR p l).2=0):((Jal p l).subs m).Pairwise fun x y=> x.num < y.num:=
 Jqz (JoK _) (((JfM _).map _).nodup_iff.2 (JhA (Jak.1 hv).2.1 JeJ (JdQ (p:=p) (Jck hv))))
theorem JkO {α:Type} {f:α→Nat} {l:List α} (h:l.Pairwise fun a b=> f a < f b):(l.map f).Nodup:=by
 unfold List.Nodup
 rw [List.pairwise_map]
 exact h.imp fun {a b} h=> Nat.ne_of_lt h
theorem JkP {p:Pol} {l:List TRow} {a:Nat} (hv:(JR p l).2=0) (ha:a < 5):((List.range l.length).filter (entryB (Jc p) l a)).length=((Jal p l).ents a).length:=by
 have ht:=(Jak.1 hv).2.1
 have e1:(((Jal p l).ents a).map (·.num)).length=((Jal p l).ents a).length:=List.length_map ..
 rw [← e1]
 refine JoV (f:=fun i=> wholeN a ((l.getD i trow0).num a)) (JkO (JmD hv ha)) (fun i j hi hj h1 h2 e=> ?_) fun x=> ?_
 ·have b1:=(JeK.1 h1).1
  have b2:=(JeK.1 h2).1
  try dsimp only at e
  rw [JdN b1 (Jeo ht hi).1,JdN b2 (Jeo ht hj).1] at e
  exact Jqs ht ha hi hj b1 (by split at e <;> omega)
 ·constructor
  ·intro h
   obtain ⟨e,he,rfl⟩:=List.mem_map.1 h
   obtain ⟨i,hi,hb,rfl⟩:=(JiR hv).1 he
   exact ⟨i,hi,hb,rfl⟩
  ·rintro ⟨i,hi,hb,rfl⟩
   exact List.mem_map.2 ⟨_,(JiR hv).2 ⟨i,hi,hb,rfl⟩,rfl⟩
def subB18 (p:Pol) (l:List TRow) (m i:Nat):Bool:=decide ((l.getD i trow0).mux=(m:Int)+1)&& (rowR18 p l i).head?.isSome
theorem JkQ {p:Pol} {l:List TRow} {m:Nat} (hv:(JR p l).2=0):((List.range l.length).filter (subB18 (Jc p) l m)).length=((Jal p l).subs m).length:=by
 have ht:=(Jak.1 hv).2.1
 have e1:(((Jal p l).subs m).map (·.num)).length=((Jal p l).subs m).length:=List.length_map ..
 rw [← e1]
 have hB:∀i,subB18 (Jc p) l m i=true↔(l.getD i trow0).mux=(m:Int)+1∧∃r,(rowR18 (Jc p) l i).head? =some r:=fun i=> by
  unfold subB18
  rw [Bool.and_eq_true,decide_eq_true_eq,Option.isSome_iff_exists]
 refine JoV (f:=fun i=> (l.getD i trow0).sub.toNat) (JkO (JmE hv)) (fun i j hi hj h1 h2 e=> ?_) fun x=> ?_
 ·have b1:=((hB i).1 h1).1
  have b2:=((hB j).1 h2).1
  have c1:=Je0 ht hi
  have c2:=Je0 ht hj
  try dsimp only at e
  exact Jqt ht hi hj Om Om Om
 ·constructor
  ·intro h
   obtain ⟨e,he,rfl⟩:=List.mem_map.1 h
   obtain ⟨i,r,hi,hm,hh,rfl⟩:=(Jg5 hv).1 he
   exact ⟨i,hi,(hB i).2 ⟨hm,r,hh⟩,rfl⟩
  ·rintro ⟨i,hi,hb,rfl⟩
   obtain ⟨hm,r,hh⟩:=(hB i).1 hb
   exact List.mem_map.2 ⟨_,(Jg5 hv).2 ⟨i,r,hi,hm,hh,rfl⟩,rfl⟩
end Go.Proofs.W

namespace Go.Proofs.W
open Go.Vl
set_option maxRecDepth 100000
def stA (a:Nat) (c:Cnd):Cnd×Nat:=if a=2 then JbQ c else (c,0)
def Je2 (a:Nat) (c:Cnd):Bool:=decide ((stA a c).2=2)
def Je3 (a:Nat) (c:Cnd):Option Cnd:=if (stA a c).2=0 then some (stA a c).1 else none
theorem JqA (a:Nat) (r:PRul):Jdg a r=if r.conds.any (Je2 a) then none else some ⟨r.conds.filterMap (Je3 a),r.code⟩:=by
 unfold Jdg
 by_cases h:a=2
 ·subst h;rfl
 ·rw [if_neg h]
  have h1:∀c,stA a c=(c,0):=fun c=> if_neg h
  have h2:r.conds.any (Je2 a)=false:=by
   rw [List.any_eq_false]
   intro c _
   unfold Je2
   rw [h1];simp
  have h3:Je3 a=some:=funext fun c=> by unfold Je3;rw [h1];rfl
  rw [h2,h3,if_neg Dc,List.filterMap_some]
def JiS (a:Nat) (over:Bool) (l:List PRul):List PRul:=if over then [] else JbY a l
theorem JhG {a:Nat} {q:PRul} {l:List PRul}:JbY a (q::l)=match Jdg a q with
 | none=> JbY a l
 | some r=> r::JiS a (decide (r.conds.length=0)) l:=by
 show (match Jdg a q with | none=> JbY a l | some q=> if q.conds.length=0 then [q] else q::JbY a l)=_
 cases Jdg a q with
 | none=> rfl
 | some r=>
   dsimp only
   unfold JiS
   by_cases h:r.conds.length=0
   ·rw [if_pos h,decide_eq_true h];rfl
   ·rw [if_neg h,decide_eq_false h];rfl
theorem Jvy {a:Nat} {cs:List Cnd} {k:Nat} (hk:k < cs.length):(cs.take (k+1)).filterMap (Je3 a)=(cs.take k).filterMap (Je3 a)++(Je3 a (cs.getD k cnd0)).toList:=by
 rw [JaZ cnd0 hk,List.filterMap_append]
 congr 1
theorem Jvz {a:Nat} {cs:List Cnd} {k:Nat} (hk:k < cs.length):(cs.take (k+1)).any (Je2 a)=((cs.take k).any (Je2 a)|| Je2 a (cs.getD k cnd0)):=by
 rw [JaZ cnd0 hk,List.any_append]
 simp
theorem JwZ {a:Nat} {cs:List Cnd} {k:Nat}:((cs.take k).filterMap (Je3 a)).length≤k:=
 Nat.le_trans (List.length_filterMap_le _ _) (List.length_take_le _ _)
def Jdm (s:ByteArray) (l:List Rul) (i:Nat):List PRul:=((l.drop i).filter fun r=> kS r.name s).map JL
theorem Jr9 {s:ByteArray} {l:List Rul} {i:Nat} (hi:i < l.length):Jdm s l i=if kS (l.getD i rul0).name s then JL (l.getD i rul0)::Jdm s l (i+1) else Jdm s l (i+1):=by
 unfold Jdm
 rw [List.drop_eq_getElem_cons hi,List.filter_cons,show l.getD i rul0=l[i] by simp [List.getD,hi]]
 split <;> rfl
theorem Jt4 {s:ByteArray} {l:List Rul}:Jdm s l l.length= []:=by unfold Jdm;rw [List.drop_length];rfl
end Go.Proofs.W

namespace Go.Proofs.W
open Go.Vl Go.Shelf Go.RowKit
set_option maxRecDepth 100000
theorem Jt5 (n:Nat) (h1:1≤n) (h2:n < 18446744073709551616):Tells Tryz.prog 364 [u64 n] (int (Lib.nDigits n:Nat)):=
 Jdk (vs:= [.int .u64 n]) ⟨_,Tryz.func364,rfl,rfl⟩ fun w hk=> (Any.internal_strconv_numDigits { Tryz.laysM171 with} n h1 h2 w (Jqu hk)).mono fun e w' ⟨h1,h2⟩=> ⟨h1,h2 ▸ Below.refl _ _⟩
theorem Jsa (n:Nat) (h:n < 100):Tells Tryz.prog 363 [int n] (Jg (Jdi n)):=
 Jdk (vs:= [.int .i64 n]) ⟨_,Tryz.func363,rfl,rfl⟩ fun w hk=> (Any.internal_strconv_small { Tryz.laysM171 with} n h w).mono fun e w' ⟨h1,h2⟩=> ⟨h1,h2 ▸ Below.refl _ _⟩
def byV (b:UInt8):Value:= .int .u8 (b.toNat:Int)
def zer (k:Nat):List AV:=List.replicate k (.v (.int .u8 0))
theorem Jw0 {k:Nat} (h:k≤24):zer 24=(Array.replicate k (0:UInt8)).toList.map (fun b=> AV.v (byV b))++zer (24 - k):=by
 unfold zer
 rw [Array.toList_replicate,List.map_replicate,show byV 0= .int .u8 0 from rfl,List.replicate_append_replicate]
 congr 1
 omega
theorem Jwe {n:Nat} (h1:1≤n) (h:n < 18446744073709551616):Lib.nDigits n≤20:=by
 have:=Lib.numDigits_eq n h1 h
 split at this <;> omega
def JvA (n:Nat):List AV:=(Lib.decDigits n).map (fun b=> AV.v (byV b))++zer (24 - Lib.nDigits n)
theorem Jsb (n:Nat) (h1:1≤n) (h:n < 18446744073709551616) (s nx:Nat):
 ECall Tryz.prog 365 [.hs (0,s) 0 (Lib.nDigits n) 24,u64 n] ⟨[((0,s), .c (zer 24))], [],nx,1⟩ fun r h'=> r= .tup []∧h'=⟨[((0,s), .c (JvA n))], [],nx,1⟩:=by
 have h20:=Jwe h1 h
 have hd:(Array.replicate (Lib.nDigits n) (0:UInt8)).size=Lib.nDigits n:=Array.size_replicate
 rw [Jw0 (k:=Lib.nDigits n) Om]
 have:=Jl0 (P:=Tryz.prog) (enc:=byV) (d:=Array.replicate (Lib.nDigits n) (0:UInt8)) (d':=(Lib.decDigits n).toArray) (tl:=zer (24 - Lib.nDigits n)) (vs:= [.int .u64 n]) (R:= .tup []) (res:=fun _=> .tuple #[]) (nm:=0) (s:=s) (cap:=24) (nx:=nx) (nn:=1) (f:=365) ⟨_,Tryz.func365,rfl,rfl⟩ (by rw [hd,List.size_toArray,Lib.decDigits_length]) (fun _ _ _ _ _=> .tup [] [] rfl (by simp)) (fun w blk hk hH hb=> by
  have k:=Any.internal_strconv_formatBase10 { Tryz.laysM171 with} blk 0 24 n (Array.replicate (Lib.nDigits n) 0) w hH (by rw [hd];exact Lib.lt_pow_nDigits n) h (by rw [hd];omega)
  refine k.mono fun e w' ⟨h1,q,v',dk,h2,hF⟩=> ⟨h1,q, #[], ?_⟩
  rw [hd] at hF
  have e1:dk=(Lib.decDigits n).toArray:=by
   refine Array.ext (by rw [hF.size,List.size_toArray,Lib.decDigits_length]) fun j hj1 hj2=> ?_
   have hj3:j < (Lib.decDigits n).length:=by simpa using hj2
   have:=Lib.row_is_numeral hF j hj3
   have e3:dk[j]! =dk[j]:=by simp [hj1]
   exact e3.symm.trans (this.symm.trans (by simp))
  have e2:(Sort.putRow byV w blk 0 dk).drewN q=Sort.putRow byV (Sort.ahead w q) blk 0 dk:=by
   have:=putRow_drewN byV w 0 q blk 0 dk
   rw [Nat.zero_add] at this
   exact this
  rw [h2,← e1]
  show (Sort.putRow byV w blk 0 dk).drewN q=_
  rw [e2]
  unfold Sort.grow
  rw [Array.append_empty])
 rw [hd] at this
 exact this
theorem JxS {n j:Nat} (hj:j < (Lib.decDigits n).length):(JvA n)[0+j]? =some (.v (.int .u8 ((Lib.decDigits n)[j].toNat:Int))):=by
 unfold JvA
 rw [Nat.zero_add,List.getElem?_append_left (by simpa using hj),List.getElem?_map,List.getElem?_eq_getElem hj]
 rfl
set_option maxHeartbeats 1000000 in
theorem JoW (n:Nat) (hn:n < 18446744073709551616):Tells Tryz.prog 367 [u64 n,int 10] (Jg (Jdi n)):=by
 refine Jf Tryz.func367 rfl rfl fun nx=> ?_
 refine stp ?_
 intro c t1;cases c
 ·have t1:=Jm t1
  have h1:1≤n:=by omega
  have h20:=Jwe h1 hn
  refine stp ?_
  refine Je rfl rfl (Jt5 n h1 hn) ⟨Rf,trivial⟩ fun nx2=> ?_
  refine JB ?_
  refine JO (fun n=> match n with | 0=> true | _=> false) 2 ?_
  refine stp ?_
  refine Jl1 (n:=24) (h:=Lib.nDigits n) rfl rfl rfl Tryz.underlying432 Tryz.underlying5 (by kernel_rfl) Om Dc ?_
  refine stp ?_
  refine J1 (xs:= [.hs (0,nx) 0 (Lib.nDigits n) 24,u64 n]) [] [] 1 rfl rfl rfl rfl ⟨Rf,Rf,trivial⟩ (Jsb n h1 hn nx _) Bf Pf rfl fun r h' hq=> ?_
  obtain ⟨rfl,rfl⟩:=hq
  refine JB ?_
  refine JO (fun n=> match n with | 0=> true | 1=> true | _=> false) 3 ?_
  refine stp ?_
  refine Jl1 (n:=24) (h:=Lib.nDigits n) rfl rfl rfl Tryz.underlying432 Tryz.underlying5 (by kernel_rfl) Om Dc ?_
  refine stp ?_
  refine Js3 (l:=Lib.decDigits n) (cap:=24) (off:=0) (i:=(0,nx)) rfl (by rw [Lib.decDigits_length];rfl) rfl (fun j hj=> JxS hj) Tryz.underlying59 Tryz.underlying5 Tryz.underlying9 ?_
  refine stp ?_
  exact Jd rfl Rf
 ·have t1:=Jn t1
  refine stp ?_
  refine Je rfl rfl (Jsa n Om) ⟨Jl (Jac Om Om),trivial⟩ fun nx2=> ?_
  refine stp ?_
  exact Jd rfl Rf
end Go.Proofs.W

namespace Go.Proofs.W
open Go.Vl
set_option maxRecDepth 100000
end Go.Proofs.W

namespace Go.Proofs.W
open Go.Vl
set_option maxRecDepth 100000
theorem JsJ {a b:ByteArray} (h:a=b):AVle (Jg a) (Jg b):=h ▸ Rf
theorem JqB:∀(k n:Nat),n < 10 ^ (k+1)→(Lib.decDigits n).length≤k+1
 | 0,n,h=> by rw [Lib.decDigits,dif_pos Om];exact Nat.le_refl _
 | k+1,n,h=> by
   rw [Lib.decDigits]
   split
   ·exact Nat.succ_le_succ (Nat.zero_le _)
   ·rw [List.length_append,List.length_singleton]
    have:=JqB k (n / 10) (by rw [Nat.pow_succ] at h;omega)
    omega
theorem JmF {n:Nat} (h:n≤18446744073709551615):(Jdi n).size≤20:=JqB 19 n Om
theorem JmG {a b:AV} {K:AV→Prop} (h:a=b) (hk:JcU b K):JcU a K:=h ▸ hk
def spB:ByteArray:=⟨#[32]⟩
end Go.Proofs.W

namespace Go.Proofs
open Go.Shelf
shelf_lay Lays.n156 Nm 156 at Tryz as Tryz.lays156
end Go.Proofs
namespace Go.Proofs.W
open Go.Vl Go.Shelf Go.RowKit
set_option maxRecDepth 100000
theorem Jwf:Builder.Extra Tryz.prog Tryz.lays156_ren where
 sizeBuilder:=by kernel_rfl
 liesBuilder:=by kernel_rfl
 t5:=Tryz.underlying5
 a5:=Tryz.isAgg5
 z5:=Tryz.sizeOf5
 v5:=Tryz.zeroValue5
 infoByte:=by kernel_rfl
 cellsByte:=by kernel_rfl
 sizeByte:=by kernel_rfl
 neB5:=by decide
def Jno (l:List ByteArray):AV:=JN 1 Jg ⟨#[]⟩ l
def Jd6 (l:List ByteArray) (sep:ByteArray):ByteArray:=⟨(Lib.join (l.map (·.data.toList)) sep.data.toList).toArray⟩
theorem JgE (l:List ByteArray) (sep:ByteArray) (hl:l.length≤1000000) (hs:(Jd6 l sep).size≤140737488355328):Tells Tryz.prog 190 [Jno l,Jg sep] (Jg (Jd6 l sep)):=by
 have h:=Jrc (P:=Tryz.prog) (f:=190) (u:= .string (Jd6 l sep)) (xs:=l.map .string) (vs:= [.string sep]) ⟨_,Tryz.func190,rfl,rfl⟩ (fun h0 a cap w _=> ?_) (fun b off cap w hk hc hb hcap h0=> ?_)
 refine Tells.args (bs:= [.sl 1 (l.map Value.string).length (fun k=> .v ((l.map Value.string).getD k undef)),Jg sep]) ⟨?_,Rf,trivial⟩ h
 ·rw [List.length_map]
  refine AVle.sl_fun fun k hk=> ?_
  simp [Jg,List.getD,List.getElem?_map,List.getElem?_eq_getElem hk]
 ·obtain rfl:l= []:=by simpa using h0
  exact (Any.strings_Join_none Tryz.lays156 Jwf a cap sep w).mono fun e w' ⟨h1,h2⟩=> ⟨h1,h2 ▸ Below.refl _ _⟩
 ·rw [List.length_map] at hcap⊢
  exact Any.strings_Join Tryz.lays156 Jwf b off cap l sep w (fun j x hx=> hc j _ (by rw [List.getElem?_map,hx];rfl)) hb Om hcap (by simpa [Jd6,ByteArray.size] using hs)
theorem JoX (n:Nat) (h:n < 18446744073709551616):Tells Tryz.prog 248 [u64 n] (Jg (Jdi n)):=by
 have h1:Tells Tryz.prog 303 [u64 n,int 10] (Jg (Jdi n)):=by
  refine Jf Tryz.func303 rfl rfl fun nx=> ?_
  refine stp ?_
  refine Je rfl rfl (JoW n h) ⟨Rf,Rf,trivial⟩ fun nx2=> ?_
  refine stp ?_
  exact Jd rfl Rf
 refine Jf Tryz.func248 rfl rfl fun nx=> ?_
 refine stp ?_
 refine Je rfl rfl h1 ⟨Rf,Rf,trivial⟩ fun nx2=> ?_
 refine stp ?_
 exact Jd rfl Rf
def Jlw (c:Cnd):ByteArray:=⟨(Jaq c).toArray⟩
theorem JjM {n:Nat} (h:n < 18446744073709551616):(Lib.decDigits n).length≤20:=by
 have h2:(Jdi n).size≤20:=JmF Om
 exact h2
theorem Jw1 {k:Nat} (hk:k < 7):∃s:ByteArray,s.data.toList=opT k∧s.size≤2∧∃f,JdS Jrq k= .ag [Jg s,fn0 f]:=by
 match k,hk with
 | 0,_ | 1,_ | 2,_ | 3,_ | 4,_ | 5,_ | 6,_=> exact ⟨_,rfl,by decide,_,rfl⟩
theorem Jsc {f:Nat→AV} (h:(f 0).cells.all Jcc=true) (h':(f 1).cells.all Jcc=true):JcT 2 f:=fun k hk=> by
 rcases k with _ | _ | k
 ·exact h
 ·exact h'
 ·omega
theorem Jyp (a b c:Bts):Lib.join [a,b,c] [32]=a++32::(b++32::c):=by simp [Lib.join,List.intercalate,List.intersperse]
theorem Jyq (a b c d e:Bts):Lib.join [a,b,c,d,e] [32]=a++32::(b++32::(c++32::(d++32::e))):=by simp [Lib.join,List.intercalate,List.intersperse]
def aB:ByteArray:=⟨#[97]⟩
def eqB:ByteArray:=⟨#[61,61]⟩
theorem Jgj (a b:ByteArray):(a++b).data.toList=a.data.toList++b.data.toList:=by simp
theorem Jgk (n:Nat):(Jdi n).data.toList=Lib.decDigits n:=rfl
theorem JyM {i k m v:Nat} {so:ByteArray} (h:so.data.toList=opT k) (hk:k≠6):Jd6 [aB++Jdi i,so,Jdi v] spB=Jlw ⟨(i:Nat),(k:Int)+1,m,v⟩:=by
 unfold Jd6 Jlw Jaq
 rw [List.map_cons,List.map_cons,List.map_cons,List.map_nil,Jgj,h,Jgk,Jgk,show spB.data.toList= [32] from rfl,Jyp]
 dsimp only
 rw [if_neg Om,show ((k:Int)+1).toNat - 1=k by omega,Int.toNat_natCast]
 rfl
theorem JyN {i m v:Nat} {so:ByteArray} (h:so.data.toList=opT 6):Jd6 [aB++Jdi i,so,Jdi m,eqB,Jdi v] spB=Jlw ⟨(i:Nat),7,m,v⟩:=by
 unfold Jd6 Jlw Jaq
 rw [List.map_cons,List.map_cons,List.map_cons,List.map_cons,List.map_cons,List.map_nil,Jgj,h,Jgk,Jgk,Jgk,show spB.data.toList= [32] from rfl,Jyq]
 dsimp only
 rw [if_pos rfl,Int.toNat_natCast]
 rfl
theorem Jim {c:Cnd} (hr:JU c=true) (hok:c.ok):(Jlw c).size≤1000:=by
 obtain ⟨h1,h2,h3,h4,h5⟩:=JbX.1 hr
 show (Jaq c).length≤1000
 have d1:=JjM (n:=c.arg.toNat) Om
 have d2:=JjM hok.1
 have d3:=JjM hok.2
 have d4:∀k:Nat,k < 7→(opT k).length≤2:=by decide
 have d5:=d4 (c.op.toNat - 1) Om
 unfold Jaq
 simp only [List.length_append,List.length_cons,List.length_nil]
 split
 ·simp only [List.length_append,List.length_cons];omega
 ·omega
theorem JoY {a b:ByteArray} (h:a=b):AVle (Jg a) (Jg b):=JsJ h
set_option maxHeartbeats 2000000 in
theorem Jt6 (c:Cnd) (hr:JU c=true) (hok:c.ok):Tells Tryz.prog 174 [JD c] (Jg (Jlw c)):=by
 obtain ⟨h1,h2,h3,h4,h5⟩:=JbX.1 hr
 have hR:=JfG c
 rw [hr] at hR
 obtain ⟨arg,op,mask,value⟩:=c
 dsimp only at h1 h2 h3 h4 h5
 obtain ⟨i,rfl⟩:∃i:Nat,arg=i:=⟨arg.toNat,by omega⟩
 obtain ⟨k,rfl⟩:∃k:Nat,op=k+1:=⟨(op - 1).toNat,by omega⟩
 have hit:=JtR i Om
 have hdv:=JoX value hok.2
 have hdm:=JoX mask hok.1
 have hk7:k < 7:=by omega
 obtain ⟨so,hso,hss,f,hf⟩:=Jw1 hk7
 have hx:IntKind.i64.wrap ((k:Int)+1 - 1)=(k:Int):=by rw [Jac Om Om];omega
 refine Jf Tryz.func174 rfl rfl fun nx=> ?_
 refine stp ?_
 refine Je rfl rfl hR ⟨Rf,trivial⟩ fun nx2=> ?_
 refine stp ?_
 refine JZ 12 _ (fun _=> false) (fun i=> match i with | 2=> true | 4=> true | _=> false) [0,1,2,3,4,5,6,7,8,9,10,11] (by kernel_rfl) (by kernel_rfl) (HB.refl _) ?_
 refine stp ?_
 refine ⟨_,Jao rfl rfl rfl hit ⟨Rf,trivial⟩ (NoId.v _), ?_⟩
 refine stp ?_
 refine ⟨by have:=JmF (n:=i) Om;have h2:(⟨#[97]⟩:ByteArray).size=1:=rfl;rw [h2];omega, ?_⟩
 refine stp ?_
 refine ⟨_,Jao rfl rfl rfl JuY trivial JuZ, ?_⟩
 refine stp ?_
 refine ⟨⟨by rw [hx];omega,by rw [hx];omega⟩,JmG (b:= .rp [Jg so,fn0 f]) (by rw [hx];show AV.rp (JdS Jrq k).cells=_;rw [hf];rfl) ?_⟩
 refine stp ?_
 intro c t1;cases c
 ·have t1:k≠6:=fun e=> by subst e;cases t1
  refine stp ?_
  refine Je rfl rfl hdv ⟨Rf,trivial⟩ fun nx3=> ?_
  refine stp ?_
  refine ⟨Jy rfl,by show (2+1) * 16≤_;decide,by decide, ?_⟩
  refine stp ?_
  have e:=JyM (i:=i) (m:=mask) (v:=value) hso t1
  refine Je rfl rfl (JgE [aB++Jdi i,so,Jdi value] spB (by show 3≤_;decide) (by rw [e];exact Nat.le_trans (Jim hr hok) Dc)) ⟨AVle.os_sl.trans (AVle.sl_fun fun j hj=> ?_),Rf,trivial⟩ fun nx3=> ?_
  ·match j,hj with
   | 0,_ | 1,_ | 2,_=> rfl
  refine stp ?_
  exact Jd rfl (JoY e)
 ·have t1:k=6:=by have:(k:Int)+1=7:=by simpa using t1.symm
                  omega
  subst t1
  refine stp ?_
  refine Je rfl rfl hdm ⟨Rf,trivial⟩ fun nx3=> ?_
  refine stp ?_
  refine ⟨Jsc rfl rfl,by show (2+2) * 16≤_;decide,by decide, ?_⟩
  refine stp ?_
  refine Je rfl rfl hdv ⟨Rf,trivial⟩ fun nx3=> ?_
  refine stp ?_
  refine ⟨Jy rfl,by show (4+1) * 16≤_;decide,by decide, ?_⟩
  refine stp ?_
  have e:=JyN (i:=i) (m:=mask) (v:=value) hso
  refine Je rfl rfl (JgE [aB++Jdi i,so,Jdi mask,eqB,Jdi value] spB (by show 5≤_;decide) (by rw [e];exact Nat.le_trans (Jim hr hok) Dc)) ⟨AVle.os_sl.trans (AVle.sl_fun fun j hj=> ?_),Rf,trivial⟩ fun nx3=> ?_
  ·match j,hj with
   | 0,_ | 1,_ | 2,_ | 3,_ | 4,_=> rfl
  refine stp ?_
  exact Jd rfl (JoY e)
end Go.Proofs.W

namespace Go.Proofs
open Go.Shelf
shelf_lay_g SlLaysN.n44 Slgn 44 at Tryz 191 as Tryz.laysN44
end Go.Proofs
namespace Go.Proofs.W
open Go.Vl Go.Shelf
set_option maxRecDepth 100000
theorem JkR (d:Array Bts):∀m,Lib.compactUpTo d m=cUs d m
 | 0=> rfl
 | m+1=> by
   rw [Lib.compactUpTo_succ,JkR d m,cUs]
   unfold Lib.keeps
   by_cases h:m=0∨d[m]! ≠d[m - 1]!
   ·rw [if_pos h,decide_eq_true h];rfl
   ·rw [if_neg h,decide_eq_false h];simp
theorem Jt7 (d0:Array Bts) (tl:List AV) (n:Nat) (hn:d0.size=n) (hsz:n≤1000000) (s cap nx:Nat) (hcap:n≤cap):
 ECall Tryz.prog 191 [.hs (0,s) 0 n cap] ⟨Jc8 s d0 tl, [],nx,1⟩ (fun r h'=> ∃tl' nx' nn',r= .hs (0,s) 0 (cUs d0 n).length cap∧h'=⟨Jc8 s (cUs d0 n).toArray tl', [],nx',nn'⟩):=by
 subst hn
 have hle:=JoO d0 d0.size
 have h:=Jl0 (P:=Tryz.prog) (enc:=encStr) (d:=d0) (d':=(cUs d0 d0.size++List.replicate (d0.size - (cUs d0 d0.size).length) []).toArray) (tl:=tl) (vs:= []) (R:= .hs (0,s) 0 (cUs d0 d0.size).length cap) (res:=fun b=> .slice (some ⟨b,0,none⟩) (cUs d0 d0.size).length cap) (nm:=0) (s:=s) (cap:=cap) (nx:=nx) (nn:=1) (f:=191) ⟨_,Tryz.func191,rfl,rfl⟩ (by simp;omega) (fun w X g b hg=> .hs _ _ _ _ b hg) (fun w blk hk hH hb=> by
  have k:=AnyG.slices_Compact_string_arr Tryz.laysN44 blk 0 cap d0 w hH Om hcap
  rw [JkR] at k
  exact k.mono fun e w' ⟨h1,q,h2⟩=> ⟨h1,q, #[],by rw [h2];unfold Sort.grow;rw [Array.append_empty]⟩)
 refine h.mono fun r h' ⟨h1,h2⟩=> ⟨List.replicate (d0.size - (cUs d0 d0.size).length) (JaT [])++tl,nx,1,h1, ?_⟩
 rw [h2]
 unfold Jc8 Jc7
 simp [JaT]
def Jsd (sz:Nat):AV:= .os sz 0 (fun _=> .any) none
theorem Jt8:Tells Tryz.prog 191 [Jsd 1] (Jsd 1):=by
 refine Jf Tryz.func191 rfl rfl fun nx=> ?_
 refine stp ?_
 exact Jd rfl Rf
theorem Jin (d:Array Bts) (tl:List AV):Jc7 JaT d tl=Jax (fun z=> [JaT z]) d tl:=by
 unfold Jc7 Jax
 rw [List.map_eq_flatMap]
theorem JoZ:∀z:Bts,([JaT z]:List AV).length=1:=fun _=> rfl
theorem c_str:Tryz.prog.cellsOf 9=1:=by kernel_rfl
theorem Jt9:Jba Tryz.prog 9=true:=by kernel_rfl
theorem Jua:Tryz.prog.bytesOf 9=16:=by kernel_rfl
theorem Jyr {l:List Bts} {x:Bts} {tl:List AV} (h:1≤tl.length):Jat (Jc7 JaT l.toArray tl) (l.length * Tryz.prog.cellsOf 9) [JaT x]=Jc7 JaT (l++ [x]).toArray (tl.drop 1):=by
 rw [c_str,Jin,Jin];exact JlX JoZ h
theorem Jys {x:Bts} {m:Nat}: [JaT x]++List.replicate (m * Tryz.prog.cellsOf 9) AV.any=Jc7 JaT #[x] (List.replicate m .any):=by
 rw [c_str];simp [Jc7]
theorem Jyt {l:List Bts} {x:Bts} {tl:List AV} {m:Nat}:(Jc7 JaT l.toArray tl).take (l.length * Tryz.prog.cellsOf 9)++ [JaT x]++List.replicate (m * Tryz.prog.cellsOf 9) .any=Jc7 JaT (l++ [x]).toArray (List.replicate m .any):=by
 rw [c_str,Jin,Jin,JlY JoZ,Nat.mul_one];exact Jn9
def JyO (L:List Bts):Option (Nat×Nat×List AV)→AV
 | none=> Jsd 1
 | some (s1,cap,_)=> .hs (0,s1) 0 L.length cap
def JyP (L:List Bts):Option (Nat×Nat×List AV)→List (Vl.Id×Own)
 | none=> []
 | some (s1,_,tl)=> Jc8 s1 L.toArray tl
def JyQ (L:List Bts):Option (Nat×Nat×List AV)→Prop
 | none=> L= []
 | some (_,cap,tl)=> 1≤L.length∧L.length≤cap∧cap≤L.length+tl.length
theorem JqC {i j:Vl.Id} {L:List Bts} {x:Bts} {cap:Nat} (h:i.2=j.2):AVle (.hs i 0 (L.length+1) cap) (.hs j 0 (L++ [x]).length cap):=by
 rw [List.length_append];exact AVle.hs_nm h
theorem Jyu {L:List Bts}:AVle (JN 1 JaT [] L) (Jno (L.map fun z=> ⟨z.toArray⟩)):=by
 unfold JN Jno JN
 rw [List.length_map]
 refine AVle.sl_fun fun k hk=> ?_
 simp [JaT,encStr,Jg,List.getD,List.getElem?_map,List.getElem?_eq_getElem hk]
def semiB:ByteArray:=⟨#[59]⟩
theorem JqD:∀L:List Bts,Lib.join L [59]=JeH 59 L
 | []=> rfl
 | [a]=> by rw [Lib.join_one];rfl
 | a::b::l=> by
   have:=JqD (b::l)
   rw [Jcf (List.cons_ne_nil _ _),← this]
   simp [Lib.join,List.intercalate,List.intersperse]
theorem JvB (L:List Bts):Jd6 (L.map fun z=> ⟨z.toArray⟩) semiB=⟨(JeH 59 L).toArray⟩:=by
 unfold Jd6
 rw [List.map_map,show ((fun x:ByteArray=> x.data.toList)∘fun z:Bts=> (⟨z.toArray⟩:ByteArray))=id from funext fun z=> by simp,List.map_id,show semiB.data.toList= [59] from rfl,JqD]
theorem JmH:∀(L:List Bts) (N:Nat),(∀a∈L,a.length≤N)→(JeH 59 L).length≤L.length * (N+1)
 | [],N,_=> Nat.zero_le _
 | [a],N,h=> by have:=h a (.head _);show a.length≤_;simp;omega
 | a::b::l,N,h=> by
   have h1:=h a (.head _)
   have h2:=JmH (b::l) N fun x hx=> h x (.tail _ hx)
   rw [Jcf (List.cons_ne_nil _ _),List.length_append,List.length_cons]
   rw [show (a::b::l).length=(b::l).length+1 from rfl,Nat.succ_mul]
   omega
def Jfv (cs:List Cnd):ByteArray:=⟨(JgQ cs).toArray⟩
theorem Jse {cs:List Cnd} {i:Nat} (hi:i < cs.length):(cs.take (i+1)).map Jaq=(cs.take i).map Jaq++ [Jaq (cs.getD i cnd0)]:=by
 rw [JaZ cnd0 hi,List.map_append];rfl
theorem JqE (cs:List Cnd):Jd6 ((Jcw (cs.map Jaq)).map fun z=> ⟨z.toArray⟩) semiB=Jfv cs:=JvB _
theorem JvC:Jg (Jd6 [] semiB)=Jg (Jfv []):=by
 unfold Jfv
 rw [JjK.2 rfl];rfl
theorem Jnp {a b:Own} (h:a=b):OwnLe a b:=h ▸ OwnLe.refl a
theorem JvD {bs:List (Nat×Own)} {i:Vl.Id} {n cap:Nat} {l:List Bts} {tl:List AV} (hn:l.length=n) (hm:(i.2, .c (Jc7 JaT l.toArray tl))∈bs) (hcap:n≤cap):Frz bs (.hs i 0 n cap) (JN 1 JaT [] l):=
 Jhm JoZ (fun _=> rfl) hn (by rw [← Jin];exact hm) hcap
theorem Jub {c:Cnd} (hr:JU c=true) (hok:c.ok):(Jaq c).length≤1000:=Jim hr hok
theorem JmI (l:List Bts):(Jcw l).length≤l.length:=by
 have:=JoO (JfN l).toArray (JfN l).length
 unfold Jcw
 have h2:(JfN l).length=l.length:=JbG
 omega
theorem JkS {cs:List Cnd} (hr:∀c∈cs,JU c=true) (hok:∀c∈cs,c.ok) (hl:cs.length≤12):(Jfv cs).size≤12012:=by
 have h1:=JmH (Jcw (cs.map Jaq)) 1000 fun a ha=> by
  obtain ⟨c,hc,rfl⟩:=List.mem_map.1 (((JbE _).2 a).1 ha)
  exact Jub (hr c hc) (hok c hc)
 have h2:=JmI (cs.map Jaq)
 rw [List.length_map] at h2
 have h3:(Jcw (cs.map Jaq)).length * (1000+1)≤12 * (1000+1):=Nat.mul_le_mul_right _ Om
 show (JgQ cs).length≤_
 unfold JgQ
 omega
set_option maxHeartbeats 4000000 in
theorem JvE (cs:List Cnd) (hr:∀c∈cs,JU c=true) (hok:∀c∈cs,c.ok) (hl:cs.length≤12):Tells Tryz.prog 104 [JW cs] (Jg (Jfv cs)):=by
 refine Jf Tryz.func104 rfl rfl fun nx=> ?_
 refine stp ?_
 refine Jo (fun y:Nat×List Bts×Option (Nat×Nat×List AV)×Nat=> mk 23 [(3,JyO y.2.1 y.2.2.1),(6,JW cs),(7,int cs.length),(8,int y.1)] ⟨JyP y.2.1 y.2.2.1, [],y.2.2.2,1⟩) (fun y=> y.1≤cs.length∧y.2.1=(cs.take y.1).map Jaq∧JyQ y.2.1 y.2.2.1) (fun y=> cs.length - y.1) ?_ ?_
 ·exact ⟨(0, [],none,nx),⟨Nat.zero_le _,rfl,rfl⟩,Jk (bx:= []) (pm:= []) [] [] rfl rfl (List.nil_sublist _) Sf trivial trivial ⟨AVle.os_nil,Rf,Rf,Rf,trivial⟩⟩
 ·rintro ⟨i,L,md,nx1⟩ ⟨h1,hL,h2⟩
  dsimp only at h1 hL h2
  have hLl:L.length=i:=by rw [hL,List.length_map,List.length_take];omega
  refine stp ?_
  intro c g;cases c
  ·have g:=Jm g
   try dsimp only at g
   have hi:i=cs.length:=by omega
   subst hi
   rw [List.take_length] at hL
   rcases md with _ | ⟨s1,cap,tl⟩
   ·obtain rfl:L= []:=h2
    obtain rfl:cs= []:=List.length_eq_zero_iff.1 (by simpa using hLl.symm)
    refine stp ?_
    refine Je rfl rfl (Jte _) ⟨Rf,trivial⟩ fun nx2=> ?_
    refine stp ?_
    refine Je rfl rfl Jt8 ⟨Rf,trivial⟩ fun nx3=> ?_
    refine stp ?_
    refine Je rfl rfl (JgE [] semiB Dc Dc) ⟨AVle.os_sl0,Rf,trivial⟩ fun nx4=> ?_
    refine stp ?_
    exact Jd rfl (AVle.of_eq JvC)
   ·obtain ⟨q1,q2,q3⟩:=h2
    refine stp ?_
    refine J1 (xs:= [.hs (0,s1) 0 L.length cap]) [] [] 1 rfl rfl rfl rfl ⟨Rf,trivial⟩ (Jtd L.toArray tl L.length (by simp) Om s1 cap _) Bf Pf rfl fun r h' hq=> ?_
    obtain ⟨nx2,nn2,rfl⟩:=hq
    refine stp ?_
    refine J1 (xs:= [.hs (0,s1) 0 L.length cap]) [] [] 1 rfl rfl rfl rfl ⟨Rf,trivial⟩ (Jt7 (JaH Go.Sort.ltStr L.toArray.toList).toArray tl L.length (by simp [JbG]) Om s1 cap _ q2) Bf Pf rfl fun r h' hq=> ?_
    obtain ⟨tl2,nx3,nn3,rfl,rfl⟩:=hq
    refine stp ?_
    have hst:∀l:List Bts,(JaH Go.Sort.ltStr l).length=l.length:=fun l=> JbG
    have hcT:cUs (JaH Go.Sort.ltStr L.toArray.toList).toArray L.length=Jcw (cs.map Jaq):=by
     unfold Jcw JfN
     rw [hst,← hL]
    rw [hcT]
    have hcl:=JmI (cs.map Jaq)
    rw [← hL] at hcl
    rw [← hL]
    have hj:Tells Tryz.prog 190 [JN 1 JaT [] (Jcw L),Jg semiB] _:=Tells.args (bs:= [Jno ((Jcw L).map fun z=> ⟨z.toArray⟩),Jg semiB]) ⟨Jyu,Rf,trivial⟩ (JgE ((Jcw L).map fun z=> ⟨z.toArray⟩) semiB (by rw [List.length_map];omega) (by rw [hL,JqE];exact Nat.le_trans (JkS hr hok hl) Dc))
    refine AOp.of_yields (Jpx rfl rfl hj ⟨JvD (i:=(0,s1)) rfl (.head _) Om,Frz.refl _,trivial⟩ (Flat.v _)) ?_
    refine stp ?_
    exact Jd rfl (JoY (by rw [hL];exact JqE cs))
  ·have g:=Jn g
   try dsimp only at g
   have hi:i < cs.length:=by omega
   have hm:cs.getD i cnd0∈cs:=by simp [List.getD,hi]
   have ht:=Jt6 _ (hr _ hm) (hok _ hm)
   have hn:=Jse hi
   rw [← hL] at hn
   rcases md with _ | ⟨s1,cap,tl⟩
   ·obtain rfl:L= []:=h2
    refine stp ?_
    refine ⟨Bd, ?_⟩
    refine JB ?_
    refine JO (fun i=> match i with | 0=> true | _=> false) 5 ?_
    refine stp ?_
    refine Je rfl rfl ht ⟨Rf,trivial⟩ fun nx2=> ?_
    refine stp ?_
    refine Jga (m:=1) rfl rfl (.inr ⟨_,rfl⟩) Tryz.underlying207 Jt9 c_str.symm Dc (Jy rfl) (by rw [Jua];omega) Om fun ncap hcap=> ?_
    refine stp ?_
    exact back (i+1, [Jaq (cs.getD i cnd0)],some (nx2,ncap,List.replicate (ncap - 1) .any),nx2+1) ⟨hi,hn.symm,⟨Nat.le_refl _,hcap,by simp;omega⟩⟩ Dm (Jk (pm:= []) (bx:=Jc8 nx2 #[Jaq (cs.getD i cnd0)] (List.replicate (ncap - 1) .any)) [((2,nx2), .c ([JaT (Jaq (cs.getD i cnd0))]++List.replicate ((ncap - 1) * Tryz.prog.cellsOf 9) .any))] [] rfl rfl (.cons_cons _ (.cons _ .slnil)) .slnil ⟨rfl,Jnp (congrArg Own.c Jys),trivial⟩ trivial ⟨AVle.hs_nm rfl,Rf,Rf,Lw,trivial⟩)
   ·obtain ⟨q1,q2,q3⟩:=h2
    refine stp ?_
    refine ⟨Bd, ?_⟩
    refine JB ?_
    refine JO (fun i=> match i with | 0=> true | _=> false) 5 ?_
    refine stp ?_
    refine Je rfl rfl ht ⟨Rf,trivial⟩ fun nx2=> ?_
    refine stp ?_
    refine Jfd (m:=1) (szx:=1) (n:=L.length) (cap:=cap) (cs:=Jc7 JaT L.toArray tl) (i:=(0,s1)) rfl rfl (.inr ⟨_,rfl⟩) Tryz.underlying207 Jt9 (.inr c_str.symm) (by rfl) q2 (by rw [c_str,Jn2];simpa using q3) (Jy rfl) (fun _=> by rw [Jua];omega) (fun _=> by omega) (fun hm=> absurd hm Dc) (fun hm hfit=> ?_) (fun hm hfit ncap hcap=> ?_)
    ·refine stp ?_
     (conv=> whnf)
     exact back (i+1,L++ [Jaq (cs.getD i cnd0)],some (s1,cap,tl.drop 1),nx2) ⟨hi,hn.symm,⟨by simp,by simpa using hfit,by simp;omega⟩⟩ Dm (Jk (pm:= []) (bx:=Jc8 s1 (L++ [Jaq (cs.getD i cnd0)]).toArray (tl.drop 1)) [((0,s1), .c (Jat (Jc7 JaT L.toArray tl) (L.length * Tryz.prog.cellsOf 9) [JaT (Jaq (cs.getD i cnd0))]))] [] rfl rfl (.cons _ (.cons_cons _ .slnil)) .slnil ⟨rfl,Jnp (congrArg Own.c (Jyr (by have:=hfit;omega))),trivial⟩ trivial ⟨JqC rfl,Rf,Rf,Lw,trivial⟩)
    ·refine stp ?_
     (conv=> whnf)
     exact back (i+1,L++ [Jaq (cs.getD i cnd0)],some (nx2,ncap,List.replicate (ncap - (L.length+1)) .any),nx2+1) ⟨hi,hn.symm,⟨by simp,by simpa using hcap,by simp;omega⟩⟩ Dm (Jk (pm:= []) (bx:=Jc8 nx2 (L++ [Jaq (cs.getD i cnd0)]).toArray (List.replicate (ncap - (L.length+1)) .any)) [((2,nx2), .c ((Jc7 JaT L.toArray tl).take (L.length * Tryz.prog.cellsOf 9)++ [JaT (Jaq (cs.getD i cnd0))]++List.replicate ((ncap - (L.length+1)) * Tryz.prog.cellsOf 9) .any))] [] rfl rfl (.cons_cons _ (.cons _ (.cons _ .slnil))) .slnil ⟨rfl,Jnp (congrArg Own.c Jyt),trivial⟩ trivial ⟨JqC rfl,Rf,Rf,Lw,trivial⟩)
end Go.Proofs.W

namespace Go.Proofs.W
open Go.Vl
set_option maxRecDepth 100000
def esV (N:List ByteArray):List (Value×AV):=N.map fun s=> (.string s, .v (.bool true))
def inV (N:List ByteArray) (s:ByteArray):Bool:=N.any fun t=> kS s t
theorem Jlx (N:List ByteArray):Ja7 .string (esV N)=true:=by simp [Ja7,esV,Ja0]
theorem Jo0 (s:ByteArray):∀N:List ByteArray,Jbi (.string s) (esV N)=if inV N s then some (.v (.bool true)) else none
 | []=> rfl
 | t::N=> by
   have ih:=Jo0 s N
   show (bif s.toList ==t.toList then _ else Jbi (.string s) (esV N))=_
   rw [ih]
   unfold inV
   rw [List.any_cons]
   unfold kS
   cases s.toList ==t.toList <;> rfl
theorem JqF (s:ByteArray):∀N:List ByteArray,inV N s=false→JcS (.string s) (.v (.bool true)) (esV N)=esV (N++ [s])
 | [],_=> rfl
 | t::N,h=> by
   unfold inV at h
   rw [List.any_cons,Bool.or_eq_false_iff] at h
   show (bif s.toList ==t.toList then _ else (_:Value×AV)::JcS _ _ (esV N))=_
   unfold kS at h
   rw [h.1,cond_false,JqF s N h.2];rfl
theorem JqG {s:ByteArray} {N:List ByteArray}:Je7 (Jbi (.string s) (esV N)) (.v (.bool false)) false= .v (.bool (inV N s)):=by
 rw [Jo0];cases inV N s <;> rfl
def Jdz (r:Rul):List AV:= [Jg r.name,int r.act.1,int r.act.2,JW r.conds]
theorem Jsf (c:Cnd) (hok:c.ok):Tells Tryz.prog 103 [JD c] (Jb (JcA c)):=by
 obtain ⟨arg,op,mask,value⟩:=c
 refine Jf Tryz.func103 rfl rfl fun nx=> ?_
 refine stp ?_
 intro c t1;cases c
 ·refine stp ?_
  refine Jd rfl (Jt ?_)
  have:¬op=7:=fun e=> by subst e;cases t1
  unfold JcA
  rw [decide_eq_false this];rfl
 ·have h7:op=7:=by simpa using t1.symm
  refine stp ?_
  intro c hc
  have e:JcA ⟨arg,op,mask,value⟩=c:=by
   unfold JcA
   rw [decide_eq_true h7,Bool.true_and,hc]
   dsimp only
   rw [Jkf hok.2 hok.1]
   by_cases h0:Jhn value mask=0
   ·rw [h0];rfl
   ·rw [decide_eq_true h0]
    exact (bne_iff_ne.2 (fun e=> h0 (Int.ofNat.inj e))).symm
  rw [e]
  cases c
  ·refine stp ?_
   exact Jd rfl Rf
  ·refine stp ?_
   exact Jd rfl Rf
theorem Juc (r:Rul) (hok:∀c∈r.conds,c.ok) (hl:r.conds.length≤1000000000):Tells Tryz.prog 101 [.rp (Jdz r)] (Jb (!(r.conds.any JcA))):=by
 have hc:=Joj r.conds JcA 103 hl fun i hi=> Jsf _ (hok _ (by simp [List.getD,hi]))
 generalize r.conds.any JcA=b at hc⊢
 refine Jf Tryz.func101 rfl rfl fun nx=> ?_
 refine stp ?_
 refine Je rfl rfl hc ⟨Rf,Rf,trivial⟩ fun nx2=> ?_
 cases b
 ·refine stp ?_
  exact Jd rfl Rf
 ·refine stp ?_
  exact Jd rfl Rf
theorem Jud (l:List TRow) (r:Rul) (hl:l.length≤1000000) (hs:Jhr l r.name):Tells Tryz.prog 100 [.rp [Jv l], .rp (Jdz r)] (Jb (JaD l r.name)):=by
 have hf:=Jgd l r.name hl hs
 unfold Jkm at hf
 refine Jf Tryz.func100 rfl rfl fun nx=> ?_
 cases hb:JaD l r.name with
 | true=>
   rw [hb,if_pos rfl] at hf
   refine stp ?_
   refine Je rfl rfl hf ⟨Rf,Rf,trivial⟩ fun nx2=> ?_
   refine stp ?_
   exact Jd rfl Rf
 | false=>
   rw [hb,if_neg Dc] at hf
   refine stp ?_
   refine Je rfl rfl hf ⟨Rf,Rf,trivial⟩ fun nx2=> ?_
   refine stp ?_
   exact Jd rfl Rf
def colB:ByteArray:=⟨#[58]⟩
def Jgl (N:List ByteArray) (s own:ByteArray):Bool:= !inV N (s++colB)&& !inV N own
set_option maxHeartbeats 1000000 in
theorem Jue (N:List ByteArray) (r:Rul) (own:ByteArray) (hs:r.name.size≤1000000) (s nx:Nat):
 ECall Tryz.prog 105 [.rp [.om (0,s)], .rp (Jdz r), .rp [Jg own]] ⟨[((0,s), .mp (esV N))], [],nx,1⟩ fun b h'=> ∃nx' nn',b=Jb (Jgl N r.name own)∧h'=⟨[((0,s), .mp (esV N))], [],nx',nn'⟩:=by
 refine ECall.wk (J2 Tryz.func105 rfl rfl ?_)
 refine JbI ?_
 refine ⟨by have h2:(⟨#[58]⟩:ByteArray).size=1:=rfl;rw [h2];omega, ?_⟩
 refine JbI ?_
 refine ⟨⟨rfl,Jlx _⟩,Jj (b:= .v (.bool (inV N (r.name++colB)))) JqG ?_⟩
 unfold Jgl
 cases h1:inV N (r.name++colB)
 ·refine JbI ?_
  refine ⟨⟨rfl,Jlx _⟩,Jj (b:= .v (.bool (inV N own))) JqG ?_⟩
  cases h2:inV N own
  ·refine stp ?_
   exact JaG rfl ⟨_,_,Rf,HLe.refl _,_,_,rfl,rfl⟩
  ·refine stp ?_
   exact JaG rfl ⟨_,_,Rf,HLe.refl _,_,_,rfl,rfl⟩
 ·refine stp ?_
  exact JaG rfl ⟨_,_,Rf,HLe.refl _,_,_,rfl,rfl⟩
end Go.Proofs.W

namespace Go.Proofs.W
open Go.Vl
set_option maxRecDepth 100000
def JdA (r:Rul):ByteArray:=r.name++colB++Jfv r.conds
theorem JmJ (r:Rul):(JdA r).data.toList=JhC r:=by
 unfold JdA JhC Jfv JhB
 rw [Jgj,Jgj,show colB.data.toList= [58] from rfl]
 simp
theorem JqH {N:List ByteArray} {s:ByteArray}:inV N s=true↔s.data.toList∈N.map (fun t=> t.data.toList):=by
 unfold inV
 rw [List.any_eq_true,List.mem_map]
 exact ⟨fun ⟨t,h1,h2⟩=> ⟨t,h1,by rw [Ja4.1 h2]⟩,fun ⟨t,h1,h2⟩=> ⟨t,h1,Ja4.2 (Jgw h2.symm)⟩⟩
def Jbl (rs:List Rul) (i:Nat):List ByteArray:=(rs.take i).map JdA
theorem Jsg (rs:List Rul) (i:Nat):(Jbl rs i).map (fun t=> t.data.toList)=JkK rs i:=by
 unfold Jbl JkK
 rw [List.map_map]
 exact List.map_congr_left fun r _=> JmJ r
theorem Jo1 {rs:List Rul} (h:∀r∈rs,J6 r=true) {i:Nat} {r:Rul} (hr:J6 r=true):Jgl (Jbl rs i) r.name (JdA r)= !(rs.take i).any (Jcu r):=by
 unfold Jgl
 rw [← Bool.not_or]
 congr 1
 rw [Bool.eq_iff_iff,Bool.or_eq_true,JqH,JqH,Jsg,JmJ,Jgj,show colB.data.toList= [58] from rfl]
 exact JtS h hr
theorem Juf {rs:List Rul} {i:Nat} (hi:i < rs.length):Jbl rs (i+1)=Jbl rs i++ [JdA (rs.getD i rul0)]:=by
 unfold Jbl
 rw [JaZ rul0 hi,List.map_append];rfl
def JyR (l:List TRow) (r:Rul) (s:Nat):List AV:= [.ag [.fn (.func 100) [] [.rp [Jv l], .rp (Jdz r)],int 14], .ag [.fn (.func 101) [] [.rp (Jdz r)],int 16], .ag [.fn (.func 105) [] [.rp [.om (0,s)], .rp (Jdz r), .rp [Jg (JdA r)]],int 15]]
theorem Jug {rs:List Rul} {i:Nat} {r:Rul} (h:Jgl (Jbl rs i) r.name (JdA r)=true):inV (Jbl rs i) (JdA r)=false:=by
 unfold Jgl at h
 simp only [Bool.and_eq_true,Bool.not_eq_true'] at h
 exact h.2
theorem Jc0 {a b c d:Int} (h:(a,b)=(c,d)):AVle (.tup [int a,int b]) (.tup [int c,int d]):=by
 cases h;exact Rf
theorem JxT:JjX Tryz.prog 9=some [Jg ⟨#[]⟩]:=by kernel_rfl
theorem AVle.om_nm {i j:Vl.Id} (h:i.2=j.2):AVle (.om i) (.om j):=fun w X g u hr=> by
 cases hr with
 | om _ b hg=> exact .om _ b (h ▸ hg)
theorem AVle.rps {cs ds:List AV} (h:LeL cs ds):AVle (.rp cs) (.rp ds):=fun w X g u hr=> by
 obtain ⟨hl,h⟩:=h.get
 cases hr with
 | rp _ b off vs hn hcell hr=>
   refine .rp _ b off vs (by rw [hn,hl]) hcell fun k d u hd hu=> ?_
   have hlt:k < cs.length:=by rw [hl];exact (List.getElem?_eq_some_iff.1 hd).1
   exact h k _ d (List.getElem?_eq_getElem hlt) hd _ _ _ _ (hr k _ u (List.getElem?_eq_getElem hlt) hu)
theorem Jly {rs:List Rul} {i:Nat} (h:i < rs.length):rs.getD i rul0∈rs:=by simp [List.getD,h]
set_option maxHeartbeats 8000000 in
theorem Jo2 (p:Pol) (l:List TRow) (hp:p.ok) (hp2:∀r∈p.rules,r.conds.length≤12∧r.name.size≤1000000) (hl:l.length≤1000000) (hn:∀r∈l,r.name.size≤maxLen):Tells Tryz.prog 43 [JaL p,Jv l] (.tup [int (JR p l).1,int (JR p l).2]):=by
 have hR:=Jjd p hp
 have hT:=Jm4 l hl hn
 cases hb:JaB p with
 | false=>
   rw [hb] at hR
   obtain ⟨⟨k,n⟩,x,rs⟩:=p
   refine Jf Tryz.func43 rfl rfl fun nx=> ?_
   refine stp ?_
   refine Je rfl rfl hR ⟨Rf,trivial⟩ fun nx2=> ?_
   refine stp ?_
   exact Jd rfl (Jc0 (by unfold JR;rw [if_pos hb]))
 | true=>
 rw [hb] at hR
 by_cases ht:(JbR l).2=0
 rotate_left
 ·obtain ⟨⟨k,n⟩,x,rs⟩:=p
  refine Jf Tryz.func43 rfl rfl fun nx=> ?_
  refine stp ?_
  refine Je rfl rfl hR ⟨Rf,trivial⟩ fun nx2=> ?_
  refine stp ?_
  refine Je rfl rfl hT ⟨Rf,trivial⟩ fun nx3=> ?_
  refine stp ?_
  intro c hc
  obtain rfl:c=true:=hc.trans (bne_iff_ne.2 ht)
  refine stp ?_
  exact Jd rfl (Jc0 (by unfold JR;rw [if_neg (by rw [hb];decide),if_pos ht]))
 ·have hs:=JeD ht
  have hrr:=(JkM.1 hb).2.2
  have hok:=hp.2
  have hlen:p.rules.length≤500:=(JkM.1 hb).2.1
  have hat:∀i v,i < p.rules.length→(∀j,j < i→Jbr l p.rules j=0)→Jbr l p.rules i=v→v≠0→((i:Int),v)=JR p l:=fun i v h1 h2 h3 h4=> (JmB hb ht h1 h2 h3 h4).symm
  have hnone:(∀j,j < p.rules.length→Jbr l p.rules j=0)→((0:Int),(0:Int))=JR p l:=fun h=> (JmA (Jak.2 ⟨hb,ht,h⟩)).symm
  generalize hV:JR p l=V at hat hnone⊢
  obtain ⟨V1,V2⟩:=V
  obtain ⟨⟨k,n⟩,x,rs⟩:=p
  dsimp only at hok hrr hat hnone hlen hp2
  rw [ht] at hT
  refine Jf Tryz.func43 rfl rfl fun nx=> ?_
  refine stp ?_
  refine Je rfl rfl hR ⟨Rf,trivial⟩ fun nx2=> ?_
  refine stp ?_
  refine Je rfl rfl hT ⟨Rf,trivial⟩ fun nx3=> ?_
  (refine JB ?_;refine JE ?_;refine JB ?_;refine JE ?_;refine JB ?_)
  refine Jbq (n:=69) (nx:=nx3+2) (nn:=4) (pm:= []) (bx:= [((2,nx3), .mp [])]) (L:= [(2, .rp [int k,int n,Jb x,Ji rs]),(3, .rp [Jv l]),(8, .rp [.om (2,nx3)])]) (df:=some []) [((3,nx3+1), .c [.om (2,nx3)]),((1,nx+1), .c [Jv l]),((0,nx), .c [int k,int n,Jb x,Ji rs])] rfl rfl rfl (.cons _ ((List.perm_append_comm (l₁:= [((2,nx3),Own.mp [])]) (l₂:= [((1,nx+1), .c [Jv l]),((0,nx), .c [int k,int n,Jb x,Ji rs])])))) Sf ⟨Frz.bp (.tail _ (.tail _ (.head _))) rfl,Frz.bp (.tail _ (.head _)) rfl,Frz.bp (.head _) rfl,trivial⟩ ?_
  refine stp ?_
  refine Jo (fun y:Nat×Nat=> mk 69 [(3, .rp [Jv l]),(8, .rp [.om (0,nx3)]),(29,Ji rs),(30,int rs.length),(31,int y.1)] ⟨[((0,nx3), .mp (esV (Jbl rs y.1)))], [],y.2,1⟩) (fun y=> y.1≤rs.length∧∀j,j < y.1→Jbr l rs j=0) (fun y=> rs.length - y.1) ?_ ?_
  ·exact ⟨(0,nx3+2),⟨Nat.zero_le _,fun j h=> absurd h (Nat.not_lt_zero _)⟩,Jk (pm:= []) (bx:= [((0,nx3), .mp (esV (Jbl rs 0)))]) [((2,nx3), .mp [])] [] rfl rfl Sf .slnil ⟨rfl,OwnLe.refl _,trivial⟩ trivial ⟨Rf,W.AVle.rps ⟨W.AVle.om_nm rfl,trivial⟩,Rf,Rf,Rf,trivial⟩⟩
  ·rintro ⟨i,nx4⟩ ⟨h1,h2⟩
   dsimp only at h1 h2
   refine stp ?_
   intro c g;cases c
   ·have g:=Jm g
    try dsimp only at g
    obtain rfl:i=rs.length:=by omega
    refine stp ?_
    exact Jd rfl (Jc0 (hnone h2))
   ·have g:=Jn g
    try dsimp only at g
    have hi:i < rs.length:=by omega
    have hm:rs.getD i rul0∈rs:=Jly hi
    have hri:=hrr _ hm
    have hoki:=hok _ hm
    have hsi:=hp2 _ hm
    have hk:=JvE (rs.getD i rul0).conds (JdO hri) hoki.2.2 hsi.1
    have ha1:=Jud l (rs.getD i rul0) hl (Jfg hs _)
    have ha2:=Juc (rs.getD i rul0) hoki.2.2 Om
    have ha3:=Jue (Jbl rs i) (rs.getD i rul0) (JdA (rs.getD i rul0)) hsi.2 nx3
    rw [Jo1 hrr hri] at ha3
    have hv:= @Jqw l rs i
    have hks:(Jfv (rs.getD i rul0).conds).size≤12012:=JkS (JdO hri) hoki.2.2 hsi.1
    refine stp ?_
    refine ⟨Bd, ?_⟩
    refine JB ?_
    refine Jbq (n:=69) (nx:=nx4+1) (nn:=2) (pm:= []) (bx:= [((0,nx3), .mp (esV (Jbl rs i)))]) (L:= [(3, .rp [Jv l]),(8, .rp [.om (0,nx3)]),(9,int i),(10, .rp (Jdz (rs.getD i rul0))),(29,Ji rs),(30,int rs.length),(31,int i)]) (df:=some []) [((1,nx4), .c (Jdz (rs.getD i rul0)))] rfl rfl rfl (List.Perm.refl _) Sf ⟨Frz.refl _,Frz.refl _,Frz.refl _,Frz.bp (.head _) rfl,Frz.refl _,Frz.refl _,Frz.refl _,trivial⟩ ?_
    refine stp ?_
    refine JZ 8 [] (fun i=> match i with | 7=> true | _=> false) (fun i=> match i with | 5=> true | _=> false) [0,1,2,3,4,5,6,7] (by kernel_rfl) (by kernel_rfl) (fun _ _ _ h=> by cases h) ?_
    refine stp ?_
    refine ⟨by have h2:(⟨#[58]⟩:ByteArray).size=1:=rfl;rw [h2];omega, ?_⟩
    refine stp ?_
    refine ⟨_,Jao rfl rfl rfl hk ⟨Rf,trivial⟩ (NoId.v _), ?_⟩
    refine stp ?_
    refine ⟨by rw [ByteArray.size_append];have h2:(⟨#[58]⟩:ByteArray).size=1:=rfl;rw [h2];omega,JmG (b:=Jg (JdA (rs.getD i rul0))) rfl ?_⟩
    refine stp ?_
    refine ⟨_,Jh2 rfl rfl JxT (fun _ _ _ h=> by cases h),fun r' h' hr=> ?_⟩
    obtain ⟨rfl,rfl⟩:=hr
    refine JB ?_
    refine Jbq (n:=69) (nx:=nx4+2) (nn:=2) (pm:= []) (bx:= [((0,nx3), .mp (esV (Jbl rs i)))]) (L:= [(3, .rp [Jv l]),(8, .rp [.om (0,nx3)]),(9,int i),(10, .rp (Jdz (rs.getD i rul0))),(11, .fn (.func 100) [] [.rp [Jv l], .rp (Jdz (rs.getD i rul0))]),(12, .fn (.func 101) [] [.rp (Jdz (rs.getD i rul0))]),(13, .rp [Jg (JdA (rs.getD i rul0))]),(29,Ji rs),(30,int rs.length),(31,int i)]) (df:=some []) [((2,nx4+1), .c [Jg (JdA (rs.getD i rul0))])] rfl rfl rfl (List.Perm.refl _) Sf ⟨Frz.refl _,Frz.refl _,Frz.refl _,Frz.refl _,Frz.refl _,Frz.refl _,Frz.bp (.head _) rfl,Frz.refl _,Frz.refl _,Frz.refl _,trivial⟩ ?_
    refine stp ?_
    refine Jo (fun y:Nat×Nat=> mk 69 [(3, .rp [Jv l]),(8, .rp [.om (0,nx3)]),(9,int i),(13, .rp [Jg (JdA (rs.getD i rul0))]),(29,Ji rs),(30,int rs.length),(31,int i),(52, .sl 2 3 (JdS (JyR l (rs.getD i rul0) nx3))),(53,int 3),(54,int y.1)] ⟨[((0,nx3), .mp (esV (Jbl rs i)))], [],y.2,1⟩) (fun y=> y.1≤3∧(1≤y.1→JaD l (rs.getD i rul0).name=true)∧(2≤y.1→(rs.getD i rul0).conds.any JcA=false)∧(3≤y.1→(rs.take i).any (Jcu (rs.getD i rul0))=false)) (fun y=> 3 - y.1) ?_ ?_
    ·refine ⟨(0,nx4+2),⟨Nat.zero_le _,fun h=> absurd h (Nat.not_succ_le_zero _),fun h=> absurd h (Nat.not_succ_le_zero _),fun h=> absurd h (Nat.not_succ_le_zero _)⟩, ?_⟩
     exact Jk (pm:= []) (bx:= [((0,nx3), .mp (esV (Jbl rs i)))]) [((0,nx3), .mp (esV (Jbl rs i)))] [] rfl rfl Sf .slnil Bf trivial ⟨Rf,Rf,Rf,Rf,Rf,Rf,Rf,Jla ⟨⟨⟨trivial,rfl⟩,rfl⟩,rfl⟩,Rf,Rf,trivial⟩
    ·rintro ⟨j,nx5⟩ ⟨k0,k1,k2,k3⟩
     dsimp only at k0 k1 k2 k3
     rcases j with _ | _ | _ | _ | j
     ·refine stp ?_
      refine ⟨⟨by show (0:Int)≤0;decide,by show (0:Int) < 3;decide⟩, ?_⟩
      refine stp ?_
      refine Je rfl rfl ha1 ⟨Rf,Rf,trivial⟩ fun nx6=> ?_
      cases hf:JaD l (rs.getD i rul0).name
      ·refine stp ?_
       (refine Ju 4 ?_ ?_ ?_ ?_;(· kernel_rfl);(· kernel_rfl);(· kernel_rfl))
       refine stp ?_
       exact Jd rfl (Jc0 (hat i 14 hi h2 (if_pos hf) Dc))
      ·refine stp ?_
       exact back (1,nx6) ⟨by show 1≤3;decide,fun _=> rfl,fun h=> absurd h (by show ¬2≤1;decide),fun h=> absurd h (by show ¬3≤1;decide)⟩ (by show 3 - 1 < 3 - 0;decide) (Jk (pm:= []) (bx:= [((0,nx3), .mp (esV (Jbl rs i)))]) [((0,nx3), .mp (esV (Jbl rs i)))] [] rfl rfl (.cons _ Sf) .slnil Bf trivial ⟨Rf,Rf,Rf,Rf,Rf,Rf,Rf,Rf,Rf,Rf,trivial⟩)
     ·have q1:=k1 (Nat.le_refl _)
      refine stp ?_
      refine ⟨⟨by show (0:Int)≤1;decide,by show (1:Int) < 3;decide⟩, ?_⟩
      refine stp ?_
      refine Je rfl rfl ha2 ⟨Rf,trivial⟩ fun nx6=> ?_
      cases hf:(rs.getD i rul0).conds.any JcA
      ·refine stp ?_
       exact back (2,nx6) ⟨by show 2≤3;decide,fun _=> q1,fun _=> rfl,fun h=> absurd h (by show ¬3≤2;decide)⟩ (by show 3 - 2 < 3 - 1;decide) (Jk (pm:= []) (bx:= [((0,nx3), .mp (esV (Jbl rs i)))]) [((0,nx3), .mp (esV (Jbl rs i)))] [] rfl rfl (.cons _ Sf) .slnil Bf trivial ⟨Rf,Rf,Rf,Rf,Rf,Rf,Rf,Rf,Rf,Rf,trivial⟩)
      ·refine stp ?_
       (refine Ju 4 ?_ ?_ ?_ ?_;(· kernel_rfl);(· kernel_rfl);(· kernel_rfl))
       refine stp ?_
       exact Jd rfl (Jc0 (hat i 16 hi h2 (by unfold Jbr;rw [if_neg (by rw [q1];decide),if_pos hf]) Dc))
     ·have q1:=k1 Dc
      have q2:=k2 (Nat.le_refl _)
      refine stp ?_
      refine ⟨⟨by show (0:Int)≤2;decide,by show (2:Int) < 3;decide⟩, ?_⟩
      refine stp ?_
      refine J1 (xs:= [.rp [.om (0,nx3)], .rp (Jdz (rs.getD i rul0)), .rp [Jg (JdA (rs.getD i rul0))]]) [((1,nx5), .c [.fn (.func 105) [] [.rp [.om (0,nx3)], .rp (Jdz (rs.getD i rul0)), .rp [Jg (JdA (rs.getD i rul0))]],int 15])] [] 2 rfl rfl rfl rfl ⟨Rf,Rf,Rf,trivial⟩ (ha3 (nx5+1)) Bf Pf rfl fun r h' hq=> ?_
      obtain ⟨nx6,nn6,rfl,rfl⟩:=hq
      cases hf:(rs.take i).any (Jcu (rs.getD i rul0))
      ·refine stp ?_
       exact back (3,nx6) ⟨by show 3≤3;decide,fun _=> q1,fun _=> q2,fun _=> rfl⟩ (by show 3 - 3 < 3 - 2;decide) (Jk (pm:= []) (bx:= [((0,nx3), .mp (esV (Jbl rs i)))]) [((0,nx3), .mp (esV (Jbl rs i)))] [] rfl rfl (.cons _ Sf) .slnil Bf trivial ⟨Rf,Rf,Rf,Rf,Rf,Rf,Rf,Rf,Rf,Rf,trivial⟩)
      ·refine stp ?_
       (refine Ju 4 ?_ ?_ ?_ ?_;(· kernel_rfl);(· kernel_rfl);(· kernel_rfl))
       refine stp ?_
       exact Jd rfl (Jc0 (hat i 15 hi h2 (by unfold Jbr;rw [if_neg (by rw [q1];decide),if_neg (by rw [q2];decide),if_pos hf]) Dc))
     ·have q1:=k1 Dc
      have q2:=k2 Dc
      have q3:=k3 (Nat.le_refl _)
      have q4:Jgl (Jbl rs i) (rs.getD i rul0).name (JdA (rs.getD i rul0))=true:=by rw [Jo1 hrr hri,q3];rfl
      have q5:=JqF _ _ (Jug q4)
      rw [← Juf hi] at q5
      refine JbI ?_
      refine ⟨⟨rfl,Jlx _⟩, ?_⟩
      refine JbI ?_
      refine Jev ?_
      refine stp ?_
      exact back (i+1,nx5) ⟨hi,fun m hm2=> by
       rcases Nat.lt_or_ge m i with q | q
       ·exact h2 m q
       ·rw [show m=i by omega];exact hv.2 ⟨q1,q2,q3⟩⟩ Dm (Jk (pm:= []) (bx:= [((0,nx3), .mp (esV (Jbl rs (i+1))))]) [((0,nx3), .mp (JcS (.string (JdA (rs.getD i rul0))) (.v (.bool true)) (esV (Jbl rs i))))] [] rfl rfl Sf .slnil ⟨rfl,Jnp (congrArg Own.mp q5),trivial⟩ trivial ⟨Rf,Rf,Rf,Rf,Lw,trivial⟩)
     ·exact absurd k0 Om
end Go.Proofs.W

namespace Go.Proofs.W
open Go.Vl
set_option maxRecDepth 100000
theorem Juh {l:List TRow} {s:ByteArray} (h:JaD l s=true):∃r∈l,r.name=s:=by
 unfold JaD at h
 rw [Bool.and_eq_true,decide_eq_true_iff,decide_eq_true_iff] at h
 exact ⟨l.getD (Ja5 l s) trow0,by simp [List.getD,h.1],JiE.1 h.2⟩
end Go.Proofs.W

namespace Go.Proofs.W
open Go.Vl
set_option maxRecDepth 100000
theorem JgF {l:List Cnd} {i:Nat} (h:i < l.length):l.getD i cnd0∈l:=by simp [List.getD,h]
theorem JmK (l:List Cnd) (c:Cnd) (hl:l.length≤1000000):Tells Tryz.prog 237 [JW l,JD c] (Jb (decide (c∈l))):=by
 refine Jf Tryz.func237 rfl rfl fun nx=> ?_
 refine stp ?_
 refine Jo (fun s:Nat×Nat=> mk 18 [(0,JW l),(3, .bp (0,nx) 0),(5,int s.1)] ⟨[((0,nx), .c [int c.arg,int c.op,u64 c.mask,u64 c.value])], [],s.2,1⟩) (fun s=> s.1≤l.length∧∀j,j < s.1→l.getD j cnd0≠c) (fun s=> l.length - s.1) ?_ ?_
 ·exact ⟨(0,nx+1),⟨Nat.zero_le _,fun j h=> absurd h (Nat.not_lt_zero _)⟩,Jk (pm:= []) _ [] rfl rfl Sf Sf ⟨rfl,OwnLe.refl _,trivial⟩ trivial ⟨Rf,Rf,Rf,trivial⟩⟩
 ·rintro ⟨i,nx2⟩ ⟨h3,h4⟩
  dsimp only at h3 h4
  refine stp ?_
  intro c h5;cases c
  ·have h6:¬((i:Nat):Int) < ((l.length:Nat):Int):=Jm h5
   obtain rfl:i=l.length:=by omega
   have hn:¬c∈l:=fun hm=> by
    obtain ⟨j,hj,e⟩:=List.getElem_of_mem hm
    exact h4 j hj (by rw [List.getD_eq_getElem?_getD,List.getElem?_eq_getElem hj];exact e)
   refine stp ?_
   exact Jd rfl (Jt (by rw [decide_eq_false hn]))
  ·have h6:((i:Nat):Int) < ((l.length:Nat):Int):=Jn h5
   have hi:i < l.length:=by omega
   refine stp ?_
   (refine Ju 6 ?_ ?_ ?_ ?_;(· kernel_rfl);(· kernel_rfl);(· kernel_rfl))
   refine stp ?_
   refine ⟨⟨by dsimp only;omega,by dsimp only;omega⟩, ?_⟩
   refine stp ?_
   intro d hd
   have hd2:d=decide (l.getD i cnd0=c):=hd.trans cnd_eqb
   cases d
   ·have he:¬l.getD i cnd0=c:=Jm hd2
    refine stp ?_
    refine back (i+1,nx2) ⟨by dsimp only;omega,fun j hj=> ?_⟩ Dm (Jk (pm:= []) _ [] rfl rfl Sf Sf ⟨rfl,OwnLe.refl _,trivial⟩ trivial ⟨Rf,Rf,Jl (JF Dm),trivial⟩)
    dsimp only at hj
    rcases Nat.lt_or_ge j i with h | h
    ·exact h4 j h
    ·obtain rfl:j=i:=by omega
     exact he
   ·have he:l.getD i cnd0=c:=Jn hd2
    refine stp ?_
    exact Jd rfl (Jt (by rw [decide_eq_true (he ▸ JgF hi)]))
theorem Jui {a b:List Cnd} (h:∀j,j < a.length→a.getD j cnd0∈b):(a.all fun c=> decide (c∈b))=true:=by
 rw [List.all_eq_true]
 intro c hc
 obtain ⟨j,hj,rfl⟩:=List.getElem_of_mem hc
 have:=h j hj
 rw [List.getD_eq_getElem?_getD,List.getElem?_eq_getElem hj] at this
 exact decide_eq_true this
theorem JqI {a b:List Cnd} {j:Nat} (hj:j < a.length) (h:¬a.getD j cnd0∈b):(a.all fun c=> decide (c∈b))=false:=by
 cases e:a.all fun c=> decide (c∈b) with
 | false=> rfl
 | true=> exact absurd (of_decide_eq_true (List.all_eq_true.1 e _ (JgF hj))) h
theorem Jsh (a b:List Cnd) (ha:a.length≤1000000) (hb:b.length≤1000000):Tells Tryz.prog 145 [JW a,JW b] (Jb (JeI a b)):=by
 refine Jf Tryz.func145 rfl rfl fun nx=> ?_
 refine stp ?_
 refine Jo (fun s:Nat×Nat=> mk 33 [(0,JW a),(1,JW b),(5,int s.1)] ⟨[], [],s.2,0⟩) (fun s=> s.1≤a.length∧∀j,j < s.1→a.getD j cnd0∈b) (fun s=> a.length - s.1) ?_ ?_
 ·exact ⟨(0,nx),⟨Nat.zero_le _,fun j h=> absurd h (Nat.not_lt_zero _)⟩,J5 rfl rfl ⟨Rf,Rf,Rf,trivial⟩⟩
 ·rintro ⟨i,nx2⟩ ⟨h3,h4⟩
  dsimp only at h3 h4
  refine stp ?_
  intro c h5;cases c
  ·have h6:¬((i:Nat):Int) < ((a.length:Nat):Int):=Jm h5
   obtain rfl:i=a.length:=by omega
   have e1:=Jui h4
   refine stp ?_
   refine Jo (fun s:Nat×Nat=> mk 33 [(0,JW a),(1,JW b),(6,int s.1)] ⟨[], [],s.2,0⟩) (fun s=> s.1≤b.length∧∀j,j < s.1→b.getD j cnd0∈a) (fun s=> b.length - s.1) ?_ ?_
   ·exact ⟨(0,nx2),⟨Nat.zero_le _,fun j h=> absurd h (Nat.not_lt_zero _)⟩,J5 rfl rfl ⟨Rf,Rf,Rf,trivial⟩⟩
   ·rintro ⟨i,nx3⟩ ⟨k3,k4⟩
    dsimp only at k3 k4
    refine stp ?_
    intro c h7;cases c
    ·have h8:¬((i:Nat):Int) < ((b.length:Nat):Int):=Jm h7
     obtain rfl:i=b.length:=by omega
     have e2:=Jui k4
     refine stp ?_
     exact Jd rfl (Jt (by unfold JeI;rw [e1,e2];rfl))
    ·have h8:((i:Nat):Int) < ((b.length:Nat):Int):=Jn h7
     have hi:i < b.length:=by omega
     have hs:=JmK a (b.getD i cnd0) ha
     refine stp ?_
     refine ⟨⟨by dsimp only;omega,by dsimp only;omega⟩, ?_⟩
     refine stp ?_
     refine Je rfl rfl hs ⟨Rf,Rf,trivial⟩ fun nx4=> ?_
     by_cases hq:b.getD i cnd0∈a
     ·rw [decide_eq_true hq]
      refine stp ?_
      refine back (i+1,nx4) ⟨by dsimp only;omega,fun j hj=> ?_⟩ Dm (J5 rfl rfl ⟨Rf,Rf,Jl (JF Dm),trivial⟩)
      dsimp only at hj
      rcases Nat.lt_or_ge j i with h | h
      ·exact k4 j h
      ·rw [show j=i by omega];exact hq
     ·rw [decide_eq_false hq]
      refine stp ?_
      exact Jd rfl (Jt (by unfold JeI;rw [JqI hi hq,Bool.and_false]))
  ·have h6:((i:Nat):Int) < ((a.length:Nat):Int):=Jn h5
   have hi:i < a.length:=by omega
   have hs:=JmK b (a.getD i cnd0) hb
   refine stp ?_
   refine ⟨⟨by dsimp only;omega,by dsimp only;omega⟩, ?_⟩
   refine stp ?_
   refine Je rfl rfl hs ⟨Rf,Rf,trivial⟩ fun nx4=> ?_
   by_cases hq:a.getD i cnd0∈b
   ·rw [decide_eq_true hq]
    refine stp ?_
    refine back (i+1,nx4) ⟨by dsimp only;omega,fun j hj=> ?_⟩ Dm (J5 rfl rfl ⟨Rf,Rf,Jl (JF Dm),trivial⟩)
    dsimp only at hj
    rcases Nat.lt_or_ge j i with h | h
    ·exact h4 j h
    ·rw [show j=i by omega];exact hq
   ·rw [decide_eq_false hq]
    refine stp ?_
    exact Jd rfl (Jt (by unfold JeI;rw [JqI hi hq,Bool.false_and]))
theorem Jjp (l:List TRow) (s:ByteArray) (hl:l.length≤1000000):Tells Tryz.prog 78 [Jv l,Jg s] (int (JgK (l.findIdx? fun r=> kS r.name s))):=by
 refine Jf Tryz.func78 rfl rfl fun nx=> ?_
 refine stp ?_
 refine Jo (fun y:Nat×Nat=> mk 20 [(0,Jv l),(1,Jg s),(5,int y.1)] ⟨[], [],y.2,0⟩) (fun y=> y.1≤l.length∧∀j,j < y.1→kS (l.getD j trow0).name s=false) (fun y=> l.length - y.1) ?_ ?_
 ·exact ⟨(0,nx),⟨Nat.zero_le _,fun j h=> absurd h (Nat.not_lt_zero _)⟩,J5 rfl rfl ⟨Rf,Rf,Rf,trivial⟩⟩
 ·rintro ⟨i,nx2⟩ ⟨h3,h4⟩
  dsimp only at h3 h4
  refine stp ?_
  intro c h5;cases c
  ·have h6:¬((i:Nat):Int) < ((l.length:Nat):Int):=Jm h5
   refine stp ?_
   refine Jd rfl (Jl ?_)
   rw [JeU trow0 (fun j hj=> h4 j Om)];rfl
  ·have h6:((i:Nat):Int) < ((l.length:Nat):Int):=Jn h5
   have hi:i < l.length:=by omega
   refine stp ?_
   refine ⟨⟨by dsimp only;omega,by dsimp only;omega⟩, ?_⟩
   refine stp ?_
   intro d hd
   have hd2:d=kS (l.getD i trow0).name s:=hd
   cases d
   ·refine stp ?_
    refine back (i+1,nx2) ⟨by dsimp only;omega,fun j hj=> ?_⟩ Dm (J5 rfl rfl ⟨Rf,Rf,Jl (JF Dm),trivial⟩)
    dsimp only at hj
    rcases Nat.lt_or_ge j i with h | h
    ·exact h4 j h
    ·rw [show j=i by omega];exact hd2.symm
   ·refine stp ?_
    refine Jd rfl (Jl ?_)
    rw [JgY trow0 hi h4 hd2.symm];rfl
theorem Jsi {l:List TRow} (h:JiF l) (s:ByteArray):(JgK (l.findIdx? fun r=> kS r.name s) < 0)↔JaD l s=false:=by
 constructor
 ·intro ho
  cases hf:JaD l s with
  | false=> rfl
  | true=>
    exfalso
    obtain ⟨r,hr,e⟩:=Juh hf
    cases hi:l.findIdx? fun r=> kS r.name s with
    | some i=> rw [hi] at ho;exact absurd ho (by show ¬((i:Nat):Int) < 0;omega)
    | none=>
      have:=List.findIdx?_eq_none_iff.1 hi r hr
      rw [Ja4.2 e] at this;cases this
 ·intro hf
  cases hi:l.findIdx? fun r=> kS r.name s with
  | none=> decide
  | some j=>
    exfalso
    obtain ⟨hj,hk,_⟩:=List.findIdx?_eq_some_iff_getElem.1 hi
    have e:(l.getD j trow0).name=s:=by rw [show l.getD j trow0=l[j] by simp [List.getD,hj]];exact Ja4.1 hk
    have h0:Jc9 (l.getD j trow0).name s=0:=JiE.2 e
    have h1:Ja5 l s≤j:=by
     rcases Nat.lt_or_ge j (Ja5 l s) with q | q
     ·have:=JiC q;omega
     ·exact q
    have h2:Ja5 l s=j:=by
     rcases Nat.lt_or_ge (Ja5 l s) j with q | q
     ·have:=h _ _ q hj
      rw [e] at this
      exact absurd (JiD.2 this) (Jg0 Om)
     ·omega
    unfold JaD at hf
    rw [h2,decide_eq_true hj,decide_eq_true h0] at hf
    cases hf
theorem JxU {c:Cnd} (hok:c.ok):(decide (c.op=7)&& decide (c.value||| c.mask≠c.mask))=JcA c:=by
 unfold JcA
 congr 1
 exact decide_eq_decide.2 (not_congr (Job hok.2 hok.1).symm)
end Go.Proofs.W

namespace Go.Proofs.W
open Go.Vl
set_option maxRecDepth 100000
theorem JmL {l:List TRow}:(JdL l).2=0↔(JbR l).2=0:=(Jmi l).symm
theorem JvF {cs:List Cnd} (h:∀j,j < cs.length→JcA (cs.getD j cnd0)=false):cs.any JcA=false:=by
 rw [List.any_eq_false]
 intro c hc
 obtain ⟨j,hj,rfl⟩:=List.getElem_of_mem hc
 have:=h j hj
 rw [List.getD_eq_getElem?_getD,List.getElem?_eq_getElem hj] at this
 simp only [Option.getD_some] at this
 rw [this];decide
theorem JvG {cs:List Cnd} {j:Nat} (hj:j < cs.length) (h:JcA (cs.getD j cnd0)=true):cs.any JcA=true:=List.any_eq_true.2 ⟨_,JgF hj,h⟩
theorem JvH {rs:List Rul} {r:Rul} {i:Nat} (hi:i≤rs.length) (h:∀j,j < i→Jcu r (rs.getD j rul0)=false):(rs.take i).any (Jcu r)=false:=by
 rw [List.any_eq_false]
 intro q hq
 obtain ⟨j,hj,rfl⟩:=List.getElem_of_mem hq
 rw [List.length_take] at hj
 have:=h j Om
 rw [List.getElem_take]
 rw [List.getD_eq_getElem?_getD,List.getElem?_eq_getElem Om] at this
 simp only [Option.getD_some] at this
 rw [this];decide
theorem Jo3 {rs:List Rul} {r:Rul} {i j:Nat} (hi:i≤rs.length) (hj:j < i) (h:Jcu r (rs.getD j rul0)=true):(rs.take i).any (Jcu r)=true:=by
 refine List.any_eq_true.2 ⟨rs.getD j rul0, ?_,h⟩
 rw [show rs.getD j rul0=(rs.take i)[j]'(by rw [List.length_take];omega) by rw [List.getElem_take];simp [List.getD,show j < rs.length by omega]]
 exact List.getElem_mem _
set_option maxHeartbeats 8000000 in
theorem Jsj (p:Pol) (l:List TRow) (hp2:p.rules.length≤1000000∧∀r∈p.rules,r.conds.length≤12∧∀c∈r.conds,c.ok) (hl:l.length≤1000000):Tells Tryz.prog 77 [JaL p,Jv l] (.tup [int (JR p l).1,int (JR p l).2]):=by
 have hR:=Jot p
 have hT:=Jkt l hl
 cases hb:JaB p with
 | false=>
   rw [hb] at hR
   obtain ⟨⟨k,n⟩,x,rs⟩:=p
   refine Jf Tryz.func77 rfl rfl fun nx=> ?_
   refine stp ?_
   refine Je rfl rfl hR ⟨Rf,trivial⟩ fun nx2=> ?_
   refine stp ?_
   exact Jd rfl (Jc0 (by unfold JR;rw [if_pos hb]))
 | true=>
 rw [hb] at hR
 by_cases ht:(JbR l).2=0
 rotate_left
 ·obtain ⟨⟨k,n⟩,x,rs⟩:=p
  refine Jf Tryz.func77 rfl rfl fun nx=> ?_
  refine stp ?_
  refine Je rfl rfl hR ⟨Rf,trivial⟩ fun nx2=> ?_
  refine stp ?_
  refine Je rfl rfl hT ⟨Rf,trivial⟩ fun nx3=> ?_
  refine stp ?_
  intro c hc
  obtain rfl:c=true:=hc.trans (bne_iff_ne.2 fun h=> ht (JmL.1 h))
  refine stp ?_
  exact Jd rfl (Jc0 (by unfold JR;rw [if_neg (by rw [hb];decide),if_pos ht]))
 ·have hs:=JeD ht
  have hat:∀i v,i < p.rules.length→(∀j,j < i→Jbr l p.rules j=0)→Jbr l p.rules i=v→v≠0→((i:Int),v)=JR p l:=fun i v h1 h2 h3 h4=> (JmB hb ht h1 h2 h3 h4).symm
  have hnone:(∀j,j < p.rules.length→Jbr l p.rules j=0)→((0:Int),(0:Int))=JR p l:=fun h=> (JmA (Jak.2 ⟨hb,ht,h⟩)).symm
  generalize hV:JR p l=V at hat hnone⊢
  obtain ⟨V1,V2⟩:=V
  obtain ⟨⟨k,n⟩,x,rs⟩:=p
  dsimp only at hat hnone hp2
  rw [JmL.2 ht] at hT
  refine Jf Tryz.func77 rfl rfl fun nx=> ?_
  refine stp ?_
  refine Je rfl rfl hR ⟨Rf,trivial⟩ fun nx2=> ?_
  refine stp ?_
  refine Je rfl rfl hT ⟨Rf,trivial⟩ fun nx3=> ?_
  (refine JB ?_;refine JE ?_;refine JB ?_)
  refine Jbq (n:=103) (nx:=nx3) (nn:=1) (pm:= []) (bx:= []) (L:= [(1,Jv l),(2, .rp [int k,int n,Jb x,Ji rs])]) (df:=some []) [((0,nx), .c [int k,int n,Jb x,Ji rs])] rfl rfl rfl (List.Perm.refl _) Sf ⟨Frz.refl _,Frz.bp (.head _) rfl,trivial⟩ ?_
  refine stp ?_
  refine Jo (fun y:Nat×Nat=> mk 103 [(1,Jv l),(2, .rp [int k,int n,Jb x,Ji rs]),(8,int y.1)] ⟨[], [],y.2,0⟩) (fun y=> y.1≤rs.length∧∀j,j < y.1→Jbr l rs j=0) (fun y=> rs.length - y.1) ?_ ?_
  ·exact ⟨(0,nx3),⟨Nat.zero_le _,fun j h=> absurd h (Nat.not_lt_zero _)⟩,Jk (pm:= []) (bx:= []) [] [] rfl rfl .slnil .slnil trivial trivial ⟨Rf,Rf,Rf,trivial⟩⟩
  ·rintro ⟨i,nx4⟩ ⟨h1,h2⟩
   dsimp only at h1 h2
   refine stp ?_
   intro c g;cases c
   ·have g:=Jm g
    try dsimp only at g
    obtain rfl:i=rs.length:=by omega
    refine stp ?_
    exact Jd rfl (Jc0 (hnone h2))
   ·have g:=Jn g
    try dsimp only at g
    have hi:i < rs.length:=by omega
    have hm:rs.getD i rul0∈rs:=Jly hi
    have hri:=hp2.2 _ hm
    have hF:=Jjp l (rs.getD i rul0).name hl
    have hff:=Jsi hs (rs.getD i rul0).name
    refine stp ?_
    refine ⟨Bd, ?_⟩
    refine JB ?_
    refine Jbq (n:=103) (nx:=nx4+1) (nn:=1) (pm:= []) (bx:= []) (L:= [(1,Jv l),(2, .rp [int k,int n,Jb x,Ji rs]),(8,int i),(9, .rp (Jdz (rs.getD i rul0)))]) (df:=some []) [((0,nx4), .c (Jdz (rs.getD i rul0)))] rfl rfl rfl (List.Perm.refl _) Sf ⟨Frz.refl _,Frz.refl _,Frz.refl _,Frz.bp (.head _) rfl,trivial⟩ ?_
    refine stp ?_
    refine Je rfl rfl hF ⟨Rf,Rf,trivial⟩ fun nx5=> ?_
    refine stp ?_
    intro c g2;cases c
    rotate_left
    ·refine stp ?_
     exact Jd rfl (Jc0 (hat i 14 hi h2 (if_pos (hff.1 (Jn g2))) Dc))
    ·have q1:JaD l (rs.getD i rul0).name=true:=by
      cases e:JaD l (rs.getD i rul0).name with
      | true=> rfl
      | false=> exact absurd (hff.2 e) (Jm g2)
     refine stp ?_
     refine Jo (fun y:Nat×Nat=> mk 103 [(1,Jv l),(2, .rp [int k,int n,Jb x,Ji rs]),(8,int i),(9, .rp (Jdz (rs.getD i rul0))),(10,int y.1)] ⟨[], [],y.2,0⟩) (fun y=> y.1≤(rs.getD i rul0).conds.length∧∀j,j < y.1→JcA ((rs.getD i rul0).conds.getD j cnd0)=false) (fun y=> (rs.getD i rul0).conds.length - y.1) ?_ ?_
     ·exact ⟨(0,nx5),⟨Nat.zero_le _,fun j h=> absurd h (Nat.not_lt_zero _)⟩,Jk (pm:= []) (bx:= []) [] [] rfl rfl .slnil .slnil trivial trivial ⟨Rf,Rf,Rf,Rf,Rf,trivial⟩⟩
     ·rintro ⟨m,nx6⟩ ⟨k1,k2⟩
      dsimp only at k1 k2
      refine stp ?_
      intro c g3;cases c
      ·have g3:=Jm g3
       try dsimp only at g3
       have q2:=JvF (fun j hj=> k2 j Om)
       refine stp ?_
       refine Jo (fun y:Nat×Nat=> mk 103 [(1,Jv l),(2, .rp [int k,int n,Jb x,Ji rs]),(8,int i),(9, .rp (Jdz (rs.getD i rul0))),(12,int y.1)] ⟨[], [],y.2,0⟩) (fun y=> y.1≤i∧∀j,j < y.1→Jcu (rs.getD i rul0) (rs.getD j rul0)=false) (fun y=> i - y.1) ?_ ?_
       ·exact ⟨(0,nx6),⟨Nat.zero_le _,fun j h=> absurd h (Nat.not_lt_zero _)⟩,Jk (pm:= []) (bx:= []) [] [] rfl rfl .slnil .slnil trivial trivial ⟨Rf,Rf,Rf,Rf,Rf,trivial⟩⟩
       ·rintro ⟨q,nx7⟩ ⟨d1,d2⟩
        dsimp only at d1 d2
        refine stp ?_
        intro c g4;cases c
        ·have g4:=Jm g4
         try dsimp only at g4
         have q3:=JvH (r:=rs.getD i rul0) h1 (fun j hj=> d2 j Om)
         refine stp ?_
         exact back (i+1,nx7) ⟨hi,fun m hm2=> by
          rcases Nat.lt_or_ge m i with z | z
          ·exact h2 m z
          ·rw [show m=i by omega];exact Jqw.2 ⟨q1,q2,q3⟩⟩ Dm (Jk (pm:= []) (bx:= []) [] [] rfl rfl .slnil .slnil trivial trivial ⟨Rf,Rf,Lw,trivial⟩)
        ·have g4:=Jn g4
         try dsimp only at g4
         have hqi:q < i:=by omega
         have hal:=Jsh (rs.getD q rul0).conds (rs.getD i rul0).conds (by have:=(hp2.2 _ (Jly (show q < rs.length by omega))).1;omega) Om
         refine stp ?_
         (refine Ju 30 ?_ ?_ ?_ ?_;(· kernel_rfl);(· kernel_rfl);(· kernel_rfl))
         refine stp ?_
         refine ⟨⟨by dsimp only;omega,by dsimp only;omega⟩, ?_⟩
         refine stp ?_
         intro b hb2
         have hk:b=kS (rs.getD q rul0).name (rs.getD i rul0).name:=hb2
         clear hb2
         cases b
         ·refine stp ?_
          have e6:Jcu (rs.getD i rul0) (rs.getD q rul0)=false:=by unfold Jcu;rw [← hk];rfl
          exact back (q+1,nx7) ⟨hqi,fun j hj=> by
           rcases Nat.lt_or_ge j q with z | z
           ·exact d2 j z
           ·rw [show j=q by omega];exact e6⟩ Dm (Jk (pm:= []) (bx:= []) [] [] rfl rfl .slnil .slnil trivial trivial ⟨Rf,Rf,Rf,Rf,Lw,trivial⟩)
         ·refine stp ?_
          refine ⟨⟨by dsimp only;omega,by dsimp only;omega⟩, ?_⟩
          refine stp ?_
          intro b hb2
          have hc0:b=decide ((rs.getD q rul0).conds.length=0):=by
           have:b=(((rs.getD q rul0).conds.length:Int) ==0):=hb2
           rw [this]
           by_cases z:(rs.getD q rul0).conds.length=0
           ·rw [z];rfl
           ·rw [decide_eq_false z];exact beq_eq_false_iff_ne.2 Om
          clear hb2
          cases b
          ·refine stp ?_
           refine ⟨⟨by dsimp only;omega,by dsimp only;omega⟩, ?_⟩
           refine stp ?_
           refine JP (Jz rfl rfl hal ⟨Rf,Rf,trivial⟩ (NoId.v _)) ?_
           cases ea:JeI (rs.getD q rul0).conds (rs.getD i rul0).conds
           ·refine stp ?_
            have e6:Jcu (rs.getD i rul0) (rs.getD q rul0)=false:=by unfold Jcu;rw [← hk,← hc0,ea];rfl
            exact back (q+1,nx7) ⟨hqi,fun j hj=> by
             rcases Nat.lt_or_ge j q with z | z
             ·exact d2 j z
             ·rw [show j=q by omega];exact e6⟩ Dm (Jk (pm:= []) (bx:= []) [] [] rfl rfl .slnil .slnil trivial trivial ⟨Rf,Rf,Rf,Rf,Lw,trivial⟩)
           ·refine stp ?_
            have e6:Jcu (rs.getD i rul0) (rs.getD q rul0)=true:=by unfold Jcu;rw [← hk,← hc0,ea];rfl
            exact Jd rfl (Jc0 (hat i 15 hi h2 (by unfold Jbr;rw [if_neg (by rw [q1];decide),if_neg (by rw [q2];decide),if_pos (Jo3 h1 hqi e6)]) Dc))
          ·refine stp ?_
           have e6:Jcu (rs.getD i rul0) (rs.getD q rul0)=true:=by unfold Jcu;rw [← hk,← hc0];rfl
           exact Jd rfl (Jc0 (hat i 15 hi h2 (by unfold Jbr;rw [if_neg (by rw [q1];decide),if_neg (by rw [q2];decide),if_pos (Jo3 h1 hqi e6)]) Dc))
      ·have g3:=Jn g3
       try dsimp only at g3
       have hmi:m < (rs.getD i rul0).conds.length:=by omega
       have hco:=hri.2 _ (JgF hmi)
       have hbo:=JxU hco
       refine stp ?_
       refine ⟨Bd, ?_⟩
       refine stp ?_
       intro c g5;cases c
       ·have g5:false=(((rs.getD i rul0).conds.getD m cnd0).op ==7):=g5
        refine stp ?_
        have e5:JcA ((rs.getD i rul0).conds.getD m cnd0)=false:=by
         unfold JcA
         rw [decide_eq_false (fun e=> by rw [e] at g5;cases g5),Bool.false_and]
        exact back (m+1,nx6+1) ⟨hmi,fun j hj=> by
         rcases Nat.lt_or_ge j m with z | z
         ·exact k2 j z
         ·rw [show j=m by omega];exact e5⟩ Dm (Jk (pm:= []) (bx:= []) [] [] rfl rfl (List.nil_sublist _) .slnil trivial trivial ⟨Rf,Rf,Rf,Rf,Lw,trivial⟩)
       ·have g5:true=(((rs.getD i rul0).conds.getD m cnd0).op ==7):=g5
        have g5:((rs.getD i rul0).conds.getD m cnd0).op=7:=by simpa using g5.symm
        refine stp ?_
        intro b hb2
        have hb2:b=(Jcb BinOp.or IntKind.u64 (((rs.getD i rul0).conds.getD m cnd0).value:Int) (((rs.getD i rul0).conds.getD m cnd0).mask:Int) !=(((rs.getD i rul0).conds.getD m cnd0).mask:Int)):=hb2
        have e5:JcA ((rs.getD i rul0).conds.getD m cnd0)=b:=by
         rw [← hbo,decide_eq_true g5,Bool.true_and,hb2]
         rw [Jta hco.2 hco.1]
         by_cases h0:((rs.getD i rul0).conds.getD m cnd0).value||| ((rs.getD i rul0).conds.getD m cnd0).mask=((rs.getD i rul0).conds.getD m cnd0).mask
         ·rw [h0,bne_self_eq_false]
          exact decide_eq_false fun e=> e rfl
         ·rw [decide_eq_true h0]
          exact (bne_iff_ne.2 fun e=> h0 (Int.ofNat.inj e)).symm
        clear hb2
        cases b
        ·refine stp ?_
         exact back (m+1,nx6+1) ⟨hmi,fun j hj=> by
          rcases Nat.lt_or_ge j m with z | z
          ·exact k2 j z
          ·rw [show j=m by omega];exact e5⟩ Dm (Jk (pm:= []) (bx:= []) [] [] rfl rfl (List.nil_sublist _) .slnil trivial trivial ⟨Rf,Rf,Rf,Rf,Lw,trivial⟩)
        ·refine stp ?_
         exact Jd rfl (Jc0 (hat i 16 hi h2 (by unfold Jbr;rw [if_neg (by rw [q1];decide),if_pos (JvG hmi e5)]) Dc))
end Go.Proofs.W

namespace Go.Proofs.W
open Go.Vl
set_option maxRecDepth 100000
theorem Jw2 (m:Nat):m&&& 4294967295=m % 4294967296:=by
 rw [show (4294967295:Nat)=2 ^ 32 - 1 by decide,Nat.and_two_pow_sub_one_eq_mod]
theorem JjN (c:Cnd) (ho:c.ok):Tells Tryz.prog 38 [JD c] (.tup [JD (JbQ c).1,int (JbQ c).2]):=by
 obtain ⟨arg,op,mask,value⟩:=c
 have ho1:=ho.1
 dsimp only at ho1
 have ht:((mask:Int)).tmod 4294967296=((mask&&& 4294967295:Nat):Int):=by rw [Jw2];exact (Int.ofNat_tmod mask 4294967296).symm
 refine Jf Tryz.func38 rfl rfl fun nx=> ?_
 (repeat' (refine stp ?_;intro c h;cases c))
 all_goals
  refine stp ?_
  refine Jh rfl ⟨rfl,trivial⟩ (AVle.of_eq ?_)
  (try simp only [J3, J4, Jah, Jai, Jaa, Jab] at *)
  first
   | (rw [JoT Om];first | (rw [if_pos Om];rfl) | (rw [if_neg Om];rfl))
   | (exfalso;omega)
   | (rw [Je1 Om,if_neg Om];rfl)
   | (have hz:((mask:Int)).tmod 4294967296≠0:=by assumption
      rw [ht] at hz
      rw [Je1 Om,if_pos Om,if_neg Om]
      refine Eq.trans ?_ (congrArg (fun z:Int=> AV.tup [.ag [int arg,int op, .v (.int .u64 z), .v (.int .u64 value)],int 0]) ht)
      rfl)
   | (have hz:((mask:Int)).tmod 4294967296=0:=by assumption
      rw [ht] at hz
      rw [Je1 Om,if_pos Om,if_pos Om]
      rfl)
def Jo4 (p:Pol) (s:ByteArray):AV:=match p.rules.find? fun r=> kS r.name s with
 | some r=> .tup [int (codeA r.act:Nat),Jb true]
 | none=> .tup [int 0,Jb false]
theorem JpW {q:Rul→Bool} {rs:List Rul} (h:∀j,j < rs.length→q (rs.getD j rul0)=false):rs.find? q=none:=List.find?_eq_none.2 fun r hr=> by
 obtain ⟨j,hj,rfl⟩:=List.mem_iff_getElem.1 hr
 have:=h j hj
 rw [show rs.getD j rul0=rs[j] by simp [List.getD,hj]] at this
 rw [this];decide
set_option maxHeartbeats 4000000 in
theorem JkT (p:Pol) (s:ByteArray) (hl:p.rules.length≤1000000) (hR:JaB p=true):Tells Tryz.prog 82 [JaL p,Jg s] (Jo4 p s):=by
 have hrt:=(Jd0 hR).2
 unfold Jo4
 obtain ⟨⟨k,n⟩,x32,rs⟩:=p
 dsimp only at hl hrt⊢
 refine Jf Tryz.func82 rfl rfl fun nx=> ?_
 refine stp ?_
 refine Jo (fun y:Nat×Nat=> mk 29 [(1,Jg s),(2, .bp (0,nx) 0),(4,int 0),(5,Jb false),(6,int y.1)] ⟨[((0,nx), .c (Jdy k n x32 rs))], [],y.2,1⟩) (fun y=> y.1≤rs.length∧∀j,j < y.1→kS (rs.getD j rul0).name s=false) (fun y=> rs.length - y.1) ?_ ?_
 ·exact ⟨(0,nx+1),⟨Nat.zero_le _,fun j h=> absurd h (Nat.not_lt_zero _)⟩,Et (pm:= []) (bx:= [((0,nx), .c (Jdy k n x32 rs))]) rfl rfl Bf trivial ⟨Rf,Rf,Rf,Rf,Rf,trivial⟩⟩
 ·rintro ⟨i,nx1⟩ ⟨h1,h2⟩
  dsimp only at h1 h2
  refine stp ?_
  intro c g1;cases c
  ·have g1:=Jm g1
   try dsimp only at g1
   have hi:i=rs.length:=by omega
   subst hi
   rw [JpW (q:=fun r=> kS r.name s) h2]
   refine stp ?_
   exact Jh rfl trivial Rf
  ·have g1:=Jn g1
   try dsimp only at g1
   have hi:i < rs.length:=by omega
   have hmem:rs.getD i rul0∈rs:=by simp [List.getD,hi]
   have hco:=JhE _ (JeE (hrt _ hmem))
   generalize hr:rs.getD i rul0=r at hco
   have hcell:AV.rp (Jaj (rs.getD i rul0)).cells= .rp [Jg r.name,int r.act.1,int r.act.2,JW r.conds]:=by rw [hr];rfl
   refine stp ?_
   refine ⟨Bd,Jj (b:= .rp [Jg r.name,int r.act.1,int r.act.2,JW r.conds]) hcell ?_⟩
   refine stp ?_
   intro c hc
   have hc2:c=kS r.name s:=hc
   cases c
   ·refine stp ?_
    exact back (i+1,nx1) ⟨hi,fun j hj=> by dsimp only at hj;rcases Nat.lt_or_ge j i with q | q;exact h2 j q;rw [show j=i by omega,hr];exact hc2.symm⟩ Dm (Et (pm:= []) (bx:= [((0,nx), .c (Jdy k n x32 rs))]) rfl rfl Bf trivial ⟨Rf,Rf,Rf,Rf,Lw,trivial⟩)
   ·have hfnd:rs.find? (fun r=> kS r.name s)=some r:=by
     have:=JrJ (q:=fun r=> kS r.name s) hi h2 (by rw [hr];exact hc2.symm)
     rw [hr] at this
     exact this
    rw [hfnd]
    refine stp ?_
    refine ⟨Bd,Jj (b:= .rp [Jg r.name,int r.act.1,int r.act.2,JW r.conds]) hcell ?_⟩
    refine stp ?_
    refine Je rfl rfl hco ⟨Rf,trivial⟩ fun nx2=> ?_
    refine stp ?_
    exact Jh rfl trivial Rf
def JjO (p:Pol) (l:List TRow):AV:=if (JR p l).2≠0 then .tup [int (JR p l).1,int (JR p l).2] else match p.rules.findIdx? (Jca l) with
 | some i=> .tup [int i,int 17]
 | none=> .tup [int 0,int 0]
set_option maxHeartbeats 4000000 in
theorem JkU (p:Pol) (l:List TRow) (hp2:p.rules.length≤1000000∧∀r∈p.rules,r.conds.length≤12∧∀c∈r.conds,c.ok) (hl:l.length≤1000000):Tells Tryz.prog 26 [JaL p,Jv l] (JjO p l):=by
 have hV:=Jsj p l hp2 hl
 unfold JjO
 by_cases hv:(JR p l).2=0
 ·rw [if_neg (fun h=> h hv)]
  have ht:=(Jak.1 hv).2.1
  have hrow:∀r∈p.rules,∃j,l.findIdx? (fun q=> kS q.name r.name)=some j∧j < l.length∧JaK l r.name=l.getD j trow0:=fun r hr=> by
   obtain ⟨i,hi,h1,h2⟩:=Jih (Jck hv r hr)
   cases hf:l.findIdx? (fun q=> kS q.name r.name) with
   | none=>
     have:=Jvx hf hi
     rw [Ja4.2 h2] at this
     cases this
   | some j=>
     obtain ⟨hj,hb⟩:=JwY hf
     refine ⟨j,rfl,hj, ?_⟩
     rw [← Ja4.1 hb]
     exact JhF ht hj
  have hl2:=hp2.1
  rw [hv] at hV
  generalize (JR p l).1=v1 at hV
  obtain ⟨⟨k,n⟩,x32,rs⟩:=p
  dsimp only at hl2 hrow⊢
  refine Jf Tryz.func26 rfl rfl fun nx=> ?_
  refine stp ?_
  refine Je rfl rfl hV ⟨Rf,Rf,trivial⟩ fun nx2=> ?_
  refine stp ?_
  refine Jo (fun y:Nat×Nat=> mk 50 [(1,Jv l),(2, .bp (0,nx) 0),(4,int 0),(5,int 0),(8,int y.1)] ⟨[((0,nx), .c (Jdy k n x32 rs))], [],y.2,1⟩) (fun y=> y.1≤rs.length∧∀j,j < y.1→Jca l (rs.getD j rul0)=false) (fun y=> rs.length - y.1) ?_ ?_
  ·exact ⟨(0,nx2),⟨Nat.zero_le _,fun j h=> absurd h (Nat.not_lt_zero _)⟩,Et (pm:= []) (bx:= [((0,nx), .c (Jdy k n x32 rs))]) rfl rfl Bf trivial ⟨Rf,Rf,Rf,Rf,Rf,trivial⟩⟩
  ·rintro ⟨i,nx1⟩ ⟨h1,h2⟩
   dsimp only at h1 h2
   refine stp ?_
   intro c g1;cases c
   ·have g1:=Jm g1
    try dsimp only at g1
    have hi:i=rs.length:=by omega
    subst hi
    have hn:rs.findIdx? (Jca l)=none:=List.findIdx?_eq_none_iff.2 fun r hr=> by
     obtain ⟨j,hj,rfl⟩:=List.mem_iff_getElem.1 hr
     have:=h2 j hj
     rw [show rs.getD j rul0=rs[j] by simp [List.getD,hj]] at this
     simpa using this
    rw [hn]
    refine stp ?_
    exact Jh rfl trivial Rf
   ·have g1:=Jn g1
    try dsimp only at g1
    have hi:i < rs.length:=by omega
    have hmem:rs.getD i rul0∈rs:=by simp [List.getD,hi]
    obtain ⟨j,hj0,hj,hro⟩:=hrow _ hmem
    have hF:=Jjp l (rs.getD i rul0).name hl
    rw [hj0] at hF
    have hmx:Jca l (rs.getD i rul0)=(decide ((l.getD j trow0).mux > 0)&& decide (0 < (rs.getD i rul0).conds.length)):=by unfold Jca;rw [hro]
    have hsome:Jca l (rs.getD i rul0)=true→rs.findIdx? (Jca l)=some i:=fun h=> by
     refine List.findIdx?_eq_some_iff_getElem.2 ⟨hi,by rw [← show rs.getD i rul0=rs[i] by simp [List.getD,hi]];exact h,fun j hj=> ?_⟩
     have:=h2 j hj
     rw [show rs.getD j rul0=rs[j] by simp [List.getD,(by omega:j < rs.length)]] at this
     rw [this];decide
    generalize hr:rs.getD i rul0=r at hF hmx hsome
    have hcell:AV.rp (Jaj (rs.getD i rul0)).cells= .rp [Jg r.name,int r.act.1,int r.act.2,JW r.conds]:=by rw [hr];rfl
    refine stp ?_
    refine ⟨Bd,Jj (b:= .rp [Jg r.name,int r.act.1,int r.act.2,JW r.conds]) hcell ?_⟩
    refine stp ?_
    refine Je rfl rfl hF ⟨Rf,Rf,trivial⟩ fun nx3=> ?_
    refine stp ?_
    refine ⟨⟨Int.natCast_nonneg j,Int.ofNat_lt.2 hj⟩,Jj (b:= .rp (Jq (l.getD j trow0)).cells) rfl ?_⟩
    refine stp ?_
    intro c g2;cases c
    ·have g2:=Jm g2
     try dsimp only at g2
     rw [decide_eq_false Om,Bool.false_and] at hmx
     refine stp ?_
     exact back (i+1,nx3) ⟨hi,fun j hj=> by dsimp only at hj;rcases Nat.lt_or_ge j i with q | q;exact h2 j q;rw [show j=i by omega,hr];exact hmx⟩ Dm (Et (pm:= []) (bx:= [((0,nx), .c (Jdy k n x32 rs))]) rfl rfl Bf trivial ⟨Rf,Rf,Rf,Rf,Lw,trivial⟩)
    ·have g2:=Jn g2
     try dsimp only at g2
     rw [decide_eq_true Om,Bool.true_and] at hmx
     refine stp ?_
     refine ⟨Bd,Jj (b:= .rp [Jg r.name,int r.act.1,int r.act.2,JW r.conds]) hcell ?_⟩
     refine stp ?_
     intro c g3;cases c
     ·have g3:=Jm g3
      try dsimp only at g3
      rw [decide_eq_false Om] at hmx
      refine stp ?_
      exact back (i+1,nx3) ⟨hi,fun j hj=> by dsimp only at hj;rcases Nat.lt_or_ge j i with q | q;exact h2 j q;rw [show j=i by omega,hr];exact hmx⟩ Dm (Et (pm:= []) (bx:= [((0,nx), .c (Jdy k n x32 rs))]) rfl rfl Bf trivial ⟨Rf,Rf,Rf,Rf,Lw,trivial⟩)
     ·have g3:=Jn g3
      try dsimp only at g3
      rw [decide_eq_true Om] at hmx
      rw [hsome hmx]
      refine stp ?_
      exact Jh rfl trivial Rf
 ·rw [if_pos hv]
  generalize (JR p l).1=v1 at hV⊢
  generalize (JR p l).2=v2 at hV hv⊢
  refine Jf Tryz.func26 rfl rfl fun nx=> ?_
  refine stp ?_
  refine Je rfl rfl hV ⟨Rf,Rf,trivial⟩ fun nx2=> ?_
  refine stp ?_
  intro c hc
  obtain rfl:c=true:=by rw [hc];simpa using hv
  refine stp ?_
  exact Jh rfl trivial Rf
end Go.Proofs.W

namespace Go.Proofs.W
open Go.Vl
set_option maxRecDepth 100000
def JiT (r:PRul):AV:= .ag [JW r.conds,int (r.code:Nat)]
def JeL (l:List PRul):AV:=JN 2 JiT Jw l
def JdB (l:List PRul):Nat→AV:=fun k=> JiT (l.getD k Jw)
def nmx:Option Nat→Option Vl.Id
 | some s=> some (7,s)
 | none=> none
theorem JqJ {oq oi:Option Nat} {n m:Nat}:(Jad (nmd oi) m).Sublist (Jdo (nmx oq) (Jad (nmx oq) n++Jad (nmd oi) m)):=by
 cases oq <;> cases oi <;> simp [Jdo,Jbp,nmx,nmd,Jad]
theorem Juj {L:List PRul} {m:Nat} (hm:m≤L.length):AVle (.sl 2 m (JdB L)) (JeL (L.take m)):=by
 unfold JeL JN
 rw [List.length_take,Nat.min_eq_left hm]
 refine AVle.sl_fun fun k hk=> ?_
 show JiT (L.getD k Jw)=JiT ((L.take m).getD k Jw)
 rw [show (L.take m).getD k Jw=L.getD k Jw by simp [List.getD,List.getElem?_take,hk]]
theorem JxV {a:Nat} (h:a≠2) (c:Cnd):stA a c=(c,0):=if_neg h
set_option maxHeartbeats 8000000 in
theorem Jg6 (p:Pol) (s:ByteArray) (a:Nat) (hl:p.rules.length≤1000000) (hc:∀r∈p.rules,r.conds.length≤1000000∧∀c∈r.conds,c.ok) (hR:JaB p=true):Tells Tryz.prog 33 [JaL p,Jg s,int a] (JeL (Jau a ((p.rules.filter fun r=> kS r.name s).map JL) (codeA p.dflt))):=by
 have hrt:=(Jd0 hR).2
 have hdf:=JhE p.dflt (Jd0 hR).1
 obtain ⟨⟨k,n⟩,x32,rs⟩:=p
 dsimp only at hl hc hrt hdf⊢
 generalize codeA (k,n)=d at hdf⊢
 refine Jf Tryz.func33 rfl rfl fun nx=> ?_
 refine stp ?_
 refine Jan (fun y:List PRul×Option Nat×Nat=> mk 112 [(3, .bp (0,nx) 0),(6, .os 0 0 (fun _=> .any) none),(7, .os 2 y.1.length (JdB y.1) (nmd y.2.1))] ⟨[((0,nx), .c (Jdy k n x32 rs))],Jad (nmd y.2.1) (y.1.length * 2),y.2.2,1⟩) (fun y=> y.1=JbY a (Jdm s rs 0)∧y.1.length≤rs.length) ?_ ?_
 ·refine Jo (fun y:Nat×List PRul×Bool×Option Nat×Nat=> mk 112 [(1,Jg s),(2,int a),(3, .bp (0,nx) 0),(6, .os 0 0 (fun _=> .any) none),(7, .os 2 y.2.1.length (JdB y.2.1) (nmd y.2.2.2.1)),(8,Jb y.2.2.1),(9,int y.1)] ⟨[((0,nx), .c (Jdy k n x32 rs))],Jad (nmd y.2.2.2.1) (y.2.1.length * 2),y.2.2.2.2,1⟩)
   (fun y=> y.1≤rs.length∧y.2.1++JiS a y.2.2.1 (Jdm s rs y.1)=JbY a (Jdm s rs 0)∧(y.2.2.2.1=none→y.2.1= [])∧y.2.1.length≤y.1) (fun y=> rs.length - y.1) ?_ ?_
  ·exact ⟨(0, [],false,none,nx+1),⟨Nat.zero_le _,rfl,fun _=> rfl,Nat.le_refl _⟩,Jk (pm:= []) (bx:= [((0,nx), .c (Jdy k n x32 rs))]) _ [] rfl rfl Sf Sf Bf trivial ⟨Rf,Rf,Rf,Rf,AVle.os_nil,Rf,Rf,trivial⟩⟩
  ·rintro ⟨i,U,ov,oi,nx1⟩ ⟨h1,hU,h2,h3⟩
   dsimp only at h1 hU h2 h3
   refine stp ?_
   intro c g;cases c
   ·have g:=Jm g
    try dsimp only at g
    have hi:i=rs.length:=by omega
    subst hi
    rw [Jt4] at hU
    have hU:U=JbY a (Jdm s rs 0):=by rw [← hU];unfold JiS;cases ov <;> exact (List.append_nil _).symm
    refine stp ?_
    exact ⟨(U,oi,nx1),⟨hU,h3⟩,Et rfl rfl Bf Pf ⟨Rf,Rf,Rf,trivial⟩⟩
   ·have g:=Jn g
    try dsimp only at g
    have hi:i < rs.length:=by omega
    have hmem:rs.getD i rul0∈rs:=by simp [List.getD,hi]
    have hco:=JhE _ (JeE (hrt _ hmem))
    have hrc:=hc _ hmem
    have hnx:=Jr9 (s:=s) hi
    generalize hr:rs.getD i rul0=r at hco hrc hnx
    have hcell:AV.rp (Jaj (rs.getD i rul0)).cells= .rp [Jg r.name,int r.act.1,int r.act.2,JW r.conds]:=by rw [hr];rfl
    refine stp ?_
    refine ⟨Bd,Jj (b:= .rp [Jg r.name,int r.act.1,int r.act.2,JW r.conds]) hcell ?_⟩
    refine stp ?_
    intro c hc1
    have hc2:c= !kS r.name s:=hc1
    cases c
    ·have hk:kS r.name s=true:=by simpa using hc2.symm
     rw [hk,if_pos rfl] at hnx
     cases ov
     ·refine stp ?_
      refine ⟨Bd,Jj (b:= .rp [Jg r.name,int r.act.1,int r.act.2,JW r.conds]) hcell ?_⟩
      refine stp ?_
      refine Je rfl rfl hco ⟨Rf,trivial⟩ fun nx2=> ?_
      refine stp ?_
      refine Jan (fun y:List Cnd×Bool×Nat=> mk 112 [(1,Jg s),(2,int a),(3, .bp (0,nx) 0),(6, .os 0 0 (fun _=> .any) none),(7, .os 2 U.length (JdB U) (nmd oi)),(8,Jb false),(9,int i),(10, .bp (1,nx2) 0),(11,Jb y.2.1)] ⟨[((1,nx2), .c [JW y.1,int (codeA r.act:Nat)]),((0,nx), .c (Jdy k n x32 rs))],Jad (nmd oi) (U.length * 2),y.2.2,2⟩) (fun y=> y.1=r.conds.filterMap (Je3 a)∧y.2.1= !r.conds.any (Je2 a)) ?_ ?_
      ·refine Jo (fun y:Nat×List Cnd×Bool×Option Nat×Nat=> mk 112 [(1,Jg s),(2,int a),(3, .bp (0,nx) 0),(6, .os 0 0 (fun _=> .any) none),(7, .os 2 U.length (JdB U) (nmd oi)),(8,Jb false),(9,int i),(10, .bp (1,nx2) 0),(11,Jb y.2.2.1),(12,int y.1)] ⟨[((1,nx2), .c [.os 4 y.2.1.length (Jij y.2.1) (nmx y.2.2.2.1),int (codeA r.act:Nat)]),((0,nx), .c (Jdy k n x32 rs))],Jad (nmx y.2.2.2.1) (y.2.1.length * 4)++Jad (nmd oi) (U.length * 2),y.2.2.2.2,2⟩)
        (fun y=> y.1≤r.conds.length∧y.2.1=(r.conds.take y.1).filterMap (Je3 a)∧y.2.2.1= !(r.conds.take y.1).any (Je2 a)∧(y.2.2.2.1=none→y.2.1= [])) (fun y=> r.conds.length - y.1) ?_ ?_
       ·exact ⟨(0, [],true,none,nx2+1),⟨Nat.zero_le _,rfl,rfl,fun _=> rfl⟩,Et rfl rfl ⟨rfl,⟨AVle.os_nil,Rf,trivial⟩,Bf⟩ Pf ⟨Rf,Rf,Rf,Rf,Rf,Rf,Rf,Rf,Rf,Rf,trivial⟩⟩
       ·rintro ⟨kk,Q,is,oq,nx3⟩ ⟨k1,k2,k3,k4⟩
        dsimp only at k1 k2 k3 k4
        have hql:Q.length≤kk:=by rw [k2];exact JwZ
        refine stp ?_
        refine ⟨Bd,Jj (b:= .rp [Jg r.name,int r.act.1,int r.act.2,JW r.conds]) hcell ?_⟩
        refine stp ?_
        intro c g2;cases c
        ·have g2:=Jm g2
         try dsimp only at g2
         have hkk:kk=r.conds.length:=by omega
         subst hkk
         rw [List.take_length] at k2 k3
         refine stp ?_
         exact ⟨(Q,is,nx3),⟨k2,k3⟩,Jk _ _ rfl rfl Sf (List.sublist_append_right _ _) ⟨rfl,⟨AVle.os_sl,Rf,trivial⟩,Bf⟩ Pf ⟨Rf,Rf,Rf,Rf,Rf,Rf,Rf,Rf,Rf,trivial⟩⟩
        ·have g2:=Jn g2
         try dsimp only at g2
         have hkk:kk < r.conds.length:=by omega
         have hn:=JjN (r.conds.getD kk cnd0) (Jhw hrc.2 hkk)
         have ha1:=Jvy (a:=a) hkk
         have ha2:=Jvz (a:=a) hkk
         rw [← k2] at ha1
         generalize hc0:r.conds.getD kk cnd0=c0 at hn ha1 ha2
         have hcell4:AV.rp (JD (r.conds.getD kk cnd0)).cells= .rp [int c0.arg,int c0.op,u64 c0.mask,u64 c0.value]:=by rw [hc0];rfl
         rcases hq:stA a c0 with ⟨q1,q2⟩
         have hA:Je3 a c0=if q2=0 then some q1 else none:=by unfold Je3;rw [hq]
         have hN:Je2 a c0=decide (q2=2):=by unfold Je2;rw [hq]
         have hq2:q2=0∨q2=1∨q2=2:=by
          unfold stA at hq
          split at hq
          ·have:=Jkx c0
           rw [hq] at this
           exact this
          ·exact .inl (Prod.mk.inj hq).2.symm
         rw [hA] at ha1
         rw [hN] at ha2
         refine stp ?_
         refine ⟨Bd,Jj (b:= .rp [Jg r.name,int r.act.1,int r.act.2,JW r.conds]) hcell ?_⟩
         refine stp ?_
         refine ⟨Bd,Jj (b:= .rp [int c0.arg,int c0.op,u64 c0.mask,u64 c0.value]) hcell4 ?_⟩
         refine stp ?_
         intro c hc4
         refine stp ?_
         refine JgW (fun y:Nat=> mk 112 [(1,Jg s),(2,int a),(3, .bp (0,nx) 0),(6, .os 0 0 (fun _=> .any) none),(7, .os 2 U.length (JdB U) (nmd oi)),(8,Jb false),(9,int i),(10, .bp (1,nx2) 0),(11,Jb is),(12,int kk),(13, .bp (2,nx3) 0),(14,int q2)] ⟨[((2,nx3), .c [int q1.arg,int q1.op,u64 q1.mask,u64 q1.value]),((1,nx2), .c [.os 4 Q.length (Jij Q) (nmx oq),int (codeA r.act:Nat)]),((0,nx), .c (Jdy k n x32 rs))],Jad (nmx oq) (Q.length * 4)++Jad (nmd oi) (U.length * 2),y,3⟩) (fun _=> True) ?_ ?_
         ·cases c
          ·have ha:a≠2:=fun e=> by subst e;cases hc4
           rw [JxV ha] at hq
           obtain ⟨e1,e2⟩:=Prod.mk.inj hq
           subst e1
           subst e2
           refine stp ?_
           exact ⟨nx3+1,trivial,Et rfl rfl Bf Pf ⟨Rf,Rf,Rf,Rf,Rf,Rf,Rf,Rf,Rf,Rf,Rf,Rf,trivial⟩⟩
          ·have ha:a=2:=by
            have:((a:Nat):Int)=2:=by simpa using hc4.symm
            omega
           have hq':JbQ c0=(q1,q2):=by rw [← hq];exact (if_pos ha).symm
           rw [hq'] at hn
           refine stp ?_
           refine Je rfl rfl hn ⟨Rf,trivial⟩ fun nx4=> ?_
           refine stp ?_
           exact ⟨nx4,trivial,Et rfl rfl Bf Pf ⟨Rf,Rf,Rf,Rf,Rf,Rf,Rf,Rf,Rf,Rf,Rf,Rf,trivial⟩⟩
         ·rintro nx4 -
          rcases hq2 with rfl | rfl | rfl
          ·cases is
           ·refine stp ?_
            refine ⟨JgJ,Jy rfl,by show (Q.length+1) * 32≤_;omega,by show Q.length+1≤_;omega, ?_⟩
            refine stp ?_
            exact back (kk+1,Q++ [q1],false,some (nx4),nx4+1) ⟨hkk,(by dsimp only;rw [ha1];rfl),by dsimp only;rw [ha2,Bool.not_or,← k3];rfl,(fun h=> by cases h)⟩ Dm (Jk (bx:= [((1,nx2), .c [.os 4 (Q++ [q1]).length (Jij (Q++ [q1])) (nmx (some nx4)),int (codeA r.act:Nat)]),((0,nx), .c (Jdy k n x32 rs))]) (pm:= [((7,nx4),(Q++ [q1]).length * 4)]++Jad (nmd oi) (U.length * 2)) _ (_::Jad (nmd oi) (U.length * 2)) rfl rfl (.cons _ Sf) (.cons_cons _ JqJ) ⟨rfl,⟨Jed (e:=JD) rfl rfl,Rf,trivial⟩,Bf⟩ ⟨rfl,by rw [List.length_append];rfl,Pf⟩ ⟨Rf,Rf,Rf,Rf,Rf,Rf,Rf,Rf,Rf,Lw,trivial⟩)
           ·refine stp ?_
            refine ⟨JgJ,Jy rfl,by show (Q.length+1) * 32≤_;omega,by show Q.length+1≤_;omega, ?_⟩
            refine stp ?_
            exact back (kk+1,Q++ [q1],true,some (nx4),nx4+1) ⟨hkk,(by dsimp only;rw [ha1];rfl),by dsimp only;rw [ha2,Bool.not_or,← k3];rfl,(fun h=> by cases h)⟩ Dm (Jk (bx:= [((1,nx2), .c [.os 4 (Q++ [q1]).length (Jij (Q++ [q1])) (nmx (some nx4)),int (codeA r.act:Nat)]),((0,nx), .c (Jdy k n x32 rs))]) (pm:= [((7,nx4),(Q++ [q1]).length * 4)]++Jad (nmd oi) (U.length * 2)) _ (_::Jad (nmd oi) (U.length * 2)) rfl rfl (.cons _ Sf) (.cons_cons _ JqJ) ⟨rfl,⟨Jed (e:=JD) rfl rfl,Rf,trivial⟩,Bf⟩ ⟨rfl,by rw [List.length_append];rfl,Pf⟩ ⟨Rf,Rf,Rf,Rf,Rf,Rf,Rf,Rf,Rf,Lw,trivial⟩)
          ·cases is
           ·refine stp ?_
            exact back (kk+1,Q,false,oq,nx4) ⟨hkk,(by dsimp only;rw [ha1];exact (List.append_nil _).symm),by dsimp only;rw [ha2,Bool.not_or,← k3];rfl,k4⟩ Dm (Jk _ _ rfl rfl (.cons _ Sf) Sf Bf Pf ⟨Rf,Rf,Rf,Rf,Rf,Rf,Rf,Rf,Rf,Lw,trivial⟩)
           ·refine stp ?_
            exact back (kk+1,Q,true,oq,nx4) ⟨hkk,(by dsimp only;rw [ha1];exact (List.append_nil _).symm),by dsimp only;rw [ha2,Bool.not_or,← k3];rfl,k4⟩ Dm (Jk _ _ rfl rfl (.cons _ Sf) Sf Bf Pf ⟨Rf,Rf,Rf,Rf,Rf,Rf,Rf,Rf,Rf,Lw,trivial⟩)
          ·cases is
           ·refine stp ?_
            exact back (kk+1,Q,false,oq,nx4) ⟨hkk,(by dsimp only;rw [ha1];exact (List.append_nil _).symm),by dsimp only;rw [ha2,Bool.not_or,← k3];rfl,k4⟩ Dm (Jk _ _ rfl rfl (.cons _ Sf) Sf Bf Pf ⟨Rf,Rf,Rf,Rf,Rf,Rf,Rf,Rf,Rf,Lw,trivial⟩)
           ·refine stp ?_
            exact back (kk+1,Q,false,oq,nx4) ⟨hkk,(by dsimp only;rw [ha1];exact (List.append_nil _).symm),by dsimp only;rw [ha2,Bool.not_or,← k3];rfl,k4⟩ Dm (Jk _ _ rfl rfl (.cons _ Sf) Sf Bf Pf ⟨Rf,Rf,Rf,Rf,Rf,Rf,Rf,Rf,Rf,Lw,trivial⟩)
      ·rintro ⟨Q,is,nx3⟩ ⟨k2,k3⟩
       dsimp only at k2 k3
       have hab:Jdg a (JL r)=if r.conds.any (Je2 a) then none else some ⟨r.conds.filterMap (Je3 a),codeA r.act⟩:=JqA a (JL r)
       have hU2:U++JbY a (JL r::Jdm s rs (i+1))=JbY a (Jdm s rs 0):=by rw [← hU,hnx];rfl
       rw [JhG,hab] at hU2
       have hql:Q.length≤1000000:=by rw [k2];exact Nat.le_trans (List.length_filterMap_le _ _) hrc.1
       cases is
       ·have hany:r.conds.any (Je2 a)=true:=by simpa using k3.symm
        rw [if_pos hany] at hU2
        refine stp ?_
        exact back (i+1,U,false,oi,nx3) ⟨hi,hU2,h2,by dsimp only;omega⟩ Dm (Jk _ _ rfl rfl (.cons _ Sf) Sf Bf Pf ⟨Rf,Rf,Rf,Rf,Rf,Rf,Lw,trivial⟩)
       ·have hany:r.conds.any (Je2 a)=false:=by simpa using k3.symm
        rw [hany,if_neg Dc,← k2] at hU2
        dsimp only at hU2
        refine stp ?_
        refine ⟨Jii,Jy rfl,by show (U.length+1) * 32≤_;omega,by show U.length+1≤_;omega, ?_⟩
        refine stp ?_
        intro c hc5
        have hc6:c=decide (Q.length=0):=hc5.trans (by rw [Bool.eq_iff_iff];simp)
        clear hc5
        rw [← hc6] at hU2
        refine stp ?_
        exact back (i+1,U++ [⟨Q,codeA r.act⟩],c,some nx3,nx3+1) ⟨hi,by dsimp only;rw [List.append_assoc];exact hU2,(fun h=> by cases h),by dsimp only;rw [List.length_append,List.length_singleton];omega⟩ Dm (Jk (L:= [(1,Jg s),(2,int a),(3, .bp (0,nx) 0),(6, .os 0 0 (fun _=> .any) none),(7, .os 2 (U++ [PRul.mk Q (codeA r.act)]).length (JdB (U++ [PRul.mk Q (codeA r.act)])) (some (0,nx3))),(8,Jb c),(9,int (i+1:Nat))]) (bx:= [((0,nx), .c (Jdy k n x32 rs))]) (pm:= [((0,nx3),(U++ [PRul.mk Q (codeA r.act)]).length * 2)]) _ [((2,nx3),(U.length+1) * 2)] rfl rfl (.cons _ Sf) (.cons_cons _ (List.nil_sublist _)) Bf ⟨rfl,by rw [List.length_append];rfl,trivial⟩ ⟨Rf,Rf,Rf,Rf,Jed (e:=JiT) (d:=Jw) (l:=U) (x:=PRul.mk Q (codeA r.act)) (i:=(2,nx3)) (j:=(0,nx3)) rfl rfl,Rf,Lw,trivial⟩)
     ·refine stp ?_
      exact back (i+1,U,true,oi,nx1) ⟨hi,by rw [← hU];rfl,h2,by dsimp only;omega⟩ Dm (Et rfl rfl Bf Pf ⟨Rf,Rf,Rf,Rf,Rf,Rf,Lw,trivial⟩)
    ·have hk:kS r.name s=false:=by simpa using hc2.symm
     rw [hk,if_neg Dc] at hnx
     refine stp ?_
     exact back (i+1,U,ov,oi,nx1) ⟨hi,by rw [← hU,hnx],h2,by dsimp only;omega⟩ Dm (Et rfl rfl Bf Pf ⟨Rf,Rf,Rf,Rf,Rf,Rf,Lw,trivial⟩)
 ·rintro ⟨U,oi,nx1⟩ ⟨hU,h3⟩
  dsimp only at hU h3
  refine stp ?_
  refine Jo (fun y:Nat×Nat=> mk 112 [(3, .bp (0,nx) 0),(7, .sl 2 y.1 (JdB U))] ⟨[((0,nx), .c (Jdy k n x32 rs))], [],y.2,1⟩)
   (fun y=> y.1≤U.length∧JgM d U=JgM d (U.take y.1)) (fun y=> y.1) ?_ ?_
  ·exact ⟨(U.length,nx1),⟨Nat.le_refl _,by rw [List.take_length]⟩,Jk (pm:= []) _ [] rfl rfl Sf (List.nil_sublist _) Bf trivial ⟨Rf,AVle.os_sl,trivial⟩⟩
  ·rintro ⟨m,nx2⟩ ⟨hm,hcut⟩
   dsimp only at hm hcut
   refine stp ?_
   (refine Ju 16 ?_ ?_ ?_ ?_;(· kernel_rfl);(· kernel_rfl);(· kernel_rfl))
   refine stp ?_
   intro c g;cases c
   ·have g:=Jm g
    try dsimp only at g
    have hm0:m=0:=by omega
    subst hm0
    have hS:Jau a ((rs.filter fun r=> kS r.name s).map JL) d= []:=by
     unfold Jau
     rw [show (rs.filter fun r=> kS r.name s).map JL=Jdm s rs 0 from rfl,← hU,hcut]
     rfl
    rw [hS]
    refine stp ?_
    exact Jh rfl trivial (AVle.sl_fun fun k hk=> absurd hk (Nat.not_lt_zero k))
   ·have g:=Jn g
    try dsimp only at g
    have hm0:0 < m:=by omega
    have hm1:IntKind.i64.wrap ((m:Int) - 1)=((m - 1:Nat):Int):=by rw [Jac Om Om];omega
    have htk:U.take m=U.take (m - 1)++ [U.getD (m - 1) Jw]:=by
     obtain ⟨k,rfl⟩:∃k,m=k+1:=⟨m - 1,by omega⟩
     exact JaZ Jw Om
    refine stp ?_
    refine ⟨⟨Jbs (i:=m - 1) hm1,JbJ (i:=m - 1) hm1 Om⟩,Jj (b:= .rp (JiT (U.getD (m - 1) Jw)).cells) (congrArg (fun z:Int=> AV.rp (JdB U z.toNat).cells) hm1) ?_⟩
    refine stp ?_
    refine JP (Jz rfl rfl hdf ⟨Rf,trivial⟩ (NoId.v _)) ?_
    refine stp ?_
    intro c hc7
    have hc8:c=decide ((U.getD (m - 1) Jw).code=d):=hc7.trans (by rw [Bool.eq_iff_iff];simp only [beq_iff_eq,decide_eq_true_eq];omega)
    clear hc7
    cases c
    ·have e:¬(U.getD (m - 1) Jw).code=d:=of_decide_eq_false hc8.symm
     rw [htk,JgA,if_neg e,← htk] at hcut
     have hS:Jau a ((rs.filter fun r=> kS r.name s).map JL) d=U.take m:=by
      unfold Jau
      rw [show (rs.filter fun r=> kS r.name s).map JL=Jdm s rs 0 from rfl,← hU,hcut]
     rw [hS]
     refine stp ?_
     exact Jh rfl trivial (Juj hm)
    ·have e:(U.getD (m - 1) Jw).code=d:=of_decide_eq_true hc8.symm
     rw [htk,JgA,if_pos e] at hcut
     refine stp ?_
     refine ⟨⟨Jbs (i:=m - 1) hm1,by rw [hm1];dsimp only;omega⟩,Jj (b:= .sl 2 (m - 1) (JdB U)) (congrArg (fun z:Int=> AV.sl 2 z.toNat (JdB U)) hm1) ?_⟩
     refine stp ?_
     exact back (m - 1,nx2) ⟨by dsimp only;omega,hcut⟩ Dm (Et (pm:= []) rfl rfl Bf trivial ⟨Rf,Rf,trivial⟩)
end Go.Proofs.W

namespace Go.Proofs.W
open Go.Vl
set_option maxRecDepth 100000
theorem JgR (l:List Cnd):NoId (JW l):=NoId.sl fun i _ c hc=> by
 simp only [JD,AV.cells,List.mem_cons,List.not_mem_nil,or_false] at hc
 rcases hc with rfl | rfl | rfl | rfl <;> exact NoId.v _
theorem Jo5 (ts:List Cnd) (hl:ts.length≤1000000):Tells Tryz.prog 115 [JW ts] (JW ts):=by
 refine Jf Tryz.func115 rfl rfl fun nx=> ?_
 refine stp ?_
 refine JnS (e:=86) rfl (.inl rfl) (by kernel_rfl) (.inl rfl) fun c hc=> ?_
 cases c
 ·refine stp ?_
  (conv=> whnf)
  refine Jj2 (fun hm=> ?_) fun hm=> ?_
  ·refine stp ?_
   obtain rfl:ts= []:=List.eq_nil_of_length_eq_zero hm
   exact Jh rfl trivial AVle.os_sl0
  ·refine ⟨fun k hk=> rfl,by show (0+ts.length) * 32≤_;omega,by omega, ?_⟩
   refine stp ?_
   have e5:0+ts.length=ts.length:=Nat.zero_add _
   refine Jh rfl trivial ?_
   exact AVle.trans (b:= .os 4 ts.length (Jij ts) (some (0,nx))) (AVle.trans (b:= .os 4 (0+ts.length) (Jij ts) (some (0,nx))) (AVle.os_fun fun k hk=> rfl) (AVle.of_eq (by rw [e5]))) AVle.os_sl
 ·obtain rfl:ts= []:=List.eq_nil_of_length_eq_zero (hc rfl)
  refine stp ?_
  exact Jh rfl trivial AVle.os_sl0
def JcR (l:List PRul):Nat→AV:=fun k=> JcQ (l.getD k Jw)
theorem JvI {L:List PRul} {m:Nat} (hm:m≤L.length):AVle (.sl 2 m (JcR L)) (Jx (L.take m)):=by
 unfold Jx JN
 rw [List.length_take,Nat.min_eq_left hm]
 refine AVle.sl_fun fun k hk=> ?_
 show JcQ (L.getD k Jw)=JcQ ((L.take m).getD k Jw)
 rw [show (L.take m).getD k Jw=L.getD k Jw by simp [List.getD,List.getElem?_take,hk]]
theorem Jsk {a:Nat} {l:List PRul} {i:Nat} (hi:i < l.length):JbY a (l.drop i)=match Jdg a (l.getD i Jw) with
 | none=> JbY a (l.drop (i+1))
 | some q=> if q.conds.length=0 then [q] else q::JbY a (l.drop (i+1)):=by
 rw [List.drop_eq_getElem_cons hi,show l.getD i Jw=l[i] by simp [List.getD,hi]]
 rfl
theorem JkV:Tryz.prog.bytesOf 118=32:=by kernel_rfl
theorem Jw3 {r q:PRul} (h:Jht r=some q):q.conds.length≤r.conds.length∧q.code=r.code:=by
 unfold Jht at h
 split at h
 ·cases h
 ·cases h;exact ⟨List.length_filterMap_le _ _,rfl⟩
theorem Jlz {a:Nat} {r q:PRul} (h:Jdg a r=some q):q.conds.length≤r.conds.length∧q.code=r.code:=by
 unfold Jdg at h
 split at h
 ·exact Jw3 h
 ·cases h;exact ⟨Nat.le_refl _,rfl⟩
def Juk (nx:Nat):Option PRul→List (Vl.Id×Own)
 | none=> [((0,nx), .c [JW [],u32 0])]
 | some q=> [((0,nx), .c [JW q.conds,u32 (q.code:Nat)])]
set_option maxHeartbeats 4000000 in
theorem Jcl (a:Nat) (l:List PRul) (d:Nat) (ha:a < 5) (hl:l.length≤1000000) (hc:∀r∈l,r.conds.length≤1000000∧∀c∈r.conds,c.ok):Tells Tryz.prog 48 [int a,Jx l,u32 (d:Nat)] (Jx (Jau a l d)):=by
 refine Jf Tryz.func48 rfl rfl fun nx=> ?_
 refine stp ?_
 refine Jan (fun y:List PRul×Option Nat×Nat=> mk 62 [(0,int a),(2,u32 (d:Nat)),(7, .os 2 y.1.length (JcR y.1) (nmd y.2.1))] ⟨[],Jad (nmd y.2.1) (y.1.length * 2),y.2.2,0⟩) (fun y=> y.1=JbY a l∧(y.2.1=none→y.1= [])∧y.1.length≤l.length) ?_ ?_
 ·refine Jo (fun y:Nat×List PRul×Option Nat×Nat=> mk 62 [(0,int a),(2,u32 (d:Nat)),(7, .os 2 y.2.1.length (JcR y.2.1) (nmd y.2.2.1)),(11,Jx l),(12,int l.length),(13,int y.1)] ⟨[],Jad (nmd y.2.2.1) (y.2.1.length * 2),y.2.2.2,0⟩)
   (fun y=> y.1≤l.length∧y.2.1++JbY a (l.drop y.1)=JbY a l∧(y.2.2.1=none→y.2.1= [])∧y.2.1.length≤y.1) (fun y=> l.length - y.1) ?_ ?_
  ·exact ⟨(0, [],none,nx),⟨Nat.zero_le _,rfl,fun _=> rfl,Nat.le_refl _⟩,Jk (pm:= []) (bx:= []) _ [] rfl rfl Sf Sf trivial trivial ⟨Rf,Rf,AVle.os_nil,Rf,Rf,Rf,trivial⟩⟩
  ·rintro ⟨i,L,oi,nx1⟩ ⟨h1,hL,h2,h3⟩
   dsimp only at h1 hL h2 h3
   refine stp ?_
   intro c g;cases c
   ·have g:=Jm g
    try dsimp only at g
    have hi:i=l.length:=by omega
    subst hi
    rw [List.drop_length] at hL
    refine stp ?_
    exact ⟨(L,oi,nx1),⟨by rw [← hL];exact (List.append_nil _).symm,h2,h3⟩,Et rfl rfl trivial Pf ⟨Rf,Rf,Rf,trivial⟩⟩
   ·have g:=Jn g
    try dsimp only at g
    have hi:i < l.length:=by omega
    have hnx:=Jsk (a:=a) hi
    have hr:l.getD i Jw∈l:=by simp [List.getD,hi]
    have hn:=Jlu (l.getD i Jw) (hc _ hr).2 (hc _ hr).1
    have hcl:=(hc _ hr).1
    rw [hnx] at hL
    clear hnx
    refine stp ?_
    refine ⟨Bd, ?_⟩
    refine stp ?_
    intro c6 hc6
    refine stp ?_
    refine JgW (fun y:Option PRul×Nat=> mk 62 [(0,int a),(2,u32 (d:Nat)),(7, .os 2 L.length (JcR L) (nmd oi)),(9, .bp (0,nx1) 0),(10,Jb y.1.isSome),(11,Jx l),(12,int l.length),(13,int i)] ⟨Juk nx1 y.1,Jad (nmd oi) (L.length * 2),y.2,1⟩) (fun y=> y.1=Jdg a (l.getD i Jw)) ?_ ?_
    ·cases c6
     ·have ha2:a≠2:=fun e=> by subst e;cases hc6
      refine stp ?_
      exact ⟨(some (l.getD i Jw),nx1+1),(if_neg ha2).symm,Et rfl rfl Bf Pf ⟨Rf,Rf,Rf,Rf,Rf,Rf,Rf,Rf,trivial⟩⟩
     ·have ha2:a=2:=by
       have:=of_decide_eq_true (p:=(a:Int)=2) hc6.symm
       omega
      refine stp ?_
      refine Je rfl rfl hn ⟨Rf,trivial⟩ fun nx2=> ?_
      have hab:Jdg a (l.getD i Jw)=Jht (l.getD i Jw):=if_pos ha2
      rw [hab]
      cases Jht (l.getD i Jw) with
      | none=>
        refine stp ?_
        exact ⟨(none,nx2),rfl,Et rfl rfl Bf Pf ⟨Rf,Rf,Rf,Rf,Rf,Rf,Rf,Rf,trivial⟩⟩
      | some q=>
        refine stp ?_
        exact ⟨(some q,nx2),rfl,Et rfl rfl Bf Pf ⟨Rf,Rf,Rf,Rf,Rf,Rf,Rf,Rf,trivial⟩⟩
    ·rintro ⟨oq,nx3⟩ hoq
     dsimp only at hoq
     rw [← hoq] at hL
     cases oq with
     | none=>
       dsimp only at hL
       refine stp ?_
       exact back (i+1,L,oi,nx3) ⟨hi,hL,h2,by dsimp only;omega⟩ Dm (Jk _ _ rfl rfl (.cons _ Sf) Sf trivial Pf ⟨Rf,Rf,Rf,Rf,Rf,Lw,trivial⟩)
     | some q=>
       dsimp only at hL
       have hqc:=(Jlz hoq.symm).1
       have hcq:=Jo5 q.conds Om
       refine stp ?_
       refine JZ 9 (Juk nx1 (some q)) (fun i=> match i with | 8=> true | _=> false) (fun i=> match i with | 3=> true | _=> false) [0,1,2,3,4,5,6,7,8] (by kernel_rfl) (by kernel_rfl) (HB.refl _) ?_
       refine stp ?_
       refine ⟨_,Jao rfl rfl rfl hcq ⟨Rf,trivial⟩ (JgR _), ?_⟩
       refine stp ?_
       refine ⟨_,Jbe (e:=118) (c:=2) (pm:= []) (n:=L.length) (oi:=nmd oi) (sz:=2) (f:=JcR L) (HB.refl _) rfl rfl rfl (.inr ⟨_,rfl⟩) (by kernel_rfl) (by kernel_rfl) (by kernel_rfl) (.inr rfl) (by kernel_rfl) (List.append_nil _).symm (Jy rfl) (by rw [JkV];omega) Om,fun r h' hr=> ?_⟩
       obtain ⟨rfl,rfl⟩:=hr
       refine stp ?_
       intro c e;cases c
       ·have hne:¬q.conds.length=0:=fun h=> by
         have:=of_decide_eq_false (p:=(q.conds.length:Int)=0) e.symm
         omega
        rw [if_neg hne] at hL
        refine stp ?_
        exact back (i+1,L++ [q],some nx3,nx3+1) ⟨hi,by dsimp only;rw [List.append_assoc];exact hL,(fun h=> by cases h),by dsimp only;rw [List.length_append,List.length_singleton];omega⟩ Dm (Jk (bx:= []) (pm:= [((0,nx3),(L++ [q]).length * 2)]) _ _ rfl rfl (.cons _ Sf) Sf trivial ⟨rfl,by rw [List.length_append];rfl,trivial⟩ ⟨Rf,Rf,Jed (e:=JcQ) rfl rfl,Rf,Rf,Lw,trivial⟩)
       ·have he:q.conds.length=0:=by
         have:=of_decide_eq_true (p:=(q.conds.length:Int)=0) e.symm
         omega
        rw [if_pos he] at hL
        refine stp ?_
        exact ⟨(L++ [q],some nx3,nx3+1),⟨hL,(fun h=> by cases h),by dsimp only;rw [List.length_append,List.length_singleton];omega⟩,Jk (bx:= []) (pm:= [((0,nx3),(L++ [q]).length * 2)]) _ _ rfl rfl (.cons _ Sf) Sf trivial ⟨rfl,by rw [List.length_append];rfl,trivial⟩ ⟨Rf,Rf,Jed (e:=JcQ) rfl rfl,trivial⟩⟩
 ·rintro ⟨L,oi,nx1⟩ ⟨hL,h2,h3⟩
  dsimp only at hL h2 h3
  refine stp ?_
  refine Jo (fun y:Nat×Nat=> mk 62 [(2,u32 (d:Nat)),(7, .sl 2 y.1 (JcR L))] ⟨[], [],y.2,0⟩)
   (fun y=> y.1≤L.length∧JgM d L=JgM d (L.take y.1)) (fun y=> y.1) ?_ ?_
  ·exact ⟨(L.length,nx1),⟨Nat.le_refl _,by rw [List.take_length]⟩,Jk (pm:= []) (bx:= []) _ [] rfl rfl Sf (List.nil_sublist _) trivial trivial ⟨Rf,AVle.os_sl,trivial⟩⟩
  ·rintro ⟨m,nx2⟩ ⟨hm,hcut⟩
   dsimp only at hm hcut
   refine stp ?_
   intro c g;cases c
   ·have g:=Jm g
    try dsimp only at g
    have hm0:m=0:=by omega
    subst hm0
    have hS:Jau a l d= []:=by unfold Jau;rw [← hL,hcut];rfl
    rw [hS]
    refine stp ?_
    exact Jh rfl trivial (AVle.sl_fun fun k hk=> absurd hk (Nat.not_lt_zero k))
   ·have g:=Jn g
    try dsimp only at g
    have hm0:0 < m:=by omega
    have hm1:IntKind.i64.wrap ((m:Int) - 1)=((m - 1:Nat):Int):=by rw [Jac Om Om];omega
    have htk:L.take m=L.take (m - 1)++ [L.getD (m - 1) Jw]:=by
     obtain ⟨k,rfl⟩:∃k,m=k+1:=⟨m - 1,by omega⟩
     exact JaZ Jw Om
    refine stp ?_
    refine ⟨⟨Jbs (i:=m - 1) hm1,JbJ (i:=m - 1) hm1 Om⟩,Jj (b:= .rp (JcQ (L.getD (m - 1) Jw)).cells) (congrArg (fun z:Int=> AV.rp (JcR L z.toNat).cells) hm1) ?_⟩
    refine stp ?_
    intro c e;cases c
    ·have e:¬(L.getD (m - 1) Jw).code=d:=fun h=> by
      have:=of_decide_eq_false (p:=((L.getD (m - 1) Jw).code:Int)=d) e.symm
      omega
     rw [htk,JgA,if_neg e,← htk] at hcut
     have hS:Jau a l d=L.take m:=by unfold Jau;rw [← hL,hcut]
     rw [hS]
     refine stp ?_
     exact Jh rfl trivial (JvI hm)
    ·have e:(L.getD (m - 1) Jw).code=d:=by
      have:=of_decide_eq_true (p:=((L.getD (m - 1) Jw).code:Int)=d) e.symm
      omega
     rw [htk,JgA,if_pos e] at hcut
     refine stp ?_
     refine ⟨⟨Jbs (i:=m - 1) hm1,by rw [hm1];dsimp only;omega⟩,Jj (b:= .sl 2 (m - 1) (JcR L)) (congrArg (fun z:Int=> AV.sl 2 z.toNat (JcR L)) hm1) ?_⟩
     refine stp ?_
     exact back (m - 1,nx2) ⟨by dsimp only;omega,hcut⟩ Dm (Et rfl rfl trivial trivial ⟨Rf,Rf,trivial⟩)
end Go.Proofs.W

namespace Go.Proofs
open Go.Shelf Go.RowKit Go.Lib Go.Sort
shelf_lay_g SlLaysF0.n6 Slsf 6 at Tryz 51 as Tryz.sortEnt
shelf_lay_g SlLaysF0.n6 Slsf 6 at Tryz 54 as Tryz.sortSub
namespace W
theorem Jw4 (x:Nat) (w:World):Calls Tryz.prog 121 #[.int .u32 x] w fun e w'=> e= .returned (.bool false)∧w'=w:=by
 go_enter Tryz.func121,Tryz.ntmps121
 go_wp2
 go_ret
 exact ⟨by simp,rfl⟩
set_option maxHeartbeats 1000000 in
theorem JmM (x y:Nat) (w:World):Calls Tryz.prog 53 #[.int .u32 x, .int .u32 y] w fun e w'=> e= .returned (.int .i64 (Lib.compareInt x y))∧w'=w:=by
 go_enter Tryz.func53,Tryz.ntmps53
 go_wp2_with (go_at_call 121;refine (Jw4 _ _).mono ?_;rintro e w' ⟨rfl,hw⟩;rw [hw])
 all_goals (go_ret;refine ⟨?_,rfl⟩;unfold Lib.compareInt;(repeat' split) <;> first | rfl | (exfalso;omega))
set_option maxHeartbeats 1000000 in
theorem JxW (k1 k2:Nat) (v1 v2:Value) (W:World):Calls Tryz.prog 52 #[.agg #[.int .u32 k1,v1], .agg #[.int .u32 k2,v2]] W fun e w'=> e= .returned (.int .i64 (Lib.compareInt k1 k2))∧∃q os',w'=grow (W.drewN q) os':=by
 have hcon:=fun W'=> JmM k1 k2 W'
 generalize Lib.compareInt k1 k2=r at hcon⊢
 go_enter Tryz.func52,Tryz.ntmps52
 go_wp2_with (go_at_call 53;refine (hcon _).mono ?_;rintro e w' ⟨rfl,rfl⟩)
 go_ret
 exact ⟨rfl,0,_,by rw [alloc_eq_grow,alloc_eq_grow,grow_grow];rfl⟩
set_option maxHeartbeats 1000000 in
theorem JxX (k1 k2:Nat) (v1 v2:Value) (W:World):Calls Tryz.prog 55 #[.agg #[.int .u32 k1,v1], .agg #[.int .u32 k2,v2]] W fun e w'=> e= .returned (.int .i64 (Lib.compareInt k1 k2))∧∃q os',w'=grow (W.drewN q) os':=by
 have hcon:=fun W'=> JmM k1 k2 W'
 generalize Lib.compareInt k1 k2=r at hcon⊢
 go_enter Tryz.func55,Tryz.ntmps55
 go_wp2_with (go_at_call 53;refine (hcon _).mono ?_;rintro e w' ⟨rfl,rfl⟩)
 go_ret
 exact ⟨rfl,0,_,by rw [alloc_eq_grow,alloc_eq_grow,grow_grow];rfl⟩
open Go.Vl
theorem JdC {D:List (Nat×AV)} {tl:List AV} {nm s cap nx nn:Nat} (hone:∀x∈D,Jcc x.2=true) (hl:D.length < 4611686018427387904):
 ECall Tryz.prog 51 [.hs (nm,s) 0 D.length cap, .fn (.func 52) [] []] ⟨[((nm,s), .c (JA D++tl))], [],nx,nn⟩
  fun r h'=> r= .tup []∧∃cs',(∃D',D'.Perm D∧D'.Pairwise (fun a b=> a.1≤b.1)∧cs'=JA D')∧h'=⟨[((nm,s), .c (cs'++tl))], [],nx,nn⟩:=by
 have eg:∀args w,(callFunc 52 args).run Tryz.prog w= .ok (.enter 52 args) w:=enters_of Tryz.func52 (by kernel_rfl) rfl
 refine Jja ⟨_,Tryz.func51,rfl,rfl⟩ hone fun d w blk hd hH hb=> ?_
 exact AnyQ.slices_SortFunc Tryz.sortEnt 2 Tryz.isAgg78 Tryz.sizeOf78 KX.enc (fun _=> rfl) KX.one KX.cmp KX.swo 52 #[] blk 0 cap d w eg (fun _ _ _ _ x y=> JxW _ _ _ _ _) hH hb Om
theorem Jio {D:List (Nat×AV)} {tl:List AV} {nm s cap nx nn:Nat} (hone:∀x∈D,Jcc x.2=true) (hl:D.length < 4611686018427387904):
 ECall Tryz.prog 54 [.hs (nm,s) 0 D.length cap, .fn (.func 55) [] []] ⟨[((nm,s), .c (JA D++tl))], [],nx,nn⟩
  fun r h'=> r= .tup []∧∃cs',(∃D',D'.Perm D∧D'.Pairwise (fun a b=> a.1≤b.1)∧cs'=JA D')∧h'=⟨[((nm,s), .c (cs'++tl))], [],nx,nn⟩:=by
 have eg:∀args w,(callFunc 55 args).run Tryz.prog w= .ok (.enter 55 args) w:=enters_of Tryz.func55 (by kernel_rfl) rfl
 refine Jja ⟨_,Tryz.func54,rfl,rfl⟩ hone fun d w blk hd hH hb=> ?_
 exact AnyQ.slices_SortFunc Tryz.sortSub 2 Tryz.isAgg120 Tryz.sizeOf120 KX.enc (fun _=> rfl) KX.one KX.cmp KX.swo 55 #[] blk 0 cap d w eg (fun _ _ _ _ x y=> JxX _ _ _ _ _) hH hb Om
set_option maxRecDepth 100000
theorem JxY (n:Nat):Tells Tryz.prog 200 [JeY 2,int 0,int 0,fn0 n] (.tup []):=by
 refine Jf Tryz.func200 rfl rfl fun nx=> ?_
 refine stp ?_
 refine JeX ?_
 refine stp ?_
 exact Jd rfl Rf
theorem JxZ (n:Nat):Tells Tryz.prog 119 [JeY 2,int 0,int 0,int 0,fn0 n] (.tup []):=by
 refine Jf Tryz.func119 rfl rfl fun nx=> ?_
 refine stp ?_
 refine JeX ?_
 refine stp ?_
 refine Je rfl rfl (JxY n) ⟨Rf,Rf,Rf,Rf,trivial⟩ fun nx=> ?_
 refine stp ?_
 exact Jd rfl Rf
theorem Jd2 (n:Nat):Tells Tryz.prog 51 [JeY 2,fn0 n] (.tup []):=by
 refine Jf Tryz.func51 rfl rfl fun nx=> ?_
 refine stp ?_
 refine Je rfl rfl JrO ⟨Rf,trivial⟩ fun nx=> ?_
 refine stp ?_
 refine Je rfl rfl (JxZ n) ⟨Rf,Rf,Rf,Rf,Rf,trivial⟩ fun nx=> ?_
 refine stp ?_
 exact Jd rfl Rf
theorem Jx0 (n:Nat):Tells Tryz.prog 210 [JeY 2,int 0,int 0,fn0 n] (.tup []):=by
 refine Jf Tryz.func210 rfl rfl fun nx=> ?_
 refine stp ?_
 refine JeX ?_
 refine stp ?_
 exact Jd rfl Rf
theorem Jx1 (n:Nat):Tells Tryz.prog 122 [JeY 2,int 0,int 0,int 0,fn0 n] (.tup []):=by
 refine Jf Tryz.func122 rfl rfl fun nx=> ?_
 refine stp ?_
 refine JeX ?_
 refine stp ?_
 refine Je rfl rfl (Jx0 n) ⟨Rf,Rf,Rf,Rf,trivial⟩ fun nx=> ?_
 refine stp ?_
 exact Jd rfl Rf
theorem Jjq (n:Nat):Tells Tryz.prog 54 [JeY 2,fn0 n] (.tup []):=by
 refine Jf Tryz.func54 rfl rfl fun nx=> ?_
 refine stp ?_
 refine Je rfl rfl JrO ⟨Rf,trivial⟩ fun nx=> ?_
 refine stp ?_
 refine Je rfl rfl (Jx1 n) ⟨Rf,Rf,Rf,Rf,Rf,trivial⟩ fun nx=> ?_
 refine stp ?_
 exact Jd rfl Rf
end W
end Go.Proofs

namespace Go.Proofs.W
open Go.Vl
set_option maxRecDepth 100000
theorem Jb0 (a:Nat) (z:Int) (h0:0≤z) (h:z < 1073741824):Tells Tryz.prog 49 [int a,u32 z] (u32 (wholeN a z:Nat)):=by
 obtain ⟨n,rfl⟩:∃n:Nat,z=n:=⟨z.toNat,by omega⟩
 have hb:Jcb .or .u32 (n:Int) 1073741824=((n||| 1073741824:Nat):Int):=by
  have hlt:n||| 1073741824 < 2 ^ 32:=Nat.or_lt_two_pow Om Dc
  exact Jp9 (k:= .u32) (a:=n) (b:=1073741824) (by show n < 2 ^ 32;omega) Dc (by simp [IntKind.wrap,IntKind.signed,IntKind.bits] at hlt⊢;omega)
 refine Jf Tryz.func49 rfl rfl fun nx=> ?_
 unfold wholeN
 refine stp ?_
 intro c e;cases c
 ·have e1:¬a=1:=fun h=> by subst h;cases e
  rw [if_neg e1]
  refine stp ?_
  exact Jd rfl Rf
 ·have e1:a=1:=by
   have:=of_decide_eq_true (p:=(a:Int)=1) e.symm
   omega
  rw [if_pos e1]
  refine stp ?_
  exact Jd rfl (AVle.of_eq (congrArg u32 hb))
def ptB (nx0:Nat) (nm:ByteArray) (a0 a1 a2 a3 a4 mux sub:Int):Vl.Id×Own:=((20,nx0), .c [Jg nm,int a0,int a1,int a2,int a3,int a4,int mux,int sub])
abbrev J0:=List (Nat×AV)×Option (Nat×Nat×List AV)
def Ja (nm:Nat):J0→AV
 | (_,none)=> .os 0 0 (fun _=> .any) none
 | (R,some (s,cap,_))=> .hs (nm,s) 0 R.length cap
def JaS (nm:Nat):J0→List (Vl.Id×Own)
 | (_,none)=> []
 | (R,some (s,_,tl))=> [((nm,s), .c (JA R++tl))]
def JbN:J0→Prop
 | (R,none)=> R= []
 | (R,some (_,cap,tl))=> R.length≤cap∧cap * 2≤R.length * 2+tl.length
def JG (st:Nat→J0):List (Vl.Id×Own):=(List.range 7).flatMap fun j=> JaS (10+j) (st j)
def Jp (k:Nat) (st:Nat→J0):List (Vl.Id×Own):=((List.range 7).filter (·≠k)).flatMap fun j=> JaS (10+j) (st j)
def Js (d:Nat) (x:Bool) (st:Nat→J0):List AV:= [u32 (d:Nat),Jb x,Ja 10 (st 0),Ja 11 (st 1),Ja 12 (st 2),Ja 13 (st 3),Ja 14 (st 4),Ja 15 (st 5),Ja 16 (st 6)]
def JC (st:Nat→J0) (k:Nat) (r:J0):Nat→J0:=fun j=> if j=k then r else st j
theorem Jdc {k:Nat} (hk:k < 7) (st:Nat→J0):(JG st).Perm (JaS (10+k) (st k)++Jp k st):=by
 unfold JG Jp
 have h:(List.range 7).Perm (k::(List.range 7).filter (·≠k)):=by
  have:k=0∨k=1∨k=2∨k=3∨k=4∨k=5∨k=6:=by omega
  rcases this with rfl | rfl | rfl | rfl | rfl | rfl | rfl <;> decide
 exact (h.flatMap_right _).trans (.of_eq (List.flatMap_cons ..))
theorem Jw5 {k:Nat} (st:Nat→J0) (r:J0):Jp k (JC st k r)=Jp k st:=by
 unfold Jp
 rw [List.flatMap_def,List.flatMap_def]
 refine congrArg List.flatten (List.map_congr_left fun j hj=> ?_)
 have:j≠k:=by simpa using (List.mem_filter.1 hj).2
 unfold JC
 rw [if_neg this]
theorem JjP {k:Nat} (hk:k < 7) (st:Nat→J0) (r:J0):(JG (JC st k r)).Perm (JaS (10+k) r++Jp k st):=by
 have h:=Jdc hk (JC st k r)
 rw [Jw5] at h
 unfold JC at h
 rwa [if_pos rfl] at h
theorem BxLe.of_eq {a b:List (Vl.Id×Own)} (h:a=b):BxLe a b:=h ▸ Bf
theorem Jb1 {k:Nat} {st:Nat→J0} {r:J0} (h:∀j,j < 7→JbN (st j)) (hr:JbN r):∀j,j < 7→JbN (JC st k r j):=fun j hj=> by
 unfold JC
 split
 ·exact hr
 ·exact h j hj
theorem Jjr (R:List (Nat×AV)) (e:Nat×AV):JA (R++ [e])=JA R++ [.v (.int .u32 e.1),e.2]:=by
 unfold JA;rw [List.flatMap_append];rfl
def JdD (e:PEnt):Nat×AV:=(e.num,Jx e.rules)
def Jar (s:PSub):Nat×AV:=(s.num,u32 (s.code:Nat))
theorem JaJ {a d:Nat} {x:Bool} {row:TRow} {rs:List PRul} (h:row.num a < 0∨(a=1∧x=false)∨Jau a rs d= []):JaI a d x row rs= []:=if_pos h
theorem Jcm {a d:Nat} {x:Bool} {row:TRow} {rs:List PRul} (h1:¬row.num a < 0) (h2:¬(a=1∧x=false)) (h3:Jau a rs d≠ []):JaI a d x row rs= [⟨wholeN a (row.num a),Jau a rs d⟩]:=if_neg fun h=> h.elim h1 fun h=> h.elim h2 h3
theorem JaP {k d:Nat} {x:Bool} {row:TRow} {rs:List PRul} {st st1:Nat→J0} (h:∀j,j < k→(st1 j).1=(st j).1++(JaI j d x row rs).map JdD) (hk:st1 k=st k) (he:JaI k d x row rs= []):∀j,j < k+1→(st1 j).1=(st j).1++(JaI j d x row rs).map JdD:=fun j hj=> by
 rcases Nat.lt_or_ge j k with h1 | h1
 ·exact h j h1
 ·obtain rfl:j=k:=by omega
  rw [he,hk];exact (List.append_nil _).symm
theorem JcE {z:Int} (h0:0≤z) (h:z < 1073741824):IntKind.u32.wrap z=z:=by
 simp [IntKind.wrap,IntKind.signed,IntKind.bits];omega
theorem Jd3:Jba Tryz.prog 78=true:=by kernel_rfl
theorem gc_ent:Tryz.prog.cellsOf 78=2:=by kernel_rfl
theorem Jd4:Tryz.prog.bytesOf 78=32:=by kernel_rfl
theorem JkW:Jba Tryz.prog 120=true:=by kernel_rfl
theorem gc_sub:Tryz.prog.cellsOf 120=2:=by kernel_rfl
theorem JkX:Tryz.prog.bytesOf 120=8:=by kernel_rfl
theorem JdG {f':Nat→AV} {e:Nat×AV} {m:Nat} {T:TypeId} (hT:Tryz.prog.cellsOf T=2) (h:JQ 1 f'= [.v (.int .u32 e.1),e.2]):OwnLe (.c (JQ 1 f'++List.replicate (m * Tryz.prog.cellsOf T) .any)) (.c (JA [e]++List.replicate (m * 2) .any)):=by
 rw [hT,h];exact OwnLe.refl _
theorem Jgm {f':Nat→AV} {e:Nat×AV} {R:List (Nat×AV)} {tl:List AV} {T:TypeId} (hT:Tryz.prog.cellsOf T=2) (h:JQ 1 f'= [.v (.int .u32 e.1),e.2]):OwnLe (.c (Jat (JA R++tl) (R.length * Tryz.prog.cellsOf T) (JQ 1 f'))) (.c (JA (R++ [e])++tl.drop 2)):=by
 have e1:Jat (JA R++tl) (R.length * Tryz.prog.cellsOf T) (JQ 1 f')=JA (R++ [e])++tl.drop 2:=by
  rw [hT,h,show R.length * 2=(JA R).length+0 by rw [JbA];rfl,JfE,Jjr,JaQ]
  simp
 rw [e1];exact OwnLe.refl _
theorem Jee {f':Nat→AV} {e:Nat×AV} {R:List (Nat×AV)} {tl:List AV} {m:Nat} {T:TypeId} (hT:Tryz.prog.cellsOf T=2) (h:JQ 1 f'= [.v (.int .u32 e.1),e.2]):OwnLe (.c ((JA R++tl).take (R.length * Tryz.prog.cellsOf T)++JQ 1 f'++List.replicate (m * Tryz.prog.cellsOf T) .any)) (.c (JA (R++ [e])++List.replicate (m * 2) .any)):=by
 have e1:(JA R++tl).take (R.length * Tryz.prog.cellsOf T)=JA R:=by
  rw [hT,← JbA,List.take_left]
 rw [e1,hT,h,Jjr];exact OwnLe.refl _
theorem Jbh {a b s:Nat} {R:List (Nat×AV)} {e:Nat×AV} {cap:Nat}:AVle (.hs (a,s) 0 (R.length+1) cap) (.hs (b,s) 0 (R++ [e]).length cap):=by
 rw [List.length_append];exact AVle.hs_nm rfl
theorem JbU {k:Nat} (hk:k < 7) {n nx nn:Nat} {L:List (Nat×AV)} {F:List (Vl.Id×Own)} {st:Nat→J0} {r:J0} {df:Option (List DA)}:ELe (mk n L ⟨F++(JaS (10+k) r++Jp k st), [],nx,nn⟩ df) (mk n L ⟨F++JG (JC st k r), [],nx,nn⟩ df):=
 Jf2 (E:=mk n L ⟨F++(JaS (10+k) r++Jp k st), [],nx,nn⟩ df) (h':=⟨F++JG (JC st k r), [],nx,nn⟩) ⟨(List.Perm.append_left _ (JjP hk st r)).map _, .refl _,rfl⟩
theorem Jbm {k d:Nat} {x:Bool} {row:TRow} {rs:List PRul} {st st1:Nat→J0} {R:List (Nat×AV)} {md:Option (Nat×Nat×List AV)} {z:Nat} {W:List PRul} {md':Option (Nat×Nat×List AV)} (h:∀j,j < k→(st1 j).1=(st j).1++(JaI j d x row rs).map JdD) (hk:st1 k=st k) (hR:st1 k=(R,md)) (he:JaI k d x row rs= [⟨z,W⟩]):∀j,j < k+1→(JC st1 k (R++ [(z,Jx W)],md') j).1=(st j).1++(JaI j d x row rs).map JdD:=fun j hj=> by
 unfold JC
 rcases Nat.lt_or_ge j k with h1 | h1
 ·rw [if_neg Om];exact h j h1
 ·obtain rfl:j=k:=by omega
  rw [if_pos rfl,he,← hk,hR];rfl
theorem Jbn {k:Nat} {st st1:Nat→J0} {r:J0} (h:∀j,k≤j→st1 j=st j):∀j,k+1≤j→JC st1 k r j=st j:=fun j hj=> by
 unfold JC
 rw [if_neg Om];exact h j Om
theorem bx4 {i1 i2 i3 i4 i5:Vl.Id} {o1 o2 o2' o3 o4 o4':Own} {R:List (Vl.Id×Own)} (h4:i4.2=i5.2) (h2:OwnLe o2 o2') (h:OwnLe o4 o4'):BxLe ([(i1,o1),(i2,o2),(i3,o3)]++((i4,o4)::R)) ([(i1,o1),(i2,o2'),(i3,o3)]++([(i5,o4')]++R)):=
 show BxLe ((i1,o1)::(i2,o2)::(i3,o3)::(i4,o4)::R) ((i1,o1)::(i2,o2')::(i3,o3)::(i5,o4')::R) from ⟨rfl,OwnLe.refl _,rfl,h2,rfl,OwnLe.refl _,h4,h,Bf⟩
theorem JlA {d:Nat} {x:Bool} {st:Nat→J0} {r:J0} {av:AV} (h:AVle av (Ja 10 r)):OwnLe (.c [u32 (d:Nat),Jb x,av,Ja 11 (st 1),Ja 12 (st 2),Ja 13 (st 3),Ja 14 (st 4),Ja 15 (st 5),Ja 16 (st 6)]) (.c (Js d x (JC st 0 r))):=by
 rw [show Js d x (JC st 0 r)= [u32 (d:Nat),Jb x,Ja 10 r,Ja 11 (st 1),Ja 12 (st 2),Ja 13 (st 3),Ja 14 (st 4),Ja 15 (st 5),Ja 16 (st 6)] from rfl]
 exact ⟨Rf,Rf,h,Rf,Rf,Rf,Rf,Rf,Rf,trivial⟩
theorem JlB {d:Nat} {x:Bool} {st:Nat→J0} {r:J0} {av:AV} (h:AVle av (Ja 11 r)):OwnLe (.c [u32 (d:Nat),Jb x,Ja 10 (st 0),av,Ja 12 (st 2),Ja 13 (st 3),Ja 14 (st 4),Ja 15 (st 5),Ja 16 (st 6)]) (.c (Js d x (JC st 1 r))):=by
 rw [show Js d x (JC st 1 r)= [u32 (d:Nat),Jb x,Ja 10 (st 0),Ja 11 r,Ja 12 (st 2),Ja 13 (st 3),Ja 14 (st 4),Ja 15 (st 5),Ja 16 (st 6)] from rfl]
 exact ⟨Rf,Rf,Rf,h,Rf,Rf,Rf,Rf,Rf,trivial⟩
theorem JlC {d:Nat} {x:Bool} {st:Nat→J0} {r:J0} {av:AV} (h:AVle av (Ja 12 r)):OwnLe (.c [u32 (d:Nat),Jb x,Ja 10 (st 0),Ja 11 (st 1),av,Ja 13 (st 3),Ja 14 (st 4),Ja 15 (st 5),Ja 16 (st 6)]) (.c (Js d x (JC st 2 r))):=by
 rw [show Js d x (JC st 2 r)= [u32 (d:Nat),Jb x,Ja 10 (st 0),Ja 11 (st 1),Ja 12 r,Ja 13 (st 3),Ja 14 (st 4),Ja 15 (st 5),Ja 16 (st 6)] from rfl]
 exact ⟨Rf,Rf,Rf,Rf,h,Rf,Rf,Rf,Rf,trivial⟩
theorem JlD {d:Nat} {x:Bool} {st:Nat→J0} {r:J0} {av:AV} (h:AVle av (Ja 13 r)):OwnLe (.c [u32 (d:Nat),Jb x,Ja 10 (st 0),Ja 11 (st 1),Ja 12 (st 2),av,Ja 14 (st 4),Ja 15 (st 5),Ja 16 (st 6)]) (.c (Js d x (JC st 3 r))):=by
 rw [show Js d x (JC st 3 r)= [u32 (d:Nat),Jb x,Ja 10 (st 0),Ja 11 (st 1),Ja 12 (st 2),Ja 13 r,Ja 14 (st 4),Ja 15 (st 5),Ja 16 (st 6)] from rfl]
 exact ⟨Rf,Rf,Rf,Rf,Rf,h,Rf,Rf,Rf,trivial⟩
theorem JlE {d:Nat} {x:Bool} {st:Nat→J0} {r:J0} {av:AV} (h:AVle av (Ja 14 r)):OwnLe (.c [u32 (d:Nat),Jb x,Ja 10 (st 0),Ja 11 (st 1),Ja 12 (st 2),Ja 13 (st 3),av,Ja 15 (st 5),Ja 16 (st 6)]) (.c (Js d x (JC st 4 r))):=by
 rw [show Js d x (JC st 4 r)= [u32 (d:Nat),Jb x,Ja 10 (st 0),Ja 11 (st 1),Ja 12 (st 2),Ja 13 (st 3),Ja 14 r,Ja 15 (st 5),Ja 16 (st 6)] from rfl]
 exact ⟨Rf,Rf,Rf,Rf,Rf,Rf,h,Rf,Rf,trivial⟩
theorem JlF {d:Nat} {x:Bool} {st:Nat→J0} {r:J0} {av:AV} (h:AVle av (Ja 15 r)):OwnLe (.c [u32 (d:Nat),Jb x,Ja 10 (st 0),Ja 11 (st 1),Ja 12 (st 2),Ja 13 (st 3),Ja 14 (st 4),av,Ja 16 (st 6)]) (.c (Js d x (JC st 5 r))):=by
 rw [show Js d x (JC st 5 r)= [u32 (d:Nat),Jb x,Ja 10 (st 0),Ja 11 (st 1),Ja 12 (st 2),Ja 13 (st 3),Ja 14 (st 4),Ja 15 r,Ja 16 (st 6)] from rfl]
 exact ⟨Rf,Rf,Rf,Rf,Rf,Rf,Rf,h,Rf,trivial⟩
theorem JlG {d:Nat} {x:Bool} {st:Nat→J0} {r:J0} {av:AV} (h:AVle av (Ja 16 r)):OwnLe (.c [u32 (d:Nat),Jb x,Ja 10 (st 0),Ja 11 (st 1),Ja 12 (st 2),Ja 13 (st 3),Ja 14 (st 4),Ja 15 (st 5),av]) (.c (Js d x (JC st 6 r))):=by
 rw [show Js d x (JC st 6 r)= [u32 (d:Nat),Jb x,Ja 10 (st 0),Ja 11 (st 1),Ja 12 (st 2),Ja 13 (st 3),Ja 14 (st 4),Ja 15 (st 5),Ja 16 r] from rfl]
 exact ⟨Rf,Rf,Rf,Rf,Rf,Rf,Rf,Rf,h,trivial⟩
def Jsl (d:Nat) (x:Bool) (row:TRow) (rs:List PRul) (st st':Nat→J0):Prop:=(∀j,j < 7→JbN (st' j))∧(∀k,k < 5→(st' k).1=(st k).1++(JaI k d x row rs).map JdD)∧∀m,m < 2→(st' (5+m)).1=(st (5+m)).1++(JbM m row rs).map Jar
theorem JfV {m d:Nat} {x:Bool} {row:TRow} {rs:List PRul} {st st1:Nat→J0} {R:List (Nat×AV)} {md md':Option (Nat×Nat×List AV)} {q:PSub} (hm:m < 2) (hok1:∀j,j < 7→JbN (st1 j)) (hdone:∀k,k < 5→(st1 k).1=(st k).1++(JaI k d x row rs).map JdD)
 (hrest:∀j,j < 2→st1 (5+j)=st (5+j)) (hR:st1 (5+m)=(R,md)) (hrow:JbN (R++ [Jar q],md')) (hs:JbM m row rs= [q]) (ho:∀j,j < 2→j≠m→JbM j row rs= []):Jsl d x row rs st (JC st1 (5+m) (R++ [Jar q],md')):=by
 refine ⟨Jb1 hok1 hrow,fun k hk=> ?_,fun j hj=> ?_⟩
 ·unfold JC;rw [if_neg Om];exact hdone k hk
 ·unfold JC
  by_cases h:j=m
  ·subst h
   rw [if_pos rfl,hs,← hrest j hj,hR];rfl
  ·rw [if_neg Om,ho j hj h,hrest j hj];exact (List.append_nil _).symm
theorem Jep {h:Heap} {bx:List (Vl.Id×Own)} {nx nn:Nat} (bx'' bx':List (Vl.Id×Own)) (hx:h.nx=nx) (h0:bx''.Perm h.bx) (hb:bx'.Sublist bx'') (hp:h.pm= []) (eb:BxLe bx' bx):HLe h ⟨bx, [],nx,nn⟩:=
 HLe.trans (Jjx (h':=⟨bx'',h.pm,h.nx,h.nn⟩) ⟨h0.map _, .refl _,rfl⟩) (JaR bx' [] hx hb (List.nil_sublist _) eb trivial)
theorem JfW {k:Nat} (hk:k < 7) {nx nn:Nat} {F:List (Vl.Id×Own)} {st:Nat→J0} {r:J0}:HLe ⟨F++(JaS (10+k) r++Jp k st), [],nx,nn⟩ ⟨F++JG (JC st k r), [],nx,nn⟩:=
 Jjx ⟨(List.Perm.append_left _ (JjP hk st r)).map _, .refl _,rfl⟩
theorem bx3 {i2 i3 i4 i5:Vl.Id} {o2 o2' o3 o4 o4':Own} {R:List (Vl.Id×Own)} (h4:i4.2=i5.2) (h2:OwnLe o2 o2') (h:OwnLe o4 o4'):BxLe ([(i2,o2),(i3,o3)]++((i4,o4)::R)) ([(i2,o2'),(i3,o3)]++([(i5,o4')]++R)):=
 show BxLe ((i2,o2)::(i3,o3)::(i4,o4)::R) ((i2,o2')::(i3,o3)::(i5,o4')::R) from ⟨rfl,h2,rfl,OwnLe.refl _,h4,h,Bf⟩
set_option maxHeartbeats 8000000 in
theorem Jsm (dk dn:Int) (x:Bool) (ps:List Rul) (d:Nat) (row:TRow) (rs:List PRul) (s0 s1 nx0:Nat) (st:Nat→J0) (hok:∀j,j < 7→JbN (st j)) (hlen:∀j,j < 7→(st j).1.length≤1000000)
 (hn:∀k,row.num k < 1073741824) (hm:row.mux=0∨row.mux=1∨row.mux=2) (hs:0≤row.sub∧row.sub≤255) (hr:rs≠ []) (hl:rs.length≤1000000) (hc:∀r∈rs,r.conds.length≤1000000∧∀c∈r.conds,c.ok):
 ECall Tryz.prog 47 [Jq row,Jx rs, .bp (0,s0) 0, .bp (1,s1) 0] ⟨[((1,s1), .c (Js d x st)),((0,s0), .c [int dk,int dn,Jb x,Ji ps])]++JG st, [],nx0,20⟩
  fun r h'=> r= .tup []∧∃st' nx' nn',Jsl d x row rs st st'∧h'=⟨[((1,s1), .c (Js d x st')),((0,s0), .c [int dk,int dn,Jb x,Ji ps])]++JG st', [],nx',nn'⟩:=by
 obtain ⟨nm,a0,a1,a2,a3,a4,mux,sub⟩:=row
 refine ECall.wk (J2 Tryz.func47 rfl rfl ?_)
 refine stp ?_
 refine Jan (fun y:(Nat→J0)×Nat=> mk 75 [(1,Jx rs),(2, .bp (0,s0) 0),(3, .bp (1,s1) 0),(4, .bp (20,nx0) 0)] ⟨[ptB nx0 nm a0 a1 a2 a3 a4 mux sub,((1,s1), .c (Js d x y.1)),((0,s0), .c [int dk,int dn,Jb x,Ji ps])]++JG y.1, [],y.2,21⟩) (fun y=> (∀j,j < 7→JbN (y.1 j))∧(∀k,k < 5→(y.1 k).1=(st k).1++(JaI k d x ⟨nm,a0,a1,a2,a3,a4,mux,sub⟩ rs).map JdD)∧∀m,m < 2→y.1 (5+m)=st (5+m)) ?_ ?_
 ·refine Jo (fun y:Nat×(Nat→J0)×Nat=> mk 75 [(1,Jx rs),(2, .bp (0,s0) 0),(3, .bp (1,s1) 0),(4, .bp (20,nx0) 0),(9,int y.1)] ⟨[ptB nx0 nm a0 a1 a2 a3 a4 mux sub,((1,s1), .c (Js d x y.2.1)),((0,s0), .c [int dk,int dn,Jb x,Ji ps])]++JG y.2.1, [],y.2.2,21⟩) (fun y=> y.1≤5∧(∀j,j < 7→JbN (y.2.1 j))∧(∀k,k < y.1→(y.2.1 k).1=(st k).1++(JaI k d x ⟨nm,a0,a1,a2,a3,a4,mux,sub⟩ rs).map JdD)∧∀j,y.1≤j→y.2.1 j=st j) (fun y=> 5 - y.1) ?_ ?_
  ·exact ⟨(0,st,nx0+1),⟨Nat.zero_le _,hok,fun k h=> absurd h (Nat.not_lt_zero _),fun j _=> rfl⟩,Et rfl rfl Bf trivial ⟨Rf,Rf,Rf,Rf,Rf,trivial⟩⟩
  ·rintro ⟨a,st1,nx2⟩ ⟨h1,hok1,hdone,hrest⟩
   dsimp only at h1 hok1 hdone hrest
   by_cases h5:a=5
   ·subst h5
    refine stp ?_
    exact ⟨(st1,nx2),⟨hok1,hdone,fun m hm=> hrest _ Om⟩,Et rfl rfl Bf trivial ⟨Rf,Rf,Rf,Rf,trivial⟩⟩
   ·rcases (by omega:a=0∨a=1∨a=2∨a=3∨a=4) with rfl | rfl | rfl | rfl | rfl
    ·have hP:=Jdc (k:=0) Dc st1
     have hrk:JbN (st1 0):=hok1 _ Dc
     have hrs:st1 0=st 0:=hrest _ (Nat.le_refl _)
     have hln:(st1 0).1.length≤1000000:=by rw [hrs];exact hlen _ Dc
     rcases hk:st1 0 with ⟨R,_ | ⟨s,cap,tl⟩⟩
     ·rw [hk] at hP hrk hln
      dsimp only at hln
      have eo:Js d x st1= [u32 (d:Nat),Jb x, .os 0 0 (fun _=> .any) none,Ja 11 (st1 1),Ja 12 (st1 2),Ja 13 (st1 3),Ja 14 (st1 4),Ja 15 (st1 5),Ja 16 (st1 6)]:=by simp only [Js,hk,Ja]
      refine AW.le (E':=mk 75 [(1,Jx rs),(2, .bp (0,s0) 0),(3, .bp (1,s1) 0),(4, .bp (20,nx0) 0),(9,int (0:Nat))] (⟨[ptB nx0 nm a0 a1 a2 a3 a4 mux sub,((1,s1), .c [u32 (d:Nat),Jb x, .os 0 0 (fun _=> .any) none,Ja 11 (st1 1),Ja 12 (st1 2),Ja 13 (st1 3),Ja 14 (st1 4),Ja 15 (st1 5),Ja 16 (st1 6)]),((0,s0), .c [int dk,int dn,Jb x,Ji ps])]++(Jp 0 st1), [],nx2,21⟩:Heap)) (Jr ([ptB nx0 nm a0 a1 a2 a3 a4 mux sub,((1,s1), .c (Js d x st1)),((0,s0), .c [int dk,int dn,Jb x,Ji ps])]++(Jp 0 st1)) ([ptB nx0 nm a0 a1 a2 a3 a4 mux sub,((1,s1), .c (Js d x st1)),((0,s0), .c [int dk,int dn,Jb x,Ji ps])]++(Jp 0 st1)) [] rfl rfl (List.Perm.append_left _ hP.symm) Sf Sf (BxLe.of_eq (by rw [eo])) trivial ⟨Rf,Rf,Rf,Rf,Rf,trivial⟩) ?_
      refine stp ?_
      intro c t1;cases c
      ·have t1:=Jm t1
       refine stp ?_
       refine Je rfl rfl (Jcl 0 rs d Dc hl hc) ⟨Rf,Rf,Rf,trivial⟩ fun nx3=> ?_
       refine stp ?_
       intro c t2;cases c
       ·have t2:=Jm t2
        refine stp ?_
        exact back (1,st1,nx3) ⟨by dsimp only;omega,hok1,JaP hdone hrs (JaJ (.inr (.inr (List.eq_nil_of_length_eq_zero Om)))),fun j hj=> hrest j (by dsimp only at hj;omega)⟩ Dm (Jr ([ptB nx0 nm a0 a1 a2 a3 a4 mux sub,((1,s1), .c [u32 (d:Nat),Jb x, .os 0 0 (fun _=> .any) none,Ja 11 (st1 1),Ja 12 (st1 2),Ja 13 (st1 3),Ja 14 (st1 4),Ja 15 (st1 5),Ja 16 (st1 6)]),((0,s0), .c [int dk,int dn,Jb x,Ji ps])]++JG st1) ([ptB nx0 nm a0 a1 a2 a3 a4 mux sub,((1,s1), .c [u32 (d:Nat),Jb x, .os 0 0 (fun _=> .any) none,Ja 11 (st1 1),Ja 12 (st1 2),Ja 13 (st1 3),Ja 14 (st1 4),Ja 15 (st1 5),Ja 16 (st1 6)]),((0,s0), .c [int dk,int dn,Jb x,Ji ps])]++JG st1) [] rfl rfl (List.Perm.append_left _ hP) Sf Sf (BxLe.of_eq (by rw [eo])) trivial ⟨Rf,Rf,Rf,Rf,Jl rfl,trivial⟩)
       ·have t2:=Jn t2
        have hwh:=Jb0 0 a0 Om (hn 0)
        have hen:JaI 0 d x ⟨nm,a0,a1,a2,a3,a4,mux,sub⟩ rs= [⟨wholeN 0 a0,Jau 0 rs d⟩]:=Jcm t1 (fun h=> by cases h.1) (fun h=> by rw [h] at t2;exact absurd t2 Dc)
        generalize Jau 0 rs d=W at t2 hen
        generalize wholeN 0 a0=z at hwh hen
        refine stp ?_
        refine JZ 14 [ptB nx0 nm a0 a1 a2 a3 a4 mux sub,((1,s1), .c [u32 (d:Nat),Jb x, .os 0 0 (fun _=> .any) none,Ja 11 (st1 1),Ja 12 (st1 2),Ja 13 (st1 3),Ja 14 (st1 4),Ja 15 (st1 5),Ja 16 (st1 6)]),((0,s0), .c [int dk,int dn,Jb x,Ji ps])] (fun i=> match i with | 12=> true | _=> false) (fun i=> match i with | 8=> true | _=> false) [0,1,2,3,4,5,6,7,8,9,10,11,13,12] (by kernel_rfl) (by kernel_rfl) (HB.cons rfl (HB.cons rfl (HB.one rfl))) ?_
        refine stp ?_
        refine ⟨_,Jao rfl rfl rfl hwh ⟨Rf,AVle.of_eq (congrArg u32 (JcE Om (hn 0))),trivial⟩ (NoId.v _), ?_⟩
        refine stp ?_
        refine ⟨_,Jco (e:=78) (szx:=2) (m:=1) rfl rfl rfl (.inr ⟨_,rfl⟩) Tryz.underlying35 Jd3 gc_ent.symm Dc (Jy rfl) (by rw [Jd4];omega) Om (fun _=> (HB.cons rfl (HB.cons rfl (HB.one rfl)))),fun r h' hr=> ?_⟩
        obtain ⟨ncap,hge,rfl,rfl⟩:=hr
        refine stp ?_
        exact back (1,JC st1 0 ([]++ [(z,Jx W)],some (nx3,ncap,List.replicate ((ncap - 1) * 2) .any)),nx3+1) ⟨by dsimp only;omega,Jb1 hok1 ⟨(by simpa using hge),by rw [List.length_replicate];show ncap * 2≤1 * 2+_;omega⟩,Jbm (R:= []) hdone hrs (by rw [hk,hrk]) hen,Jbn hrest⟩ Dm (ELe.trans (Jr (pm:= []) (bx:= [ptB nx0 nm a0 a1 a2 a3 a4 mux sub,((1,s1), .c (Js d x (JC st1 0 ([]++ [(z,Jx W)],some (nx3,ncap,List.replicate ((ncap - 1) * 2) .any))))),((0,s0), .c [int dk,int dn,Jb x,Ji ps])]++(JaS 10 ([]++ [(z,Jx W)],some (nx3,ncap,List.replicate ((ncap - 1) * 2) .any))++Jp 0 st1)) (L:= [(1,Jx rs),(2, .bp (0,s0) 0),(3, .bp (1,s1) 0),(4, .bp (20,nx0) 0),(9,int (1:Nat))]) ([ptB nx0 nm a0 a1 a2 a3 a4 mux sub,((1,s1),Own.c [u32 (d:Nat),Jb x, .hs (21,nx3) 0 1 ncap,Ja 11 (st1 1),Ja 12 (st1 2),Ja 13 (st1 3),Ja 14 (st1 4),Ja 15 (st1 5),Ja 16 (st1 6)]),((0,s0), .c [int dk,int dn,Jb x,Ji ps])]++(((21,nx3), .c _)::Jp 0 st1)) ([ptB nx0 nm a0 a1 a2 a3 a4 mux sub,((1,s1),Own.c [u32 (d:Nat),Jb x, .hs (21,nx3) 0 1 ncap,Ja 11 (st1 1),Ja 12 (st1 2),Ja 13 (st1 3),Ja 14 (st1 4),Ja 15 (st1 5),Ja 16 (st1 6)]),((0,s0), .c [int dk,int dn,Jb x,Ji ps])]++(((21,nx3), .c _)::Jp 0 st1)) [] rfl rfl List.perm_middle Sf Sf (bx4 rfl (JlA (Jbh (R:= []))) (JdG gc_ent rfl)) trivial ⟨Rf,Rf,Rf,Rf,Jl rfl,trivial⟩) (JbU (k:=0) Dc))
      ·have t1:=Jn t1
       refine stp ?_
       exact back (1,st1,nx2) ⟨by dsimp only;omega,hok1,JaP hdone hrs (JaJ (.inl t1)),fun j hj=> hrest j (by dsimp only at hj;omega)⟩ Dm (Jr ([ptB nx0 nm a0 a1 a2 a3 a4 mux sub,((1,s1), .c [u32 (d:Nat),Jb x, .os 0 0 (fun _=> .any) none,Ja 11 (st1 1),Ja 12 (st1 2),Ja 13 (st1 3),Ja 14 (st1 4),Ja 15 (st1 5),Ja 16 (st1 6)]),((0,s0), .c [int dk,int dn,Jb x,Ji ps])]++JG st1) ([ptB nx0 nm a0 a1 a2 a3 a4 mux sub,((1,s1), .c [u32 (d:Nat),Jb x, .os 0 0 (fun _=> .any) none,Ja 11 (st1 1),Ja 12 (st1 2),Ja 13 (st1 3),Ja 14 (st1 4),Ja 15 (st1 5),Ja 16 (st1 6)]),((0,s0), .c [int dk,int dn,Jb x,Ji ps])]++JG st1) [] rfl rfl (List.Perm.append_left _ hP) Sf Sf (BxLe.of_eq (by rw [eo])) trivial ⟨Rf,Rf,Rf,Rf,Jl rfl,trivial⟩)
     ·rw [hk] at hP hrk hln
      dsimp only at hln
      have eo:Js d x st1= [u32 (d:Nat),Jb x, .hs (10,s) 0 R.length cap,Ja 11 (st1 1),Ja 12 (st1 2),Ja 13 (st1 3),Ja 14 (st1 4),Ja 15 (st1 5),Ja 16 (st1 6)]:=by simp only [Js,hk,Ja]
      refine AW.le (E':=mk 75 [(1,Jx rs),(2, .bp (0,s0) 0),(3, .bp (1,s1) 0),(4, .bp (20,nx0) 0),(9,int (0:Nat))] (⟨[ptB nx0 nm a0 a1 a2 a3 a4 mux sub,((1,s1), .c [u32 (d:Nat),Jb x, .hs (10,s) 0 R.length cap,Ja 11 (st1 1),Ja 12 (st1 2),Ja 13 (st1 3),Ja 14 (st1 4),Ja 15 (st1 5),Ja 16 (st1 6)]),((0,s0), .c [int dk,int dn,Jb x,Ji ps])]++(((10,s),Own.c (JA R++tl))::Jp 0 st1), [],nx2,21⟩:Heap)) (Jr ([ptB nx0 nm a0 a1 a2 a3 a4 mux sub,((1,s1), .c (Js d x st1)),((0,s0), .c [int dk,int dn,Jb x,Ji ps])]++(((10,s),Own.c (JA R++tl))::Jp 0 st1)) ([ptB nx0 nm a0 a1 a2 a3 a4 mux sub,((1,s1), .c (Js d x st1)),((0,s0), .c [int dk,int dn,Jb x,Ji ps])]++(((10,s),Own.c (JA R++tl))::Jp 0 st1)) [] rfl rfl (List.Perm.append_left _ hP.symm) Sf Sf (BxLe.of_eq (by rw [eo])) trivial ⟨Rf,Rf,Rf,Rf,Rf,trivial⟩) ?_
      refine stp ?_
      intro c t1;cases c
      ·have t1:=Jm t1
       refine stp ?_
       refine Je rfl rfl (Jcl 0 rs d Dc hl hc) ⟨Rf,Rf,Rf,trivial⟩ fun nx3=> ?_
       refine stp ?_
       intro c t2;cases c
       ·have t2:=Jm t2
        refine stp ?_
        exact back (1,st1,nx3) ⟨by dsimp only;omega,hok1,JaP hdone hrs (JaJ (.inr (.inr (List.eq_nil_of_length_eq_zero Om)))),fun j hj=> hrest j (by dsimp only at hj;omega)⟩ Dm (Jr ([ptB nx0 nm a0 a1 a2 a3 a4 mux sub,((1,s1), .c [u32 (d:Nat),Jb x, .hs (10,s) 0 R.length cap,Ja 11 (st1 1),Ja 12 (st1 2),Ja 13 (st1 3),Ja 14 (st1 4),Ja 15 (st1 5),Ja 16 (st1 6)]),((0,s0), .c [int dk,int dn,Jb x,Ji ps])]++JG st1) ([ptB nx0 nm a0 a1 a2 a3 a4 mux sub,((1,s1), .c [u32 (d:Nat),Jb x, .hs (10,s) 0 R.length cap,Ja 11 (st1 1),Ja 12 (st1 2),Ja 13 (st1 3),Ja 14 (st1 4),Ja 15 (st1 5),Ja 16 (st1 6)]),((0,s0), .c [int dk,int dn,Jb x,Ji ps])]++JG st1) [] rfl rfl (List.Perm.append_left _ hP) Sf Sf (BxLe.of_eq (by rw [eo])) trivial ⟨Rf,Rf,Rf,Rf,Jl rfl,trivial⟩)
       ·have t2:=Jn t2
        have hwh:=Jb0 0 a0 Om (hn 0)
        have hen:JaI 0 d x ⟨nm,a0,a1,a2,a3,a4,mux,sub⟩ rs= [⟨wholeN 0 a0,Jau 0 rs d⟩]:=Jcm t1 (fun h=> by cases h.1) (fun h=> by rw [h] at t2;exact absurd t2 Dc)
        generalize Jau 0 rs d=W at t2 hen
        generalize wholeN 0 a0=z at hwh hen
        refine stp ?_
        refine JZ 14 [ptB nx0 nm a0 a1 a2 a3 a4 mux sub,((1,s1), .c [u32 (d:Nat),Jb x, .hs (10,s) 0 R.length cap,Ja 11 (st1 1),Ja 12 (st1 2),Ja 13 (st1 3),Ja 14 (st1 4),Ja 15 (st1 5),Ja 16 (st1 6)]),((0,s0), .c [int dk,int dn,Jb x,Ji ps])] (fun i=> match i with | 12=> true | _=> false) (fun i=> match i with | 8=> true | _=> false) [0,1,2,3,4,5,6,7,8,9,10,11,13,12] (by kernel_rfl) (by kernel_rfl) (HB.cons rfl (HB.cons rfl (HB.one rfl))) ?_
        refine stp ?_
        refine ⟨_,Jao rfl rfl rfl hwh ⟨Rf,AVle.of_eq (congrArg u32 (JcE Om (hn 0))),trivial⟩ (NoId.v _), ?_⟩
        refine stp ?_
        refine ⟨_,JcN (e:=78) (szx:=2) (m:=1) (n:=R.length) (cap:=cap) (i:=(10,s)) (cs:=JA R++tl) rfl rfl rfl (.inr ⟨_,rfl⟩) Tryz.underlying35 Jd3 gc_ent.symm Dc rfl hrk.1 (by rw [gc_ent,List.length_append,JbA];exact hrk.2) (Jy rfl) (by rw [Jd4];omega) Om (HB.cons rfl (HB.cons rfl (HB.one rfl))) (fun _=> (HB.cons rfl (HB.cons rfl (HB.one rfl)))),fun r h' hr=> ?_⟩
        rcases hr with ⟨hfit,rfl,rfl⟩ | ⟨ncap,hge,rfl,rfl⟩
        ·refine stp ?_
         exact back (1,JC st1 0 (R++ [(z,Jx W)],some (s,cap,tl.drop 2)),nx3) ⟨by dsimp only;omega,Jb1 hok1 ⟨by rw [List.length_append];exact hfit,by have:=hrk.2;rw [List.length_append,List.length_drop,List.length_singleton];omega⟩,Jbm (R:=R) hdone hrs hk hen,Jbn hrest⟩ Dm (ELe.trans (Jr (pm:= []) (bx:= [ptB nx0 nm a0 a1 a2 a3 a4 mux sub,((1,s1), .c (Js d x (JC st1 0 (R++ [(z,Jx W)],some (s,cap,tl.drop 2))))),((0,s0), .c [int dk,int dn,Jb x,Ji ps])]++(JaS 10 (R++ [(z,Jx W)],some (s,cap,tl.drop 2))++Jp 0 st1)) (L:= [(1,Jx rs),(2, .bp (0,s0) 0),(3, .bp (1,s1) 0),(4, .bp (20,nx0) 0),(9,int (1:Nat))]) ([ptB nx0 nm a0 a1 a2 a3 a4 mux sub,((1,s1),Own.c [u32 (d:Nat),Jb x, .hs (10,s) 0 (R.length+1) cap,Ja 11 (st1 1),Ja 12 (st1 2),Ja 13 (st1 3),Ja 14 (st1 4),Ja 15 (st1 5),Ja 16 (st1 6)]),((0,s0), .c [int dk,int dn,Jb x,Ji ps])]++(((10,s), .c _)::Jp 0 st1)) ([ptB nx0 nm a0 a1 a2 a3 a4 mux sub,((1,s1),Own.c [u32 (d:Nat),Jb x, .hs (10,s) 0 (R.length+1) cap,Ja 11 (st1 1),Ja 12 (st1 2),Ja 13 (st1 3),Ja 14 (st1 4),Ja 15 (st1 5),Ja 16 (st1 6)]),((0,s0), .c [int dk,int dn,Jb x,Ji ps])]++(((10,s), .c _)::Jp 0 st1)) [] rfl rfl (List.Perm.refl _) Sf Sf (bx4 rfl (JlA (Jbh)) (Jgm gc_ent rfl)) trivial ⟨Rf,Rf,Rf,Rf,Jl rfl,trivial⟩) (JbU (k:=0) Dc))
        ·refine stp ?_
         exact back (1,JC st1 0 (R++ [(z,Jx W)],some (nx3,ncap,List.replicate ((ncap - (R.length+1)) * 2) .any)),nx3+1) ⟨by dsimp only;omega,Jb1 hok1 ⟨by rw [List.length_append];exact hge,by rw [List.length_append,List.length_replicate,List.length_singleton,← Nat.add_mul];omega⟩,Jbm (R:=R) hdone hrs hk hen,Jbn hrest⟩ Dm (ELe.trans (Jr (pm:= []) (bx:= [ptB nx0 nm a0 a1 a2 a3 a4 mux sub,((1,s1), .c (Js d x (JC st1 0 (R++ [(z,Jx W)],some (nx3,ncap,List.replicate ((ncap - (R.length+1)) * 2) .any))))),((0,s0), .c [int dk,int dn,Jb x,Ji ps])]++(JaS 10 (R++ [(z,Jx W)],some (nx3,ncap,List.replicate ((ncap - (R.length+1)) * 2) .any))++Jp 0 st1)) (L:= [(1,Jx rs),(2, .bp (0,s0) 0),(3, .bp (1,s1) 0),(4, .bp (20,nx0) 0),(9,int (1:Nat))]) ([ptB nx0 nm a0 a1 a2 a3 a4 mux sub,((1,s1),Own.c [u32 (d:Nat),Jb x, .hs (21,nx3) 0 (R.length+1) ncap,Ja 11 (st1 1),Ja 12 (st1 2),Ja 13 (st1 3),Ja 14 (st1 4),Ja 15 (st1 5),Ja 16 (st1 6)]),((0,s0), .c [int dk,int dn,Jb x,Ji ps])]++(((21,nx3), .c _)::((10,s),Own.c (JA R++tl))::Jp 0 st1)) ([ptB nx0 nm a0 a1 a2 a3 a4 mux sub,((1,s1),Own.c [u32 (d:Nat),Jb x, .hs (21,nx3) 0 (R.length+1) ncap,Ja 11 (st1 1),Ja 12 (st1 2),Ja 13 (st1 3),Ja 14 (st1 4),Ja 15 (st1 5),Ja 16 (st1 6)]),((0,s0), .c [int dk,int dn,Jb x,Ji ps])]++(((21,nx3), .c _)::Jp 0 st1)) [] rfl rfl List.perm_middle (List.Sublist.append_left (.cons_cons _ (.cons _ Sf)) _) Sf (bx4 rfl (JlA (Jbh)) (Jee gc_ent rfl)) trivial ⟨Rf,Rf,Rf,Rf,Jl rfl,trivial⟩) (JbU (k:=0) Dc))
      ·have t1:=Jn t1
       refine stp ?_
       exact back (1,st1,nx2) ⟨by dsimp only;omega,hok1,JaP hdone hrs (JaJ (.inl t1)),fun j hj=> hrest j (by dsimp only at hj;omega)⟩ Dm (Jr ([ptB nx0 nm a0 a1 a2 a3 a4 mux sub,((1,s1), .c [u32 (d:Nat),Jb x, .hs (10,s) 0 R.length cap,Ja 11 (st1 1),Ja 12 (st1 2),Ja 13 (st1 3),Ja 14 (st1 4),Ja 15 (st1 5),Ja 16 (st1 6)]),((0,s0), .c [int dk,int dn,Jb x,Ji ps])]++JG st1) ([ptB nx0 nm a0 a1 a2 a3 a4 mux sub,((1,s1), .c [u32 (d:Nat),Jb x, .hs (10,s) 0 R.length cap,Ja 11 (st1 1),Ja 12 (st1 2),Ja 13 (st1 3),Ja 14 (st1 4),Ja 15 (st1 5),Ja 16 (st1 6)]),((0,s0), .c [int dk,int dn,Jb x,Ji ps])]++JG st1) [] rfl rfl (List.Perm.append_left _ hP) Sf Sf (BxLe.of_eq (by rw [eo])) trivial ⟨Rf,Rf,Rf,Rf,Jl rfl,trivial⟩)
    ·have hP:=Jdc (k:=1) Dc st1
     have hrk:JbN (st1 1):=hok1 _ Dc
     have hrs:st1 1=st 1:=hrest _ (Nat.le_refl _)
     have hln:(st1 1).1.length≤1000000:=by rw [hrs];exact hlen _ Dc
     rcases hk:st1 1 with ⟨R,_ | ⟨s,cap,tl⟩⟩
     ·rw [hk] at hP hrk hln
      dsimp only at hln
      have eo:Js d x st1= [u32 (d:Nat),Jb x,Ja 10 (st1 0), .os 0 0 (fun _=> .any) none,Ja 12 (st1 2),Ja 13 (st1 3),Ja 14 (st1 4),Ja 15 (st1 5),Ja 16 (st1 6)]:=by simp only [Js,hk,Ja]
      refine AW.le (E':=mk 75 [(1,Jx rs),(2, .bp (0,s0) 0),(3, .bp (1,s1) 0),(4, .bp (20,nx0) 0),(9,int (1:Nat))] (⟨[ptB nx0 nm a0 a1 a2 a3 a4 mux sub,((1,s1), .c [u32 (d:Nat),Jb x,Ja 10 (st1 0), .os 0 0 (fun _=> .any) none,Ja 12 (st1 2),Ja 13 (st1 3),Ja 14 (st1 4),Ja 15 (st1 5),Ja 16 (st1 6)]),((0,s0), .c [int dk,int dn,Jb x,Ji ps])]++(Jp 1 st1), [],nx2,21⟩:Heap)) (Jr ([ptB nx0 nm a0 a1 a2 a3 a4 mux sub,((1,s1), .c (Js d x st1)),((0,s0), .c [int dk,int dn,Jb x,Ji ps])]++(Jp 1 st1)) ([ptB nx0 nm a0 a1 a2 a3 a4 mux sub,((1,s1), .c (Js d x st1)),((0,s0), .c [int dk,int dn,Jb x,Ji ps])]++(Jp 1 st1)) [] rfl rfl (List.Perm.append_left _ hP.symm) Sf Sf (BxLe.of_eq (by rw [eo])) trivial ⟨Rf,Rf,Rf,Rf,Rf,trivial⟩) ?_
      refine stp ?_
      intro c t1;cases c
      ·have t1:=Jm t1
       cases x
       ·refine stp ?_
        exact back (2,st1,nx2) ⟨by dsimp only;omega,hok1,JaP hdone hrs (JaJ (.inr (.inl ⟨rfl,rfl⟩))),fun j hj=> hrest j (by dsimp only at hj;omega)⟩ Dm (Jr ([ptB nx0 nm a0 a1 a2 a3 a4 mux sub,((1,s1), .c [u32 (d:Nat),Jb false,Ja 10 (st1 0), .os 0 0 (fun _=> .any) none,Ja 12 (st1 2),Ja 13 (st1 3),Ja 14 (st1 4),Ja 15 (st1 5),Ja 16 (st1 6)]),((0,s0), .c [int dk,int dn,Jb false,Ji ps])]++JG st1) ([ptB nx0 nm a0 a1 a2 a3 a4 mux sub,((1,s1), .c [u32 (d:Nat),Jb false,Ja 10 (st1 0), .os 0 0 (fun _=> .any) none,Ja 12 (st1 2),Ja 13 (st1 3),Ja 14 (st1 4),Ja 15 (st1 5),Ja 16 (st1 6)]),((0,s0), .c [int dk,int dn,Jb false,Ji ps])]++JG st1) [] rfl rfl (List.Perm.append_left _ hP) Sf Sf (BxLe.of_eq (by rw [eo])) trivial ⟨Rf,Rf,Rf,Rf,Jl rfl,trivial⟩)
       ·refine stp ?_
        refine Je rfl rfl (Jcl 1 rs d Dc hl hc) ⟨Rf,Rf,Rf,trivial⟩ fun nx3=> ?_
        refine stp ?_
        intro c t2;cases c
        ·have t2:=Jm t2
         refine stp ?_
         exact back (2,st1,nx3) ⟨by dsimp only;omega,hok1,JaP hdone hrs (JaJ (.inr (.inr (List.eq_nil_of_length_eq_zero Om)))),fun j hj=> hrest j (by dsimp only at hj;omega)⟩ Dm (Jr ([ptB nx0 nm a0 a1 a2 a3 a4 mux sub,((1,s1), .c [u32 (d:Nat),Jb true,Ja 10 (st1 0), .os 0 0 (fun _=> .any) none,Ja 12 (st1 2),Ja 13 (st1 3),Ja 14 (st1 4),Ja 15 (st1 5),Ja 16 (st1 6)]),((0,s0), .c [int dk,int dn,Jb true,Ji ps])]++JG st1) ([ptB nx0 nm a0 a1 a2 a3 a4 mux sub,((1,s1), .c [u32 (d:Nat),Jb true,Ja 10 (st1 0), .os 0 0 (fun _=> .any) none,Ja 12 (st1 2),Ja 13 (st1 3),Ja 14 (st1 4),Ja 15 (st1 5),Ja 16 (st1 6)]),((0,s0), .c [int dk,int dn,Jb true,Ji ps])]++JG st1) [] rfl rfl (List.Perm.append_left _ hP) Sf Sf (BxLe.of_eq (by rw [eo])) trivial ⟨Rf,Rf,Rf,Rf,Jl rfl,trivial⟩)
        ·have t2:=Jn t2
         have hwh:=Jb0 1 a1 Om (hn 1)
         have hen:JaI 1 d true ⟨nm,a0,a1,a2,a3,a4,mux,sub⟩ rs= [⟨wholeN 1 a1,Jau 1 rs d⟩]:=Jcm t1 (fun h=> by cases h.2) (fun h=> by rw [h] at t2;exact absurd t2 Dc)
         generalize Jau 1 rs d=W at t2 hen
         generalize wholeN 1 a1=z at hwh hen
         refine stp ?_
         refine JZ 14 [ptB nx0 nm a0 a1 a2 a3 a4 mux sub,((1,s1), .c [u32 (d:Nat),Jb true,Ja 10 (st1 0), .os 0 0 (fun _=> .any) none,Ja 12 (st1 2),Ja 13 (st1 3),Ja 14 (st1 4),Ja 15 (st1 5),Ja 16 (st1 6)]),((0,s0), .c [int dk,int dn,Jb true,Ji ps])] (fun i=> match i with | 12=> true | _=> false) (fun i=> match i with | 8=> true | _=> false) [0,1,2,3,4,5,6,7,8,9,10,11,13,12] (by kernel_rfl) (by kernel_rfl) (HB.cons rfl (HB.cons rfl (HB.one rfl))) ?_
         refine stp ?_
         refine ⟨_,Jao rfl rfl rfl hwh ⟨Rf,AVle.of_eq (congrArg u32 (JcE Om (hn 1))),trivial⟩ (NoId.v _), ?_⟩
         refine stp ?_
         refine ⟨_,Jco (e:=78) (szx:=2) (m:=1) rfl rfl rfl (.inr ⟨_,rfl⟩) Tryz.underlying35 Jd3 gc_ent.symm Dc (Jy rfl) (by rw [Jd4];omega) Om (fun _=> (HB.cons rfl (HB.cons rfl (HB.one rfl)))),fun r h' hr=> ?_⟩
         obtain ⟨ncap,hge,rfl,rfl⟩:=hr
         refine stp ?_
         exact back (2,JC st1 1 ([]++ [(z,Jx W)],some (nx3,ncap,List.replicate ((ncap - 1) * 2) .any)),nx3+1) ⟨by dsimp only;omega,Jb1 hok1 ⟨(by simpa using hge),by rw [List.length_replicate];show ncap * 2≤1 * 2+_;omega⟩,Jbm (R:= []) hdone hrs (by rw [hk,hrk]) hen,Jbn hrest⟩ Dm (ELe.trans (Jr (pm:= []) (bx:= [ptB nx0 nm a0 a1 a2 a3 a4 mux sub,((1,s1), .c (Js d true (JC st1 1 ([]++ [(z,Jx W)],some (nx3,ncap,List.replicate ((ncap - 1) * 2) .any))))),((0,s0), .c [int dk,int dn,Jb true,Ji ps])]++(JaS 11 ([]++ [(z,Jx W)],some (nx3,ncap,List.replicate ((ncap - 1) * 2) .any))++Jp 1 st1)) (L:= [(1,Jx rs),(2, .bp (0,s0) 0),(3, .bp (1,s1) 0),(4, .bp (20,nx0) 0),(9,int (2:Nat))]) ([ptB nx0 nm a0 a1 a2 a3 a4 mux sub,((1,s1),Own.c [u32 (d:Nat),Jb true,Ja 10 (st1 0), .hs (21,nx3) 0 1 ncap,Ja 12 (st1 2),Ja 13 (st1 3),Ja 14 (st1 4),Ja 15 (st1 5),Ja 16 (st1 6)]),((0,s0), .c [int dk,int dn,Jb true,Ji ps])]++(((21,nx3), .c _)::Jp 1 st1)) ([ptB nx0 nm a0 a1 a2 a3 a4 mux sub,((1,s1),Own.c [u32 (d:Nat),Jb true,Ja 10 (st1 0), .hs (21,nx3) 0 1 ncap,Ja 12 (st1 2),Ja 13 (st1 3),Ja 14 (st1 4),Ja 15 (st1 5),Ja 16 (st1 6)]),((0,s0), .c [int dk,int dn,Jb true,Ji ps])]++(((21,nx3), .c _)::Jp 1 st1)) [] rfl rfl List.perm_middle Sf Sf (bx4 rfl (JlB (Jbh (R:= []))) (JdG gc_ent rfl)) trivial ⟨Rf,Rf,Rf,Rf,Jl rfl,trivial⟩) (JbU (k:=1) Dc))
      ·have t1:=Jn t1
       refine stp ?_
       exact back (2,st1,nx2) ⟨by dsimp only;omega,hok1,JaP hdone hrs (JaJ (.inl t1)),fun j hj=> hrest j (by dsimp only at hj;omega)⟩ Dm (Jr ([ptB nx0 nm a0 a1 a2 a3 a4 mux sub,((1,s1), .c [u32 (d:Nat),Jb x,Ja 10 (st1 0), .os 0 0 (fun _=> .any) none,Ja 12 (st1 2),Ja 13 (st1 3),Ja 14 (st1 4),Ja 15 (st1 5),Ja 16 (st1 6)]),((0,s0), .c [int dk,int dn,Jb x,Ji ps])]++JG st1) ([ptB nx0 nm a0 a1 a2 a3 a4 mux sub,((1,s1), .c [u32 (d:Nat),Jb x,Ja 10 (st1 0), .os 0 0 (fun _=> .any) none,Ja 12 (st1 2),Ja 13 (st1 3),Ja 14 (st1 4),Ja 15 (st1 5),Ja 16 (st1 6)]),((0,s0), .c [int dk,int dn,Jb x,Ji ps])]++JG st1) [] rfl rfl (List.Perm.append_left _ hP) Sf Sf (BxLe.of_eq (by rw [eo])) trivial ⟨Rf,Rf,Rf,Rf,Jl rfl,trivial⟩)
     ·rw [hk] at hP hrk hln
      dsimp only at hln
      have eo:Js d x st1= [u32 (d:Nat),Jb x,Ja 10 (st1 0), .hs (11,s) 0 R.length cap,Ja 12 (st1 2),Ja 13 (st1 3),Ja 14 (st1 4),Ja 15 (st1 5),Ja 16 (st1 6)]:=by simp only [Js,hk,Ja]
      refine AW.le (E':=mk 75 [(1,Jx rs),(2, .bp (0,s0) 0),(3, .bp (1,s1) 0),(4, .bp (20,nx0) 0),(9,int (1:Nat))] (⟨[ptB nx0 nm a0 a1 a2 a3 a4 mux sub,((1,s1), .c [u32 (d:Nat),Jb x,Ja 10 (st1 0), .hs (11,s) 0 R.length cap,Ja 12 (st1 2),Ja 13 (st1 3),Ja 14 (st1 4),Ja 15 (st1 5),Ja 16 (st1 6)]),((0,s0), .c [int dk,int dn,Jb x,Ji ps])]++(((11,s),Own.c (JA R++tl))::Jp 1 st1), [],nx2,21⟩:Heap)) (Jr ([ptB nx0 nm a0 a1 a2 a3 a4 mux sub,((1,s1), .c (Js d x st1)),((0,s0), .c [int dk,int dn,Jb x,Ji ps])]++(((11,s),Own.c (JA R++tl))::Jp 1 st1)) ([ptB nx0 nm a0 a1 a2 a3 a4 mux sub,((1,s1), .c (Js d x st1)),((0,s0), .c [int dk,int dn,Jb x,Ji ps])]++(((11,s),Own.c (JA R++tl))::Jp 1 st1)) [] rfl rfl (List.Perm.append_left _ hP.symm) Sf Sf (BxLe.of_eq (by rw [eo])) trivial ⟨Rf,Rf,Rf,Rf,Rf,trivial⟩) ?_
      refine stp ?_
      intro c t1;cases c
      ·have t1:=Jm t1
       cases x
       ·refine stp ?_
        exact back (2,st1,nx2) ⟨by dsimp only;omega,hok1,JaP hdone hrs (JaJ (.inr (.inl ⟨rfl,rfl⟩))),fun j hj=> hrest j (by dsimp only at hj;omega)⟩ Dm (Jr ([ptB nx0 nm a0 a1 a2 a3 a4 mux sub,((1,s1), .c [u32 (d:Nat),Jb false,Ja 10 (st1 0), .hs (11,s) 0 R.length cap,Ja 12 (st1 2),Ja 13 (st1 3),Ja 14 (st1 4),Ja 15 (st1 5),Ja 16 (st1 6)]),((0,s0), .c [int dk,int dn,Jb false,Ji ps])]++JG st1) ([ptB nx0 nm a0 a1 a2 a3 a4 mux sub,((1,s1), .c [u32 (d:Nat),Jb false,Ja 10 (st1 0), .hs (11,s) 0 R.length cap,Ja 12 (st1 2),Ja 13 (st1 3),Ja 14 (st1 4),Ja 15 (st1 5),Ja 16 (st1 6)]),((0,s0), .c [int dk,int dn,Jb false,Ji ps])]++JG st1) [] rfl rfl (List.Perm.append_left _ hP) Sf Sf (BxLe.of_eq (by rw [eo])) trivial ⟨Rf,Rf,Rf,Rf,Jl rfl,trivial⟩)
       ·refine stp ?_
        refine Je rfl rfl (Jcl 1 rs d Dc hl hc) ⟨Rf,Rf,Rf,trivial⟩ fun nx3=> ?_
        refine stp ?_
        intro c t2;cases c
        ·have t2:=Jm t2
         refine stp ?_
         exact back (2,st1,nx3) ⟨by dsimp only;omega,hok1,JaP hdone hrs (JaJ (.inr (.inr (List.eq_nil_of_length_eq_zero Om)))),fun j hj=> hrest j (by dsimp only at hj;omega)⟩ Dm (Jr ([ptB nx0 nm a0 a1 a2 a3 a4 mux sub,((1,s1), .c [u32 (d:Nat),Jb true,Ja 10 (st1 0), .hs (11,s) 0 R.length cap,Ja 12 (st1 2),Ja 13 (st1 3),Ja 14 (st1 4),Ja 15 (st1 5),Ja 16 (st1 6)]),((0,s0), .c [int dk,int dn,Jb true,Ji ps])]++JG st1) ([ptB nx0 nm a0 a1 a2 a3 a4 mux sub,((1,s1), .c [u32 (d:Nat),Jb true,Ja 10 (st1 0), .hs (11,s) 0 R.length cap,Ja 12 (st1 2),Ja 13 (st1 3),Ja 14 (st1 4),Ja 15 (st1 5),Ja 16 (st1 6)]),((0,s0), .c [int dk,int dn,Jb true,Ji ps])]++JG st1) [] rfl rfl (List.Perm.append_left _ hP) Sf Sf (BxLe.of_eq (by rw [eo])) trivial ⟨Rf,Rf,Rf,Rf,Jl rfl,trivial⟩)
        ·have t2:=Jn t2
         have hwh:=Jb0 1 a1 Om (hn 1)
         have hen:JaI 1 d true ⟨nm,a0,a1,a2,a3,a4,mux,sub⟩ rs= [⟨wholeN 1 a1,Jau 1 rs d⟩]:=Jcm t1 (fun h=> by cases h.2) (fun h=> by rw [h] at t2;exact absurd t2 Dc)
         generalize Jau 1 rs d=W at t2 hen
         generalize wholeN 1 a1=z at hwh hen
         refine stp ?_
         refine JZ 14 [ptB nx0 nm a0 a1 a2 a3 a4 mux sub,((1,s1), .c [u32 (d:Nat),Jb true,Ja 10 (st1 0), .hs (11,s) 0 R.length cap,Ja 12 (st1 2),Ja 13 (st1 3),Ja 14 (st1 4),Ja 15 (st1 5),Ja 16 (st1 6)]),((0,s0), .c [int dk,int dn,Jb true,Ji ps])] (fun i=> match i with | 12=> true | _=> false) (fun i=> match i with | 8=> true | _=> false) [0,1,2,3,4,5,6,7,8,9,10,11,13,12] (by kernel_rfl) (by kernel_rfl) (HB.cons rfl (HB.cons rfl (HB.one rfl))) ?_
         refine stp ?_
         refine ⟨_,Jao rfl rfl rfl hwh ⟨Rf,AVle.of_eq (congrArg u32 (JcE Om (hn 1))),trivial⟩ (NoId.v _), ?_⟩
         refine stp ?_
         refine ⟨_,JcN (e:=78) (szx:=2) (m:=1) (n:=R.length) (cap:=cap) (i:=(11,s)) (cs:=JA R++tl) rfl rfl rfl (.inr ⟨_,rfl⟩) Tryz.underlying35 Jd3 gc_ent.symm Dc rfl hrk.1 (by rw [gc_ent,List.length_append,JbA];exact hrk.2) (Jy rfl) (by rw [Jd4];omega) Om (HB.cons rfl (HB.cons rfl (HB.one rfl))) (fun _=> (HB.cons rfl (HB.cons rfl (HB.one rfl)))),fun r h' hr=> ?_⟩
         rcases hr with ⟨hfit,rfl,rfl⟩ | ⟨ncap,hge,rfl,rfl⟩
         ·refine stp ?_
          exact back (2,JC st1 1 (R++ [(z,Jx W)],some (s,cap,tl.drop 2)),nx3) ⟨by dsimp only;omega,Jb1 hok1 ⟨by rw [List.length_append];exact hfit,by have:=hrk.2;rw [List.length_append,List.length_drop,List.length_singleton];omega⟩,Jbm (R:=R) hdone hrs hk hen,Jbn hrest⟩ Dm (ELe.trans (Jr (pm:= []) (bx:= [ptB nx0 nm a0 a1 a2 a3 a4 mux sub,((1,s1), .c (Js d true (JC st1 1 (R++ [(z,Jx W)],some (s,cap,tl.drop 2))))),((0,s0), .c [int dk,int dn,Jb true,Ji ps])]++(JaS 11 (R++ [(z,Jx W)],some (s,cap,tl.drop 2))++Jp 1 st1)) (L:= [(1,Jx rs),(2, .bp (0,s0) 0),(3, .bp (1,s1) 0),(4, .bp (20,nx0) 0),(9,int (2:Nat))]) ([ptB nx0 nm a0 a1 a2 a3 a4 mux sub,((1,s1),Own.c [u32 (d:Nat),Jb true,Ja 10 (st1 0), .hs (11,s) 0 (R.length+1) cap,Ja 12 (st1 2),Ja 13 (st1 3),Ja 14 (st1 4),Ja 15 (st1 5),Ja 16 (st1 6)]),((0,s0), .c [int dk,int dn,Jb true,Ji ps])]++(((11,s), .c _)::Jp 1 st1)) ([ptB nx0 nm a0 a1 a2 a3 a4 mux sub,((1,s1),Own.c [u32 (d:Nat),Jb true,Ja 10 (st1 0), .hs (11,s) 0 (R.length+1) cap,Ja 12 (st1 2),Ja 13 (st1 3),Ja 14 (st1 4),Ja 15 (st1 5),Ja 16 (st1 6)]),((0,s0), .c [int dk,int dn,Jb true,Ji ps])]++(((11,s), .c _)::Jp 1 st1)) [] rfl rfl (List.Perm.refl _) Sf Sf (bx4 rfl (JlB (Jbh)) (Jgm gc_ent rfl)) trivial ⟨Rf,Rf,Rf,Rf,Jl rfl,trivial⟩) (JbU (k:=1) Dc))
         ·refine stp ?_
          exact back (2,JC st1 1 (R++ [(z,Jx W)],some (nx3,ncap,List.replicate ((ncap - (R.length+1)) * 2) .any)),nx3+1) ⟨by dsimp only;omega,Jb1 hok1 ⟨by rw [List.length_append];exact hge,by rw [List.length_append,List.length_replicate,List.length_singleton,← Nat.add_mul];omega⟩,Jbm (R:=R) hdone hrs hk hen,Jbn hrest⟩ Dm (ELe.trans (Jr (pm:= []) (bx:= [ptB nx0 nm a0 a1 a2 a3 a4 mux sub,((1,s1), .c (Js d true (JC st1 1 (R++ [(z,Jx W)],some (nx3,ncap,List.replicate ((ncap - (R.length+1)) * 2) .any))))),((0,s0), .c [int dk,int dn,Jb true,Ji ps])]++(JaS 11 (R++ [(z,Jx W)],some (nx3,ncap,List.replicate ((ncap - (R.length+1)) * 2) .any))++Jp 1 st1)) (L:= [(1,Jx rs),(2, .bp (0,s0) 0),(3, .bp (1,s1) 0),(4, .bp (20,nx0) 0),(9,int (2:Nat))]) ([ptB nx0 nm a0 a1 a2 a3 a4 mux sub,((1,s1),Own.c [u32 (d:Nat),Jb true,Ja 10 (st1 0), .hs (21,nx3) 0 (R.length+1) ncap,Ja 12 (st1 2),Ja 13 (st1 3),Ja 14 (st1 4),Ja 15 (st1 5),Ja 16 (st1 6)]),((0,s0), .c [int dk,int dn,Jb true,Ji ps])]++(((21,nx3), .c _)::((11,s),Own.c (JA R++tl))::Jp 1 st1)) ([ptB nx0 nm a0 a1 a2 a3 a4 mux sub,((1,s1),Own.c [u32 (d:Nat),Jb true,Ja 10 (st1 0), .hs (21,nx3) 0 (R.length+1) ncap,Ja 12 (st1 2),Ja 13 (st1 3),Ja 14 (st1 4),Ja 15 (st1 5),Ja 16 (st1 6)]),((0,s0), .c [int dk,int dn,Jb true,Ji ps])]++(((21,nx3), .c _)::Jp 1 st1)) [] rfl rfl List.perm_middle (List.Sublist.append_left (.cons_cons _ (.cons _ Sf)) _) Sf (bx4 rfl (JlB (Jbh)) (Jee gc_ent rfl)) trivial ⟨Rf,Rf,Rf,Rf,Jl rfl,trivial⟩) (JbU (k:=1) Dc))
      ·have t1:=Jn t1
       refine stp ?_
       exact back (2,st1,nx2) ⟨by dsimp only;omega,hok1,JaP hdone hrs (JaJ (.inl t1)),fun j hj=> hrest j (by dsimp only at hj;omega)⟩ Dm (Jr ([ptB nx0 nm a0 a1 a2 a3 a4 mux sub,((1,s1), .c [u32 (d:Nat),Jb x,Ja 10 (st1 0), .hs (11,s) 0 R.length cap,Ja 12 (st1 2),Ja 13 (st1 3),Ja 14 (st1 4),Ja 15 (st1 5),Ja 16 (st1 6)]),((0,s0), .c [int dk,int dn,Jb x,Ji ps])]++JG st1) ([ptB nx0 nm a0 a1 a2 a3 a4 mux sub,((1,s1), .c [u32 (d:Nat),Jb x,Ja 10 (st1 0), .hs (11,s) 0 R.length cap,Ja 12 (st1 2),Ja 13 (st1 3),Ja 14 (st1 4),Ja 15 (st1 5),Ja 16 (st1 6)]),((0,s0), .c [int dk,int dn,Jb x,Ji ps])]++JG st1) [] rfl rfl (List.Perm.append_left _ hP) Sf Sf (BxLe.of_eq (by rw [eo])) trivial ⟨Rf,Rf,Rf,Rf,Jl rfl,trivial⟩)
    ·have hP:=Jdc (k:=2) Dc st1
     have hrk:JbN (st1 2):=hok1 _ Dc
     have hrs:st1 2=st 2:=hrest _ (Nat.le_refl _)
     have hln:(st1 2).1.length≤1000000:=by rw [hrs];exact hlen _ Dc
     rcases hk:st1 2 with ⟨R,_ | ⟨s,cap,tl⟩⟩
     ·rw [hk] at hP hrk hln
      dsimp only at hln
      have eo:Js d x st1= [u32 (d:Nat),Jb x,Ja 10 (st1 0),Ja 11 (st1 1), .os 0 0 (fun _=> .any) none,Ja 13 (st1 3),Ja 14 (st1 4),Ja 15 (st1 5),Ja 16 (st1 6)]:=by simp only [Js,hk,Ja]
      refine AW.le (E':=mk 75 [(1,Jx rs),(2, .bp (0,s0) 0),(3, .bp (1,s1) 0),(4, .bp (20,nx0) 0),(9,int (2:Nat))] (⟨[ptB nx0 nm a0 a1 a2 a3 a4 mux sub,((1,s1), .c [u32 (d:Nat),Jb x,Ja 10 (st1 0),Ja 11 (st1 1), .os 0 0 (fun _=> .any) none,Ja 13 (st1 3),Ja 14 (st1 4),Ja 15 (st1 5),Ja 16 (st1 6)]),((0,s0), .c [int dk,int dn,Jb x,Ji ps])]++(Jp 2 st1), [],nx2,21⟩:Heap)) (Jr ([ptB nx0 nm a0 a1 a2 a3 a4 mux sub,((1,s1), .c (Js d x st1)),((0,s0), .c [int dk,int dn,Jb x,Ji ps])]++(Jp 2 st1)) ([ptB nx0 nm a0 a1 a2 a3 a4 mux sub,((1,s1), .c (Js d x st1)),((0,s0), .c [int dk,int dn,Jb x,Ji ps])]++(Jp 2 st1)) [] rfl rfl (List.Perm.append_left _ hP.symm) Sf Sf (BxLe.of_eq (by rw [eo])) trivial ⟨Rf,Rf,Rf,Rf,Rf,trivial⟩) ?_
      refine stp ?_
      intro c t1;cases c
      ·have t1:=Jm t1
       refine stp ?_
       refine Je rfl rfl (Jcl 2 rs d Dc hl hc) ⟨Rf,Rf,Rf,trivial⟩ fun nx3=> ?_
       refine stp ?_
       intro c t2;cases c
       ·have t2:=Jm t2
        refine stp ?_
        exact back (3,st1,nx3) ⟨by dsimp only;omega,hok1,JaP hdone hrs (JaJ (.inr (.inr (List.eq_nil_of_length_eq_zero Om)))),fun j hj=> hrest j (by dsimp only at hj;omega)⟩ Dm (Jr ([ptB nx0 nm a0 a1 a2 a3 a4 mux sub,((1,s1), .c [u32 (d:Nat),Jb x,Ja 10 (st1 0),Ja 11 (st1 1), .os 0 0 (fun _=> .any) none,Ja 13 (st1 3),Ja 14 (st1 4),Ja 15 (st1 5),Ja 16 (st1 6)]),((0,s0), .c [int dk,int dn,Jb x,Ji ps])]++JG st1) ([ptB nx0 nm a0 a1 a2 a3 a4 mux sub,((1,s1), .c [u32 (d:Nat),Jb x,Ja 10 (st1 0),Ja 11 (st1 1), .os 0 0 (fun _=> .any) none,Ja 13 (st1 3),Ja 14 (st1 4),Ja 15 (st1 5),Ja 16 (st1 6)]),((0,s0), .c [int dk,int dn,Jb x,Ji ps])]++JG st1) [] rfl rfl (List.Perm.append_left _ hP) Sf Sf (BxLe.of_eq (by rw [eo])) trivial ⟨Rf,Rf,Rf,Rf,Jl rfl,trivial⟩)
       ·have t2:=Jn t2
        have hwh:=Jb0 2 a2 Om (hn 2)
        have hen:JaI 2 d x ⟨nm,a0,a1,a2,a3,a4,mux,sub⟩ rs= [⟨wholeN 2 a2,Jau 2 rs d⟩]:=Jcm t1 (fun h=> by cases h.1) (fun h=> by rw [h] at t2;exact absurd t2 Dc)
        generalize Jau 2 rs d=W at t2 hen
        generalize wholeN 2 a2=z at hwh hen
        refine stp ?_
        refine JZ 14 [ptB nx0 nm a0 a1 a2 a3 a4 mux sub,((1,s1), .c [u32 (d:Nat),Jb x,Ja 10 (st1 0),Ja 11 (st1 1), .os 0 0 (fun _=> .any) none,Ja 13 (st1 3),Ja 14 (st1 4),Ja 15 (st1 5),Ja 16 (st1 6)]),((0,s0), .c [int dk,int dn,Jb x,Ji ps])] (fun i=> match i with | 12=> true | _=> false) (fun i=> match i with | 8=> true | _=> false) [0,1,2,3,4,5,6,7,8,9,10,11,13,12] (by kernel_rfl) (by kernel_rfl) (HB.cons rfl (HB.cons rfl (HB.one rfl))) ?_
        refine stp ?_
        refine ⟨_,Jao rfl rfl rfl hwh ⟨Rf,AVle.of_eq (congrArg u32 (JcE Om (hn 2))),trivial⟩ (NoId.v _), ?_⟩
        refine stp ?_
        refine ⟨_,Jco (e:=78) (szx:=2) (m:=1) rfl rfl rfl (.inr ⟨_,rfl⟩) Tryz.underlying35 Jd3 gc_ent.symm Dc (Jy rfl) (by rw [Jd4];omega) Om (fun _=> (HB.cons rfl (HB.cons rfl (HB.one rfl)))),fun r h' hr=> ?_⟩
        obtain ⟨ncap,hge,rfl,rfl⟩:=hr
        refine stp ?_
        exact back (3,JC st1 2 ([]++ [(z,Jx W)],some (nx3,ncap,List.replicate ((ncap - 1) * 2) .any)),nx3+1) ⟨by dsimp only;omega,Jb1 hok1 ⟨(by simpa using hge),by rw [List.length_replicate];show ncap * 2≤1 * 2+_;omega⟩,Jbm (R:= []) hdone hrs (by rw [hk,hrk]) hen,Jbn hrest⟩ Dm (ELe.trans (Jr (pm:= []) (bx:= [ptB nx0 nm a0 a1 a2 a3 a4 mux sub,((1,s1), .c (Js d x (JC st1 2 ([]++ [(z,Jx W)],some (nx3,ncap,List.replicate ((ncap - 1) * 2) .any))))),((0,s0), .c [int dk,int dn,Jb x,Ji ps])]++(JaS 12 ([]++ [(z,Jx W)],some (nx3,ncap,List.replicate ((ncap - 1) * 2) .any))++Jp 2 st1)) (L:= [(1,Jx rs),(2, .bp (0,s0) 0),(3, .bp (1,s1) 0),(4, .bp (20,nx0) 0),(9,int (3:Nat))]) ([ptB nx0 nm a0 a1 a2 a3 a4 mux sub,((1,s1),Own.c [u32 (d:Nat),Jb x,Ja 10 (st1 0),Ja 11 (st1 1), .hs (21,nx3) 0 1 ncap,Ja 13 (st1 3),Ja 14 (st1 4),Ja 15 (st1 5),Ja 16 (st1 6)]),((0,s0), .c [int dk,int dn,Jb x,Ji ps])]++(((21,nx3), .c _)::Jp 2 st1)) ([ptB nx0 nm a0 a1 a2 a3 a4 mux sub,((1,s1),Own.c [u32 (d:Nat),Jb x,Ja 10 (st1 0),Ja 11 (st1 1), .hs (21,nx3) 0 1 ncap,Ja 13 (st1 3),Ja 14 (st1 4),Ja 15 (st1 5),Ja 16 (st1 6)]),((0,s0), .c [int dk,int dn,Jb x,Ji ps])]++(((21,nx3), .c _)::Jp 2 st1)) [] rfl rfl List.perm_middle Sf Sf (bx4 rfl (JlC (Jbh (R:= []))) (JdG gc_ent rfl)) trivial ⟨Rf,Rf,Rf,Rf,Jl rfl,trivial⟩) (JbU (k:=2) Dc))
      ·have t1:=Jn t1
       refine stp ?_
       exact back (3,st1,nx2) ⟨by dsimp only;omega,hok1,JaP hdone hrs (JaJ (.inl t1)),fun j hj=> hrest j (by dsimp only at hj;omega)⟩ Dm (Jr ([ptB nx0 nm a0 a1 a2 a3 a4 mux sub,((1,s1), .c [u32 (d:Nat),Jb x,Ja 10 (st1 0),Ja 11 (st1 1), .os 0 0 (fun _=> .any) none,Ja 13 (st1 3),Ja 14 (st1 4),Ja 15 (st1 5),Ja 16 (st1 6)]),((0,s0), .c [int dk,int dn,Jb x,Ji ps])]++JG st1) ([ptB nx0 nm a0 a1 a2 a3 a4 mux sub,((1,s1), .c [u32 (d:Nat),Jb x,Ja 10 (st1 0),Ja 11 (st1 1), .os 0 0 (fun _=> .any) none,Ja 13 (st1 3),Ja 14 (st1 4),Ja 15 (st1 5),Ja 16 (st1 6)]),((0,s0), .c [int dk,int dn,Jb x,Ji ps])]++JG st1) [] rfl rfl (List.Perm.append_left _ hP) Sf Sf (BxLe.of_eq (by rw [eo])) trivial ⟨Rf,Rf,Rf,Rf,Jl rfl,trivial⟩)
     ·rw [hk] at hP hrk hln
      dsimp only at hln
      have eo:Js d x st1= [u32 (d:Nat),Jb x,Ja 10 (st1 0),Ja 11 (st1 1), .hs (12,s) 0 R.length cap,Ja 13 (st1 3),Ja 14 (st1 4),Ja 15 (st1 5),Ja 16 (st1 6)]:=by simp only [Js,hk,Ja]
      refine AW.le (E':=mk 75 [(1,Jx rs),(2, .bp (0,s0) 0),(3, .bp (1,s1) 0),(4, .bp (20,nx0) 0),(9,int (2:Nat))] (⟨[ptB nx0 nm a0 a1 a2 a3 a4 mux sub,((1,s1), .c [u32 (d:Nat),Jb x,Ja 10 (st1 0),Ja 11 (st1 1), .hs (12,s) 0 R.length cap,Ja 13 (st1 3),Ja 14 (st1 4),Ja 15 (st1 5),Ja 16 (st1 6)]),((0,s0), .c [int dk,int dn,Jb x,Ji ps])]++(((12,s),Own.c (JA R++tl))::Jp 2 st1), [],nx2,21⟩:Heap)) (Jr ([ptB nx0 nm a0 a1 a2 a3 a4 mux sub,((1,s1), .c (Js d x st1)),((0,s0), .c [int dk,int dn,Jb x,Ji ps])]++(((12,s),Own.c (JA R++tl))::Jp 2 st1)) ([ptB nx0 nm a0 a1 a2 a3 a4 mux sub,((1,s1), .c (Js d x st1)),((0,s0), .c [int dk,int dn,Jb x,Ji ps])]++(((12,s),Own.c (JA R++tl))::Jp 2 st1)) [] rfl rfl (List.Perm.append_left _ hP.symm) Sf Sf (BxLe.of_eq (by rw [eo])) trivial ⟨Rf,Rf,Rf,Rf,Rf,trivial⟩) ?_
      refine stp ?_
      intro c t1;cases c
      ·have t1:=Jm t1
       refine stp ?_
       refine Je rfl rfl (Jcl 2 rs d Dc hl hc) ⟨Rf,Rf,Rf,trivial⟩ fun nx3=> ?_
       refine stp ?_
       intro c t2;cases c
       ·have t2:=Jm t2
        refine stp ?_
        exact back (3,st1,nx3) ⟨by dsimp only;omega,hok1,JaP hdone hrs (JaJ (.inr (.inr (List.eq_nil_of_length_eq_zero Om)))),fun j hj=> hrest j (by dsimp only at hj;omega)⟩ Dm (Jr ([ptB nx0 nm a0 a1 a2 a3 a4 mux sub,((1,s1), .c [u32 (d:Nat),Jb x,Ja 10 (st1 0),Ja 11 (st1 1), .hs (12,s) 0 R.length cap,Ja 13 (st1 3),Ja 14 (st1 4),Ja 15 (st1 5),Ja 16 (st1 6)]),((0,s0), .c [int dk,int dn,Jb x,Ji ps])]++JG st1) ([ptB nx0 nm a0 a1 a2 a3 a4 mux sub,((1,s1), .c [u32 (d:Nat),Jb x,Ja 10 (st1 0),Ja 11 (st1 1), .hs (12,s) 0 R.length cap,Ja 13 (st1 3),Ja 14 (st1 4),Ja 15 (st1 5),Ja 16 (st1 6)]),((0,s0), .c [int dk,int dn,Jb x,Ji ps])]++JG st1) [] rfl rfl (List.Perm.append_left _ hP) Sf Sf (BxLe.of_eq (by rw [eo])) trivial ⟨Rf,Rf,Rf,Rf,Jl rfl,trivial⟩)
       ·have t2:=Jn t2
        have hwh:=Jb0 2 a2 Om (hn 2)
        have hen:JaI 2 d x ⟨nm,a0,a1,a2,a3,a4,mux,sub⟩ rs= [⟨wholeN 2 a2,Jau 2 rs d⟩]:=Jcm t1 (fun h=> by cases h.1) (fun h=> by rw [h] at t2;exact absurd t2 Dc)
        generalize Jau 2 rs d=W at t2 hen
        generalize wholeN 2 a2=z at hwh hen
        refine stp ?_
        refine JZ 14 [ptB nx0 nm a0 a1 a2 a3 a4 mux sub,((1,s1), .c [u32 (d:Nat),Jb x,Ja 10 (st1 0),Ja 11 (st1 1), .hs (12,s) 0 R.length cap,Ja 13 (st1 3),Ja 14 (st1 4),Ja 15 (st1 5),Ja 16 (st1 6)]),((0,s0), .c [int dk,int dn,Jb x,Ji ps])] (fun i=> match i with | 12=> true | _=> false) (fun i=> match i with | 8=> true | _=> false) [0,1,2,3,4,5,6,7,8,9,10,11,13,12] (by kernel_rfl) (by kernel_rfl) (HB.cons rfl (HB.cons rfl (HB.one rfl))) ?_
        refine stp ?_
        refine ⟨_,Jao rfl rfl rfl hwh ⟨Rf,AVle.of_eq (congrArg u32 (JcE Om (hn 2))),trivial⟩ (NoId.v _), ?_⟩
        refine stp ?_
        refine ⟨_,JcN (e:=78) (szx:=2) (m:=1) (n:=R.length) (cap:=cap) (i:=(12,s)) (cs:=JA R++tl) rfl rfl rfl (.inr ⟨_,rfl⟩) Tryz.underlying35 Jd3 gc_ent.symm Dc rfl hrk.1 (by rw [gc_ent,List.length_append,JbA];exact hrk.2) (Jy rfl) (by rw [Jd4];omega) Om (HB.cons rfl (HB.cons rfl (HB.one rfl))) (fun _=> (HB.cons rfl (HB.cons rfl (HB.one rfl)))),fun r h' hr=> ?_⟩
        rcases hr with ⟨hfit,rfl,rfl⟩ | ⟨ncap,hge,rfl,rfl⟩
        ·refine stp ?_
         exact back (3,JC st1 2 (R++ [(z,Jx W)],some (s,cap,tl.drop 2)),nx3) ⟨by dsimp only;omega,Jb1 hok1 ⟨by rw [List.length_append];exact hfit,by have:=hrk.2;rw [List.length_append,List.length_drop,List.length_singleton];omega⟩,Jbm (R:=R) hdone hrs hk hen,Jbn hrest⟩ Dm (ELe.trans (Jr (pm:= []) (bx:= [ptB nx0 nm a0 a1 a2 a3 a4 mux sub,((1,s1), .c (Js d x (JC st1 2 (R++ [(z,Jx W)],some (s,cap,tl.drop 2))))),((0,s0), .c [int dk,int dn,Jb x,Ji ps])]++(JaS 12 (R++ [(z,Jx W)],some (s,cap,tl.drop 2))++Jp 2 st1)) (L:= [(1,Jx rs),(2, .bp (0,s0) 0),(3, .bp (1,s1) 0),(4, .bp (20,nx0) 0),(9,int (3:Nat))]) ([ptB nx0 nm a0 a1 a2 a3 a4 mux sub,((1,s1),Own.c [u32 (d:Nat),Jb x,Ja 10 (st1 0),Ja 11 (st1 1), .hs (12,s) 0 (R.length+1) cap,Ja 13 (st1 3),Ja 14 (st1 4),Ja 15 (st1 5),Ja 16 (st1 6)]),((0,s0), .c [int dk,int dn,Jb x,Ji ps])]++(((12,s), .c _)::Jp 2 st1)) ([ptB nx0 nm a0 a1 a2 a3 a4 mux sub,((1,s1),Own.c [u32 (d:Nat),Jb x,Ja 10 (st1 0),Ja 11 (st1 1), .hs (12,s) 0 (R.length+1) cap,Ja 13 (st1 3),Ja 14 (st1 4),Ja 15 (st1 5),Ja 16 (st1 6)]),((0,s0), .c [int dk,int dn,Jb x,Ji ps])]++(((12,s), .c _)::Jp 2 st1)) [] rfl rfl (List.Perm.refl _) Sf Sf (bx4 rfl (JlC (Jbh)) (Jgm gc_ent rfl)) trivial ⟨Rf,Rf,Rf,Rf,Jl rfl,trivial⟩) (JbU (k:=2) Dc))
        ·refine stp ?_
         exact back (3,JC st1 2 (R++ [(z,Jx W)],some (nx3,ncap,List.replicate ((ncap - (R.length+1)) * 2) .any)),nx3+1) ⟨by dsimp only;omega,Jb1 hok1 ⟨by rw [List.length_append];exact hge,by rw [List.length_append,List.length_replicate,List.length_singleton,← Nat.add_mul];omega⟩,Jbm (R:=R) hdone hrs hk hen,Jbn hrest⟩ Dm (ELe.trans (Jr (pm:= []) (bx:= [ptB nx0 nm a0 a1 a2 a3 a4 mux sub,((1,s1), .c (Js d x (JC st1 2 (R++ [(z,Jx W)],some (nx3,ncap,List.replicate ((ncap - (R.length+1)) * 2) .any))))),((0,s0), .c [int dk,int dn,Jb x,Ji ps])]++(JaS 12 (R++ [(z,Jx W)],some (nx3,ncap,List.replicate ((ncap - (R.length+1)) * 2) .any))++Jp 2 st1)) (L:= [(1,Jx rs),(2, .bp (0,s0) 0),(3, .bp (1,s1) 0),(4, .bp (20,nx0) 0),(9,int (3:Nat))]) ([ptB nx0 nm a0 a1 a2 a3 a4 mux sub,((1,s1),Own.c [u32 (d:Nat),Jb x,Ja 10 (st1 0),Ja 11 (st1 1), .hs (21,nx3) 0 (R.length+1) ncap,Ja 13 (st1 3),Ja 14 (st1 4),Ja 15 (st1 5),Ja 16 (st1 6)]),((0,s0), .c [int dk,int dn,Jb x,Ji ps])]++(((21,nx3), .c _)::((12,s),Own.c (JA R++tl))::Jp 2 st1)) ([ptB nx0 nm a0 a1 a2 a3 a4 mux sub,((1,s1),Own.c [u32 (d:Nat),Jb x,Ja 10 (st1 0),Ja 11 (st1 1), .hs (21,nx3) 0 (R.length+1) ncap,Ja 13 (st1 3),Ja 14 (st1 4),Ja 15 (st1 5),Ja 16 (st1 6)]),((0,s0), .c [int dk,int dn,Jb x,Ji ps])]++(((21,nx3), .c _)::Jp 2 st1)) [] rfl rfl List.perm_middle (List.Sublist.append_left (.cons_cons _ (.cons _ Sf)) _) Sf (bx4 rfl (JlC (Jbh)) (Jee gc_ent rfl)) trivial ⟨Rf,Rf,Rf,Rf,Jl rfl,trivial⟩) (JbU (k:=2) Dc))
      ·have t1:=Jn t1
       refine stp ?_
       exact back (3,st1,nx2) ⟨by dsimp only;omega,hok1,JaP hdone hrs (JaJ (.inl t1)),fun j hj=> hrest j (by dsimp only at hj;omega)⟩ Dm (Jr ([ptB nx0 nm a0 a1 a2 a3 a4 mux sub,((1,s1), .c [u32 (d:Nat),Jb x,Ja 10 (st1 0),Ja 11 (st1 1), .hs (12,s) 0 R.length cap,Ja 13 (st1 3),Ja 14 (st1 4),Ja 15 (st1 5),Ja 16 (st1 6)]),((0,s0), .c [int dk,int dn,Jb x,Ji ps])]++JG st1) ([ptB nx0 nm a0 a1 a2 a3 a4 mux sub,((1,s1), .c [u32 (d:Nat),Jb x,Ja 10 (st1 0),Ja 11 (st1 1), .hs (12,s) 0 R.length cap,Ja 13 (st1 3),Ja 14 (st1 4),Ja 15 (st1 5),Ja 16 (st1 6)]),((0,s0), .c [int dk,int dn,Jb x,Ji ps])]++JG st1) [] rfl rfl (List.Perm.append_left _ hP) Sf Sf (BxLe.of_eq (by rw [eo])) trivial ⟨Rf,Rf,Rf,Rf,Jl rfl,trivial⟩)
    ·have hP:=Jdc (k:=3) Dc st1
     have hrk:JbN (st1 3):=hok1 _ Dc
     have hrs:st1 3=st 3:=hrest _ (Nat.le_refl _)
     have hln:(st1 3).1.length≤1000000:=by rw [hrs];exact hlen _ Dc
     rcases hk:st1 3 with ⟨R,_ | ⟨s,cap,tl⟩⟩
     ·rw [hk] at hP hrk hln
      dsimp only at hln
      have eo:Js d x st1= [u32 (d:Nat),Jb x,Ja 10 (st1 0),Ja 11 (st1 1),Ja 12 (st1 2), .os 0 0 (fun _=> .any) none,Ja 14 (st1 4),Ja 15 (st1 5),Ja 16 (st1 6)]:=by simp only [Js,hk,Ja]
      refine AW.le (E':=mk 75 [(1,Jx rs),(2, .bp (0,s0) 0),(3, .bp (1,s1) 0),(4, .bp (20,nx0) 0),(9,int (3:Nat))] (⟨[ptB nx0 nm a0 a1 a2 a3 a4 mux sub,((1,s1), .c [u32 (d:Nat),Jb x,Ja 10 (st1 0),Ja 11 (st1 1),Ja 12 (st1 2), .os 0 0 (fun _=> .any) none,Ja 14 (st1 4),Ja 15 (st1 5),Ja 16 (st1 6)]),((0,s0), .c [int dk,int dn,Jb x,Ji ps])]++(Jp 3 st1), [],nx2,21⟩:Heap)) (Jr ([ptB nx0 nm a0 a1 a2 a3 a4 mux sub,((1,s1), .c (Js d x st1)),((0,s0), .c [int dk,int dn,Jb x,Ji ps])]++(Jp 3 st1)) ([ptB nx0 nm a0 a1 a2 a3 a4 mux sub,((1,s1), .c (Js d x st1)),((0,s0), .c [int dk,int dn,Jb x,Ji ps])]++(Jp 3 st1)) [] rfl rfl (List.Perm.append_left _ hP.symm) Sf Sf (BxLe.of_eq (by rw [eo])) trivial ⟨Rf,Rf,Rf,Rf,Rf,trivial⟩) ?_
      refine stp ?_
      intro c t1;cases c
      ·have t1:=Jm t1
       refine stp ?_
       refine Je rfl rfl (Jcl 3 rs d Dc hl hc) ⟨Rf,Rf,Rf,trivial⟩ fun nx3=> ?_
       refine stp ?_
       intro c t2;cases c
       ·have t2:=Jm t2
        refine stp ?_
        exact back (4,st1,nx3) ⟨by dsimp only;omega,hok1,JaP hdone hrs (JaJ (.inr (.inr (List.eq_nil_of_length_eq_zero Om)))),fun j hj=> hrest j (by dsimp only at hj;omega)⟩ Dm (Jr ([ptB nx0 nm a0 a1 a2 a3 a4 mux sub,((1,s1), .c [u32 (d:Nat),Jb x,Ja 10 (st1 0),Ja 11 (st1 1),Ja 12 (st1 2), .os 0 0 (fun _=> .any) none,Ja 14 (st1 4),Ja 15 (st1 5),Ja 16 (st1 6)]),((0,s0), .c [int dk,int dn,Jb x,Ji ps])]++JG st1) ([ptB nx0 nm a0 a1 a2 a3 a4 mux sub,((1,s1), .c [u32 (d:Nat),Jb x,Ja 10 (st1 0),Ja 11 (st1 1),Ja 12 (st1 2), .os 0 0 (fun _=> .any) none,Ja 14 (st1 4),Ja 15 (st1 5),Ja 16 (st1 6)]),((0,s0), .c [int dk,int dn,Jb x,Ji ps])]++JG st1) [] rfl rfl (List.Perm.append_left _ hP) Sf Sf (BxLe.of_eq (by rw [eo])) trivial ⟨Rf,Rf,Rf,Rf,Jl rfl,trivial⟩)
       ·have t2:=Jn t2
        have hwh:=Jb0 3 a3 Om (hn 3)
        have hen:JaI 3 d x ⟨nm,a0,a1,a2,a3,a4,mux,sub⟩ rs= [⟨wholeN 3 a3,Jau 3 rs d⟩]:=Jcm t1 (fun h=> by cases h.1) (fun h=> by rw [h] at t2;exact absurd t2 Dc)
        generalize Jau 3 rs d=W at t2 hen
        generalize wholeN 3 a3=z at hwh hen
        refine stp ?_
        refine JZ 14 [ptB nx0 nm a0 a1 a2 a3 a4 mux sub,((1,s1), .c [u32 (d:Nat),Jb x,Ja 10 (st1 0),Ja 11 (st1 1),Ja 12 (st1 2), .os 0 0 (fun _=> .any) none,Ja 14 (st1 4),Ja 15 (st1 5),Ja 16 (st1 6)]),((0,s0), .c [int dk,int dn,Jb x,Ji ps])] (fun i=> match i with | 12=> true | _=> false) (fun i=> match i with | 8=> true | _=> false) [0,1,2,3,4,5,6,7,8,9,10,11,13,12] (by kernel_rfl) (by kernel_rfl) (HB.cons rfl (HB.cons rfl (HB.one rfl))) ?_
        refine stp ?_
        refine ⟨_,Jao rfl rfl rfl hwh ⟨Rf,AVle.of_eq (congrArg u32 (JcE Om (hn 3))),trivial⟩ (NoId.v _), ?_⟩
        refine stp ?_
        refine ⟨_,Jco (e:=78) (szx:=2) (m:=1) rfl rfl rfl (.inr ⟨_,rfl⟩) Tryz.underlying35 Jd3 gc_ent.symm Dc (Jy rfl) (by rw [Jd4];omega) Om (fun _=> (HB.cons rfl (HB.cons rfl (HB.one rfl)))),fun r h' hr=> ?_⟩
        obtain ⟨ncap,hge,rfl,rfl⟩:=hr
        refine stp ?_
        exact back (4,JC st1 3 ([]++ [(z,Jx W)],some (nx3,ncap,List.replicate ((ncap - 1) * 2) .any)),nx3+1) ⟨by dsimp only;omega,Jb1 hok1 ⟨(by simpa using hge),by rw [List.length_replicate];show ncap * 2≤1 * 2+_;omega⟩,Jbm (R:= []) hdone hrs (by rw [hk,hrk]) hen,Jbn hrest⟩ Dm (ELe.trans (Jr (pm:= []) (bx:= [ptB nx0 nm a0 a1 a2 a3 a4 mux sub,((1,s1), .c (Js d x (JC st1 3 ([]++ [(z,Jx W)],some (nx3,ncap,List.replicate ((ncap - 1) * 2) .any))))),((0,s0), .c [int dk,int dn,Jb x,Ji ps])]++(JaS 13 ([]++ [(z,Jx W)],some (nx3,ncap,List.replicate ((ncap - 1) * 2) .any))++Jp 3 st1)) (L:= [(1,Jx rs),(2, .bp (0,s0) 0),(3, .bp (1,s1) 0),(4, .bp (20,nx0) 0),(9,int (4:Nat))]) ([ptB nx0 nm a0 a1 a2 a3 a4 mux sub,((1,s1),Own.c [u32 (d:Nat),Jb x,Ja 10 (st1 0),Ja 11 (st1 1),Ja 12 (st1 2), .hs (21,nx3) 0 1 ncap,Ja 14 (st1 4),Ja 15 (st1 5),Ja 16 (st1 6)]),((0,s0), .c [int dk,int dn,Jb x,Ji ps])]++(((21,nx3), .c _)::Jp 3 st1)) ([ptB nx0 nm a0 a1 a2 a3 a4 mux sub,((1,s1),Own.c [u32 (d:Nat),Jb x,Ja 10 (st1 0),Ja 11 (st1 1),Ja 12 (st1 2), .hs (21,nx3) 0 1 ncap,Ja 14 (st1 4),Ja 15 (st1 5),Ja 16 (st1 6)]),((0,s0), .c [int dk,int dn,Jb x,Ji ps])]++(((21,nx3), .c _)::Jp 3 st1)) [] rfl rfl List.perm_middle Sf Sf (bx4 rfl (JlD (Jbh (R:= []))) (JdG gc_ent rfl)) trivial ⟨Rf,Rf,Rf,Rf,Jl rfl,trivial⟩) (JbU (k:=3) Dc))
      ·have t1:=Jn t1
       refine stp ?_
       exact back (4,st1,nx2) ⟨by dsimp only;omega,hok1,JaP hdone hrs (JaJ (.inl t1)),fun j hj=> hrest j (by dsimp only at hj;omega)⟩ Dm (Jr ([ptB nx0 nm a0 a1 a2 a3 a4 mux sub,((1,s1), .c [u32 (d:Nat),Jb x,Ja 10 (st1 0),Ja 11 (st1 1),Ja 12 (st1 2), .os 0 0 (fun _=> .any) none,Ja 14 (st1 4),Ja 15 (st1 5),Ja 16 (st1 6)]),((0,s0), .c [int dk,int dn,Jb x,Ji ps])]++JG st1) ([ptB nx0 nm a0 a1 a2 a3 a4 mux sub,((1,s1), .c [u32 (d:Nat),Jb x,Ja 10 (st1 0),Ja 11 (st1 1),Ja 12 (st1 2), .os 0 0 (fun _=> .any) none,Ja 14 (st1 4),Ja 15 (st1 5),Ja 16 (st1 6)]),((0,s0), .c [int dk,int dn,Jb x,Ji ps])]++JG st1) [] rfl rfl (List.Perm.append_left _ hP) Sf Sf (BxLe.of_eq (by rw [eo])) trivial ⟨Rf,Rf,Rf,Rf,Jl rfl,trivial⟩)
     ·rw [hk] at hP hrk hln
      dsimp only at hln
      have eo:Js d x st1= [u32 (d:Nat),Jb x,Ja 10 (st1 0),Ja 11 (st1 1),Ja 12 (st1 2), .hs (13,s) 0 R.length cap,Ja 14 (st1 4),Ja 15 (st1 5),Ja 16 (st1 6)]:=by simp only [Js,hk,Ja]
      refine AW.le (E':=mk 75 [(1,Jx rs),(2, .bp (0,s0) 0),(3, .bp (1,s1) 0),(4, .bp (20,nx0) 0),(9,int (3:Nat))] (⟨[ptB nx0 nm a0 a1 a2 a3 a4 mux sub,((1,s1), .c [u32 (d:Nat),Jb x,Ja 10 (st1 0),Ja 11 (st1 1),Ja 12 (st1 2), .hs (13,s) 0 R.length cap,Ja 14 (st1 4),Ja 15 (st1 5),Ja 16 (st1 6)]),((0,s0), .c [int dk,int dn,Jb x,Ji ps])]++(((13,s),Own.c (JA R++tl))::Jp 3 st1), [],nx2,21⟩:Heap)) (Jr ([ptB nx0 nm a0 a1 a2 a3 a4 mux sub,((1,s1), .c (Js d x st1)),((0,s0), .c [int dk,int dn,Jb x,Ji ps])]++(((13,s),Own.c (JA R++tl))::Jp 3 st1)) ([ptB nx0 nm a0 a1 a2 a3 a4 mux sub,((1,s1), .c (Js d x st1)),((0,s0), .c [int dk,int dn,Jb x,Ji ps])]++(((13,s),Own.c (JA R++tl))::Jp 3 st1)) [] rfl rfl (List.Perm.append_left _ hP.symm) Sf Sf (BxLe.of_eq (by rw [eo])) trivial ⟨Rf,Rf,Rf,Rf,Rf,trivial⟩) ?_
      refine stp ?_
      intro c t1;cases c
      ·have t1:=Jm t1
       refine stp ?_
       refine Je rfl rfl (Jcl 3 rs d Dc hl hc) ⟨Rf,Rf,Rf,trivial⟩ fun nx3=> ?_
       refine stp ?_
       intro c t2;cases c
       ·have t2:=Jm t2
        refine stp ?_
        exact back (4,st1,nx3) ⟨by dsimp only;omega,hok1,JaP hdone hrs (JaJ (.inr (.inr (List.eq_nil_of_length_eq_zero Om)))),fun j hj=> hrest j (by dsimp only at hj;omega)⟩ Dm (Jr ([ptB nx0 nm a0 a1 a2 a3 a4 mux sub,((1,s1), .c [u32 (d:Nat),Jb x,Ja 10 (st1 0),Ja 11 (st1 1),Ja 12 (st1 2), .hs (13,s) 0 R.length cap,Ja 14 (st1 4),Ja 15 (st1 5),Ja 16 (st1 6)]),((0,s0), .c [int dk,int dn,Jb x,Ji ps])]++JG st1) ([ptB nx0 nm a0 a1 a2 a3 a4 mux sub,((1,s1), .c [u32 (d:Nat),Jb x,Ja 10 (st1 0),Ja 11 (st1 1),Ja 12 (st1 2), .hs (13,s) 0 R.length cap,Ja 14 (st1 4),Ja 15 (st1 5),Ja 16 (st1 6)]),((0,s0), .c [int dk,int dn,Jb x,Ji ps])]++JG st1) [] rfl rfl (List.Perm.append_left _ hP) Sf Sf (BxLe.of_eq (by rw [eo])) trivial ⟨Rf,Rf,Rf,Rf,Jl rfl,trivial⟩)
       ·have t2:=Jn t2
        have hwh:=Jb0 3 a3 Om (hn 3)
        have hen:JaI 3 d x ⟨nm,a0,a1,a2,a3,a4,mux,sub⟩ rs= [⟨wholeN 3 a3,Jau 3 rs d⟩]:=Jcm t1 (fun h=> by cases h.1) (fun h=> by rw [h] at t2;exact absurd t2 Dc)
        generalize Jau 3 rs d=W at t2 hen
        generalize wholeN 3 a3=z at hwh hen
        refine stp ?_
        refine JZ 14 [ptB nx0 nm a0 a1 a2 a3 a4 mux sub,((1,s1), .c [u32 (d:Nat),Jb x,Ja 10 (st1 0),Ja 11 (st1 1),Ja 12 (st1 2), .hs (13,s) 0 R.length cap,Ja 14 (st1 4),Ja 15 (st1 5),Ja 16 (st1 6)]),((0,s0), .c [int dk,int dn,Jb x,Ji ps])] (fun i=> match i with | 12=> true | _=> false) (fun i=> match i with | 8=> true | _=> false) [0,1,2,3,4,5,6,7,8,9,10,11,13,12] (by kernel_rfl) (by kernel_rfl) (HB.cons rfl (HB.cons rfl (HB.one rfl))) ?_
        refine stp ?_
        refine ⟨_,Jao rfl rfl rfl hwh ⟨Rf,AVle.of_eq (congrArg u32 (JcE Om (hn 3))),trivial⟩ (NoId.v _), ?_⟩
        refine stp ?_
        refine ⟨_,JcN (e:=78) (szx:=2) (m:=1) (n:=R.length) (cap:=cap) (i:=(13,s)) (cs:=JA R++tl) rfl rfl rfl (.inr ⟨_,rfl⟩) Tryz.underlying35 Jd3 gc_ent.symm Dc rfl hrk.1 (by rw [gc_ent,List.length_append,JbA];exact hrk.2) (Jy rfl) (by rw [Jd4];omega) Om (HB.cons rfl (HB.cons rfl (HB.one rfl))) (fun _=> (HB.cons rfl (HB.cons rfl (HB.one rfl)))),fun r h' hr=> ?_⟩
        rcases hr with ⟨hfit,rfl,rfl⟩ | ⟨ncap,hge,rfl,rfl⟩
        ·refine stp ?_
         exact back (4,JC st1 3 (R++ [(z,Jx W)],some (s,cap,tl.drop 2)),nx3) ⟨by dsimp only;omega,Jb1 hok1 ⟨by rw [List.length_append];exact hfit,by have:=hrk.2;rw [List.length_append,List.length_drop,List.length_singleton];omega⟩,Jbm (R:=R) hdone hrs hk hen,Jbn hrest⟩ Dm (ELe.trans (Jr (pm:= []) (bx:= [ptB nx0 nm a0 a1 a2 a3 a4 mux sub,((1,s1), .c (Js d x (JC st1 3 (R++ [(z,Jx W)],some (s,cap,tl.drop 2))))),((0,s0), .c [int dk,int dn,Jb x,Ji ps])]++(JaS 13 (R++ [(z,Jx W)],some (s,cap,tl.drop 2))++Jp 3 st1)) (L:= [(1,Jx rs),(2, .bp (0,s0) 0),(3, .bp (1,s1) 0),(4, .bp (20,nx0) 0),(9,int (4:Nat))]) ([ptB nx0 nm a0 a1 a2 a3 a4 mux sub,((1,s1),Own.c [u32 (d:Nat),Jb x,Ja 10 (st1 0),Ja 11 (st1 1),Ja 12 (st1 2), .hs (13,s) 0 (R.length+1) cap,Ja 14 (st1 4),Ja 15 (st1 5),Ja 16 (st1 6)]),((0,s0), .c [int dk,int dn,Jb x,Ji ps])]++(((13,s), .c _)::Jp 3 st1)) ([ptB nx0 nm a0 a1 a2 a3 a4 mux sub,((1,s1),Own.c [u32 (d:Nat),Jb x,Ja 10 (st1 0),Ja 11 (st1 1),Ja 12 (st1 2), .hs (13,s) 0 (R.length+1) cap,Ja 14 (st1 4),Ja 15 (st1 5),Ja 16 (st1 6)]),((0,s0), .c [int dk,int dn,Jb x,Ji ps])]++(((13,s), .c _)::Jp 3 st1)) [] rfl rfl (List.Perm.refl _) Sf Sf (bx4 rfl (JlD (Jbh)) (Jgm gc_ent rfl)) trivial ⟨Rf,Rf,Rf,Rf,Jl rfl,trivial⟩) (JbU (k:=3) Dc))
        ·refine stp ?_
         exact back (4,JC st1 3 (R++ [(z,Jx W)],some (nx3,ncap,List.replicate ((ncap - (R.length+1)) * 2) .any)),nx3+1) ⟨by dsimp only;omega,Jb1 hok1 ⟨by rw [List.length_append];exact hge,by rw [List.length_append,List.length_replicate,List.length_singleton,← Nat.add_mul];omega⟩,Jbm (R:=R) hdone hrs hk hen,Jbn hrest⟩ Dm (ELe.trans (Jr (pm:= []) (bx:= [ptB nx0 nm a0 a1 a2 a3 a4 mux sub,((1,s1), .c (Js d x (JC st1 3 (R++ [(z,Jx W)],some (nx3,ncap,List.replicate ((ncap - (R.length+1)) * 2) .any))))),((0,s0), .c [int dk,int dn,Jb x,Ji ps])]++(JaS 13 (R++ [(z,Jx W)],some (nx3,ncap,List.replicate ((ncap - (R.length+1)) * 2) .any))++Jp 3 st1)) (L:= [(1,Jx rs),(2, .bp (0,s0) 0),(3, .bp (1,s1) 0),(4, .bp (20,nx0) 0),(9,int (4:Nat))]) ([ptB nx0 nm a0 a1 a2 a3 a4 mux sub,((1,s1),Own.c [u32 (d:Nat),Jb x,Ja 10 (st1 0),Ja 11 (st1 1),Ja 12 (st1 2), .hs (21,nx3) 0 (R.length+1) ncap,Ja 14 (st1 4),Ja 15 (st1 5),Ja 16 (st1 6)]),((0,s0), .c [int dk,int dn,Jb x,Ji ps])]++(((21,nx3), .c _)::((13,s),Own.c (JA R++tl))::Jp 3 st1)) ([ptB nx0 nm a0 a1 a2 a3 a4 mux sub,((1,s1),Own.c [u32 (d:Nat),Jb x,Ja 10 (st1 0),Ja 11 (st1 1),Ja 12 (st1 2), .hs (21,nx3) 0 (R.length+1) ncap,Ja 14 (st1 4),Ja 15 (st1 5),Ja 16 (st1 6)]),((0,s0), .c [int dk,int dn,Jb x,Ji ps])]++(((21,nx3), .c _)::Jp 3 st1)) [] rfl rfl List.perm_middle (List.Sublist.append_left (.cons_cons _ (.cons _ Sf)) _) Sf (bx4 rfl (JlD (Jbh)) (Jee gc_ent rfl)) trivial ⟨Rf,Rf,Rf,Rf,Jl rfl,trivial⟩) (JbU (k:=3) Dc))
      ·have t1:=Jn t1
       refine stp ?_
       exact back (4,st1,nx2) ⟨by dsimp only;omega,hok1,JaP hdone hrs (JaJ (.inl t1)),fun j hj=> hrest j (by dsimp only at hj;omega)⟩ Dm (Jr ([ptB nx0 nm a0 a1 a2 a3 a4 mux sub,((1,s1), .c [u32 (d:Nat),Jb x,Ja 10 (st1 0),Ja 11 (st1 1),Ja 12 (st1 2), .hs (13,s) 0 R.length cap,Ja 14 (st1 4),Ja 15 (st1 5),Ja 16 (st1 6)]),((0,s0), .c [int dk,int dn,Jb x,Ji ps])]++JG st1) ([ptB nx0 nm a0 a1 a2 a3 a4 mux sub,((1,s1), .c [u32 (d:Nat),Jb x,Ja 10 (st1 0),Ja 11 (st1 1),Ja 12 (st1 2), .hs (13,s) 0 R.length cap,Ja 14 (st1 4),Ja 15 (st1 5),Ja 16 (st1 6)]),((0,s0), .c [int dk,int dn,Jb x,Ji ps])]++JG st1) [] rfl rfl (List.Perm.append_left _ hP) Sf Sf (BxLe.of_eq (by rw [eo])) trivial ⟨Rf,Rf,Rf,Rf,Jl rfl,trivial⟩)
    ·have hP:=Jdc (k:=4) Dc st1
     have hrk:JbN (st1 4):=hok1 _ Dc
     have hrs:st1 4=st 4:=hrest _ (Nat.le_refl _)
     have hln:(st1 4).1.length≤1000000:=by rw [hrs];exact hlen _ Dc
     rcases hk:st1 4 with ⟨R,_ | ⟨s,cap,tl⟩⟩
     ·rw [hk] at hP hrk hln
      dsimp only at hln
      have eo:Js d x st1= [u32 (d:Nat),Jb x,Ja 10 (st1 0),Ja 11 (st1 1),Ja 12 (st1 2),Ja 13 (st1 3), .os 0 0 (fun _=> .any) none,Ja 15 (st1 5),Ja 16 (st1 6)]:=by simp only [Js,hk,Ja]
      refine AW.le (E':=mk 75 [(1,Jx rs),(2, .bp (0,s0) 0),(3, .bp (1,s1) 0),(4, .bp (20,nx0) 0),(9,int (4:Nat))] (⟨[ptB nx0 nm a0 a1 a2 a3 a4 mux sub,((1,s1), .c [u32 (d:Nat),Jb x,Ja 10 (st1 0),Ja 11 (st1 1),Ja 12 (st1 2),Ja 13 (st1 3), .os 0 0 (fun _=> .any) none,Ja 15 (st1 5),Ja 16 (st1 6)]),((0,s0), .c [int dk,int dn,Jb x,Ji ps])]++(Jp 4 st1), [],nx2,21⟩:Heap)) (Jr ([ptB nx0 nm a0 a1 a2 a3 a4 mux sub,((1,s1), .c (Js d x st1)),((0,s0), .c [int dk,int dn,Jb x,Ji ps])]++(Jp 4 st1)) ([ptB nx0 nm a0 a1 a2 a3 a4 mux sub,((1,s1), .c (Js d x st1)),((0,s0), .c [int dk,int dn,Jb x,Ji ps])]++(Jp 4 st1)) [] rfl rfl (List.Perm.append_left _ hP.symm) Sf Sf (BxLe.of_eq (by rw [eo])) trivial ⟨Rf,Rf,Rf,Rf,Rf,trivial⟩) ?_
      refine stp ?_
      intro c t1;cases c
      ·have t1:=Jm t1
       refine stp ?_
       refine Je rfl rfl (Jcl 4 rs d Dc hl hc) ⟨Rf,Rf,Rf,trivial⟩ fun nx3=> ?_
       refine stp ?_
       intro c t2;cases c
       ·have t2:=Jm t2
        refine stp ?_
        exact back (5,st1,nx3) ⟨by dsimp only;omega,hok1,JaP hdone hrs (JaJ (.inr (.inr (List.eq_nil_of_length_eq_zero Om)))),fun j hj=> hrest j (by dsimp only at hj;omega)⟩ Dm (Jr ([ptB nx0 nm a0 a1 a2 a3 a4 mux sub,((1,s1), .c [u32 (d:Nat),Jb x,Ja 10 (st1 0),Ja 11 (st1 1),Ja 12 (st1 2),Ja 13 (st1 3), .os 0 0 (fun _=> .any) none,Ja 15 (st1 5),Ja 16 (st1 6)]),((0,s0), .c [int dk,int dn,Jb x,Ji ps])]++JG st1) ([ptB nx0 nm a0 a1 a2 a3 a4 mux sub,((1,s1), .c [u32 (d:Nat),Jb x,Ja 10 (st1 0),Ja 11 (st1 1),Ja 12 (st1 2),Ja 13 (st1 3), .os 0 0 (fun _=> .any) none,Ja 15 (st1 5),Ja 16 (st1 6)]),((0,s0), .c [int dk,int dn,Jb x,Ji ps])]++JG st1) [] rfl rfl (List.Perm.append_left _ hP) Sf Sf (BxLe.of_eq (by rw [eo])) trivial ⟨Rf,Rf,Rf,Rf,Jl rfl,trivial⟩)
       ·have t2:=Jn t2
        have hwh:=Jb0 4 a4 Om (hn 4)
        have hen:JaI 4 d x ⟨nm,a0,a1,a2,a3,a4,mux,sub⟩ rs= [⟨wholeN 4 a4,Jau 4 rs d⟩]:=Jcm t1 (fun h=> by cases h.1) (fun h=> by rw [h] at t2;exact absurd t2 Dc)
        generalize Jau 4 rs d=W at t2 hen
        generalize wholeN 4 a4=z at hwh hen
        refine stp ?_
        refine JZ 14 [ptB nx0 nm a0 a1 a2 a3 a4 mux sub,((1,s1), .c [u32 (d:Nat),Jb x,Ja 10 (st1 0),Ja 11 (st1 1),Ja 12 (st1 2),Ja 13 (st1 3), .os 0 0 (fun _=> .any) none,Ja 15 (st1 5),Ja 16 (st1 6)]),((0,s0), .c [int dk,int dn,Jb x,Ji ps])] (fun i=> match i with | 12=> true | _=> false) (fun i=> match i with | 8=> true | _=> false) [0,1,2,3,4,5,6,7,8,9,10,11,13,12] (by kernel_rfl) (by kernel_rfl) (HB.cons rfl (HB.cons rfl (HB.one rfl))) ?_
        refine stp ?_
        refine ⟨_,Jao rfl rfl rfl hwh ⟨Rf,AVle.of_eq (congrArg u32 (JcE Om (hn 4))),trivial⟩ (NoId.v _), ?_⟩
        refine stp ?_
        refine ⟨_,Jco (e:=78) (szx:=2) (m:=1) rfl rfl rfl (.inr ⟨_,rfl⟩) Tryz.underlying35 Jd3 gc_ent.symm Dc (Jy rfl) (by rw [Jd4];omega) Om (fun _=> (HB.cons rfl (HB.cons rfl (HB.one rfl)))),fun r h' hr=> ?_⟩
        obtain ⟨ncap,hge,rfl,rfl⟩:=hr
        refine stp ?_
        exact back (5,JC st1 4 ([]++ [(z,Jx W)],some (nx3,ncap,List.replicate ((ncap - 1) * 2) .any)),nx3+1) ⟨by dsimp only;omega,Jb1 hok1 ⟨(by simpa using hge),by rw [List.length_replicate];show ncap * 2≤1 * 2+_;omega⟩,Jbm (R:= []) hdone hrs (by rw [hk,hrk]) hen,Jbn hrest⟩ Dm (ELe.trans (Jr (pm:= []) (bx:= [ptB nx0 nm a0 a1 a2 a3 a4 mux sub,((1,s1), .c (Js d x (JC st1 4 ([]++ [(z,Jx W)],some (nx3,ncap,List.replicate ((ncap - 1) * 2) .any))))),((0,s0), .c [int dk,int dn,Jb x,Ji ps])]++(JaS 14 ([]++ [(z,Jx W)],some (nx3,ncap,List.replicate ((ncap - 1) * 2) .any))++Jp 4 st1)) (L:= [(1,Jx rs),(2, .bp (0,s0) 0),(3, .bp (1,s1) 0),(4, .bp (20,nx0) 0),(9,int (5:Nat))]) ([ptB nx0 nm a0 a1 a2 a3 a4 mux sub,((1,s1),Own.c [u32 (d:Nat),Jb x,Ja 10 (st1 0),Ja 11 (st1 1),Ja 12 (st1 2),Ja 13 (st1 3), .hs (21,nx3) 0 1 ncap,Ja 15 (st1 5),Ja 16 (st1 6)]),((0,s0), .c [int dk,int dn,Jb x,Ji ps])]++(((21,nx3), .c _)::Jp 4 st1)) ([ptB nx0 nm a0 a1 a2 a3 a4 mux sub,((1,s1),Own.c [u32 (d:Nat),Jb x,Ja 10 (st1 0),Ja 11 (st1 1),Ja 12 (st1 2),Ja 13 (st1 3), .hs (21,nx3) 0 1 ncap,Ja 15 (st1 5),Ja 16 (st1 6)]),((0,s0), .c [int dk,int dn,Jb x,Ji ps])]++(((21,nx3), .c _)::Jp 4 st1)) [] rfl rfl List.perm_middle Sf Sf (bx4 rfl (JlE (Jbh (R:= []))) (JdG gc_ent rfl)) trivial ⟨Rf,Rf,Rf,Rf,Jl rfl,trivial⟩) (JbU (k:=4) Dc))
      ·have t1:=Jn t1
       refine stp ?_
       exact back (5,st1,nx2) ⟨by dsimp only;omega,hok1,JaP hdone hrs (JaJ (.inl t1)),fun j hj=> hrest j (by dsimp only at hj;omega)⟩ Dm (Jr ([ptB nx0 nm a0 a1 a2 a3 a4 mux sub,((1,s1), .c [u32 (d:Nat),Jb x,Ja 10 (st1 0),Ja 11 (st1 1),Ja 12 (st1 2),Ja 13 (st1 3), .os 0 0 (fun _=> .any) none,Ja 15 (st1 5),Ja 16 (st1 6)]),((0,s0), .c [int dk,int dn,Jb x,Ji ps])]++JG st1) ([ptB nx0 nm a0 a1 a2 a3 a4 mux sub,((1,s1), .c [u32 (d:Nat),Jb x,Ja 10 (st1 0),Ja 11 (st1 1),Ja 12 (st1 2),Ja 13 (st1 3), .os 0 0 (fun _=> .any) none,Ja 15 (st1 5),Ja 16 (st1 6)]),((0,s0), .c [int dk,int dn,Jb x,Ji ps])]++JG st1) [] rfl rfl (List.Perm.append_left _ hP) Sf Sf (BxLe.of_eq (by rw [eo])) trivial ⟨Rf,Rf,Rf,Rf,Jl rfl,trivial⟩)
     ·rw [hk] at hP hrk hln
      dsimp only at hln
      have eo:Js d x st1= [u32 (d:Nat),Jb x,Ja 10 (st1 0),Ja 11 (st1 1),Ja 12 (st1 2),Ja 13 (st1 3), .hs (14,s) 0 R.length cap,Ja 15 (st1 5),Ja 16 (st1 6)]:=by simp only [Js,hk,Ja]
      refine AW.le (E':=mk 75 [(1,Jx rs),(2, .bp (0,s0) 0),(3, .bp (1,s1) 0),(4, .bp (20,nx0) 0),(9,int (4:Nat))] (⟨[ptB nx0 nm a0 a1 a2 a3 a4 mux sub,((1,s1), .c [u32 (d:Nat),Jb x,Ja 10 (st1 0),Ja 11 (st1 1),Ja 12 (st1 2),Ja 13 (st1 3), .hs (14,s) 0 R.length cap,Ja 15 (st1 5),Ja 16 (st1 6)]),((0,s0), .c [int dk,int dn,Jb x,Ji ps])]++(((14,s),Own.c (JA R++tl))::Jp 4 st1), [],nx2,21⟩:Heap)) (Jr ([ptB nx0 nm a0 a1 a2 a3 a4 mux sub,((1,s1), .c (Js d x st1)),((0,s0), .c [int dk,int dn,Jb x,Ji ps])]++(((14,s),Own.c (JA R++tl))::Jp 4 st1)) ([ptB nx0 nm a0 a1 a2 a3 a4 mux sub,((1,s1), .c (Js d x st1)),((0,s0), .c [int dk,int dn,Jb x,Ji ps])]++(((14,s),Own.c (JA R++tl))::Jp 4 st1)) [] rfl rfl (List.Perm.append_left _ hP.symm) Sf Sf (BxLe.of_eq (by rw [eo])) trivial ⟨Rf,Rf,Rf,Rf,Rf,trivial⟩) ?_
      refine stp ?_
      intro c t1;cases c
      ·have t1:=Jm t1
       refine stp ?_
       refine Je rfl rfl (Jcl 4 rs d Dc hl hc) ⟨Rf,Rf,Rf,trivial⟩ fun nx3=> ?_
       refine stp ?_
       intro c t2;cases c
       ·have t2:=Jm t2
        refine stp ?_
        exact back (5,st1,nx3) ⟨by dsimp only;omega,hok1,JaP hdone hrs (JaJ (.inr (.inr (List.eq_nil_of_length_eq_zero Om)))),fun j hj=> hrest j (by dsimp only at hj;omega)⟩ Dm (Jr ([ptB nx0 nm a0 a1 a2 a3 a4 mux sub,((1,s1), .c [u32 (d:Nat),Jb x,Ja 10 (st1 0),Ja 11 (st1 1),Ja 12 (st1 2),Ja 13 (st1 3), .hs (14,s) 0 R.length cap,Ja 15 (st1 5),Ja 16 (st1 6)]),((0,s0), .c [int dk,int dn,Jb x,Ji ps])]++JG st1) ([ptB nx0 nm a0 a1 a2 a3 a4 mux sub,((1,s1), .c [u32 (d:Nat),Jb x,Ja 10 (st1 0),Ja 11 (st1 1),Ja 12 (st1 2),Ja 13 (st1 3), .hs (14,s) 0 R.length cap,Ja 15 (st1 5),Ja 16 (st1 6)]),((0,s0), .c [int dk,int dn,Jb x,Ji ps])]++JG st1) [] rfl rfl (List.Perm.append_left _ hP) Sf Sf (BxLe.of_eq (by rw [eo])) trivial ⟨Rf,Rf,Rf,Rf,Jl rfl,trivial⟩)
       ·have t2:=Jn t2
        have hwh:=Jb0 4 a4 Om (hn 4)
        have hen:JaI 4 d x ⟨nm,a0,a1,a2,a3,a4,mux,sub⟩ rs= [⟨wholeN 4 a4,Jau 4 rs d⟩]:=Jcm t1 (fun h=> by cases h.1) (fun h=> by rw [h] at t2;exact absurd t2 Dc)
        generalize Jau 4 rs d=W at t2 hen
        generalize wholeN 4 a4=z at hwh hen
        refine stp ?_
        refine JZ 14 [ptB nx0 nm a0 a1 a2 a3 a4 mux sub,((1,s1), .c [u32 (d:Nat),Jb x,Ja 10 (st1 0),Ja 11 (st1 1),Ja 12 (st1 2),Ja 13 (st1 3), .hs (14,s) 0 R.length cap,Ja 15 (st1 5),Ja 16 (st1 6)]),((0,s0), .c [int dk,int dn,Jb x,Ji ps])] (fun i=> match i with | 12=> true | _=> false) (fun i=> match i with | 8=> true | _=> false) [0,1,2,3,4,5,6,7,8,9,10,11,13,12] (by kernel_rfl) (by kernel_rfl) (HB.cons rfl (HB.cons rfl (HB.one rfl))) ?_
        refine stp ?_
        refine ⟨_,Jao rfl rfl rfl hwh ⟨Rf,AVle.of_eq (congrArg u32 (JcE Om (hn 4))),trivial⟩ (NoId.v _), ?_⟩
        refine stp ?_
        refine ⟨_,JcN (e:=78) (szx:=2) (m:=1) (n:=R.length) (cap:=cap) (i:=(14,s)) (cs:=JA R++tl) rfl rfl rfl (.inr ⟨_,rfl⟩) Tryz.underlying35 Jd3 gc_ent.symm Dc rfl hrk.1 (by rw [gc_ent,List.length_append,JbA];exact hrk.2) (Jy rfl) (by rw [Jd4];omega) Om (HB.cons rfl (HB.cons rfl (HB.one rfl))) (fun _=> (HB.cons rfl (HB.cons rfl (HB.one rfl)))),fun r h' hr=> ?_⟩
        rcases hr with ⟨hfit,rfl,rfl⟩ | ⟨ncap,hge,rfl,rfl⟩
        ·refine stp ?_
         exact back (5,JC st1 4 (R++ [(z,Jx W)],some (s,cap,tl.drop 2)),nx3) ⟨by dsimp only;omega,Jb1 hok1 ⟨by rw [List.length_append];exact hfit,by have:=hrk.2;rw [List.length_append,List.length_drop,List.length_singleton];omega⟩,Jbm (R:=R) hdone hrs hk hen,Jbn hrest⟩ Dm (ELe.trans (Jr (pm:= []) (bx:= [ptB nx0 nm a0 a1 a2 a3 a4 mux sub,((1,s1), .c (Js d x (JC st1 4 (R++ [(z,Jx W)],some (s,cap,tl.drop 2))))),((0,s0), .c [int dk,int dn,Jb x,Ji ps])]++(JaS 14 (R++ [(z,Jx W)],some (s,cap,tl.drop 2))++Jp 4 st1)) (L:= [(1,Jx rs),(2, .bp (0,s0) 0),(3, .bp (1,s1) 0),(4, .bp (20,nx0) 0),(9,int (5:Nat))]) ([ptB nx0 nm a0 a1 a2 a3 a4 mux sub,((1,s1),Own.c [u32 (d:Nat),Jb x,Ja 10 (st1 0),Ja 11 (st1 1),Ja 12 (st1 2),Ja 13 (st1 3), .hs (14,s) 0 (R.length+1) cap,Ja 15 (st1 5),Ja 16 (st1 6)]),((0,s0), .c [int dk,int dn,Jb x,Ji ps])]++(((14,s), .c _)::Jp 4 st1)) ([ptB nx0 nm a0 a1 a2 a3 a4 mux sub,((1,s1),Own.c [u32 (d:Nat),Jb x,Ja 10 (st1 0),Ja 11 (st1 1),Ja 12 (st1 2),Ja 13 (st1 3), .hs (14,s) 0 (R.length+1) cap,Ja 15 (st1 5),Ja 16 (st1 6)]),((0,s0), .c [int dk,int dn,Jb x,Ji ps])]++(((14,s), .c _)::Jp 4 st1)) [] rfl rfl (List.Perm.refl _) Sf Sf (bx4 rfl (JlE (Jbh)) (Jgm gc_ent rfl)) trivial ⟨Rf,Rf,Rf,Rf,Jl rfl,trivial⟩) (JbU (k:=4) Dc))
        ·refine stp ?_
         exact back (5,JC st1 4 (R++ [(z,Jx W)],some (nx3,ncap,List.replicate ((ncap - (R.length+1)) * 2) .any)),nx3+1) ⟨by dsimp only;omega,Jb1 hok1 ⟨by rw [List.length_append];exact hge,by rw [List.length_append,List.length_replicate,List.length_singleton,← Nat.add_mul];omega⟩,Jbm (R:=R) hdone hrs hk hen,Jbn hrest⟩ Dm (ELe.trans (Jr (pm:= []) (bx:= [ptB nx0 nm a0 a1 a2 a3 a4 mux sub,((1,s1), .c (Js d x (JC st1 4 (R++ [(z,Jx W)],some (nx3,ncap,List.replicate ((ncap - (R.length+1)) * 2) .any))))),((0,s0), .c [int dk,int dn,Jb x,Ji ps])]++(JaS 14 (R++ [(z,Jx W)],some (nx3,ncap,List.replicate ((ncap - (R.length+1)) * 2) .any))++Jp 4 st1)) (L:= [(1,Jx rs),(2, .bp (0,s0) 0),(3, .bp (1,s1) 0),(4, .bp (20,nx0) 0),(9,int (5:Nat))]) ([ptB nx0 nm a0 a1 a2 a3 a4 mux sub,((1,s1),Own.c [u32 (d:Nat),Jb x,Ja 10 (st1 0),Ja 11 (st1 1),Ja 12 (st1 2),Ja 13 (st1 3), .hs (21,nx3) 0 (R.length+1) ncap,Ja 15 (st1 5),Ja 16 (st1 6)]),((0,s0), .c [int dk,int dn,Jb x,Ji ps])]++(((21,nx3), .c _)::((14,s),Own.c (JA R++tl))::Jp 4 st1)) ([ptB nx0 nm a0 a1 a2 a3 a4 mux sub,((1,s1),Own.c [u32 (d:Nat),Jb x,Ja 10 (st1 0),Ja 11 (st1 1),Ja 12 (st1 2),Ja 13 (st1 3), .hs (21,nx3) 0 (R.length+1) ncap,Ja 15 (st1 5),Ja 16 (st1 6)]),((0,s0), .c [int dk,int dn,Jb x,Ji ps])]++(((21,nx3), .c _)::Jp 4 st1)) [] rfl rfl List.perm_middle (List.Sublist.append_left (.cons_cons _ (.cons _ Sf)) _) Sf (bx4 rfl (JlE (Jbh)) (Jee gc_ent rfl)) trivial ⟨Rf,Rf,Rf,Rf,Jl rfl,trivial⟩) (JbU (k:=4) Dc))
      ·have t1:=Jn t1
       refine stp ?_
       exact back (5,st1,nx2) ⟨by dsimp only;omega,hok1,JaP hdone hrs (JaJ (.inl t1)),fun j hj=> hrest j (by dsimp only at hj;omega)⟩ Dm (Jr ([ptB nx0 nm a0 a1 a2 a3 a4 mux sub,((1,s1), .c [u32 (d:Nat),Jb x,Ja 10 (st1 0),Ja 11 (st1 1),Ja 12 (st1 2),Ja 13 (st1 3), .hs (14,s) 0 R.length cap,Ja 15 (st1 5),Ja 16 (st1 6)]),((0,s0), .c [int dk,int dn,Jb x,Ji ps])]++JG st1) ([ptB nx0 nm a0 a1 a2 a3 a4 mux sub,((1,s1), .c [u32 (d:Nat),Jb x,Ja 10 (st1 0),Ja 11 (st1 1),Ja 12 (st1 2),Ja 13 (st1 3), .hs (14,s) 0 R.length cap,Ja 15 (st1 5),Ja 16 (st1 6)]),((0,s0), .c [int dk,int dn,Jb x,Ji ps])]++JG st1) [] rfl rfl (List.Perm.append_left _ hP) Sf Sf (BxLe.of_eq (by rw [eo])) trivial ⟨Rf,Rf,Rf,Rf,Jl rfl,trivial⟩)
 ·rintro ⟨st1,nx2⟩ ⟨hok1,hdone,hrest⟩
  dsimp only at hok1 hdone hrest
  rcases hm with rfl | rfl | rfl
  ·refine stp ?_
   exact JaG rfl ⟨.tup [],⟨[((1,s1), .c (Js d x st1)),((0,s0), .c [int dk,int dn,Jb x,Ji ps])]++JG st1, [],nx2,21⟩,Rf,JaR _ [] rfl (.cons _ Sf) Sf Bf trivial,rfl,st1,_,_,⟨hok1,hdone,fun m hm=> by rw [show JbM m ⟨nm,a0,a1,a2,a3,a4,0,sub⟩ rs= [] from if_neg (show ¬(0:Int)=(m:Int)+1 by omega),hrest m hm];exact (List.append_nil _).symm⟩,rfl⟩
  ·have hP:=Jdc (k:=5) Dc st1
   have hrk:JbN (st1 5):=hok1 _ Dc
   have hrs:st1 5=st 5:=hrest 0 Dc
   have hln:(st1 5).1.length≤1000000:=by rw [hrs];exact hlen _ Dc
   have hsb:JbM 0 ⟨nm,a0,a1,a2,a3,a4,1,sub⟩ rs= [⟨sub.toNat,(rs.getD 0 Jw).code⟩]:=if_pos (show ((1:Nat):Int)=((0:Nat):Int)+1 by decide)
   have hso:∀j,j < 2→j≠0→JbM j ⟨nm,a0,a1,a2,a3,a4,1,sub⟩ rs= []:=fun j hj hne=> if_neg (show ¬((1:Nat):Int)=(j:Int)+1 by omega)
   have hs1:0≤sub:=hs.1
   have hs2:sub≤255:=hs.2
   have hr0:0 < rs.length:=List.length_pos_iff.2 hr
   have hwr:IntKind.u32.wrap sub=((sub.toNat:Nat):Int):=by rw [JcE hs1 Om];omega
   have hw2: [AV.v (.int .u32 (IntKind.u32.wrap sub)),u32 ((rs.getD 0 Jw).code:Nat)]= [AV.v (.int .u32 ((Jar ⟨sub.toNat,(rs.getD 0 Jw).code⟩).1:Nat)),(Jar ⟨sub.toNat,(rs.getD 0 Jw).code⟩).2]:=congrArg (fun z:Int=> [AV.v (.int .u32 z),u32 ((rs.getD 0 Jw).code:Nat)]) hwr
   rcases hk:st1 5 with ⟨R,_ | ⟨s,cap,tl⟩⟩
   ·rw [hk] at hP hrk hln
    dsimp only at hln
    have eo:Js d x st1= [u32 (d:Nat),Jb x,Ja 10 (st1 0),Ja 11 (st1 1),Ja 12 (st1 2),Ja 13 (st1 3),Ja 14 (st1 4), .os 0 0 (fun _=> .any) none,Ja 16 (st1 6)]:=by simp only [Js,hk,Ja]
    refine AW.le (E':=mk 75 [(1,Jx rs),(2, .bp (0,s0) 0),(3, .bp (1,s1) 0),(4, .bp (20,nx0) 0)] (⟨[((20,nx0), .c [Jg nm,int a0,int a1,int a2,int a3,int a4,int 1,int sub]),((1,s1), .c [u32 (d:Nat),Jb x,Ja 10 (st1 0),Ja 11 (st1 1),Ja 12 (st1 2),Ja 13 (st1 3),Ja 14 (st1 4), .os 0 0 (fun _=> .any) none,Ja 16 (st1 6)]),((0,s0), .c [int dk,int dn,Jb x,Ji ps])]++(Jp 5 st1), [],nx2,21⟩:Heap)) (Jr ([((20,nx0), .c [Jg nm,int a0,int a1,int a2,int a3,int a4,int 1,int sub]),((1,s1), .c (Js d x st1)),((0,s0), .c [int dk,int dn,Jb x,Ji ps])]++(Jp 5 st1)) ([((20,nx0), .c [Jg nm,int a0,int a1,int a2,int a3,int a4,int 1,int sub]),((1,s1), .c (Js d x st1)),((0,s0), .c [int dk,int dn,Jb x,Ji ps])]++(Jp 5 st1)) [] rfl rfl (List.Perm.append_left _ hP.symm) Sf Sf (BxLe.of_eq (by rw [eo])) trivial ⟨Rf,Rf,Rf,Rf,trivial⟩) ?_
    refine stp ?_
    refine JZ 20 [((20,nx0), .c [Jg nm,int a0,int a1,int a2,int a3,int a4,int 1,int sub]),((1,s1), .c [u32 (d:Nat),Jb x,Ja 10 (st1 0),Ja 11 (st1 1),Ja 12 (st1 2),Ja 13 (st1 3),Ja 14 (st1 4), .os 0 0 (fun _=> .any) none,Ja 16 (st1 6)]),((0,s0), .c [int dk,int dn,Jb x,Ji ps])] (fun i=> match i with | 18=> true | _=> false) (fun _=> false) [0,1,2,3,4,5,6,7,8,9,10,11,12,13,14,15,16,17,19,18] (by kernel_rfl) (by kernel_rfl) (HB.cons rfl (HB.cons rfl (HB.one rfl))) ?_
    refine stp ?_
    refine ⟨Bd,J7 (b:= .rp (JcQ (rs.getD 0 Jw)).cells) rfl ?_⟩
    refine stp ?_
    refine ⟨_,Jco (e:=120) (szx:=2) (m:=1) rfl rfl rfl (.inr ⟨_,rfl⟩) Tryz.underlying37 JkW gc_sub.symm Dc (Jy rfl) (by rw [JkX];omega) Om (fun _=> (HB.cons rfl (HB.cons rfl (HB.one rfl)))),fun r h' hr=> ?_⟩
    obtain ⟨ncap,hge,rfl,rfl⟩:=hr
    refine stp ?_
    exact JaG rfl ⟨.tup [],⟨[((1,s1), .c (Js d x (JC st1 5 ([]++ [Jar ⟨sub.toNat,(rs.getD 0 Jw).code⟩],some (nx2,ncap,List.replicate ((ncap - 1) * 2) .any))))),((0,s0), .c [int dk,int dn,Jb x,Ji ps])]++JG (JC st1 5 ([]++ [Jar ⟨sub.toNat,(rs.getD 0 Jw).code⟩],some (nx2,ncap,List.replicate ((ncap - 1) * 2) .any))), [],nx2+1,21⟩,Rf,HLe.trans (Jep (bx:= [((1,s1), .c (Js d x (JC st1 5 ([]++ [Jar ⟨sub.toNat,(rs.getD 0 Jw).code⟩],some (nx2,ncap,List.replicate ((ncap - 1) * 2) .any))))),((0,s0), .c [int dk,int dn,Jb x,Ji ps])]++(JaS 15 ([]++ [Jar ⟨sub.toNat,(rs.getD 0 Jw).code⟩],some (nx2,ncap,List.replicate ((ncap - 1) * 2) .any))++Jp 5 st1)) ([((20,nx0), .c [Jg nm,int a0,int a1,int a2,int a3,int a4,int 1,int sub]),((1,s1),Own.c [u32 (d:Nat),Jb x,Ja 10 (st1 0),Ja 11 (st1 1),Ja 12 (st1 2),Ja 13 (st1 3),Ja 14 (st1 4), .hs (21,nx2) 0 1 ncap,Ja 16 (st1 6)]),((0,s0), .c [int dk,int dn,Jb x,Ji ps])]++(((21,nx2), .c _)::Jp 5 st1)) ([((1,s1),Own.c [u32 (d:Nat),Jb x,Ja 10 (st1 0),Ja 11 (st1 1),Ja 12 (st1 2),Ja 13 (st1 3),Ja 14 (st1 4), .hs (21,nx2) 0 1 ncap,Ja 16 (st1 6)]),((0,s0), .c [int dk,int dn,Jb x,Ji ps])]++(((21,nx2), .c _)::Jp 5 st1)) rfl List.perm_middle (.cons _ Sf) rfl (bx3 rfl (JlF (Jbh (R:= []))) (JdG (e:=Jar ⟨sub.toNat,(rs.getD 0 Jw).code⟩) gc_sub (by exact hw2)))) (JfW (k:=5) Dc),rfl,JC st1 5 ([]++ [Jar ⟨sub.toNat,(rs.getD 0 Jw).code⟩],some (nx2,ncap,List.replicate ((ncap - 1) * 2) .any)),_,_,JfV (m:=0) (R:= []) Dc hok1 hdone hrest (by rw [hk,hrk]) ⟨(by simpa using hge),by rw [List.length_replicate];show ncap * 2≤1 * 2+_;omega⟩ hsb hso,rfl⟩
   ·rw [hk] at hP hrk hln
    dsimp only at hln
    have eo:Js d x st1= [u32 (d:Nat),Jb x,Ja 10 (st1 0),Ja 11 (st1 1),Ja 12 (st1 2),Ja 13 (st1 3),Ja 14 (st1 4), .hs (15,s) 0 R.length cap,Ja 16 (st1 6)]:=by simp only [Js,hk,Ja]
    refine AW.le (E':=mk 75 [(1,Jx rs),(2, .bp (0,s0) 0),(3, .bp (1,s1) 0),(4, .bp (20,nx0) 0)] (⟨[((20,nx0), .c [Jg nm,int a0,int a1,int a2,int a3,int a4,int 1,int sub]),((1,s1), .c [u32 (d:Nat),Jb x,Ja 10 (st1 0),Ja 11 (st1 1),Ja 12 (st1 2),Ja 13 (st1 3),Ja 14 (st1 4), .hs (15,s) 0 R.length cap,Ja 16 (st1 6)]),((0,s0), .c [int dk,int dn,Jb x,Ji ps])]++(((15,s),Own.c (JA R++tl))::Jp 5 st1), [],nx2,21⟩:Heap)) (Jr ([((20,nx0), .c [Jg nm,int a0,int a1,int a2,int a3,int a4,int 1,int sub]),((1,s1), .c (Js d x st1)),((0,s0), .c [int dk,int dn,Jb x,Ji ps])]++(((15,s),Own.c (JA R++tl))::Jp 5 st1)) ([((20,nx0), .c [Jg nm,int a0,int a1,int a2,int a3,int a4,int 1,int sub]),((1,s1), .c (Js d x st1)),((0,s0), .c [int dk,int dn,Jb x,Ji ps])]++(((15,s),Own.c (JA R++tl))::Jp 5 st1)) [] rfl rfl (List.Perm.append_left _ hP.symm) Sf Sf (BxLe.of_eq (by rw [eo])) trivial ⟨Rf,Rf,Rf,Rf,trivial⟩) ?_
    refine stp ?_
    refine JZ 20 [((20,nx0), .c [Jg nm,int a0,int a1,int a2,int a3,int a4,int 1,int sub]),((1,s1), .c [u32 (d:Nat),Jb x,Ja 10 (st1 0),Ja 11 (st1 1),Ja 12 (st1 2),Ja 13 (st1 3),Ja 14 (st1 4), .hs (15,s) 0 R.length cap,Ja 16 (st1 6)]),((0,s0), .c [int dk,int dn,Jb x,Ji ps])] (fun i=> match i with | 18=> true | _=> false) (fun _=> false) [0,1,2,3,4,5,6,7,8,9,10,11,12,13,14,15,16,17,19,18] (by kernel_rfl) (by kernel_rfl) (HB.cons rfl (HB.cons rfl (HB.one rfl))) ?_
    refine stp ?_
    refine ⟨Bd,J7 (b:= .rp (JcQ (rs.getD 0 Jw)).cells) rfl ?_⟩
    refine stp ?_
    refine ⟨_,JcN (e:=120) (szx:=2) (m:=1) (n:=R.length) (cap:=cap) (i:=(15,s)) (cs:=JA R++tl) rfl rfl rfl (.inr ⟨_,rfl⟩) Tryz.underlying37 JkW gc_sub.symm Dc rfl hrk.1 (by rw [gc_sub,List.length_append,JbA];exact hrk.2) (Jy rfl) (by rw [JkX];omega) Om (HB.cons rfl (HB.cons rfl (HB.one rfl))) (fun _=> (HB.cons rfl (HB.cons rfl (HB.one rfl)))),fun r h' hr=> ?_⟩
    rcases hr with ⟨hfit,rfl,rfl⟩ | ⟨ncap,hge,rfl,rfl⟩
    ·refine stp ?_
     exact JaG rfl ⟨.tup [],⟨[((1,s1), .c (Js d x (JC st1 5 (R++ [Jar ⟨sub.toNat,(rs.getD 0 Jw).code⟩],some (s,cap,tl.drop 2))))),((0,s0), .c [int dk,int dn,Jb x,Ji ps])]++JG (JC st1 5 (R++ [Jar ⟨sub.toNat,(rs.getD 0 Jw).code⟩],some (s,cap,tl.drop 2))), [],nx2,21⟩,Rf,HLe.trans (Jep (bx:= [((1,s1), .c (Js d x (JC st1 5 (R++ [Jar ⟨sub.toNat,(rs.getD 0 Jw).code⟩],some (s,cap,tl.drop 2))))),((0,s0), .c [int dk,int dn,Jb x,Ji ps])]++(JaS 15 (R++ [Jar ⟨sub.toNat,(rs.getD 0 Jw).code⟩],some (s,cap,tl.drop 2))++Jp 5 st1)) ([((20,nx0), .c [Jg nm,int a0,int a1,int a2,int a3,int a4,int 1,int sub]),((1,s1),Own.c [u32 (d:Nat),Jb x,Ja 10 (st1 0),Ja 11 (st1 1),Ja 12 (st1 2),Ja 13 (st1 3),Ja 14 (st1 4), .hs (15,s) 0 (R.length+1) cap,Ja 16 (st1 6)]),((0,s0), .c [int dk,int dn,Jb x,Ji ps])]++(((15,s), .c _)::Jp 5 st1)) ([((1,s1),Own.c [u32 (d:Nat),Jb x,Ja 10 (st1 0),Ja 11 (st1 1),Ja 12 (st1 2),Ja 13 (st1 3),Ja 14 (st1 4), .hs (15,s) 0 (R.length+1) cap,Ja 16 (st1 6)]),((0,s0), .c [int dk,int dn,Jb x,Ji ps])]++(((15,s), .c _)::Jp 5 st1)) rfl (List.Perm.refl _) (.cons _ Sf) rfl (bx3 rfl (JlF (Jbh)) (Jgm (e:=Jar ⟨sub.toNat,(rs.getD 0 Jw).code⟩) gc_sub (by exact hw2)))) (JfW (k:=5) Dc),rfl,JC st1 5 (R++ [Jar ⟨sub.toNat,(rs.getD 0 Jw).code⟩],some (s,cap,tl.drop 2)),_,_,JfV (m:=0) (R:=R) Dc hok1 hdone hrest hk ⟨by rw [List.length_append];exact hfit,by have:=hrk.2;rw [List.length_append,List.length_drop,List.length_singleton];omega⟩ hsb hso,rfl⟩
    ·refine stp ?_
     exact JaG rfl ⟨.tup [],⟨[((1,s1), .c (Js d x (JC st1 5 (R++ [Jar ⟨sub.toNat,(rs.getD 0 Jw).code⟩],some (nx2,ncap,List.replicate ((ncap - (R.length+1)) * 2) .any))))),((0,s0), .c [int dk,int dn,Jb x,Ji ps])]++JG (JC st1 5 (R++ [Jar ⟨sub.toNat,(rs.getD 0 Jw).code⟩],some (nx2,ncap,List.replicate ((ncap - (R.length+1)) * 2) .any))), [],nx2+1,21⟩,Rf,HLe.trans (Jep (bx:= [((1,s1), .c (Js d x (JC st1 5 (R++ [Jar ⟨sub.toNat,(rs.getD 0 Jw).code⟩],some (nx2,ncap,List.replicate ((ncap - (R.length+1)) * 2) .any))))),((0,s0), .c [int dk,int dn,Jb x,Ji ps])]++(JaS 15 (R++ [Jar ⟨sub.toNat,(rs.getD 0 Jw).code⟩],some (nx2,ncap,List.replicate ((ncap - (R.length+1)) * 2) .any))++Jp 5 st1)) ([((20,nx0), .c [Jg nm,int a0,int a1,int a2,int a3,int a4,int 1,int sub]),((1,s1),Own.c [u32 (d:Nat),Jb x,Ja 10 (st1 0),Ja 11 (st1 1),Ja 12 (st1 2),Ja 13 (st1 3),Ja 14 (st1 4), .hs (21,nx2) 0 (R.length+1) ncap,Ja 16 (st1 6)]),((0,s0), .c [int dk,int dn,Jb x,Ji ps])]++(((21,nx2), .c _)::((15,s),Own.c (JA R++tl))::Jp 5 st1)) ([((1,s1),Own.c [u32 (d:Nat),Jb x,Ja 10 (st1 0),Ja 11 (st1 1),Ja 12 (st1 2),Ja 13 (st1 3),Ja 14 (st1 4), .hs (21,nx2) 0 (R.length+1) ncap,Ja 16 (st1 6)]),((0,s0), .c [int dk,int dn,Jb x,Ji ps])]++(((21,nx2), .c _)::Jp 5 st1)) rfl List.perm_middle (.cons _ (.cons_cons _ (.cons_cons _ (.cons_cons _ (.cons _ Sf))))) rfl (bx3 rfl (JlF (Jbh)) (Jee (e:=Jar ⟨sub.toNat,(rs.getD 0 Jw).code⟩) gc_sub (by exact hw2)))) (JfW (k:=5) Dc),rfl,JC st1 5 (R++ [Jar ⟨sub.toNat,(rs.getD 0 Jw).code⟩],some (nx2,ncap,List.replicate ((ncap - (R.length+1)) * 2) .any)),_,_,JfV (m:=0) (R:=R) Dc hok1 hdone hrest hk ⟨by rw [List.length_append];exact hge,by rw [List.length_append,List.length_replicate,List.length_singleton,← Nat.add_mul];omega⟩ hsb hso,rfl⟩
  ·have hP:=Jdc (k:=6) Dc st1
   have hrk:JbN (st1 6):=hok1 _ Dc
   have hrs:st1 6=st 6:=hrest 1 Dc
   have hln:(st1 6).1.length≤1000000:=by rw [hrs];exact hlen _ Dc
   have hsb:JbM 1 ⟨nm,a0,a1,a2,a3,a4,2,sub⟩ rs= [⟨sub.toNat,(rs.getD 0 Jw).code⟩]:=if_pos (show ((2:Nat):Int)=((1:Nat):Int)+1 by decide)
   have hso:∀j,j < 2→j≠1→JbM j ⟨nm,a0,a1,a2,a3,a4,2,sub⟩ rs= []:=fun j hj hne=> if_neg (show ¬((2:Nat):Int)=(j:Int)+1 by omega)
   have hs1:0≤sub:=hs.1
   have hs2:sub≤255:=hs.2
   have hr0:0 < rs.length:=List.length_pos_iff.2 hr
   have hwr:IntKind.u32.wrap sub=((sub.toNat:Nat):Int):=by rw [JcE hs1 Om];omega
   have hw2: [AV.v (.int .u32 (IntKind.u32.wrap sub)),u32 ((rs.getD 0 Jw).code:Nat)]= [AV.v (.int .u32 ((Jar ⟨sub.toNat,(rs.getD 0 Jw).code⟩).1:Nat)),(Jar ⟨sub.toNat,(rs.getD 0 Jw).code⟩).2]:=congrArg (fun z:Int=> [AV.v (.int .u32 z),u32 ((rs.getD 0 Jw).code:Nat)]) hwr
   rcases hk:st1 6 with ⟨R,_ | ⟨s,cap,tl⟩⟩
   ·rw [hk] at hP hrk hln
    dsimp only at hln
    have eo:Js d x st1= [u32 (d:Nat),Jb x,Ja 10 (st1 0),Ja 11 (st1 1),Ja 12 (st1 2),Ja 13 (st1 3),Ja 14 (st1 4),Ja 15 (st1 5), .os 0 0 (fun _=> .any) none]:=by simp only [Js,hk,Ja]
    refine AW.le (E':=mk 75 [(1,Jx rs),(2, .bp (0,s0) 0),(3, .bp (1,s1) 0),(4, .bp (20,nx0) 0)] (⟨[((20,nx0), .c [Jg nm,int a0,int a1,int a2,int a3,int a4,int 2,int sub]),((1,s1), .c [u32 (d:Nat),Jb x,Ja 10 (st1 0),Ja 11 (st1 1),Ja 12 (st1 2),Ja 13 (st1 3),Ja 14 (st1 4),Ja 15 (st1 5), .os 0 0 (fun _=> .any) none]),((0,s0), .c [int dk,int dn,Jb x,Ji ps])]++(Jp 6 st1), [],nx2,21⟩:Heap)) (Jr ([((20,nx0), .c [Jg nm,int a0,int a1,int a2,int a3,int a4,int 2,int sub]),((1,s1), .c (Js d x st1)),((0,s0), .c [int dk,int dn,Jb x,Ji ps])]++(Jp 6 st1)) ([((20,nx0), .c [Jg nm,int a0,int a1,int a2,int a3,int a4,int 2,int sub]),((1,s1), .c (Js d x st1)),((0,s0), .c [int dk,int dn,Jb x,Ji ps])]++(Jp 6 st1)) [] rfl rfl (List.Perm.append_left _ hP.symm) Sf Sf (BxLe.of_eq (by rw [eo])) trivial ⟨Rf,Rf,Rf,Rf,trivial⟩) ?_
    refine stp ?_
    refine JZ 20 [((20,nx0), .c [Jg nm,int a0,int a1,int a2,int a3,int a4,int 2,int sub]),((1,s1), .c [u32 (d:Nat),Jb x,Ja 10 (st1 0),Ja 11 (st1 1),Ja 12 (st1 2),Ja 13 (st1 3),Ja 14 (st1 4),Ja 15 (st1 5), .os 0 0 (fun _=> .any) none]),((0,s0), .c [int dk,int dn,Jb x,Ji ps])] (fun i=> match i with | 18=> true | _=> false) (fun _=> false) [0,1,2,3,4,5,6,7,8,9,10,11,12,13,14,15,16,17,19,18] (by kernel_rfl) (by kernel_rfl) (HB.cons rfl (HB.cons rfl (HB.one rfl))) ?_
    refine stp ?_
    refine ⟨Bd,J7 (b:= .rp (JcQ (rs.getD 0 Jw)).cells) rfl ?_⟩
    refine stp ?_
    refine ⟨_,Jco (e:=120) (szx:=2) (m:=1) rfl rfl rfl (.inr ⟨_,rfl⟩) Tryz.underlying37 JkW gc_sub.symm Dc (Jy rfl) (by rw [JkX];omega) Om (fun _=> (HB.cons rfl (HB.cons rfl (HB.one rfl)))),fun r h' hr=> ?_⟩
    obtain ⟨ncap,hge,rfl,rfl⟩:=hr
    refine stp ?_
    exact JaG rfl ⟨.tup [],⟨[((1,s1), .c (Js d x (JC st1 6 ([]++ [Jar ⟨sub.toNat,(rs.getD 0 Jw).code⟩],some (nx2,ncap,List.replicate ((ncap - 1) * 2) .any))))),((0,s0), .c [int dk,int dn,Jb x,Ji ps])]++JG (JC st1 6 ([]++ [Jar ⟨sub.toNat,(rs.getD 0 Jw).code⟩],some (nx2,ncap,List.replicate ((ncap - 1) * 2) .any))), [],nx2+1,21⟩,Rf,HLe.trans (Jep (bx:= [((1,s1), .c (Js d x (JC st1 6 ([]++ [Jar ⟨sub.toNat,(rs.getD 0 Jw).code⟩],some (nx2,ncap,List.replicate ((ncap - 1) * 2) .any))))),((0,s0), .c [int dk,int dn,Jb x,Ji ps])]++(JaS 16 ([]++ [Jar ⟨sub.toNat,(rs.getD 0 Jw).code⟩],some (nx2,ncap,List.replicate ((ncap - 1) * 2) .any))++Jp 6 st1)) ([((20,nx0), .c [Jg nm,int a0,int a1,int a2,int a3,int a4,int 2,int sub]),((1,s1),Own.c [u32 (d:Nat),Jb x,Ja 10 (st1 0),Ja 11 (st1 1),Ja 12 (st1 2),Ja 13 (st1 3),Ja 14 (st1 4),Ja 15 (st1 5), .hs (21,nx2) 0 1 ncap]),((0,s0), .c [int dk,int dn,Jb x,Ji ps])]++(((21,nx2), .c _)::Jp 6 st1)) ([((1,s1),Own.c [u32 (d:Nat),Jb x,Ja 10 (st1 0),Ja 11 (st1 1),Ja 12 (st1 2),Ja 13 (st1 3),Ja 14 (st1 4),Ja 15 (st1 5), .hs (21,nx2) 0 1 ncap]),((0,s0), .c [int dk,int dn,Jb x,Ji ps])]++(((21,nx2), .c _)::Jp 6 st1)) rfl List.perm_middle (.cons _ Sf) rfl (bx3 rfl (JlG (Jbh (R:= []))) (JdG (e:=Jar ⟨sub.toNat,(rs.getD 0 Jw).code⟩) gc_sub (by exact hw2)))) (JfW (k:=6) Dc),rfl,JC st1 6 ([]++ [Jar ⟨sub.toNat,(rs.getD 0 Jw).code⟩],some (nx2,ncap,List.replicate ((ncap - 1) * 2) .any)),_,_,JfV (m:=1) (R:= []) Dc hok1 hdone hrest (by rw [hk,hrk]) ⟨(by simpa using hge),by rw [List.length_replicate];show ncap * 2≤1 * 2+_;omega⟩ hsb hso,rfl⟩
   ·rw [hk] at hP hrk hln
    dsimp only at hln
    have eo:Js d x st1= [u32 (d:Nat),Jb x,Ja 10 (st1 0),Ja 11 (st1 1),Ja 12 (st1 2),Ja 13 (st1 3),Ja 14 (st1 4),Ja 15 (st1 5), .hs (16,s) 0 R.length cap]:=by simp only [Js,hk,Ja]
    refine AW.le (E':=mk 75 [(1,Jx rs),(2, .bp (0,s0) 0),(3, .bp (1,s1) 0),(4, .bp (20,nx0) 0)] (⟨[((20,nx0), .c [Jg nm,int a0,int a1,int a2,int a3,int a4,int 2,int sub]),((1,s1), .c [u32 (d:Nat),Jb x,Ja 10 (st1 0),Ja 11 (st1 1),Ja 12 (st1 2),Ja 13 (st1 3),Ja 14 (st1 4),Ja 15 (st1 5), .hs (16,s) 0 R.length cap]),((0,s0), .c [int dk,int dn,Jb x,Ji ps])]++(((16,s),Own.c (JA R++tl))::Jp 6 st1), [],nx2,21⟩:Heap)) (Jr ([((20,nx0), .c [Jg nm,int a0,int a1,int a2,int a3,int a4,int 2,int sub]),((1,s1), .c (Js d x st1)),((0,s0), .c [int dk,int dn,Jb x,Ji ps])]++(((16,s),Own.c (JA R++tl))::Jp 6 st1)) ([((20,nx0), .c [Jg nm,int a0,int a1,int a2,int a3,int a4,int 2,int sub]),((1,s1), .c (Js d x st1)),((0,s0), .c [int dk,int dn,Jb x,Ji ps])]++(((16,s),Own.c (JA R++tl))::Jp 6 st1)) [] rfl rfl (List.Perm.append_left _ hP.symm) Sf Sf (BxLe.of_eq (by rw [eo])) trivial ⟨Rf,Rf,Rf,Rf,trivial⟩) ?_
    refine stp ?_
    refine JZ 20 [((20,nx0), .c [Jg nm,int a0,int a1,int a2,int a3,int a4,int 2,int sub]),((1,s1), .c [u32 (d:Nat),Jb x,Ja 10 (st1 0),Ja 11 (st1 1),Ja 12 (st1 2),Ja 13 (st1 3),Ja 14 (st1 4),Ja 15 (st1 5), .hs (16,s) 0 R.length cap]),((0,s0), .c [int dk,int dn,Jb x,Ji ps])] (fun i=> match i with | 18=> true | _=> false) (fun _=> false) [0,1,2,3,4,5,6,7,8,9,10,11,12,13,14,15,16,17,19,18] (by kernel_rfl) (by kernel_rfl) (HB.cons rfl (HB.cons rfl (HB.one rfl))) ?_
    refine stp ?_
    refine ⟨Bd,J7 (b:= .rp (JcQ (rs.getD 0 Jw)).cells) rfl ?_⟩
    refine stp ?_
    refine ⟨_,JcN (e:=120) (szx:=2) (m:=1) (n:=R.length) (cap:=cap) (i:=(16,s)) (cs:=JA R++tl) rfl rfl rfl (.inr ⟨_,rfl⟩) Tryz.underlying37 JkW gc_sub.symm Dc rfl hrk.1 (by rw [gc_sub,List.length_append,JbA];exact hrk.2) (Jy rfl) (by rw [JkX];omega) Om (HB.cons rfl (HB.cons rfl (HB.one rfl))) (fun _=> (HB.cons rfl (HB.cons rfl (HB.one rfl)))),fun r h' hr=> ?_⟩
    rcases hr with ⟨hfit,rfl,rfl⟩ | ⟨ncap,hge,rfl,rfl⟩
    ·refine stp ?_
     exact JaG rfl ⟨.tup [],⟨[((1,s1), .c (Js d x (JC st1 6 (R++ [Jar ⟨sub.toNat,(rs.getD 0 Jw).code⟩],some (s,cap,tl.drop 2))))),((0,s0), .c [int dk,int dn,Jb x,Ji ps])]++JG (JC st1 6 (R++ [Jar ⟨sub.toNat,(rs.getD 0 Jw).code⟩],some (s,cap,tl.drop 2))), [],nx2,21⟩,Rf,HLe.trans (Jep (bx:= [((1,s1), .c (Js d x (JC st1 6 (R++ [Jar ⟨sub.toNat,(rs.getD 0 Jw).code⟩],some (s,cap,tl.drop 2))))),((0,s0), .c [int dk,int dn,Jb x,Ji ps])]++(JaS 16 (R++ [Jar ⟨sub.toNat,(rs.getD 0 Jw).code⟩],some (s,cap,tl.drop 2))++Jp 6 st1)) ([((20,nx0), .c [Jg nm,int a0,int a1,int a2,int a3,int a4,int 2,int sub]),((1,s1),Own.c [u32 (d:Nat),Jb x,Ja 10 (st1 0),Ja 11 (st1 1),Ja 12 (st1 2),Ja 13 (st1 3),Ja 14 (st1 4),Ja 15 (st1 5), .hs (16,s) 0 (R.length+1) cap]),((0,s0), .c [int dk,int dn,Jb x,Ji ps])]++(((16,s), .c _)::Jp 6 st1)) ([((1,s1),Own.c [u32 (d:Nat),Jb x,Ja 10 (st1 0),Ja 11 (st1 1),Ja 12 (st1 2),Ja 13 (st1 3),Ja 14 (st1 4),Ja 15 (st1 5), .hs (16,s) 0 (R.length+1) cap]),((0,s0), .c [int dk,int dn,Jb x,Ji ps])]++(((16,s), .c _)::Jp 6 st1)) rfl (List.Perm.refl _) (.cons _ Sf) rfl (bx3 rfl (JlG (Jbh)) (Jgm (e:=Jar ⟨sub.toNat,(rs.getD 0 Jw).code⟩) gc_sub (by exact hw2)))) (JfW (k:=6) Dc),rfl,JC st1 6 (R++ [Jar ⟨sub.toNat,(rs.getD 0 Jw).code⟩],some (s,cap,tl.drop 2)),_,_,JfV (m:=1) (R:=R) Dc hok1 hdone hrest hk ⟨by rw [List.length_append];exact hfit,by have:=hrk.2;rw [List.length_append,List.length_drop,List.length_singleton];omega⟩ hsb hso,rfl⟩
    ·refine stp ?_
     exact JaG rfl ⟨.tup [],⟨[((1,s1), .c (Js d x (JC st1 6 (R++ [Jar ⟨sub.toNat,(rs.getD 0 Jw).code⟩],some (nx2,ncap,List.replicate ((ncap - (R.length+1)) * 2) .any))))),((0,s0), .c [int dk,int dn,Jb x,Ji ps])]++JG (JC st1 6 (R++ [Jar ⟨sub.toNat,(rs.getD 0 Jw).code⟩],some (nx2,ncap,List.replicate ((ncap - (R.length+1)) * 2) .any))), [],nx2+1,21⟩,Rf,HLe.trans (Jep (bx:= [((1,s1), .c (Js d x (JC st1 6 (R++ [Jar ⟨sub.toNat,(rs.getD 0 Jw).code⟩],some (nx2,ncap,List.replicate ((ncap - (R.length+1)) * 2) .any))))),((0,s0), .c [int dk,int dn,Jb x,Ji ps])]++(JaS 16 (R++ [Jar ⟨sub.toNat,(rs.getD 0 Jw).code⟩],some (nx2,ncap,List.replicate ((ncap - (R.length+1)) * 2) .any))++Jp 6 st1)) ([((20,nx0), .c [Jg nm,int a0,int a1,int a2,int a3,int a4,int 2,int sub]),((1,s1),Own.c [u32 (d:Nat),Jb x,Ja 10 (st1 0),Ja 11 (st1 1),Ja 12 (st1 2),Ja 13 (st1 3),Ja 14 (st1 4),Ja 15 (st1 5), .hs (21,nx2) 0 (R.length+1) ncap]),((0,s0), .c [int dk,int dn,Jb x,Ji ps])]++(((21,nx2), .c _)::((16,s),Own.c (JA R++tl))::Jp 6 st1)) ([((1,s1),Own.c [u32 (d:Nat),Jb x,Ja 10 (st1 0),Ja 11 (st1 1),Ja 12 (st1 2),Ja 13 (st1 3),Ja 14 (st1 4),Ja 15 (st1 5), .hs (21,nx2) 0 (R.length+1) ncap]),((0,s0), .c [int dk,int dn,Jb x,Ji ps])]++(((21,nx2), .c _)::Jp 6 st1)) rfl List.perm_middle (.cons _ (.cons_cons _ (.cons_cons _ (.cons_cons _ (.cons _ Sf))))) rfl (bx3 rfl (JlG (Jbh)) (Jee (e:=Jar ⟨sub.toNat,(rs.getD 0 Jw).code⟩) gc_sub (by exact hw2)))) (JfW (k:=6) Dc),rfl,JC st1 6 (R++ [Jar ⟨sub.toNat,(rs.getD 0 Jw).code⟩],some (nx2,ncap,List.replicate ((ncap - (R.length+1)) * 2) .any)),_,_,JfV (m:=1) (R:=R) Dc hok1 hdone hrest hk ⟨by rw [List.length_append];exact hge,by rw [List.length_append,List.length_replicate,List.length_singleton,← Nat.add_mul];omega⟩ hsb hso,rfl⟩
end Go.Proofs.W

namespace Go.Proofs.W
open Go.Vl
set_option maxRecDepth 100000
def LpI (p:Pol) (l:List TRow) (i:Nat) (st:Nat→J0):Prop:=i≤(Jc p).rules.length∧(∀j,j < 7→JbN (st j))∧∃gs,JM (Jc p).rules=gs++JM ((Jc p).rules.drop i)∧(∀k,k < 5→(st k).1=(Jbk (Jc p) l gs k).map JdD)∧∀m,m < 2→(st (5+m)).1=(Jce l gs m).map Jar
theorem Jyv (p:Pol) (l:List TRow):LpI p l 0 fun _=> ([],none):=⟨Nat.zero_le _,fun _ _=> rfl, [],rfl,fun _ _=> rfl,fun _ _=> rfl⟩
theorem JkY:∀l:List Rul,(JM l).length≤l.length
 | []=> Nat.le_refl _
 | r::l=> by
   have ih:=JkY l
   show (JiL r (JM l)).length≤l.length+1
   cases hg:JM l with
   | nil=> show 1≤_;omega
   | cons g t=>
     rw [hg] at ih
     obtain ⟨s,L⟩:=g
     show (if kS s r.name then (s,r::L)::t else (r.name, [r])::(s,L)::t).length≤_
     rw [List.length_cons] at ih
     split <;> simp only [List.length_cons] <;> omega
theorem Jsn {a d:Nat} {x:Bool} {row:TRow} {rs:List PRul}:(JaI a d x row rs).length≤1:=by
 unfold JaI;split <;> simp
theorem Jso {m:Nat} {row:TRow} {rs:List PRul}:(JbM m row rs).length≤1:=by
 unfold JbM;split <;> simp
theorem JjQ {α β:Type} {f:α→List β} (h:∀x,(f x).length≤1):∀l:List α,(l.flatMap f).length≤l.length
 | []=> Nat.le_refl _
 | x::l=> by
   rw [List.flatMap_cons,List.length_append,List.length_cons]
   have:=h x
   have:=JjQ h l
   omega
theorem JqK {p:Pol} {l:List TRow} {i:Nat} {st:Nat→J0} (hr:(Jc p).rules.length≤500) (h:LpI p l i st):∀j,j < 7→(st j).1.length≤1000000:=fun j hj=> by
 obtain ⟨_,_,gs,h1,h2,h3⟩:=h
 have hg:=JkY (Jc p).rules
 rw [h1,List.length_append] at hg
 rcases Nat.lt_or_ge j 5 with h5 | h5
 ·rw [h2 j h5,List.length_map]
  have:=JjQ (f:=fun g:ByteArray×List Rul=> JaI j (codeA (Jc p).dflt) (Jc p).x32 (JaK l g.1) (g.2.map JL)) (fun _=> Jsn) gs
  unfold Jbk
  omega
 ·obtain ⟨m,rfl⟩:∃m,j=5+m:=⟨j - 5,by omega⟩
  rw [h3 m Om,List.length_map]
  have:=JjQ (f:=fun g:ByteArray×List Rul=> JbM m (JaK l g.1) (g.2.map JL)) (fun _=> Jso) gs
  unfold Jce
  omega
theorem Jw6 {l:List TRow} {s:ByteArray} (ht:(JbR l).2=0) (h:JoL l s):(∀k,(JaK l s).num k < 1073741824)∧((JaK l s).mux=0∨(JaK l s).mux=1∨(JaK l s).mux=2)∧0≤(JaK l s).sub∧(JaK l s).sub≤255:=by
 obtain ⟨i,hi,h1,_⟩:=h
 rw [h1]
 exact ⟨fun k=> (Jeo ht hi).1,Je0 ht hi⟩
theorem JmN (s:ByteArray) (l:List Rul):(Jb2 s l).length≤l.length:=List.Sublist.length_le (List.takeWhile_sublist _)
theorem JvJ (s:ByteArray) (l:List Rul):l=Jb2 s l++l.drop (Jb2 s l).length:=by
 induction l with
 | nil=> rfl
 | cons r l ih=>
   unfold Jb2 at ih⊢
   rw [List.takeWhile_cons]
   by_cases h:kS r.name s=true
   ·rw [if_pos h,List.length_cons,List.drop_succ_cons,List.cons_append,← ih]
   ·rw [if_neg h];rfl
theorem Jul {l:List Rul} {i:Nat} (hi:i < l.length):Jb2 (l.getD i rul0).name (l.drop i)≠ []:=by
 rw [List.drop_eq_getElem_cons hi,show l.getD i rul0=l[i] by simp [List.getD,hi]]
 unfold Jb2
 rw [List.takeWhile_cons,if_pos (Ja4.2 rfl)]
 exact List.cons_ne_nil _ _
theorem JvK {p:Pol} {l:List TRow} {i:Nat} {st st':Nat→J0} (hi:i < (Jc p).rules.length) {s:ByteArray} {L:List Rul} (hs:s=((Jc p).rules.getD i rul0).name) (hL:L=Jb2 s ((Jc p).rules.drop i)) (h:LpI p l i st) (hq:Jsl (codeA (Jc p).dflt) (Jc p).x32 (JaK l s) (L.map JL) st st'):LpI p l (i+L.length) st':=by
 obtain ⟨h0,h1,gs,h2,h3,h4⟩:=h
 have hne:L≠ []:=by rw [hL,hs];exact Jul hi
 have hd:=JvJ s ((Jc p).rules.drop i)
 have he:=Jvq s ((Jc p).rules.drop i)
 have ha:=Jmu s ((Jc p).rules.drop i)
 have hl:=JmN s ((Jc p).rules.drop i)
 rw [← hL] at hd he ha hl
 rw [List.drop_drop] at hd he
 rw [List.length_drop] at hl
 have hgr:=JkI he hne ha
 rw [← hd] at hgr
 refine ⟨by omega,hq.1,gs++ [(s,L)],by rw [h2,hgr,List.append_assoc];rfl,fun k hk=> ?_,fun m hm=> ?_⟩
 ·rw [hq.2.1 k hk,h3 k hk,JrY,List.map_append]
 ·rw [hq.2.2 m hm,h4 m hm,JrZ,List.map_append]
theorem Jum {p:Pol} (hp:p.ok) (hr:JaB p=true) {s:ByteArray} {i:Nat}:∀r∈(Jb2 s ((Jc p).rules.drop i)).map JL,r.conds.length≤1000000∧∀c∈r.conds,c.ok:=fun q hq=> by
 obtain ⟨r,hr1,rfl⟩:=List.mem_map.1 hq
 have hm:r∈(Jc p).rules:=List.mem_of_mem_drop ((List.takeWhile_sublist _).subset hr1)
 obtain ⟨r0,h0,h1⟩:=JhD hm
 have:=(JaU hr).2 r0 h0
 have:=(Jbg h1).1
 exact ⟨by show r.conds.length≤_;omega,(Jfh h1).2.2 (hp.2 r0 h0).2.2⟩
theorem Jw7 {p:Pol} {l:List TRow} {st:Nat→J0} (h:LpI p l (Jc p).rules.length st):(∀j,j < 7→JbN (st j))∧(∀k,k < 5→(st k).1=(Jbk (Jc p) l (JM (Jc p).rules) k).map JdD)∧∀m,m < 2→(st (5+m)).1=(Jce l (JM (Jc p).rules) m).map Jar:=by
 obtain ⟨h0,h1,gs,h2,h3,h4⟩:=h
 rw [List.drop_length] at h2
 obtain rfl:JM (Jc p).rules=gs:=by rw [h2];exact List.append_nil _
 exact ⟨h1,h3,h4⟩
def LpS (k:Nat) (st st':Nat→J0):Prop:=k≤7∧(∀j,j < 7→JbN (st' j))∧(∀j,j < 7→(st' j).1.Perm (st j).1)∧∀j,j < k→(st' j).1.Pairwise fun a b=> a.1≤b.1
theorem Jyw {st:Nat→J0} (h:∀j,j < 7→JbN (st j)):LpS 0 st st:=⟨by omega,h,fun _ _=> .refl _,fun j hj=> absurd hj (Nat.not_lt_zero j)⟩
theorem Jef {k:Nat} {st st1:Nat→J0} (hk:k < 7) (h:LpS k st st1) (he:(st1 k).1= []):LpS (k+1) st st1:=by
 obtain ⟨h0,h1,h2,h3⟩:=h
 refine ⟨hk,h1,h2,fun j hj=> ?_⟩
 rcases Nat.lt_or_ge j k with q | q
 ·exact h3 j q
 ·obtain rfl:j=k:=by omega
  rw [he];exact List.Pairwise.nil
theorem Jeg {k:Nat} {st st1:Nat→J0} {R D:List (Nat×AV)} {s cap:Nat} {tl:List AV} (hk:k < 7) (h:LpS k st st1) (hR:st1 k=(R,some (s,cap,tl))) (hp:D.Perm R) (hs:D.Pairwise fun a b=> a.1≤b.1):LpS (k+1) st (JC st1 k (D,some (s,cap,tl))):=by
 obtain ⟨h0,h1,h2,h3⟩:=h
 have hok:=h1 k hk
 rw [hR] at hok
 refine ⟨hk,Jb1 h1 (show D.length≤cap∧cap * 2≤D.length * 2+tl.length from by rw [hp.length_eq];exact hok),fun j hj=> ?_,fun j hj=> ?_⟩
 ·unfold JC
  by_cases e:j=k
  ·subst e
   rw [if_pos rfl]
   have:=h2 j hj
   rw [hR] at this
   exact hp.trans this
  ·rw [if_neg e];exact h2 j hj
 ·unfold JC
  by_cases e:j=k
  ·subst e
   rw [if_pos rfl];exact hs
  ·rw [if_neg e];exact h3 j Om
end Go.Proofs.W
