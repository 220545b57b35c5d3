/- The tables of this program as tries, each entry by its constant. -/
import Derived.Test.YtmhjojadboilbaaGreatDoorProg
import Derived.KernelRfl
import Derived.Test.YtmhjojadboilbaaGreatDoorEvDraw
set_option linter.unusedVariables false
set_option linter.unusedSimpArgs false
set_option linter.unusedSectionVars false
namespace Go.Ev
open Go.Proofs

noncomputable def trieT0 : Tr TypeInfo :=
  (@Tr.node TypeInfo (@Tr.node TypeInfo (@Tr.node TypeInfo (@Tr.leaf TypeInfo) (@some TypeInfo Tryz.t255) (@Tr.leaf TypeInfo)) (@some TypeInfo Tryz.t127) 
    (@Tr.node TypeInfo (@Tr.leaf TypeInfo) (@some TypeInfo Tryz.t383) (@Tr.leaf TypeInfo))) (@some TypeInfo Tryz.t63) (@Tr.node TypeInfo (@Tr.node TypeInfo 
    (@Tr.leaf TypeInfo) (@some TypeInfo Tryz.t319) (@Tr.leaf TypeInfo)) (@some TypeInfo Tryz.t191) (@Tr.node TypeInfo (@Tr.leaf TypeInfo) (@some TypeInfo Tryz.t447) 
    (@Tr.leaf TypeInfo)))) 

noncomputable def trieT1 : Tr TypeInfo :=
  (@Tr.node TypeInfo (@Tr.node TypeInfo (@Tr.node TypeInfo (@Tr.leaf TypeInfo) (@some TypeInfo Tryz.t287) (@Tr.leaf TypeInfo)) (@some TypeInfo Tryz.t159) 
    (@Tr.node TypeInfo (@Tr.leaf TypeInfo) (@some TypeInfo Tryz.t415) (@Tr.leaf TypeInfo))) (@some TypeInfo Tryz.t95) (@Tr.node TypeInfo (@Tr.node TypeInfo 
    (@Tr.leaf TypeInfo) (@some TypeInfo Tryz.t351) (@Tr.leaf TypeInfo)) (@some TypeInfo Tryz.t223) (@Tr.leaf TypeInfo))) 

noncomputable def trieT2 : Tr TypeInfo :=
  (@Tr.node TypeInfo (@Tr.node TypeInfo (@Tr.node TypeInfo (@Tr.leaf TypeInfo) (@some TypeInfo Tryz.t271) (@Tr.leaf TypeInfo)) (@some TypeInfo Tryz.t143) 
    (@Tr.node TypeInfo (@Tr.leaf TypeInfo) (@some TypeInfo Tryz.t399) (@Tr.leaf TypeInfo))) (@some TypeInfo Tryz.t79) (@Tr.node TypeInfo (@Tr.node TypeInfo 
    (@Tr.leaf TypeInfo) (@some TypeInfo Tryz.t335) (@Tr.leaf TypeInfo)) (@some TypeInfo Tryz.t207) (@Tr.node TypeInfo (@Tr.leaf TypeInfo) (@some TypeInfo Tryz.t463) 
    (@Tr.leaf TypeInfo)))) 

noncomputable def trieT3 : Tr TypeInfo :=
  (@Tr.node TypeInfo (@Tr.node TypeInfo (@Tr.node TypeInfo (@Tr.leaf TypeInfo) (@some TypeInfo Tryz.t303) (@Tr.leaf TypeInfo)) (@some TypeInfo Tryz.t175) 
    (@Tr.node TypeInfo (@Tr.leaf TypeInfo) (@some TypeInfo Tryz.t431) (@Tr.leaf TypeInfo))) (@some TypeInfo Tryz.t111) (@Tr.node TypeInfo (@Tr.node TypeInfo 
    (@Tr.leaf TypeInfo) (@some TypeInfo Tryz.t367) (@Tr.leaf TypeInfo)) (@some TypeInfo Tryz.t239) (@Tr.leaf TypeInfo))) 

noncomputable def trieT4 : Tr TypeInfo :=
  (@Tr.node TypeInfo (@Tr.node TypeInfo (@Tr.node TypeInfo (@Tr.leaf TypeInfo) (@some TypeInfo Tryz.t263) (@Tr.leaf TypeInfo)) (@some TypeInfo Tryz.t135) 
    (@Tr.node TypeInfo (@Tr.leaf TypeInfo) (@some TypeInfo Tryz.t391) (@Tr.leaf TypeInfo))) (@some TypeInfo Tryz.t71) (@Tr.node TypeInfo (@Tr.node TypeInfo 
    (@Tr.leaf TypeInfo) (@some TypeInfo Tryz.t327) (@Tr.leaf TypeInfo)) (@some TypeInfo Tryz.t199) (@Tr.node TypeInfo (@Tr.leaf TypeInfo) (@some TypeInfo Tryz.t455) 
    (@Tr.leaf TypeInfo)))) 

noncomputable def trieT5 : Tr TypeInfo :=
  (@Tr.node TypeInfo (@Tr.node TypeInfo (@Tr.node TypeInfo (@Tr.leaf TypeInfo) (@some TypeInfo Tryz.t295) (@Tr.leaf TypeInfo)) (@some TypeInfo Tryz.t167) 
    (@Tr.node TypeInfo (@Tr.leaf TypeInfo) (@some TypeInfo Tryz.t423) (@Tr.leaf TypeInfo))) (@some TypeInfo Tryz.t103) (@Tr.node TypeInfo (@Tr.node TypeInfo 
    (@Tr.leaf TypeInfo) (@some TypeInfo Tryz.t359) (@Tr.leaf TypeInfo)) (@some TypeInfo Tryz.t231) (@Tr.leaf TypeInfo))) 

noncomputable def trieT6 : Tr TypeInfo :=
  (@Tr.node TypeInfo (@Tr.node TypeInfo (@Tr.node TypeInfo (@Tr.leaf TypeInfo) (@some TypeInfo Tryz.t279) (@Tr.leaf TypeInfo)) (@some TypeInfo Tryz.t151) 
    (@Tr.node TypeInfo (@Tr.leaf TypeInfo) (@some TypeInfo Tryz.t407) (@Tr.leaf TypeInfo))) (@some TypeInfo Tryz.t87) (@Tr.node TypeInfo (@Tr.node TypeInfo 
    (@Tr.leaf TypeInfo) (@some TypeInfo Tryz.t343) (@Tr.leaf TypeInfo)) (@some TypeInfo Tryz.t215) (@Tr.leaf TypeInfo))) 

noncomputable def trieT7 : Tr TypeInfo :=
  (@Tr.node TypeInfo (@Tr.node TypeInfo (@Tr.node TypeInfo (@Tr.leaf TypeInfo) (@some TypeInfo Tryz.t311) (@Tr.leaf TypeInfo)) (@some TypeInfo Tryz.t183) 
    (@Tr.node TypeInfo (@Tr.leaf TypeInfo) (@some TypeInfo Tryz.t439) (@Tr.leaf TypeInfo))) (@some TypeInfo Tryz.t119) (@Tr.node TypeInfo (@Tr.node TypeInfo 
    (@Tr.leaf TypeInfo) (@some TypeInfo Tryz.t375) (@Tr.leaf TypeInfo)) (@some TypeInfo Tryz.t247) (@Tr.leaf TypeInfo))) 

noncomputable def trieT8 : Tr TypeInfo :=
  (@Tr.node TypeInfo (@Tr.node TypeInfo (@Tr.node TypeInfo trieT0 (@some TypeInfo Tryz.t31) trieT1) (@some TypeInfo Tryz.t15) (@Tr.node TypeInfo trieT2 (@some 
    TypeInfo Tryz.t47) trieT3)) (@some TypeInfo Tryz.t7) (@Tr.node TypeInfo (@Tr.node TypeInfo trieT4 (@some TypeInfo Tryz.t39) trieT5) (@some TypeInfo Tryz.t23) 
    (@Tr.node TypeInfo trieT6 (@some TypeInfo Tryz.t55) trieT7))) 

noncomputable def trieT9 : Tr TypeInfo :=
  (@Tr.node TypeInfo (@Tr.node TypeInfo (@Tr.node TypeInfo (@Tr.leaf TypeInfo) (@some TypeInfo Tryz.t259) (@Tr.leaf TypeInfo)) (@some TypeInfo Tryz.t131) 
    (@Tr.node TypeInfo (@Tr.leaf TypeInfo) (@some TypeInfo Tryz.t387) (@Tr.leaf TypeInfo))) (@some TypeInfo Tryz.t67) (@Tr.node TypeInfo (@Tr.node TypeInfo 
    (@Tr.leaf TypeInfo) (@some TypeInfo Tryz.t323) (@Tr.leaf TypeInfo)) (@some TypeInfo Tryz.t195) (@Tr.node TypeInfo (@Tr.leaf TypeInfo) (@some TypeInfo Tryz.t451) 
    (@Tr.leaf TypeInfo)))) 

noncomputable def trieT10 : Tr TypeInfo :=
  (@Tr.node TypeInfo (@Tr.node TypeInfo (@Tr.node TypeInfo (@Tr.leaf TypeInfo) (@some TypeInfo Tryz.t291) (@Tr.leaf TypeInfo)) (@some TypeInfo Tryz.t163) 
    (@Tr.node TypeInfo (@Tr.leaf TypeInfo) (@some TypeInfo Tryz.t419) (@Tr.leaf TypeInfo))) (@some TypeInfo Tryz.t99) (@Tr.node TypeInfo (@Tr.node TypeInfo 
    (@Tr.leaf TypeInfo) (@some TypeInfo Tryz.t355) (@Tr.leaf TypeInfo)) (@some TypeInfo Tryz.t227) (@Tr.leaf TypeInfo))) 

noncomputable def trieT11 : Tr TypeInfo :=
  (@Tr.node TypeInfo (@Tr.node TypeInfo (@Tr.node TypeInfo (@Tr.leaf TypeInfo) (@some TypeInfo Tryz.t275) (@Tr.leaf TypeInfo)) (@some TypeInfo Tryz.t147) 
    (@Tr.node TypeInfo (@Tr.leaf TypeInfo) (@some TypeInfo Tryz.t403) (@Tr.leaf TypeInfo))) (@some TypeInfo Tryz.t83) (@Tr.node TypeInfo (@Tr.node TypeInfo 
    (@Tr.leaf TypeInfo) (@some TypeInfo Tryz.t339) (@Tr.leaf TypeInfo)) (@some TypeInfo Tryz.t211) (@Tr.node TypeInfo (@Tr.leaf TypeInfo) (@some TypeInfo Tryz.t467) 
    (@Tr.leaf TypeInfo)))) 

noncomputable def trieT12 : Tr TypeInfo :=
  (@Tr.node TypeInfo (@Tr.node TypeInfo (@Tr.node TypeInfo (@Tr.leaf TypeInfo) (@some TypeInfo Tryz.t307) (@Tr.leaf TypeInfo)) (@some TypeInfo Tryz.t179) 
    (@Tr.node TypeInfo (@Tr.leaf TypeInfo) (@some TypeInfo Tryz.t435) (@Tr.leaf TypeInfo))) (@some TypeInfo Tryz.t115) (@Tr.node TypeInfo (@Tr.node TypeInfo 
    (@Tr.leaf TypeInfo) (@some TypeInfo Tryz.t371) (@Tr.leaf TypeInfo)) (@some TypeInfo Tryz.t243) (@Tr.leaf TypeInfo))) 

noncomputable def trieT13 : Tr TypeInfo :=
  (@Tr.node TypeInfo (@Tr.node TypeInfo (@Tr.node TypeInfo (@Tr.leaf TypeInfo) (@some TypeInfo Tryz.t267) (@Tr.leaf TypeInfo)) (@some TypeInfo Tryz.t139) 
    (@Tr.node TypeInfo (@Tr.leaf TypeInfo) (@some TypeInfo Tryz.t395) (@Tr.leaf TypeInfo))) (@some TypeInfo Tryz.t75) (@Tr.node TypeInfo (@Tr.node TypeInfo 
    (@Tr.leaf TypeInfo) (@some TypeInfo Tryz.t331) (@Tr.leaf TypeInfo)) (@some TypeInfo Tryz.t203) (@Tr.node TypeInfo (@Tr.leaf TypeInfo) (@some TypeInfo Tryz.t459) 
    (@Tr.leaf TypeInfo)))) 

noncomputable def trieT14 : Tr TypeInfo :=
  (@Tr.node TypeInfo (@Tr.node TypeInfo (@Tr.node TypeInfo (@Tr.leaf TypeInfo) (@some TypeInfo Tryz.t299) (@Tr.leaf TypeInfo)) (@some TypeInfo Tryz.t171) 
    (@Tr.node TypeInfo (@Tr.leaf TypeInfo) (@some TypeInfo Tryz.t427) (@Tr.leaf TypeInfo))) (@some TypeInfo Tryz.t107) (@Tr.node TypeInfo (@Tr.node TypeInfo 
    (@Tr.leaf TypeInfo) (@some TypeInfo Tryz.t363) (@Tr.leaf TypeInfo)) (@some TypeInfo Tryz.t235) (@Tr.leaf TypeInfo))) 

noncomputable def trieT15 : Tr TypeInfo :=
  (@Tr.node TypeInfo (@Tr.node TypeInfo (@Tr.node TypeInfo (@Tr.leaf TypeInfo) (@some TypeInfo Tryz.t283) (@Tr.leaf TypeInfo)) (@some TypeInfo Tryz.t155) 
    (@Tr.node TypeInfo (@Tr.leaf TypeInfo) (@some TypeInfo Tryz.t411) (@Tr.leaf TypeInfo))) (@some TypeInfo Tryz.t91) (@Tr.node TypeInfo (@Tr.node TypeInfo 
    (@Tr.leaf TypeInfo) (@some TypeInfo Tryz.t347) (@Tr.leaf TypeInfo)) (@some TypeInfo Tryz.t219) (@Tr.leaf TypeInfo))) 

noncomputable def trieT16 : Tr TypeInfo :=
  (@Tr.node TypeInfo (@Tr.node TypeInfo (@Tr.node TypeInfo (@Tr.leaf TypeInfo) (@some TypeInfo Tryz.t315) (@Tr.leaf TypeInfo)) (@some TypeInfo Tryz.t187) 
    (@Tr.node TypeInfo (@Tr.leaf TypeInfo) (@some TypeInfo Tryz.t443) (@Tr.leaf TypeInfo))) (@some TypeInfo Tryz.t123) (@Tr.node TypeInfo (@Tr.node TypeInfo 
    (@Tr.leaf TypeInfo) (@some TypeInfo Tryz.t379) (@Tr.leaf TypeInfo)) (@some TypeInfo Tryz.t251) (@Tr.leaf TypeInfo))) 

noncomputable def trieT17 : Tr TypeInfo :=
  (@Tr.node TypeInfo (@Tr.node TypeInfo (@Tr.node TypeInfo trieT9 (@some TypeInfo Tryz.t35) trieT10) (@some TypeInfo Tryz.t19) (@Tr.node TypeInfo trieT11 
    (@some TypeInfo Tryz.t51) trieT12)) (@some TypeInfo Tryz.t11) (@Tr.node TypeInfo (@Tr.node TypeInfo trieT13 (@some TypeInfo Tryz.t43) trieT14) (@some TypeInfo 
    Tryz.t27) (@Tr.node TypeInfo trieT15 (@some TypeInfo Tryz.t59) trieT16))) 

noncomputable def trieT18 : Tr TypeInfo :=
  (@Tr.node TypeInfo (@Tr.node TypeInfo (@Tr.node TypeInfo (@Tr.leaf TypeInfo) (@some TypeInfo Tryz.t257) (@Tr.leaf TypeInfo)) (@some TypeInfo Tryz.t129) 
    (@Tr.node TypeInfo (@Tr.leaf TypeInfo) (@some TypeInfo Tryz.t385) (@Tr.leaf TypeInfo))) (@some TypeInfo Tryz.t65) (@Tr.node TypeInfo (@Tr.node TypeInfo 
    (@Tr.leaf TypeInfo) (@some TypeInfo Tryz.t321) (@Tr.leaf TypeInfo)) (@some TypeInfo Tryz.t193) (@Tr.node TypeInfo (@Tr.leaf TypeInfo) (@some TypeInfo Tryz.t449) 
    (@Tr.leaf TypeInfo)))) 

noncomputable def trieT19 : Tr TypeInfo :=
  (@Tr.node TypeInfo (@Tr.node TypeInfo (@Tr.node TypeInfo (@Tr.leaf TypeInfo) (@some TypeInfo Tryz.t289) (@Tr.leaf TypeInfo)) (@some TypeInfo Tryz.t161) 
    (@Tr.node TypeInfo (@Tr.leaf TypeInfo) (@some TypeInfo Tryz.t417) (@Tr.leaf TypeInfo))) (@some TypeInfo Tryz.t97) (@Tr.node TypeInfo (@Tr.node TypeInfo 
    (@Tr.leaf TypeInfo) (@some TypeInfo Tryz.t353) (@Tr.leaf TypeInfo)) (@some TypeInfo Tryz.t225) (@Tr.leaf TypeInfo))) 

noncomputable def trieT20 : Tr TypeInfo :=
  (@Tr.node TypeInfo (@Tr.node TypeInfo (@Tr.node TypeInfo (@Tr.leaf TypeInfo) (@some TypeInfo Tryz.t273) (@Tr.leaf TypeInfo)) (@some TypeInfo Tryz.t145) 
    (@Tr.node TypeInfo (@Tr.leaf TypeInfo) (@some TypeInfo Tryz.t401) (@Tr.leaf TypeInfo))) (@some TypeInfo Tryz.t81) (@Tr.node TypeInfo (@Tr.node TypeInfo 
    (@Tr.leaf TypeInfo) (@some TypeInfo Tryz.t337) (@Tr.leaf TypeInfo)) (@some TypeInfo Tryz.t209) (@Tr.node TypeInfo (@Tr.leaf TypeInfo) (@some TypeInfo Tryz.t465) 
    (@Tr.leaf TypeInfo)))) 

noncomputable def trieT21 : Tr TypeInfo :=
  (@Tr.node TypeInfo (@Tr.node TypeInfo (@Tr.node TypeInfo (@Tr.leaf TypeInfo) (@some TypeInfo Tryz.t305) (@Tr.leaf TypeInfo)) (@some TypeInfo Tryz.t177) 
    (@Tr.node TypeInfo (@Tr.leaf TypeInfo) (@some TypeInfo Tryz.t433) (@Tr.leaf TypeInfo))) (@some TypeInfo Tryz.t113) (@Tr.node TypeInfo (@Tr.node TypeInfo 
    (@Tr.leaf TypeInfo) (@some TypeInfo Tryz.t369) (@Tr.leaf TypeInfo)) (@some TypeInfo Tryz.t241) (@Tr.leaf TypeInfo))) 

noncomputable def trieT22 : Tr TypeInfo :=
  (@Tr.node TypeInfo (@Tr.node TypeInfo (@Tr.node TypeInfo (@Tr.leaf TypeInfo) (@some TypeInfo Tryz.t265) (@Tr.leaf TypeInfo)) (@some TypeInfo Tryz.t137) 
    (@Tr.node TypeInfo (@Tr.leaf TypeInfo) (@some TypeInfo Tryz.t393) (@Tr.leaf TypeInfo))) (@some TypeInfo Tryz.t73) (@Tr.node TypeInfo (@Tr.node TypeInfo 
    (@Tr.leaf TypeInfo) (@some TypeInfo Tryz.t329) (@Tr.leaf TypeInfo)) (@some TypeInfo Tryz.t201) (@Tr.node TypeInfo (@Tr.leaf TypeInfo) (@some TypeInfo Tryz.t457) 
    (@Tr.leaf TypeInfo)))) 

noncomputable def trieT23 : Tr TypeInfo :=
  (@Tr.node TypeInfo (@Tr.node TypeInfo (@Tr.node TypeInfo (@Tr.leaf TypeInfo) (@some TypeInfo Tryz.t297) (@Tr.leaf TypeInfo)) (@some TypeInfo Tryz.t169) 
    (@Tr.node TypeInfo (@Tr.leaf TypeInfo) (@some TypeInfo Tryz.t425) (@Tr.leaf TypeInfo))) (@some TypeInfo Tryz.t105) (@Tr.node TypeInfo (@Tr.node TypeInfo 
    (@Tr.leaf TypeInfo) (@some TypeInfo Tryz.t361) (@Tr.leaf TypeInfo)) (@some TypeInfo Tryz.t233) (@Tr.leaf TypeInfo))) 

noncomputable def trieT24 : Tr TypeInfo :=
  (@Tr.node TypeInfo (@Tr.node TypeInfo (@Tr.node TypeInfo (@Tr.leaf TypeInfo) (@some TypeInfo Tryz.t281) (@Tr.leaf TypeInfo)) (@some TypeInfo Tryz.t153) 
    (@Tr.node TypeInfo (@Tr.leaf TypeInfo) (@some TypeInfo Tryz.t409) (@Tr.leaf TypeInfo))) (@some TypeInfo Tryz.t89) (@Tr.node TypeInfo (@Tr.node TypeInfo 
    (@Tr.leaf TypeInfo) (@some TypeInfo Tryz.t345) (@Tr.leaf TypeInfo)) (@some TypeInfo Tryz.t217) (@Tr.leaf TypeInfo))) 

noncomputable def trieT25 : Tr TypeInfo :=
  (@Tr.node TypeInfo (@Tr.node TypeInfo (@Tr.node TypeInfo (@Tr.leaf TypeInfo) (@some TypeInfo Tryz.t313) (@Tr.leaf TypeInfo)) (@some TypeInfo Tryz.t185) 
    (@Tr.node TypeInfo (@Tr.leaf TypeInfo) (@some TypeInfo Tryz.t441) (@Tr.leaf TypeInfo))) (@some TypeInfo Tryz.t121) (@Tr.node TypeInfo (@Tr.node TypeInfo 
    (@Tr.leaf TypeInfo) (@some TypeInfo Tryz.t377) (@Tr.leaf TypeInfo)) (@some TypeInfo Tryz.t249) (@Tr.leaf TypeInfo))) 

noncomputable def trieT26 : Tr TypeInfo :=
  (@Tr.node TypeInfo (@Tr.node TypeInfo (@Tr.node TypeInfo trieT18 (@some TypeInfo Tryz.t33) trieT19) (@some TypeInfo Tryz.t17) (@Tr.node TypeInfo trieT20 
    (@some TypeInfo Tryz.t49) trieT21)) (@some TypeInfo Tryz.t9) (@Tr.node TypeInfo (@Tr.node TypeInfo trieT22 (@some TypeInfo Tryz.t41) trieT23) (@some TypeInfo 
    Tryz.t25) (@Tr.node TypeInfo trieT24 (@some TypeInfo Tryz.t57) trieT25))) 

noncomputable def trieT27 : Tr TypeInfo :=
  (@Tr.node TypeInfo (@Tr.node TypeInfo (@Tr.node TypeInfo (@Tr.leaf TypeInfo) (@some TypeInfo Tryz.t261) (@Tr.leaf TypeInfo)) (@some TypeInfo Tryz.t133) 
    (@Tr.node TypeInfo (@Tr.leaf TypeInfo) (@some TypeInfo Tryz.t389) (@Tr.leaf TypeInfo))) (@some TypeInfo Tryz.t69) (@Tr.node TypeInfo (@Tr.node TypeInfo 
    (@Tr.leaf TypeInfo) (@some TypeInfo Tryz.t325) (@Tr.leaf TypeInfo)) (@some TypeInfo Tryz.t197) (@Tr.node TypeInfo (@Tr.leaf TypeInfo) (@some TypeInfo Tryz.t453) 
    (@Tr.leaf TypeInfo)))) 

noncomputable def trieT28 : Tr TypeInfo :=
  (@Tr.node TypeInfo (@Tr.node TypeInfo (@Tr.node TypeInfo (@Tr.leaf TypeInfo) (@some TypeInfo Tryz.t293) (@Tr.leaf TypeInfo)) (@some TypeInfo Tryz.t165) 
    (@Tr.node TypeInfo (@Tr.leaf TypeInfo) (@some TypeInfo Tryz.t421) (@Tr.leaf TypeInfo))) (@some TypeInfo Tryz.t101) (@Tr.node TypeInfo (@Tr.node TypeInfo 
    (@Tr.leaf TypeInfo) (@some TypeInfo Tryz.t357) (@Tr.leaf TypeInfo)) (@some TypeInfo Tryz.t229) (@Tr.leaf TypeInfo))) 

noncomputable def trieT29 : Tr TypeInfo :=
  (@Tr.node TypeInfo (@Tr.node TypeInfo (@Tr.node TypeInfo (@Tr.leaf TypeInfo) (@some TypeInfo Tryz.t277) (@Tr.leaf TypeInfo)) (@some TypeInfo Tryz.t149) 
    (@Tr.node TypeInfo (@Tr.leaf TypeInfo) (@some TypeInfo Tryz.t405) (@Tr.leaf TypeInfo))) (@some TypeInfo Tryz.t85) (@Tr.node TypeInfo (@Tr.node TypeInfo 
    (@Tr.leaf TypeInfo) (@some TypeInfo Tryz.t341) (@Tr.leaf TypeInfo)) (@some TypeInfo Tryz.t213) (@Tr.node TypeInfo (@Tr.leaf TypeInfo) (@some TypeInfo Tryz.t469) 
    (@Tr.leaf TypeInfo)))) 

noncomputable def trieT30 : Tr TypeInfo :=
  (@Tr.node TypeInfo (@Tr.node TypeInfo (@Tr.node TypeInfo (@Tr.leaf TypeInfo) (@some TypeInfo Tryz.t309) (@Tr.leaf TypeInfo)) (@some TypeInfo Tryz.t181) 
    (@Tr.node TypeInfo (@Tr.leaf TypeInfo) (@some TypeInfo Tryz.t437) (@Tr.leaf TypeInfo))) (@some TypeInfo Tryz.t117) (@Tr.node TypeInfo (@Tr.node TypeInfo 
    (@Tr.leaf TypeInfo) (@some TypeInfo Tryz.t373) (@Tr.leaf TypeInfo)) (@some TypeInfo Tryz.t245) (@Tr.leaf TypeInfo))) 

noncomputable def trieT31 : Tr TypeInfo :=
  (@Tr.node TypeInfo (@Tr.node TypeInfo (@Tr.node TypeInfo (@Tr.leaf TypeInfo) (@some TypeInfo Tryz.t269) (@Tr.leaf TypeInfo)) (@some TypeInfo Tryz.t141) 
    (@Tr.node TypeInfo (@Tr.leaf TypeInfo) (@some TypeInfo Tryz.t397) (@Tr.leaf TypeInfo))) (@some TypeInfo Tryz.t77) (@Tr.node TypeInfo (@Tr.node TypeInfo 
    (@Tr.leaf TypeInfo) (@some TypeInfo Tryz.t333) (@Tr.leaf TypeInfo)) (@some TypeInfo Tryz.t205) (@Tr.node TypeInfo (@Tr.leaf TypeInfo) (@some TypeInfo Tryz.t461) 
    (@Tr.leaf TypeInfo)))) 

noncomputable def trieT32 : Tr TypeInfo :=
  (@Tr.node TypeInfo (@Tr.node TypeInfo (@Tr.node TypeInfo (@Tr.leaf TypeInfo) (@some TypeInfo Tryz.t301) (@Tr.leaf TypeInfo)) (@some TypeInfo Tryz.t173) 
    (@Tr.node TypeInfo (@Tr.leaf TypeInfo) (@some TypeInfo Tryz.t429) (@Tr.leaf TypeInfo))) (@some TypeInfo Tryz.t109) (@Tr.node TypeInfo (@Tr.node TypeInfo 
    (@Tr.leaf TypeInfo) (@some TypeInfo Tryz.t365) (@Tr.leaf TypeInfo)) (@some TypeInfo Tryz.t237) (@Tr.leaf TypeInfo))) 

noncomputable def trieT33 : Tr TypeInfo :=
  (@Tr.node TypeInfo (@Tr.node TypeInfo (@Tr.node TypeInfo (@Tr.leaf TypeInfo) (@some TypeInfo Tryz.t285) (@Tr.leaf TypeInfo)) (@some TypeInfo Tryz.t157) 
    (@Tr.node TypeInfo (@Tr.leaf TypeInfo) (@some TypeInfo Tryz.t413) (@Tr.leaf TypeInfo))) (@some TypeInfo Tryz.t93) (@Tr.node TypeInfo (@Tr.node TypeInfo 
    (@Tr.leaf TypeInfo) (@some TypeInfo Tryz.t349) (@Tr.leaf TypeInfo)) (@some TypeInfo Tryz.t221) (@Tr.leaf TypeInfo))) 

noncomputable def trieT34 : Tr TypeInfo :=
  (@Tr.node TypeInfo (@Tr.node TypeInfo (@Tr.node TypeInfo (@Tr.leaf TypeInfo) (@some TypeInfo Tryz.t317) (@Tr.leaf TypeInfo)) (@some TypeInfo Tryz.t189) 
    (@Tr.node TypeInfo (@Tr.leaf TypeInfo) (@some TypeInfo Tryz.t445) (@Tr.leaf TypeInfo))) (@some TypeInfo Tryz.t125) (@Tr.node TypeInfo (@Tr.node TypeInfo 
    (@Tr.leaf TypeInfo) (@some TypeInfo Tryz.t381) (@Tr.leaf TypeInfo)) (@some TypeInfo Tryz.t253) (@Tr.leaf TypeInfo))) 

noncomputable def trieT35 : Tr TypeInfo :=
  (@Tr.node TypeInfo (@Tr.node TypeInfo (@Tr.node TypeInfo trieT27 (@some TypeInfo Tryz.t37) trieT28) (@some TypeInfo Tryz.t21) (@Tr.node TypeInfo trieT29 
    (@some TypeInfo Tryz.t53) trieT30)) (@some TypeInfo Tryz.t13) (@Tr.node TypeInfo (@Tr.node TypeInfo trieT31 (@some TypeInfo Tryz.t45) trieT32) (@some TypeInfo 
    Tryz.t29) (@Tr.node TypeInfo trieT33 (@some TypeInfo Tryz.t61) trieT34))) 

noncomputable def trieT36 : Tr TypeInfo :=
  (@Tr.node TypeInfo (@Tr.node TypeInfo (@Tr.node TypeInfo (@Tr.leaf TypeInfo) (@some TypeInfo Tryz.t256) (@Tr.leaf TypeInfo)) (@some TypeInfo Tryz.t128) 
    (@Tr.node TypeInfo (@Tr.leaf TypeInfo) (@some TypeInfo Tryz.t384) (@Tr.leaf TypeInfo))) (@some TypeInfo Tryz.t64) (@Tr.node TypeInfo (@Tr.node TypeInfo 
    (@Tr.leaf TypeInfo) (@some TypeInfo Tryz.t320) (@Tr.leaf TypeInfo)) (@some TypeInfo Tryz.t192) (@Tr.node TypeInfo (@Tr.leaf TypeInfo) (@some TypeInfo Tryz.t448) 
    (@Tr.leaf TypeInfo)))) 

noncomputable def trieT37 : Tr TypeInfo :=
  (@Tr.node TypeInfo (@Tr.node TypeInfo (@Tr.node TypeInfo (@Tr.leaf TypeInfo) (@some TypeInfo Tryz.t288) (@Tr.leaf TypeInfo)) (@some TypeInfo Tryz.t160) 
    (@Tr.node TypeInfo (@Tr.leaf TypeInfo) (@some TypeInfo Tryz.t416) (@Tr.leaf TypeInfo))) (@some TypeInfo Tryz.t96) (@Tr.node TypeInfo (@Tr.node TypeInfo 
    (@Tr.leaf TypeInfo) (@some TypeInfo Tryz.t352) (@Tr.leaf TypeInfo)) (@some TypeInfo Tryz.t224) (@Tr.leaf TypeInfo))) 

noncomputable def trieT38 : Tr TypeInfo :=
  (@Tr.node TypeInfo (@Tr.node TypeInfo (@Tr.node TypeInfo (@Tr.leaf TypeInfo) (@some TypeInfo Tryz.t272) (@Tr.leaf TypeInfo)) (@some TypeInfo Tryz.t144) 
    (@Tr.node TypeInfo (@Tr.leaf TypeInfo) (@some TypeInfo Tryz.t400) (@Tr.leaf TypeInfo))) (@some TypeInfo Tryz.t80) (@Tr.node TypeInfo (@Tr.node TypeInfo 
    (@Tr.leaf TypeInfo) (@some TypeInfo Tryz.t336) (@Tr.leaf TypeInfo)) (@some TypeInfo Tryz.t208) (@Tr.node TypeInfo (@Tr.leaf TypeInfo) (@some TypeInfo Tryz.t464) 
    (@Tr.leaf TypeInfo)))) 

noncomputable def trieT39 : Tr TypeInfo :=
  (@Tr.node TypeInfo (@Tr.node TypeInfo (@Tr.node TypeInfo (@Tr.leaf TypeInfo) (@some TypeInfo Tryz.t304) (@Tr.leaf TypeInfo)) (@some TypeInfo Tryz.t176) 
    (@Tr.node TypeInfo (@Tr.leaf TypeInfo) (@some TypeInfo Tryz.t432) (@Tr.leaf TypeInfo))) (@some TypeInfo Tryz.t112) (@Tr.node TypeInfo (@Tr.node TypeInfo 
    (@Tr.leaf TypeInfo) (@some TypeInfo Tryz.t368) (@Tr.leaf TypeInfo)) (@some TypeInfo Tryz.t240) (@Tr.leaf TypeInfo))) 

noncomputable def trieT40 : Tr TypeInfo :=
  (@Tr.node TypeInfo (@Tr.node TypeInfo (@Tr.node TypeInfo (@Tr.leaf TypeInfo) (@some TypeInfo Tryz.t264) (@Tr.leaf TypeInfo)) (@some TypeInfo Tryz.t136) 
    (@Tr.node TypeInfo (@Tr.leaf TypeInfo) (@some TypeInfo Tryz.t392) (@Tr.leaf TypeInfo))) (@some TypeInfo Tryz.t72) (@Tr.node TypeInfo (@Tr.node TypeInfo 
    (@Tr.leaf TypeInfo) (@some TypeInfo Tryz.t328) (@Tr.leaf TypeInfo)) (@some TypeInfo Tryz.t200) (@Tr.node TypeInfo (@Tr.leaf TypeInfo) (@some TypeInfo Tryz.t456) 
    (@Tr.leaf TypeInfo)))) 

noncomputable def trieT41 : Tr TypeInfo :=
  (@Tr.node TypeInfo (@Tr.node TypeInfo (@Tr.node TypeInfo (@Tr.leaf TypeInfo) (@some TypeInfo Tryz.t296) (@Tr.leaf TypeInfo)) (@some TypeInfo Tryz.t168) 
    (@Tr.node TypeInfo (@Tr.leaf TypeInfo) (@some TypeInfo Tryz.t424) (@Tr.leaf TypeInfo))) (@some TypeInfo Tryz.t104) (@Tr.node TypeInfo (@Tr.node TypeInfo 
    (@Tr.leaf TypeInfo) (@some TypeInfo Tryz.t360) (@Tr.leaf TypeInfo)) (@some TypeInfo Tryz.t232) (@Tr.leaf TypeInfo))) 

noncomputable def trieT42 : Tr TypeInfo :=
  (@Tr.node TypeInfo (@Tr.node TypeInfo (@Tr.node TypeInfo (@Tr.leaf TypeInfo) (@some TypeInfo Tryz.t280) (@Tr.leaf TypeInfo)) (@some TypeInfo Tryz.t152) 
    (@Tr.node TypeInfo (@Tr.leaf TypeInfo) (@some TypeInfo Tryz.t408) (@Tr.leaf TypeInfo))) (@some TypeInfo Tryz.t88) (@Tr.node TypeInfo (@Tr.node TypeInfo 
    (@Tr.leaf TypeInfo) (@some TypeInfo Tryz.t344) (@Tr.leaf TypeInfo)) (@some TypeInfo Tryz.t216) (@Tr.leaf TypeInfo))) 

noncomputable def trieT43 : Tr TypeInfo :=
  (@Tr.node TypeInfo (@Tr.node TypeInfo (@Tr.node TypeInfo (@Tr.leaf TypeInfo) (@some TypeInfo Tryz.t312) (@Tr.leaf TypeInfo)) (@some TypeInfo Tryz.t184) 
    (@Tr.node TypeInfo (@Tr.leaf TypeInfo) (@some TypeInfo Tryz.t440) (@Tr.leaf TypeInfo))) (@some TypeInfo Tryz.t120) (@Tr.node TypeInfo (@Tr.node TypeInfo 
    (@Tr.leaf TypeInfo) (@some TypeInfo Tryz.t376) (@Tr.leaf TypeInfo)) (@some TypeInfo Tryz.t248) (@Tr.leaf TypeInfo))) 

noncomputable def trieT44 : Tr TypeInfo :=
  (@Tr.node TypeInfo (@Tr.node TypeInfo (@Tr.node TypeInfo trieT36 (@some TypeInfo Tryz.t32) trieT37) (@some TypeInfo Tryz.t16) (@Tr.node TypeInfo trieT38 
    (@some TypeInfo Tryz.t48) trieT39)) (@some TypeInfo Tryz.t8) (@Tr.node TypeInfo (@Tr.node TypeInfo trieT40 (@some TypeInfo Tryz.t40) trieT41) (@some TypeInfo 
    Tryz.t24) (@Tr.node TypeInfo trieT42 (@some TypeInfo Tryz.t56) trieT43))) 

noncomputable def trieT45 : Tr TypeInfo :=
  (@Tr.node TypeInfo (@Tr.node TypeInfo (@Tr.node TypeInfo (@Tr.leaf TypeInfo) (@some TypeInfo Tryz.t260) (@Tr.leaf TypeInfo)) (@some TypeInfo Tryz.t132) 
    (@Tr.node TypeInfo (@Tr.leaf TypeInfo) (@some TypeInfo Tryz.t388) (@Tr.leaf TypeInfo))) (@some TypeInfo Tryz.t68) (@Tr.node TypeInfo (@Tr.node TypeInfo 
    (@Tr.leaf TypeInfo) (@some TypeInfo Tryz.t324) (@Tr.leaf TypeInfo)) (@some TypeInfo Tryz.t196) (@Tr.node TypeInfo (@Tr.leaf TypeInfo) (@some TypeInfo Tryz.t452) 
    (@Tr.leaf TypeInfo)))) 

noncomputable def trieT46 : Tr TypeInfo :=
  (@Tr.node TypeInfo (@Tr.node TypeInfo (@Tr.node TypeInfo (@Tr.leaf TypeInfo) (@some TypeInfo Tryz.t292) (@Tr.leaf TypeInfo)) (@some TypeInfo Tryz.t164) 
    (@Tr.node TypeInfo (@Tr.leaf TypeInfo) (@some TypeInfo Tryz.t420) (@Tr.leaf TypeInfo))) (@some TypeInfo Tryz.t100) (@Tr.node TypeInfo (@Tr.node TypeInfo 
    (@Tr.leaf TypeInfo) (@some TypeInfo Tryz.t356) (@Tr.leaf TypeInfo)) (@some TypeInfo Tryz.t228) (@Tr.leaf TypeInfo))) 

noncomputable def trieT47 : Tr TypeInfo :=
  (@Tr.node TypeInfo (@Tr.node TypeInfo (@Tr.node TypeInfo (@Tr.leaf TypeInfo) (@some TypeInfo Tryz.t276) (@Tr.leaf TypeInfo)) (@some TypeInfo Tryz.t148) 
    (@Tr.node TypeInfo (@Tr.leaf TypeInfo) (@some TypeInfo Tryz.t404) (@Tr.leaf TypeInfo))) (@some TypeInfo Tryz.t84) (@Tr.node TypeInfo (@Tr.node TypeInfo 
    (@Tr.leaf TypeInfo) (@some TypeInfo Tryz.t340) (@Tr.leaf TypeInfo)) (@some TypeInfo Tryz.t212) (@Tr.node TypeInfo (@Tr.leaf TypeInfo) (@some TypeInfo Tryz.t468) 
    (@Tr.leaf TypeInfo)))) 

noncomputable def trieT48 : Tr TypeInfo :=
  (@Tr.node TypeInfo (@Tr.node TypeInfo (@Tr.node TypeInfo (@Tr.leaf TypeInfo) (@some TypeInfo Tryz.t308) (@Tr.leaf TypeInfo)) (@some TypeInfo Tryz.t180) 
    (@Tr.node TypeInfo (@Tr.leaf TypeInfo) (@some TypeInfo Tryz.t436) (@Tr.leaf TypeInfo))) (@some TypeInfo Tryz.t116) (@Tr.node TypeInfo (@Tr.node TypeInfo 
    (@Tr.leaf TypeInfo) (@some TypeInfo Tryz.t372) (@Tr.leaf TypeInfo)) (@some TypeInfo Tryz.t244) (@Tr.leaf TypeInfo))) 

noncomputable def trieT49 : Tr TypeInfo :=
  (@Tr.node TypeInfo (@Tr.node TypeInfo (@Tr.node TypeInfo (@Tr.leaf TypeInfo) (@some TypeInfo Tryz.t268) (@Tr.leaf TypeInfo)) (@some TypeInfo Tryz.t140) 
    (@Tr.node TypeInfo (@Tr.leaf TypeInfo) (@some TypeInfo Tryz.t396) (@Tr.leaf TypeInfo))) (@some TypeInfo Tryz.t76) (@Tr.node TypeInfo (@Tr.node TypeInfo 
    (@Tr.leaf TypeInfo) (@some TypeInfo Tryz.t332) (@Tr.leaf TypeInfo)) (@some TypeInfo Tryz.t204) (@Tr.node TypeInfo (@Tr.leaf TypeInfo) (@some TypeInfo Tryz.t460) 
    (@Tr.leaf TypeInfo)))) 

noncomputable def trieT50 : Tr TypeInfo :=
  (@Tr.node TypeInfo (@Tr.node TypeInfo (@Tr.node TypeInfo (@Tr.leaf TypeInfo) (@some TypeInfo Tryz.t300) (@Tr.leaf TypeInfo)) (@some TypeInfo Tryz.t172) 
    (@Tr.node TypeInfo (@Tr.leaf TypeInfo) (@some TypeInfo Tryz.t428) (@Tr.leaf TypeInfo))) (@some TypeInfo Tryz.t108) (@Tr.node TypeInfo (@Tr.node TypeInfo 
    (@Tr.leaf TypeInfo) (@some TypeInfo Tryz.t364) (@Tr.leaf TypeInfo)) (@some TypeInfo Tryz.t236) (@Tr.leaf TypeInfo))) 

noncomputable def trieT51 : Tr TypeInfo :=
  (@Tr.node TypeInfo (@Tr.node TypeInfo (@Tr.node TypeInfo (@Tr.leaf TypeInfo) (@some TypeInfo Tryz.t284) (@Tr.leaf TypeInfo)) (@some TypeInfo Tryz.t156) 
    (@Tr.node TypeInfo (@Tr.leaf TypeInfo) (@some TypeInfo Tryz.t412) (@Tr.leaf TypeInfo))) (@some TypeInfo Tryz.t92) (@Tr.node TypeInfo (@Tr.node TypeInfo 
    (@Tr.leaf TypeInfo) (@some TypeInfo Tryz.t348) (@Tr.leaf TypeInfo)) (@some TypeInfo Tryz.t220) (@Tr.leaf TypeInfo))) 

noncomputable def trieT52 : Tr TypeInfo :=
  (@Tr.node TypeInfo (@Tr.node TypeInfo (@Tr.node TypeInfo (@Tr.leaf TypeInfo) (@some TypeInfo Tryz.t316) (@Tr.leaf TypeInfo)) (@some TypeInfo Tryz.t188) 
    (@Tr.node TypeInfo (@Tr.leaf TypeInfo) (@some TypeInfo Tryz.t444) (@Tr.leaf TypeInfo))) (@some TypeInfo Tryz.t124) (@Tr.node TypeInfo (@Tr.node TypeInfo 
    (@Tr.leaf TypeInfo) (@some TypeInfo Tryz.t380) (@Tr.leaf TypeInfo)) (@some TypeInfo Tryz.t252) (@Tr.leaf TypeInfo))) 

noncomputable def trieT53 : Tr TypeInfo :=
  (@Tr.node TypeInfo (@Tr.node TypeInfo (@Tr.node TypeInfo trieT45 (@some TypeInfo Tryz.t36) trieT46) (@some TypeInfo Tryz.t20) (@Tr.node TypeInfo trieT47 
    (@some TypeInfo Tryz.t52) trieT48)) (@some TypeInfo Tryz.t12) (@Tr.node TypeInfo (@Tr.node TypeInfo trieT49 (@some TypeInfo Tryz.t44) trieT50) (@some TypeInfo 
    Tryz.t28) (@Tr.node TypeInfo trieT51 (@some TypeInfo Tryz.t60) trieT52))) 

noncomputable def trieT54 : Tr TypeInfo :=
  (@Tr.node TypeInfo (@Tr.node TypeInfo (@Tr.node TypeInfo (@Tr.leaf TypeInfo) (@some TypeInfo Tryz.t258) (@Tr.leaf TypeInfo)) (@some TypeInfo Tryz.t130) 
    (@Tr.node TypeInfo (@Tr.leaf TypeInfo) (@some TypeInfo Tryz.t386) (@Tr.leaf TypeInfo))) (@some TypeInfo Tryz.t66) (@Tr.node TypeInfo (@Tr.node TypeInfo 
    (@Tr.leaf TypeInfo) (@some TypeInfo Tryz.t322) (@Tr.leaf TypeInfo)) (@some TypeInfo Tryz.t194) (@Tr.node TypeInfo (@Tr.leaf TypeInfo) (@some TypeInfo Tryz.t450) 
    (@Tr.leaf TypeInfo)))) 

noncomputable def trieT55 : Tr TypeInfo :=
  (@Tr.node TypeInfo (@Tr.node TypeInfo (@Tr.node TypeInfo (@Tr.leaf TypeInfo) (@some TypeInfo Tryz.t290) (@Tr.leaf TypeInfo)) (@some TypeInfo Tryz.t162) 
    (@Tr.node TypeInfo (@Tr.leaf TypeInfo) (@some TypeInfo Tryz.t418) (@Tr.leaf TypeInfo))) (@some TypeInfo Tryz.t98) (@Tr.node TypeInfo (@Tr.node TypeInfo 
    (@Tr.leaf TypeInfo) (@some TypeInfo Tryz.t354) (@Tr.leaf TypeInfo)) (@some TypeInfo Tryz.t226) (@Tr.leaf TypeInfo))) 

noncomputable def trieT56 : Tr TypeInfo :=
  (@Tr.node TypeInfo (@Tr.node TypeInfo (@Tr.node TypeInfo (@Tr.leaf TypeInfo) (@some TypeInfo Tryz.t274) (@Tr.leaf TypeInfo)) (@some TypeInfo Tryz.t146) 
    (@Tr.node TypeInfo (@Tr.leaf TypeInfo) (@some TypeInfo Tryz.t402) (@Tr.leaf TypeInfo))) (@some TypeInfo Tryz.t82) (@Tr.node TypeInfo (@Tr.node TypeInfo 
    (@Tr.leaf TypeInfo) (@some TypeInfo Tryz.t338) (@Tr.leaf TypeInfo)) (@some TypeInfo Tryz.t210) (@Tr.node TypeInfo (@Tr.leaf TypeInfo) (@some TypeInfo Tryz.t466) 
    (@Tr.leaf TypeInfo)))) 

noncomputable def trieT57 : Tr TypeInfo :=
  (@Tr.node TypeInfo (@Tr.node TypeInfo (@Tr.node TypeInfo (@Tr.leaf TypeInfo) (@some TypeInfo Tryz.t306) (@Tr.leaf TypeInfo)) (@some TypeInfo Tryz.t178) 
    (@Tr.node TypeInfo (@Tr.leaf TypeInfo) (@some TypeInfo Tryz.t434) (@Tr.leaf TypeInfo))) (@some TypeInfo Tryz.t114) (@Tr.node TypeInfo (@Tr.node TypeInfo 
    (@Tr.leaf TypeInfo) (@some TypeInfo Tryz.t370) (@Tr.leaf TypeInfo)) (@some TypeInfo Tryz.t242) (@Tr.leaf TypeInfo))) 

noncomputable def trieT58 : Tr TypeInfo :=
  (@Tr.node TypeInfo (@Tr.node TypeInfo (@Tr.node TypeInfo (@Tr.leaf TypeInfo) (@some TypeInfo Tryz.t266) (@Tr.leaf TypeInfo)) (@some TypeInfo Tryz.t138) 
    (@Tr.node TypeInfo (@Tr.leaf TypeInfo) (@some TypeInfo Tryz.t394) (@Tr.leaf TypeInfo))) (@some TypeInfo Tryz.t74) (@Tr.node TypeInfo (@Tr.node TypeInfo 
    (@Tr.leaf TypeInfo) (@some TypeInfo Tryz.t330) (@Tr.leaf TypeInfo)) (@some TypeInfo Tryz.t202) (@Tr.node TypeInfo (@Tr.leaf TypeInfo) (@some TypeInfo Tryz.t458) 
    (@Tr.leaf TypeInfo)))) 

noncomputable def trieT59 : Tr TypeInfo :=
  (@Tr.node TypeInfo (@Tr.node TypeInfo (@Tr.node TypeInfo (@Tr.leaf TypeInfo) (@some TypeInfo Tryz.t298) (@Tr.leaf TypeInfo)) (@some TypeInfo Tryz.t170) 
    (@Tr.node TypeInfo (@Tr.leaf TypeInfo) (@some TypeInfo Tryz.t426) (@Tr.leaf TypeInfo))) (@some TypeInfo Tryz.t106) (@Tr.node TypeInfo (@Tr.node TypeInfo 
    (@Tr.leaf TypeInfo) (@some TypeInfo Tryz.t362) (@Tr.leaf TypeInfo)) (@some TypeInfo Tryz.t234) (@Tr.leaf TypeInfo))) 

noncomputable def trieT60 : Tr TypeInfo :=
  (@Tr.node TypeInfo (@Tr.node TypeInfo (@Tr.node TypeInfo (@Tr.leaf TypeInfo) (@some TypeInfo Tryz.t282) (@Tr.leaf TypeInfo)) (@some TypeInfo Tryz.t154) 
    (@Tr.node TypeInfo (@Tr.leaf TypeInfo) (@some TypeInfo Tryz.t410) (@Tr.leaf TypeInfo))) (@some TypeInfo Tryz.t90) (@Tr.node TypeInfo (@Tr.node TypeInfo 
    (@Tr.leaf TypeInfo) (@some TypeInfo Tryz.t346) (@Tr.leaf TypeInfo)) (@some TypeInfo Tryz.t218) (@Tr.leaf TypeInfo))) 

noncomputable def trieT61 : Tr TypeInfo :=
  (@Tr.node TypeInfo (@Tr.node TypeInfo (@Tr.node TypeInfo (@Tr.leaf TypeInfo) (@some TypeInfo Tryz.t314) (@Tr.leaf TypeInfo)) (@some TypeInfo Tryz.t186) 
    (@Tr.node TypeInfo (@Tr.leaf TypeInfo) (@some TypeInfo Tryz.t442) (@Tr.leaf TypeInfo))) (@some TypeInfo Tryz.t122) (@Tr.node TypeInfo (@Tr.node TypeInfo 
    (@Tr.leaf TypeInfo) (@some TypeInfo Tryz.t378) (@Tr.leaf TypeInfo)) (@some TypeInfo Tryz.t250) (@Tr.leaf TypeInfo))) 

noncomputable def trieT62 : Tr TypeInfo :=
  (@Tr.node TypeInfo (@Tr.node TypeInfo (@Tr.node TypeInfo trieT54 (@some TypeInfo Tryz.t34) trieT55) (@some TypeInfo Tryz.t18) (@Tr.node TypeInfo trieT56 
    (@some TypeInfo Tryz.t50) trieT57)) (@some TypeInfo Tryz.t10) (@Tr.node TypeInfo (@Tr.node TypeInfo trieT58 (@some TypeInfo Tryz.t42) trieT59) (@some TypeInfo 
    Tryz.t26) (@Tr.node TypeInfo trieT60 (@some TypeInfo Tryz.t58) trieT61))) 

noncomputable def trieT63 : Tr TypeInfo :=
  (@Tr.node TypeInfo (@Tr.node TypeInfo (@Tr.node TypeInfo (@Tr.leaf TypeInfo) (@some TypeInfo Tryz.t262) (@Tr.leaf TypeInfo)) (@some TypeInfo Tryz.t134) 
    (@Tr.node TypeInfo (@Tr.leaf TypeInfo) (@some TypeInfo Tryz.t390) (@Tr.leaf TypeInfo))) (@some TypeInfo Tryz.t70) (@Tr.node TypeInfo (@Tr.node TypeInfo 
    (@Tr.leaf TypeInfo) (@some TypeInfo Tryz.t326) (@Tr.leaf TypeInfo)) (@some TypeInfo Tryz.t198) (@Tr.node TypeInfo (@Tr.leaf TypeInfo) (@some TypeInfo Tryz.t454) 
    (@Tr.leaf TypeInfo)))) 

noncomputable def trieT64 : Tr TypeInfo :=
  (@Tr.node TypeInfo (@Tr.node TypeInfo (@Tr.node TypeInfo (@Tr.leaf TypeInfo) (@some TypeInfo Tryz.t294) (@Tr.leaf TypeInfo)) (@some TypeInfo Tryz.t166) 
    (@Tr.node TypeInfo (@Tr.leaf TypeInfo) (@some TypeInfo Tryz.t422) (@Tr.leaf TypeInfo))) (@some TypeInfo Tryz.t102) (@Tr.node TypeInfo (@Tr.node TypeInfo 
    (@Tr.leaf TypeInfo) (@some TypeInfo Tryz.t358) (@Tr.leaf TypeInfo)) (@some TypeInfo Tryz.t230) (@Tr.leaf TypeInfo))) 

noncomputable def trieT65 : Tr TypeInfo :=
  (@Tr.node TypeInfo (@Tr.node TypeInfo (@Tr.node TypeInfo (@Tr.leaf TypeInfo) (@some TypeInfo Tryz.t278) (@Tr.leaf TypeInfo)) (@some TypeInfo Tryz.t150) 
    (@Tr.node TypeInfo (@Tr.leaf TypeInfo) (@some TypeInfo Tryz.t406) (@Tr.leaf TypeInfo))) (@some TypeInfo Tryz.t86) (@Tr.node TypeInfo (@Tr.node TypeInfo 
    (@Tr.leaf TypeInfo) (@some TypeInfo Tryz.t342) (@Tr.leaf TypeInfo)) (@some TypeInfo Tryz.t214) (@Tr.node TypeInfo (@Tr.leaf TypeInfo) (@some TypeInfo Tryz.t470) 
    (@Tr.leaf TypeInfo)))) 

noncomputable def trieT66 : Tr TypeInfo :=
  (@Tr.node TypeInfo (@Tr.node TypeInfo (@Tr.node TypeInfo (@Tr.leaf TypeInfo) (@some TypeInfo Tryz.t310) (@Tr.leaf TypeInfo)) (@some TypeInfo Tryz.t182) 
    (@Tr.node TypeInfo (@Tr.leaf TypeInfo) (@some TypeInfo Tryz.t438) (@Tr.leaf TypeInfo))) (@some TypeInfo Tryz.t118) (@Tr.node TypeInfo (@Tr.node TypeInfo 
    (@Tr.leaf TypeInfo) (@some TypeInfo Tryz.t374) (@Tr.leaf TypeInfo)) (@some TypeInfo Tryz.t246) (@Tr.leaf TypeInfo))) 

noncomputable def trieT67 : Tr TypeInfo :=
  (@Tr.node TypeInfo (@Tr.node TypeInfo (@Tr.node TypeInfo (@Tr.leaf TypeInfo) (@some TypeInfo Tryz.t270) (@Tr.leaf TypeInfo)) (@some TypeInfo Tryz.t142) 
    (@Tr.node TypeInfo (@Tr.leaf TypeInfo) (@some TypeInfo Tryz.t398) (@Tr.leaf TypeInfo))) (@some TypeInfo Tryz.t78) (@Tr.node TypeInfo (@Tr.node TypeInfo 
    (@Tr.leaf TypeInfo) (@some TypeInfo Tryz.t334) (@Tr.leaf TypeInfo)) (@some TypeInfo Tryz.t206) (@Tr.node TypeInfo (@Tr.leaf TypeInfo) (@some TypeInfo Tryz.t462) 
    (@Tr.leaf TypeInfo)))) 

noncomputable def trieT68 : Tr TypeInfo :=
  (@Tr.node TypeInfo (@Tr.node TypeInfo (@Tr.node TypeInfo (@Tr.leaf TypeInfo) (@some TypeInfo Tryz.t302) (@Tr.leaf TypeInfo)) (@some TypeInfo Tryz.t174) 
    (@Tr.node TypeInfo (@Tr.leaf TypeInfo) (@some TypeInfo Tryz.t430) (@Tr.leaf TypeInfo))) (@some TypeInfo Tryz.t110) (@Tr.node TypeInfo (@Tr.node TypeInfo 
    (@Tr.leaf TypeInfo) (@some TypeInfo Tryz.t366) (@Tr.leaf TypeInfo)) (@some TypeInfo Tryz.t238) (@Tr.leaf TypeInfo))) 

noncomputable def trieT69 : Tr TypeInfo :=
  (@Tr.node TypeInfo (@Tr.node TypeInfo (@Tr.node TypeInfo (@Tr.leaf TypeInfo) (@some TypeInfo Tryz.t286) (@Tr.leaf TypeInfo)) (@some TypeInfo Tryz.t158) 
    (@Tr.node TypeInfo (@Tr.leaf TypeInfo) (@some TypeInfo Tryz.t414) (@Tr.leaf TypeInfo))) (@some TypeInfo Tryz.t94) (@Tr.node TypeInfo (@Tr.node TypeInfo 
    (@Tr.leaf TypeInfo) (@some TypeInfo Tryz.t350) (@Tr.leaf TypeInfo)) (@some TypeInfo Tryz.t222) (@Tr.leaf TypeInfo))) 

noncomputable def trieT70 : Tr TypeInfo :=
  (@Tr.node TypeInfo (@Tr.node TypeInfo (@Tr.node TypeInfo (@Tr.leaf TypeInfo) (@some TypeInfo Tryz.t318) (@Tr.leaf TypeInfo)) (@some TypeInfo Tryz.t190) 
    (@Tr.node TypeInfo (@Tr.leaf TypeInfo) (@some TypeInfo Tryz.t446) (@Tr.leaf TypeInfo))) (@some TypeInfo Tryz.t126) (@Tr.node TypeInfo (@Tr.node TypeInfo 
    (@Tr.leaf TypeInfo) (@some TypeInfo Tryz.t382) (@Tr.leaf TypeInfo)) (@some TypeInfo Tryz.t254) (@Tr.leaf TypeInfo))) 

noncomputable def trieT71 : Tr TypeInfo :=
  (@Tr.node TypeInfo (@Tr.node TypeInfo (@Tr.node TypeInfo trieT63 (@some TypeInfo Tryz.t38) trieT64) (@some TypeInfo Tryz.t22) (@Tr.node TypeInfo trieT65 
    (@some TypeInfo Tryz.t54) trieT66)) (@some TypeInfo Tryz.t14) (@Tr.node TypeInfo (@Tr.node TypeInfo trieT67 (@some TypeInfo Tryz.t46) trieT68) (@some TypeInfo 
    Tryz.t30) (@Tr.node TypeInfo trieT69 (@some TypeInfo Tryz.t62) trieT70))) 

noncomputable def trieT : Tr TypeInfo :=
  (@Tr.node TypeInfo (@Tr.node TypeInfo (@Tr.node TypeInfo trieT8 (@some TypeInfo Tryz.t3) trieT17) (@some TypeInfo Tryz.t1) (@Tr.node TypeInfo trieT26 (@some 
    TypeInfo Tryz.t5) trieT35)) (@some TypeInfo Tryz.t0) (@Tr.node TypeInfo (@Tr.node TypeInfo trieT44 (@some TypeInfo Tryz.t4) trieT53) (@some TypeInfo Tryz.t2) 
    (@Tr.node TypeInfo trieT62 (@some TypeInfo Tryz.t6) trieT71))) 

noncomputable def trieF0 : Tr Func :=
  (@Tr.node Func (@Tr.node Func (@Tr.node Func (@Tr.leaf Func) (@some Func Tryz.f255) (@Tr.leaf Func)) (@some Func Tryz.f127) (@Tr.node Func (@Tr.leaf Func) 
    (@none Func) (@Tr.leaf Func))) (@some Func Tryz.f63) (@Tr.node Func (@Tr.node Func (@Tr.leaf Func) (@some Func Tryz.f319) (@Tr.leaf Func)) (@some Func 
    Tryz.f191) (@Tr.leaf Func))) 

noncomputable def trieF1 : Tr Func :=
  (@Tr.node Func (@Tr.node Func (@Tr.node Func (@Tr.leaf Func) (@some Func Tryz.f287) (@Tr.leaf Func)) (@some Func Tryz.f159) (@Tr.leaf Func)) (@some Func 
    Tryz.f95) (@Tr.node Func (@Tr.node Func (@Tr.leaf Func) (@some Func Tryz.f351) (@Tr.leaf Func)) (@some Func Tryz.f223) (@Tr.leaf Func))) 

noncomputable def trieF2 : Tr Func :=
  (@Tr.node Func (@Tr.node Func (@Tr.node Func (@Tr.leaf Func) (@some Func Tryz.f271) (@Tr.leaf Func)) (@some Func Tryz.f143) (@Tr.leaf Func)) (@some Func 
    Tryz.f79) (@Tr.node Func (@Tr.node Func (@Tr.leaf Func) (@some Func Tryz.f335) (@Tr.leaf Func)) (@some Func Tryz.f207) (@Tr.leaf Func))) 

noncomputable def trieF3 : Tr Func :=
  (@Tr.node Func (@Tr.node Func (@Tr.node Func (@Tr.leaf Func) (@some Func Tryz.f303) (@Tr.leaf Func)) (@some Func Tryz.f175) (@Tr.leaf Func)) (@some Func 
    Tryz.f111) (@Tr.node Func (@Tr.node Func (@Tr.leaf Func) (@none Func) (@Tr.leaf Func)) (@some Func Tryz.f239) (@Tr.leaf Func))) 

noncomputable def trieF4 : Tr Func :=
  (@Tr.node Func (@Tr.node Func (@Tr.node Func (@Tr.leaf Func) (@some Func Tryz.f263) (@Tr.leaf Func)) (@some Func Tryz.f135) (@Tr.leaf Func)) (@some Func 
    Tryz.f71) (@Tr.node Func (@Tr.node Func (@Tr.leaf Func) (@some Func Tryz.f327) (@Tr.leaf Func)) (@some Func Tryz.f199) (@Tr.leaf Func))) 

noncomputable def trieF5 : Tr Func :=
  (@Tr.node Func (@Tr.node Func (@Tr.node Func (@Tr.leaf Func) (@some Func Tryz.f295) (@Tr.leaf Func)) (@some Func Tryz.f167) (@Tr.leaf Func)) (@some Func 
    Tryz.f103) (@Tr.node Func (@Tr.node Func (@Tr.leaf Func) (@none Func) (@Tr.leaf Func)) (@some Func Tryz.f231) (@Tr.leaf Func))) 

noncomputable def trieF6 : Tr Func :=
  (@Tr.node Func (@Tr.node Func (@Tr.node Func (@Tr.leaf Func) (@some Func Tryz.f279) (@Tr.leaf Func)) (@some Func Tryz.f151) (@Tr.leaf Func)) (@some Func 
    Tryz.f87) (@Tr.node Func (@Tr.node Func (@Tr.leaf Func) (@some Func Tryz.f343) (@Tr.leaf Func)) (@some Func Tryz.f215) (@Tr.leaf Func))) 

noncomputable def trieF7 : Tr Func :=
  (@Tr.node Func (@Tr.node Func (@Tr.node Func (@Tr.leaf Func) (@some Func Tryz.f311) (@Tr.leaf Func)) (@some Func Tryz.f183) (@Tr.leaf Func)) (@some Func 
    Tryz.f119) (@Tr.node Func (@Tr.node Func (@Tr.leaf Func) (@none Func) (@Tr.leaf Func)) (@some Func Tryz.f247) (@Tr.leaf Func))) 

noncomputable def trieF8 : Tr Func :=
  (@Tr.node Func (@Tr.node Func (@Tr.node Func trieF0 (@some Func Tryz.f31) trieF1) (@some Func Tryz.f15) (@Tr.node Func trieF2 (@some Func Tryz.f47) trieF3)) 
    (@some Func Tryz.f7) (@Tr.node Func (@Tr.node Func trieF4 (@some Func Tryz.f39) trieF5) (@some Func Tryz.f23) (@Tr.node Func trieF6 (@some Func Tryz.f55) 
    trieF7))) 

noncomputable def trieF9 : Tr Func :=
  (@Tr.node Func (@Tr.node Func (@Tr.node Func (@Tr.leaf Func) (@some Func Tryz.f259) (@Tr.leaf Func)) (@some Func Tryz.f131) (@Tr.node Func (@Tr.leaf Func) 
    (@none Func) (@Tr.leaf Func))) (@some Func Tryz.f67) (@Tr.node Func (@Tr.node Func (@Tr.leaf Func) (@some Func Tryz.f323) (@Tr.leaf Func)) (@some Func 
    Tryz.f195) (@Tr.leaf Func))) 

noncomputable def trieF10 : Tr Func :=
  (@Tr.node Func (@Tr.node Func (@Tr.node Func (@Tr.leaf Func) (@some Func Tryz.f291) (@Tr.leaf Func)) (@some Func Tryz.f163) (@Tr.leaf Func)) (@some Func 
    Tryz.f99) (@Tr.node Func (@Tr.node Func (@Tr.leaf Func) (@none Func) (@Tr.leaf Func)) (@some Func Tryz.f227) (@Tr.leaf Func))) 

noncomputable def trieF11 : Tr Func :=
  (@Tr.node Func (@Tr.node Func (@Tr.node Func (@Tr.leaf Func) (@some Func Tryz.f275) (@Tr.leaf Func)) (@some Func Tryz.f147) (@Tr.leaf Func)) (@some Func 
    Tryz.f83) (@Tr.node Func (@Tr.node Func (@Tr.leaf Func) (@some Func Tryz.f339) (@Tr.leaf Func)) (@some Func Tryz.f211) (@Tr.leaf Func))) 

noncomputable def trieF12 : Tr Func :=
  (@Tr.node Func (@Tr.node Func (@Tr.node Func (@Tr.leaf Func) (@some Func Tryz.f307) (@Tr.leaf Func)) (@some Func Tryz.f179) (@Tr.leaf Func)) (@some Func 
    Tryz.f115) (@Tr.node Func (@Tr.node Func (@Tr.leaf Func) (@none Func) (@Tr.leaf Func)) (@some Func Tryz.f243) (@Tr.leaf Func))) 

noncomputable def trieF13 : Tr Func :=
  (@Tr.node Func (@Tr.node Func (@Tr.node Func (@Tr.leaf Func) (@some Func Tryz.f267) (@Tr.leaf Func)) (@some Func Tryz.f139) (@Tr.leaf Func)) (@some Func 
    Tryz.f75) (@Tr.node Func (@Tr.node Func (@Tr.leaf Func) (@some Func Tryz.f331) (@Tr.leaf Func)) (@some Func Tryz.f203) (@Tr.leaf Func))) 

noncomputable def trieF14 : Tr Func :=
  (@Tr.node Func (@Tr.node Func (@Tr.node Func (@Tr.leaf Func) (@some Func Tryz.f299) (@Tr.leaf Func)) (@some Func Tryz.f171) (@Tr.leaf Func)) (@some Func 
    Tryz.f107) (@Tr.node Func (@Tr.node Func (@Tr.leaf Func) (@none Func) (@Tr.leaf Func)) (@some Func Tryz.f235) (@Tr.leaf Func))) 

noncomputable def trieF15 : Tr Func :=
  (@Tr.node Func (@Tr.node Func (@Tr.node Func (@Tr.leaf Func) (@some Func Tryz.f283) (@Tr.leaf Func)) (@some Func Tryz.f155) (@Tr.leaf Func)) (@some Func 
    Tryz.f91) (@Tr.node Func (@Tr.node Func (@Tr.leaf Func) (@some Func Tryz.f347) (@Tr.leaf Func)) (@some Func Tryz.f219) (@Tr.leaf Func))) 

noncomputable def trieF16 : Tr Func :=
  (@Tr.node Func (@Tr.node Func (@Tr.node Func (@Tr.leaf Func) (@some Func Tryz.f315) (@Tr.leaf Func)) (@some Func Tryz.f187) (@Tr.leaf Func)) (@some Func 
    Tryz.f123) (@Tr.node Func (@Tr.node Func (@Tr.leaf Func) (@none Func) (@Tr.leaf Func)) (@some Func Tryz.f251) (@Tr.leaf Func))) 

noncomputable def trieF17 : Tr Func :=
  (@Tr.node Func (@Tr.node Func (@Tr.node Func trieF9 (@some Func Tryz.f35) trieF10) (@some Func Tryz.f19) (@Tr.node Func trieF11 (@some Func Tryz.f51) trieF12)) 
    (@some Func Tryz.f11) (@Tr.node Func (@Tr.node Func trieF13 (@some Func Tryz.f43) trieF14) (@some Func Tryz.f27) (@Tr.node Func trieF15 (@some Func Tryz.f59) 
    trieF16))) 

noncomputable def trieF18 : Tr Func :=
  (@Tr.node Func (@Tr.node Func (@Tr.node Func (@Tr.leaf Func) (@some Func Tryz.f257) (@Tr.leaf Func)) (@some Func Tryz.f129) (@Tr.node Func (@Tr.leaf Func) 
    (@none Func) (@Tr.leaf Func))) (@some Func Tryz.f65) (@Tr.node Func (@Tr.node Func (@Tr.leaf Func) (@some Func Tryz.f321) (@Tr.leaf Func)) (@some Func 
    Tryz.f193) (@Tr.leaf Func))) 

noncomputable def trieF19 : Tr Func :=
  (@Tr.node Func (@Tr.node Func (@Tr.node Func (@Tr.leaf Func) (@some Func Tryz.f289) (@Tr.leaf Func)) (@some Func Tryz.f161) (@Tr.leaf Func)) (@some Func 
    Tryz.f97) (@Tr.node Func (@Tr.node Func (@Tr.leaf Func) (@none Func) (@Tr.leaf Func)) (@some Func Tryz.f225) (@Tr.leaf Func))) 

noncomputable def trieF20 : Tr Func :=
  (@Tr.node Func (@Tr.node Func (@Tr.node Func (@Tr.leaf Func) (@some Func Tryz.f273) (@Tr.leaf Func)) (@some Func Tryz.f145) (@Tr.leaf Func)) (@some Func 
    Tryz.f81) (@Tr.node Func (@Tr.node Func (@Tr.leaf Func) (@some Func Tryz.f337) (@Tr.leaf Func)) (@some Func Tryz.f209) (@Tr.leaf Func))) 

noncomputable def trieF21 : Tr Func :=
  (@Tr.node Func (@Tr.node Func (@Tr.node Func (@Tr.leaf Func) (@some Func Tryz.f305) (@Tr.leaf Func)) (@some Func Tryz.f177) (@Tr.leaf Func)) (@some Func 
    Tryz.f113) (@Tr.node Func (@Tr.node Func (@Tr.leaf Func) (@none Func) (@Tr.leaf Func)) (@some Func Tryz.f241) (@Tr.leaf Func))) 

noncomputable def trieF22 : Tr Func :=
  (@Tr.node Func (@Tr.node Func (@Tr.node Func (@Tr.leaf Func) (@some Func Tryz.f265) (@Tr.leaf Func)) (@some Func Tryz.f137) (@Tr.leaf Func)) (@some Func 
    Tryz.f73) (@Tr.node Func (@Tr.node Func (@Tr.leaf Func) (@some Func Tryz.f329) (@Tr.leaf Func)) (@some Func Tryz.f201) (@Tr.leaf Func))) 

noncomputable def trieF23 : Tr Func :=
  (@Tr.node Func (@Tr.node Func (@Tr.node Func (@Tr.leaf Func) (@some Func Tryz.f297) (@Tr.leaf Func)) (@some Func Tryz.f169) (@Tr.leaf Func)) (@some Func 
    Tryz.f105) (@Tr.node Func (@Tr.node Func (@Tr.leaf Func) (@none Func) (@Tr.leaf Func)) (@some Func Tryz.f233) (@Tr.leaf Func))) 

noncomputable def trieF24 : Tr Func :=
  (@Tr.node Func (@Tr.node Func (@Tr.node Func (@Tr.leaf Func) (@some Func Tryz.f281) (@Tr.leaf Func)) (@some Func Tryz.f153) (@Tr.leaf Func)) (@some Func 
    Tryz.f89) (@Tr.node Func (@Tr.node Func (@Tr.leaf Func) (@some Func Tryz.f345) (@Tr.leaf Func)) (@some Func Tryz.f217) (@Tr.leaf Func))) 

noncomputable def trieF25 : Tr Func :=
  (@Tr.node Func (@Tr.node Func (@Tr.node Func (@Tr.leaf Func) (@some Func Tryz.f313) (@Tr.leaf Func)) (@some Func Tryz.f185) (@Tr.leaf Func)) (@some Func 
    Tryz.f121) (@Tr.node Func (@Tr.node Func (@Tr.leaf Func) (@none Func) (@Tr.leaf Func)) (@some Func Tryz.f249) (@Tr.leaf Func))) 

noncomputable def trieF26 : Tr Func :=
  (@Tr.node Func (@Tr.node Func (@Tr.node Func trieF18 (@some Func Tryz.f33) trieF19) (@some Func Tryz.f17) (@Tr.node Func trieF20 (@some Func Tryz.f49) 
    trieF21)) (@some Func Tryz.f9) (@Tr.node Func (@Tr.node Func trieF22 (@some Func Tryz.f41) trieF23) (@some Func Tryz.f25) (@Tr.node Func trieF24 (@some 
    Func Tryz.f57) trieF25))) 

noncomputable def trieF27 : Tr Func :=
  (@Tr.node Func (@Tr.node Func (@Tr.node Func (@Tr.leaf Func) (@some Func Tryz.f261) (@Tr.leaf Func)) (@some Func Tryz.f133) (@Tr.node Func (@Tr.leaf Func) 
    (@none Func) (@Tr.leaf Func))) (@some Func Tryz.f69) (@Tr.node Func (@Tr.node Func (@Tr.leaf Func) (@some Func Tryz.f325) (@Tr.leaf Func)) (@some Func 
    Tryz.f197) (@Tr.leaf Func))) 

noncomputable def trieF28 : Tr Func :=
  (@Tr.node Func (@Tr.node Func (@Tr.node Func (@Tr.leaf Func) (@some Func Tryz.f293) (@Tr.leaf Func)) (@some Func Tryz.f165) (@Tr.leaf Func)) (@some Func 
    Tryz.f101) (@Tr.node Func (@Tr.node Func (@Tr.leaf Func) (@none Func) (@Tr.leaf Func)) (@some Func Tryz.f229) (@Tr.leaf Func))) 

noncomputable def trieF29 : Tr Func :=
  (@Tr.node Func (@Tr.node Func (@Tr.node Func (@Tr.leaf Func) (@some Func Tryz.f277) (@Tr.leaf Func)) (@some Func Tryz.f149) (@Tr.leaf Func)) (@some Func 
    Tryz.f85) (@Tr.node Func (@Tr.node Func (@Tr.leaf Func) (@some Func Tryz.f341) (@Tr.leaf Func)) (@some Func Tryz.f213) (@Tr.leaf Func))) 

noncomputable def trieF30 : Tr Func :=
  (@Tr.node Func (@Tr.node Func (@Tr.node Func (@Tr.leaf Func) (@some Func Tryz.f309) (@Tr.leaf Func)) (@some Func Tryz.f181) (@Tr.leaf Func)) (@some Func 
    Tryz.f117) (@Tr.node Func (@Tr.node Func (@Tr.leaf Func) (@none Func) (@Tr.leaf Func)) (@some Func Tryz.f245) (@Tr.leaf Func))) 

noncomputable def trieF31 : Tr Func :=
  (@Tr.node Func (@Tr.node Func (@Tr.node Func (@Tr.leaf Func) (@some Func Tryz.f269) (@Tr.leaf Func)) (@some Func Tryz.f141) (@Tr.leaf Func)) (@some Func 
    Tryz.f77) (@Tr.node Func (@Tr.node Func (@Tr.leaf Func) (@some Func Tryz.f333) (@Tr.leaf Func)) (@some Func Tryz.f205) (@Tr.leaf Func))) 

noncomputable def trieF32 : Tr Func :=
  (@Tr.node Func (@Tr.node Func (@Tr.node Func (@Tr.leaf Func) (@some Func Tryz.f301) (@Tr.leaf Func)) (@some Func Tryz.f173) (@Tr.leaf Func)) (@some Func 
    Tryz.f109) (@Tr.node Func (@Tr.node Func (@Tr.leaf Func) (@none Func) (@Tr.leaf Func)) (@some Func Tryz.f237) (@Tr.leaf Func))) 

noncomputable def trieF33 : Tr Func :=
  (@Tr.node Func (@Tr.node Func (@Tr.node Func (@Tr.leaf Func) (@some Func Tryz.f285) (@Tr.leaf Func)) (@some Func Tryz.f157) (@Tr.leaf Func)) (@some Func 
    Tryz.f93) (@Tr.node Func (@Tr.node Func (@Tr.leaf Func) (@some Func Tryz.f349) (@Tr.leaf Func)) (@some Func Tryz.f221) (@Tr.leaf Func))) 

noncomputable def trieF34 : Tr Func :=
  (@Tr.node Func (@Tr.node Func (@Tr.node Func (@Tr.leaf Func) (@some Func Tryz.f317) (@Tr.leaf Func)) (@some Func Tryz.f189) (@Tr.leaf Func)) (@some Func 
    Tryz.f125) (@Tr.node Func (@Tr.node Func (@Tr.leaf Func) (@none Func) (@Tr.leaf Func)) (@some Func Tryz.f253) (@Tr.leaf Func))) 

noncomputable def trieF35 : Tr Func :=
  (@Tr.node Func (@Tr.node Func (@Tr.node Func trieF27 (@some Func Tryz.f37) trieF28) (@some Func Tryz.f21) (@Tr.node Func trieF29 (@some Func Tryz.f53) 
    trieF30)) (@some Func Tryz.f13) (@Tr.node Func (@Tr.node Func trieF31 (@some Func Tryz.f45) trieF32) (@some Func Tryz.f29) (@Tr.node Func trieF33 (@some 
    Func Tryz.f61) trieF34))) 

noncomputable def trieF36 : Tr Func :=
  (@Tr.node Func (@Tr.node Func (@Tr.node Func (@Tr.leaf Func) (@some Func Tryz.f256) (@Tr.leaf Func)) (@some Func Tryz.f128) (@Tr.node Func (@Tr.leaf Func) 
    (@none Func) (@Tr.leaf Func))) (@some Func Tryz.f64) (@Tr.node Func (@Tr.node Func (@Tr.leaf Func) (@some Func Tryz.f320) (@Tr.leaf Func)) (@some Func 
    Tryz.f192) (@Tr.leaf Func))) 

noncomputable def trieF37 : Tr Func :=
  (@Tr.node Func (@Tr.node Func (@Tr.node Func (@Tr.leaf Func) (@some Func Tryz.f288) (@Tr.leaf Func)) (@some Func Tryz.f160) (@Tr.leaf Func)) (@some Func 
    Tryz.f96) (@Tr.node Func (@Tr.node Func (@Tr.leaf Func) (@some Func Tryz.f352) (@Tr.leaf Func)) (@some Func Tryz.f224) (@Tr.leaf Func))) 

noncomputable def trieF38 : Tr Func :=
  (@Tr.node Func (@Tr.node Func (@Tr.node Func (@Tr.leaf Func) (@some Func Tryz.f272) (@Tr.leaf Func)) (@some Func Tryz.f144) (@Tr.leaf Func)) (@some Func 
    Tryz.f80) (@Tr.node Func (@Tr.node Func (@Tr.leaf Func) (@some Func Tryz.f336) (@Tr.leaf Func)) (@some Func Tryz.f208) (@Tr.leaf Func))) 

noncomputable def trieF39 : Tr Func :=
  (@Tr.node Func (@Tr.node Func (@Tr.node Func (@Tr.leaf Func) (@some Func Tryz.f304) (@Tr.leaf Func)) (@some Func Tryz.f176) (@Tr.leaf Func)) (@some Func 
    Tryz.f112) (@Tr.node Func (@Tr.node Func (@Tr.leaf Func) (@none Func) (@Tr.leaf Func)) (@some Func Tryz.f240) (@Tr.leaf Func))) 

noncomputable def trieF40 : Tr Func :=
  (@Tr.node Func (@Tr.node Func (@Tr.node Func (@Tr.leaf Func) (@some Func Tryz.f264) (@Tr.leaf Func)) (@some Func Tryz.f136) (@Tr.leaf Func)) (@some Func 
    Tryz.f72) (@Tr.node Func (@Tr.node Func (@Tr.leaf Func) (@some Func Tryz.f328) (@Tr.leaf Func)) (@some Func Tryz.f200) (@Tr.leaf Func))) 

noncomputable def trieF41 : Tr Func :=
  (@Tr.node Func (@Tr.node Func (@Tr.node Func (@Tr.leaf Func) (@some Func Tryz.f296) (@Tr.leaf Func)) (@some Func Tryz.f168) (@Tr.leaf Func)) (@some Func 
    Tryz.f104) (@Tr.node Func (@Tr.node Func (@Tr.leaf Func) (@none Func) (@Tr.leaf Func)) (@some Func Tryz.f232) (@Tr.leaf Func))) 

noncomputable def trieF42 : Tr Func :=
  (@Tr.node Func (@Tr.node Func (@Tr.node Func (@Tr.leaf Func) (@some Func Tryz.f280) (@Tr.leaf Func)) (@some Func Tryz.f152) (@Tr.leaf Func)) (@some Func 
    Tryz.f88) (@Tr.node Func (@Tr.node Func (@Tr.leaf Func) (@some Func Tryz.f344) (@Tr.leaf Func)) (@some Func Tryz.f216) (@Tr.leaf Func))) 

noncomputable def trieF43 : Tr Func :=
  (@Tr.node Func (@Tr.node Func (@Tr.node Func (@Tr.leaf Func) (@some Func Tryz.f312) (@Tr.leaf Func)) (@some Func Tryz.f184) (@Tr.leaf Func)) (@some Func 
    Tryz.f120) (@Tr.node Func (@Tr.node Func (@Tr.leaf Func) (@none Func) (@Tr.leaf Func)) (@some Func Tryz.f248) (@Tr.leaf Func))) 

noncomputable def trieF44 : Tr Func :=
  (@Tr.node Func (@Tr.node Func (@Tr.node Func trieF36 (@some Func Tryz.f32) trieF37) (@some Func Tryz.f16) (@Tr.node Func trieF38 (@some Func Tryz.f48) 
    trieF39)) (@some Func Tryz.f8) (@Tr.node Func (@Tr.node Func trieF40 (@some Func Tryz.f40) trieF41) (@some Func Tryz.f24) (@Tr.node Func trieF42 (@some 
    Func Tryz.f56) trieF43))) 

noncomputable def trieF45 : Tr Func :=
  (@Tr.node Func (@Tr.node Func (@Tr.node Func (@Tr.leaf Func) (@some Func Tryz.f260) (@Tr.leaf Func)) (@some Func Tryz.f132) (@Tr.node Func (@Tr.leaf Func) 
    (@none Func) (@Tr.leaf Func))) (@some Func Tryz.f68) (@Tr.node Func (@Tr.node Func (@Tr.leaf Func) (@some Func Tryz.f324) (@Tr.leaf Func)) (@some Func 
    Tryz.f196) (@Tr.leaf Func))) 

noncomputable def trieF46 : Tr Func :=
  (@Tr.node Func (@Tr.node Func (@Tr.node Func (@Tr.leaf Func) (@some Func Tryz.f292) (@Tr.leaf Func)) (@some Func Tryz.f164) (@Tr.leaf Func)) (@some Func 
    Tryz.f100) (@Tr.node Func (@Tr.node Func (@Tr.leaf Func) (@none Func) (@Tr.leaf Func)) (@some Func Tryz.f228) (@Tr.leaf Func))) 

noncomputable def trieF47 : Tr Func :=
  (@Tr.node Func (@Tr.node Func (@Tr.node Func (@Tr.leaf Func) (@some Func Tryz.f276) (@Tr.leaf Func)) (@some Func Tryz.f148) (@Tr.leaf Func)) (@some Func 
    Tryz.f84) (@Tr.node Func (@Tr.node Func (@Tr.leaf Func) (@some Func Tryz.f340) (@Tr.leaf Func)) (@some Func Tryz.f212) (@Tr.leaf Func))) 

noncomputable def trieF48 : Tr Func :=
  (@Tr.node Func (@Tr.node Func (@Tr.node Func (@Tr.leaf Func) (@some Func Tryz.f308) (@Tr.leaf Func)) (@some Func Tryz.f180) (@Tr.leaf Func)) (@some Func 
    Tryz.f116) (@Tr.node Func (@Tr.node Func (@Tr.leaf Func) (@none Func) (@Tr.leaf Func)) (@some Func Tryz.f244) (@Tr.leaf Func))) 

noncomputable def trieF49 : Tr Func :=
  (@Tr.node Func (@Tr.node Func (@Tr.node Func (@Tr.leaf Func) (@some Func Tryz.f268) (@Tr.leaf Func)) (@some Func Tryz.f140) (@Tr.leaf Func)) (@some Func 
    Tryz.f76) (@Tr.node Func (@Tr.node Func (@Tr.leaf Func) (@some Func Tryz.f332) (@Tr.leaf Func)) (@some Func Tryz.f204) (@Tr.leaf Func))) 

noncomputable def trieF50 : Tr Func :=
  (@Tr.node Func (@Tr.node Func (@Tr.node Func (@Tr.leaf Func) (@some Func Tryz.f300) (@Tr.leaf Func)) (@some Func Tryz.f172) (@Tr.leaf Func)) (@some Func 
    Tryz.f108) (@Tr.node Func (@Tr.node Func (@Tr.leaf Func) (@none Func) (@Tr.leaf Func)) (@some Func Tryz.f236) (@Tr.leaf Func))) 

noncomputable def trieF51 : Tr Func :=
  (@Tr.node Func (@Tr.node Func (@Tr.node Func (@Tr.leaf Func) (@some Func Tryz.f284) (@Tr.leaf Func)) (@some Func Tryz.f156) (@Tr.leaf Func)) (@some Func 
    Tryz.f92) (@Tr.node Func (@Tr.node Func (@Tr.leaf Func) (@some Func Tryz.f348) (@Tr.leaf Func)) (@some Func Tryz.f220) (@Tr.leaf Func))) 

noncomputable def trieF52 : Tr Func :=
  (@Tr.node Func (@Tr.node Func (@Tr.node Func (@Tr.leaf Func) (@some Func Tryz.f316) (@Tr.leaf Func)) (@some Func Tryz.f188) (@Tr.leaf Func)) (@some Func 
    Tryz.f124) (@Tr.node Func (@Tr.node Func (@Tr.leaf Func) (@none Func) (@Tr.leaf Func)) (@some Func Tryz.f252) (@Tr.leaf Func))) 

noncomputable def trieF53 : Tr Func :=
  (@Tr.node Func (@Tr.node Func (@Tr.node Func trieF45 (@some Func Tryz.f36) trieF46) (@some Func Tryz.f20) (@Tr.node Func trieF47 (@some Func Tryz.f52) 
    trieF48)) (@some Func Tryz.f12) (@Tr.node Func (@Tr.node Func trieF49 (@some Func Tryz.f44) trieF50) (@some Func Tryz.f28) (@Tr.node Func trieF51 (@some 
    Func Tryz.f60) trieF52))) 

noncomputable def trieF54 : Tr Func :=
  (@Tr.node Func (@Tr.node Func (@Tr.node Func (@Tr.leaf Func) (@some Func Tryz.f258) (@Tr.leaf Func)) (@some Func Tryz.f130) (@Tr.node Func (@Tr.leaf Func) 
    (@none Func) (@Tr.leaf Func))) (@some Func Tryz.f66) (@Tr.node Func (@Tr.node Func (@Tr.leaf Func) (@some Func Tryz.f322) (@Tr.leaf Func)) (@some Func 
    Tryz.f194) (@Tr.leaf Func))) 

noncomputable def trieF55 : Tr Func :=
  (@Tr.node Func (@Tr.node Func (@Tr.node Func (@Tr.leaf Func) (@some Func Tryz.f290) (@Tr.leaf Func)) (@some Func Tryz.f162) (@Tr.leaf Func)) (@some Func 
    Tryz.f98) (@Tr.node Func (@Tr.node Func (@Tr.leaf Func) (@none Func) (@Tr.leaf Func)) (@some Func Tryz.f226) (@Tr.leaf Func))) 

noncomputable def trieF56 : Tr Func :=
  (@Tr.node Func (@Tr.node Func (@Tr.node Func (@Tr.leaf Func) (@some Func Tryz.f274) (@Tr.leaf Func)) (@some Func Tryz.f146) (@Tr.leaf Func)) (@some Func 
    Tryz.f82) (@Tr.node Func (@Tr.node Func (@Tr.leaf Func) (@some Func Tryz.f338) (@Tr.leaf Func)) (@some Func Tryz.f210) (@Tr.leaf Func))) 

noncomputable def trieF57 : Tr Func :=
  (@Tr.node Func (@Tr.node Func (@Tr.node Func (@Tr.leaf Func) (@some Func Tryz.f306) (@Tr.leaf Func)) (@some Func Tryz.f178) (@Tr.leaf Func)) (@some Func 
    Tryz.f114) (@Tr.node Func (@Tr.node Func (@Tr.leaf Func) (@none Func) (@Tr.leaf Func)) (@some Func Tryz.f242) (@Tr.leaf Func))) 

noncomputable def trieF58 : Tr Func :=
  (@Tr.node Func (@Tr.node Func (@Tr.node Func (@Tr.leaf Func) (@some Func Tryz.f266) (@Tr.leaf Func)) (@some Func Tryz.f138) (@Tr.leaf Func)) (@some Func 
    Tryz.f74) (@Tr.node Func (@Tr.node Func (@Tr.leaf Func) (@some Func Tryz.f330) (@Tr.leaf Func)) (@some Func Tryz.f202) (@Tr.leaf Func))) 

noncomputable def trieF59 : Tr Func :=
  (@Tr.node Func (@Tr.node Func (@Tr.node Func (@Tr.leaf Func) (@some Func Tryz.f298) (@Tr.leaf Func)) (@some Func Tryz.f170) (@Tr.leaf Func)) (@some Func 
    Tryz.f106) (@Tr.node Func (@Tr.node Func (@Tr.leaf Func) (@none Func) (@Tr.leaf Func)) (@some Func Tryz.f234) (@Tr.leaf Func))) 

noncomputable def trieF60 : Tr Func :=
  (@Tr.node Func (@Tr.node Func (@Tr.node Func (@Tr.leaf Func) (@some Func Tryz.f282) (@Tr.leaf Func)) (@some Func Tryz.f154) (@Tr.leaf Func)) (@some Func 
    Tryz.f90) (@Tr.node Func (@Tr.node Func (@Tr.leaf Func) (@some Func Tryz.f346) (@Tr.leaf Func)) (@some Func Tryz.f218) (@Tr.leaf Func))) 

noncomputable def trieF61 : Tr Func :=
  (@Tr.node Func (@Tr.node Func (@Tr.node Func (@Tr.leaf Func) (@some Func Tryz.f314) (@Tr.leaf Func)) (@some Func Tryz.f186) (@Tr.leaf Func)) (@some Func 
    Tryz.f122) (@Tr.node Func (@Tr.node Func (@Tr.leaf Func) (@none Func) (@Tr.leaf Func)) (@some Func Tryz.f250) (@Tr.leaf Func))) 

noncomputable def trieF62 : Tr Func :=
  (@Tr.node Func (@Tr.node Func (@Tr.node Func trieF54 (@some Func Tryz.f34) trieF55) (@some Func Tryz.f18) (@Tr.node Func trieF56 (@some Func Tryz.f50) 
    trieF57)) (@some Func Tryz.f10) (@Tr.node Func (@Tr.node Func trieF58 (@some Func Tryz.f42) trieF59) (@some Func Tryz.f26) (@Tr.node Func trieF60 (@some 
    Func Tryz.f58) trieF61))) 

noncomputable def trieF63 : Tr Func :=
  (@Tr.node Func (@Tr.node Func (@Tr.node Func (@Tr.leaf Func) (@some Func Tryz.f262) (@Tr.leaf Func)) (@some Func Tryz.f134) (@Tr.node Func (@Tr.leaf Func) 
    (@some Func Tryz.f390) (@Tr.leaf Func))) (@some Func Tryz.f70) (@Tr.node Func (@Tr.node Func (@Tr.leaf Func) (@some Func Tryz.f326) (@Tr.leaf Func)) (@some 
    Func Tryz.f198) (@Tr.leaf Func))) 

noncomputable def trieF64 : Tr Func :=
  (@Tr.node Func (@Tr.node Func (@Tr.node Func (@Tr.leaf Func) (@some Func Tryz.f294) (@Tr.leaf Func)) (@some Func Tryz.f166) (@Tr.leaf Func)) (@some Func 
    Tryz.f102) (@Tr.node Func (@Tr.node Func (@Tr.leaf Func) (@none Func) (@Tr.leaf Func)) (@some Func Tryz.f230) (@Tr.leaf Func))) 

noncomputable def trieF65 : Tr Func :=
  (@Tr.node Func (@Tr.node Func (@Tr.node Func (@Tr.leaf Func) (@some Func Tryz.f278) (@Tr.leaf Func)) (@some Func Tryz.f150) (@Tr.leaf Func)) (@some Func 
    Tryz.f86) (@Tr.node Func (@Tr.node Func (@Tr.leaf Func) (@some Func Tryz.f342) (@Tr.leaf Func)) (@some Func Tryz.f214) (@Tr.leaf Func))) 

noncomputable def trieF66 : Tr Func :=
  (@Tr.node Func (@Tr.node Func (@Tr.node Func (@Tr.leaf Func) (@some Func Tryz.f310) (@Tr.leaf Func)) (@some Func Tryz.f182) (@Tr.leaf Func)) (@some Func 
    Tryz.f118) (@Tr.node Func (@Tr.node Func (@Tr.leaf Func) (@none Func) (@Tr.leaf Func)) (@some Func Tryz.f246) (@Tr.leaf Func))) 

noncomputable def trieF67 : Tr Func :=
  (@Tr.node Func (@Tr.node Func (@Tr.node Func (@Tr.leaf Func) (@some Func Tryz.f270) (@Tr.leaf Func)) (@some Func Tryz.f142) (@Tr.leaf Func)) (@some Func 
    Tryz.f78) (@Tr.node Func (@Tr.node Func (@Tr.leaf Func) (@some Func Tryz.f334) (@Tr.leaf Func)) (@some Func Tryz.f206) (@Tr.leaf Func))) 

noncomputable def trieF68 : Tr Func :=
  (@Tr.node Func (@Tr.node Func (@Tr.node Func (@Tr.leaf Func) (@some Func Tryz.f302) (@Tr.leaf Func)) (@some Func Tryz.f174) (@Tr.leaf Func)) (@some Func 
    Tryz.f110) (@Tr.node Func (@Tr.node Func (@Tr.leaf Func) (@none Func) (@Tr.leaf Func)) (@some Func Tryz.f238) (@Tr.leaf Func))) 

noncomputable def trieF69 : Tr Func :=
  (@Tr.node Func (@Tr.node Func (@Tr.node Func (@Tr.leaf Func) (@some Func Tryz.f286) (@Tr.leaf Func)) (@some Func Tryz.f158) (@Tr.leaf Func)) (@some Func 
    Tryz.f94) (@Tr.node Func (@Tr.node Func (@Tr.leaf Func) (@some Func Tryz.f350) (@Tr.leaf Func)) (@some Func Tryz.f222) (@Tr.leaf Func))) 

noncomputable def trieF70 : Tr Func :=
  (@Tr.node Func (@Tr.node Func (@Tr.node Func (@Tr.leaf Func) (@some Func Tryz.f318) (@Tr.leaf Func)) (@some Func Tryz.f190) (@Tr.leaf Func)) (@some Func 
    Tryz.f126) (@Tr.node Func (@Tr.node Func (@Tr.leaf Func) (@none Func) (@Tr.leaf Func)) (@some Func Tryz.f254) (@Tr.leaf Func))) 

noncomputable def trieF71 : Tr Func :=
  (@Tr.node Func (@Tr.node Func (@Tr.node Func trieF63 (@some Func Tryz.f38) trieF64) (@some Func Tryz.f22) (@Tr.node Func trieF65 (@some Func Tryz.f54) 
    trieF66)) (@some Func Tryz.f14) (@Tr.node Func (@Tr.node Func trieF67 (@some Func Tryz.f46) trieF68) (@some Func Tryz.f30) (@Tr.node Func trieF69 (@some 
    Func Tryz.f62) trieF70))) 

noncomputable def trieF : Tr Func :=
  (@Tr.node Func (@Tr.node Func (@Tr.node Func trieF8 (@some Func Tryz.f3) trieF17) (@none Func) (@Tr.node Func trieF26 (@some Func Tryz.f5) trieF35)) (@none 
    Func) (@Tr.node Func (@Tr.node Func trieF44 (@some Func Tryz.f4) trieF53) (@some Func Tryz.f2) (@Tr.node Func trieF62 (@some Func Tryz.f6) trieF71))) 


theorem range_map_eq {α : Type} {N : Nat} {f g : Nat → α} (h : (List.range N).map f = (List.range N).map g) {t : Nat} (ht : t < N) : f t = g t := by
  have := congrArg (fun l => l[t]?) h
  simpa only [List.getElem?_map, List.getElem?_range ht, Option.map_some, Option.some.injEq] using this

theorem trieT_map : (List.range 471).map trieT.get = (List.range 471).map Tryz.prog.info? := by kernel_rfl

theorem trieT_ok {t : TypeId} {i : TypeInfo} (ht : t < 471) (h : trieT.get t = some i) : Tryz.prog.info? t = some i := by
  rw [← range_map_eq trieT_map ht]; exact h

def trieOn : Func → Bool := fun fn => fn.body.isSome && !(fn.name == "runtime.NumGoroutine")

theorem trieF_map : ((List.range 391).all fun i => match trieF.get i with | none => true | some fn => trieOn fn) = true := by kernel_rfl

theorem trieF_map2 : (List.range 391).map trieF.get = (List.range 391).map fun i => if (trieF.get i).isSome then Tryz.prog.funcs[i]? else none := by kernel_rfl

noncomputable def undOf (t : TypeId) : Option TypeDesc :=
  match (if t < 471 then trieT.get t else none) with
  | some { desc := .named _ u, .. } => (if u < 471 then trieT.get u else none).map (·.desc)
  | some i => some i.desc
  | none => none

theorem if_some {c : Prop} [Decidable c] {α : Type} {x : Option α} {v : α} (h : (if c then x else none) = some v) : c ∧ x = some v := by
  split at h
  · exact ⟨by assumption, h⟩
  · cases h

theorem undOf_ok {t : TypeId} {d : TypeDesc} (h : undOf t = some d) : Tryz.prog.underlying t = some d := by
  unfold undOf at h
  unfold Program.underlying
  split at h
  · rename_i hi
    obtain ⟨h1, h2⟩ := if_some hi
    rw [trieT_ok h1 h2]
    obtain ⟨j, h3, h4⟩ := Option.map_eq_some_iff.1 h
    obtain ⟨h5, h6⟩ := if_some h3
    simp only [trieT_ok h5 h6, Option.map_some, h4]
  · rename_i i hn hi
    obtain ⟨h1, h2⟩ := if_some hi
    rw [trieT_ok h1 h2]
    cases h
    split
    · rename_i heq; cases heq; exact absurd rfl (hn _ _ _ _ _ _ _ _ _ _ _)
    · rename_i heq; cases heq; rfl
    · rename_i heq; cases heq
  · cases h

noncomputable def env : Env Tryz.prog where
  info t := if t < 471 then trieT.get t else none
  und := undOf
  func f := if f < 391 then trieF.get f else none
  hinfo h := trieT_ok (if_some h).1 (if_some h).2
  hund h := undOf_ok h
  hfunc := fun {f fn} h => by
    obtain ⟨h1, h2⟩ := if_some h
    have := range_map_eq trieF_map2 h1
    simp only [h2, Option.isSome_some, if_true] at this
    exact this.symm

theorem env_good : env.Good := by
  intro f fn h
  obtain ⟨h1, h2⟩ := if_some h
  have := List.all_eq_true.1 trieF_map f (List.mem_range.2 h1)
  rw [h2] at this
  simpa [trieOn] using this
end Go.Ev
