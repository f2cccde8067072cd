/- Facts on the program's tables, by the kernel. -/
import Derived.Test.YtgdicncflgffnaaDoorRows
import Derived.Test.YtgdicncflgffnaaDoorL
namespace Go.Proofs.YtgdicncflgffnaaDoor
open Go.SX
theorem Tryd.mixed : Tryd.prog.follows .mixedOrders = true := by kernel_rfl
theorem Tryd.ag1 : isAggB Tryd.prog 1 = some false := by kernel_rfl
theorem Tryd.sz1 : (Tryd.prog.info? 1).map (·.size) = some 1 := by kernel_rfl
theorem Tryd.is1 : (Tryd.prog.info? 1).isSome = true := by kernel_rfl
theorem Tryd.us1 : (Tryd.prog.underlying 1).isSome = true := by kernel_rfl
theorem Tryd.ag2 : isAggB Tryd.prog 2 = some false := by kernel_rfl
theorem Tryd.sz2 : (Tryd.prog.info? 2).map (·.size) = some 1 := by kernel_rfl
theorem Tryd.is2 : (Tryd.prog.info? 2).isSome = true := by kernel_rfl
theorem Tryd.us2 : (Tryd.prog.underlying 2).isSome = true := by kernel_rfl
theorem Tryd.ag3 : isAggB Tryd.prog 3 = some false := by kernel_rfl
theorem Tryd.sz3 : (Tryd.prog.info? 3).map (·.size) = some 1 := by kernel_rfl
theorem Tryd.is3 : (Tryd.prog.info? 3).isSome = true := by kernel_rfl
theorem Tryd.us3 : (Tryd.prog.underlying 3).isSome = true := by kernel_rfl
theorem Tryd.ag4 : isAggB Tryd.prog 4 = some false := by kernel_rfl
theorem Tryd.sz4 : (Tryd.prog.info? 4).map (·.size) = some 1 := by kernel_rfl
theorem Tryd.is4 : (Tryd.prog.info? 4).isSome = true := by kernel_rfl
theorem Tryd.us4 : (Tryd.prog.underlying 4).isSome = true := by kernel_rfl
theorem Tryd.ag5 : isAggB Tryd.prog 5 = some false := by kernel_rfl
theorem Tryd.sz5 : (Tryd.prog.info? 5).map (·.size) = some 1 := by kernel_rfl
theorem Tryd.is5 : (Tryd.prog.info? 5).isSome = true := by kernel_rfl
theorem Tryd.us5 : (Tryd.prog.underlying 5).isSome = true := by kernel_rfl
theorem Tryd.ag6 : isAggB Tryd.prog 6 = some false := by kernel_rfl
theorem Tryd.sz6 : (Tryd.prog.info? 6).map (·.size) = some 1 := by kernel_rfl
theorem Tryd.is6 : (Tryd.prog.info? 6).isSome = true := by kernel_rfl
theorem Tryd.us6 : (Tryd.prog.underlying 6).isSome = true := by kernel_rfl
theorem Tryd.ag7 : isAggB Tryd.prog 7 = some true := by kernel_rfl
theorem Tryd.sz7 : (Tryd.prog.info? 7).map (·.size) = some 4 := by kernel_rfl
theorem Tryd.is7 : (Tryd.prog.info? 7).isSome = true := by kernel_rfl
theorem Tryd.us7 : (Tryd.prog.underlying 7).isSome = true := by kernel_rfl
theorem Tryd.off7_0 : fOff Tryd.prog 7 0 = some 0 := by kernel_rfl
theorem Tryd.off7_1 : fOff Tryd.prog 7 1 = some 1 := by kernel_rfl
theorem Tryd.off7_2 : fOff Tryd.prog 7 2 = some 2 := by kernel_rfl
theorem Tryd.off7_3 : fOff Tryd.prog 7 3 = some 3 := by kernel_rfl
theorem Tryd.ag8 : isAggB Tryd.prog 8 = some true := by kernel_rfl
theorem Tryd.sz8 : (Tryd.prog.info? 8).map (·.size) = some 4 := by kernel_rfl
theorem Tryd.is8 : (Tryd.prog.info? 8).isSome = true := by kernel_rfl
theorem Tryd.us8 : (Tryd.prog.underlying 8).isSome = true := by kernel_rfl
theorem Tryd.off8_0 : fOff Tryd.prog 8 0 = some 0 := by kernel_rfl
theorem Tryd.off8_1 : fOff Tryd.prog 8 1 = some 1 := by kernel_rfl
theorem Tryd.off8_2 : fOff Tryd.prog 8 2 = some 2 := by kernel_rfl
theorem Tryd.off8_3 : fOff Tryd.prog 8 3 = some 3 := by kernel_rfl
theorem Tryd.ag9 : isAggB Tryd.prog 9 = some false := by kernel_rfl
theorem Tryd.sz9 : (Tryd.prog.info? 9).map (·.size) = some 1 := by kernel_rfl
theorem Tryd.is9 : (Tryd.prog.info? 9).isSome = true := by kernel_rfl
theorem Tryd.us9 : (Tryd.prog.underlying 9).isSome = true := by kernel_rfl
theorem Tryd.ag10 : isAggB Tryd.prog 10 = some false := by kernel_rfl
theorem Tryd.sz10 : (Tryd.prog.info? 10).map (·.size) = some 1 := by kernel_rfl
theorem Tryd.is10 : (Tryd.prog.info? 10).isSome = true := by kernel_rfl
theorem Tryd.us10 : (Tryd.prog.underlying 10).isSome = true := by kernel_rfl
theorem Tryd.ag11 : isAggB Tryd.prog 11 = some false := by kernel_rfl
theorem Tryd.sz11 : (Tryd.prog.info? 11).map (·.size) = some 1 := by kernel_rfl
theorem Tryd.is11 : (Tryd.prog.info? 11).isSome = true := by kernel_rfl
theorem Tryd.us11 : (Tryd.prog.underlying 11).isSome = true := by kernel_rfl
theorem Tryd.ag12 : isAggB Tryd.prog 12 = some false := by kernel_rfl
theorem Tryd.sz12 : (Tryd.prog.info? 12).map (·.size) = some 1 := by kernel_rfl
theorem Tryd.is12 : (Tryd.prog.info? 12).isSome = true := by kernel_rfl
theorem Tryd.us12 : (Tryd.prog.underlying 12).isSome = true := by kernel_rfl
theorem Tryd.ag13 : isAggB Tryd.prog 13 = some true := by kernel_rfl
theorem Tryd.sz13 : (Tryd.prog.info? 13).map (·.size) = some 2 := by kernel_rfl
theorem Tryd.is13 : (Tryd.prog.info? 13).isSome = true := by kernel_rfl
theorem Tryd.us13 : (Tryd.prog.underlying 13).isSome = true := by kernel_rfl
theorem Tryd.off13_0 : fOff Tryd.prog 13 0 = some 0 := by kernel_rfl
theorem Tryd.off13_1 : fOff Tryd.prog 13 1 = some 1 := by kernel_rfl
theorem Tryd.ag14 : isAggB Tryd.prog 14 = some true := by kernel_rfl
theorem Tryd.sz14 : (Tryd.prog.info? 14).map (·.size) = some 2 := by kernel_rfl
theorem Tryd.is14 : (Tryd.prog.info? 14).isSome = true := by kernel_rfl
theorem Tryd.us14 : (Tryd.prog.underlying 14).isSome = true := by kernel_rfl
theorem Tryd.off14_0 : fOff Tryd.prog 14 0 = some 0 := by kernel_rfl
theorem Tryd.off14_1 : fOff Tryd.prog 14 1 = some 1 := by kernel_rfl
theorem Tryd.ag15 : isAggB Tryd.prog 15 = some false := by kernel_rfl
theorem Tryd.sz15 : (Tryd.prog.info? 15).map (·.size) = some 1 := by kernel_rfl
theorem Tryd.is15 : (Tryd.prog.info? 15).isSome = true := by kernel_rfl
theorem Tryd.us15 : (Tryd.prog.underlying 15).isSome = true := by kernel_rfl
theorem Tryd.ag16 : isAggB Tryd.prog 16 = some false := by kernel_rfl
theorem Tryd.sz16 : (Tryd.prog.info? 16).map (·.size) = some 1 := by kernel_rfl
theorem Tryd.is16 : (Tryd.prog.info? 16).isSome = true := by kernel_rfl
theorem Tryd.us16 : (Tryd.prog.underlying 16).isSome = true := by kernel_rfl
theorem Tryd.ag17 : isAggB Tryd.prog 17 = some false := by kernel_rfl
theorem Tryd.sz17 : (Tryd.prog.info? 17).map (·.size) = some 1 := by kernel_rfl
theorem Tryd.is17 : (Tryd.prog.info? 17).isSome = true := by kernel_rfl
theorem Tryd.us17 : (Tryd.prog.underlying 17).isSome = true := by kernel_rfl
theorem Tryd.ag18 : isAggB Tryd.prog 18 = some true := by kernel_rfl
theorem Tryd.sz18 : (Tryd.prog.info? 18).map (·.size) = some 1 := by kernel_rfl
theorem Tryd.is18 : (Tryd.prog.info? 18).isSome = true := by kernel_rfl
theorem Tryd.us18 : (Tryd.prog.underlying 18).isSome = true := by kernel_rfl
theorem Tryd.off18_0 : fOff Tryd.prog 18 0 = some 0 := by kernel_rfl
theorem Tryd.ag19 : isAggB Tryd.prog 19 = some true := by kernel_rfl
theorem Tryd.sz19 : (Tryd.prog.info? 19).map (·.size) = some 1 := by kernel_rfl
theorem Tryd.is19 : (Tryd.prog.info? 19).isSome = true := by kernel_rfl
theorem Tryd.us19 : (Tryd.prog.underlying 19).isSome = true := by kernel_rfl
theorem Tryd.off19_0 : fOff Tryd.prog 19 0 = some 0 := by kernel_rfl
theorem Tryd.ag20 : isAggB Tryd.prog 20 = some false := by kernel_rfl
theorem Tryd.sz20 : (Tryd.prog.info? 20).map (·.size) = some 1 := by kernel_rfl
theorem Tryd.is20 : (Tryd.prog.info? 20).isSome = true := by kernel_rfl
theorem Tryd.us20 : (Tryd.prog.underlying 20).isSome = true := by kernel_rfl
theorem Tryd.ag21 : isAggB Tryd.prog 21 = some false := by kernel_rfl
theorem Tryd.sz21 : (Tryd.prog.info? 21).map (·.size) = some 1 := by kernel_rfl
theorem Tryd.is21 : (Tryd.prog.info? 21).isSome = true := by kernel_rfl
theorem Tryd.us21 : (Tryd.prog.underlying 21).isSome = true := by kernel_rfl
theorem Tryd.ag22 : isAggB Tryd.prog 22 = some false := by kernel_rfl
theorem Tryd.sz22 : (Tryd.prog.info? 22).map (·.size) = some 1 := by kernel_rfl
theorem Tryd.is22 : (Tryd.prog.info? 22).isSome = true := by kernel_rfl
theorem Tryd.us22 : (Tryd.prog.underlying 22).isSome = true := by kernel_rfl
theorem Tryd.ag23 : isAggB Tryd.prog 23 = some true := by kernel_rfl
theorem Tryd.sz23 : (Tryd.prog.info? 23).map (·.size) = some 4 := by kernel_rfl
theorem Tryd.is23 : (Tryd.prog.info? 23).isSome = true := by kernel_rfl
theorem Tryd.us23 : (Tryd.prog.underlying 23).isSome = true := by kernel_rfl
theorem Tryd.ag24 : isAggB Tryd.prog 24 = some true := by kernel_rfl
theorem Tryd.sz24 : (Tryd.prog.info? 24).map (·.size) = some 4 := by kernel_rfl
theorem Tryd.is24 : (Tryd.prog.info? 24).isSome = true := by kernel_rfl
theorem Tryd.us24 : (Tryd.prog.underlying 24).isSome = true := by kernel_rfl
theorem Tryd.ag25 : isAggB Tryd.prog 25 = some false := by kernel_rfl
theorem Tryd.sz25 : (Tryd.prog.info? 25).map (·.size) = some 1 := by kernel_rfl
theorem Tryd.is25 : (Tryd.prog.info? 25).isSome = true := by kernel_rfl
theorem Tryd.us25 : (Tryd.prog.underlying 25).isSome = true := by kernel_rfl
theorem Tryd.ag26 : isAggB Tryd.prog 26 = some false := by kernel_rfl
theorem Tryd.sz26 : (Tryd.prog.info? 26).map (·.size) = some 1 := by kernel_rfl
theorem Tryd.is26 : (Tryd.prog.info? 26).isSome = true := by kernel_rfl
theorem Tryd.us26 : (Tryd.prog.underlying 26).isSome = true := by kernel_rfl
theorem Tryd.ag27 : isAggB Tryd.prog 27 = some false := by kernel_rfl
theorem Tryd.sz27 : (Tryd.prog.info? 27).map (·.size) = some 1 := by kernel_rfl
theorem Tryd.is27 : (Tryd.prog.info? 27).isSome = true := by kernel_rfl
theorem Tryd.us27 : (Tryd.prog.underlying 27).isSome = true := by kernel_rfl
theorem Tryd.ag28 : isAggB Tryd.prog 28 = some false := by kernel_rfl
theorem Tryd.sz28 : (Tryd.prog.info? 28).map (·.size) = some 1 := by kernel_rfl
theorem Tryd.is28 : (Tryd.prog.info? 28).isSome = true := by kernel_rfl
theorem Tryd.us28 : (Tryd.prog.underlying 28).isSome = true := by kernel_rfl
theorem Tryd.ag29 : isAggB Tryd.prog 29 = some false := by kernel_rfl
theorem Tryd.sz29 : (Tryd.prog.info? 29).map (·.size) = some 1 := by kernel_rfl
theorem Tryd.is29 : (Tryd.prog.info? 29).isSome = true := by kernel_rfl
theorem Tryd.us29 : (Tryd.prog.underlying 29).isSome = true := by kernel_rfl
theorem Tryd.ag30 : isAggB Tryd.prog 30 = some false := by kernel_rfl
theorem Tryd.sz30 : (Tryd.prog.info? 30).map (·.size) = some 1 := by kernel_rfl
theorem Tryd.is30 : (Tryd.prog.info? 30).isSome = true := by kernel_rfl
theorem Tryd.us30 : (Tryd.prog.underlying 30).isSome = true := by kernel_rfl
theorem Tryd.ag31 : isAggB Tryd.prog 31 = some true := by kernel_rfl
theorem Tryd.sz31 : (Tryd.prog.info? 31).map (·.size) = some 2 := by kernel_rfl
theorem Tryd.is31 : (Tryd.prog.info? 31).isSome = true := by kernel_rfl
theorem Tryd.us31 : (Tryd.prog.underlying 31).isSome = true := by kernel_rfl
theorem Tryd.ag32 : isAggB Tryd.prog 32 = some true := by kernel_rfl
theorem Tryd.sz32 : (Tryd.prog.info? 32).map (·.size) = some 8 := by kernel_rfl
theorem Tryd.is32 : (Tryd.prog.info? 32).isSome = true := by kernel_rfl
theorem Tryd.us32 : (Tryd.prog.underlying 32).isSome = true := by kernel_rfl
theorem Tryd.ag33 : isAggB Tryd.prog 33 = some false := by kernel_rfl
theorem Tryd.sz33 : (Tryd.prog.info? 33).map (·.size) = some 1 := by kernel_rfl
theorem Tryd.is33 : (Tryd.prog.info? 33).isSome = true := by kernel_rfl
theorem Tryd.us33 : (Tryd.prog.underlying 33).isSome = true := by kernel_rfl
theorem Tryd.ag34 : isAggB Tryd.prog 34 = some false := by kernel_rfl
theorem Tryd.sz34 : (Tryd.prog.info? 34).map (·.size) = some 1 := by kernel_rfl
theorem Tryd.is34 : (Tryd.prog.info? 34).isSome = true := by kernel_rfl
theorem Tryd.us34 : (Tryd.prog.underlying 34).isSome = true := by kernel_rfl
theorem Tryd.ag35 : isAggB Tryd.prog 35 = some false := by kernel_rfl
theorem Tryd.sz35 : (Tryd.prog.info? 35).map (·.size) = some 1 := by kernel_rfl
theorem Tryd.is35 : (Tryd.prog.info? 35).isSome = true := by kernel_rfl
theorem Tryd.us35 : (Tryd.prog.underlying 35).isSome = true := by kernel_rfl
theorem Tryd.ag36 : isAggB Tryd.prog 36 = some false := by kernel_rfl
theorem Tryd.sz36 : (Tryd.prog.info? 36).map (·.size) = some 1 := by kernel_rfl
theorem Tryd.is36 : (Tryd.prog.info? 36).isSome = true := by kernel_rfl
theorem Tryd.us36 : (Tryd.prog.underlying 36).isSome = true := by kernel_rfl
theorem Tryd.ag37 : isAggB Tryd.prog 37 = some false := by kernel_rfl
theorem Tryd.sz37 : (Tryd.prog.info? 37).map (·.size) = some 1 := by kernel_rfl
theorem Tryd.is37 : (Tryd.prog.info? 37).isSome = true := by kernel_rfl
theorem Tryd.us37 : (Tryd.prog.underlying 37).isSome = true := by kernel_rfl
theorem Tryd.ag38 : isAggB Tryd.prog 38 = some false := by kernel_rfl
theorem Tryd.sz38 : (Tryd.prog.info? 38).map (·.size) = some 1 := by kernel_rfl
theorem Tryd.is38 : (Tryd.prog.info? 38).isSome = true := by kernel_rfl
theorem Tryd.us38 : (Tryd.prog.underlying 38).isSome = true := by kernel_rfl
theorem Tryd.zi5_38 : (Tryd.prog.info? 5).map (fun i => (i.zero, i.size, i.bytes)) = some (some (.int .u8 0), 1, 1) := by kernel_rfl
theorem Tryd.ag39 : isAggB Tryd.prog 39 = some false := by kernel_rfl
theorem Tryd.sz39 : (Tryd.prog.info? 39).map (·.size) = some 1 := by kernel_rfl
theorem Tryd.is39 : (Tryd.prog.info? 39).isSome = true := by kernel_rfl
theorem Tryd.us39 : (Tryd.prog.underlying 39).isSome = true := by kernel_rfl
theorem Tryd.ag40 : isAggB Tryd.prog 40 = some false := by kernel_rfl
theorem Tryd.sz40 : (Tryd.prog.info? 40).map (·.size) = some 1 := by kernel_rfl
theorem Tryd.is40 : (Tryd.prog.info? 40).isSome = true := by kernel_rfl
theorem Tryd.us40 : (Tryd.prog.underlying 40).isSome = true := by kernel_rfl
theorem Tryd.ag41 : isAggB Tryd.prog 41 = some false := by kernel_rfl
theorem Tryd.sz41 : (Tryd.prog.info? 41).map (·.size) = some 1 := by kernel_rfl
theorem Tryd.is41 : (Tryd.prog.info? 41).isSome = true := by kernel_rfl
theorem Tryd.us41 : (Tryd.prog.underlying 41).isSome = true := by kernel_rfl
theorem Tryd.ag42 : isAggB Tryd.prog 42 = some false := by kernel_rfl
theorem Tryd.sz42 : (Tryd.prog.info? 42).map (·.size) = some 1 := by kernel_rfl
theorem Tryd.is42 : (Tryd.prog.info? 42).isSome = true := by kernel_rfl
theorem Tryd.us42 : (Tryd.prog.underlying 42).isSome = true := by kernel_rfl
theorem Tryd.ag43 : isAggB Tryd.prog 43 = some false := by kernel_rfl
theorem Tryd.sz43 : (Tryd.prog.info? 43).map (·.size) = some 1 := by kernel_rfl
theorem Tryd.is43 : (Tryd.prog.info? 43).isSome = true := by kernel_rfl
theorem Tryd.us43 : (Tryd.prog.underlying 43).isSome = true := by kernel_rfl
theorem Tryd.ag44 : isAggB Tryd.prog 44 = some false := by kernel_rfl
theorem Tryd.sz44 : (Tryd.prog.info? 44).map (·.size) = some 1 := by kernel_rfl
theorem Tryd.is44 : (Tryd.prog.info? 44).isSome = true := by kernel_rfl
theorem Tryd.us44 : (Tryd.prog.underlying 44).isSome = true := by kernel_rfl
theorem Tryd.ag45 : isAggB Tryd.prog 45 = some true := by kernel_rfl
theorem Tryd.sz45 : (Tryd.prog.info? 45).map (·.size) = some 64 := by kernel_rfl
theorem Tryd.is45 : (Tryd.prog.info? 45).isSome = true := by kernel_rfl
theorem Tryd.us45 : (Tryd.prog.underlying 45).isSome = true := by kernel_rfl
theorem Tryd.ag46 : isAggB Tryd.prog 46 = some false := by kernel_rfl
theorem Tryd.sz46 : (Tryd.prog.info? 46).map (·.size) = some 1 := by kernel_rfl
theorem Tryd.is46 : (Tryd.prog.info? 46).isSome = true := by kernel_rfl
theorem Tryd.us46 : (Tryd.prog.underlying 46).isSome = true := by kernel_rfl
theorem Tryd.ag47 : isAggB Tryd.prog 47 = some false := by kernel_rfl
theorem Tryd.sz47 : (Tryd.prog.info? 47).map (·.size) = some 1 := by kernel_rfl
theorem Tryd.is47 : (Tryd.prog.info? 47).isSome = true := by kernel_rfl
theorem Tryd.us47 : (Tryd.prog.underlying 47).isSome = true := by kernel_rfl
theorem Tryd.ag48 : isAggB Tryd.prog 48 = some true := by kernel_rfl
theorem Tryd.sz48 : (Tryd.prog.info? 48).map (·.size) = some 4 := by kernel_rfl
theorem Tryd.is48 : (Tryd.prog.info? 48).isSome = true := by kernel_rfl
theorem Tryd.us48 : (Tryd.prog.underlying 48).isSome = true := by kernel_rfl
theorem Tryd.off48_0 : fOff Tryd.prog 48 0 = some 0 := by kernel_rfl
theorem Tryd.off48_1 : fOff Tryd.prog 48 1 = some 1 := by kernel_rfl
theorem Tryd.off48_2 : fOff Tryd.prog 48 2 = some 2 := by kernel_rfl
theorem Tryd.off48_3 : fOff Tryd.prog 48 3 = some 3 := by kernel_rfl
theorem Tryd.ag49 : isAggB Tryd.prog 49 = some true := by kernel_rfl
theorem Tryd.sz49 : (Tryd.prog.info? 49).map (·.size) = some 4 := by kernel_rfl
theorem Tryd.is49 : (Tryd.prog.info? 49).isSome = true := by kernel_rfl
theorem Tryd.us49 : (Tryd.prog.underlying 49).isSome = true := by kernel_rfl
theorem Tryd.off49_0 : fOff Tryd.prog 49 0 = some 0 := by kernel_rfl
theorem Tryd.off49_1 : fOff Tryd.prog 49 1 = some 1 := by kernel_rfl
theorem Tryd.off49_2 : fOff Tryd.prog 49 2 = some 2 := by kernel_rfl
theorem Tryd.off49_3 : fOff Tryd.prog 49 3 = some 3 := by kernel_rfl
theorem Tryd.ag50 : isAggB Tryd.prog 50 = some true := by kernel_rfl
theorem Tryd.sz50 : (Tryd.prog.info? 50).map (·.size) = some 0 := by kernel_rfl
theorem Tryd.is50 : (Tryd.prog.info? 50).isSome = true := by kernel_rfl
theorem Tryd.us50 : (Tryd.prog.underlying 50).isSome = true := by kernel_rfl
theorem Tryd.ag51 : isAggB Tryd.prog 51 = some true := by kernel_rfl
theorem Tryd.sz51 : (Tryd.prog.info? 51).map (·.size) = some 0 := by kernel_rfl
theorem Tryd.is51 : (Tryd.prog.info? 51).isSome = true := by kernel_rfl
theorem Tryd.us51 : (Tryd.prog.underlying 51).isSome = true := by kernel_rfl
theorem Tryd.ag52 : isAggB Tryd.prog 52 = some true := by kernel_rfl
theorem Tryd.sz52 : (Tryd.prog.info? 52).map (·.size) = some 0 := by kernel_rfl
theorem Tryd.is52 : (Tryd.prog.info? 52).isSome = true := by kernel_rfl
theorem Tryd.us52 : (Tryd.prog.underlying 52).isSome = true := by kernel_rfl
theorem Tryd.ag53 : isAggB Tryd.prog 53 = some false := by kernel_rfl
theorem Tryd.sz53 : (Tryd.prog.info? 53).map (·.size) = some 1 := by kernel_rfl
theorem Tryd.is53 : (Tryd.prog.info? 53).isSome = true := by kernel_rfl
theorem Tryd.us53 : (Tryd.prog.underlying 53).isSome = true := by kernel_rfl
theorem Tryd.ag54 : isAggB Tryd.prog 54 = some false := by kernel_rfl
theorem Tryd.sz54 : (Tryd.prog.info? 54).map (·.size) = some 1 := by kernel_rfl
theorem Tryd.is54 : (Tryd.prog.info? 54).isSome = true := by kernel_rfl
theorem Tryd.us54 : (Tryd.prog.underlying 54).isSome = true := by kernel_rfl
theorem Tryd.ag55 : isAggB Tryd.prog 55 = some false := by kernel_rfl
theorem Tryd.sz55 : (Tryd.prog.info? 55).map (·.size) = some 1 := by kernel_rfl
theorem Tryd.is55 : (Tryd.prog.info? 55).isSome = true := by kernel_rfl
theorem Tryd.us55 : (Tryd.prog.underlying 55).isSome = true := by kernel_rfl
theorem Tryd.ag56 : isAggB Tryd.prog 56 = some false := by kernel_rfl
theorem Tryd.sz56 : (Tryd.prog.info? 56).map (·.size) = some 1 := by kernel_rfl
theorem Tryd.is56 : (Tryd.prog.info? 56).isSome = true := by kernel_rfl
theorem Tryd.us56 : (Tryd.prog.underlying 56).isSome = true := by kernel_rfl
theorem Tryd.ag57 : isAggB Tryd.prog 57 = some false := by kernel_rfl
theorem Tryd.sz57 : (Tryd.prog.info? 57).map (·.size) = some 1 := by kernel_rfl
theorem Tryd.is57 : (Tryd.prog.info? 57).isSome = true := by kernel_rfl
theorem Tryd.us57 : (Tryd.prog.underlying 57).isSome = true := by kernel_rfl
theorem Tryd.ag58 : isAggB Tryd.prog 58 = some false := by kernel_rfl
theorem Tryd.sz58 : (Tryd.prog.info? 58).map (·.size) = some 1 := by kernel_rfl
theorem Tryd.is58 : (Tryd.prog.info? 58).isSome = true := by kernel_rfl
theorem Tryd.us58 : (Tryd.prog.underlying 58).isSome = true := by kernel_rfl
theorem Tryd.ag59 : isAggB Tryd.prog 59 = some false := by kernel_rfl
theorem Tryd.sz59 : (Tryd.prog.info? 59).map (·.size) = some 1 := by kernel_rfl
theorem Tryd.is59 : (Tryd.prog.info? 59).isSome = true := by kernel_rfl
theorem Tryd.us59 : (Tryd.prog.underlying 59).isSome = true := by kernel_rfl
theorem Tryd.ag60 : isAggB Tryd.prog 60 = some false := by kernel_rfl
theorem Tryd.sz60 : (Tryd.prog.info? 60).map (·.size) = some 1 := by kernel_rfl
theorem Tryd.is60 : (Tryd.prog.info? 60).isSome = true := by kernel_rfl
theorem Tryd.us60 : (Tryd.prog.underlying 60).isSome = true := by kernel_rfl
theorem Tryd.ag61 : isAggB Tryd.prog 61 = some true := by kernel_rfl
theorem Tryd.sz61 : (Tryd.prog.info? 61).map (·.size) = some 11 := by kernel_rfl
theorem Tryd.is61 : (Tryd.prog.info? 61).isSome = true := by kernel_rfl
theorem Tryd.us61 : (Tryd.prog.underlying 61).isSome = true := by kernel_rfl
theorem Tryd.off61_0 : fOff Tryd.prog 61 0 = some 0 := by kernel_rfl
theorem Tryd.off61_1 : fOff Tryd.prog 61 1 = some 1 := by kernel_rfl
theorem Tryd.off61_2 : fOff Tryd.prog 61 2 = some 2 := by kernel_rfl
theorem Tryd.off61_3 : fOff Tryd.prog 61 3 = some 3 := by kernel_rfl
theorem Tryd.off61_4 : fOff Tryd.prog 61 4 = some 4 := by kernel_rfl
theorem Tryd.off61_5 : fOff Tryd.prog 61 5 = some 5 := by kernel_rfl
theorem Tryd.off61_6 : fOff Tryd.prog 61 6 = some 6 := by kernel_rfl
theorem Tryd.off61_7 : fOff Tryd.prog 61 7 = some 7 := by kernel_rfl
theorem Tryd.off61_8 : fOff Tryd.prog 61 8 = some 8 := by kernel_rfl
theorem Tryd.off61_9 : fOff Tryd.prog 61 9 = some 9 := by kernel_rfl
theorem Tryd.off61_10 : fOff Tryd.prog 61 10 = some 10 := by kernel_rfl
theorem Tryd.ag62 : isAggB Tryd.prog 62 = some true := by kernel_rfl
theorem Tryd.sz62 : (Tryd.prog.info? 62).map (·.size) = some 11 := by kernel_rfl
theorem Tryd.is62 : (Tryd.prog.info? 62).isSome = true := by kernel_rfl
theorem Tryd.us62 : (Tryd.prog.underlying 62).isSome = true := by kernel_rfl
theorem Tryd.off62_0 : fOff Tryd.prog 62 0 = some 0 := by kernel_rfl
theorem Tryd.off62_1 : fOff Tryd.prog 62 1 = some 1 := by kernel_rfl
theorem Tryd.off62_2 : fOff Tryd.prog 62 2 = some 2 := by kernel_rfl
theorem Tryd.off62_3 : fOff Tryd.prog 62 3 = some 3 := by kernel_rfl
theorem Tryd.off62_4 : fOff Tryd.prog 62 4 = some 4 := by kernel_rfl
theorem Tryd.off62_5 : fOff Tryd.prog 62 5 = some 5 := by kernel_rfl
theorem Tryd.off62_6 : fOff Tryd.prog 62 6 = some 6 := by kernel_rfl
theorem Tryd.off62_7 : fOff Tryd.prog 62 7 = some 7 := by kernel_rfl
theorem Tryd.off62_8 : fOff Tryd.prog 62 8 = some 8 := by kernel_rfl
theorem Tryd.off62_9 : fOff Tryd.prog 62 9 = some 9 := by kernel_rfl
theorem Tryd.off62_10 : fOff Tryd.prog 62 10 = some 10 := by kernel_rfl
theorem Tryd.ag63 : isAggB Tryd.prog 63 = some false := by kernel_rfl
theorem Tryd.sz63 : (Tryd.prog.info? 63).map (·.size) = some 1 := by kernel_rfl
theorem Tryd.is63 : (Tryd.prog.info? 63).isSome = true := by kernel_rfl
theorem Tryd.us63 : (Tryd.prog.underlying 63).isSome = true := by kernel_rfl
theorem Tryd.cl3 : callable Tryd.prog 3 = true := by kernel_rfl
theorem Tryd.cl4 : callable Tryd.prog 4 = true := by kernel_rfl
theorem Tryd.cl5 : callable Tryd.prog 5 = true := by kernel_rfl
theorem Tryd.cl6 : callable Tryd.prog 6 = true := by kernel_rfl
theorem Tryd.cl7 : callable Tryd.prog 7 = true := by kernel_rfl
theorem Tryd.cl8 : callable Tryd.prog 8 = true := by kernel_rfl
theorem Tryd.cl9 : callable Tryd.prog 9 = true := by kernel_rfl
theorem Tryd.cl10 : callable Tryd.prog 10 = true := by kernel_rfl
theorem Tryd.cl11 : callable Tryd.prog 11 = true := by kernel_rfl
theorem Tryd.cl12 : callable Tryd.prog 12 = true := by kernel_rfl
theorem Tryd.cl13 : callable Tryd.prog 13 = true := by kernel_rfl
theorem Tryd.cl14 : callable Tryd.prog 14 = true := by kernel_rfl
theorem Tryd.cl15 : callable Tryd.prog 15 = true := by kernel_rfl
theorem Tryd.cl16 : callable Tryd.prog 16 = true := by kernel_rfl
theorem Tryd.cl17 : callable Tryd.prog 17 = true := by kernel_rfl
theorem Tryd.cl18 : callable Tryd.prog 18 = true := by kernel_rfl
theorem Tryd.cl19 : callable Tryd.prog 19 = true := by kernel_rfl
theorem Tryd.cl20 : callable Tryd.prog 20 = true := by kernel_rfl
theorem Tryd.cl21 : callable Tryd.prog 21 = true := by kernel_rfl
theorem Tryd.cl22 : callable Tryd.prog 22 = true := by kernel_rfl
theorem Tryd.cl23 : callable Tryd.prog 23 = true := by kernel_rfl
theorem Tryd.cl24 : callable Tryd.prog 24 = true := by kernel_rfl
theorem Tryd.cl25 : callable Tryd.prog 25 = true := by kernel_rfl
theorem Tryd.cl26 : callable Tryd.prog 26 = true := by kernel_rfl
theorem Tryd.cl27 : callable Tryd.prog 27 = true := by kernel_rfl
theorem Tryd.cl28 : callable Tryd.prog 28 = true := by kernel_rfl
theorem Tryd.cl29 : callable Tryd.prog 29 = true := by kernel_rfl
theorem Tryd.cl30 : callable Tryd.prog 30 = true := by kernel_rfl
theorem Tryd.cl31 : callable Tryd.prog 31 = true := by kernel_rfl
theorem Tryd.cl32 : callable Tryd.prog 32 = true := by kernel_rfl
theorem Tryd.cl33 : callable Tryd.prog 33 = true := by kernel_rfl
theorem Tryd.cl34 : callable Tryd.prog 34 = true := by kernel_rfl
theorem Tryd.cl35 : callable Tryd.prog 35 = true := by kernel_rfl
theorem Tryd.cl55 : callable Tryd.prog 55 = true := by kernel_rfl
end Go.Proofs.YtgdicncflgffnaaDoor

