import Derived.Test.YthkpocgbinmeiaaP0
import Derived.Test.YthkpocgbinmeiaaP1
import Derived.Test.YthkpocgbinmeiaaP2
import Derived.Test.YthkpocgbinmeiaaP3
